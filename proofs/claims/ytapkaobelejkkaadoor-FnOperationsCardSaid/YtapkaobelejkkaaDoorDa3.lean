/- Calls return what the models say. -/
import Derived.Test.YtapkaobelejkkaaDoorDa2
namespace Go.Proofs.YtapkaobelejkkaaDoor
open Go.ChangeShapes Go.WideShapes Go.ChangeAt Go.RowKit
set_option linter.unusedVariables false
set_option linter.unusedSimpArgs false

set_option maxHeartbeats 4000000 in
theorem c_impl_PanelDo {x0 : List Bool} {x1 : Int} {x2 : Int} {x3 : Bool} {x4 : Int} {x5 : Int} {x6 : Int} {x7 : Int} {x8 : Bool} {A0 : Option Addr} {n0 c0 : Nat} {w : World} {r : List Bool × Int × Int × Bool × Int × Bool} (h0 : Rt w 1 eB A0 n0 c0 x0) (hM : m_impl_PanelDo x0 x1 x2 x3 x4 x5 x6 x7 x8 = some r) :
    Calls Tryd.prog 7 #[.agg #[.slice A0 n0 c0, .int .i64 x1, .int .i64 x2, .bool x3, .int .i64 x4], .agg #[.int .i64 x5, .int .i64 x6, .int .i64 x7, .bool x8]] w (fun e w' => ∃ (B0 : Option Addr) (N0 D0 : Nat), e = .returned (.tuple #[.agg #[.slice B0 N0 D0, .int .i64 r.2.1, .int .i64 r.2.2.1, .bool r.2.2.2.1, .int .i64 r.2.2.2.2.1], .bool r.2.2.2.2.2]) ∧ N0 = r.1.length ∧ St w w' [.row 4 1 (.slice B0 N0 D0) N0 (r.1.flatMap eB)]) := by
  obtain rfl := h0.len
  unfold m_impl_PanelDo at hM
  refine calls_gw Tryd.func7 Tryd.ntmps7 rfl [(0, .agg #[.slice A0 x0.length c0, .int .i64 x1, .int .i64 x2, .bool x3, .int .i64 x4]), (1, .agg #[.int .i64 x5, .int .i64 x6, .int .i64 x7, .bool x8])] ⟨rfl, rfl, trivial⟩ rfl ?_
  intro a hF
  have S := St.nil w
  refine wp_seq ?_
  refine wp_region_lit ?_
  refine op_new (cs := #[.slice A0 x0.length c0, .int .i64 x1, .int .i64 x2, .bool x3, .int .i64 x4]) rfl rfl hF rfl S (run_box rfl (hF.ev rfl) rfl) ?_; clear hF S; intro a g101 u hF S
  refine op_new (cs := #[.int .i64 x5, .int .i64 x6, .int .i64 x7, .bool x8]) rfl rfl hF rfl S (run_box rfl (hF.ev rfl) rfl) ?_; clear hF S; intro a g102 u hF S
  refine op_new (cs := #[.slice none 0 0, .int .i64 0, .int .i64 0, .bool false, .int .i64 0]) rfl rfl hF rfl S (run_allocZ rfl zr25) ?_; clear hF S; intro a g103 u hF S
  refine op_val (v := .bool false) rfl rfl hF rfl (run_assign rfl rfl) ?_; clear hF; intro a hF
  refine wpList_nil ?_
  refine wp_seq ?_
  refine wp_seq ?_
  refine wp_region_lit ?_
  refine op_val (v := .agg #[.slice A0 x0.length c0, .int .i64 x1, .int .i64 x2, .bool x3, .int .i64 x4]) rfl rfl hF rfl (run_loadN rfl ag25 (hF.ev rfl) rfl ((S.free 2 rfl).cells 0 #[.slice A0 x0.length c0, .int .i64 x1, .int .i64 x2, .bool x3, .int .i64 x4] rfl)) ?_; clear hF; intro a hF
  obtain ⟨p104, h104, hM⟩ := bind_ex hM
  refine op_call rfl rfl hF rfl (run_call (vs := [.agg #[.slice A0 x0.length c0, .int .i64 x1, .int .i64 x2, .bool x3, .int .i64 x4]]) rfl rfl co10 ⟨(hF.ev rfl), trivial⟩) (c_impl_PanelValid (x0 := x0) (x1 := x1) (x2 := x2) (x3 := x3) (x4 := x4) ⟨(S.rc0 h0.rc), rfl⟩ h104) ?_
  rintro e u ⟨rfl, T⟩
  refine ⟨_, rfl, ?_⟩
  clear hF; intro a hF
  replace S := S.call0 T; clear T
  refine op_val (v := .bool (!p104)) rfl rfl hF rfl (run_not rfl (hF.ev rfl)) ?_; clear hF; intro a hF
  refine wpList_nil ?_
  cases hc105 : (p104)
  · replace hM := bif_f hc105 hM
    refine cond_t hF rfl (not_t hc105) ?_
    refine wp_seq ?_
    refine wp_region_lit ?_
    refine op_val (v := .agg #[.slice none 0 0, .int .i64 0, .int .i64 0, .bool false, .int .i64 0]) rfl rfl hF rfl (run_build (vs := []) rfl trivial (bd25 )) ?_; clear hF; intro a hF
    refine op_do rfl rfl (run_store (cs' := #[.slice none 0 0, .int .i64 0, .int .i64 0, .bool false, .int .i64 0]) rfl sz25 (hF.ev rfl) (hF.ev rfl) rfl rfl rfl (S.free 0 rfl) rfl rfl) ?_; replace S := S.put 0 rfl (#[.slice none 0 0, .int .i64 0, .int .i64 0, .bool false, .int .i64 0])
    generalize World.setRow _ _ _ = u at S ⊢
    refine op_val (v := .bool false) rfl rfl hF rfl (run_assign rfl rfl) ?_; clear hF; intro a hF
    refine wpList_nil ?_
    refine wp_ret ?_
    repeat with_reducible (first | refine then_ret ?_ | refine in_ret ?_ | refine in_nrm ?_)
    refine ret2_gw (.inl rfl) hF rfl (res_cell (hF.ev rfl) (res_loadN ag25 rfl (S.cells 0 rfl 0 #[.slice none 0 0, .int .i64 0, .int .i64 0, .bool false, .int .i64 0] rfl))) (res_tmp (hF.ev rfl)) ?_
    obtain rfl := Option.some.inj hM
    replace S := S.nilrow 4 1
    exact ⟨none, 0, 0, rfl, rfl, S.sel [0] rfl rfl⟩
  · replace hM := bif_t hc105 hM
    refine cond_f hF rfl (not_f hc105) ?_
    refine wp_skip ?_
    refine wp_seq ?_
    refine wp_region_lit ?_
    refine op_val (v := .agg #[.slice A0 x0.length c0, .int .i64 x1, .int .i64 x2, .bool x3, .int .i64 x4]) rfl rfl hF rfl (run_loadN rfl ag25 (hF.ev rfl) rfl ((S.free 2 rfl).cells 0 #[.slice A0 x0.length c0, .int .i64 x1, .int .i64 x2, .bool x3, .int .i64 x4] rfl)) ?_; clear hF; intro a hF
    obtain ⟨p106, h106, hM⟩ := bind_ex hM
    refine op_call rfl rfl hF rfl (run_call (vs := [.agg #[.slice A0 x0.length c0, .int .i64 x1, .int .i64 x2, .bool x3, .int .i64 x4]]) rfl rfl co27 ⟨(hF.ev rfl), trivial⟩) (c_impl_Panel_clone (x0 := x0) (x1 := x1) (x2 := x2) (x3 := x3) (x4 := x4) ⟨(S.rc0 h0.rc), rfl⟩ h106) ?_
    rintro e u ⟨B107, n108, d109, rfl, rfl, T⟩
    refine ⟨_, rfl, ?_⟩
    clear hF; intro a hF
    replace S := S.call1 T; clear T
    refine op_new (cs := #[.slice none 0 0, .int .i64 0, .int .i64 0, .bool false, .int .i64 0]) rfl rfl hF rfl S (run_allocZ rfl zr25) ?_; clear hF S; intro a g110 u hF S
    refine op_do rfl rfl (run_store (cs' := #[.slice B107 p106.1.length d109, .int .i64 p106.2.1, .int .i64 p106.2.2.1, .bool p106.2.2.2.1, .int .i64 p106.2.2.2.2]) rfl sz25 (hF.ev rfl) (hF.ev rfl) rfl rfl rfl (S.free 0 rfl) rfl rfl) ?_; replace S := S.put 0 rfl (#[.slice B107 p106.1.length d109, .int .i64 p106.2.1, .int .i64 p106.2.2.1, .bool p106.2.2.2.1, .int .i64 p106.2.2.2.2])
    generalize World.setRow _ _ _ = u at S ⊢
    refine wpList_nil ?_
    refine wp_seq ?_
    refine wp_seq ?_
    refine wp_region_lit ?_
    refine op_val (v := .pointer (some ⟨g102, 0, none⟩)) rfl rfl hF rfl (run_fieldAddr rfl fl27_0 (hF.ev rfl) rfl) ?_; clear hF; intro a hF
    refine op_val (v := .int .i64 x5) rfl rfl hF rfl (run_load1 rfl one3 (hF.ev rfl) ((S.free 3 rfl).cell rfl)) ?_; clear hF; intro a hF
    refine wpList_nil ?_
    refine wp_block ?_
    refine wp_seq ?_
    refine wp_region_lit ?_
    refine op_val (v := .bool (x5 == 0)) rfl rfl hF rfl (run_eql (hF.ev rfl) rfl rfl) ?_; clear hF; intro a hF
    refine op_val (v := .bool (x5 == 0)) rfl rfl hF rfl (run_assign rfl (hF.ev rfl)) ?_; clear hF; intro a hF
    refine wpList_nil ?_
    obtain ⟨o112, hM115, hM⟩ := bind_ex hM
    refine wp_cut (fun a u => ∃ (p111 : List Bool × Int × Int × Bool × Int) (B113 : Option Addr) (d114 : Nat), (Sum.inl p111) = o112 ∧ Fr a 129 [(4, .pointer (some ⟨g103, 0, none⟩)), (5, .bool false), (6, .pointer (some ⟨g110, 0, none⟩))] ∧ St w u [.box g110 25 #[.slice B113 p111.1.length d114, .int .i64 p111.2.1, .int .i64 p111.2.2.1, .bool p111.2.2.2.1, .int .i64 p111.2.2.2.2], .box g103 25 #[.slice none 0 0, .int .i64 0, .int .i64 0, .bool false, .int .i64 0], .box g102 27 #[.int .i64 x5, .int .i64 x6, .int .i64 x7, .bool x8], .box g101 25 #[.slice A0 x0.length c0, .int .i64 x1, .int .i64 x2, .bool x3, .int .i64 x4], .row 4 1 (.slice B113 p111.1.length d114) p111.1.length (p111.1.flatMap eB)]) ?_ ?_
    · have _ := trivial
      cases hc116 : (x5 == 0)
      · replace hM115 := bif_f hc116 hM115
        refine cond_f hF rfl hc116 ?_
        refine wp_seq ?_
        refine wp_region_lit ?_
        refine op_val (v := .bool (x5 == 1)) rfl rfl hF rfl (run_eql (hF.ev rfl) rfl rfl) ?_; clear hF; intro a hF
        refine op_val (v := .bool (x5 == 1)) rfl rfl hF rfl (run_assign rfl (hF.ev rfl)) ?_; clear hF; intro a hF
        refine wpList_nil ?_
        obtain ⟨o118, hM121, hM115⟩ := bind_ex hM115
        refine wp_cut (fun a u => ∃ (p117 : List Bool × Int × Int × Bool × Int) (B119 : Option Addr) (d120 : Nat), (Sum.inl p117) = o118 ∧ Fr a 129 [(4, .pointer (some ⟨g103, 0, none⟩)), (5, .bool false), (6, .pointer (some ⟨g110, 0, none⟩))] ∧ St w u [.box g110 25 #[.slice B119 p117.1.length d120, .int .i64 p117.2.1, .int .i64 p117.2.2.1, .bool p117.2.2.2.1, .int .i64 p117.2.2.2.2], .box g103 25 #[.slice none 0 0, .int .i64 0, .int .i64 0, .bool false, .int .i64 0], .box g102 27 #[.int .i64 x5, .int .i64 x6, .int .i64 x7, .bool x8], .box g101 25 #[.slice A0 x0.length c0, .int .i64 x1, .int .i64 x2, .bool x3, .int .i64 x4], .row 4 1 (.slice B119 p117.1.length d120) p117.1.length (p117.1.flatMap eB)]) ?_ ?_
        · have _ := trivial
          cases hc122 : (x5 == 1)
          · replace hM121 := bif_f hc122 hM121
            refine cond_f hF rfl hc122 ?_
            refine wp_seq ?_
            refine wp_region_lit ?_
            refine op_val (v := .bool (x5 == 2)) rfl rfl hF rfl (run_eql (hF.ev rfl) rfl rfl) ?_; clear hF; intro a hF
            refine op_val (v := .bool (x5 == 2)) rfl rfl hF rfl (run_assign rfl (hF.ev rfl)) ?_; clear hF; intro a hF
            refine wpList_nil ?_
            obtain ⟨o124, hM127, hM121⟩ := bind_ex hM121
            refine wp_cut (fun a u => ∃ (p123 : List Bool × Int × Int × Bool × Int) (B125 : Option Addr) (d126 : Nat), (Sum.inl p123) = o124 ∧ Fr a 129 [(4, .pointer (some ⟨g103, 0, none⟩)), (5, .bool false), (6, .pointer (some ⟨g110, 0, none⟩))] ∧ St w u [.box g110 25 #[.slice B125 p123.1.length d126, .int .i64 p123.2.1, .int .i64 p123.2.2.1, .bool p123.2.2.2.1, .int .i64 p123.2.2.2.2], .box g103 25 #[.slice none 0 0, .int .i64 0, .int .i64 0, .bool false, .int .i64 0], .box g102 27 #[.int .i64 x5, .int .i64 x6, .int .i64 x7, .bool x8], .box g101 25 #[.slice A0 x0.length c0, .int .i64 x1, .int .i64 x2, .bool x3, .int .i64 x4], .row 4 1 (.slice B125 p123.1.length d126) p123.1.length (p123.1.flatMap eB)]) ?_ ?_
            · have _ := trivial
              cases hc128 : (x5 == 2)
              · replace hM127 := bif_f hc128 hM127
                refine cond_f hF rfl hc128 ?_
                refine wp_seq ?_
                refine wp_region_lit ?_
                refine op_val (v := .bool (x5 == 3)) rfl rfl hF rfl (run_eql (hF.ev rfl) rfl rfl) ?_; clear hF; intro a hF
                refine op_val (v := .bool (x5 == 3)) rfl rfl hF rfl (run_assign rfl (hF.ev rfl)) ?_; clear hF; intro a hF
                refine wpList_nil ?_
                cases hc129 : (x5 == 3)
                · replace hM127 := bif_f hc129 hM127
                  refine cond_f hF rfl hc129 ?_
                  refine wp_seq ?_
                  refine wp_region_lit ?_
                  refine op_val (v := .agg #[.slice B107 p106.1.length d109, .int .i64 p106.2.1, .int .i64 p106.2.2.1, .bool p106.2.2.2.1, .int .i64 p106.2.2.2.2]) rfl rfl hF rfl (run_loadN rfl ag25 (hF.ev rfl) rfl ((S.free 0 rfl).cells 0 #[.slice B107 p106.1.length d109, .int .i64 p106.2.1, .int .i64 p106.2.2.1, .bool p106.2.2.2.1, .int .i64 p106.2.2.2.2] rfl)) ?_; clear hF; intro a hF
                  refine op_do rfl rfl (run_store (cs' := #[.slice B107 p106.1.length d109, .int .i64 p106.2.1, .int .i64 p106.2.2.1, .bool p106.2.2.2.1, .int .i64 p106.2.2.2.2]) rfl sz25 (hF.ev rfl) (hF.ev rfl) rfl rfl rfl (S.free 2 rfl) rfl rfl) ?_; replace S := S.put 2 rfl (#[.slice B107 p106.1.length d109, .int .i64 p106.2.1, .int .i64 p106.2.2.1, .bool p106.2.2.2.1, .int .i64 p106.2.2.2.2])
                  generalize World.setRow _ _ _ = u at S ⊢
                  refine op_val (v := .bool false) rfl rfl hF rfl (run_assign rfl rfl) ?_; clear hF; intro a hF
                  refine wpList_nil ?_
                  refine wp_ret ?_
                  repeat with_reducible (first | refine then_ret ?_ | refine in_ret ?_ | refine in_nrm ?_)
                  refine ret2_gw (.inl rfl) hF rfl (res_cell (hF.ev rfl) (res_loadN ag25 rfl (S.cells 2 rfl 0 #[.slice B107 p106.1.length d109, .int .i64 p106.2.1, .int .i64 p106.2.2.1, .bool p106.2.2.2.1, .int .i64 p106.2.2.2.2] rfl))) (res_tmp (hF.ev rfl)) ?_
                  obtain rfl := Option.some.inj hM127
                  obtain rfl := Option.some.inj hM121
                  obtain rfl := Option.some.inj hM115
                  obtain rfl := Option.some.inj hM
                  exact ⟨B107, p106.1.length, d109, rfl, rfl, S.sel [1] rfl rfl⟩
                · replace hM127 := bif_t hc129 hM127
                  refine cond_t hF rfl hc129 ?_
                  refine wp_seq ?_
                  refine wp_region_lit ?_
                  refine op_val (v := .pointer (some ⟨g101, 1, none⟩)) rfl rfl hF rfl (run_fieldAddr rfl fl25_1 (hF.ev rfl) rfl) ?_; clear hF; intro a hF
                  refine op_val (v := .int .i64 x1) rfl rfl hF rfl (run_load1 rfl one3 (hF.ev rfl) ((S.free 4 rfl).cell rfl)) ?_; clear hF; intro a hF
                  refine op_val (v := .bool (x1 != (-1))) rfl rfl hF rfl (run_neq (hF.ev rfl) rfl rfl) ?_; clear hF; intro a hF
                  refine wpList_nil ?_
                  obtain ⟨o131, hM134, hM127⟩ := bind_ex hM127
                  refine wp_cut (fun a u => ∃ (p130 : List Bool × Int × Int × Bool × Int) (B132 : Option Addr) (d133 : Nat), p130 = o131 ∧ Fr a 129 [(4, .pointer (some ⟨g103, 0, none⟩)), (5, .bool false), (6, .pointer (some ⟨g110, 0, none⟩))] ∧ St w u [.box g110 25 #[.slice B132 p130.1.length d133, .int .i64 p130.2.1, .int .i64 p130.2.2.1, .bool p130.2.2.2.1, .int .i64 p130.2.2.2.2], .box g103 25 #[.slice none 0 0, .int .i64 0, .int .i64 0, .bool false, .int .i64 0], .box g102 27 #[.int .i64 x5, .int .i64 x6, .int .i64 x7, .bool x8], .box g101 25 #[.slice A0 x0.length c0, .int .i64 x1, .int .i64 x2, .bool x3, .int .i64 x4], .row 4 1 (.slice B132 p130.1.length d133) p130.1.length (p130.1.flatMap eB)]) ?_ ?_
                  · have _ := trivial
                    cases hc135 : (x1 != (-1))
                    · replace hM134 := bif_f hc135 hM134
                      refine cond_f hF rfl hc135 ?_
                      refine wp_skip ?_
                      obtain rfl := Option.some.inj hM134
                      exact ⟨(p106.1, p106.2.1, p106.2.2.1, p106.2.2.2.1, p106.2.2.2.2), B107, d109, rfl, hF.keep _ ⟨rfl, rfl, rfl, trivial⟩, S.sel [0, 2, 3, 4, 1] rfl rfl⟩
                    · replace hM134 := bif_t hc135 hM134
                      refine cond_t hF rfl hc135 ?_
                      refine wp_seq ?_
                      refine wp_region_lit ?_
                      refine op_val (v := .pointer (some ⟨g110, 4, none⟩)) rfl rfl hF rfl (run_fieldAddr rfl fl25_4 (hF.ev rfl) rfl) ?_; clear hF; intro a hF
                      refine op_val (v := .int .i64 p106.2.2.2.2) rfl rfl hF rfl (run_load1 rfl one3 (hF.ev rfl) ((S.free 0 rfl).cell rfl)) ?_; clear hF; intro a hF
                      refine op_val (v := .int .i64 (w64 (p106.2.2.2.2 - 1))) rfl rfl hF rfl (run_sub (z := w64 (p106.2.2.2.2 - 1)) (hF.ev rfl) rfl rfl rfl) ?_; clear hF; intro a hF
                      refine op_val (v := .pointer (some ⟨g110, 4, none⟩)) rfl rfl hF rfl (run_fieldAddr rfl fl25_4 (hF.ev rfl) rfl) ?_; clear hF; intro a hF
                      refine op_do rfl rfl (run_store (cs' := #[.slice B107 p106.1.length d109, .int .i64 p106.2.1, .int .i64 p106.2.2.1, .bool p106.2.2.2.1, .int .i64 (w64 (p106.2.2.2.2 - 1))]) rfl sz3 (hF.ev rfl) (hF.ev rfl) rfl rfl rfl (S.free 0 rfl) rfl rfl) ?_; replace S := S.put 0 rfl (#[.slice B107 p106.1.length d109, .int .i64 p106.2.1, .int .i64 p106.2.2.1, .bool p106.2.2.2.1, .int .i64 (w64 (p106.2.2.2.2 - 1))])
                      generalize World.setRow _ _ _ = u at S ⊢
                      refine wpList_nil ?_
                      refine wp_seq ?_
                      refine wp_region_lit ?_
                      refine op_val (v := .pointer (some ⟨g110, 4, none⟩)) rfl rfl hF rfl (run_fieldAddr rfl fl25_4 (hF.ev rfl) rfl) ?_; clear hF; intro a hF
                      refine op_val (v := .int .i64 (w64 (p106.2.2.2.2 - 1))) rfl rfl hF rfl (run_load1 rfl one3 (hF.ev rfl) ((S.free 0 rfl).cell rfl)) ?_; clear hF; intro a hF
                      refine op_val (v := .bool ((w64 (p106.2.2.2.2 - 1)) == 0)) rfl rfl hF rfl (run_eql (hF.ev rfl) rfl rfl) ?_; clear hF; intro a hF
                      refine wpList_nil ?_
                      obtain ⟨o137, hM140, hM134⟩ := bind_ex hM134
                      refine wp_cut (fun a u => ∃ (p136 : List Bool × Int × Int × Bool × Int) (B138 : Option Addr) (d139 : Nat), p136 = o137 ∧ Fr a 129 [(4, .pointer (some ⟨g103, 0, none⟩)), (5, .bool false), (6, .pointer (some ⟨g110, 0, none⟩))] ∧ St w u [.box g110 25 #[.slice B138 p136.1.length d139, .int .i64 p136.2.1, .int .i64 p136.2.2.1, .bool p136.2.2.2.1, .int .i64 p136.2.2.2.2], .box g103 25 #[.slice none 0 0, .int .i64 0, .int .i64 0, .bool false, .int .i64 0], .box g102 27 #[.int .i64 x5, .int .i64 x6, .int .i64 x7, .bool x8], .box g101 25 #[.slice A0 x0.length c0, .int .i64 x1, .int .i64 x2, .bool x3, .int .i64 x4], .row 4 1 (.slice B138 p136.1.length d139) p136.1.length (p136.1.flatMap eB)]) ?_ ?_
                      · have _ := trivial
                        cases hc141 : ((w64 (p106.2.2.2.2 - 1)) == 0)
                        · replace hM140 := bif_f hc141 hM140
                          refine cond_f hF rfl hc141 ?_
                          refine wp_skip ?_
                          obtain rfl := Option.some.inj hM140
                          exact ⟨(p106.1, p106.2.1, p106.2.2.1, p106.2.2.2.1, w64 (p106.2.2.2.2 - 1)), B107, d109, rfl, hF.keep _ ⟨rfl, rfl, rfl, trivial⟩, S.sel [0, 2, 3, 4, 1] rfl rfl⟩
                        · replace hM140 := bif_t hc141 hM140
                          refine cond_t hF rfl hc141 ?_
                          refine wp_region_lit ?_
                          obtain ⟨p142, h142, hM140⟩ := bind_ex hM140
                          refine op_call rfl rfl hF rfl (run_call (vs := [.pointer (some ⟨g110, 0, none⟩)]) rfl rfl co28 ⟨(hF.ev rfl), trivial⟩) (c_impl_Panel_unselect (x0 := p106.1) (x1 := p106.2.1) (x2 := p106.2.2.1) (x3 := p106.2.2.2.1) (x4 := w64 (p106.2.2.2.2 - 1)) rfl (show St w _ [.box g110 25 #[.slice B107 p106.1.length d109, .int .i64 p106.2.1, .int .i64 p106.2.2.1, .bool p106.2.2.2.1, .int .i64 (w64 (p106.2.2.2.2 - 1))], .row 4 1 (.slice B107 p106.1.length d109) p106.1.length (p106.1.flatMap eB), .box g103 25 #[.slice none 0 0, .int .i64 0, .int .i64 0, .bool false, .int .i64 0], .box g102 27 #[.int .i64 x5, .int .i64 x6, .int .i64 x7, .bool x8], .box g101 25 #[.slice A0 x0.length c0, .int .i64 x1, .int .i64 x2, .bool x3, .int .i64 x4]] from S.sel [0, 1, 2, 3, 4] rfl rfl) h142) ?_
                          rintro e u ⟨B143, n144, d145, rfl, rfl, T⟩
                          refine ⟨_, rfl, ?_⟩
                          clear hF; intro a hF
                          clear S; have S := T; clear T
                          refine wpList_nil ?_
                          obtain rfl := Option.some.inj hM140
                          exact ⟨(p142.1, p142.2.1, p142.2.2.1, p142.2.2.2.1, p142.2.2.2.2), B143, d145, rfl, hF.keep _ ⟨rfl, rfl, rfl, trivial⟩, S.sel [0, 2, 3, 4, 1] rfl rfl⟩
                      · rintro a u ⟨p136, B138, d139, rfl, hF, S⟩
                        obtain rfl := Option.some.inj hM134
                        exact ⟨(p136.1, p136.2.1, p136.2.2.1, p136.2.2.2.1, p136.2.2.2.2), B138, d139, rfl, hF.keep _ ⟨rfl, rfl, rfl, trivial⟩, S.sel [0, 1, 2, 3, 4] rfl rfl⟩
                  · rintro a u ⟨p130, B132, d133, rfl, hF, S⟩
                    obtain rfl := Option.some.inj hM127
                    exact ⟨(p130.1, p130.2.1, p130.2.2.1, p130.2.2.2.1, p130.2.2.2.2), B132, d133, rfl, hF.keep _ ⟨rfl, rfl, rfl, trivial⟩, S.sel [0, 1, 2, 3, 4] rfl rfl⟩
              · replace hM127 := bif_t hc128 hM127
                refine cond_t hF rfl hc128 ?_
                refine wp_seq ?_
                refine wp_seq ?_
                refine wp_region_lit ?_
                refine op_val (v := .pointer (some ⟨g101, 1, none⟩)) rfl rfl hF rfl (run_fieldAddr rfl fl25_1 (hF.ev rfl) rfl) ?_; clear hF; intro a hF
                refine op_val (v := .int .i64 x1) rfl rfl hF rfl (run_load1 rfl one3 (hF.ev rfl) ((S.free 4 rfl).cell rfl)) ?_; clear hF; intro a hF
                refine op_val (v := .bool (x1 == (-1))) rfl rfl hF rfl (run_eql (hF.ev rfl) rfl rfl) ?_; clear hF; intro a hF
                refine op_val (v := .bool (x1 == (-1))) rfl rfl hF rfl (run_move rfl (hF.ev rfl)) ?_; clear hF; intro a hF
                refine op_gv (v := .pointer (some ⟨g102, 1, none⟩)) rfl rfl hF rfl (yf (gw_yield hF rfl rfl rfl)) (fun hg => (run_fieldAddr rfl fl27_1 (hF.ev rfl) rfl)) ?_; clear hF; intro a hF
                refine op_gv (v := .int .i64 x6) rfl rfl hF rfl (yf (gw_yield hF rfl rfl rfl)) (fun hg => (run_load1 rfl one3 ((hF.ev rfl).trans (gv_t hg)) ((S.free 3 rfl).cell rfl))) ?_; clear hF; intro a hF
                refine op_gv (v := .pointer (some ⟨g101, 1, none⟩)) rfl rfl hF rfl (yf (gw_yield hF rfl rfl rfl)) (fun hg => (run_fieldAddr rfl fl25_1 (hF.ev rfl) rfl)) ?_; clear hF; intro a hF
                refine op_gv (v := .int .i64 x1) rfl rfl hF rfl (yf (gw_yield hF rfl rfl rfl)) (fun hg => (run_load1 rfl one3 ((hF.ev rfl).trans (gv_t hg)) ((S.free 4 rfl).cell rfl))) ?_; clear hF; intro a hF
                refine op_gv (v := .bool (x6 != x1)) rfl rfl hF rfl (yf (gw_yield hF rfl rfl rfl)) (fun hg => (run_neq ((hF.ev rfl).trans (gv_t hg)) ((hF.ev rfl).trans (gv_t hg)) rfl)) ?_; clear hF; intro a hF
                refine op_val (v := .bool ((x1 == (-1)) || (x6 != x1))) rfl rfl hF rfl (run_pick_or rfl (hF.ev rfl) rfl (fun hp => ((hF.ev rfl).trans (gv_t (not_t hp))))) ?_; clear hF; intro a hF
                refine wpList_nil ?_
                cases hc146 : ((x1 == (-1)) || (x6 != x1))
                · replace hM127 := bif_f hc146 hM127
                  refine cond_f hF rfl hc146 ?_
                  refine wp_skip ?_
                  refine wp_region_lit ?_
                  obtain ⟨p147, h147, hM127⟩ := bind_ex hM127
                  refine op_call rfl rfl hF rfl (run_call (vs := [.pointer (some ⟨g110, 0, none⟩)]) rfl rfl co28 ⟨(hF.ev rfl), trivial⟩) (c_impl_Panel_unselect (x0 := p106.1) (x1 := p106.2.1) (x2 := p106.2.2.1) (x3 := p106.2.2.2.1) (x4 := p106.2.2.2.2) rfl (show St w _ [.box g110 25 #[.slice B107 p106.1.length d109, .int .i64 p106.2.1, .int .i64 p106.2.2.1, .bool p106.2.2.2.1, .int .i64 p106.2.2.2.2], .row 4 1 (.slice B107 p106.1.length d109) p106.1.length (p106.1.flatMap eB), .box g103 25 #[.slice none 0 0, .int .i64 0, .int .i64 0, .bool false, .int .i64 0], .box g102 27 #[.int .i64 x5, .int .i64 x6, .int .i64 x7, .bool x8], .box g101 25 #[.slice A0 x0.length c0, .int .i64 x1, .int .i64 x2, .bool x3, .int .i64 x4]] from S.sel [0, 1, 2, 3, 4] rfl rfl) h147) ?_
                  rintro e u ⟨B148, n149, d150, rfl, rfl, T⟩
                  refine ⟨_, rfl, ?_⟩
                  clear hF; intro a hF
                  clear S; have S := T; clear T
                  refine wpList_nil ?_
                  obtain rfl := Option.some.inj hM127
                  exact ⟨(p147.1, p147.2.1, p147.2.2.1, p147.2.2.2.1, p147.2.2.2.2), B148, d150, rfl, hF.keep _ ⟨rfl, rfl, rfl, trivial⟩, S.sel [0, 2, 3, 4, 1] rfl rfl⟩
                · replace hM127 := bif_t hc146 hM127
                  refine cond_t hF rfl hc146 ?_
                  refine wp_seq ?_
                  refine wp_region_lit ?_
                  refine op_val (v := .agg #[.slice B107 p106.1.length d109, .int .i64 p106.2.1, .int .i64 p106.2.2.1, .bool p106.2.2.2.1, .int .i64 p106.2.2.2.2]) rfl rfl hF rfl (run_loadN rfl ag25 (hF.ev rfl) rfl ((S.free 0 rfl).cells 0 #[.slice B107 p106.1.length d109, .int .i64 p106.2.1, .int .i64 p106.2.2.1, .bool p106.2.2.2.1, .int .i64 p106.2.2.2.2] rfl)) ?_; clear hF; intro a hF
                  refine op_do rfl rfl (run_store (cs' := #[.slice B107 p106.1.length d109, .int .i64 p106.2.1, .int .i64 p106.2.2.1, .bool p106.2.2.2.1, .int .i64 p106.2.2.2.2]) rfl sz25 (hF.ev rfl) (hF.ev rfl) rfl rfl rfl (S.free 2 rfl) rfl rfl) ?_; replace S := S.put 2 rfl (#[.slice B107 p106.1.length d109, .int .i64 p106.2.1, .int .i64 p106.2.2.1, .bool p106.2.2.2.1, .int .i64 p106.2.2.2.2])
                  generalize World.setRow _ _ _ = u at S ⊢
                  refine op_val (v := .bool false) rfl rfl hF rfl (run_assign rfl rfl) ?_; clear hF; intro a hF
                  refine wpList_nil ?_
                  refine wp_ret ?_
                  repeat with_reducible (first | refine then_ret ?_ | refine in_ret ?_ | refine in_nrm ?_)
                  refine ret2_gw (.inl rfl) hF rfl (res_cell (hF.ev rfl) (res_loadN ag25 rfl (S.cells 2 rfl 0 #[.slice B107 p106.1.length d109, .int .i64 p106.2.1, .int .i64 p106.2.2.1, .bool p106.2.2.2.1, .int .i64 p106.2.2.2.2] rfl))) (res_tmp (hF.ev rfl)) ?_
                  obtain rfl := Option.some.inj hM127
                  obtain rfl := Option.some.inj hM121
                  obtain rfl := Option.some.inj hM115
                  obtain rfl := Option.some.inj hM
                  exact ⟨B107, p106.1.length, d109, rfl, rfl, S.sel [1] rfl rfl⟩
            · rintro a u ⟨p123, B125, d126, rfl, hF, S⟩
              replace hM121 := elim_l hM121
              obtain rfl := Option.some.inj hM121
              exact ⟨(p123.1, p123.2.1, p123.2.2.1, p123.2.2.2.1, p123.2.2.2.2), B125, d126, rfl, hF.keep _ ⟨rfl, rfl, rfl, trivial⟩, S.sel [0, 1, 2, 3, 4] rfl rfl⟩
          · replace hM121 := bif_t hc122 hM121
            refine cond_t hF rfl hc122 ?_
            refine wp_seq ?_
            refine wp_seq ?_
            refine wp_region_lit ?_
            refine op_val (v := .pointer (some ⟨g101, 1, none⟩)) rfl rfl hF rfl (run_fieldAddr rfl fl25_1 (hF.ev rfl) rfl) ?_; clear hF; intro a hF
            refine op_val (v := .int .i64 x1) rfl rfl hF rfl (run_load1 rfl one3 (hF.ev rfl) ((S.free 4 rfl).cell rfl)) ?_; clear hF; intro a hF
            refine op_val (v := .bool (x1 == (-1))) rfl rfl hF rfl (run_eql (hF.ev rfl) rfl rfl) ?_; clear hF; intro a hF
            refine op_val (v := .bool (x1 == (-1))) rfl rfl hF rfl (run_move rfl (hF.ev rfl)) ?_; clear hF; intro a hF
            refine op_gv (v := .pointer (some ⟨g102, 1, none⟩)) rfl rfl hF rfl (yf (gw_yield hF rfl rfl rfl)) (fun hg => (run_fieldAddr rfl fl27_1 (hF.ev rfl) rfl)) ?_; clear hF; intro a hF
            refine op_gv (v := .int .i64 x6) rfl rfl hF rfl (yf (gw_yield hF rfl rfl rfl)) (fun hg => (run_load1 rfl one3 ((hF.ev rfl).trans (gv_t hg)) ((S.free 3 rfl).cell rfl))) ?_; clear hF; intro a hF
            refine op_gv (v := .pointer (some ⟨g101, 1, none⟩)) rfl rfl hF rfl (yf (gw_yield hF rfl rfl rfl)) (fun hg => (run_fieldAddr rfl fl25_1 (hF.ev rfl) rfl)) ?_; clear hF; intro a hF
            refine op_gv (v := .int .i64 x1) rfl rfl hF rfl (yf (gw_yield hF rfl rfl rfl)) (fun hg => (run_load1 rfl one3 ((hF.ev rfl).trans (gv_t hg)) ((S.free 4 rfl).cell rfl))) ?_; clear hF; intro a hF
            refine op_gv (v := .bool (x6 != x1)) rfl rfl hF rfl (yf (gw_yield hF rfl rfl rfl)) (fun hg => (run_neq ((hF.ev rfl).trans (gv_t hg)) ((hF.ev rfl).trans (gv_t hg)) rfl)) ?_; clear hF; intro a hF
            refine op_val (v := .bool ((x1 == (-1)) || (x6 != x1))) rfl rfl hF rfl (run_pick_or rfl (hF.ev rfl) rfl (fun hp => ((hF.ev rfl).trans (gv_t (not_t hp))))) ?_; clear hF; intro a hF
            refine op_val (v := .bool ((x1 == (-1)) || (x6 != x1))) rfl rfl hF rfl (run_move rfl (hF.ev rfl)) ?_; clear hF; intro a hF
            refine op_gv (v := .pointer (some ⟨g102, 2, none⟩)) rfl rfl hF rfl (yf (gw_yield hF rfl rfl rfl)) (fun hg => (run_fieldAddr rfl fl27_2 (hF.ev rfl) rfl)) ?_; clear hF; intro a hF
            refine op_gv (v := .int .i64 x7) rfl rfl hF rfl (yf (gw_yield hF rfl rfl rfl)) (fun hg => (run_load1 rfl one3 ((hF.ev rfl).trans (gv_t hg)) ((S.free 3 rfl).cell rfl))) ?_; clear hF; intro a hF
            refine op_gv (v := .pointer (some ⟨g101, 2, none⟩)) rfl rfl hF rfl (yf (gw_yield hF rfl rfl rfl)) (fun hg => (run_fieldAddr rfl fl25_2 (hF.ev rfl) rfl)) ?_; clear hF; intro a hF
            refine op_gv (v := .int .i64 x2) rfl rfl hF rfl (yf (gw_yield hF rfl rfl rfl)) (fun hg => (run_load1 rfl one3 ((hF.ev rfl).trans (gv_t hg)) ((S.free 4 rfl).cell rfl))) ?_; clear hF; intro a hF
            refine op_gv (v := .bool (x7 != x2)) rfl rfl hF rfl (yf (gw_yield hF rfl rfl rfl)) (fun hg => (run_neq ((hF.ev rfl).trans (gv_t hg)) ((hF.ev rfl).trans (gv_t hg)) rfl)) ?_; clear hF; intro a hF
            refine op_val (v := .bool (((x1 == (-1)) || (x6 != x1)) || (x7 != x2))) rfl rfl hF rfl (run_pick_or rfl (hF.ev rfl) rfl (fun hp => ((hF.ev rfl).trans (gv_t (not_t hp))))) ?_; clear hF; intro a hF
            refine op_val (v := .bool (((x1 == (-1)) || (x6 != x1)) || (x7 != x2))) rfl rfl hF rfl (run_move rfl (hF.ev rfl)) ?_; clear hF; intro a hF
            refine op_gv (v := .pointer (some ⟨g102, 3, none⟩)) rfl rfl hF rfl (yf (gw_yield hF rfl rfl rfl)) (fun hg => (run_fieldAddr rfl fl27_3 (hF.ev rfl) rfl)) ?_; clear hF; intro a hF
            refine op_gv (v := .bool x8) rfl rfl hF rfl (yf (gw_yield hF rfl rfl rfl)) (fun hg => (run_load1 rfl one4 ((hF.ev rfl).trans (gv_t hg)) ((S.free 3 rfl).cell rfl))) ?_; clear hF; intro a hF
            refine op_gv (v := .pointer (some ⟨g101, 3, none⟩)) rfl rfl hF rfl (yf (gw_yield hF rfl rfl rfl)) (fun hg => (run_fieldAddr rfl fl25_3 (hF.ev rfl) rfl)) ?_; clear hF; intro a hF
            refine op_gv (v := .bool x3) rfl rfl hF rfl (yf (gw_yield hF rfl rfl rfl)) (fun hg => (run_load1 rfl one4 ((hF.ev rfl).trans (gv_t hg)) ((S.free 4 rfl).cell rfl))) ?_; clear hF; intro a hF
            refine op_gv (v := .bool (x8 != x3)) rfl rfl hF rfl (yf (gw_yield hF rfl rfl rfl)) (fun hg => (run_neqB ((hF.ev rfl).trans (gv_t hg)) ((hF.ev rfl).trans (gv_t hg)) Tryd.underlying4 rfl)) ?_; clear hF; intro a hF
            refine op_val (v := .bool ((((x1 == (-1)) || (x6 != x1)) || (x7 != x2)) || (x8 != x3))) rfl rfl hF rfl (run_pick_or rfl (hF.ev rfl) rfl (fun hp => ((hF.ev rfl).trans (gv_t (not_t hp))))) ?_; clear hF; intro a hF
            refine wpList_nil ?_
            cases hc151 : ((((x1 == (-1)) || (x6 != x1)) || (x7 != x2)) || (x8 != x3))
            · replace hM121 := bif_f hc151 hM121
              refine cond_f hF rfl hc151 ?_
              refine wp_skip ?_
              refine wp_seq ?_
              refine wp_region_lit ?_
              refine op_val (v := .pointer (some ⟨g110, 0, none⟩)) rfl rfl hF rfl (run_fieldAddr rfl fl25_0 (hF.ev rfl) rfl) ?_; clear hF; intro a hF
              refine op_val (v := .slice B107 p106.1.length d109) rfl rfl hF rfl (run_load1 rfl one23 (hF.ev rfl) ((S.free 0 rfl).cell rfl)) ?_; clear hF; intro a hF
              refine op_val (v := .pointer (some ⟨g102, 2, none⟩)) rfl rfl hF rfl (run_fieldAddr rfl fl27_2 (hF.ev rfl) rfl) ?_; clear hF; intro a hF
              refine op_val (v := .int .i64 x7) rfl rfl hF rfl (run_load1 rfl one3 (hF.ev rfl) ((S.free 3 rfl).cell rfl)) ?_; clear hF; intro a hF
              refine op_val (v := .pointer (some ⟨g102, 3, none⟩)) rfl rfl hF rfl (run_fieldAddr rfl fl27_3 (hF.ev rfl) rfl) ?_; clear hF; intro a hF
              refine op_val (v := .bool x8) rfl rfl hF rfl (run_load1 rfl one4 (hF.ev rfl) ((S.free 3 rfl).cell rfl)) ?_; clear hF; intro a hF
              obtain ⟨hk152, hM121⟩ := chk_ex hM121
              replace hk152 := ixB_t hk152
              refine op_val (v := .pointer (some ⟨adB B107, adO B107 + x7.toNat * 1, none⟩)) rfl rfl hF rfl (run_indexAddr (b := adB B107) (off := adO B107) rfl Tryd.underlying23 sz4 ((hF.ev rfl).trans (congrArg (fun A => Value.slice A p106.1.length d109) ((S.rc 1 rfl).rd.ad (ix_pos hk152)))) (hF.ev rfl) hk152.1 hk152.2 (k' := adO B107 + x7.toNat * 1) rfl) ?_; clear hF; intro a hF
              obtain ⟨w', hrun, S'⟩ := run_storeElN (P := Tryd.prog) (ρ := a.eval) (y0 := x8) (off := 0) S 4 (.tmp 99) (.tmp 98) (i := 1) sz4 (hF.ev rfl) (hF.ev rfl) rfl rfl rfl rfl rfl eB_len false (ix_ltn hk152 rfl) rfl rfl
              refine op_do rfl rfl (hrun _ rfl) ?_; clear hrun S; have S := S'; clear S'; generalize w' = u at S ⊢
              refine wpList_nil ?_
              refine wp_region_lit ?_
              obtain ⟨p153, h153, hM121⟩ := bind_ex hM121
              refine op_call rfl rfl hF rfl (run_call (vs := [.pointer (some ⟨g110, 0, none⟩)]) rfl rfl co28 ⟨(hF.ev rfl), trivial⟩) (c_impl_Panel_unselect (x0 := p106.1.set x7.toNat x8) (x1 := p106.2.1) (x2 := p106.2.2.1) (x3 := p106.2.2.2.1) (x4 := p106.2.2.2.2) (len_set rfl) (show St w _ [.box g110 25 #[.slice B107 p106.1.length d109, .int .i64 p106.2.1, .int .i64 p106.2.2.1, .bool p106.2.2.2.1, .int .i64 p106.2.2.2.2], .row 4 1 (.slice B107 p106.1.length d109) p106.1.length ((p106.1.set x7.toNat x8).flatMap eB), .box g103 25 #[.slice none 0 0, .int .i64 0, .int .i64 0, .bool false, .int .i64 0], .box g102 27 #[.int .i64 x5, .int .i64 x6, .int .i64 x7, .bool x8], .box g101 25 #[.slice A0 x0.length c0, .int .i64 x1, .int .i64 x2, .bool x3, .int .i64 x4]] from S.sel [0, 1, 2, 3, 4] rfl rfl) h153) ?_
              rintro e u ⟨B154, n155, d156, rfl, rfl, T⟩
              refine ⟨_, rfl, ?_⟩
              clear hF; intro a hF
              clear S; have S := T; clear T
              refine wpList_nil ?_
              obtain rfl := Option.some.inj hM121
              exact ⟨(p153.1, p153.2.1, p153.2.2.1, p153.2.2.2.1, p153.2.2.2.2), B154, d156, rfl, hF.keep _ ⟨rfl, rfl, rfl, trivial⟩, S.sel [0, 2, 3, 4, 1] rfl rfl⟩
            · replace hM121 := bif_t hc151 hM121
              refine cond_t hF rfl hc151 ?_
              refine wp_seq ?_
              refine wp_region_lit ?_
              refine op_val (v := .agg #[.slice B107 p106.1.length d109, .int .i64 p106.2.1, .int .i64 p106.2.2.1, .bool p106.2.2.2.1, .int .i64 p106.2.2.2.2]) rfl rfl hF rfl (run_loadN rfl ag25 (hF.ev rfl) rfl ((S.free 0 rfl).cells 0 #[.slice B107 p106.1.length d109, .int .i64 p106.2.1, .int .i64 p106.2.2.1, .bool p106.2.2.2.1, .int .i64 p106.2.2.2.2] rfl)) ?_; clear hF; intro a hF
              refine op_do rfl rfl (run_store (cs' := #[.slice B107 p106.1.length d109, .int .i64 p106.2.1, .int .i64 p106.2.2.1, .bool p106.2.2.2.1, .int .i64 p106.2.2.2.2]) rfl sz25 (hF.ev rfl) (hF.ev rfl) rfl rfl rfl (S.free 2 rfl) rfl rfl) ?_; replace S := S.put 2 rfl (#[.slice B107 p106.1.length d109, .int .i64 p106.2.1, .int .i64 p106.2.2.1, .bool p106.2.2.2.1, .int .i64 p106.2.2.2.2])
              generalize World.setRow _ _ _ = u at S ⊢
              refine op_val (v := .bool false) rfl rfl hF rfl (run_assign rfl rfl) ?_; clear hF; intro a hF
              refine wpList_nil ?_
              refine wp_ret ?_
              repeat with_reducible (first | refine then_ret ?_ | refine in_ret ?_ | refine in_nrm ?_)
              refine ret2_gw (.inl rfl) hF rfl (res_cell (hF.ev rfl) (res_loadN ag25 rfl (S.cells 2 rfl 0 #[.slice B107 p106.1.length d109, .int .i64 p106.2.1, .int .i64 p106.2.2.1, .bool p106.2.2.2.1, .int .i64 p106.2.2.2.2] rfl))) (res_tmp (hF.ev rfl)) ?_
              obtain rfl := Option.some.inj hM121
              obtain rfl := Option.some.inj hM115
              obtain rfl := Option.some.inj hM
              exact ⟨B107, p106.1.length, d109, rfl, rfl, S.sel [1] rfl rfl⟩
        · rintro a u ⟨p117, B119, d120, rfl, hF, S⟩
          replace hM115 := elim_l hM115
          obtain rfl := Option.some.inj hM115
          exact ⟨(p117.1, p117.2.1, p117.2.2.1, p117.2.2.2.1, p117.2.2.2.2), B119, d120, rfl, hF.keep _ ⟨rfl, rfl, rfl, trivial⟩, S.sel [0, 1, 2, 3, 4] rfl rfl⟩
      · replace hM115 := bif_t hc116 hM115
        refine cond_t hF rfl hc116 ?_
        refine wp_seq ?_
        refine wp_seq ?_
        obtain ⟨hk157, hM115⟩ := chk_ex hM115
        replace hk157 := fun hg => ixB_t (imp_t hk157 hg)
        refine region_gw (D := [18, 19, 20, 21, 22, 23, 24, 25, 26, 27, 28, 29, 30, 31, 32, 33, 34, 35, 36, 37, 38, 39, 40, 41, 42, 43, 44, 45, 46, 47, 48, 49, 50, 51, 52, 53, 54]) (Lr := [.box g110 25 #[.slice B107 p106.1.length d109, .int .i64 p106.2.1, .int .i64 p106.2.2.1, .bool p106.2.2.2.1, .int .i64 p106.2.2.2.2], .row 4 1 (.slice B107 p106.1.length d109) p106.1.length (p106.1.flatMap eB), .box g103 25 #[.slice none 0 0, .int .i64 0, .int .i64 0, .bool false, .int .i64 0], .box g102 27 #[.int .i64 x5, .int .i64 x6, .int .i64 x7, .bool x8], .box g101 25 #[.slice A0 x0.length c0, .int .i64 x1, .int .i64 x2, .bool x3, .int .i64 x4]]) (deps := (fun | 0 => [18] | 1 => [19] | 2 => [20] | 3 => [21] | 4 => [22] | 5 => [23] | 6 => [24] | 7 => [25] | 8 => [26] | 9 => [27] | 10 => [28] | 11 => [29] | 12 => [30] | 13 => [31] | 14 => [32] | 15 => [33] | 16 => [34] | 17 => [35] | 18 => [36] | 19 => [37] | 20 => [38] | 21 => [39] | 22 => [40] | 23 => [41] | 24 => [42] | 25 => [43] | 26 => [44] | 27 => [45] | 28 => [46] | 29 => [47] | 30 => [48] | 31 => [49] | 32 => [50] | 33 => [51] | 34 => [52] | 35 => [53] | 36 => [54] | _ => [])) (rd := (fun _ => [])) (zr := (fun _ => []))
          (φ := fun i vs => match i, vs with | 0, [v18] => v18 = .pointer (some ⟨g101, 1, none⟩) | 1, [v19] => v19 = .int .i64 x1 | 2, [v20] => v20 = .bool (x1 != (-1)) | 3, [v21] => v21 = .bool (x1 != (-1)) | 4, [v22] => v22 = gv (!(x1 != (-1))) (.pointer (some ⟨g102, 1, none⟩)) | 5, [v23] => v23 = gv (!(x1 != (-1))) (.int .i64 x6) | 6, [v24] => v24 = gv (!(x1 != (-1))) (.bool (ltB x6 0)) | 7, [v25] => v25 = .bool ((x1 != (-1)) || (ltB x6 0)) | 8, [v26] => v26 = .bool ((x1 != (-1)) || (ltB x6 0)) | 9, [v27] => v27 = gv (!((x1 != (-1)) || (ltB x6 0))) (.pointer (some ⟨g102, 1, none⟩)) | 10, [v28] => v28 = gv (!((x1 != (-1)) || (ltB x6 0))) (.int .i64 x6) | 11, [v29] => v29 = gv (!((x1 != (-1)) || (ltB x6 0))) (.bool (ltB 9 x6)) | 12, [v30] => v30 = .bool (((x1 != (-1)) || (ltB x6 0)) || (ltB 9 x6)) | 13, [v31] => v31 = .bool (((x1 != (-1)) || (ltB x6 0)) || (ltB 9 x6)) | 14, [v32] => v32 = gv (!(((x1 != (-1)) || (ltB x6 0)) || (ltB 9 x6))) (.pointer (some ⟨g102, 2, none⟩)) | 15, [v33] => v33 = gv (!(((x1 != (-1)) || (ltB x6 0)) || (ltB 9 x6))) (.int .i64 x7) | 16, [v34] => v34 = gv (!(((x1 != (-1)) || (ltB x6 0)) || (ltB 9 x6))) (.bool (ltB x7 0)) | 17, [v35] => v35 = .bool ((((x1 != (-1)) || (ltB x6 0)) || (ltB 9 x6)) || (ltB x7 0)) | 18, [v36] => v36 = .bool ((((x1 != (-1)) || (ltB x6 0)) || (ltB 9 x6)) || (ltB x7 0)) | 19, [v37] => v37 = gv (!((((x1 != (-1)) || (ltB x6 0)) || (ltB 9 x6)) || (ltB x7 0))) (.pointer (some ⟨g102, 2, none⟩)) | 20, [v38] => v38 = gv (!((((x1 != (-1)) || (ltB x6 0)) || (ltB 9 x6)) || (ltB x7 0))) (.int .i64 x7) | 21, [v39] => v39 = gv (!((((x1 != (-1)) || (ltB x6 0)) || (ltB 9 x6)) || (ltB x7 0))) (.pointer (some ⟨g101, 0, none⟩)) | 22, [v40] => v40 = gv (!((((x1 != (-1)) || (ltB x6 0)) || (ltB 9 x6)) || (ltB x7 0))) (.slice A0 x0.length c0) | 23, [v41] => v41 = gv (!((((x1 != (-1)) || (ltB x6 0)) || (ltB 9 x6)) || (ltB x7 0))) (.int .i64 (x0.length : Int)) | 24, [v42] => v42 = gv (!((((x1 != (-1)) || (ltB x6 0)) || (ltB 9 x6)) || (ltB x7 0))) (.bool (leB (x0.length : Int) x7)) | 25, [v43] => v43 = .bool (((((x1 != (-1)) || (ltB x6 0)) || (ltB 9 x6)) || (ltB x7 0)) || (leB (x0.length : Int) x7)) | 26, [v44] => v44 = .bool (((((x1 != (-1)) || (ltB x6 0)) || (ltB 9 x6)) || (ltB x7 0)) || (leB (x0.length : Int) x7)) | 27, [v45] => v45 = gv (!(((((x1 != (-1)) || (ltB x6 0)) || (ltB 9 x6)) || (ltB x7 0)) || (leB (x0.length : Int) x7))) (.pointer (some ⟨g101, 0, none⟩)) | 28, [v46] => v46 = gv (!(((((x1 != (-1)) || (ltB x6 0)) || (ltB 9 x6)) || (ltB x7 0)) || (leB (x0.length : Int) x7))) (.slice A0 x0.length c0) | 29, [v47] => v47 = gv (!(((((x1 != (-1)) || (ltB x6 0)) || (ltB 9 x6)) || (ltB x7 0)) || (leB (x0.length : Int) x7))) (.pointer (some ⟨g102, 2, none⟩)) | 30, [v48] => v48 = gv (!(((((x1 != (-1)) || (ltB x6 0)) || (ltB 9 x6)) || (ltB x7 0)) || (leB (x0.length : Int) x7))) (.int .i64 x7) | 31, [v49] => v49 = gv (!(((((x1 != (-1)) || (ltB x6 0)) || (ltB 9 x6)) || (ltB x7 0)) || (leB (x0.length : Int) x7))) (.pointer (some ⟨adB A0, adO A0 + x7.toNat * 1, none⟩)) | 32, [v50] => v50 = gv (!(((((x1 != (-1)) || (ltB x6 0)) || (ltB 9 x6)) || (ltB x7 0)) || (leB (x0.length : Int) x7))) (.bool (x0.getD x7.toNat false)) | 33, [v51] => v51 = gv (!(((((x1 != (-1)) || (ltB x6 0)) || (ltB 9 x6)) || (ltB x7 0)) || (leB (x0.length : Int) x7))) (.pointer (some ⟨g102, 3, none⟩)) | 34, [v52] => v52 = gv (!(((((x1 != (-1)) || (ltB x6 0)) || (ltB 9 x6)) || (ltB x7 0)) || (leB (x0.length : Int) x7))) (.bool x8) | 35, [v53] => v53 = gv (!(((((x1 != (-1)) || (ltB x6 0)) || (ltB 9 x6)) || (ltB x7 0)) || (leB (x0.length : Int) x7))) (.bool ((x0.getD x7.toNat false) == x8)) | 36, [v54] => v54 = .bool ((((((x1 != (-1)) || (ltB x6 0)) || (ltB 9 x6)) || (ltB x7 0)) || (leB (x0.length : Int) x7)) || ((x0.getD x7.toNat false) == x8)) | _, _ => True)
          (C := fun _ _ => [])
          (κ := (fun _ => none)) (Z := (fun _ => [])) mixed hF (by kernel_rfl) S ?_ ?_
        · refine ⟨?_, ?_, ?_, ?_, ?_, ?_, ?_, ?_, ?_, ?_, ?_, ?_, ?_, ?_, ?_, ?_, ?_, ?_, ?_, ?_, ?_, ?_, ?_, ?_, ?_, ?_, ?_, ?_, ?_, ?_, ?_, ?_, ?_, ?_, ?_, ?_, ?_, trivial⟩
          · intro a u X hB hu hp hr hz hl S
            replace S : St w u ([] ++ X) := S
            exact .inl ⟨rfl, .pointer (some ⟨g101, 1, none⟩), u, (run_fieldAddr rfl fl25_1 (hF.evB hB rfl rfl) rfl), rfl, S⟩
          · intro a u X hB hu hp hr hz hl S
            replace S : St w u ([] ++ X) := S
            have e18 : sl a 18 = .pointer (some ⟨g101, 1, none⟩) := hp 0 rfl
            exact .inl ⟨rfl, .int .i64 x1, u, (run_load1 rfl one3 (ev_sl e18) ((gr_box S hl 4 rfl).cell rfl)), rfl, S⟩
          · intro a u X hB hu hp hr hz hl S
            replace S : St w u ([] ++ X) := S
            have e19 : sl a 19 = .int .i64 x1 := hp 1 rfl
            exact .inl ⟨rfl, .bool (x1 != (-1)), u, (run_neq (ev_sl e19) (ev_const _ _) rfl), rfl, S⟩
          · intro a u X hB hu hp hr hz hl S
            replace S : St w u ([] ++ X) := S
            have e20 : sl a 20 = .bool (x1 != (-1)) := hp 2 rfl
            exact .inl ⟨rfl, .bool (x1 != (-1)), u, (run_move rfl (ev_sl e20)), rfl, S⟩
          · intro a u X hB hu hp hr hz hl S
            replace S : St w u ([] ++ X) := S
            have e21 : sl a 21 = .bool (x1 != (-1)) := hp 3 rfl
            rcases (Bool.eq_false_or_eq_true (!(x1 != (-1)))).symm with hg | hg
            · exact .inr (.inr (.inr ⟨gr_eg rfl (yf (gr_yield rfl rfl e21)) hg, (gv_f hg).symm, S⟩))
            · exact .inl ⟨gr_eg rfl (yf (gr_yield rfl rfl e21)) hg, .pointer (some ⟨g102, 1, none⟩), u, (run_fieldAddr rfl fl27_1 (hF.evB hB rfl rfl) rfl), (gv_t hg).symm, S⟩
          · intro a u X hB hu hp hr hz hl S
            replace S : St w u ([] ++ X) := S
            have e21 : sl a 21 = .bool (x1 != (-1)) := hp 3 rfl
            have e22 : sl a 22 = gv (!(x1 != (-1))) (.pointer (some ⟨g102, 1, none⟩)) := hp 4 rfl
            rcases (Bool.eq_false_or_eq_true (!(x1 != (-1)))).symm with hg | hg
            · exact .inr (.inr (.inr ⟨gr_eg rfl (yf (gr_yield rfl rfl e21)) hg, (gv_f hg).symm, S⟩))
            · exact .inl ⟨gr_eg rfl (yf (gr_yield rfl rfl e21)) hg, .int .i64 x6, u, (run_load1 rfl one3 ((ev_sl e22).trans (gv_t hg)) ((gr_box S hl 3 rfl).cell rfl)), (gv_t hg).symm, S⟩
          · intro a u X hB hu hp hr hz hl S
            replace S : St w u ([] ++ X) := S
            have e21 : sl a 21 = .bool (x1 != (-1)) := hp 3 rfl
            have e23 : sl a 23 = gv (!(x1 != (-1))) (.int .i64 x6) := hp 5 rfl
            rcases (Bool.eq_false_or_eq_true (!(x1 != (-1)))).symm with hg | hg
            · exact .inr (.inr (.inr ⟨gr_eg rfl (yf (gr_yield rfl rfl e21)) hg, (gv_f hg).symm, S⟩))
            · exact .inl ⟨gr_eg rfl (yf (gr_yield rfl rfl e21)) hg, .bool (ltB x6 0), u, (run_lss ((ev_sl e23).trans (gv_t hg)) (ev_const _ _) rfl), (gv_t hg).symm, S⟩
          · intro a u X hB hu hp hr hz hl S
            replace S : St w u ([] ++ X) := S
            have e21 : sl a 21 = .bool (x1 != (-1)) := hp 3 rfl
            have e24 : sl a 24 = gv (!(x1 != (-1))) (.bool (ltB x6 0)) := hp 6 rfl
            exact .inl ⟨rfl, .bool ((x1 != (-1)) || (ltB x6 0)), u, (run_pick_or rfl (ev_sl e21) (ev_const _ _) (fun hp => ((ev_sl e24).trans (gv_t (not_t hp))))), rfl, S⟩
          · intro a u X hB hu hp hr hz hl S
            replace S : St w u ([] ++ X) := S
            have e25 : sl a 25 = .bool ((x1 != (-1)) || (ltB x6 0)) := hp 7 rfl
            exact .inl ⟨rfl, .bool ((x1 != (-1)) || (ltB x6 0)), u, (run_move rfl (ev_sl e25)), rfl, S⟩
          · intro a u X hB hu hp hr hz hl S
            replace S : St w u ([] ++ X) := S
            have e26 : sl a 26 = .bool ((x1 != (-1)) || (ltB x6 0)) := hp 8 rfl
            rcases (Bool.eq_false_or_eq_true (!((x1 != (-1)) || (ltB x6 0)))).symm with hg | hg
            · exact .inr (.inr (.inr ⟨gr_eg rfl (yf (gr_yield rfl rfl e26)) hg, (gv_f hg).symm, S⟩))
            · exact .inl ⟨gr_eg rfl (yf (gr_yield rfl rfl e26)) hg, .pointer (some ⟨g102, 1, none⟩), u, (run_fieldAddr rfl fl27_1 (hF.evB hB rfl rfl) rfl), (gv_t hg).symm, S⟩
          · intro a u X hB hu hp hr hz hl S
            replace S : St w u ([] ++ X) := S
            have e26 : sl a 26 = .bool ((x1 != (-1)) || (ltB x6 0)) := hp 8 rfl
            have e27 : sl a 27 = gv (!((x1 != (-1)) || (ltB x6 0))) (.pointer (some ⟨g102, 1, none⟩)) := hp 9 rfl
            rcases (Bool.eq_false_or_eq_true (!((x1 != (-1)) || (ltB x6 0)))).symm with hg | hg
            · exact .inr (.inr (.inr ⟨gr_eg rfl (yf (gr_yield rfl rfl e26)) hg, (gv_f hg).symm, S⟩))
            · exact .inl ⟨gr_eg rfl (yf (gr_yield rfl rfl e26)) hg, .int .i64 x6, u, (run_load1 rfl one3 ((ev_sl e27).trans (gv_t hg)) ((gr_box S hl 3 rfl).cell rfl)), (gv_t hg).symm, S⟩
          · intro a u X hB hu hp hr hz hl S
            replace S : St w u ([] ++ X) := S
            have e26 : sl a 26 = .bool ((x1 != (-1)) || (ltB x6 0)) := hp 8 rfl
            have e28 : sl a 28 = gv (!((x1 != (-1)) || (ltB x6 0))) (.int .i64 x6) := hp 10 rfl
            rcases (Bool.eq_false_or_eq_true (!((x1 != (-1)) || (ltB x6 0)))).symm with hg | hg
            · exact .inr (.inr (.inr ⟨gr_eg rfl (yf (gr_yield rfl rfl e26)) hg, (gv_f hg).symm, S⟩))
            · exact .inl ⟨gr_eg rfl (yf (gr_yield rfl rfl e26)) hg, .bool (ltB 9 x6), u, (run_gtr ((ev_sl e28).trans (gv_t hg)) (ev_const _ _) rfl), (gv_t hg).symm, S⟩
          · intro a u X hB hu hp hr hz hl S
            replace S : St w u ([] ++ X) := S
            have e26 : sl a 26 = .bool ((x1 != (-1)) || (ltB x6 0)) := hp 8 rfl
            have e29 : sl a 29 = gv (!((x1 != (-1)) || (ltB x6 0))) (.bool (ltB 9 x6)) := hp 11 rfl
            exact .inl ⟨rfl, .bool (((x1 != (-1)) || (ltB x6 0)) || (ltB 9 x6)), u, (run_pick_or rfl (ev_sl e26) (ev_const _ _) (fun hp => ((ev_sl e29).trans (gv_t (not_t hp))))), rfl, S⟩
          · intro a u X hB hu hp hr hz hl S
            replace S : St w u ([] ++ X) := S
            have e30 : sl a 30 = .bool (((x1 != (-1)) || (ltB x6 0)) || (ltB 9 x6)) := hp 12 rfl
            exact .inl ⟨rfl, .bool (((x1 != (-1)) || (ltB x6 0)) || (ltB 9 x6)), u, (run_move rfl (ev_sl e30)), rfl, S⟩
          · intro a u X hB hu hp hr hz hl S
            replace S : St w u ([] ++ X) := S
            have e31 : sl a 31 = .bool (((x1 != (-1)) || (ltB x6 0)) || (ltB 9 x6)) := hp 13 rfl
            rcases (Bool.eq_false_or_eq_true (!(((x1 != (-1)) || (ltB x6 0)) || (ltB 9 x6)))).symm with hg | hg
            · exact .inr (.inr (.inr ⟨gr_eg rfl (yf (gr_yield rfl rfl e31)) hg, (gv_f hg).symm, S⟩))
            · exact .inl ⟨gr_eg rfl (yf (gr_yield rfl rfl e31)) hg, .pointer (some ⟨g102, 2, none⟩), u, (run_fieldAddr rfl fl27_2 (hF.evB hB rfl rfl) rfl), (gv_t hg).symm, S⟩
          · intro a u X hB hu hp hr hz hl S
            replace S : St w u ([] ++ X) := S
            have e31 : sl a 31 = .bool (((x1 != (-1)) || (ltB x6 0)) || (ltB 9 x6)) := hp 13 rfl
            have e32 : sl a 32 = gv (!(((x1 != (-1)) || (ltB x6 0)) || (ltB 9 x6))) (.pointer (some ⟨g102, 2, none⟩)) := hp 14 rfl
            rcases (Bool.eq_false_or_eq_true (!(((x1 != (-1)) || (ltB x6 0)) || (ltB 9 x6)))).symm with hg | hg
            · exact .inr (.inr (.inr ⟨gr_eg rfl (yf (gr_yield rfl rfl e31)) hg, (gv_f hg).symm, S⟩))
            · exact .inl ⟨gr_eg rfl (yf (gr_yield rfl rfl e31)) hg, .int .i64 x7, u, (run_load1 rfl one3 ((ev_sl e32).trans (gv_t hg)) ((gr_box S hl 3 rfl).cell rfl)), (gv_t hg).symm, S⟩
          · intro a u X hB hu hp hr hz hl S
            replace S : St w u ([] ++ X) := S
            have e31 : sl a 31 = .bool (((x1 != (-1)) || (ltB x6 0)) || (ltB 9 x6)) := hp 13 rfl
            have e33 : sl a 33 = gv (!(((x1 != (-1)) || (ltB x6 0)) || (ltB 9 x6))) (.int .i64 x7) := hp 15 rfl
            rcases (Bool.eq_false_or_eq_true (!(((x1 != (-1)) || (ltB x6 0)) || (ltB 9 x6)))).symm with hg | hg
            · exact .inr (.inr (.inr ⟨gr_eg rfl (yf (gr_yield rfl rfl e31)) hg, (gv_f hg).symm, S⟩))
            · exact .inl ⟨gr_eg rfl (yf (gr_yield rfl rfl e31)) hg, .bool (ltB x7 0), u, (run_lss ((ev_sl e33).trans (gv_t hg)) (ev_const _ _) rfl), (gv_t hg).symm, S⟩
          · intro a u X hB hu hp hr hz hl S
            replace S : St w u ([] ++ X) := S
            have e31 : sl a 31 = .bool (((x1 != (-1)) || (ltB x6 0)) || (ltB 9 x6)) := hp 13 rfl
            have e34 : sl a 34 = gv (!(((x1 != (-1)) || (ltB x6 0)) || (ltB 9 x6))) (.bool (ltB x7 0)) := hp 16 rfl
            exact .inl ⟨rfl, .bool ((((x1 != (-1)) || (ltB x6 0)) || (ltB 9 x6)) || (ltB x7 0)), u, (run_pick_or rfl (ev_sl e31) (ev_const _ _) (fun hp => ((ev_sl e34).trans (gv_t (not_t hp))))), rfl, S⟩
          · intro a u X hB hu hp hr hz hl S
            replace S : St w u ([] ++ X) := S
            have e35 : sl a 35 = .bool ((((x1 != (-1)) || (ltB x6 0)) || (ltB 9 x6)) || (ltB x7 0)) := hp 17 rfl
            exact .inl ⟨rfl, .bool ((((x1 != (-1)) || (ltB x6 0)) || (ltB 9 x6)) || (ltB x7 0)), u, (run_move rfl (ev_sl e35)), rfl, S⟩
          · intro a u X hB hu hp hr hz hl S
            replace S : St w u ([] ++ X) := S
            have e36 : sl a 36 = .bool ((((x1 != (-1)) || (ltB x6 0)) || (ltB 9 x6)) || (ltB x7 0)) := hp 18 rfl
            rcases (Bool.eq_false_or_eq_true (!((((x1 != (-1)) || (ltB x6 0)) || (ltB 9 x6)) || (ltB x7 0)))).symm with hg | hg
            · exact .inr (.inr (.inr ⟨gr_eg rfl (yf (gr_yield rfl rfl e36)) hg, (gv_f hg).symm, S⟩))
            · exact .inl ⟨gr_eg rfl (yf (gr_yield rfl rfl e36)) hg, .pointer (some ⟨g102, 2, none⟩), u, (run_fieldAddr rfl fl27_2 (hF.evB hB rfl rfl) rfl), (gv_t hg).symm, S⟩
          · intro a u X hB hu hp hr hz hl S
            replace S : St w u ([] ++ X) := S
            have e36 : sl a 36 = .bool ((((x1 != (-1)) || (ltB x6 0)) || (ltB 9 x6)) || (ltB x7 0)) := hp 18 rfl
            have e37 : sl a 37 = gv (!((((x1 != (-1)) || (ltB x6 0)) || (ltB 9 x6)) || (ltB x7 0))) (.pointer (some ⟨g102, 2, none⟩)) := hp 19 rfl
            rcases (Bool.eq_false_or_eq_true (!((((x1 != (-1)) || (ltB x6 0)) || (ltB 9 x6)) || (ltB x7 0)))).symm with hg | hg
            · exact .inr (.inr (.inr ⟨gr_eg rfl (yf (gr_yield rfl rfl e36)) hg, (gv_f hg).symm, S⟩))
            · exact .inl ⟨gr_eg rfl (yf (gr_yield rfl rfl e36)) hg, .int .i64 x7, u, (run_load1 rfl one3 ((ev_sl e37).trans (gv_t hg)) ((gr_box S hl 3 rfl).cell rfl)), (gv_t hg).symm, S⟩
          · intro a u X hB hu hp hr hz hl S
            replace S : St w u ([] ++ X) := S
            have e36 : sl a 36 = .bool ((((x1 != (-1)) || (ltB x6 0)) || (ltB 9 x6)) || (ltB x7 0)) := hp 18 rfl
            rcases (Bool.eq_false_or_eq_true (!((((x1 != (-1)) || (ltB x6 0)) || (ltB 9 x6)) || (ltB x7 0)))).symm with hg | hg
            · exact .inr (.inr (.inr ⟨gr_eg rfl (yf (gr_yield rfl rfl e36)) hg, (gv_f hg).symm, S⟩))
            · exact .inl ⟨gr_eg rfl (yf (gr_yield rfl rfl e36)) hg, .pointer (some ⟨g101, 0, none⟩), u, (run_fieldAddr rfl fl25_0 (hF.evB hB rfl rfl) rfl), (gv_t hg).symm, S⟩
          · intro a u X hB hu hp hr hz hl S
            replace S : St w u ([] ++ X) := S
            have e36 : sl a 36 = .bool ((((x1 != (-1)) || (ltB x6 0)) || (ltB 9 x6)) || (ltB x7 0)) := hp 18 rfl
            have e39 : sl a 39 = gv (!((((x1 != (-1)) || (ltB x6 0)) || (ltB 9 x6)) || (ltB x7 0))) (.pointer (some ⟨g101, 0, none⟩)) := hp 21 rfl
            rcases (Bool.eq_false_or_eq_true (!((((x1 != (-1)) || (ltB x6 0)) || (ltB 9 x6)) || (ltB x7 0)))).symm with hg | hg
            · exact .inr (.inr (.inr ⟨gr_eg rfl (yf (gr_yield rfl rfl e36)) hg, (gv_f hg).symm, S⟩))
            · exact .inl ⟨gr_eg rfl (yf (gr_yield rfl rfl e36)) hg, .slice A0 x0.length c0, u, (run_load1 rfl one23 ((ev_sl e39).trans (gv_t hg)) ((gr_box S hl 4 rfl).cell rfl)), (gv_t hg).symm, S⟩
          · intro a u X hB hu hp hr hz hl S
            replace S : St w u ([] ++ X) := S
            have e36 : sl a 36 = .bool ((((x1 != (-1)) || (ltB x6 0)) || (ltB 9 x6)) || (ltB x7 0)) := hp 18 rfl
            have e40 : sl a 40 = gv (!((((x1 != (-1)) || (ltB x6 0)) || (ltB 9 x6)) || (ltB x7 0))) (.slice A0 x0.length c0) := hp 22 rfl
            rcases (Bool.eq_false_or_eq_true (!((((x1 != (-1)) || (ltB x6 0)) || (ltB 9 x6)) || (ltB x7 0)))).symm with hg | hg
            · exact .inr (.inr (.inr ⟨gr_eg rfl (yf (gr_yield rfl rfl e36)) hg, (gv_f hg).symm, S⟩))
            · exact .inl ⟨gr_eg rfl (yf (gr_yield rfl rfl e36)) hg, .int .i64 (x0.length : Int), u, (run_lenL rfl rfl Tryd.underlying23 ((ev_sl e40).trans (gv_t hg))), (gv_t hg).symm, S⟩
          · intro a u X hB hu hp hr hz hl S
            replace S : St w u ([] ++ X) := S
            have e36 : sl a 36 = .bool ((((x1 != (-1)) || (ltB x6 0)) || (ltB 9 x6)) || (ltB x7 0)) := hp 18 rfl
            have e38 : sl a 38 = gv (!((((x1 != (-1)) || (ltB x6 0)) || (ltB 9 x6)) || (ltB x7 0))) (.int .i64 x7) := hp 20 rfl
            have e41 : sl a 41 = gv (!((((x1 != (-1)) || (ltB x6 0)) || (ltB 9 x6)) || (ltB x7 0))) (.int .i64 (x0.length : Int)) := hp 23 rfl
            rcases (Bool.eq_false_or_eq_true (!((((x1 != (-1)) || (ltB x6 0)) || (ltB 9 x6)) || (ltB x7 0)))).symm with hg | hg
            · exact .inr (.inr (.inr ⟨gr_eg rfl (yf (gr_yield rfl rfl e36)) hg, (gv_f hg).symm, S⟩))
            · exact .inl ⟨gr_eg rfl (yf (gr_yield rfl rfl e36)) hg, .bool (leB (x0.length : Int) x7), u, (run_geq ((ev_sl e38).trans (gv_t hg)) ((ev_sl e41).trans (gv_t hg)) rfl), (gv_t hg).symm, S⟩
          · intro a u X hB hu hp hr hz hl S
            replace S : St w u ([] ++ X) := S
            have e36 : sl a 36 = .bool ((((x1 != (-1)) || (ltB x6 0)) || (ltB 9 x6)) || (ltB x7 0)) := hp 18 rfl
            have e42 : sl a 42 = gv (!((((x1 != (-1)) || (ltB x6 0)) || (ltB 9 x6)) || (ltB x7 0))) (.bool (leB (x0.length : Int) x7)) := hp 24 rfl
            exact .inl ⟨rfl, .bool (((((x1 != (-1)) || (ltB x6 0)) || (ltB 9 x6)) || (ltB x7 0)) || (leB (x0.length : Int) x7)), u, (run_pick_or rfl (ev_sl e36) (ev_const _ _) (fun hp => ((ev_sl e42).trans (gv_t (not_t hp))))), rfl, S⟩
          · intro a u X hB hu hp hr hz hl S
            replace S : St w u ([] ++ X) := S
            have e43 : sl a 43 = .bool (((((x1 != (-1)) || (ltB x6 0)) || (ltB 9 x6)) || (ltB x7 0)) || (leB (x0.length : Int) x7)) := hp 25 rfl
            exact .inl ⟨rfl, .bool (((((x1 != (-1)) || (ltB x6 0)) || (ltB 9 x6)) || (ltB x7 0)) || (leB (x0.length : Int) x7)), u, (run_move rfl (ev_sl e43)), rfl, S⟩
          · intro a u X hB hu hp hr hz hl S
            replace S : St w u ([] ++ X) := S
            have e44 : sl a 44 = .bool (((((x1 != (-1)) || (ltB x6 0)) || (ltB 9 x6)) || (ltB x7 0)) || (leB (x0.length : Int) x7)) := hp 26 rfl
            rcases (Bool.eq_false_or_eq_true (!(((((x1 != (-1)) || (ltB x6 0)) || (ltB 9 x6)) || (ltB x7 0)) || (leB (x0.length : Int) x7)))).symm with hg | hg
            · exact .inr (.inr (.inr ⟨gr_eg rfl (yf (gr_yield rfl rfl e44)) hg, (gv_f hg).symm, S⟩))
            · exact .inl ⟨gr_eg rfl (yf (gr_yield rfl rfl e44)) hg, .pointer (some ⟨g101, 0, none⟩), u, (run_fieldAddr rfl fl25_0 (hF.evB hB rfl rfl) rfl), (gv_t hg).symm, S⟩
          · intro a u X hB hu hp hr hz hl S
            replace S : St w u ([] ++ X) := S
            have e44 : sl a 44 = .bool (((((x1 != (-1)) || (ltB x6 0)) || (ltB 9 x6)) || (ltB x7 0)) || (leB (x0.length : Int) x7)) := hp 26 rfl
            have e45 : sl a 45 = gv (!(((((x1 != (-1)) || (ltB x6 0)) || (ltB 9 x6)) || (ltB x7 0)) || (leB (x0.length : Int) x7))) (.pointer (some ⟨g101, 0, none⟩)) := hp 27 rfl
            rcases (Bool.eq_false_or_eq_true (!(((((x1 != (-1)) || (ltB x6 0)) || (ltB 9 x6)) || (ltB x7 0)) || (leB (x0.length : Int) x7)))).symm with hg | hg
            · exact .inr (.inr (.inr ⟨gr_eg rfl (yf (gr_yield rfl rfl e44)) hg, (gv_f hg).symm, S⟩))
            · exact .inl ⟨gr_eg rfl (yf (gr_yield rfl rfl e44)) hg, .slice A0 x0.length c0, u, (run_load1 rfl one23 ((ev_sl e45).trans (gv_t hg)) ((gr_box S hl 4 rfl).cell rfl)), (gv_t hg).symm, S⟩
          · intro a u X hB hu hp hr hz hl S
            replace S : St w u ([] ++ X) := S
            have e44 : sl a 44 = .bool (((((x1 != (-1)) || (ltB x6 0)) || (ltB 9 x6)) || (ltB x7 0)) || (leB (x0.length : Int) x7)) := hp 26 rfl
            rcases (Bool.eq_false_or_eq_true (!(((((x1 != (-1)) || (ltB x6 0)) || (ltB 9 x6)) || (ltB x7 0)) || (leB (x0.length : Int) x7)))).symm with hg | hg
            · exact .inr (.inr (.inr ⟨gr_eg rfl (yf (gr_yield rfl rfl e44)) hg, (gv_f hg).symm, S⟩))
            · exact .inl ⟨gr_eg rfl (yf (gr_yield rfl rfl e44)) hg, .pointer (some ⟨g102, 2, none⟩), u, (run_fieldAddr rfl fl27_2 (hF.evB hB rfl rfl) rfl), (gv_t hg).symm, S⟩
          · intro a u X hB hu hp hr hz hl S
            replace S : St w u ([] ++ X) := S
            have e44 : sl a 44 = .bool (((((x1 != (-1)) || (ltB x6 0)) || (ltB 9 x6)) || (ltB x7 0)) || (leB (x0.length : Int) x7)) := hp 26 rfl
            have e47 : sl a 47 = gv (!(((((x1 != (-1)) || (ltB x6 0)) || (ltB 9 x6)) || (ltB x7 0)) || (leB (x0.length : Int) x7))) (.pointer (some ⟨g102, 2, none⟩)) := hp 29 rfl
            rcases (Bool.eq_false_or_eq_true (!(((((x1 != (-1)) || (ltB x6 0)) || (ltB 9 x6)) || (ltB x7 0)) || (leB (x0.length : Int) x7)))).symm with hg | hg
            · exact .inr (.inr (.inr ⟨gr_eg rfl (yf (gr_yield rfl rfl e44)) hg, (gv_f hg).symm, S⟩))
            · exact .inl ⟨gr_eg rfl (yf (gr_yield rfl rfl e44)) hg, .int .i64 x7, u, (run_load1 rfl one3 ((ev_sl e47).trans (gv_t hg)) ((gr_box S hl 3 rfl).cell rfl)), (gv_t hg).symm, S⟩
          · intro a u X hB hu hp hr hz hl S
            replace S : St w u ([] ++ X) := S
            have e44 : sl a 44 = .bool (((((x1 != (-1)) || (ltB x6 0)) || (ltB 9 x6)) || (ltB x7 0)) || (leB (x0.length : Int) x7)) := hp 26 rfl
            have e46 : sl a 46 = gv (!(((((x1 != (-1)) || (ltB x6 0)) || (ltB 9 x6)) || (ltB x7 0)) || (leB (x0.length : Int) x7))) (.slice A0 x0.length c0) := hp 28 rfl
            have e48 : sl a 48 = gv (!(((((x1 != (-1)) || (ltB x6 0)) || (ltB 9 x6)) || (ltB x7 0)) || (leB (x0.length : Int) x7))) (.int .i64 x7) := hp 30 rfl
            rcases (Bool.eq_false_or_eq_true (!(((((x1 != (-1)) || (ltB x6 0)) || (ltB 9 x6)) || (ltB x7 0)) || (leB (x0.length : Int) x7)))).symm with hg | hg
            · exact .inr (.inr (.inr ⟨gr_eg rfl (yf (gr_yield rfl rfl e44)) hg, (gv_f hg).symm, S⟩))
            · exact .inl ⟨gr_eg rfl (yf (gr_yield rfl rfl e44)) hg, .pointer (some ⟨adB A0, adO A0 + x7.toNat * 1, none⟩), u, (run_indexAddr (b := adB A0) (off := adO A0) rfl Tryd.underlying23 sz4 (((ev_sl e46).trans (gv_t hg)).trans (congrArg (fun A => Value.slice A x0.length c0) ((S.rc0 h0.rc).rd.ad (ix_pos (hk157 hg))))) ((ev_sl e48).trans (gv_t hg)) (hk157 hg).1 (hk157 hg).2 (k' := adO A0 + x7.toNat * 1) rfl), (gv_t hg).symm, S⟩
          · intro a u X hB hu hp hr hz hl S
            replace S : St w u ([] ++ X) := S
            have e44 : sl a 44 = .bool (((((x1 != (-1)) || (ltB x6 0)) || (ltB 9 x6)) || (ltB x7 0)) || (leB (x0.length : Int) x7)) := hp 26 rfl
            have e49 : sl a 49 = gv (!(((((x1 != (-1)) || (ltB x6 0)) || (ltB 9 x6)) || (ltB x7 0)) || (leB (x0.length : Int) x7))) (.pointer (some ⟨adB A0, adO A0 + x7.toNat * 1, none⟩)) := hp 31 rfl
            rcases (Bool.eq_false_or_eq_true (!(((((x1 != (-1)) || (ltB x6 0)) || (ltB 9 x6)) || (ltB x7 0)) || (leB (x0.length : Int) x7)))).symm with hg | hg
            · exact .inr (.inr (.inr ⟨gr_eg rfl (yf (gr_yield rfl rfl e44)) hg, (gv_f hg).symm, S⟩))
            · exact .inl ⟨gr_eg rfl (yf (gr_yield rfl rfl e44)) hg, .bool (x0.getD x7.toNat false), u, (run_load1 rfl one4 ((ev_sl e49).trans (gv_t hg)) (rd_el0 (l := x0) (S.rc0 h0.rc).rd rfl eB_len false (ix_ltn (hk157 hg) rfl) rfl)), (gv_t hg).symm, S⟩
          · intro a u X hB hu hp hr hz hl S
            replace S : St w u ([] ++ X) := S
            have e44 : sl a 44 = .bool (((((x1 != (-1)) || (ltB x6 0)) || (ltB 9 x6)) || (ltB x7 0)) || (leB (x0.length : Int) x7)) := hp 26 rfl
            rcases (Bool.eq_false_or_eq_true (!(((((x1 != (-1)) || (ltB x6 0)) || (ltB 9 x6)) || (ltB x7 0)) || (leB (x0.length : Int) x7)))).symm with hg | hg
            · exact .inr (.inr (.inr ⟨gr_eg rfl (yf (gr_yield rfl rfl e44)) hg, (gv_f hg).symm, S⟩))
            · exact .inl ⟨gr_eg rfl (yf (gr_yield rfl rfl e44)) hg, .pointer (some ⟨g102, 3, none⟩), u, (run_fieldAddr rfl fl27_3 (hF.evB hB rfl rfl) rfl), (gv_t hg).symm, S⟩
          · intro a u X hB hu hp hr hz hl S
            replace S : St w u ([] ++ X) := S
            have e44 : sl a 44 = .bool (((((x1 != (-1)) || (ltB x6 0)) || (ltB 9 x6)) || (ltB x7 0)) || (leB (x0.length : Int) x7)) := hp 26 rfl
            have e51 : sl a 51 = gv (!(((((x1 != (-1)) || (ltB x6 0)) || (ltB 9 x6)) || (ltB x7 0)) || (leB (x0.length : Int) x7))) (.pointer (some ⟨g102, 3, none⟩)) := hp 33 rfl
            rcases (Bool.eq_false_or_eq_true (!(((((x1 != (-1)) || (ltB x6 0)) || (ltB 9 x6)) || (ltB x7 0)) || (leB (x0.length : Int) x7)))).symm with hg | hg
            · exact .inr (.inr (.inr ⟨gr_eg rfl (yf (gr_yield rfl rfl e44)) hg, (gv_f hg).symm, S⟩))
            · exact .inl ⟨gr_eg rfl (yf (gr_yield rfl rfl e44)) hg, .bool x8, u, (run_load1 rfl one4 ((ev_sl e51).trans (gv_t hg)) ((gr_box S hl 3 rfl).cell rfl)), (gv_t hg).symm, S⟩
          · intro a u X hB hu hp hr hz hl S
            replace S : St w u ([] ++ X) := S
            have e44 : sl a 44 = .bool (((((x1 != (-1)) || (ltB x6 0)) || (ltB 9 x6)) || (ltB x7 0)) || (leB (x0.length : Int) x7)) := hp 26 rfl
            have e50 : sl a 50 = gv (!(((((x1 != (-1)) || (ltB x6 0)) || (ltB 9 x6)) || (ltB x7 0)) || (leB (x0.length : Int) x7))) (.bool (x0.getD x7.toNat false)) := hp 32 rfl
            have e52 : sl a 52 = gv (!(((((x1 != (-1)) || (ltB x6 0)) || (ltB 9 x6)) || (ltB x7 0)) || (leB (x0.length : Int) x7))) (.bool x8) := hp 34 rfl
            rcases (Bool.eq_false_or_eq_true (!(((((x1 != (-1)) || (ltB x6 0)) || (ltB 9 x6)) || (ltB x7 0)) || (leB (x0.length : Int) x7)))).symm with hg | hg
            · exact .inr (.inr (.inr ⟨gr_eg rfl (yf (gr_yield rfl rfl e44)) hg, (gv_f hg).symm, S⟩))
            · exact .inl ⟨gr_eg rfl (yf (gr_yield rfl rfl e44)) hg, .bool ((x0.getD x7.toNat false) == x8), u, (run_eqlB ((ev_sl e50).trans (gv_t hg)) ((ev_sl e52).trans (gv_t hg)) Tryd.underlying4 rfl), (gv_t hg).symm, S⟩
          · intro a u X hB hu hp hr hz hl S
            replace S : St w u ([] ++ X) := S
            have e44 : sl a 44 = .bool (((((x1 != (-1)) || (ltB x6 0)) || (ltB 9 x6)) || (ltB x7 0)) || (leB (x0.length : Int) x7)) := hp 26 rfl
            have e53 : sl a 53 = gv (!(((((x1 != (-1)) || (ltB x6 0)) || (ltB 9 x6)) || (ltB x7 0)) || (leB (x0.length : Int) x7))) (.bool ((x0.getD x7.toNat false) == x8)) := hp 35 rfl
            exact .inl ⟨rfl, .bool ((((((x1 != (-1)) || (ltB x6 0)) || (ltB 9 x6)) || (ltB x7 0)) || (leB (x0.length : Int) x7)) || ((x0.getD x7.toNat false) == x8)), u, (run_pick_or rfl (ev_sl e44) (ev_const _ _) (fun hp => ((ev_sl e53).trans (gv_t (not_t hp))))), rfl, S⟩
        · intro a u hB hp S
          obtain ⟨q0, q1, q2, q3, q4, q5, q6, q7, q8, q9, q10, q11, q12, q13, q14, q15, q16, q17, q18, q19, q20, q21, q22, q23, q24, q25, q26, q27, q28, q29, q30, q31, q32, q33, q34, q35, q36, _⟩ := hp
          have e18 : sl a 18 = .pointer (some ⟨g101, 1, none⟩) := q0
          have e19 : sl a 19 = .int .i64 x1 := q1
          have e20 : sl a 20 = .bool (x1 != (-1)) := q2
          have e21 : sl a 21 = .bool (x1 != (-1)) := q3
          have e22 : sl a 22 = gv (!(x1 != (-1))) (.pointer (some ⟨g102, 1, none⟩)) := q4
          have e23 : sl a 23 = gv (!(x1 != (-1))) (.int .i64 x6) := q5
          have e24 : sl a 24 = gv (!(x1 != (-1))) (.bool (ltB x6 0)) := q6
          have e25 : sl a 25 = .bool ((x1 != (-1)) || (ltB x6 0)) := q7
          have e26 : sl a 26 = .bool ((x1 != (-1)) || (ltB x6 0)) := q8
          have e27 : sl a 27 = gv (!((x1 != (-1)) || (ltB x6 0))) (.pointer (some ⟨g102, 1, none⟩)) := q9
          have e28 : sl a 28 = gv (!((x1 != (-1)) || (ltB x6 0))) (.int .i64 x6) := q10
          have e29 : sl a 29 = gv (!((x1 != (-1)) || (ltB x6 0))) (.bool (ltB 9 x6)) := q11
          have e30 : sl a 30 = .bool (((x1 != (-1)) || (ltB x6 0)) || (ltB 9 x6)) := q12
          have e31 : sl a 31 = .bool (((x1 != (-1)) || (ltB x6 0)) || (ltB 9 x6)) := q13
          have e32 : sl a 32 = gv (!(((x1 != (-1)) || (ltB x6 0)) || (ltB 9 x6))) (.pointer (some ⟨g102, 2, none⟩)) := q14
          have e33 : sl a 33 = gv (!(((x1 != (-1)) || (ltB x6 0)) || (ltB 9 x6))) (.int .i64 x7) := q15
          have e34 : sl a 34 = gv (!(((x1 != (-1)) || (ltB x6 0)) || (ltB 9 x6))) (.bool (ltB x7 0)) := q16
          have e35 : sl a 35 = .bool ((((x1 != (-1)) || (ltB x6 0)) || (ltB 9 x6)) || (ltB x7 0)) := q17
          have e36 : sl a 36 = .bool ((((x1 != (-1)) || (ltB x6 0)) || (ltB 9 x6)) || (ltB x7 0)) := q18
          have e37 : sl a 37 = gv (!((((x1 != (-1)) || (ltB x6 0)) || (ltB 9 x6)) || (ltB x7 0))) (.pointer (some ⟨g102, 2, none⟩)) := q19
          have e38 : sl a 38 = gv (!((((x1 != (-1)) || (ltB x6 0)) || (ltB 9 x6)) || (ltB x7 0))) (.int .i64 x7) := q20
          have e39 : sl a 39 = gv (!((((x1 != (-1)) || (ltB x6 0)) || (ltB 9 x6)) || (ltB x7 0))) (.pointer (some ⟨g101, 0, none⟩)) := q21
          have e40 : sl a 40 = gv (!((((x1 != (-1)) || (ltB x6 0)) || (ltB 9 x6)) || (ltB x7 0))) (.slice A0 x0.length c0) := q22
          have e41 : sl a 41 = gv (!((((x1 != (-1)) || (ltB x6 0)) || (ltB 9 x6)) || (ltB x7 0))) (.int .i64 (x0.length : Int)) := q23
          have e42 : sl a 42 = gv (!((((x1 != (-1)) || (ltB x6 0)) || (ltB 9 x6)) || (ltB x7 0))) (.bool (leB (x0.length : Int) x7)) := q24
          have e43 : sl a 43 = .bool (((((x1 != (-1)) || (ltB x6 0)) || (ltB 9 x6)) || (ltB x7 0)) || (leB (x0.length : Int) x7)) := q25
          have e44 : sl a 44 = .bool (((((x1 != (-1)) || (ltB x6 0)) || (ltB 9 x6)) || (ltB x7 0)) || (leB (x0.length : Int) x7)) := q26
          have e45 : sl a 45 = gv (!(((((x1 != (-1)) || (ltB x6 0)) || (ltB 9 x6)) || (ltB x7 0)) || (leB (x0.length : Int) x7))) (.pointer (some ⟨g101, 0, none⟩)) := q27
          have e46 : sl a 46 = gv (!(((((x1 != (-1)) || (ltB x6 0)) || (ltB 9 x6)) || (ltB x7 0)) || (leB (x0.length : Int) x7))) (.slice A0 x0.length c0) := q28
          have e47 : sl a 47 = gv (!(((((x1 != (-1)) || (ltB x6 0)) || (ltB 9 x6)) || (ltB x7 0)) || (leB (x0.length : Int) x7))) (.pointer (some ⟨g102, 2, none⟩)) := q29
          have e48 : sl a 48 = gv (!(((((x1 != (-1)) || (ltB x6 0)) || (ltB 9 x6)) || (ltB x7 0)) || (leB (x0.length : Int) x7))) (.int .i64 x7) := q30
          have e49 : sl a 49 = gv (!(((((x1 != (-1)) || (ltB x6 0)) || (ltB 9 x6)) || (ltB x7 0)) || (leB (x0.length : Int) x7))) (.pointer (some ⟨adB A0, adO A0 + x7.toNat * 1, none⟩)) := q31
          have e50 : sl a 50 = gv (!(((((x1 != (-1)) || (ltB x6 0)) || (ltB 9 x6)) || (ltB x7 0)) || (leB (x0.length : Int) x7))) (.bool (x0.getD x7.toNat false)) := q32
          have e51 : sl a 51 = gv (!(((((x1 != (-1)) || (ltB x6 0)) || (ltB 9 x6)) || (ltB x7 0)) || (leB (x0.length : Int) x7))) (.pointer (some ⟨g102, 3, none⟩)) := q33
          have e52 : sl a 52 = gv (!(((((x1 != (-1)) || (ltB x6 0)) || (ltB 9 x6)) || (ltB x7 0)) || (leB (x0.length : Int) x7))) (.bool x8) := q34
          have e53 : sl a 53 = gv (!(((((x1 != (-1)) || (ltB x6 0)) || (ltB 9 x6)) || (ltB x7 0)) || (leB (x0.length : Int) x7))) (.bool ((x0.getD x7.toNat false) == x8)) := q35
          have e54 : sl a 54 = .bool ((((((x1 != (-1)) || (ltB x6 0)) || (ltB 9 x6)) || (ltB x7 0)) || (leB (x0.length : Int) x7)) || ((x0.getD x7.toNat false) == x8)) := q36
          replace S : St w u [.box g110 25 #[.slice B107 p106.1.length d109, .int .i64 p106.2.1, .int .i64 p106.2.2.1, .bool p106.2.2.2.1, .int .i64 p106.2.2.2.2], .row 4 1 (.slice B107 p106.1.length d109) p106.1.length (p106.1.flatMap eB), .box g103 25 #[.slice none 0 0, .int .i64 0, .int .i64 0, .bool false, .int .i64 0], .box g102 27 #[.int .i64 x5, .int .i64 x6, .int .i64 x7, .bool x8], .box g101 25 #[.slice A0 x0.length c0, .int .i64 x1, .int .i64 x2, .bool x3, .int .i64 x4]] := S
          clear q0 q1 q2 q3 q4 q5 q6 q7 q8 q9 q10 q11 q12 q13 q14 q15 q16 q17 q18 q19 q20 q21 q22 q23 q24 q25 q26 q27 q28 q29 q30 q31 q32 q33 q34 q35 q36
          have hF := hF.region hB [(18, .pointer (some ⟨g101, 1, none⟩)), (19, .int .i64 x1), (20, .bool (x1 != (-1))), (21, .bool (x1 != (-1))), (22, gv (!(x1 != (-1))) (.pointer (some ⟨g102, 1, none⟩))), (23, gv (!(x1 != (-1))) (.int .i64 x6)), (24, gv (!(x1 != (-1))) (.bool (ltB x6 0))), (25, .bool ((x1 != (-1)) || (ltB x6 0))), (26, .bool ((x1 != (-1)) || (ltB x6 0))), (27, gv (!((x1 != (-1)) || (ltB x6 0))) (.pointer (some ⟨g102, 1, none⟩))), (28, gv (!((x1 != (-1)) || (ltB x6 0))) (.int .i64 x6)), (29, gv (!((x1 != (-1)) || (ltB x6 0))) (.bool (ltB 9 x6))), (30, .bool (((x1 != (-1)) || (ltB x6 0)) || (ltB 9 x6))), (31, .bool (((x1 != (-1)) || (ltB x6 0)) || (ltB 9 x6))), (32, gv (!(((x1 != (-1)) || (ltB x6 0)) || (ltB 9 x6))) (.pointer (some ⟨g102, 2, none⟩))), (33, gv (!(((x1 != (-1)) || (ltB x6 0)) || (ltB 9 x6))) (.int .i64 x7)), (34, gv (!(((x1 != (-1)) || (ltB x6 0)) || (ltB 9 x6))) (.bool (ltB x7 0))), (35, .bool ((((x1 != (-1)) || (ltB x6 0)) || (ltB 9 x6)) || (ltB x7 0))), (36, .bool ((((x1 != (-1)) || (ltB x6 0)) || (ltB 9 x6)) || (ltB x7 0))), (37, gv (!((((x1 != (-1)) || (ltB x6 0)) || (ltB 9 x6)) || (ltB x7 0))) (.pointer (some ⟨g102, 2, none⟩))), (38, gv (!((((x1 != (-1)) || (ltB x6 0)) || (ltB 9 x6)) || (ltB x7 0))) (.int .i64 x7)), (39, gv (!((((x1 != (-1)) || (ltB x6 0)) || (ltB 9 x6)) || (ltB x7 0))) (.pointer (some ⟨g101, 0, none⟩))), (40, gv (!((((x1 != (-1)) || (ltB x6 0)) || (ltB 9 x6)) || (ltB x7 0))) (.slice A0 x0.length c0)), (41, gv (!((((x1 != (-1)) || (ltB x6 0)) || (ltB 9 x6)) || (ltB x7 0))) (.int .i64 (x0.length : Int))), (42, gv (!((((x1 != (-1)) || (ltB x6 0)) || (ltB 9 x6)) || (ltB x7 0))) (.bool (leB (x0.length : Int) x7))), (43, .bool (((((x1 != (-1)) || (ltB x6 0)) || (ltB 9 x6)) || (ltB x7 0)) || (leB (x0.length : Int) x7))), (44, .bool (((((x1 != (-1)) || (ltB x6 0)) || (ltB 9 x6)) || (ltB x7 0)) || (leB (x0.length : Int) x7))), (45, gv (!(((((x1 != (-1)) || (ltB x6 0)) || (ltB 9 x6)) || (ltB x7 0)) || (leB (x0.length : Int) x7))) (.pointer (some ⟨g101, 0, none⟩))), (46, gv (!(((((x1 != (-1)) || (ltB x6 0)) || (ltB 9 x6)) || (ltB x7 0)) || (leB (x0.length : Int) x7))) (.slice A0 x0.length c0)), (47, gv (!(((((x1 != (-1)) || (ltB x6 0)) || (ltB 9 x6)) || (ltB x7 0)) || (leB (x0.length : Int) x7))) (.pointer (some ⟨g102, 2, none⟩))), (48, gv (!(((((x1 != (-1)) || (ltB x6 0)) || (ltB 9 x6)) || (ltB x7 0)) || (leB (x0.length : Int) x7))) (.int .i64 x7)), (49, gv (!(((((x1 != (-1)) || (ltB x6 0)) || (ltB 9 x6)) || (ltB x7 0)) || (leB (x0.length : Int) x7))) (.pointer (some ⟨adB A0, adO A0 + x7.toNat * 1, none⟩))), (50, gv (!(((((x1 != (-1)) || (ltB x6 0)) || (ltB 9 x6)) || (ltB x7 0)) || (leB (x0.length : Int) x7))) (.bool (x0.getD x7.toNat false))), (51, gv (!(((((x1 != (-1)) || (ltB x6 0)) || (ltB 9 x6)) || (ltB x7 0)) || (leB (x0.length : Int) x7))) (.pointer (some ⟨g102, 3, none⟩))), (52, gv (!(((((x1 != (-1)) || (ltB x6 0)) || (ltB 9 x6)) || (ltB x7 0)) || (leB (x0.length : Int) x7))) (.bool x8)), (53, gv (!(((((x1 != (-1)) || (ltB x6 0)) || (ltB 9 x6)) || (ltB x7 0)) || (leB (x0.length : Int) x7))) (.bool ((x0.getD x7.toNat false) == x8))), (54, .bool ((((((x1 != (-1)) || (ltB x6 0)) || (ltB 9 x6)) || (ltB x7 0)) || (leB (x0.length : Int) x7)) || ((x0.getD x7.toNat false) == x8)))] (allSl_mem ⟨e18, e19, e20, e21, e22, e23, e24, e25, e26, e27, e28, e29, e30, e31, e32, e33, e34, e35, e36, e37, e38, e39, e40, e41, e42, e43, e44, e45, e46, e47, e48, e49, e50, e51, e52, e53, e54, trivial⟩) rfl
          clear hB e18 e19 e20 e21 e22 e23 e24 e25 e26 e27 e28 e29 e30 e31 e32 e33 e34 e35 e36 e37 e38 e39 e40 e41 e42 e43 e44 e45 e46 e47 e48 e49 e50 e51 e52 e53 e54
          cases hc158 : ((((((x1 != (-1)) || (ltB x6 0)) || (ltB 9 x6)) || (ltB x7 0)) || (leB (x0.length : Int) x7)) || ((x0.getD x7.toNat false) == x8))
          · replace hM115 := bif_f hc158 hM115
            refine cond_f hF rfl hc158 ?_
            refine wp_skip ?_
            refine region_gw (D := [56, 57, 58, 59, 60, 61, 62, 63, 64, 65]) (Lr := [.row 4 1 (.slice B107 p106.1.length d109) p106.1.length (p106.1.flatMap eB), .box g103 25 #[.slice none 0 0, .int .i64 0, .int .i64 0, .bool false, .int .i64 0], .box g102 27 #[.int .i64 x5, .int .i64 x6, .int .i64 x7, .bool x8], .box g101 25 #[.slice A0 x0.length c0, .int .i64 x1, .int .i64 x2, .bool x3, .int .i64 x4]]) (deps := (fun | 0 => [56] | 1 => [57] | 2 => [58] | 3 => [59] | 4 => [60] | 5 => [61] | 6 => [62] | 7 => [62] | 8 => [63] | 9 => [63] | 10 => [64] | 11 => [64] | 12 => [65] | 13 => [65] | _ => [])) (rd := (fun _ => [])) (zr := (fun _ => []))
              (φ := fun i vs => match i, vs with | 0, [v56] => v56 = .pointer (some ⟨g102, 1, none⟩) | 1, [v57] => v57 = .int .i64 x6 | 2, [v58] => v58 = .pointer (some ⟨g102, 2, none⟩) | 3, [v59] => v59 = .int .i64 x7 | 4, [v60] => v60 = .pointer (some ⟨g102, 3, none⟩) | 5, [v61] => v61 = .bool x8 | 6, [v62] => v62 = .pointer (some ⟨g110, 1, none⟩) | 8, [v63] => v63 = .pointer (some ⟨g110, 2, none⟩) | 10, [v64] => v64 = .pointer (some ⟨g110, 3, none⟩) | 12, [v65] => v65 = .pointer (some ⟨g110, 4, none⟩) | _, _ => True)
              (C := fun i vs => match i, vs with | 7, [v62] => [.box g110 25 #[.slice B107 p106.1.length d109, .int .i64 x6, .int .i64 p106.2.2.1, .bool p106.2.2.2.1, .int .i64 p106.2.2.2.2]] | 9, [v63] => [.box g110 25 #[.slice B107 p106.1.length d109, .int .i64 x6, .int .i64 x7, .bool p106.2.2.2.1, .int .i64 p106.2.2.2.2]] | 11, [v64] => [.box g110 25 #[.slice B107 p106.1.length d109, .int .i64 x6, .int .i64 x7, .bool x8, .int .i64 p106.2.2.2.2]] | 13, [v65] => [.box g110 25 #[.slice B107 p106.1.length d109, .int .i64 x6, .int .i64 x7, .bool x8, .int .i64 3]] | _, _ => [])
              (κ := (fun | 7 => some 9 | 9 => some 11 | 11 => some 13 | _ => none)) (Z := (fun | 7 => [.box g110 25 #[.slice B107 p106.1.length d109, .int .i64 p106.2.1, .int .i64 p106.2.2.1, .bool p106.2.2.2.1, .int .i64 p106.2.2.2.2]] | _ => [])) mixed hF (by kernel_rfl) (show St w _ [.box g110 25 #[.slice B107 p106.1.length d109, .int .i64 p106.2.1, .int .i64 p106.2.2.1, .bool p106.2.2.2.1, .int .i64 p106.2.2.2.2], .row 4 1 (.slice B107 p106.1.length d109) p106.1.length (p106.1.flatMap eB), .box g103 25 #[.slice none 0 0, .int .i64 0, .int .i64 0, .bool false, .int .i64 0], .box g102 27 #[.int .i64 x5, .int .i64 x6, .int .i64 x7, .bool x8], .box g101 25 #[.slice A0 x0.length c0, .int .i64 x1, .int .i64 x2, .bool x3, .int .i64 x4]] from S.sel [0, 1, 2, 3, 4] rfl rfl) ?_ ?_
            · refine ⟨?_, ?_, ?_, ?_, ?_, ?_, ?_, ?_, ?_, ?_, ?_, ?_, ?_, ?_, trivial⟩
              · intro a u X hB hu hp hr hz hl S
                replace S : St w u ([] ++ X) := S
                exact .inl ⟨rfl, .pointer (some ⟨g102, 1, none⟩), u, (run_fieldAddr rfl fl27_1 (hF.evB hB rfl rfl) rfl), rfl, S⟩
              · intro a u X hB hu hp hr hz hl S
                replace S : St w u ([] ++ X) := S
                have e56 : sl a 56 = .pointer (some ⟨g102, 1, none⟩) := hp 0 rfl
                exact .inl ⟨rfl, .int .i64 x6, u, (run_load1 rfl one3 (ev_sl e56) ((gr_box S hl 2 rfl).cell rfl)), rfl, S⟩
              · intro a u X hB hu hp hr hz hl S
                replace S : St w u ([] ++ X) := S
                exact .inl ⟨rfl, .pointer (some ⟨g102, 2, none⟩), u, (run_fieldAddr rfl fl27_2 (hF.evB hB rfl rfl) rfl), rfl, S⟩
              · intro a u X hB hu hp hr hz hl S
                replace S : St w u ([] ++ X) := S
                have e58 : sl a 58 = .pointer (some ⟨g102, 2, none⟩) := hp 2 rfl
                exact .inl ⟨rfl, .int .i64 x7, u, (run_load1 rfl one3 (ev_sl e58) ((gr_box S hl 2 rfl).cell rfl)), rfl, S⟩
              · intro a u X hB hu hp hr hz hl S
                replace S : St w u ([] ++ X) := S
                exact .inl ⟨rfl, .pointer (some ⟨g102, 3, none⟩), u, (run_fieldAddr rfl fl27_3 (hF.evB hB rfl rfl) rfl), rfl, S⟩
              · intro a u X hB hu hp hr hz hl S
                replace S : St w u ([] ++ X) := S
                have e60 : sl a 60 = .pointer (some ⟨g102, 3, none⟩) := hp 4 rfl
                exact .inl ⟨rfl, .bool x8, u, (run_load1 rfl one4 (ev_sl e60) ((gr_box S hl 2 rfl).cell rfl)), rfl, S⟩
              · intro a u X hB hu hp hr hz hl S
                replace S : St w u ([] ++ X) := S
                exact .inl ⟨rfl, .pointer (some ⟨g110, 1, none⟩), u, (run_fieldAddr rfl fl25_1 (hF.evB hB rfl rfl) rfl), rfl, S⟩
              · intro a u X hB hu hp hr hz hl S
                replace S : St w u ([.box g110 25 #[.slice B107 p106.1.length d109, .int .i64 p106.2.1, .int .i64 p106.2.2.1, .bool p106.2.2.2.1, .int .i64 p106.2.2.2.2]] ++ X) := S
                have e57 : sl a 57 = .int .i64 x6 := hp 1 rfl
                have e62 : sl a 62 = .pointer (some ⟨g110, 1, none⟩) := hp 6 rfl
                exact .inr (.inl ⟨rfl, _, run_store (cs' := #[.slice B107 p106.1.length d109, .int .i64 x6, .int .i64 p106.2.2.1, .bool p106.2.2.2.1, .int .i64 p106.2.2.2.2]) rfl sz3 (ev_sl e62) (ev_sl e57) rfl rfl rfl (S.free 0 rfl) rfl rfl, trivial, S.put 0 rfl (#[.slice B107 p106.1.length d109, .int .i64 x6, .int .i64 p106.2.2.1, .bool p106.2.2.2.1, .int .i64 p106.2.2.2.2])⟩)
              · intro a u X hB hu hp hr hz hl S
                replace S : St w u ([] ++ X) := S
                exact .inl ⟨rfl, .pointer (some ⟨g110, 2, none⟩), u, (run_fieldAddr rfl fl25_2 (hF.evB hB rfl rfl) rfl), rfl, S⟩
              · intro a u X hB hu hp hr hz hl S
                replace S : St w u ([.box g110 25 #[.slice B107 p106.1.length d109, .int .i64 x6, .int .i64 p106.2.2.1, .bool p106.2.2.2.1, .int .i64 p106.2.2.2.2]] ++ X) := S
                have e59 : sl a 59 = .int .i64 x7 := hp 3 rfl
                have e63 : sl a 63 = .pointer (some ⟨g110, 2, none⟩) := hp 8 rfl
                exact .inr (.inl ⟨rfl, _, run_store (cs' := #[.slice B107 p106.1.length d109, .int .i64 x6, .int .i64 x7, .bool p106.2.2.2.1, .int .i64 p106.2.2.2.2]) rfl sz3 (ev_sl e63) (ev_sl e59) rfl rfl rfl (S.free 0 rfl) rfl rfl, trivial, S.put 0 rfl (#[.slice B107 p106.1.length d109, .int .i64 x6, .int .i64 x7, .bool p106.2.2.2.1, .int .i64 p106.2.2.2.2])⟩)
              · intro a u X hB hu hp hr hz hl S
                replace S : St w u ([] ++ X) := S
                exact .inl ⟨rfl, .pointer (some ⟨g110, 3, none⟩), u, (run_fieldAddr rfl fl25_3 (hF.evB hB rfl rfl) rfl), rfl, S⟩
              · intro a u X hB hu hp hr hz hl S
                replace S : St w u ([.box g110 25 #[.slice B107 p106.1.length d109, .int .i64 x6, .int .i64 x7, .bool p106.2.2.2.1, .int .i64 p106.2.2.2.2]] ++ X) := S
                have e61 : sl a 61 = .bool x8 := hp 5 rfl
                have e64 : sl a 64 = .pointer (some ⟨g110, 3, none⟩) := hp 10 rfl
                exact .inr (.inl ⟨rfl, _, run_store (cs' := #[.slice B107 p106.1.length d109, .int .i64 x6, .int .i64 x7, .bool x8, .int .i64 p106.2.2.2.2]) rfl sz4 (ev_sl e64) (ev_sl e61) rfl rfl rfl (S.free 0 rfl) rfl rfl, trivial, S.put 0 rfl (#[.slice B107 p106.1.length d109, .int .i64 x6, .int .i64 x7, .bool x8, .int .i64 p106.2.2.2.2])⟩)
              · intro a u X hB hu hp hr hz hl S
                replace S : St w u ([] ++ X) := S
                exact .inl ⟨rfl, .pointer (some ⟨g110, 4, none⟩), u, (run_fieldAddr rfl fl25_4 (hF.evB hB rfl rfl) rfl), rfl, S⟩
              · intro a u X hB hu hp hr hz hl S
                replace S : St w u ([.box g110 25 #[.slice B107 p106.1.length d109, .int .i64 x6, .int .i64 x7, .bool x8, .int .i64 p106.2.2.2.2]] ++ X) := S
                have e65 : sl a 65 = .pointer (some ⟨g110, 4, none⟩) := hp 12 rfl
                exact .inr (.inl ⟨rfl, _, run_store (cs' := #[.slice B107 p106.1.length d109, .int .i64 x6, .int .i64 x7, .bool x8, .int .i64 3]) rfl sz3 (ev_sl e65) (ev_const _ _) rfl rfl rfl (S.free 0 rfl) rfl rfl, trivial, S.put 0 rfl (#[.slice B107 p106.1.length d109, .int .i64 x6, .int .i64 x7, .bool x8, .int .i64 3])⟩)
            · intro a u hB hp S
              obtain ⟨q0, q1, q2, q3, q4, q5, q6, q7, q8, q9, q10, q11, q12, q13, _⟩ := hp
              have e56 : sl a 56 = .pointer (some ⟨g102, 1, none⟩) := q0
              have e57 : sl a 57 = .int .i64 x6 := q1
              have e58 : sl a 58 = .pointer (some ⟨g102, 2, none⟩) := q2
              have e59 : sl a 59 = .int .i64 x7 := q3
              have e60 : sl a 60 = .pointer (some ⟨g102, 3, none⟩) := q4
              have e61 : sl a 61 = .bool x8 := q5
              have e62 : sl a 62 = .pointer (some ⟨g110, 1, none⟩) := q6
              have e63 : sl a 63 = .pointer (some ⟨g110, 2, none⟩) := q8
              have e64 : sl a 64 = .pointer (some ⟨g110, 3, none⟩) := q10
              have e65 : sl a 65 = .pointer (some ⟨g110, 4, none⟩) := q12
              replace S : St w u [.box g110 25 #[.slice B107 p106.1.length d109, .int .i64 x6, .int .i64 x7, .bool x8, .int .i64 3], .row 4 1 (.slice B107 p106.1.length d109) p106.1.length (p106.1.flatMap eB), .box g103 25 #[.slice none 0 0, .int .i64 0, .int .i64 0, .bool false, .int .i64 0], .box g102 27 #[.int .i64 x5, .int .i64 x6, .int .i64 x7, .bool x8], .box g101 25 #[.slice A0 x0.length c0, .int .i64 x1, .int .i64 x2, .bool x3, .int .i64 x4]] := S
              clear q0 q1 q2 q3 q4 q5 q6 q7 q8 q9 q10 q11 q12 q13
              have hF := hF.region hB [(56, .pointer (some ⟨g102, 1, none⟩)), (57, .int .i64 x6), (58, .pointer (some ⟨g102, 2, none⟩)), (59, .int .i64 x7), (60, .pointer (some ⟨g102, 3, none⟩)), (61, .bool x8), (62, .pointer (some ⟨g110, 1, none⟩)), (63, .pointer (some ⟨g110, 2, none⟩)), (64, .pointer (some ⟨g110, 3, none⟩)), (65, .pointer (some ⟨g110, 4, none⟩))] (allSl_mem ⟨e56, e57, e58, e59, e60, e61, e62, e63, e64, e65, trivial⟩) rfl
              clear hB e56 e57 e58 e59 e60 e61 e62 e63 e64 e65
              obtain rfl := Option.some.inj hM115
              exact ⟨(p106.1, x6, x7, x8, 3), B107, d109, rfl, hF.keep _ ⟨rfl, rfl, rfl, trivial⟩, S.sel [0, 2, 3, 4, 1] rfl rfl⟩
          · replace hM115 := bif_t hc158 hM115
            refine cond_t hF rfl hc158 ?_
            refine wp_seq ?_
            refine wp_region_lit ?_
            refine op_val (v := .agg #[.slice B107 p106.1.length d109, .int .i64 p106.2.1, .int .i64 p106.2.2.1, .bool p106.2.2.2.1, .int .i64 p106.2.2.2.2]) rfl rfl hF rfl (run_loadN rfl ag25 (hF.ev rfl) rfl ((S.free 0 rfl).cells 0 #[.slice B107 p106.1.length d109, .int .i64 p106.2.1, .int .i64 p106.2.2.1, .bool p106.2.2.2.1, .int .i64 p106.2.2.2.2] rfl)) ?_; clear hF; intro a hF
            refine op_do rfl rfl (run_store (cs' := #[.slice B107 p106.1.length d109, .int .i64 p106.2.1, .int .i64 p106.2.2.1, .bool p106.2.2.2.1, .int .i64 p106.2.2.2.2]) rfl sz25 (hF.ev rfl) (hF.ev rfl) rfl rfl rfl (S.free 2 rfl) rfl rfl) ?_; replace S := S.put 2 rfl (#[.slice B107 p106.1.length d109, .int .i64 p106.2.1, .int .i64 p106.2.2.1, .bool p106.2.2.2.1, .int .i64 p106.2.2.2.2])
            generalize World.setRow _ _ _ = u at S ⊢
            refine op_val (v := .bool false) rfl rfl hF rfl (run_assign rfl rfl) ?_; clear hF; intro a hF
            refine wpList_nil ?_
            refine wp_ret ?_
            repeat with_reducible (first | refine then_ret ?_ | refine in_ret ?_ | refine in_nrm ?_)
            refine ret2_gw (.inl rfl) hF rfl (res_cell (hF.ev rfl) (res_loadN ag25 rfl (S.cells 2 rfl 0 #[.slice B107 p106.1.length d109, .int .i64 p106.2.1, .int .i64 p106.2.2.1, .bool p106.2.2.2.1, .int .i64 p106.2.2.2.2] rfl))) (res_tmp (hF.ev rfl)) ?_
            obtain rfl := Option.some.inj hM115
            obtain rfl := Option.some.inj hM
            exact ⟨B107, p106.1.length, d109, rfl, rfl, S.sel [1] rfl rfl⟩
    · rintro a u ⟨p111, B113, d114, rfl, hF, S⟩
      replace hM := elim_l hM
      refine wp_seq ?_
      refine wp_region_lit ?_
      refine op_val (v := .agg #[.slice B113 p111.1.length d114, .int .i64 p111.2.1, .int .i64 p111.2.2.1, .bool p111.2.2.2.1, .int .i64 p111.2.2.2.2]) rfl rfl hF rfl (run_loadN rfl ag25 (hF.ev rfl) rfl ((S.free 0 rfl).cells 0 #[.slice B113 p111.1.length d114, .int .i64 p111.2.1, .int .i64 p111.2.2.1, .bool p111.2.2.2.1, .int .i64 p111.2.2.2.2] rfl)) ?_; clear hF; intro a hF
      refine op_do rfl rfl (run_store (cs' := #[.slice B113 p111.1.length d114, .int .i64 p111.2.1, .int .i64 p111.2.2.1, .bool p111.2.2.2.1, .int .i64 p111.2.2.2.2]) rfl sz25 (hF.ev rfl) (hF.ev rfl) rfl rfl rfl (S.free 1 rfl) rfl rfl) ?_; replace S := S.put 1 rfl (#[.slice B113 p111.1.length d114, .int .i64 p111.2.1, .int .i64 p111.2.2.1, .bool p111.2.2.2.1, .int .i64 p111.2.2.2.2])
      generalize World.setRow _ _ _ = u at S ⊢
      refine op_val (v := .bool true) rfl rfl hF rfl (run_assign rfl rfl) ?_; clear hF; intro a hF
      refine wpList_nil ?_
      refine wp_ret ?_
      repeat with_reducible (first | refine then_ret ?_ | refine in_ret ?_ | refine in_nrm ?_)
      refine ret2_gw (.inl rfl) hF rfl (res_cell (hF.ev rfl) (res_loadN ag25 rfl (S.cells 1 rfl 0 #[.slice B113 p111.1.length d114, .int .i64 p111.2.1, .int .i64 p111.2.2.1, .bool p111.2.2.2.1, .int .i64 p111.2.2.2.2] rfl))) (res_tmp (hF.ev rfl)) ?_
      obtain rfl := Option.some.inj hM
      exact ⟨B113, p111.1.length, d114, rfl, rfl, S.sel [4] rfl rfl⟩

set_option maxHeartbeats 4000000 in
theorem c_laws_sameBools {x0 : List Bool} {x1 : List Bool} {A0 : Option Addr} {n0 c0 : Nat} {A1 : Option Addr} {n1 c1 : Nat} {w : World} {r : Bool} (h0 : Rt w 1 eB A0 n0 c0 x0) (h1 : Rt w 1 eB A1 n1 c1 x1) (hM : m_laws_sameBools x0 x1 = some r) :
    Calls Tryd.prog 17 #[.slice A0 n0 c0, .slice A1 n1 c1] w (fun e w' => e = .returned (.bool r) ∧ St w w' []) := by
  obtain rfl := h0.len
  obtain rfl := h1.len
  unfold m_laws_sameBools at hM
  refine calls_gw Tryd.func17 Tryd.ntmps17 rfl [(0, .slice A0 x0.length c0), (1, .slice A1 x1.length c1)] ⟨rfl, rfl, trivial⟩ rfl ?_
  intro a hF
  have S := St.nil w
  refine wp_seq ?_
  refine wp_region_lit ?_
  refine op_val (v := .bool false) rfl rfl hF rfl (run_assign rfl rfl) ?_; clear hF; intro a hF
  refine wpList_nil ?_
  refine wp_seq ?_
  refine wp_seq ?_
  refine wp_region_lit ?_
  refine op_val (v := .slice A0 x0.length c0) rfl rfl hF rfl (run_move rfl (hF.ev rfl)) ?_; clear hF; intro a hF
  refine op_val (v := .int .i64 (x0.length : Int)) rfl rfl hF rfl (run_lenL rfl rfl Tryd.underlying23 (hF.ev rfl)) ?_; clear hF; intro a hF
  refine op_val (v := .slice A1 x1.length c1) rfl rfl hF rfl (run_move rfl (hF.ev rfl)) ?_; clear hF; intro a hF
  refine op_val (v := .int .i64 (x1.length : Int)) rfl rfl hF rfl (run_lenL rfl rfl Tryd.underlying23 (hF.ev rfl)) ?_; clear hF; intro a hF
  refine op_val (v := .bool ((x0.length : Int) != (x1.length : Int))) rfl rfl hF rfl (run_neq (hF.ev rfl) (hF.ev rfl) rfl) ?_; clear hF; intro a hF
  refine wpList_nil ?_
  cases hc101 : ((x0.length : Int) != (x1.length : Int))
  · replace hM := bif_f hc101 hM
    refine cond_f hF rfl hc101 ?_
    refine wp_skip ?_
    refine wp_seq ?_
    refine wp_seq ?_
    refine wp_region_lit ?_
    refine op_val (v := .int .i64 0) rfl rfl hF rfl (run_assign rfl rfl) ?_; clear hF; intro a hF
    refine wpList_nil ?_
    obtain ⟨o103, hM104, hM⟩ := bind_ex hM
    refine wp_cut (fun a u => ∃ (p102 : Unit), (Sum.inl p102) = o103 ∧ Fr a 26 [(4, .bool false)] ∧ St w u []) ?_ ?_
    · have _ := trivial
      refine wp_block ?_
      refine loop_gw (fun m a u => ∃ (p105 : Int), m_laws_sameBools_l1 x0 x1 m p105 = some _ ∧ Fr a 26 [(0, .slice A0 x0.length c0), (1, .slice A1 x1.length c1), (4, .bool false), (5, .int .i64 p105)] ∧ St w u []) FUEL ⟨0, hM104, hF.keep _ ⟨rfl, rfl, rfl, rfl, trivial⟩, S.sel [] rfl rfl⟩ ?_
      clear hF S hM104; rintro m a u ⟨p105, hM104, hF, S⟩
      rcases m with _ | f1
      · exact none_some hM104
      rw [m_laws_sameBools_l1.eq_2] at hM104
      refine wp_seq ?_
      refine wp_seq ?_
      refine wp_region_lit ?_
      refine op_val (v := .int .i64 p105) rfl rfl hF rfl (run_move rfl (hF.ev rfl)) ?_; clear hF; intro a hF
      refine op_val (v := .slice A0 x0.length c0) rfl rfl hF rfl (run_move rfl (hF.ev rfl)) ?_; clear hF; intro a hF
      refine op_val (v := .int .i64 (x0.length : Int)) rfl rfl hF rfl (run_lenL rfl rfl Tryd.underlying23 (hF.ev rfl)) ?_; clear hF; intro a hF
      refine op_val (v := .bool (ltB p105 (x0.length : Int))) rfl rfl hF rfl (run_lss (hF.ev rfl) (hF.ev rfl) rfl) ?_; clear hF; intro a hF
      refine wpList_nil ?_
      cases hc106 : (ltB p105 (x0.length : Int))
      · replace hM104 := bif_f hc106 hM104
        refine cond_f hF rfl hc106 ?_
        refine wp_exit ?_
        repeat with_reducible (first | refine then_exit ?_ | refine in_hit ?_ | refine in_miss rfl ?_)
        obtain rfl := Option.some.inj hM104
        exact ⟨(), rfl, hF.keep _ ⟨rfl, trivial⟩, S.sel [] rfl rfl⟩
      · replace hM104 := bif_t hc106 hM104
        refine cond_t hF rfl hc106 ?_
        refine wp_skip ?_
        refine wp_seq ?_
        refine wp_block ?_
        refine wp_seq ?_
        obtain ⟨hk107, hM104⟩ := chk_ex hM104
        replace hk107 := ixB_t hk107
        obtain ⟨hk108, hM104⟩ := chk_ex hM104
        replace hk108 := ixB_t hk108
        refine region_gw (D := [17, 18, 19, 20, 21, 22, 23, 24, 25]) (Lr := []) (deps := (fun | 0 => [17] | 1 => [18] | 2 => [19] | 3 => [20] | 4 => [21] | 5 => [22] | 6 => [23] | 7 => [24] | 8 => [25] | _ => [])) (rd := (fun _ => [])) (zr := (fun _ => []))
          (φ := fun i vs => match i, vs with | 0, [v17] => v17 = .slice A0 x0.length c0 | 1, [v18] => v18 = .int .i64 p105 | 2, [v19] => v19 = .pointer (some ⟨adB A0, adO A0 + p105.toNat * 1, none⟩) | 3, [v20] => v20 = .bool (x0.getD p105.toNat false) | 4, [v21] => v21 = .slice A1 x1.length c1 | 5, [v22] => v22 = .int .i64 p105 | 6, [v23] => v23 = .pointer (some ⟨adB A1, adO A1 + p105.toNat * 1, none⟩) | 7, [v24] => v24 = .bool (x1.getD p105.toNat false) | 8, [v25] => v25 = .bool ((x0.getD p105.toNat false) != (x1.getD p105.toNat false)) | _, _ => True)
          (C := fun _ _ => [])
          (κ := (fun _ => none)) (Z := (fun _ => [])) mixed hF (by kernel_rfl) S ?_ ?_
        · refine ⟨?_, ?_, ?_, ?_, ?_, ?_, ?_, ?_, ?_, trivial⟩
          · intro a u X hB hu hp hr hz hl S
            replace S : St w u ([] ++ X) := S
            exact .inl ⟨rfl, .slice A0 x0.length c0, u, (run_move rfl (hF.evB hB rfl rfl)), rfl, S⟩
          · intro a u X hB hu hp hr hz hl S
            replace S : St w u ([] ++ X) := S
            exact .inl ⟨rfl, .int .i64 p105, u, (run_move rfl (hF.evB hB rfl rfl)), rfl, S⟩
          · intro a u X hB hu hp hr hz hl S
            replace S : St w u ([] ++ X) := S
            have e17 : sl a 17 = .slice A0 x0.length c0 := hp 0 rfl
            have e18 : sl a 18 = .int .i64 p105 := hp 1 rfl
            exact .inl ⟨rfl, .pointer (some ⟨adB A0, adO A0 + p105.toNat * 1, none⟩), u, (run_indexAddr (b := adB A0) (off := adO A0) rfl Tryd.underlying23 sz4 ((ev_sl e17).trans (congrArg (fun A => Value.slice A x0.length c0) ((S.rc0 h0.rc).rd.ad (ix_pos hk107)))) (ev_sl e18) hk107.1 hk107.2 (k' := adO A0 + p105.toNat * 1) rfl), rfl, S⟩
          · intro a u X hB hu hp hr hz hl S
            replace S : St w u ([] ++ X) := S
            have e19 : sl a 19 = .pointer (some ⟨adB A0, adO A0 + p105.toNat * 1, none⟩) := hp 2 rfl
            exact .inl ⟨rfl, .bool (x0.getD p105.toNat false), u, (run_load1 rfl one4 (ev_sl e19) (rd_el0 (l := x0) (S.rc0 h0.rc).rd rfl eB_len false (ix_ltn hk107 rfl) rfl)), rfl, S⟩
          · intro a u X hB hu hp hr hz hl S
            replace S : St w u ([] ++ X) := S
            exact .inl ⟨rfl, .slice A1 x1.length c1, u, (run_move rfl (hF.evB hB rfl rfl)), rfl, S⟩
          · intro a u X hB hu hp hr hz hl S
            replace S : St w u ([] ++ X) := S
            exact .inl ⟨rfl, .int .i64 p105, u, (run_move rfl (hF.evB hB rfl rfl)), rfl, S⟩
          · intro a u X hB hu hp hr hz hl S
            replace S : St w u ([] ++ X) := S
            have e21 : sl a 21 = .slice A1 x1.length c1 := hp 4 rfl
            have e22 : sl a 22 = .int .i64 p105 := hp 5 rfl
            exact .inl ⟨rfl, .pointer (some ⟨adB A1, adO A1 + p105.toNat * 1, none⟩), u, (run_indexAddr (b := adB A1) (off := adO A1) rfl Tryd.underlying23 sz4 ((ev_sl e21).trans (congrArg (fun A => Value.slice A x1.length c1) ((S.rc0 h1.rc).rd.ad (ix_pos hk108)))) (ev_sl e22) hk108.1 hk108.2 (k' := adO A1 + p105.toNat * 1) rfl), rfl, S⟩
          · intro a u X hB hu hp hr hz hl S
            replace S : St w u ([] ++ X) := S
            have e23 : sl a 23 = .pointer (some ⟨adB A1, adO A1 + p105.toNat * 1, none⟩) := hp 6 rfl
            exact .inl ⟨rfl, .bool (x1.getD p105.toNat false), u, (run_load1 rfl one4 (ev_sl e23) (rd_el0 (l := x1) (S.rc0 h1.rc).rd rfl eB_len false (ix_ltn hk108 rfl) rfl)), rfl, S⟩
          · intro a u X hB hu hp hr hz hl S
            replace S : St w u ([] ++ X) := S
            have e20 : sl a 20 = .bool (x0.getD p105.toNat false) := hp 3 rfl
            have e24 : sl a 24 = .bool (x1.getD p105.toNat false) := hp 7 rfl
            exact .inl ⟨rfl, .bool ((x0.getD p105.toNat false) != (x1.getD p105.toNat false)), u, (run_neqB (ev_sl e20) (ev_sl e24) Tryd.underlying4 rfl), rfl, S⟩
        · intro a u hB hp S
          obtain ⟨q0, q1, q2, q3, q4, q5, q6, q7, q8, _⟩ := hp
          have e17 : sl a 17 = .slice A0 x0.length c0 := q0
          have e18 : sl a 18 = .int .i64 p105 := q1
          have e19 : sl a 19 = .pointer (some ⟨adB A0, adO A0 + p105.toNat * 1, none⟩) := q2
          have e20 : sl a 20 = .bool (x0.getD p105.toNat false) := q3
          have e21 : sl a 21 = .slice A1 x1.length c1 := q4
          have e22 : sl a 22 = .int .i64 p105 := q5
          have e23 : sl a 23 = .pointer (some ⟨adB A1, adO A1 + p105.toNat * 1, none⟩) := q6
          have e24 : sl a 24 = .bool (x1.getD p105.toNat false) := q7
          have e25 : sl a 25 = .bool ((x0.getD p105.toNat false) != (x1.getD p105.toNat false)) := q8
          replace S : St w u [] := S
          clear q0 q1 q2 q3 q4 q5 q6 q7 q8
          have hF := hF.region hB [(17, .slice A0 x0.length c0), (18, .int .i64 p105), (19, .pointer (some ⟨adB A0, adO A0 + p105.toNat * 1, none⟩)), (20, .bool (x0.getD p105.toNat false)), (21, .slice A1 x1.length c1), (22, .int .i64 p105), (23, .pointer (some ⟨adB A1, adO A1 + p105.toNat * 1, none⟩)), (24, .bool (x1.getD p105.toNat false)), (25, .bool ((x0.getD p105.toNat false) != (x1.getD p105.toNat false)))] (allSl_mem ⟨e17, e18, e19, e20, e21, e22, e23, e24, e25, trivial⟩) rfl
          clear hB e17 e18 e19 e20 e21 e22 e23 e24 e25
          cases hc109 : ((x0.getD p105.toNat false) != (x1.getD p105.toNat false))
          · replace hM104 := bif_f hc109 hM104
            refine cond_f hF rfl hc109 ?_
            refine wp_skip ?_
            refine wp_region_lit ?_
            refine op_val (v := .int .i64 p105) rfl rfl hF rfl (run_move rfl (hF.ev rfl)) ?_; clear hF; intro a hF
            refine op_val (v := .int .i64 (w64 (p105 + 1))) rfl rfl hF rfl (run_add (z := w64 (p105 + 1)) (hF.ev rfl) rfl rfl rfl) ?_; clear hF; intro a hF
            refine op_val (v := .int .i64 (w64 (p105 + 1))) rfl rfl hF rfl (run_assign rfl (hF.ev rfl)) ?_; clear hF; intro a hF
            refine wpList_nil ?_
            exact ⟨f1, Nat.lt_succ_self _, w64 (p105 + 1), hM104, hF.keep _ ⟨rfl, rfl, rfl, rfl, trivial⟩, S.sel [] rfl rfl⟩
          · replace hM104 := bif_t hc109 hM104
            refine cond_t hF rfl hc109 ?_
            refine wp_seq ?_
            refine wp_region_lit ?_
            refine op_val (v := .bool false) rfl rfl hF rfl (run_assign rfl rfl) ?_; clear hF; intro a hF
            refine wpList_nil ?_
            refine wp_ret ?_
            repeat with_reducible (first | refine then_ret ?_ | refine in_ret ?_ | refine in_nrm ?_)
            refine ret1_gw (.inl rfl) hF rfl (res_tmp (hF.ev rfl)) ?_
            obtain rfl := Option.some.inj hM104
            obtain rfl := Option.some.inj hM
            exact ⟨rfl, S.sel [] rfl rfl⟩
    · rintro a u ⟨p102, rfl, hF, S⟩
      replace hM := elim_l hM
      refine wp_seq ?_
      refine wp_region_lit ?_
      refine op_val (v := .bool true) rfl rfl hF rfl (run_assign rfl rfl) ?_; clear hF; intro a hF
      refine wpList_nil ?_
      refine wp_ret ?_
      repeat with_reducible (first | refine then_ret ?_ | refine in_ret ?_ | refine in_nrm ?_)
      refine ret1_gw (.inl rfl) hF rfl (res_tmp (hF.ev rfl)) ?_
      obtain rfl := Option.some.inj hM
      exact ⟨rfl, S.sel [] rfl rfl⟩
  · replace hM := bif_t hc101 hM
    refine cond_t hF rfl hc101 ?_
    refine wp_seq ?_
    refine wp_region_lit ?_
    refine op_val (v := .bool false) rfl rfl hF rfl (run_assign rfl rfl) ?_; clear hF; intro a hF
    refine wpList_nil ?_
    refine wp_ret ?_
    repeat with_reducible (first | refine then_ret ?_ | refine in_ret ?_ | refine in_nrm ?_)
    refine ret1_gw (.inl rfl) hF rfl (res_tmp (hF.ev rfl)) ?_
    obtain rfl := Option.some.inj hM
    exact ⟨rfl, S.sel [] rfl rfl⟩

set_option maxHeartbeats 4000000 in
theorem c_laws_samePanel {x0 : List Bool} {x1 : Int} {x2 : Int} {x3 : Bool} {x4 : Int} {x5 : List Bool} {x6 : Int} {x7 : Int} {x8 : Bool} {x9 : Int} {A0 : Option Addr} {n0 c0 : Nat} {A5 : Option Addr} {n5 c5 : Nat} {w : World} {r : Bool} (h0 : Rt w 1 eB A0 n0 c0 x0) (h5 : Rt w 1 eB A5 n5 c5 x5) (hM : m_laws_samePanel x0 x1 x2 x3 x4 x5 x6 x7 x8 x9 = some r) :
    Calls Tryd.prog 9 #[.agg #[.slice A0 n0 c0, .int .i64 x1, .int .i64 x2, .bool x3, .int .i64 x4], .agg #[.slice A5 n5 c5, .int .i64 x6, .int .i64 x7, .bool x8, .int .i64 x9]] w (fun e w' => e = .returned (.bool r) ∧ St w w' []) := by
  obtain rfl := h0.len
  obtain rfl := h5.len
  unfold m_laws_samePanel at hM
  refine calls_gw Tryd.func9 Tryd.ntmps9 rfl [(0, .agg #[.slice A0 x0.length c0, .int .i64 x1, .int .i64 x2, .bool x3, .int .i64 x4]), (1, .agg #[.slice A5 x5.length c5, .int .i64 x6, .int .i64 x7, .bool x8, .int .i64 x9])] ⟨rfl, rfl, trivial⟩ rfl ?_
  intro a hF
  have S := St.nil w
  refine wp_seq ?_
  refine wp_region_lit ?_
  refine op_new (cs := #[.slice A0 x0.length c0, .int .i64 x1, .int .i64 x2, .bool x3, .int .i64 x4]) rfl rfl hF rfl S (run_box rfl (hF.ev rfl) rfl) ?_; clear hF S; intro a g101 u hF S
  refine op_new (cs := #[.slice A5 x5.length c5, .int .i64 x6, .int .i64 x7, .bool x8, .int .i64 x9]) rfl rfl hF rfl S (run_box rfl (hF.ev rfl) rfl) ?_; clear hF S; intro a g102 u hF S
  refine op_val (v := .bool false) rfl rfl hF rfl (run_assign rfl rfl) ?_; clear hF; intro a hF
  refine wpList_nil ?_
  refine wp_seq ?_
  refine wp_region_lit ?_
  refine op_val (v := .pointer (some ⟨g101, 1, none⟩)) rfl rfl hF rfl (run_fieldAddr rfl fl25_1 (hF.ev rfl) rfl) ?_; clear hF; intro a hF
  refine op_val (v := .int .i64 x1) rfl rfl hF rfl (run_load1 rfl one3 (hF.ev rfl) ((S.free 1 rfl).cell rfl)) ?_; clear hF; intro a hF
  refine op_val (v := .pointer (some ⟨g102, 1, none⟩)) rfl rfl hF rfl (run_fieldAddr rfl fl25_1 (hF.ev rfl) rfl) ?_; clear hF; intro a hF
  refine op_val (v := .int .i64 x6) rfl rfl hF rfl (run_load1 rfl one3 (hF.ev rfl) ((S.free 0 rfl).cell rfl)) ?_; clear hF; intro a hF
  refine op_val (v := .bool (x1 == x6)) rfl rfl hF rfl (run_eql (hF.ev rfl) (hF.ev rfl) rfl) ?_; clear hF; intro a hF
  refine op_val (v := .bool (x1 == x6)) rfl rfl hF rfl (run_move rfl (hF.ev rfl)) ?_; clear hF; intro a hF
  refine op_gv (v := .pointer (some ⟨g101, 2, none⟩)) rfl rfl hF rfl (yt (gw_yield hF rfl rfl rfl)) (fun hg => (run_fieldAddr rfl fl25_2 (hF.ev rfl) rfl)) ?_; clear hF; intro a hF
  refine op_gv (v := .int .i64 x2) rfl rfl hF rfl (yt (gw_yield hF rfl rfl rfl)) (fun hg => (run_load1 rfl one3 ((hF.ev rfl).trans (gv_t hg)) ((S.free 1 rfl).cell rfl))) ?_; clear hF; intro a hF
  refine op_gv (v := .pointer (some ⟨g102, 2, none⟩)) rfl rfl hF rfl (yt (gw_yield hF rfl rfl rfl)) (fun hg => (run_fieldAddr rfl fl25_2 (hF.ev rfl) rfl)) ?_; clear hF; intro a hF
  refine op_gv (v := .int .i64 x7) rfl rfl hF rfl (yt (gw_yield hF rfl rfl rfl)) (fun hg => (run_load1 rfl one3 ((hF.ev rfl).trans (gv_t hg)) ((S.free 0 rfl).cell rfl))) ?_; clear hF; intro a hF
  refine op_gv (v := .bool (x2 == x7)) rfl rfl hF rfl (yt (gw_yield hF rfl rfl rfl)) (fun hg => (run_eql ((hF.ev rfl).trans (gv_t hg)) ((hF.ev rfl).trans (gv_t hg)) rfl)) ?_; clear hF; intro a hF
  refine op_val (v := .bool ((x1 == x6) && (x2 == x7))) rfl rfl hF rfl (run_pick_and rfl (hF.ev rfl) (fun hp => ((hF.ev rfl).trans (gv_t hp))) rfl) ?_; clear hF; intro a hF
  refine op_val (v := .bool ((x1 == x6) && (x2 == x7))) rfl rfl hF rfl (run_move rfl (hF.ev rfl)) ?_; clear hF; intro a hF
  refine op_gv (v := .pointer (some ⟨g101, 3, none⟩)) rfl rfl hF rfl (yt (gw_yield hF rfl rfl rfl)) (fun hg => (run_fieldAddr rfl fl25_3 (hF.ev rfl) rfl)) ?_; clear hF; intro a hF
  refine op_gv (v := .bool x3) rfl rfl hF rfl (yt (gw_yield hF rfl rfl rfl)) (fun hg => (run_load1 rfl one4 ((hF.ev rfl).trans (gv_t hg)) ((S.free 1 rfl).cell rfl))) ?_; clear hF; intro a hF
  refine op_gv (v := .pointer (some ⟨g102, 3, none⟩)) rfl rfl hF rfl (yt (gw_yield hF rfl rfl rfl)) (fun hg => (run_fieldAddr rfl fl25_3 (hF.ev rfl) rfl)) ?_; clear hF; intro a hF
  refine op_gv (v := .bool x8) rfl rfl hF rfl (yt (gw_yield hF rfl rfl rfl)) (fun hg => (run_load1 rfl one4 ((hF.ev rfl).trans (gv_t hg)) ((S.free 0 rfl).cell rfl))) ?_; clear hF; intro a hF
  refine op_gv (v := .bool (x3 == x8)) rfl rfl hF rfl (yt (gw_yield hF rfl rfl rfl)) (fun hg => (run_eqlB ((hF.ev rfl).trans (gv_t hg)) ((hF.ev rfl).trans (gv_t hg)) Tryd.underlying4 rfl)) ?_; clear hF; intro a hF
  refine op_val (v := .bool (((x1 == x6) && (x2 == x7)) && (x3 == x8))) rfl rfl hF rfl (run_pick_and rfl (hF.ev rfl) (fun hp => ((hF.ev rfl).trans (gv_t hp))) rfl) ?_; clear hF; intro a hF
  refine op_val (v := .bool (((x1 == x6) && (x2 == x7)) && (x3 == x8))) rfl rfl hF rfl (run_move rfl (hF.ev rfl)) ?_; clear hF; intro a hF
  refine op_gv (v := .pointer (some ⟨g101, 4, none⟩)) rfl rfl hF rfl (yt (gw_yield hF rfl rfl rfl)) (fun hg => (run_fieldAddr rfl fl25_4 (hF.ev rfl) rfl)) ?_; clear hF; intro a hF
  refine op_gv (v := .int .i64 x4) rfl rfl hF rfl (yt (gw_yield hF rfl rfl rfl)) (fun hg => (run_load1 rfl one3 ((hF.ev rfl).trans (gv_t hg)) ((S.free 1 rfl).cell rfl))) ?_; clear hF; intro a hF
  refine op_gv (v := .pointer (some ⟨g102, 4, none⟩)) rfl rfl hF rfl (yt (gw_yield hF rfl rfl rfl)) (fun hg => (run_fieldAddr rfl fl25_4 (hF.ev rfl) rfl)) ?_; clear hF; intro a hF
  refine op_gv (v := .int .i64 x9) rfl rfl hF rfl (yt (gw_yield hF rfl rfl rfl)) (fun hg => (run_load1 rfl one3 ((hF.ev rfl).trans (gv_t hg)) ((S.free 0 rfl).cell rfl))) ?_; clear hF; intro a hF
  refine op_gv (v := .bool (x4 == x9)) rfl rfl hF rfl (yt (gw_yield hF rfl rfl rfl)) (fun hg => (run_eql ((hF.ev rfl).trans (gv_t hg)) ((hF.ev rfl).trans (gv_t hg)) rfl)) ?_; clear hF; intro a hF
  refine op_val (v := .bool ((((x1 == x6) && (x2 == x7)) && (x3 == x8)) && (x4 == x9))) rfl rfl hF rfl (run_pick_and rfl (hF.ev rfl) (fun hp => ((hF.ev rfl).trans (gv_t hp))) rfl) ?_; clear hF; intro a hF
  refine op_val (v := .bool ((((x1 == x6) && (x2 == x7)) && (x3 == x8)) && (x4 == x9))) rfl rfl hF rfl (run_move rfl (hF.ev rfl)) ?_; clear hF; intro a hF
  refine op_gv (v := .pointer (some ⟨g101, 0, none⟩)) rfl rfl hF rfl (yt (gw_yield hF rfl rfl rfl)) (fun hg => (run_fieldAddr rfl fl25_0 (hF.ev rfl) rfl)) ?_; clear hF; intro a hF
  refine op_gv (v := .slice A0 x0.length c0) rfl rfl hF rfl (yt (gw_yield hF rfl rfl rfl)) (fun hg => (run_load1 rfl one23 ((hF.ev rfl).trans (gv_t hg)) ((S.free 1 rfl).cell rfl))) ?_; clear hF; intro a hF
  refine op_gv (v := .pointer (some ⟨g102, 0, none⟩)) rfl rfl hF rfl (yt (gw_yield hF rfl rfl rfl)) (fun hg => (run_fieldAddr rfl fl25_0 (hF.ev rfl) rfl)) ?_; clear hF; intro a hF
  refine op_gv (v := .slice A5 x5.length c5) rfl rfl hF rfl (yt (gw_yield hF rfl rfl rfl)) (fun hg => (run_load1 rfl one23 ((hF.ev rfl).trans (gv_t hg)) ((S.free 0 rfl).cell rfl))) ?_; clear hF; intro a hF
  obtain ⟨p103, h103, hM⟩ := bind_ex hM
  refine op_gcall (v := .bool p103) rfl rfl hF rfl S (yt (gw_yield hF rfl rfl rfl)) (fun hg => (run_call (vs := [.slice A0 x0.length c0, .slice A5 x5.length c5]) rfl rfl co17 ⟨((hF.ev rfl).trans (gv_t hg)), ((hF.ev rfl).trans (gv_t hg)), trivial⟩)) (fun hg => c_laws_sameBools (x0 := x0) (x1 := x5) ⟨(S.rc0 h0.rc), rfl⟩ ⟨(S.rc0 h5.rc), rfl⟩ (gb_t h103 hg)) ?_; clear hF S; intro a u hF S
  refine op_val (v := .bool (((((x1 == x6) && (x2 == x7)) && (x3 == x8)) && (x4 == x9)) && p103)) rfl rfl hF rfl (run_pick_and rfl (hF.ev rfl) (fun hp => ((hF.ev rfl).trans (gv_t hp))) rfl) ?_; clear hF; intro a hF
  refine op_val (v := .bool (((((x1 == x6) && (x2 == x7)) && (x3 == x8)) && (x4 == x9)) && p103)) rfl rfl hF rfl (run_assign rfl (hF.ev rfl)) ?_; clear hF; intro a hF
  refine wpList_nil ?_
  refine wp_ret ?_
  repeat with_reducible (first | refine then_ret ?_ | refine in_ret ?_ | refine in_nrm ?_)
  refine ret1_gw (.inl rfl) hF rfl (res_tmp (hF.ev rfl)) ?_
  obtain rfl := Option.some.inj hM
  exact ⟨rfl, S.sel [] rfl rfl⟩

set_option maxHeartbeats 4000000 in
theorem c_impl_Net_hasLine {x0 : Int} {x1 : List (Int × Int × Int)} {x2 : Int} {A1 : Option Addr} {n1 c1 : Nat} {w : World} {r : Bool} (h1 : Rt w 3 eLine A1 n1 c1 x1) (hM : m_impl_Net_hasLine x0 x1 x2 = some r) :
    Calls Tryd.prog 39 #[.agg #[.int .i64 x0, .slice A1 n1 c1], .int .i64 x2] w (fun e w' => e = .returned (.bool r) ∧ St w w' []) := by
  obtain rfl := h1.len
  unfold m_impl_Net_hasLine at hM
  refine calls_gw Tryd.func39 Tryd.ntmps39 rfl [(0, .agg #[.int .i64 x0, .slice A1 x1.length c1]), (1, .int .i64 x2)] ⟨rfl, rfl, trivial⟩ rfl ?_
  intro a hF
  have S := St.nil w
  refine wp_seq ?_
  refine wp_region_lit ?_
  refine op_new (cs := #[.int .i64 x0, .slice A1 x1.length c1]) rfl rfl hF rfl S (run_box rfl (hF.ev rfl) rfl) ?_; clear hF S; intro a g101 u hF S
  refine op_val (v := .bool false) rfl rfl hF rfl (run_assign rfl rfl) ?_; clear hF; intro a hF
  refine wpList_nil ?_
  refine wp_seq ?_
  refine wp_region_lit ?_
  refine op_val (v := .int .i64 x2) rfl rfl hF rfl (run_move rfl (hF.ev rfl)) ?_; clear hF; intro a hF
  refine op_val (v := .bool (leB 0 x2)) rfl rfl hF rfl (run_geq (hF.ev rfl) rfl rfl) ?_; clear hF; intro a hF
  refine op_val (v := .bool (leB 0 x2)) rfl rfl hF rfl (run_move rfl (hF.ev rfl)) ?_; clear hF; intro a hF
  refine op_gv (v := .int .i64 x2) rfl rfl hF rfl (yt (gw_yield hF rfl rfl rfl)) (fun hg => (run_move rfl (hF.ev rfl))) ?_; clear hF; intro a hF
  refine op_gv (v := .pointer (some ⟨g101, 1, none⟩)) rfl rfl hF rfl (yt (gw_yield hF rfl rfl rfl)) (fun hg => (run_fieldAddr rfl fl63_1 (hF.ev rfl) rfl)) ?_; clear hF; intro a hF
  refine op_gv (v := .slice A1 x1.length c1) rfl rfl hF rfl (yt (gw_yield hF rfl rfl rfl)) (fun hg => (run_load1 rfl one61 ((hF.ev rfl).trans (gv_t hg)) ((S.free 0 rfl).cell rfl))) ?_; clear hF; intro a hF
  refine op_gv (v := .int .i64 (x1.length : Int)) rfl rfl hF rfl (yt (gw_yield hF rfl rfl rfl)) (fun hg => (run_lenL rfl rfl Tryd.underlying61 ((hF.ev rfl).trans (gv_t hg)))) ?_; clear hF; intro a hF
  refine op_gv (v := .bool (ltB x2 (x1.length : Int))) rfl rfl hF rfl (yt (gw_yield hF rfl rfl rfl)) (fun hg => (run_lss ((hF.ev rfl).trans (gv_t hg)) ((hF.ev rfl).trans (gv_t hg)) rfl)) ?_; clear hF; intro a hF
  refine op_val (v := .bool ((leB 0 x2) && (ltB x2 (x1.length : Int)))) rfl rfl hF rfl (run_pick_and rfl (hF.ev rfl) (fun hp => ((hF.ev rfl).trans (gv_t hp))) rfl) ?_; clear hF; intro a hF
  refine op_val (v := .bool ((leB 0 x2) && (ltB x2 (x1.length : Int)))) rfl rfl hF rfl (run_assign rfl (hF.ev rfl)) ?_; clear hF; intro a hF
  refine wpList_nil ?_
  refine wp_ret ?_
  repeat with_reducible (first | refine then_ret ?_ | refine in_ret ?_ | refine in_nrm ?_)
  refine ret1_gw (.inl rfl) hF rfl (res_tmp (hF.ev rfl)) ?_
  obtain rfl := Option.some.inj hM
  exact ⟨rfl, S.sel [] rfl rfl⟩

set_option maxHeartbeats 4000000 in
theorem c_impl_Line_other {x0 : Int} {x1 : Int} {x2 : Int} {x3 : Int} {w : World} {r : Int}  (hM : m_impl_Line_other x0 x1 x2 x3 = some r) :
    Calls Tryd.prog 40 #[.agg #[.int .i64 x0, .int .i64 x1, .int .i64 x2], .int .i64 x3] w (fun e w' => e = .returned (.int .i64 r) ∧ St w w' []) := by
  unfold m_impl_Line_other at hM
  refine calls_gw Tryd.func40 Tryd.ntmps40 rfl [(0, .agg #[.int .i64 x0, .int .i64 x1, .int .i64 x2]), (1, .int .i64 x3)] ⟨rfl, rfl, trivial⟩ rfl ?_
  intro a hF
  have S := St.nil w
  refine wp_seq ?_
  refine wp_region_lit ?_
  refine op_new (cs := #[.int .i64 x0, .int .i64 x1, .int .i64 x2]) rfl rfl hF rfl S (run_box rfl (hF.ev rfl) rfl) ?_; clear hF S; intro a g101 u hF S
  refine op_val (v := .int .i64 0) rfl rfl hF rfl (run_assign rfl rfl) ?_; clear hF; intro a hF
  refine wpList_nil ?_
  refine wp_seq ?_
  refine wp_seq ?_
  refine wp_region_lit ?_
  refine op_val (v := .int .i64 x3) rfl rfl hF rfl (run_move rfl (hF.ev rfl)) ?_; clear hF; intro a hF
  refine wpList_nil ?_
  refine wp_block ?_
  refine wp_seq ?_
  refine wp_region_lit ?_
  refine op_val (v := .pointer (some ⟨g101, 0, none⟩)) rfl rfl hF rfl (run_fieldAddr rfl fl60_0 (hF.ev rfl) rfl) ?_; clear hF; intro a hF
  refine op_val (v := .int .i64 x0) rfl rfl hF rfl (run_load1 rfl one3 (hF.ev rfl) ((S.free 0 rfl).cell rfl)) ?_; clear hF; intro a hF
  refine op_val (v := .bool (x3 == x0)) rfl rfl hF rfl (run_eql (hF.ev rfl) (hF.ev rfl) rfl) ?_; clear hF; intro a hF
  refine op_val (v := .bool (x3 == x0)) rfl rfl hF rfl (run_assign rfl (hF.ev rfl)) ?_; clear hF; intro a hF
  refine wpList_nil ?_
  cases hc102 : (x3 == x0)
  · replace hM := bif_f hc102 hM
    refine cond_f hF rfl hc102 ?_
    refine wp_seq ?_
    refine wp_region_lit ?_
    refine op_val (v := .pointer (some ⟨g101, 1, none⟩)) rfl rfl hF rfl (run_fieldAddr rfl fl60_1 (hF.ev rfl) rfl) ?_; clear hF; intro a hF
    refine op_val (v := .int .i64 x1) rfl rfl hF rfl (run_load1 rfl one3 (hF.ev rfl) ((S.free 0 rfl).cell rfl)) ?_; clear hF; intro a hF
    refine op_val (v := .bool (x3 == x1)) rfl rfl hF rfl (run_eql (hF.ev rfl) (hF.ev rfl) rfl) ?_; clear hF; intro a hF
    refine op_val (v := .bool (x3 == x1)) rfl rfl hF rfl (run_assign rfl (hF.ev rfl)) ?_; clear hF; intro a hF
    refine wpList_nil ?_
    cases hc103 : (x3 == x1)
    · replace hM := bif_f hc103 hM
      refine cond_f hF rfl hc103 ?_
      refine wp_skip ?_
      refine wp_seq ?_
      refine wp_region_lit ?_
      refine op_val (v := .int .i64 (-1)) rfl rfl hF rfl (run_assign rfl rfl) ?_; clear hF; intro a hF
      refine wpList_nil ?_
      refine wp_ret ?_
      repeat with_reducible (first | refine then_ret ?_ | refine in_ret ?_ | refine in_nrm ?_)
      refine ret1_gw (.inl rfl) hF rfl (res_tmp (hF.ev rfl)) ?_
      obtain rfl := Option.some.inj hM
      exact ⟨rfl, S.sel [] rfl rfl⟩
    · replace hM := bif_t hc103 hM
      refine cond_t hF rfl hc103 ?_
      refine wp_seq ?_
      refine wp_region_lit ?_
      refine op_val (v := .pointer (some ⟨g101, 0, none⟩)) rfl rfl hF rfl (run_fieldAddr rfl fl60_0 (hF.ev rfl) rfl) ?_; clear hF; intro a hF
      refine op_val (v := .int .i64 x0) rfl rfl hF rfl (run_load1 rfl one3 (hF.ev rfl) ((S.free 0 rfl).cell rfl)) ?_; clear hF; intro a hF
      refine op_val (v := .int .i64 x0) rfl rfl hF rfl (run_assign rfl (hF.ev rfl)) ?_; clear hF; intro a hF
      refine wpList_nil ?_
      refine wp_ret ?_
      repeat with_reducible (first | refine then_ret ?_ | refine in_ret ?_ | refine in_nrm ?_)
      refine ret1_gw (.inl rfl) hF rfl (res_tmp (hF.ev rfl)) ?_
      obtain rfl := Option.some.inj hM
      exact ⟨rfl, S.sel [] rfl rfl⟩
  · replace hM := bif_t hc102 hM
    refine cond_t hF rfl hc102 ?_
    refine wp_seq ?_
    refine wp_region_lit ?_
    refine op_val (v := .pointer (some ⟨g101, 1, none⟩)) rfl rfl hF rfl (run_fieldAddr rfl fl60_1 (hF.ev rfl) rfl) ?_; clear hF; intro a hF
    refine op_val (v := .int .i64 x1) rfl rfl hF rfl (run_load1 rfl one3 (hF.ev rfl) ((S.free 0 rfl).cell rfl)) ?_; clear hF; intro a hF
    refine op_val (v := .int .i64 x1) rfl rfl hF rfl (run_assign rfl (hF.ev rfl)) ?_; clear hF; intro a hF
    refine wpList_nil ?_
    refine wp_ret ?_
    repeat with_reducible (first | refine then_ret ?_ | refine in_ret ?_ | refine in_nrm ?_)
    refine ret1_gw (.inl rfl) hF rfl (res_tmp (hF.ev rfl)) ?_
    obtain rfl := Option.some.inj hM
    exact ⟨rfl, S.sel [] rfl rfl⟩

set_option maxHeartbeats 4000000 in
theorem c_impl_OtherEnd {x0 : Int} {x1 : List (Int × Int × Int)} {x2 : Int} {x3 : Int} {A1 : Option Addr} {n1 c1 : Nat} {w : World} {r : Int} (h1 : Rt w 3 eLine A1 n1 c1 x1) (hM : m_impl_OtherEnd x0 x1 x2 x3 = some r) :
    Calls Tryd.prog 32 #[.agg #[.int .i64 x0, .slice A1 n1 c1], .int .i64 x2, .int .i64 x3] w (fun e w' => e = .returned (.int .i64 r) ∧ St w w' []) := by
  obtain rfl := h1.len
  unfold m_impl_OtherEnd at hM
  refine calls_gw Tryd.func32 Tryd.ntmps32 rfl [(0, .agg #[.int .i64 x0, .slice A1 x1.length c1]), (1, .int .i64 x2), (2, .int .i64 x3)] ⟨rfl, rfl, rfl, trivial⟩ rfl ?_
  intro a hF
  have S := St.nil w
  refine wp_seq ?_
  refine wp_region_lit ?_
  refine op_new (cs := #[.int .i64 x0, .slice A1 x1.length c1]) rfl rfl hF rfl S (run_box rfl (hF.ev rfl) rfl) ?_; clear hF S; intro a g101 u hF S
  refine op_val (v := .int .i64 0) rfl rfl hF rfl (run_assign rfl rfl) ?_; clear hF; intro a hF
  refine wpList_nil ?_
  refine wp_seq ?_
  refine wp_seq ?_
  refine wp_region_lit ?_
  refine op_val (v := .agg #[.int .i64 x0, .slice A1 x1.length c1]) rfl rfl hF rfl (run_loadN rfl ag63 (hF.ev rfl) rfl ((S.free 0 rfl).cells 0 #[.int .i64 x0, .slice A1 x1.length c1] rfl)) ?_; clear hF; intro a hF
  obtain ⟨p102, h102, hM⟩ := bind_ex hM
  refine op_call rfl rfl hF rfl (run_call (vs := [.agg #[.int .i64 x0, .slice A1 x1.length c1]]) rfl rfl co38 ⟨(hF.ev rfl), trivial⟩) (c_impl_NetValid (x0 := x0) (x1 := x1) ⟨(S.rc0 h1.rc), rfl⟩ h102) ?_
  rintro e u ⟨rfl, T⟩
  refine ⟨_, rfl, ?_⟩
  clear hF; intro a hF
  replace S := S.call0 T; clear T
  refine op_val (v := .bool (!p102)) rfl rfl hF rfl (run_not rfl (hF.ev rfl)) ?_; clear hF; intro a hF
  refine op_val (v := .bool (!p102)) rfl rfl hF rfl (run_move rfl (hF.ev rfl)) ?_; clear hF; intro a hF
  refine op_gv (v := .agg #[.int .i64 x0, .slice A1 x1.length c1]) rfl rfl hF rfl (yf (gw_yield hF rfl rfl rfl)) (fun hg => (run_loadN rfl ag63 (hF.ev rfl) rfl ((S.free 0 rfl).cells 0 #[.int .i64 x0, .slice A1 x1.length c1] rfl))) ?_; clear hF; intro a hF
  refine op_gv (v := .int .i64 x2) rfl rfl hF rfl (yf (gw_yield hF rfl rfl rfl)) (fun hg => (run_move rfl (hF.ev rfl))) ?_; clear hF; intro a hF
  obtain ⟨p103, h103, hM⟩ := bind_ex hM
  refine op_gcall (v := .bool p103) rfl rfl hF rfl S (yf (gw_yield hF rfl rfl rfl)) (fun hg => (run_call (vs := [.agg #[.int .i64 x0, .slice A1 x1.length c1], .int .i64 x2]) rfl rfl co39 ⟨((hF.ev rfl).trans (gv_t hg)), ((hF.ev rfl).trans (gv_t hg)), trivial⟩)) (fun hg => c_impl_Net_hasLine (x0 := x0) (x1 := x1) (x2 := x2) ⟨(S.rc0 h1.rc), rfl⟩ (gb_t h103 hg)) ?_; clear hF S; intro a u hF S
  refine op_gv (v := .bool (!p103)) rfl rfl hF rfl (yf (gw_yield hF rfl rfl rfl)) (fun hg => (run_not rfl ((hF.ev rfl).trans (gv_t hg)))) ?_; clear hF; intro a hF
  refine op_val (v := .bool ((!p102) || (!p103))) rfl rfl hF rfl (run_pick_or rfl (hF.ev rfl) rfl (fun hp => ((hF.ev rfl).trans (gv_t (not_t hp))))) ?_; clear hF; intro a hF
  refine wpList_nil ?_
  cases hc104 : ((!p102) || (!p103))
  · replace hM := bif_f hc104 hM
    refine cond_f hF rfl hc104 ?_
    refine wp_skip ?_
    refine wp_seq ?_
    refine wp_region_lit ?_
    refine op_val (v := .pointer (some ⟨g101, 1, none⟩)) rfl rfl hF rfl (run_fieldAddr rfl fl63_1 (hF.ev rfl) rfl) ?_; clear hF; intro a hF
    refine op_val (v := .slice A1 x1.length c1) rfl rfl hF rfl (run_load1 rfl one61 (hF.ev rfl) ((S.free 0 rfl).cell rfl)) ?_; clear hF; intro a hF
    refine op_val (v := .int .i64 x2) rfl rfl hF rfl (run_move rfl (hF.ev rfl)) ?_; clear hF; intro a hF
    obtain ⟨hk105, hM⟩ := chk_ex hM
    replace hk105 := ixB_t hk105
    refine op_val (v := .pointer (some ⟨adB A1, adO A1 + x2.toNat * 3, none⟩)) rfl rfl hF rfl (run_indexAddr (b := adB A1) (off := adO A1) rfl Tryd.underlying61 sz60 ((hF.ev rfl).trans (congrArg (fun A => Value.slice A x1.length c1) ((S.rc0 h1.rc).rd.ad (ix_pos hk105)))) (hF.ev rfl) hk105.1 hk105.2 (k' := adO A1 + x2.toNat * 3) rfl) ?_; clear hF; intro a hF
    refine op_val (v := .agg #[.int .i64 ((x1.getD x2.toNat ((0, 0, 0) : Int × Int × Int)).1), .int .i64 ((x1.getD x2.toNat ((0, 0, 0) : Int × Int × Int)).2.1), .int .i64 ((x1.getD x2.toNat ((0, 0, 0) : Int × Int × Int)).2.2)]) rfl rfl hF rfl (run_loadN (cs := #[.int .i64 ((x1.getD x2.toNat ((0, 0, 0) : Int × Int × Int)).1), .int .i64 ((x1.getD x2.toNat ((0, 0, 0) : Int × Int × Int)).2.1), .int .i64 ((x1.getD x2.toNat ((0, 0, 0) : Int × Int × Int)).2.2)]) rfl ag60 (hF.ev rfl) rfl (rd_elN (l := x1) (S.rc0 h1.rc).rd rfl eLine_len ((0, 0, 0) : Int × Int × Int) (ix_ltn hk105 rfl) rfl)) ?_; clear hF; intro a hF
    refine op_val (v := .int .i64 x3) rfl rfl hF rfl (run_move rfl (hF.ev rfl)) ?_; clear hF; intro a hF
    obtain ⟨p106, h106, hM⟩ := bind_ex hM
    refine op_call rfl rfl hF rfl (run_call (vs := [.agg #[.int .i64 ((x1.getD x2.toNat ((0, 0, 0) : Int × Int × Int)).1), .int .i64 ((x1.getD x2.toNat ((0, 0, 0) : Int × Int × Int)).2.1), .int .i64 ((x1.getD x2.toNat ((0, 0, 0) : Int × Int × Int)).2.2)], .int .i64 x3]) rfl rfl co40 ⟨(hF.ev rfl), (hF.ev rfl), trivial⟩) (c_impl_Line_other (x0 := (x1.getD x2.toNat ((0, 0, 0) : Int × Int × Int)).1) (x1 := (x1.getD x2.toNat ((0, 0, 0) : Int × Int × Int)).2.1) (x2 := (x1.getD x2.toNat ((0, 0, 0) : Int × Int × Int)).2.2) (x3 := x3)  h106) ?_
    rintro e u ⟨rfl, T⟩
    refine ⟨_, rfl, ?_⟩
    clear hF; intro a hF
    replace S := S.call0 T; clear T
    refine op_val (v := .int .i64 p106) rfl rfl hF rfl (run_assign rfl (hF.ev rfl)) ?_; clear hF; intro a hF
    refine wpList_nil ?_
    refine wp_ret ?_
    repeat with_reducible (first | refine then_ret ?_ | refine in_ret ?_ | refine in_nrm ?_)
    refine ret1_gw (.inl rfl) hF rfl (res_tmp (hF.ev rfl)) ?_
    obtain rfl := Option.some.inj hM
    exact ⟨rfl, S.sel [] rfl rfl⟩
  · replace hM := bif_t hc104 hM
    refine cond_t hF rfl hc104 ?_
    refine wp_seq ?_
    refine wp_region_lit ?_
    refine op_val (v := .int .i64 (-1)) rfl rfl hF rfl (run_assign rfl rfl) ?_; clear hF; intro a hF
    refine wpList_nil ?_
    refine wp_ret ?_
    repeat with_reducible (first | refine then_ret ?_ | refine in_ret ?_ | refine in_nrm ?_)
    refine ret1_gw (.inl rfl) hF rfl (res_tmp (hF.ev rfl)) ?_
    obtain rfl := Option.some.inj hM
    exact ⟨rfl, S.sel [] rfl rfl⟩

set_option maxHeartbeats 4000000 in
theorem c_laws_alive {w : World} {r : Bool}  (hM : m_laws_alive = some r) :
    Calls Tryd.prog 11 #[] w (fun e w' => e = .returned (.bool r) ∧ St w w' []) := by
  unfold m_laws_alive at hM
  refine calls_gw Tryd.func11 Tryd.ntmps11 rfl [] trivial rfl ?_
  intro a hF
  have S := St.nil w
  refine wp_seq ?_
  refine wp_region_lit ?_
  refine op_val (v := .bool false) rfl rfl hF rfl (run_assign rfl rfl) ?_; clear hF; intro a hF
  refine wpList_nil ?_
  refine wp_seq ?_
  obtain ⟨o102, hM103, hM⟩ := bind_ex hM
  refine wp_cut (fun a u => ∃ (p101 : Bool), p101 = o102 ∧ Fr a 11 [(0, .bool p101)] ∧ St w u []) ?_ ?_
  · have _ := trivial
    refine wp_region_lit ?_
    refine op_val (v := .agg #[.int .i64 0, .int .i64 1, .int .i64 1]) rfl rfl hF rfl (run_build (vs := [(0, .int .i64 0), (1, .int .i64 1), (2, .int .i64 1)]) rfl ⟨⟨rfl, rfl⟩, ⟨rfl, rfl⟩, ⟨rfl, rfl⟩, trivial⟩ (bd60_0_1_2 rfl rfl rfl)) ?_; clear hF; intro a hF
    refine op_newrowL (ls := ([(0, 1, 1)] : List (Int × Int × Int))) (e := eLine) rfl rfl hF rfl S (run_buildS (vs := [(0, .agg #[.int .i64 0, .int .i64 1, .int .i64 1])]) rfl ⟨⟨rfl, (hF.ev rfl)⟩, trivial⟩ (bs61_1_3 )) rfl eLine_len (Nat.le_of_ble_eq_true rfl) ?_; clear hF S; intro a g104 u hF S
    refine op_val (v := .agg #[.int .i64 2, .slice (some ⟨g104, 0, none⟩) (([(0, 1, 1)]).length) (([(0, 1, 1)]).length)]) rfl rfl hF rfl (run_build (vs := [(0, .int .i64 2), (1, .slice (some ⟨g104, 0, none⟩) (([(0, 1, 1)]).length) (([(0, 1, 1)]).length))]) rfl ⟨⟨rfl, rfl⟩, ⟨rfl, (hF.ev rfl)⟩, trivial⟩ (bd63_0_1 rfl rfl)) ?_; clear hF; intro a hF
    obtain ⟨p105, h105, hM103⟩ := bind_ex hM103
    refine op_call rfl rfl hF rfl (run_call (vs := [.agg #[.int .i64 2, .slice (some ⟨g104, 0, none⟩) (([(0, 1, 1)]).length) (([(0, 1, 1)]).length)], .int .i64 0, .int .i64 0]) rfl rfl co32 ⟨(hF.ev rfl), rfl, rfl, trivial⟩) (c_impl_OtherEnd (x0 := 2) (x1 := [(0, 1, 1)]) (x2 := 0) (x3 := 0) ⟨(S.rc 0 rfl), rfl⟩ h105) ?_
    rintro e u ⟨rfl, T⟩
    refine ⟨_, rfl, ?_⟩
    clear hF; intro a hF
    replace S := S.call0 T; clear T
    refine op_val (v := .bool (p105 == 1)) rfl rfl hF rfl (run_eql (hF.ev rfl) rfl rfl) ?_; clear hF; intro a hF
    refine op_val (v := .bool (p105 == 1)) rfl rfl hF rfl (run_move rfl (hF.ev rfl)) ?_; clear hF; intro a hF
    refine op_gv (v := .agg #[.int .i64 0, .slice none 0 0]) rfl rfl hF rfl (yt (gw_yield hF rfl rfl rfl)) (fun hg => (run_build (vs := []) rfl trivial (bd63 ))) ?_; clear hF; intro a hF
    cases hc106 : (p105 == 1)
    · replace hM103 := bif_f hc106 hM103
      refine op_skipped rfl ((gw_yield hF rfl rfl rfl).trans (congrArg some hc106)) rfl rfl hF rfl ?_; clear hF; intro a hF
      refine op_skipped rfl ((gw_yield hF rfl rfl rfl).trans (congrArg some hc106)) rfl rfl hF rfl ?_; clear hF; intro a hF
      refine op_val (v := .bool false) rfl rfl hF rfl (run_pick_f rfl (hF.ev rfl) hc106 rfl) ?_; clear hF; intro a hF
      refine op_val (v := .bool false) rfl rfl hF rfl (run_assign rfl (hF.ev rfl)) ?_; clear hF; intro a hF
      refine wpList_nil ?_
      obtain rfl := Option.some.inj hM103
      exact ⟨false, rfl, hF.keep _ ⟨rfl, trivial⟩, S.sel [] rfl rfl⟩
    · replace hM103 := bif_t hc106 hM103
      refine op_guarded rfl ((gw_yield hF rfl rfl rfl).trans (congrArg some hc106)) ?_
      obtain ⟨p107, h107, hM103⟩ := bind_ex hM103
      obtain ⟨hk108, hM103⟩ := chk_ex hM103
      refine op_call rfl rfl hF rfl (run_call (vs := [.agg #[.int .i64 0, .slice none 0 0]]) rfl rfl co33 ⟨((hF.ev rfl).trans (gv_t hc106)), trivial⟩) (c_impl_NetText_bad (x0 := 0) (x1 := ([] : List (Int × Int × Int))) Rt.nil (h107.trans (congrArg some (of_not hk108)))) ?_
      rintro e u ⟨rfl, T⟩
      refine ⟨_, rfl, ?_⟩
      clear hF; intro a hF
      replace S := S.call0 T; clear T
      refine op_guarded rfl ((gw_yield hF rfl rfl rfl).trans (congrArg some hc106)) ?_
      refine op_val (v := .bool (({ data := #[] } : ByteArray).toList == ({ data := #[] } : ByteArray).toList)) rfl rfl hF rfl (run_eqlS (hF.ev rfl) rfl rfl) ?_; clear hF; intro a hF
      refine op_val (v := .bool (({ data := #[] } : ByteArray).toList == ({ data := #[] } : ByteArray).toList)) rfl rfl hF rfl (run_pick_t rfl (hF.ev rfl) hc106 (hF.ev rfl)) ?_; clear hF; intro a hF
      refine op_val (v := .bool (({ data := #[] } : ByteArray).toList == ({ data := #[] } : ByteArray).toList)) rfl rfl hF rfl (run_assign rfl (hF.ev rfl)) ?_; clear hF; intro a hF
      refine wpList_nil ?_
      obtain rfl := Option.some.inj hM103
      exact ⟨({ data := #[] } : ByteArray).toList == ({ data := #[] } : ByteArray).toList, rfl, hF.keep _ ⟨rfl, trivial⟩, S.sel [] rfl rfl⟩
  · rintro a u ⟨p101, rfl, hF, S⟩
    refine wp_ret ?_
    repeat with_reducible (first | refine then_ret ?_ | refine in_ret ?_ | refine in_nrm ?_)
    refine ret1_gw (.inl rfl) hF rfl (res_tmp (hF.ev rfl)) ?_
    obtain rfl := Option.some.inj hM
    exact ⟨rfl, S.sel [] rfl rfl⟩

set_option maxHeartbeats 4000000 in
theorem c_impl_Changes {x0 : List Bool} {x1 : List Bool} {A0 : Option Addr} {n0 c0 : Nat} {A1 : Option Addr} {n1 c1 : Nat} {w : World} {r : List Int} (h0 : Rt w 1 eB A0 n0 c0 x0) (h1 : Rt w 1 eB A1 n1 c1 x1) (hM : m_impl_Changes x0 x1 = some r) :
    Calls Tryd.prog 12 #[.slice A0 n0 c0, .slice A1 n1 c1] w (fun e w' => ∃ (B0 : Option Addr) (N0 D0 : Nat), e = .returned (.slice B0 N0 D0) ∧ N0 = r.length ∧ St w w' [.row 3 1 (.slice B0 N0 D0) N0 (r.flatMap eI)]) := by
  obtain rfl := h0.len
  obtain rfl := h1.len
  unfold m_impl_Changes at hM
  refine calls_gw Tryd.func12 Tryd.ntmps12 rfl [(0, .slice A0 x0.length c0), (1, .slice A1 x1.length c1)] ⟨rfl, rfl, trivial⟩ rfl ?_
  intro a hF
  have S := St.nil w
  refine wp_seq ?_
  refine wp_region_lit ?_
  refine op_val (v := .slice none 0 0) rfl rfl hF rfl (run_assign rfl rfl) ?_; clear hF; intro a hF
  refine wpList_nil ?_
  refine wp_seq ?_
  refine wp_seq ?_
  refine wp_region_lit ?_
  refine op_val (v := .slice A0 x0.length c0) rfl rfl hF rfl (run_move rfl (hF.ev rfl)) ?_; clear hF; intro a hF
  refine op_val (v := .int .i64 (x0.length : Int)) rfl rfl hF rfl (run_lenL rfl rfl Tryd.underlying23 (hF.ev rfl)) ?_; clear hF; intro a hF
  refine op_val (v := .slice A1 x1.length c1) rfl rfl hF rfl (run_move rfl (hF.ev rfl)) ?_; clear hF; intro a hF
  refine op_val (v := .int .i64 (x1.length : Int)) rfl rfl hF rfl (run_lenL rfl rfl Tryd.underlying23 (hF.ev rfl)) ?_; clear hF; intro a hF
  refine op_val (v := .bool ((x0.length : Int) != (x1.length : Int))) rfl rfl hF rfl (run_neq (hF.ev rfl) (hF.ev rfl) rfl) ?_; clear hF; intro a hF
  refine wpList_nil ?_
  cases hc101 : ((x0.length : Int) != (x1.length : Int))
  · replace hM := bif_f hc101 hM
    refine cond_f hF rfl hc101 ?_
    refine wp_skip ?_
    refine wp_seq ?_
    refine wp_region_lit ?_
    refine op_val (v := .slice none 0 0) rfl rfl hF rfl (run_assign rfl rfl) ?_; clear hF; intro a hF
    refine wpList_nil ?_
    refine wp_seq ?_
    refine wp_seq ?_
    refine wp_region_lit ?_
    refine op_val (v := .slice A0 x0.length c0) rfl rfl hF rfl (run_move rfl (hF.ev rfl)) ?_; clear hF; intro a hF
    refine op_val (v := .int .i64 (x0.length : Int)) rfl rfl hF rfl (run_lenL rfl rfl Tryd.underlying23 (hF.ev rfl)) ?_; clear hF; intro a hF
    refine op_val (v := .int .i64 0) rfl rfl hF rfl (run_move rfl rfl) ?_; clear hF; intro a hF
    refine wpList_nil ?_
    obtain ⟨o103, hM106, hM⟩ := bind_ex hM
    refine wp_cut (fun a u => ∃ (p102 : List Int) (B104 : Option Addr) (d105 : Nat), p102 = o103 ∧ Fr a 32 [(4, .slice none 0 0), (5, .slice B104 p102.length d105)] ∧ St w u [.row 3 1 (.slice B104 p102.length d105) p102.length (p102.flatMap eI)]) ?_ ?_
    · have _ := trivial
      refine wp_block ?_
      replace S := S.nilrow 3 1
      refine loop_gw (fun m a u => ∃ (p107 : List Int × Int) (B108 : Option Addr) (d109 : Nat), m_impl_Changes_l1 x0 x1 m p107 = some _ ∧ Fr a 32 [(0, .slice A0 x0.length c0), (1, .slice A1 x1.length c1), (4, .slice none 0 0), (5, .slice B108 p107.1.length d109), (13, .int .i64 (x0.length : Int)), (14, .int .i64 p107.2)] ∧ St w u [.row 3 1 (.slice B108 p107.1.length d109) p107.1.length (p107.1.flatMap eI)]) FUEL ⟨(([] : List Int), 0), none, 0, hM106, hF.keep _ ⟨rfl, rfl, rfl, rfl, rfl, rfl, trivial⟩, S.sel [0] rfl rfl⟩ ?_
      clear hF S hM106; rintro m a u ⟨p107, B108, d109, hM106, hF, S⟩
      rcases m with _ | f1
      · exact none_some hM106
      rw [m_impl_Changes_l1.eq_2] at hM106
      refine wp_seq ?_
      refine wp_region_lit ?_
      refine op_val (v := .bool (ltB p107.2 (x0.length : Int))) rfl rfl hF rfl (run_lss (hF.ev rfl) (hF.ev rfl) rfl) ?_; clear hF; intro a hF
      refine wpList_nil ?_
      refine wp_seq ?_
      cases hc110 : (ltB p107.2 (x0.length : Int))
      · replace hM106 := bif_f hc110 hM106
        refine cond_f hF rfl hc110 ?_
        refine wp_exit ?_
        repeat with_reducible (first | refine then_exit ?_ | refine in_hit ?_ | refine in_miss rfl ?_)
        obtain rfl := Option.some.inj hM106
        exact ⟨p107.1, B108, d109, rfl, hF.keep _ ⟨rfl, rfl, trivial⟩, S.sel [0] rfl rfl⟩
      · replace hM106 := bif_t hc110 hM106
        refine cond_t hF rfl hc110 ?_
        refine wp_skip ?_
        refine wp_seq ?_
        refine wp_block ?_
        refine wp_seq ?_
        refine wp_region_lit ?_
        refine op_val (v := .int .i64 p107.2) rfl rfl hF rfl (run_move rfl (hF.ev rfl)) ?_; clear hF; intro a hF
        refine op_val (v := .int .i64 p107.2) rfl rfl hF rfl (run_assign rfl (hF.ev rfl)) ?_; clear hF; intro a hF
        refine wpList_nil ?_
        refine wp_seq ?_
        obtain ⟨hk111, hM106⟩ := chk_ex hM106
        replace hk111 := ixB_t hk111
        obtain ⟨hk112, hM106⟩ := chk_ex hM106
        replace hk112 := ixB_t hk112
        refine region_gw (D := [17, 18, 19, 20, 21, 22, 23, 24, 25]) (Lr := [.row 3 1 (.slice B108 p107.1.length d109) p107.1.length (p107.1.flatMap eI)]) (deps := (fun | 0 => [17] | 1 => [18] | 2 => [19] | 3 => [20] | 4 => [21] | 5 => [22] | 6 => [23] | 7 => [24] | 8 => [25] | _ => [])) (rd := (fun _ => [])) (zr := (fun _ => []))
          (φ := fun i vs => match i, vs with | 0, [v17] => v17 = .slice A0 x0.length c0 | 1, [v18] => v18 = .int .i64 p107.2 | 2, [v19] => v19 = .pointer (some ⟨adB A0, adO A0 + p107.2.toNat * 1, none⟩) | 3, [v20] => v20 = .bool (x0.getD p107.2.toNat false) | 4, [v21] => v21 = .slice A1 x1.length c1 | 5, [v22] => v22 = .int .i64 p107.2 | 6, [v23] => v23 = .pointer (some ⟨adB A1, adO A1 + p107.2.toNat * 1, none⟩) | 7, [v24] => v24 = .bool (x1.getD p107.2.toNat false) | 8, [v25] => v25 = .bool ((x0.getD p107.2.toNat false) != (x1.getD p107.2.toNat false)) | _, _ => True)
          (C := fun _ _ => [])
          (κ := (fun _ => none)) (Z := (fun _ => [])) mixed hF (by kernel_rfl) S ?_ ?_
        · refine ⟨?_, ?_, ?_, ?_, ?_, ?_, ?_, ?_, ?_, trivial⟩
          · intro a u X hB hu hp hr hz hl S
            replace S : St w u ([] ++ X) := S
            exact .inl ⟨rfl, .slice A0 x0.length c0, u, (run_move rfl (hF.evB hB rfl rfl)), rfl, S⟩
          · intro a u X hB hu hp hr hz hl S
            replace S : St w u ([] ++ X) := S
            exact .inl ⟨rfl, .int .i64 p107.2, u, (run_move rfl (hF.evB hB rfl rfl)), rfl, S⟩
          · intro a u X hB hu hp hr hz hl S
            replace S : St w u ([] ++ X) := S
            have e17 : sl a 17 = .slice A0 x0.length c0 := hp 0 rfl
            have e18 : sl a 18 = .int .i64 p107.2 := hp 1 rfl
            exact .inl ⟨rfl, .pointer (some ⟨adB A0, adO A0 + p107.2.toNat * 1, none⟩), u, (run_indexAddr (b := adB A0) (off := adO A0) rfl Tryd.underlying23 sz4 ((ev_sl e17).trans (congrArg (fun A => Value.slice A x0.length c0) ((S.rc0 h0.rc).rd.ad (ix_pos hk111)))) (ev_sl e18) hk111.1 hk111.2 (k' := adO A0 + p107.2.toNat * 1) rfl), rfl, S⟩
          · intro a u X hB hu hp hr hz hl S
            replace S : St w u ([] ++ X) := S
            have e19 : sl a 19 = .pointer (some ⟨adB A0, adO A0 + p107.2.toNat * 1, none⟩) := hp 2 rfl
            exact .inl ⟨rfl, .bool (x0.getD p107.2.toNat false), u, (run_load1 rfl one4 (ev_sl e19) (rd_el0 (l := x0) (S.rc0 h0.rc).rd rfl eB_len false (ix_ltn hk111 rfl) rfl)), rfl, S⟩
          · intro a u X hB hu hp hr hz hl S
            replace S : St w u ([] ++ X) := S
            exact .inl ⟨rfl, .slice A1 x1.length c1, u, (run_move rfl (hF.evB hB rfl rfl)), rfl, S⟩
          · intro a u X hB hu hp hr hz hl S
            replace S : St w u ([] ++ X) := S
            exact .inl ⟨rfl, .int .i64 p107.2, u, (run_move rfl (hF.evB hB rfl rfl)), rfl, S⟩
          · intro a u X hB hu hp hr hz hl S
            replace S : St w u ([] ++ X) := S
            have e21 : sl a 21 = .slice A1 x1.length c1 := hp 4 rfl
            have e22 : sl a 22 = .int .i64 p107.2 := hp 5 rfl
            exact .inl ⟨rfl, .pointer (some ⟨adB A1, adO A1 + p107.2.toNat * 1, none⟩), u, (run_indexAddr (b := adB A1) (off := adO A1) rfl Tryd.underlying23 sz4 ((ev_sl e21).trans (congrArg (fun A => Value.slice A x1.length c1) ((S.rc0 h1.rc).rd.ad (ix_pos hk112)))) (ev_sl e22) hk112.1 hk112.2 (k' := adO A1 + p107.2.toNat * 1) rfl), rfl, S⟩
          · intro a u X hB hu hp hr hz hl S
            replace S : St w u ([] ++ X) := S
            have e23 : sl a 23 = .pointer (some ⟨adB A1, adO A1 + p107.2.toNat * 1, none⟩) := hp 6 rfl
            exact .inl ⟨rfl, .bool (x1.getD p107.2.toNat false), u, (run_load1 rfl one4 (ev_sl e23) (rd_el0 (l := x1) (S.rc0 h1.rc).rd rfl eB_len false (ix_ltn hk112 rfl) rfl)), rfl, S⟩
          · intro a u X hB hu hp hr hz hl S
            replace S : St w u ([] ++ X) := S
            have e20 : sl a 20 = .bool (x0.getD p107.2.toNat false) := hp 3 rfl
            have e24 : sl a 24 = .bool (x1.getD p107.2.toNat false) := hp 7 rfl
            exact .inl ⟨rfl, .bool ((x0.getD p107.2.toNat false) != (x1.getD p107.2.toNat false)), u, (run_neqB (ev_sl e20) (ev_sl e24) Tryd.underlying4 rfl), rfl, S⟩
        · intro a u hB hp S
          obtain ⟨q0, q1, q2, q3, q4, q5, q6, q7, q8, _⟩ := hp
          have e17 : sl a 17 = .slice A0 x0.length c0 := q0
          have e18 : sl a 18 = .int .i64 p107.2 := q1
          have e19 : sl a 19 = .pointer (some ⟨adB A0, adO A0 + p107.2.toNat * 1, none⟩) := q2
          have e20 : sl a 20 = .bool (x0.getD p107.2.toNat false) := q3
          have e21 : sl a 21 = .slice A1 x1.length c1 := q4
          have e22 : sl a 22 = .int .i64 p107.2 := q5
          have e23 : sl a 23 = .pointer (some ⟨adB A1, adO A1 + p107.2.toNat * 1, none⟩) := q6
          have e24 : sl a 24 = .bool (x1.getD p107.2.toNat false) := q7
          have e25 : sl a 25 = .bool ((x0.getD p107.2.toNat false) != (x1.getD p107.2.toNat false)) := q8
          replace S : St w u [.row 3 1 (.slice B108 p107.1.length d109) p107.1.length (p107.1.flatMap eI)] := S
          clear q0 q1 q2 q3 q4 q5 q6 q7 q8
          have hF := hF.region hB [(17, .slice A0 x0.length c0), (18, .int .i64 p107.2), (19, .pointer (some ⟨adB A0, adO A0 + p107.2.toNat * 1, none⟩)), (20, .bool (x0.getD p107.2.toNat false)), (21, .slice A1 x1.length c1), (22, .int .i64 p107.2), (23, .pointer (some ⟨adB A1, adO A1 + p107.2.toNat * 1, none⟩)), (24, .bool (x1.getD p107.2.toNat false)), (25, .bool ((x0.getD p107.2.toNat false) != (x1.getD p107.2.toNat false)))] (allSl_mem ⟨e17, e18, e19, e20, e21, e22, e23, e24, e25, trivial⟩) rfl
          clear hB e17 e18 e19 e20 e21 e22 e23 e24 e25
          obtain ⟨o114, hM117, hM106⟩ := bind_ex hM106
          refine wp_cut (fun a u => ∃ (p113 : List Int) (B115 : Option Addr) (d116 : Nat), p113 = o114 ∧ Fr a 32 [(0, .slice A0 x0.length c0), (1, .slice A1 x1.length c1), (4, .slice none 0 0), (5, .slice B115 p113.length d116), (13, .int .i64 (x0.length : Int)), (14, .int .i64 p107.2)] ∧ St w u [.row 3 1 (.slice B115 p113.length d116) p113.length (p113.flatMap eI)]) ?_ ?_
          · have _ := trivial
            cases hc118 : ((x0.getD p107.2.toNat false) != (x1.getD p107.2.toNat false))
            · replace hM117 := bif_f hc118 hM117
              refine cond_f hF rfl hc118 ?_
              refine wp_skip ?_
              obtain rfl := Option.some.inj hM117
              exact ⟨p107.1, B108, d109, rfl, hF.keep _ ⟨rfl, rfl, rfl, rfl, rfl, rfl, trivial⟩, S.sel [0] rfl rfl⟩
            · replace hM117 := bif_t hc118 hM117
              refine cond_t hF rfl hc118 ?_
              refine wp_region_lit ?_
              refine op_val (v := .slice B108 p107.1.length d109) rfl rfl hF rfl (run_move rfl (hF.ev rfl)) ?_; clear hF; intro a hF
              refine op_val (v := .int .i64 p107.2) rfl rfl hF rfl (run_move rfl (hF.ev rfl)) ?_; clear hF; intro a hF
              refine op_newrowL (ls := ([p107.2] : List Int)) (e := eI) rfl rfl hF rfl S (run_buildS (vs := [(0, .int .i64 p107.2)]) rfl ⟨⟨rfl, (hF.ev rfl)⟩, trivial⟩ (bs35_1_0 rfl)) rfl eI_len (Nat.le_of_ble_eq_true rfl) ?_; clear hF S; intro a g119 u hF S
              obtain ⟨hk122, hM117⟩ := chk_ex hM117
              replace hk122 := apB_t hk122
              refine op_appendL (lx := p107.1) (ly := [p107.2]) rfl rfl hF rfl S rfl (hF.ev rfl) (hF.ev rfl) (i := 1) rfl rfl Tryd.underlying35 inf3 rfl (by decide) (S.rc 0 rfl).rd rfl eI_one hk122 (by decide) ?_; clear hF S; intro a B120 d121 u hF S
              refine op_val (v := .slice B120 ((p107.1 ++ ([p107.2])).length) d121) rfl rfl hF rfl (run_assign rfl (hF.ev rfl)) ?_; clear hF; intro a hF
              refine wpList_nil ?_
              obtain rfl := Option.some.inj hM117
              exact ⟨p107.1 ++ ([p107.2]), B120, d121, rfl, hF.keep _ ⟨rfl, rfl, rfl, rfl, rfl, rfl, trivial⟩, S.sel [1] rfl rfl⟩
          · rintro a u ⟨p113, B115, d116, rfl, hF, S⟩
            refine wp_region_lit ?_
            refine op_val (v := .int .i64 (w64 (p107.2 + 1))) rfl rfl hF rfl (run_add (z := w64 (p107.2 + 1)) (hF.ev rfl) rfl rfl rfl) ?_; clear hF; intro a hF
            refine op_val (v := .int .i64 (w64 (p107.2 + 1))) rfl rfl hF rfl (run_move rfl (hF.ev rfl)) ?_; clear hF; intro a hF
            refine wpList_nil ?_
            exact ⟨f1, Nat.lt_succ_self _, (p113, w64 (p107.2 + 1)), B115, d116, hM106, hF.keep _ ⟨rfl, rfl, rfl, rfl, rfl, rfl, trivial⟩, S.sel [0] rfl rfl⟩
    · rintro a u ⟨p102, B104, d105, rfl, hF, S⟩
      refine wp_seq ?_
      refine wp_region_lit ?_
      refine op_val (v := .slice B104 p102.length d105) rfl rfl hF rfl (run_move rfl (hF.ev rfl)) ?_; clear hF; intro a hF
      refine op_val (v := .slice B104 p102.length d105) rfl rfl hF rfl (run_assign rfl (hF.ev rfl)) ?_; clear hF; intro a hF
      refine wpList_nil ?_
      refine wp_ret ?_
      repeat with_reducible (first | refine then_ret ?_ | refine in_ret ?_ | refine in_nrm ?_)
      refine ret1_gw (.inl rfl) hF rfl (res_tmp (hF.ev rfl)) ?_
      obtain rfl := Option.some.inj hM
      exact ⟨B104, p102.length, d105, rfl, rfl, S.sel [0] rfl rfl⟩
  · replace hM := bif_t hc101 hM
    refine cond_t hF rfl hc101 ?_
    refine wp_seq ?_
    refine wp_region_lit ?_
    refine op_val (v := .slice none 0 0) rfl rfl hF rfl (run_assign rfl rfl) ?_; clear hF; intro a hF
    refine wpList_nil ?_
    refine wp_ret ?_
    repeat with_reducible (first | refine then_ret ?_ | refine in_ret ?_ | refine in_nrm ?_)
    refine ret1_gw (.inl rfl) hF rfl (res_tmp (hF.ev rfl)) ?_
    obtain rfl := Option.some.inj hM
    replace S := S.nilrow 3 1
    exact ⟨none, 0, 0, rfl, rfl, S.sel [0] rfl rfl⟩

set_option maxHeartbeats 4000000 in
theorem c_laws_sameInts {x0 : List Int} {x1 : List Int} {A0 : Option Addr} {n0 c0 : Nat} {A1 : Option Addr} {n1 c1 : Nat} {w : World} {r : Bool} (h0 : Rt w 1 eI A0 n0 c0 x0) (h1 : Rt w 1 eI A1 n1 c1 x1) (hM : m_laws_sameInts x0 x1 = some r) :
    Calls Tryd.prog 13 #[.slice A0 n0 c0, .slice A1 n1 c1] w (fun e w' => e = .returned (.bool r) ∧ St w w' []) := by
  obtain rfl := h0.len
  obtain rfl := h1.len
  unfold m_laws_sameInts at hM
  refine calls_gw Tryd.func13 Tryd.ntmps13 rfl [(0, .slice A0 x0.length c0), (1, .slice A1 x1.length c1)] ⟨rfl, rfl, trivial⟩ rfl ?_
  intro a hF
  have S := St.nil w
  refine wp_seq ?_
  refine wp_region_lit ?_
  refine op_val (v := .bool false) rfl rfl hF rfl (run_assign rfl rfl) ?_; clear hF; intro a hF
  refine wpList_nil ?_
  refine wp_seq ?_
  refine wp_seq ?_
  refine wp_region_lit ?_
  refine op_val (v := .slice A0 x0.length c0) rfl rfl hF rfl (run_move rfl (hF.ev rfl)) ?_; clear hF; intro a hF
  refine op_val (v := .int .i64 (x0.length : Int)) rfl rfl hF rfl (run_lenL rfl rfl Tryd.underlying35 (hF.ev rfl)) ?_; clear hF; intro a hF
  refine op_val (v := .slice A1 x1.length c1) rfl rfl hF rfl (run_move rfl (hF.ev rfl)) ?_; clear hF; intro a hF
  refine op_val (v := .int .i64 (x1.length : Int)) rfl rfl hF rfl (run_lenL rfl rfl Tryd.underlying35 (hF.ev rfl)) ?_; clear hF; intro a hF
  refine op_val (v := .bool ((x0.length : Int) != (x1.length : Int))) rfl rfl hF rfl (run_neq (hF.ev rfl) (hF.ev rfl) rfl) ?_; clear hF; intro a hF
  refine wpList_nil ?_
  cases hc101 : ((x0.length : Int) != (x1.length : Int))
  · replace hM := bif_f hc101 hM
    refine cond_f hF rfl hc101 ?_
    refine wp_skip ?_
    refine wp_seq ?_
    refine wp_seq ?_
    refine wp_region_lit ?_
    refine op_val (v := .int .i64 0) rfl rfl hF rfl (run_assign rfl rfl) ?_; clear hF; intro a hF
    refine wpList_nil ?_
    obtain ⟨o103, hM104, hM⟩ := bind_ex hM
    refine wp_cut (fun a u => ∃ (p102 : Unit), (Sum.inl p102) = o103 ∧ Fr a 26 [(4, .bool false)] ∧ St w u []) ?_ ?_
    · have _ := trivial
      refine wp_block ?_
      refine loop_gw (fun m a u => ∃ (p105 : Int), m_laws_sameInts_l1 x0 x1 m p105 = some _ ∧ Fr a 26 [(0, .slice A0 x0.length c0), (1, .slice A1 x1.length c1), (4, .bool false), (5, .int .i64 p105)] ∧ St w u []) FUEL ⟨0, hM104, hF.keep _ ⟨rfl, rfl, rfl, rfl, trivial⟩, S.sel [] rfl rfl⟩ ?_
      clear hF S hM104; rintro m a u ⟨p105, hM104, hF, S⟩
      rcases m with _ | f1
      · exact none_some hM104
      rw [m_laws_sameInts_l1.eq_2] at hM104
      refine wp_seq ?_
      refine wp_seq ?_
      refine wp_region_lit ?_
      refine op_val (v := .int .i64 p105) rfl rfl hF rfl (run_move rfl (hF.ev rfl)) ?_; clear hF; intro a hF
      refine op_val (v := .slice A0 x0.length c0) rfl rfl hF rfl (run_move rfl (hF.ev rfl)) ?_; clear hF; intro a hF
      refine op_val (v := .int .i64 (x0.length : Int)) rfl rfl hF rfl (run_lenL rfl rfl Tryd.underlying35 (hF.ev rfl)) ?_; clear hF; intro a hF
      refine op_val (v := .bool (ltB p105 (x0.length : Int))) rfl rfl hF rfl (run_lss (hF.ev rfl) (hF.ev rfl) rfl) ?_; clear hF; intro a hF
      refine wpList_nil ?_
      cases hc106 : (ltB p105 (x0.length : Int))
      · replace hM104 := bif_f hc106 hM104
        refine cond_f hF rfl hc106 ?_
        refine wp_exit ?_
        repeat with_reducible (first | refine then_exit ?_ | refine in_hit ?_ | refine in_miss rfl ?_)
        obtain rfl := Option.some.inj hM104
        exact ⟨(), rfl, hF.keep _ ⟨rfl, trivial⟩, S.sel [] rfl rfl⟩
      · replace hM104 := bif_t hc106 hM104
        refine cond_t hF rfl hc106 ?_
        refine wp_skip ?_
        refine wp_seq ?_
        refine wp_block ?_
        refine wp_seq ?_
        obtain ⟨hk107, hM104⟩ := chk_ex hM104
        replace hk107 := ixB_t hk107
        obtain ⟨hk108, hM104⟩ := chk_ex hM104
        replace hk108 := ixB_t hk108
        refine region_gw (D := [17, 18, 19, 20, 21, 22, 23, 24, 25]) (Lr := []) (deps := (fun | 0 => [17] | 1 => [18] | 2 => [19] | 3 => [20] | 4 => [21] | 5 => [22] | 6 => [23] | 7 => [24] | 8 => [25] | _ => [])) (rd := (fun _ => [])) (zr := (fun _ => []))
          (φ := fun i vs => match i, vs with | 0, [v17] => v17 = .slice A0 x0.length c0 | 1, [v18] => v18 = .int .i64 p105 | 2, [v19] => v19 = .pointer (some ⟨adB A0, adO A0 + p105.toNat * 1, none⟩) | 3, [v20] => v20 = .int .i64 (x0.getD p105.toNat (0 : Int)) | 4, [v21] => v21 = .slice A1 x1.length c1 | 5, [v22] => v22 = .int .i64 p105 | 6, [v23] => v23 = .pointer (some ⟨adB A1, adO A1 + p105.toNat * 1, none⟩) | 7, [v24] => v24 = .int .i64 (x1.getD p105.toNat (0 : Int)) | 8, [v25] => v25 = .bool ((x0.getD p105.toNat (0 : Int)) != (x1.getD p105.toNat (0 : Int))) | _, _ => True)
          (C := fun _ _ => [])
          (κ := (fun _ => none)) (Z := (fun _ => [])) mixed hF (by kernel_rfl) S ?_ ?_
        · refine ⟨?_, ?_, ?_, ?_, ?_, ?_, ?_, ?_, ?_, trivial⟩
          · intro a u X hB hu hp hr hz hl S
            replace S : St w u ([] ++ X) := S
            exact .inl ⟨rfl, .slice A0 x0.length c0, u, (run_move rfl (hF.evB hB rfl rfl)), rfl, S⟩
          · intro a u X hB hu hp hr hz hl S
            replace S : St w u ([] ++ X) := S
            exact .inl ⟨rfl, .int .i64 p105, u, (run_move rfl (hF.evB hB rfl rfl)), rfl, S⟩
          · intro a u X hB hu hp hr hz hl S
            replace S : St w u ([] ++ X) := S
            have e17 : sl a 17 = .slice A0 x0.length c0 := hp 0 rfl
            have e18 : sl a 18 = .int .i64 p105 := hp 1 rfl
            exact .inl ⟨rfl, .pointer (some ⟨adB A0, adO A0 + p105.toNat * 1, none⟩), u, (run_indexAddr (b := adB A0) (off := adO A0) rfl Tryd.underlying35 sz3 ((ev_sl e17).trans (congrArg (fun A => Value.slice A x0.length c0) ((S.rc0 h0.rc).rd.ad (ix_pos hk107)))) (ev_sl e18) hk107.1 hk107.2 (k' := adO A0 + p105.toNat * 1) rfl), rfl, S⟩
          · intro a u X hB hu hp hr hz hl S
            replace S : St w u ([] ++ X) := S
            have e19 : sl a 19 = .pointer (some ⟨adB A0, adO A0 + p105.toNat * 1, none⟩) := hp 2 rfl
            exact .inl ⟨rfl, .int .i64 (x0.getD p105.toNat (0 : Int)), u, (run_load1 rfl one3 (ev_sl e19) (rd_el0 (l := x0) (S.rc0 h0.rc).rd rfl eI_len (0 : Int) (ix_ltn hk107 rfl) rfl)), rfl, S⟩
          · intro a u X hB hu hp hr hz hl S
            replace S : St w u ([] ++ X) := S
            exact .inl ⟨rfl, .slice A1 x1.length c1, u, (run_move rfl (hF.evB hB rfl rfl)), rfl, S⟩
          · intro a u X hB hu hp hr hz hl S
            replace S : St w u ([] ++ X) := S
            exact .inl ⟨rfl, .int .i64 p105, u, (run_move rfl (hF.evB hB rfl rfl)), rfl, S⟩
          · intro a u X hB hu hp hr hz hl S
            replace S : St w u ([] ++ X) := S
            have e21 : sl a 21 = .slice A1 x1.length c1 := hp 4 rfl
            have e22 : sl a 22 = .int .i64 p105 := hp 5 rfl
            exact .inl ⟨rfl, .pointer (some ⟨adB A1, adO A1 + p105.toNat * 1, none⟩), u, (run_indexAddr (b := adB A1) (off := adO A1) rfl Tryd.underlying35 sz3 ((ev_sl e21).trans (congrArg (fun A => Value.slice A x1.length c1) ((S.rc0 h1.rc).rd.ad (ix_pos hk108)))) (ev_sl e22) hk108.1 hk108.2 (k' := adO A1 + p105.toNat * 1) rfl), rfl, S⟩
          · intro a u X hB hu hp hr hz hl S
            replace S : St w u ([] ++ X) := S
            have e23 : sl a 23 = .pointer (some ⟨adB A1, adO A1 + p105.toNat * 1, none⟩) := hp 6 rfl
            exact .inl ⟨rfl, .int .i64 (x1.getD p105.toNat (0 : Int)), u, (run_load1 rfl one3 (ev_sl e23) (rd_el0 (l := x1) (S.rc0 h1.rc).rd rfl eI_len (0 : Int) (ix_ltn hk108 rfl) rfl)), rfl, S⟩
          · intro a u X hB hu hp hr hz hl S
            replace S : St w u ([] ++ X) := S
            have e20 : sl a 20 = .int .i64 (x0.getD p105.toNat (0 : Int)) := hp 3 rfl
            have e24 : sl a 24 = .int .i64 (x1.getD p105.toNat (0 : Int)) := hp 7 rfl
            exact .inl ⟨rfl, .bool ((x0.getD p105.toNat (0 : Int)) != (x1.getD p105.toNat (0 : Int))), u, (run_neq (ev_sl e20) (ev_sl e24) rfl), rfl, S⟩
        · intro a u hB hp S
          obtain ⟨q0, q1, q2, q3, q4, q5, q6, q7, q8, _⟩ := hp
          have e17 : sl a 17 = .slice A0 x0.length c0 := q0
          have e18 : sl a 18 = .int .i64 p105 := q1
          have e19 : sl a 19 = .pointer (some ⟨adB A0, adO A0 + p105.toNat * 1, none⟩) := q2
          have e20 : sl a 20 = .int .i64 (x0.getD p105.toNat (0 : Int)) := q3
          have e21 : sl a 21 = .slice A1 x1.length c1 := q4
          have e22 : sl a 22 = .int .i64 p105 := q5
          have e23 : sl a 23 = .pointer (some ⟨adB A1, adO A1 + p105.toNat * 1, none⟩) := q6
          have e24 : sl a 24 = .int .i64 (x1.getD p105.toNat (0 : Int)) := q7
          have e25 : sl a 25 = .bool ((x0.getD p105.toNat (0 : Int)) != (x1.getD p105.toNat (0 : Int))) := q8
          replace S : St w u [] := S
          clear q0 q1 q2 q3 q4 q5 q6 q7 q8
          have hF := hF.region hB [(17, .slice A0 x0.length c0), (18, .int .i64 p105), (19, .pointer (some ⟨adB A0, adO A0 + p105.toNat * 1, none⟩)), (20, .int .i64 (x0.getD p105.toNat (0 : Int))), (21, .slice A1 x1.length c1), (22, .int .i64 p105), (23, .pointer (some ⟨adB A1, adO A1 + p105.toNat * 1, none⟩)), (24, .int .i64 (x1.getD p105.toNat (0 : Int))), (25, .bool ((x0.getD p105.toNat (0 : Int)) != (x1.getD p105.toNat (0 : Int))))] (allSl_mem ⟨e17, e18, e19, e20, e21, e22, e23, e24, e25, trivial⟩) rfl
          clear hB e17 e18 e19 e20 e21 e22 e23 e24 e25
          cases hc109 : ((x0.getD p105.toNat (0 : Int)) != (x1.getD p105.toNat (0 : Int)))
          · replace hM104 := bif_f hc109 hM104
            refine cond_f hF rfl hc109 ?_
            refine wp_skip ?_
            refine wp_region_lit ?_
            refine op_val (v := .int .i64 p105) rfl rfl hF rfl (run_move rfl (hF.ev rfl)) ?_; clear hF; intro a hF
            refine op_val (v := .int .i64 (w64 (p105 + 1))) rfl rfl hF rfl (run_add (z := w64 (p105 + 1)) (hF.ev rfl) rfl rfl rfl) ?_; clear hF; intro a hF
            refine op_val (v := .int .i64 (w64 (p105 + 1))) rfl rfl hF rfl (run_assign rfl (hF.ev rfl)) ?_; clear hF; intro a hF
            refine wpList_nil ?_
            exact ⟨f1, Nat.lt_succ_self _, w64 (p105 + 1), hM104, hF.keep _ ⟨rfl, rfl, rfl, rfl, trivial⟩, S.sel [] rfl rfl⟩
          · replace hM104 := bif_t hc109 hM104
            refine cond_t hF rfl hc109 ?_
            refine wp_seq ?_
            refine wp_region_lit ?_
            refine op_val (v := .bool false) rfl rfl hF rfl (run_assign rfl rfl) ?_; clear hF; intro a hF
            refine wpList_nil ?_
            refine wp_ret ?_
            repeat with_reducible (first | refine then_ret ?_ | refine in_ret ?_ | refine in_nrm ?_)
            refine ret1_gw (.inl rfl) hF rfl (res_tmp (hF.ev rfl)) ?_
            obtain rfl := Option.some.inj hM104
            obtain rfl := Option.some.inj hM
            exact ⟨rfl, S.sel [] rfl rfl⟩
    · rintro a u ⟨p102, rfl, hF, S⟩
      replace hM := elim_l hM
      refine wp_seq ?_
      refine wp_region_lit ?_
      refine op_val (v := .bool true) rfl rfl hF rfl (run_assign rfl rfl) ?_; clear hF; intro a hF
      refine wpList_nil ?_
      refine wp_ret ?_
      repeat with_reducible (first | refine then_ret ?_ | refine in_ret ?_ | refine in_nrm ?_)
      refine ret1_gw (.inl rfl) hF rfl (res_tmp (hF.ev rfl)) ?_
      obtain rfl := Option.some.inj hM
      exact ⟨rfl, S.sel [] rfl rfl⟩
  · replace hM := bif_t hc101 hM
    refine cond_t hF rfl hc101 ?_
    refine wp_seq ?_
    refine wp_region_lit ?_
    refine op_val (v := .bool false) rfl rfl hF rfl (run_assign rfl rfl) ?_; clear hF; intro a hF
    refine wpList_nil ?_
    refine wp_ret ?_
    repeat with_reducible (first | refine then_ret ?_ | refine in_ret ?_ | refine in_nrm ?_)
    refine ret1_gw (.inl rfl) hF rfl (res_tmp (hF.ev rfl)) ?_
    obtain rfl := Option.some.inj hM
    exact ⟨rfl, S.sel [] rfl rfl⟩

set_option maxHeartbeats 4000000 in
theorem c_laws_FnPanelDo {x0 : List Int} {A0 : Option Addr} {n0 c0 : Nat} {w : World} {r : Bool} (h0 : Rt w 1 eU A0 n0 c0 x0) (hM : m_laws_FnPanelDo x0 = some r) :
    Calls Tryd.prog 3 #[.slice A0 n0 c0] w (fun e w' => e = .returned (.bool r) ∧ St w w' []) := by
  obtain rfl := h0.len
  unfold m_laws_FnPanelDo at hM
  refine calls_gw Tryd.func3 Tryd.ntmps3 rfl [(0, .slice A0 x0.length c0)] ⟨rfl, trivial⟩ rfl ?_
  intro a hF
  have S := St.nil w
  refine wp_seq ?_
  refine wp_region_lit ?_
  refine op_val (v := .bool false) rfl rfl hF rfl (run_assign rfl rfl) ?_; clear hF; intro a hF
  refine wpList_nil ?_
  refine wp_seq ?_
  refine wp_seq ?_
  refine wp_region_lit ?_
  refine op_val (v := .slice A0 x0.length c0) rfl rfl hF rfl (run_move rfl (hF.ev rfl)) ?_; clear hF; intro a hF
  refine op_val (v := .int .i64 (x0.length : Int)) rfl rfl hF rfl (run_lenL rfl rfl Tryd.underlying22 (hF.ev rfl)) ?_; clear hF; intro a hF
  refine op_val (v := .bool (ltB 1048576 (x0.length : Int))) rfl rfl hF rfl (run_gtr (hF.ev rfl) rfl rfl) ?_; clear hF; intro a hF
  refine wpList_nil ?_
  cases hc101 : (ltB 1048576 (x0.length : Int))
  · replace hM := bif_f hc101 hM
    refine cond_f hF rfl hc101 ?_
    refine wp_skip ?_
    refine wp_seq ?_
    refine wp_region_lit ?_
    refine op_val (v := .slice A0 x0.length c0) rfl rfl hF rfl (run_move rfl (hF.ev rfl)) ?_; clear hF; intro a hF
    obtain ⟨p102, h102, hM⟩ := bind_ex hM
    refine op_call rfl rfl hF rfl (run_call (vs := [.slice A0 x0.length c0]) rfl rfl co6 ⟨(hF.ev rfl), trivial⟩) (c_spec_DrawPanelDo (x0 := x0) ⟨(S.rc0 h0.rc), rfl⟩ h102) ?_
    rintro e u ⟨B103, n104, d105, rfl, rfl, T⟩
    refine ⟨_, rfl, ?_⟩
    clear hF; intro a hF
    replace S := S.call1 T; clear T
    refine op_val (v := .tuple #[.agg #[.slice B103 p102.1.length d105, .int .i64 p102.2.1, .int .i64 p102.2.2.1, .bool p102.2.2.2.1, .int .i64 p102.2.2.2.2.1], .agg #[.int .i64 p102.2.2.2.2.2.1, .int .i64 p102.2.2.2.2.2.2.1, .int .i64 p102.2.2.2.2.2.2.2.1, .bool p102.2.2.2.2.2.2.2.2]]) rfl rfl hF rfl (run_move rfl (hF.ev rfl)) ?_; clear hF; intro a hF
    refine op_val (v := .agg #[.slice B103 p102.1.length d105, .int .i64 p102.2.1, .int .i64 p102.2.2.1, .bool p102.2.2.2.1, .int .i64 p102.2.2.2.2.1]) rfl rfl hF rfl (run_extract rfl (hF.ev rfl) rfl) ?_; clear hF; intro a hF
    refine op_val (v := .agg #[.int .i64 p102.2.2.2.2.2.1, .int .i64 p102.2.2.2.2.2.2.1, .int .i64 p102.2.2.2.2.2.2.2.1, .bool p102.2.2.2.2.2.2.2.2]) rfl rfl hF rfl (run_extract rfl (hF.ev rfl) rfl) ?_; clear hF; intro a hF
    refine op_new (cs := #[.slice none 0 0, .int .i64 0, .int .i64 0, .bool false, .int .i64 0]) rfl rfl hF rfl S (run_allocZ rfl zr25) ?_; clear hF S; intro a g106 u hF S
    refine op_new (cs := #[.int .i64 0, .int .i64 0, .int .i64 0, .bool false]) rfl rfl hF rfl S (run_allocZ rfl zr27) ?_; clear hF S; intro a g107 u hF S
    refine op_do rfl rfl (run_store (cs' := #[.slice B103 p102.1.length d105, .int .i64 p102.2.1, .int .i64 p102.2.2.1, .bool p102.2.2.2.1, .int .i64 p102.2.2.2.2.1]) rfl sz25 (hF.ev rfl) (hF.ev rfl) rfl rfl rfl (S.free 1 rfl) rfl rfl) ?_; replace S := S.put 1 rfl (#[.slice B103 p102.1.length d105, .int .i64 p102.2.1, .int .i64 p102.2.2.1, .bool p102.2.2.2.1, .int .i64 p102.2.2.2.2.1])
    generalize World.setRow _ _ _ = u at S ⊢
    refine op_do rfl rfl (run_store (cs' := #[.int .i64 p102.2.2.2.2.2.1, .int .i64 p102.2.2.2.2.2.2.1, .int .i64 p102.2.2.2.2.2.2.2.1, .bool p102.2.2.2.2.2.2.2.2]) rfl sz27 (hF.ev rfl) (hF.ev rfl) rfl rfl rfl (S.free 0 rfl) rfl rfl) ?_; replace S := S.put 0 rfl (#[.int .i64 p102.2.2.2.2.2.1, .int .i64 p102.2.2.2.2.2.2.1, .int .i64 p102.2.2.2.2.2.2.2.1, .bool p102.2.2.2.2.2.2.2.2])
    generalize World.setRow _ _ _ = u at S ⊢
    refine wpList_nil ?_
    refine wp_seq ?_
    refine wp_region_lit ?_
    refine op_val (v := .agg #[.slice B103 p102.1.length d105, .int .i64 p102.2.1, .int .i64 p102.2.2.1, .bool p102.2.2.2.1, .int .i64 p102.2.2.2.2.1]) rfl rfl hF rfl (run_loadN rfl ag25 (hF.ev rfl) rfl ((S.free 1 rfl).cells 0 #[.slice B103 p102.1.length d105, .int .i64 p102.2.1, .int .i64 p102.2.2.1, .bool p102.2.2.2.1, .int .i64 p102.2.2.2.2.1] rfl)) ?_; clear hF; intro a hF
    refine op_val (v := .agg #[.int .i64 p102.2.2.2.2.2.1, .int .i64 p102.2.2.2.2.2.2.1, .int .i64 p102.2.2.2.2.2.2.2.1, .bool p102.2.2.2.2.2.2.2.2]) rfl rfl hF rfl (run_loadN rfl ag27 (hF.ev rfl) rfl ((S.free 0 rfl).cells 0 #[.int .i64 p102.2.2.2.2.2.1, .int .i64 p102.2.2.2.2.2.2.1, .int .i64 p102.2.2.2.2.2.2.2.1, .bool p102.2.2.2.2.2.2.2.2] rfl)) ?_; clear hF; intro a hF
    obtain ⟨p108, h108, hM⟩ := bind_ex hM
    refine op_call rfl rfl hF rfl (run_call (vs := [.agg #[.slice B103 p102.1.length d105, .int .i64 p102.2.1, .int .i64 p102.2.2.1, .bool p102.2.2.2.1, .int .i64 p102.2.2.2.2.1], .agg #[.int .i64 p102.2.2.2.2.2.1, .int .i64 p102.2.2.2.2.2.2.1, .int .i64 p102.2.2.2.2.2.2.2.1, .bool p102.2.2.2.2.2.2.2.2]]) rfl rfl co7 ⟨(hF.ev rfl), (hF.ev rfl), trivial⟩) (c_impl_PanelDo (x0 := p102.1) (x1 := p102.2.1) (x2 := p102.2.2.1) (x3 := p102.2.2.2.1) (x4 := p102.2.2.2.2.1) (x5 := p102.2.2.2.2.2.1) (x6 := p102.2.2.2.2.2.2.1) (x7 := p102.2.2.2.2.2.2.2.1) (x8 := p102.2.2.2.2.2.2.2.2) ⟨(S.rc 2 rfl), rfl⟩ h108) ?_
    rintro e u ⟨B109, n110, d111, rfl, rfl, T⟩
    refine ⟨_, rfl, ?_⟩
    clear hF; intro a hF
    replace S := S.call1 T; clear T
    refine op_val (v := .tuple #[.agg #[.slice B109 p108.1.length d111, .int .i64 p108.2.1, .int .i64 p108.2.2.1, .bool p108.2.2.2.1, .int .i64 p108.2.2.2.2.1], .bool p108.2.2.2.2.2]) rfl rfl hF rfl (run_move rfl (hF.ev rfl)) ?_; clear hF; intro a hF
    refine op_val (v := .agg #[.slice B109 p108.1.length d111, .int .i64 p108.2.1, .int .i64 p108.2.2.1, .bool p108.2.2.2.1, .int .i64 p108.2.2.2.2.1]) rfl rfl hF rfl (run_extract rfl (hF.ev rfl) rfl) ?_; clear hF; intro a hF
    refine op_val (v := .bool p108.2.2.2.2.2) rfl rfl hF rfl (run_extract rfl (hF.ev rfl) rfl) ?_; clear hF; intro a hF
    refine op_new (cs := #[.slice none 0 0, .int .i64 0, .int .i64 0, .bool false, .int .i64 0]) rfl rfl hF rfl S (run_allocZ rfl zr25) ?_; clear hF S; intro a g112 u hF S
    refine op_do rfl rfl (run_store (cs' := #[.slice B109 p108.1.length d111, .int .i64 p108.2.1, .int .i64 p108.2.2.1, .bool p108.2.2.2.1, .int .i64 p108.2.2.2.2.1]) rfl sz25 (hF.ev rfl) (hF.ev rfl) rfl rfl rfl (S.free 0 rfl) rfl rfl) ?_; replace S := S.put 0 rfl (#[.slice B109 p108.1.length d111, .int .i64 p108.2.1, .int .i64 p108.2.2.1, .bool p108.2.2.2.1, .int .i64 p108.2.2.2.2.1])
    generalize World.setRow _ _ _ = u at S ⊢
    refine op_val (v := .bool p108.2.2.2.2.2) rfl rfl hF rfl (run_assign rfl (hF.ev rfl)) ?_; clear hF; intro a hF
    refine wpList_nil ?_
    refine wp_seq ?_
    refine wp_region_lit ?_
    refine op_val (v := .agg #[.slice B103 p102.1.length d105, .int .i64 p102.2.1, .int .i64 p102.2.2.1, .bool p102.2.2.2.1, .int .i64 p102.2.2.2.2.1]) rfl rfl hF rfl (run_loadN rfl ag25 (hF.ev rfl) rfl ((S.free 3 rfl).cells 0 #[.slice B103 p102.1.length d105, .int .i64 p102.2.1, .int .i64 p102.2.2.1, .bool p102.2.2.2.1, .int .i64 p102.2.2.2.2.1] rfl)) ?_; clear hF; intro a hF
    refine op_val (v := .agg #[.int .i64 p102.2.2.2.2.2.1, .int .i64 p102.2.2.2.2.2.2.1, .int .i64 p102.2.2.2.2.2.2.2.1, .bool p102.2.2.2.2.2.2.2.2]) rfl rfl hF rfl (run_loadN rfl ag27 (hF.ev rfl) rfl ((S.free 2 rfl).cells 0 #[.int .i64 p102.2.2.2.2.2.1, .int .i64 p102.2.2.2.2.2.2.1, .int .i64 p102.2.2.2.2.2.2.2.1, .bool p102.2.2.2.2.2.2.2.2] rfl)) ?_; clear hF; intro a hF
    obtain ⟨p113, h113, hM⟩ := bind_ex hM
    refine op_call rfl rfl hF rfl (run_call (vs := [.agg #[.slice B103 p102.1.length d105, .int .i64 p102.2.1, .int .i64 p102.2.2.1, .bool p102.2.2.2.1, .int .i64 p102.2.2.2.2.1], .agg #[.int .i64 p102.2.2.2.2.2.1, .int .i64 p102.2.2.2.2.2.2.1, .int .i64 p102.2.2.2.2.2.2.2.1, .bool p102.2.2.2.2.2.2.2.2]]) rfl rfl co8 ⟨(hF.ev rfl), (hF.ev rfl), trivial⟩) (c_spec_PanelDo (x0 := p102.1) (x1 := p102.2.1) (x2 := p102.2.2.1) (x3 := p102.2.2.2.1) (x4 := p102.2.2.2.2.1) (x5 := p102.2.2.2.2.2.1) (x6 := p102.2.2.2.2.2.2.1) (x7 := p102.2.2.2.2.2.2.2.1) (x8 := p102.2.2.2.2.2.2.2.2) ⟨(S.rc 4 rfl), rfl⟩ h113) ?_
    rintro e u ⟨B114, n115, d116, rfl, rfl, T⟩
    refine ⟨_, rfl, ?_⟩
    clear hF; intro a hF
    replace S := S.call1 T; clear T
    refine op_val (v := .tuple #[.agg #[.slice B114 p113.1.length d116, .int .i64 p113.2.1, .int .i64 p113.2.2.1, .bool p113.2.2.2.1, .int .i64 p113.2.2.2.2.1], .bool p113.2.2.2.2.2]) rfl rfl hF rfl (run_move rfl (hF.ev rfl)) ?_; clear hF; intro a hF
    refine op_val (v := .agg #[.slice B114 p113.1.length d116, .int .i64 p113.2.1, .int .i64 p113.2.2.1, .bool p113.2.2.2.1, .int .i64 p113.2.2.2.2.1]) rfl rfl hF rfl (run_extract rfl (hF.ev rfl) rfl) ?_; clear hF; intro a hF
    refine op_val (v := .bool p113.2.2.2.2.2) rfl rfl hF rfl (run_extract rfl (hF.ev rfl) rfl) ?_; clear hF; intro a hF
    refine op_new (cs := #[.slice none 0 0, .int .i64 0, .int .i64 0, .bool false, .int .i64 0]) rfl rfl hF rfl S (run_allocZ rfl zr25) ?_; clear hF S; intro a g117 u hF S
    refine op_do rfl rfl (run_store (cs' := #[.slice B114 p113.1.length d116, .int .i64 p113.2.1, .int .i64 p113.2.2.1, .bool p113.2.2.2.1, .int .i64 p113.2.2.2.2.1]) rfl sz25 (hF.ev rfl) (hF.ev rfl) rfl rfl rfl (S.free 0 rfl) rfl rfl) ?_; replace S := S.put 0 rfl (#[.slice B114 p113.1.length d116, .int .i64 p113.2.1, .int .i64 p113.2.2.1, .bool p113.2.2.2.1, .int .i64 p113.2.2.2.2.1])
    generalize World.setRow _ _ _ = u at S ⊢
    refine op_val (v := .bool p113.2.2.2.2.2) rfl rfl hF rfl (run_assign rfl (hF.ev rfl)) ?_; clear hF; intro a hF
    refine wpList_nil ?_
    refine wp_seq ?_
    refine wp_seq ?_
    refine wp_region_lit ?_
    refine op_val (v := .agg #[.slice B109 p108.1.length d111, .int .i64 p108.2.1, .int .i64 p108.2.2.1, .bool p108.2.2.2.1, .int .i64 p108.2.2.2.2.1]) rfl rfl hF rfl (run_loadN rfl ag25 (hF.ev rfl) rfl ((S.free 2 rfl).cells 0 #[.slice B109 p108.1.length d111, .int .i64 p108.2.1, .int .i64 p108.2.2.1, .bool p108.2.2.2.1, .int .i64 p108.2.2.2.2.1] rfl)) ?_; clear hF; intro a hF
    refine op_val (v := .agg #[.slice B114 p113.1.length d116, .int .i64 p113.2.1, .int .i64 p113.2.2.1, .bool p113.2.2.2.1, .int .i64 p113.2.2.2.2.1]) rfl rfl hF rfl (run_loadN rfl ag25 (hF.ev rfl) rfl ((S.free 0 rfl).cells 0 #[.slice B114 p113.1.length d116, .int .i64 p113.2.1, .int .i64 p113.2.2.1, .bool p113.2.2.2.1, .int .i64 p113.2.2.2.2.1] rfl)) ?_; clear hF; intro a hF
    obtain ⟨p118, h118, hM⟩ := bind_ex hM
    refine op_call rfl rfl hF rfl (run_call (vs := [.agg #[.slice B109 p108.1.length d111, .int .i64 p108.2.1, .int .i64 p108.2.2.1, .bool p108.2.2.2.1, .int .i64 p108.2.2.2.2.1], .agg #[.slice B114 p113.1.length d116, .int .i64 p113.2.1, .int .i64 p113.2.2.1, .bool p113.2.2.2.1, .int .i64 p113.2.2.2.2.1]]) rfl rfl co9 ⟨(hF.ev rfl), (hF.ev rfl), trivial⟩) (c_laws_samePanel (x0 := p108.1) (x1 := p108.2.1) (x2 := p108.2.2.1) (x3 := p108.2.2.2.1) (x4 := p108.2.2.2.2.1) (x5 := p113.1) (x6 := p113.2.1) (x7 := p113.2.2.1) (x8 := p113.2.2.2.1) (x9 := p113.2.2.2.2.1) ⟨(S.rc 3 rfl), rfl⟩ ⟨(S.rc 1 rfl), rfl⟩ h118) ?_
    rintro e u ⟨rfl, T⟩
    refine ⟨_, rfl, ?_⟩
    clear hF; intro a hF
    replace S := S.call0 T; clear T
    refine op_val (v := .bool (!p118)) rfl rfl hF rfl (run_not rfl (hF.ev rfl)) ?_; clear hF; intro a hF
    refine op_val (v := .bool (!p118)) rfl rfl hF rfl (run_move rfl (hF.ev rfl)) ?_; clear hF; intro a hF
    refine op_gv (v := .bool p108.2.2.2.2.2) rfl rfl hF rfl (yf (gw_yield hF rfl rfl rfl)) (fun hg => (run_move rfl (hF.ev rfl))) ?_; clear hF; intro a hF
    refine op_gv (v := .bool p113.2.2.2.2.2) rfl rfl hF rfl (yf (gw_yield hF rfl rfl rfl)) (fun hg => (run_move rfl (hF.ev rfl))) ?_; clear hF; intro a hF
    refine op_gv (v := .bool (p108.2.2.2.2.2 != p113.2.2.2.2.2)) rfl rfl hF rfl (yf (gw_yield hF rfl rfl rfl)) (fun hg => (run_neqB ((hF.ev rfl).trans (gv_t hg)) ((hF.ev rfl).trans (gv_t hg)) Tryd.underlying4 rfl)) ?_; clear hF; intro a hF
    refine op_val (v := .bool ((!p118) || (p108.2.2.2.2.2 != p113.2.2.2.2.2))) rfl rfl hF rfl (run_pick_or rfl (hF.ev rfl) rfl (fun hp => ((hF.ev rfl).trans (gv_t (not_t hp))))) ?_; clear hF; intro a hF
    refine wpList_nil ?_
    cases hc119 : ((!p118) || (p108.2.2.2.2.2 != p113.2.2.2.2.2))
    · replace hM := bif_f hc119 hM
      refine cond_f hF rfl hc119 ?_
      refine wp_skip ?_
      refine wp_seq ?_
      refine wp_seq ?_
      refine wp_region_lit ?_
      refine op_val (v := .bool p108.2.2.2.2.2) rfl rfl hF rfl (run_move rfl (hF.ev rfl)) ?_; clear hF; intro a hF
      refine op_val (v := .bool (!p108.2.2.2.2.2)) rfl rfl hF rfl (run_not rfl (hF.ev rfl)) ?_; clear hF; intro a hF
      refine wpList_nil ?_
      cases hc120 : (p108.2.2.2.2.2)
      · replace hM := bif_f hc120 hM
        refine cond_t hF rfl (not_t hc120) ?_
        refine wp_seq ?_
        refine wp_region_lit ?_
        refine op_val (v := .agg #[.slice B109 p108.1.length d111, .int .i64 p108.2.1, .int .i64 p108.2.2.1, .bool p108.2.2.2.1, .int .i64 p108.2.2.2.2.1]) rfl rfl hF rfl (run_loadN rfl ag25 (hF.ev rfl) rfl ((S.free 2 rfl).cells 0 #[.slice B109 p108.1.length d111, .int .i64 p108.2.1, .int .i64 p108.2.2.1, .bool p108.2.2.2.1, .int .i64 p108.2.2.2.2.1] rfl)) ?_; clear hF; intro a hF
        refine op_val (v := .agg #[.slice B103 p102.1.length d105, .int .i64 p102.2.1, .int .i64 p102.2.2.1, .bool p102.2.2.2.1, .int .i64 p102.2.2.2.2.1]) rfl rfl hF rfl (run_loadN rfl ag25 (hF.ev rfl) rfl ((S.free 5 rfl).cells 0 #[.slice B103 p102.1.length d105, .int .i64 p102.2.1, .int .i64 p102.2.2.1, .bool p102.2.2.2.1, .int .i64 p102.2.2.2.2.1] rfl)) ?_; clear hF; intro a hF
        obtain ⟨p121, h121, hM⟩ := bind_ex hM
        refine op_call rfl rfl hF rfl (run_call (vs := [.agg #[.slice B109 p108.1.length d111, .int .i64 p108.2.1, .int .i64 p108.2.2.1, .bool p108.2.2.2.1, .int .i64 p108.2.2.2.2.1], .agg #[.slice B103 p102.1.length d105, .int .i64 p102.2.1, .int .i64 p102.2.2.1, .bool p102.2.2.2.1, .int .i64 p102.2.2.2.2.1]]) rfl rfl co9 ⟨(hF.ev rfl), (hF.ev rfl), trivial⟩) (c_laws_samePanel (x0 := p108.1) (x1 := p108.2.1) (x2 := p108.2.2.1) (x3 := p108.2.2.2.1) (x4 := p108.2.2.2.2.1) (x5 := p102.1) (x6 := p102.2.1) (x7 := p102.2.2.1) (x8 := p102.2.2.2.1) (x9 := p102.2.2.2.2.1) ⟨(S.rc 3 rfl), rfl⟩ ⟨(S.rc 6 rfl), rfl⟩ h121) ?_
        rintro e u ⟨rfl, T⟩
        refine ⟨_, rfl, ?_⟩
        clear hF; intro a hF
        replace S := S.call0 T; clear T
        refine op_val (v := .bool p121) rfl rfl hF rfl (run_move rfl (hF.ev rfl)) ?_; clear hF; intro a hF
        refine op_gv (v := .agg #[.slice B103 p102.1.length d105, .int .i64 p102.2.1, .int .i64 p102.2.2.1, .bool p102.2.2.2.1, .int .i64 p102.2.2.2.2.1]) rfl rfl hF rfl (yf (gw_yield hF rfl rfl rfl)) (fun hg => (run_loadN rfl ag25 (hF.ev rfl) rfl ((S.free 5 rfl).cells 0 #[.slice B103 p102.1.length d105, .int .i64 p102.2.1, .int .i64 p102.2.2.1, .bool p102.2.2.2.1, .int .i64 p102.2.2.2.2.1] rfl))) ?_; clear hF; intro a hF
        obtain ⟨p122, h122, hM⟩ := bind_ex hM
        refine op_gcall (v := .bool p122) rfl rfl hF rfl S (yf (gw_yield hF rfl rfl rfl)) (fun hg => (run_call (vs := [.agg #[.slice B103 p102.1.length d105, .int .i64 p102.2.1, .int .i64 p102.2.2.1, .bool p102.2.2.2.1, .int .i64 p102.2.2.2.2.1]]) rfl rfl co10 ⟨((hF.ev rfl).trans (gv_t hg)), trivial⟩)) (fun hg => c_impl_PanelValid (x0 := p102.1) (x1 := p102.2.1) (x2 := p102.2.2.1) (x3 := p102.2.2.2.1) (x4 := p102.2.2.2.2.1) ⟨(S.rc 6 rfl), rfl⟩ (gb_t h122 hg)) ?_; clear hF S; intro a u hF S
        refine op_gv (v := .bool (!p122)) rfl rfl hF rfl (yf (gw_yield hF rfl rfl rfl)) (fun hg => (run_not rfl ((hF.ev rfl).trans (gv_t hg)))) ?_; clear hF; intro a hF
        refine op_val (v := .bool (p121 || (!p122))) rfl rfl hF rfl (run_pick_or rfl (hF.ev rfl) rfl (fun hp => ((hF.ev rfl).trans (gv_t (not_t hp))))) ?_; clear hF; intro a hF
        refine op_val (v := .bool (p121 || (!p122))) rfl rfl hF rfl (run_move rfl (hF.ev rfl)) ?_; clear hF; intro a hF
        obtain ⟨p123, h123, hM⟩ := bind_ex hM
        refine op_gcall (v := .bool p123) rfl rfl hF rfl S (yt (gw_yield hF rfl rfl rfl)) (fun hg => (run_call (vs := []) rfl rfl co11 trivial)) (fun hg => c_laws_alive   (gb_t h123 hg)) ?_; clear hF S; intro a u hF S
        refine op_val (v := .bool ((p121 || (!p122)) && p123)) rfl rfl hF rfl (run_pick_and rfl (hF.ev rfl) (fun hp => ((hF.ev rfl).trans (gv_t hp))) rfl) ?_; clear hF; intro a hF
        refine op_val (v := .bool ((p121 || (!p122)) && p123)) rfl rfl hF rfl (run_assign rfl (hF.ev rfl)) ?_; clear hF; intro a hF
        refine wpList_nil ?_
        refine wp_ret ?_
        repeat with_reducible (first | refine then_ret ?_ | refine in_ret ?_ | refine in_nrm ?_)
        refine ret1_gw (.inl rfl) hF rfl (res_tmp (hF.ev rfl)) ?_
        obtain rfl := Option.some.inj hM
        exact ⟨rfl, S.sel [] rfl rfl⟩
      · replace hM := bif_t hc120 hM
        refine cond_f hF rfl (not_f hc120) ?_
        refine wp_skip ?_
        refine wp_seq ?_
        refine wp_region_lit ?_
        refine op_val (v := .pointer (some ⟨g106, 0, none⟩)) rfl rfl hF rfl (run_fieldAddr rfl fl25_0 (hF.ev rfl) rfl) ?_; clear hF; intro a hF
        refine op_val (v := .slice B103 p102.1.length d105) rfl rfl hF rfl (run_load1 rfl one23 (hF.ev rfl) ((S.free 5 rfl).cell rfl)) ?_; clear hF; intro a hF
        refine op_val (v := .pointer (some ⟨g112, 0, none⟩)) rfl rfl hF rfl (run_fieldAddr rfl fl25_0 (hF.ev rfl) rfl) ?_; clear hF; intro a hF
        refine op_val (v := .slice B109 p108.1.length d111) rfl rfl hF rfl (run_load1 rfl one23 (hF.ev rfl) ((S.free 2 rfl).cell rfl)) ?_; clear hF; intro a hF
        obtain ⟨p124, h124, hM⟩ := bind_ex hM
        refine op_call rfl rfl hF rfl (run_call (vs := [.slice B103 p102.1.length d105, .slice B109 p108.1.length d111]) rfl rfl co12 ⟨(hF.ev rfl), (hF.ev rfl), trivial⟩) (c_impl_Changes (x0 := p102.1) (x1 := p108.1) ⟨(S.rc 6 rfl), rfl⟩ ⟨(S.rc 3 rfl), rfl⟩ h124) ?_
        rintro e u ⟨B125, n126, d127, rfl, rfl, T⟩
        refine ⟨_, rfl, ?_⟩
        clear hF; intro a hF
        replace S := S.call1 T; clear T
        refine op_val (v := .slice B125 p124.length d127) rfl rfl hF rfl (run_assign rfl (hF.ev rfl)) ?_; clear hF; intro a hF
        refine wpList_nil ?_
        refine wp_seq ?_
        refine wp_seq ?_
        refine wp_region_lit ?_
        refine op_val (v := .pointer (some ⟨g107, 0, none⟩)) rfl rfl hF rfl (run_fieldAddr rfl fl27_0 (hF.ev rfl) rfl) ?_; clear hF; intro a hF
        refine op_val (v := .int .i64 p102.2.2.2.2.2.1) rfl rfl hF rfl (run_load1 rfl one3 (hF.ev rfl) ((S.free 5 rfl).cell rfl)) ?_; clear hF; intro a hF
        refine op_val (v := .bool (p102.2.2.2.2.2.1 != 1)) rfl rfl hF rfl (run_neq (hF.ev rfl) rfl rfl) ?_; clear hF; intro a hF
        refine wpList_nil ?_
        cases hc128 : (p102.2.2.2.2.2.1 != 1)
        · replace hM := bif_f hc128 hM
          refine cond_f hF rfl hc128 ?_
          refine wp_skip ?_
          refine wp_seq ?_
          obtain ⟨o130, hM131, hM⟩ := bind_ex hM
          refine wp_cut (fun a u => ∃ (p129 : Bool), p129 = o130 ∧ Fr a 81 [(2, .bool p129)] ∧ St w u [.box g117 25 #[.slice B114 p113.1.length d116, .int .i64 p113.2.1, .int .i64 p113.2.2.1, .bool p113.2.2.2.1, .int .i64 p113.2.2.2.2.1], .box g112 25 #[.slice B109 p108.1.length d111, .int .i64 p108.2.1, .int .i64 p108.2.2.1, .bool p108.2.2.2.1, .int .i64 p108.2.2.2.2.1], .box g107 27 #[.int .i64 p102.2.2.2.2.2.1, .int .i64 p102.2.2.2.2.2.2.1, .int .i64 p102.2.2.2.2.2.2.2.1, .bool p102.2.2.2.2.2.2.2.2], .box g106 25 #[.slice B103 p102.1.length d105, .int .i64 p102.2.1, .int .i64 p102.2.2.1, .bool p102.2.2.2.1, .int .i64 p102.2.2.2.2.1], .row 4 1 (.slice B114 p113.1.length d116) p113.1.length (p113.1.flatMap eB), .row 4 1 (.slice B109 p108.1.length d111) p108.1.length (p108.1.flatMap eB), .row 4 1 (.slice B103 p102.1.length d105) p102.1.length (p102.1.flatMap eB)]) ?_ ?_
          · have _ := trivial
            refine wp_region_lit ?_
            refine op_val (v := .agg #[.slice B109 p108.1.length d111, .int .i64 p108.2.1, .int .i64 p108.2.2.1, .bool p108.2.2.2.1, .int .i64 p108.2.2.2.2.1]) rfl rfl hF rfl (run_loadN rfl ag25 (hF.ev rfl) rfl ((S.free 3 rfl).cells 0 #[.slice B109 p108.1.length d111, .int .i64 p108.2.1, .int .i64 p108.2.2.1, .bool p108.2.2.2.1, .int .i64 p108.2.2.2.2.1] rfl)) ?_; clear hF; intro a hF
            obtain ⟨p132, h132, hM131⟩ := bind_ex hM131
            refine op_call rfl rfl hF rfl (run_call (vs := [.agg #[.slice B109 p108.1.length d111, .int .i64 p108.2.1, .int .i64 p108.2.2.1, .bool p108.2.2.2.1, .int .i64 p108.2.2.2.2.1]]) rfl rfl co10 ⟨(hF.ev rfl), trivial⟩) (c_impl_PanelValid (x0 := p108.1) (x1 := p108.2.1) (x2 := p108.2.2.1) (x3 := p108.2.2.2.1) (x4 := p108.2.2.2.2.1) ⟨(S.rc 4 rfl), rfl⟩ h132) ?_
            rintro e u ⟨rfl, T⟩
            refine ⟨_, rfl, ?_⟩
            clear hF; intro a hF
            replace S := S.call0 T; clear T
            refine op_val (v := .bool p132) rfl rfl hF rfl (run_move rfl (hF.ev rfl)) ?_; clear hF; intro a hF
            refine op_gv (v := .slice B125 p124.length d127) rfl rfl hF rfl (yt (gw_yield hF rfl rfl rfl)) (fun hg => (run_move rfl (hF.ev rfl))) ?_; clear hF; intro a hF
            refine op_gv (v := .pointer (some ⟨g107, 2, none⟩)) rfl rfl hF rfl (yt (gw_yield hF rfl rfl rfl)) (fun hg => (run_fieldAddr rfl fl27_2 (hF.ev rfl) rfl)) ?_; clear hF; intro a hF
            refine op_gv (v := .int .i64 p102.2.2.2.2.2.2.2.1) rfl rfl hF rfl (yt (gw_yield hF rfl rfl rfl)) (fun hg => (run_load1 rfl one3 ((hF.ev rfl).trans (gv_t hg)) ((S.free 5 rfl).cell rfl))) ?_; clear hF; intro a hF
            cases hc133 : (p132)
            · replace hM131 := bif_f hc133 hM131
              refine op_skipped rfl ((gw_yield hF rfl rfl rfl).trans (congrArg some hc133)) rfl rfl hF rfl ?_; clear hF; intro a hF
              refine op_skipped rfl ((gw_yield hF rfl rfl rfl).trans (congrArg some hc133)) rfl rfl hF rfl ?_; clear hF; intro a hF
              refine op_val (v := .bool false) rfl rfl hF rfl (run_pick_f rfl (hF.ev rfl) hc133 rfl) ?_; clear hF; intro a hF
              refine op_val (v := .bool false) rfl rfl hF rfl (run_move rfl (hF.ev rfl)) ?_; clear hF; intro a hF
              refine op_skipped rfl ((gw_yield hF rfl rfl rfl).trans (congrArg some rfl)) rfl rfl hF rfl ?_; clear hF; intro a hF
              refine op_skipped rfl ((gw_yield hF rfl rfl rfl).trans (congrArg some rfl)) rfl rfl hF rfl ?_; clear hF; intro a hF
              refine op_skipped rfl ((gw_yield hF rfl rfl rfl).trans (congrArg some rfl)) rfl rfl hF rfl ?_; clear hF; intro a hF
              refine op_val (v := .bool false) rfl rfl hF rfl (run_pick_f rfl (hF.ev rfl) rfl rfl) ?_; clear hF; intro a hF
              refine op_val (v := .bool false) rfl rfl hF rfl (run_assign rfl (hF.ev rfl)) ?_; clear hF; intro a hF
              refine wpList_nil ?_
              obtain rfl := Option.some.inj hM131
              exact ⟨false, rfl, hF.keep _ ⟨rfl, trivial⟩, S.sel [1, 3, 5, 6, 2, 4, 7] rfl rfl⟩
            · replace hM131 := bif_t hc133 hM131
              refine op_guarded rfl ((gw_yield hF rfl rfl rfl).trans (congrArg some hc133)) ?_
              refine op_newrowL (ls := ([p102.2.2.2.2.2.2.2.1] : List Int)) (e := eI) rfl rfl hF rfl S (run_buildS (vs := [(0, .int .i64 p102.2.2.2.2.2.2.2.1)]) rfl ⟨⟨rfl, ((hF.ev rfl).trans (gv_t hc133))⟩, trivial⟩ (bs35_1_0 rfl)) rfl eI_len (Nat.le_of_ble_eq_true rfl) ?_; clear hF S; intro a g134 u hF S
              refine op_guarded rfl ((gw_yield hF rfl rfl rfl).trans (congrArg some hc133)) ?_
              obtain ⟨p135, h135, hM131⟩ := bind_ex hM131
              refine op_call rfl rfl hF rfl (run_call (vs := [.slice B125 p124.length d127, .slice (some ⟨g134, 0, none⟩) (([p102.2.2.2.2.2.2.2.1]).length) (([p102.2.2.2.2.2.2.2.1]).length)]) rfl rfl co13 ⟨((hF.ev rfl).trans (gv_t hc133)), (hF.ev rfl), trivial⟩) (c_laws_sameInts (x0 := p124) (x1 := [p102.2.2.2.2.2.2.2.1]) ⟨(S.rc 1 rfl), rfl⟩ ⟨(S.rc 0 rfl), rfl⟩ h135) ?_
              rintro e u ⟨rfl, T⟩
              refine ⟨_, rfl, ?_⟩
              clear hF; intro a hF
              replace S := S.call0 T; clear T
              refine op_val (v := .bool p135) rfl rfl hF rfl (run_pick_t rfl (hF.ev rfl) hc133 (hF.ev rfl)) ?_; clear hF; intro a hF
              refine op_val (v := .bool p135) rfl rfl hF rfl (run_move rfl (hF.ev rfl)) ?_; clear hF; intro a hF
              refine op_gv (v := .pointer (some ⟨g112, 1, none⟩)) rfl rfl hF rfl (yt (gw_yield hF rfl rfl rfl)) (fun hg => (run_fieldAddr rfl fl25_1 (hF.ev rfl) rfl)) ?_; clear hF; intro a hF
              refine op_gv (v := .int .i64 p108.2.1) rfl rfl hF rfl (yt (gw_yield hF rfl rfl rfl)) (fun hg => (run_load1 rfl one3 ((hF.ev rfl).trans (gv_t hg)) ((S.free 4 rfl).cell rfl))) ?_; clear hF; intro a hF
              refine op_gv (v := .bool (p108.2.1 == (-1))) rfl rfl hF rfl (yt (gw_yield hF rfl rfl rfl)) (fun hg => (run_eql ((hF.ev rfl).trans (gv_t hg)) rfl rfl)) ?_; clear hF; intro a hF
              refine op_val (v := .bool (p135 && (p108.2.1 == (-1)))) rfl rfl hF rfl (run_pick_and rfl (hF.ev rfl) (fun hp => ((hF.ev rfl).trans (gv_t hp))) rfl) ?_; clear hF; intro a hF
              refine op_val (v := .bool (p135 && (p108.2.1 == (-1)))) rfl rfl hF rfl (run_assign rfl (hF.ev rfl)) ?_; clear hF; intro a hF
              refine wpList_nil ?_
              obtain rfl := Option.some.inj hM131
              exact ⟨p135 && (p108.2.1 == (-1)), rfl, hF.keep _ ⟨rfl, trivial⟩, S.sel [2, 4, 6, 7, 3, 5, 8] rfl rfl⟩
          · rintro a u ⟨p129, rfl, hF, S⟩
            refine wp_ret ?_
            repeat with_reducible (first | refine then_ret ?_ | refine in_ret ?_ | refine in_nrm ?_)
            refine ret1_gw (.inl rfl) hF rfl (res_tmp (hF.ev rfl)) ?_
            obtain rfl := Option.some.inj hM
            exact ⟨rfl, S.sel [] rfl rfl⟩
        · replace hM := bif_t hc128 hM
          refine cond_t hF rfl hc128 ?_
          refine wp_seq ?_
          refine wp_region_lit ?_
          refine op_val (v := .agg #[.slice B109 p108.1.length d111, .int .i64 p108.2.1, .int .i64 p108.2.2.1, .bool p108.2.2.2.1, .int .i64 p108.2.2.2.2.1]) rfl rfl hF rfl (run_loadN rfl ag25 (hF.ev rfl) rfl ((S.free 3 rfl).cells 0 #[.slice B109 p108.1.length d111, .int .i64 p108.2.1, .int .i64 p108.2.2.1, .bool p108.2.2.2.1, .int .i64 p108.2.2.2.2.1] rfl)) ?_; clear hF; intro a hF
          obtain ⟨p136, h136, hM⟩ := bind_ex hM
          refine op_call rfl rfl hF rfl (run_call (vs := [.agg #[.slice B109 p108.1.length d111, .int .i64 p108.2.1, .int .i64 p108.2.2.1, .bool p108.2.2.2.1, .int .i64 p108.2.2.2.2.1]]) rfl rfl co10 ⟨(hF.ev rfl), trivial⟩) (c_impl_PanelValid (x0 := p108.1) (x1 := p108.2.1) (x2 := p108.2.2.1) (x3 := p108.2.2.2.1) (x4 := p108.2.2.2.2.1) ⟨(S.rc 4 rfl), rfl⟩ h136) ?_
          rintro e u ⟨rfl, T⟩
          refine ⟨_, rfl, ?_⟩
          clear hF; intro a hF
          replace S := S.call0 T; clear T
          refine op_val (v := .bool p136) rfl rfl hF rfl (run_move rfl (hF.ev rfl)) ?_; clear hF; intro a hF
          refine op_gv (v := .slice B125 p124.length d127) rfl rfl hF rfl (yt (gw_yield hF rfl rfl rfl)) (fun hg => (run_move rfl (hF.ev rfl))) ?_; clear hF; intro a hF
          refine op_gv (v := .int .i64 (p124.length : Int)) rfl rfl hF rfl (yt (gw_yield hF rfl rfl rfl)) (fun hg => (run_lenL rfl rfl Tryd.underlying35 ((hF.ev rfl).trans (gv_t hg)))) ?_; clear hF; intro a hF
          refine op_gv (v := .bool ((p124.length : Int) == 0)) rfl rfl hF rfl (yt (gw_yield hF rfl rfl rfl)) (fun hg => (run_eql ((hF.ev rfl).trans (gv_t hg)) rfl rfl)) ?_; clear hF; intro a hF
          refine op_val (v := .bool (p136 && ((p124.length : Int) == 0))) rfl rfl hF rfl (run_pick_and rfl (hF.ev rfl) (fun hp => ((hF.ev rfl).trans (gv_t hp))) rfl) ?_; clear hF; intro a hF
          refine op_val (v := .bool (p136 && ((p124.length : Int) == 0))) rfl rfl hF rfl (run_assign rfl (hF.ev rfl)) ?_; clear hF; intro a hF
          refine wpList_nil ?_
          refine wp_ret ?_
          repeat with_reducible (first | refine then_ret ?_ | refine in_ret ?_ | refine in_nrm ?_)
          refine ret1_gw (.inl rfl) hF rfl (res_tmp (hF.ev rfl)) ?_
          obtain rfl := Option.some.inj hM
          exact ⟨rfl, S.sel [] rfl rfl⟩
    · replace hM := bif_t hc119 hM
      refine cond_t hF rfl hc119 ?_
      refine wp_seq ?_
      refine wp_region_lit ?_
      refine op_val (v := .bool false) rfl rfl hF rfl (run_assign rfl rfl) ?_; clear hF; intro a hF
      refine wpList_nil ?_
      refine wp_ret ?_
      repeat with_reducible (first | refine then_ret ?_ | refine in_ret ?_ | refine in_nrm ?_)
      refine ret1_gw (.inl rfl) hF rfl (res_tmp (hF.ev rfl)) ?_
      obtain rfl := Option.some.inj hM
      exact ⟨rfl, S.sel [] rfl rfl⟩
  · replace hM := bif_t hc101 hM
    refine cond_t hF rfl hc101 ?_
    refine wp_seq ?_
    refine wp_region_lit ?_
    refine op_val (v := .bool true) rfl rfl hF rfl (run_assign rfl rfl) ?_; clear hF; intro a hF
    refine wpList_nil ?_
    refine wp_ret ?_
    repeat with_reducible (first | refine then_ret ?_ | refine in_ret ?_ | refine in_nrm ?_)
    refine ret1_gw (.inl rfl) hF rfl (res_tmp (hF.ev rfl)) ?_
    obtain rfl := Option.some.inj hM
    exact ⟨rfl, S.sel [] rfl rfl⟩

set_option maxHeartbeats 4000000 in
theorem c_spec_DrawPanelRun {x0 : List Int} {A0 : Option Addr} {n0 c0 : Nat} {w : World} {r : List Bool × Int × Int × Bool × Int × List (Int × Int × Int × Bool)} (h0 : Rt w 1 eU A0 n0 c0 x0) (hM : m_spec_DrawPanelRun x0 = some r) :
    Calls Tryd.prog 14 #[.slice A0 n0 c0] w (fun e w' => ∃ (B0 : Option Addr) (N0 D0 : Nat) (B1 : Option Addr) (N1 D1 : Nat), e = .returned (.tuple #[.agg #[.slice B0 N0 D0, .int .i64 r.2.1, .int .i64 r.2.2.1, .bool r.2.2.2.1, .int .i64 r.2.2.2.2.1], .slice B1 N1 D1]) ∧ N0 = r.1.length ∧ N1 = r.2.2.2.2.2.length ∧ St w w' [.part 1 (.slice B0 N0 D0) N0 (r.1.flatMap eB), .row 27 4 (.slice B1 N1 D1) N1 (r.2.2.2.2.2.flatMap eCommand)]) := by
  obtain rfl := h0.len
  unfold m_spec_DrawPanelRun at hM
  refine calls_gw Tryd.func14 Tryd.ntmps14 rfl [(0, .slice A0 x0.length c0)] ⟨rfl, trivial⟩ rfl ?_
  intro a hF
  have S := St.nil w
  refine wp_seq ?_
  refine wp_region_lit ?_
  refine op_new (cs := #[.slice none 0 0, .int .i64 0, .int .i64 0, .bool false, .int .i64 0]) rfl rfl hF rfl S (run_allocZ rfl zr25) ?_; clear hF S; intro a g101 u hF S
  refine op_val (v := .slice none 0 0) rfl rfl hF rfl (run_assign rfl rfl) ?_; clear hF; intro a hF
  refine wpList_nil ?_
  refine wp_seq ?_
  refine wp_region_lit ?_
  refine op_val (v := .slice A0 x0.length c0) rfl rfl hF rfl (run_move rfl (hF.ev rfl)) ?_; clear hF; intro a hF
  refine op_call rfl rfl hF rfl (run_call (vs := [.slice A0 x0.length c0]) rfl rfl co24 ⟨(hF.ev rfl), trivial⟩) (c_spec_l20Open ⟨(S.rc0 h0.rc), rfl⟩) ?_
  rintro e u ⟨g102, rfl, T⟩
  refine ⟨_, rfl, ?_⟩
  clear hF; intro a hF
  replace S := S.call1 T; clear T
  refine op_val (v := .pointer (some ⟨g102, 0, none⟩)) rfl rfl hF rfl (run_assign rfl (hF.ev rfl)) ?_; clear hF; intro a hF
  refine wpList_nil ?_
  refine wp_seq ?_
  refine wp_region_lit ?_
  refine op_val (v := .pointer (some ⟨g102, 0, none⟩)) rfl rfl hF rfl (run_move rfl (hF.ev rfl)) ?_; clear hF; intro a hF
  obtain ⟨p103, h103, hM⟩ := bind_ex hM
  refine op_call rfl rfl hF rfl (run_call (vs := [.pointer (some ⟨g102, 0, none⟩), .int .i64 9]) rfl rfl co25 ⟨(hF.ev rfl), rfl, trivial⟩) (c_spec_l20Panel (x0 := x0.take 2000) (x1 := 0) (x2 := 9) ⟨(op_rc h0.rc rfl), rfl⟩ (show St w _ [.box g102 67 #[.slice (opA c0 x0.length A0) ((x0.take 2000).length) c0, .int .i64 0], .box g101 25 #[.slice none 0 0, .int .i64 0, .int .i64 0, .bool false, .int .i64 0]] from S.sel [0, 1] rfl rfl) h103) ?_
  rintro e u ⟨B104, n105, d106, rfl, rfl, T⟩
  refine ⟨_, rfl, ?_⟩
  clear hF; intro a hF
  clear S; have S := T; clear T
  refine op_new (cs := #[.slice none 0 0, .int .i64 0, .int .i64 0, .bool false, .int .i64 0]) rfl rfl hF rfl S (run_allocZ rfl zr25) ?_; clear hF S; intro a g107 u hF S
  refine op_do rfl rfl (run_store (cs' := #[.slice B104 p103.1.length d106, .int .i64 p103.2.1, .int .i64 p103.2.2.1, .bool p103.2.2.2.1, .int .i64 p103.2.2.2.2.1]) rfl sz25 (hF.ev rfl) (hF.ev rfl) rfl rfl rfl (S.free 0 rfl) rfl rfl) ?_; replace S := S.put 0 rfl (#[.slice B104 p103.1.length d106, .int .i64 p103.2.1, .int .i64 p103.2.2.1, .bool p103.2.2.2.1, .int .i64 p103.2.2.2.2.1])
  generalize World.setRow _ _ _ = u at S ⊢
  refine wpList_nil ?_
  refine wp_seq ?_
  refine wp_region_lit ?_
  refine op_newrow (cs := #[]) (size := 4) rfl rfl hF rfl S (run_buildSlice0 rfl Tryd.underlying39 rfl) rfl (Nat.zero_le _) ?_; clear hF S; intro a g108 u hF S
  refine op_val (v := .slice (some ⟨g108, 0, none⟩) 0 0) rfl rfl hF rfl (run_assign rfl (hF.ev rfl)) ?_; clear hF; intro a hF
  refine wpList_nil ?_
  refine wp_seq ?_
  refine wp_region_lit ?_
  refine op_val (v := .agg #[.slice B104 p103.1.length d106, .int .i64 p103.2.1, .int .i64 p103.2.2.1, .bool p103.2.2.2.1, .int .i64 p103.2.2.2.2.1]) rfl rfl hF rfl (run_loadN rfl ag25 (hF.ev rfl) rfl ((S.free 1 rfl).cells 0 #[.slice B104 p103.1.length d106, .int .i64 p103.2.1, .int .i64 p103.2.2.1, .bool p103.2.2.2.1, .int .i64 p103.2.2.2.2.1] rfl)) ?_; clear hF; intro a hF
  refine op_new (cs := #[.slice none 0 0, .int .i64 0, .int .i64 0, .bool false, .int .i64 0]) rfl rfl hF rfl S (run_allocZ rfl zr25) ?_; clear hF S; intro a g109 u hF S
  refine op_do rfl rfl (run_store (cs' := #[.slice B104 p103.1.length d106, .int .i64 p103.2.1, .int .i64 p103.2.2.1, .bool p103.2.2.2.1, .int .i64 p103.2.2.2.2.1]) rfl sz25 (hF.ev rfl) (hF.ev rfl) rfl rfl rfl (S.free 0 rfl) rfl rfl) ?_; replace S := S.put 0 rfl (#[.slice B104 p103.1.length d106, .int .i64 p103.2.1, .int .i64 p103.2.2.1, .bool p103.2.2.2.1, .int .i64 p103.2.2.2.2.1])
  generalize World.setRow _ _ _ = u at S ⊢
  refine wpList_nil ?_
  refine wp_seq ?_
  refine wp_seq ?_
  refine wp_region_lit ?_
  refine op_val (v := .pointer (some ⟨g102, 0, none⟩)) rfl rfl hF rfl (run_move rfl (hF.ev rfl)) ?_; clear hF; intro a hF
  obtain ⟨p110, h110, hM⟩ := bind_ex hM
  refine op_call rfl rfl hF rfl (run_call (vs := [.pointer (some ⟨g102, 0, none⟩), .int .i64 16]) rfl rfl co34 ⟨(hF.ev rfl), rfl, trivial⟩) (c_spec_l20Rd_pick (x0 := x0.take 2000) (x1 := p103.2.2.2.2.2) (x2 := 16) ⟨(op_rc h0.rc rfl), rfl⟩ (show St w _ [.box g102 67 #[.slice (opA c0 x0.length A0) ((x0.take 2000).length) c0, .int .i64 p103.2.2.2.2.2], .box g109 25 #[.slice B104 p103.1.length d106, .int .i64 p103.2.1, .int .i64 p103.2.2.1, .bool p103.2.2.2.1, .int .i64 p103.2.2.2.2.1], .row 27 4 (.slice (some ⟨g108, 0, none⟩) 0 0) 0 (([] : List (Int × Int × Int × Bool)).flatMap eCommand), .box g107 25 #[.slice B104 p103.1.length d106, .int .i64 p103.2.1, .int .i64 p103.2.2.1, .bool p103.2.2.2.1, .int .i64 p103.2.2.2.2.1], .row 4 1 (.slice B104 p103.1.length d106) p103.1.length (p103.1.flatMap eB), .box g101 25 #[.slice none 0 0, .int .i64 0, .int .i64 0, .bool false, .int .i64 0]] from S.sel [4, 0, 1, 2, 3, 5] rfl rfl) h110) ?_
  rintro e u ⟨rfl, T⟩
  refine ⟨_, rfl, ?_⟩
  clear hF; intro a hF
  clear S; have S := T; clear T
  refine op_val (v := .int .i64 p110.1) rfl rfl hF rfl (run_assign rfl (hF.ev rfl)) ?_; clear hF; intro a hF
  refine wpList_nil ?_
  obtain ⟨o112, hM119, hM⟩ := bind_ex hM
  refine wp_cut (fun a u => ∃ (p111 : List (Int × Int × Int × Bool) × Int × List Bool × Int × Int × Bool × Int × List Bool) (B113 : Option Addr) (d114 : Nat) (B115 : Option Addr) (d116 : Nat) (B117 : Option Addr) (d118 : Nat), p111 = o112 ∧ Fr a 41 [(2, .pointer (some ⟨g101, 0, none⟩)), (3, .slice none 0 0), (5, .pointer (some ⟨g107, 0, none⟩)), (6, .slice B113 p111.1.length d114)] ∧ St w u [.box g102 67 #[.slice (opA c0 x0.length A0) ((x0.take 2000).length) c0, .int .i64 p111.2.1], .box g109 25 #[.slice B115 p111.2.2.1.length d116, .int .i64 p111.2.2.2.1, .int .i64 p111.2.2.2.2.1, .bool p111.2.2.2.2.2.1, .int .i64 p111.2.2.2.2.2.2.1], .box g107 25 #[.slice B117 p111.2.2.2.2.2.2.2.length d118, .int .i64 p103.2.1, .int .i64 p103.2.2.1, .bool p103.2.2.2.1, .int .i64 p103.2.2.2.2.1], .box g101 25 #[.slice none 0 0, .int .i64 0, .int .i64 0, .bool false, .int .i64 0], .row 27 4 (.slice B113 p111.1.length d114) p111.1.length (p111.1.flatMap eCommand), .part 1 (.slice B115 p111.2.2.1.length d116) p111.2.2.1.length (p111.2.2.1.flatMap eB), .part 1 (.slice B117 p111.2.2.2.2.2.2.2.length d118) p111.2.2.2.2.2.2.2.length (p111.2.2.2.2.2.2.2.flatMap eB)]) ?_ ?_
  · have _ := trivial
    refine wp_block ?_
    replace S := S.topart 4 rfl rfl (S.rc 4 rfl) (fun _ h => h)
    replace S := S.dup (i := 4) rfl
    refine loop_gw (fun m a u => ∃ (p120 : List (Int × Int × Int × Bool) × Int × Int × List Bool × Int × Int × Bool × Int × List Bool) (B121 : Option Addr) (d122 : Nat) (B123 : Option Addr) (d124 : Nat) (B125 : Option Addr) (d126 : Nat), m_spec_DrawPanelRun_l1 x0 m p120 = some _ ∧ Fr a 41 [(2, .pointer (some ⟨g101, 0, none⟩)), (3, .slice none 0 0), (4, .pointer (some ⟨g102, 0, none⟩)), (5, .pointer (some ⟨g107, 0, none⟩)), (6, .slice B121 p120.1.length d122), (7, .pointer (some ⟨g109, 0, none⟩)), (8, .int .i64 p120.2.1)] ∧ St w u [.box g102 67 #[.slice (opA c0 x0.length A0) ((x0.take 2000).length) c0, .int .i64 p120.2.2.1], .box g109 25 #[.slice B123 p120.2.2.2.1.length d124, .int .i64 p120.2.2.2.2.1, .int .i64 p120.2.2.2.2.2.1, .bool p120.2.2.2.2.2.2.1, .int .i64 p120.2.2.2.2.2.2.2.1], .box g107 25 #[.slice B125 p120.2.2.2.2.2.2.2.2.length d126, .int .i64 p103.2.1, .int .i64 p103.2.2.1, .bool p103.2.2.2.1, .int .i64 p103.2.2.2.2.1], .box g101 25 #[.slice none 0 0, .int .i64 0, .int .i64 0, .bool false, .int .i64 0], .row 27 4 (.slice B121 p120.1.length d122) p120.1.length (p120.1.flatMap eCommand), .part 1 (.slice B123 p120.2.2.2.1.length d124) p120.2.2.2.1.length (p120.2.2.2.1.flatMap eB), .part 1 (.slice B125 p120.2.2.2.2.2.2.2.2.length d126) p120.2.2.2.2.2.2.2.2.length (p120.2.2.2.2.2.2.2.2.flatMap eB)]) FUEL ⟨(([] : List (Int × Int × Int × Bool)), p110.1, p110.2, p103.1, p103.2.1, p103.2.2.1, p103.2.2.2.1, p103.2.2.2.2.1, p103.1), (some ⟨g108, 0, none⟩), 0, B104, d106, B104, d106, hM119, hF.keep _ ⟨rfl, rfl, rfl, rfl, rfl, rfl, rfl, trivial⟩, S.sel [1, 2, 4, 6, 3, 5, 0] rfl rfl⟩ ?_
    clear hF S hM119; rintro m a u ⟨p120, B121, d122, B123, d124, B125, d126, hM119, hF, S⟩
    rcases m with _ | f1
    · exact none_some hM119
    rw [m_spec_DrawPanelRun_l1.eq_2] at hM119
    refine wp_seq ?_
    refine wp_seq ?_
    refine wp_region_lit ?_
    refine op_val (v := .int .i64 p120.2.1) rfl rfl hF rfl (run_move rfl (hF.ev rfl)) ?_; clear hF; intro a hF
    refine op_val (v := .bool (ltB 0 p120.2.1)) rfl rfl hF rfl (run_gtr (hF.ev rfl) rfl rfl) ?_; clear hF; intro a hF
    refine wpList_nil ?_
    cases hc127 : (ltB 0 p120.2.1)
    · replace hM119 := bif_f hc127 hM119
      refine cond_f hF rfl hc127 ?_
      refine wp_exit ?_
      repeat with_reducible (first | refine then_exit ?_ | refine in_hit ?_ | refine in_miss rfl ?_)
      obtain rfl := Option.some.inj hM119
      exact ⟨(p120.1, p120.2.2.1, p120.2.2.2.1, p120.2.2.2.2.1, p120.2.2.2.2.2.1, p120.2.2.2.2.2.2.1, p120.2.2.2.2.2.2.2.1, p120.2.2.2.2.2.2.2.2), B121, d122, B123, d124, B125, d126, rfl, hF.keep _ ⟨rfl, rfl, rfl, rfl, trivial⟩, S.sel [0, 1, 2, 3, 4, 5, 6] rfl rfl⟩
    · replace hM119 := bif_t hc127 hM119
      refine cond_t hF rfl hc127 ?_
      refine wp_skip ?_
      refine wp_seq ?_
      refine wp_block ?_
      refine wp_seq ?_
      refine wp_region_lit ?_
      refine op_val (v := .pointer (some ⟨g102, 0, none⟩)) rfl rfl hF rfl (run_move rfl (hF.ev rfl)) ?_; clear hF; intro a hF
      refine op_val (v := .agg #[.slice B123 p120.2.2.2.1.length d124, .int .i64 p120.2.2.2.2.1, .int .i64 p120.2.2.2.2.2.1, .bool p120.2.2.2.2.2.2.1, .int .i64 p120.2.2.2.2.2.2.2.1]) rfl rfl hF rfl (run_loadN rfl ag25 (hF.ev rfl) rfl ((S.free 1 rfl).cells 0 #[.slice B123 p120.2.2.2.1.length d124, .int .i64 p120.2.2.2.2.1, .int .i64 p120.2.2.2.2.2.1, .bool p120.2.2.2.2.2.2.1, .int .i64 p120.2.2.2.2.2.2.2.1] rfl)) ?_; clear hF; intro a hF
      obtain ⟨p128, h128, hM119⟩ := bind_ex hM119
      refine op_call rfl rfl hF rfl (run_call (vs := [.pointer (some ⟨g102, 0, none⟩), .agg #[.slice B123 p120.2.2.2.1.length d124, .int .i64 p120.2.2.2.2.1, .int .i64 p120.2.2.2.2.2.1, .bool p120.2.2.2.2.2.2.1, .int .i64 p120.2.2.2.2.2.2.2.1]]) rfl rfl co26 ⟨(hF.ev rfl), (hF.ev rfl), trivial⟩) (c_spec_l20Command (x0 := x0.take 2000) (x1 := p120.2.2.1) (x2 := p120.2.2.2.1) (Y2 := .part 1 (.slice B123 p120.2.2.2.1.length d124) p120.2.2.2.1.length (p120.2.2.2.1.flatMap eB)) (x3 := p120.2.2.2.2.1) (x4 := p120.2.2.2.2.2.1) (x5 := p120.2.2.2.2.2.2.1) (x6 := p120.2.2.2.2.2.2.2.1) ⟨(op_rc h0.rc rfl), rfl⟩ rfl (fun u h => (part_rc h)) (show St w _ [.box g102 67 #[.slice (opA c0 x0.length A0) ((x0.take 2000).length) c0, .int .i64 p120.2.2.1], .part 1 (.slice B123 p120.2.2.2.1.length d124) p120.2.2.2.1.length (p120.2.2.2.1.flatMap eB), .box g109 25 #[.slice B123 p120.2.2.2.1.length d124, .int .i64 p120.2.2.2.2.1, .int .i64 p120.2.2.2.2.2.1, .bool p120.2.2.2.2.2.2.1, .int .i64 p120.2.2.2.2.2.2.2.1], .box g107 25 #[.slice B125 p120.2.2.2.2.2.2.2.2.length d126, .int .i64 p103.2.1, .int .i64 p103.2.2.1, .bool p103.2.2.2.1, .int .i64 p103.2.2.2.2.1], .box g101 25 #[.slice none 0 0, .int .i64 0, .int .i64 0, .bool false, .int .i64 0], .row 27 4 (.slice B121 p120.1.length d122) p120.1.length (p120.1.flatMap eCommand), .part 1 (.slice B125 p120.2.2.2.2.2.2.2.2.length d126) p120.2.2.2.2.2.2.2.2.length (p120.2.2.2.2.2.2.2.2.flatMap eB)] from S.sel [0, 5, 1, 2, 3, 4, 6] rfl rfl) h128) ?_
      rintro e u ⟨rfl, T⟩
      refine ⟨_, rfl, ?_⟩
      clear hF; intro a hF
      clear S; have S := T; clear T
      refine op_new (cs := #[.int .i64 0, .int .i64 0, .int .i64 0, .bool false]) rfl rfl hF rfl S (run_allocZ rfl zr27) ?_; clear hF S; intro a g129 u hF S
      refine op_do rfl rfl (run_store (cs' := #[.int .i64 p128.1, .int .i64 p128.2.1, .int .i64 p128.2.2.1, .bool p128.2.2.2.1]) rfl sz27 (hF.ev rfl) (hF.ev rfl) rfl rfl rfl (S.free 0 rfl) rfl rfl) ?_; replace S := S.put 0 rfl (#[.int .i64 p128.1, .int .i64 p128.2.1, .int .i64 p128.2.2.1, .bool p128.2.2.2.1])
      generalize World.setRow _ _ _ = u at S ⊢
      refine wpList_nil ?_
      refine wp_seq ?_
      refine wp_region_lit ?_
      refine op_val (v := .agg #[.slice B123 p120.2.2.2.1.length d124, .int .i64 p120.2.2.2.2.1, .int .i64 p120.2.2.2.2.2.1, .bool p120.2.2.2.2.2.2.1, .int .i64 p120.2.2.2.2.2.2.2.1]) rfl rfl hF rfl (run_loadN rfl ag25 (hF.ev rfl) rfl ((S.free 3 rfl).cells 0 #[.slice B123 p120.2.2.2.1.length d124, .int .i64 p120.2.2.2.2.1, .int .i64 p120.2.2.2.2.2.1, .bool p120.2.2.2.2.2.2.1, .int .i64 p120.2.2.2.2.2.2.2.1] rfl)) ?_; clear hF; intro a hF
      refine op_val (v := .agg #[.int .i64 p128.1, .int .i64 p128.2.1, .int .i64 p128.2.2.1, .bool p128.2.2.2.1]) rfl rfl hF rfl (run_loadN rfl ag27 (hF.ev rfl) rfl ((S.free 0 rfl).cells 0 #[.int .i64 p128.1, .int .i64 p128.2.1, .int .i64 p128.2.2.1, .bool p128.2.2.2.1] rfl)) ?_; clear hF; intro a hF
      obtain ⟨p130, h130, hM119⟩ := bind_ex hM119
      refine op_call rfl rfl hF rfl (run_call (vs := [.agg #[.slice B123 p120.2.2.2.1.length d124, .int .i64 p120.2.2.2.2.1, .int .i64 p120.2.2.2.2.2.1, .bool p120.2.2.2.2.2.2.1, .int .i64 p120.2.2.2.2.2.2.2.1], .agg #[.int .i64 p128.1, .int .i64 p128.2.1, .int .i64 p128.2.2.1, .bool p128.2.2.2.1]]) rfl rfl co8 ⟨(hF.ev rfl), (hF.ev rfl), trivial⟩) (c_spec_PanelDo (x0 := p120.2.2.2.1) (x1 := p120.2.2.2.2.1) (x2 := p120.2.2.2.2.2.1) (x3 := p120.2.2.2.2.2.2.1) (x4 := p120.2.2.2.2.2.2.2.1) (x5 := p128.1) (x6 := p128.2.1) (x7 := p128.2.2.1) (x8 := p128.2.2.2.1) ⟨(S.rcp 2 rfl), rfl⟩ h130) ?_
      rintro e u ⟨B131, n132, d133, rfl, rfl, T⟩
      refine ⟨_, rfl, ?_⟩
      clear hF; intro a hF
      replace S := S.call1 T; clear T
      refine op_val (v := .tuple #[.agg #[.slice B131 p130.1.length d133, .int .i64 p130.2.1, .int .i64 p130.2.2.1, .bool p130.2.2.2.1, .int .i64 p130.2.2.2.2.1], .bool p130.2.2.2.2.2]) rfl rfl hF rfl (run_move rfl (hF.ev rfl)) ?_; clear hF; intro a hF
      refine op_val (v := .agg #[.slice B131 p130.1.length d133, .int .i64 p130.2.1, .int .i64 p130.2.2.1, .bool p130.2.2.2.1, .int .i64 p130.2.2.2.2.1]) rfl rfl hF rfl (run_extract rfl (hF.ev rfl) rfl) ?_; clear hF; intro a hF
      refine op_val (v := .bool p130.2.2.2.2.2) rfl rfl hF rfl (run_extract rfl (hF.ev rfl) rfl) ?_; clear hF; intro a hF
      refine op_new (cs := #[.slice none 0 0, .int .i64 0, .int .i64 0, .bool false, .int .i64 0]) rfl rfl hF rfl S (run_allocZ rfl zr25) ?_; clear hF S; intro a g134 u hF S
      refine op_do rfl rfl (run_store (cs' := #[.slice B131 p130.1.length d133, .int .i64 p130.2.1, .int .i64 p130.2.2.1, .bool p130.2.2.2.1, .int .i64 p130.2.2.2.2.1]) rfl sz25 (hF.ev rfl) (hF.ev rfl) rfl rfl rfl (S.free 0 rfl) rfl rfl) ?_; replace S := S.put 0 rfl (#[.slice B131 p130.1.length d133, .int .i64 p130.2.1, .int .i64 p130.2.2.1, .bool p130.2.2.2.1, .int .i64 p130.2.2.2.2.1])
      generalize World.setRow _ _ _ = u at S ⊢
      refine op_val (v := .bool p130.2.2.2.2.2) rfl rfl hF rfl (run_assign rfl (hF.ev rfl)) ?_; clear hF; intro a hF
      refine wpList_nil ?_
      refine wp_seq ?_
      refine wp_seq ?_
      refine wp_region_lit ?_
      refine op_val (v := .bool p130.2.2.2.2.2) rfl rfl hF rfl (run_move rfl (hF.ev rfl)) ?_; clear hF; intro a hF
      refine wpList_nil ?_
      obtain ⟨o136, hM141, hM119⟩ := bind_ex hM119
      refine wp_cut (fun a u => ∃ (p135 : List Bool × List Bool × Int × Int × Bool × Int) (B137 : Option Addr) (d138 : Nat) (B139 : Option Addr) (d140 : Nat), p135 = o136 ∧ Fr a 41 [(2, .pointer (some ⟨g101, 0, none⟩)), (3, .slice none 0 0), (4, .pointer (some ⟨g102, 0, none⟩)), (5, .pointer (some ⟨g107, 0, none⟩)), (6, .slice B121 p120.1.length d122), (7, .pointer (some ⟨g109, 0, none⟩)), (8, .int .i64 p120.2.1), (9, .pointer (some ⟨g129, 0, none⟩))] ∧ St w u [.box g134 25 #[.slice B137 p135.1.length d138, .int .i64 p130.2.1, .int .i64 p130.2.2.1, .bool p130.2.2.2.1, .int .i64 p130.2.2.2.2.1], .box g129 27 #[.int .i64 p128.1, .int .i64 p128.2.1, .int .i64 p128.2.2.1, .bool p128.2.2.2.1], .box g102 67 #[.slice (opA c0 x0.length A0) ((x0.take 2000).length) c0, .int .i64 p128.2.2.2.2], .box g109 25 #[.slice B139 p135.2.1.length d140, .int .i64 p135.2.2.1, .int .i64 p135.2.2.2.1, .bool p135.2.2.2.2.1, .int .i64 p135.2.2.2.2.2], .box g107 25 #[.slice B125 p120.2.2.2.2.2.2.2.2.length d126, .int .i64 p103.2.1, .int .i64 p103.2.2.1, .bool p103.2.2.2.1, .int .i64 p103.2.2.2.2.1], .box g101 25 #[.slice none 0 0, .int .i64 0, .int .i64 0, .bool false, .int .i64 0], .row 27 4 (.slice B121 p120.1.length d122) p120.1.length (p120.1.flatMap eCommand), .part 1 (.slice B137 p135.1.length d138) p135.1.length (p135.1.flatMap eB), .part 1 (.slice B139 p135.2.1.length d140) p135.2.1.length (p135.2.1.flatMap eB), .part 1 (.slice B125 p120.2.2.2.2.2.2.2.2.length d126) p120.2.2.2.2.2.2.2.2.length (p120.2.2.2.2.2.2.2.2.flatMap eB)]) ?_ ?_
      · have _ := trivial
        cases hc142 : (p130.2.2.2.2.2)
        · replace hM141 := bif_f hc142 hM141
          refine cond_f hF rfl hc142 ?_
          refine wp_skip ?_
          obtain rfl := Option.some.inj hM141
          replace S := S.topart 1 rfl rfl (S.rc 1 rfl) (fun _ h => h)
          exact ⟨(p130.1, p120.2.2.2.1, p120.2.2.2.2.1, p120.2.2.2.2.2.1, p120.2.2.2.2.2.2.1, p120.2.2.2.2.2.2.2.1), B131, d133, B123, d124, rfl, hF.keep _ ⟨rfl, rfl, rfl, rfl, rfl, rfl, rfl, rfl, trivial⟩, S.sel [0, 2, 3, 5, 6, 7, 8, 1, 4, 9] rfl rfl⟩
        · replace hM141 := bif_t hc142 hM141
          refine cond_t hF rfl hc142 ?_
          refine wp_region_lit ?_
          refine op_val (v := .agg #[.slice B131 p130.1.length d133, .int .i64 p130.2.1, .int .i64 p130.2.2.1, .bool p130.2.2.2.1, .int .i64 p130.2.2.2.2.1]) rfl rfl hF rfl (run_loadN rfl ag25 (hF.ev rfl) rfl ((S.free 0 rfl).cells 0 #[.slice B131 p130.1.length d133, .int .i64 p130.2.1, .int .i64 p130.2.2.1, .bool p130.2.2.2.1, .int .i64 p130.2.2.2.2.1] rfl)) ?_; clear hF; intro a hF
          refine op_do rfl rfl (run_store (cs' := #[.slice B131 p130.1.length d133, .int .i64 p130.2.1, .int .i64 p130.2.2.1, .bool p130.2.2.2.1, .int .i64 p130.2.2.2.2.1]) rfl sz25 (hF.ev rfl) (hF.ev rfl) rfl rfl rfl (S.free 5 rfl) rfl rfl) ?_; replace S := S.put 5 rfl (#[.slice B131 p130.1.length d133, .int .i64 p130.2.1, .int .i64 p130.2.2.1, .bool p130.2.2.2.1, .int .i64 p130.2.2.2.2.1])
          generalize World.setRow _ _ _ = u at S ⊢
          refine wpList_nil ?_
          obtain rfl := Option.some.inj hM141
          replace S := S.topart 1 rfl rfl (S.rc 1 rfl) (fun _ h => h)
          replace S := S.dup (i := 1) rfl
          exact ⟨(p130.1, p130.1, p130.2.1, p130.2.2.1, p130.2.2.2.1, p130.2.2.2.2.1), B131, d133, B131, d133, rfl, hF.keep _ ⟨rfl, rfl, rfl, rfl, rfl, rfl, rfl, rfl, trivial⟩, S.sel [1, 3, 4, 6, 7, 8, 9, 2, 0, 10] rfl rfl⟩
      · rintro a u ⟨p135, B137, d138, B139, d140, rfl, hF, S⟩
        refine wp_region_lit ?_
        refine op_val (v := .slice B121 p120.1.length d122) rfl rfl hF rfl (run_move rfl (hF.ev rfl)) ?_; clear hF; intro a hF
        refine op_val (v := .agg #[.int .i64 p128.1, .int .i64 p128.2.1, .int .i64 p128.2.2.1, .bool p128.2.2.2.1]) rfl rfl hF rfl (run_loadN rfl ag27 (hF.ev rfl) rfl ((S.free 1 rfl).cells 0 #[.int .i64 p128.1, .int .i64 p128.2.1, .int .i64 p128.2.2.1, .bool p128.2.2.2.1] rfl)) ?_; clear hF; intro a hF
        refine op_newrowL (ls := ([(p128.1, p128.2.1, p128.2.2.1, p128.2.2.2.1)] : List (Int × Int × Int × Bool))) (e := eCommand) rfl rfl hF rfl S (run_buildS (vs := [(0, .agg #[.int .i64 p128.1, .int .i64 p128.2.1, .int .i64 p128.2.2.1, .bool p128.2.2.2.1])]) rfl ⟨⟨rfl, (hF.ev rfl)⟩, trivial⟩ (bs39_1_4 )) rfl eCommand_len (Nat.le_of_ble_eq_true rfl) ?_; clear hF S; intro a g143 u hF S
        obtain ⟨hk146, hM119⟩ := chk_ex hM119
        replace hk146 := apB_t hk146
        refine op_appendL (lx := p120.1) (ly := [(p128.1, p128.2.1, p128.2.2.1, p128.2.2.2.1)]) rfl rfl hF rfl S rfl (hF.ev rfl) (hF.ev rfl) (i := 7) rfl rfl Tryd.underlying39 inf27 rfl (by decide) (S.rc 0 rfl).rd rfl eCommand_one hk146 (by decide) ?_; clear hF S; intro a B144 d145 u hF S
        refine op_val (v := .slice B144 ((p120.1 ++ ([(p128.1, p128.2.1, p128.2.2.1, p128.2.2.2.1)])).length) d145) rfl rfl hF rfl (run_assign rfl (hF.ev rfl)) ?_; clear hF; intro a hF
        refine wpList_nil ?_
        refine wp_region_lit ?_
        refine op_val (v := .int .i64 p120.2.1) rfl rfl hF rfl (run_move rfl (hF.ev rfl)) ?_; clear hF; intro a hF
        refine op_val (v := .int .i64 (w64 (p120.2.1 - 1))) rfl rfl hF rfl (run_sub (z := w64 (p120.2.1 - 1)) (hF.ev rfl) rfl rfl rfl) ?_; clear hF; intro a hF
        refine op_val (v := .int .i64 (w64 (p120.2.1 - 1))) rfl rfl hF rfl (run_assign rfl (hF.ev rfl)) ?_; clear hF; intro a hF
        refine wpList_nil ?_
        exact ⟨f1, Nat.lt_succ_self _, (p120.1 ++ ([(p128.1, p128.2.1, p128.2.2.1, p128.2.2.2.1)]), w64 (p120.2.1 - 1), p128.2.2.2.2, p135.2.1, p135.2.2.1, p135.2.2.2.1, p135.2.2.2.2.1, p135.2.2.2.2.2, p120.2.2.2.2.2.2.2.2), B144, d145, B139, d140, B125, d126, hM119, hF.keep _ ⟨rfl, rfl, rfl, rfl, rfl, rfl, rfl, trivial⟩, S.sel [3, 4, 5, 6, 7, 9, 10] rfl rfl⟩
  · rintro a u ⟨p111, B113, d114, B115, d116, B117, d118, rfl, hF, S⟩
    refine wp_seq ?_
    refine wp_region_lit ?_
    refine op_val (v := .agg #[.slice B117 p111.2.2.2.2.2.2.2.length d118, .int .i64 p103.2.1, .int .i64 p103.2.2.1, .bool p103.2.2.2.1, .int .i64 p103.2.2.2.2.1]) rfl rfl hF rfl (run_loadN rfl ag25 (hF.ev rfl) rfl ((S.free 2 rfl).cells 0 #[.slice B117 p111.2.2.2.2.2.2.2.length d118, .int .i64 p103.2.1, .int .i64 p103.2.2.1, .bool p103.2.2.2.1, .int .i64 p103.2.2.2.2.1] rfl)) ?_; clear hF; intro a hF
    refine op_val (v := .slice B113 p111.1.length d114) rfl rfl hF rfl (run_move rfl (hF.ev rfl)) ?_; clear hF; intro a hF
    refine op_do rfl rfl (run_store (cs' := #[.slice B117 p111.2.2.2.2.2.2.2.length d118, .int .i64 p103.2.1, .int .i64 p103.2.2.1, .bool p103.2.2.2.1, .int .i64 p103.2.2.2.2.1]) rfl sz25 (hF.ev rfl) (hF.ev rfl) rfl rfl rfl (S.free 3 rfl) rfl rfl) ?_; replace S := S.put 3 rfl (#[.slice B117 p111.2.2.2.2.2.2.2.length d118, .int .i64 p103.2.1, .int .i64 p103.2.2.1, .bool p103.2.2.2.1, .int .i64 p103.2.2.2.2.1])
    generalize World.setRow _ _ _ = u at S ⊢
    refine op_val (v := .slice B113 p111.1.length d114) rfl rfl hF rfl (run_assign rfl (hF.ev rfl)) ?_; clear hF; intro a hF
    refine wpList_nil ?_
    refine wp_ret ?_
    repeat with_reducible (first | refine then_ret ?_ | refine in_ret ?_ | refine in_nrm ?_)
    refine ret2_gw (.inl rfl) hF rfl (res_cell (hF.ev rfl) (res_loadN ag25 rfl (S.cells 3 rfl 0 #[.slice B117 p111.2.2.2.2.2.2.2.length d118, .int .i64 p103.2.1, .int .i64 p103.2.2.1, .bool p103.2.2.2.1, .int .i64 p103.2.2.2.2.1] rfl))) (res_tmp (hF.ev rfl)) ?_
    obtain rfl := Option.some.inj hM
    exact ⟨B117, p111.2.2.2.2.2.2.2.length, d118, B113, p111.1.length, d114, rfl, rfl, rfl, S.sel [6, 4] rfl rfl⟩

set_option maxHeartbeats 4000000 in
theorem c_impl_PanelRun {x0 : List Bool} {x1 : Int} {x2 : Int} {x3 : Bool} {x4 : Int} {x5 : List (Int × Int × Int × Bool)} {A0 : Option Addr} {n0 c0 : Nat} {A5 : Option Addr} {n5 c5 : Nat} {w : World} {r : List Bool × Int × Int × Bool × Int × List Bool} (h0 : Rt w 1 eB A0 n0 c0 x0) (h5 : Rt w 4 eCommand A5 n5 c5 x5) (hM : m_impl_PanelRun x0 x1 x2 x3 x4 x5 = some r) :
    Calls Tryd.prog 15 #[.agg #[.slice A0 n0 c0, .int .i64 x1, .int .i64 x2, .bool x3, .int .i64 x4], .slice A5 n5 c5] w (fun e w' => ∃ (B0 : Option Addr) (N0 D0 : Nat) (B1 : Option Addr) (N1 D1 : Nat), e = .returned (.tuple #[.agg #[.slice B0 N0 D0, .int .i64 r.2.1, .int .i64 r.2.2.1, .bool r.2.2.2.1, .int .i64 r.2.2.2.2.1], .slice B1 N1 D1]) ∧ N0 = r.1.length ∧ N1 = r.2.2.2.2.2.length ∧ St w w' [.row 4 1 (.slice B0 N0 D0) N0 (r.1.flatMap eB), .row 4 1 (.slice B1 N1 D1) N1 (r.2.2.2.2.2.flatMap eB)]) := by
  obtain rfl := h0.len
  obtain rfl := h5.len
  unfold m_impl_PanelRun at hM
  refine calls_gw Tryd.func15 Tryd.ntmps15 rfl [(0, .agg #[.slice A0 x0.length c0, .int .i64 x1, .int .i64 x2, .bool x3, .int .i64 x4]), (1, .slice A5 x5.length c5)] ⟨rfl, rfl, trivial⟩ rfl ?_
  intro a hF
  have S := St.nil w
  refine wp_seq ?_
  refine wp_region_lit ?_
  refine op_new (cs := #[.slice A0 x0.length c0, .int .i64 x1, .int .i64 x2, .bool x3, .int .i64 x4]) rfl rfl hF rfl S (run_box rfl (hF.ev rfl) rfl) ?_; clear hF S; intro a g101 u hF S
  refine op_new (cs := #[.slice none 0 0, .int .i64 0, .int .i64 0, .bool false, .int .i64 0]) rfl rfl hF rfl S (run_allocZ rfl zr25) ?_; clear hF S; intro a g102 u hF S
  refine op_val (v := .slice none 0 0) rfl rfl hF rfl (run_assign rfl rfl) ?_; clear hF; intro a hF
  refine wpList_nil ?_
  refine wp_seq ?_
  refine wp_seq ?_
  refine wp_region_lit ?_
  refine op_val (v := .agg #[.slice A0 x0.length c0, .int .i64 x1, .int .i64 x2, .bool x3, .int .i64 x4]) rfl rfl hF rfl (run_loadN rfl ag25 (hF.ev rfl) rfl ((S.free 1 rfl).cells 0 #[.slice A0 x0.length c0, .int .i64 x1, .int .i64 x2, .bool x3, .int .i64 x4] rfl)) ?_; clear hF; intro a hF
  obtain ⟨p103, h103, hM⟩ := bind_ex hM
  refine op_call rfl rfl hF rfl (run_call (vs := [.agg #[.slice A0 x0.length c0, .int .i64 x1, .int .i64 x2, .bool x3, .int .i64 x4]]) rfl rfl co10 ⟨(hF.ev rfl), trivial⟩) (c_impl_PanelValid (x0 := x0) (x1 := x1) (x2 := x2) (x3 := x3) (x4 := x4) ⟨(S.rc0 h0.rc), rfl⟩ h103) ?_
  rintro e u ⟨rfl, T⟩
  refine ⟨_, rfl, ?_⟩
  clear hF; intro a hF
  replace S := S.call0 T; clear T
  refine op_val (v := .bool (!p103)) rfl rfl hF rfl (run_not rfl (hF.ev rfl)) ?_; clear hF; intro a hF
  refine wpList_nil ?_
  cases hc104 : (p103)
  · replace hM := bif_f hc104 hM
    refine cond_t hF rfl (not_t hc104) ?_
    refine wp_seq ?_
    refine wp_region_lit ?_
    refine op_val (v := .agg #[.slice none 0 0, .int .i64 0, .int .i64 0, .bool false, .int .i64 0]) rfl rfl hF rfl (run_build (vs := []) rfl trivial (bd25 )) ?_; clear hF; intro a hF
    refine op_do rfl rfl (run_store (cs' := #[.slice none 0 0, .int .i64 0, .int .i64 0, .bool false, .int .i64 0]) rfl sz25 (hF.ev rfl) (hF.ev rfl) rfl rfl rfl (S.free 0 rfl) rfl rfl) ?_; replace S := S.put 0 rfl (#[.slice none 0 0, .int .i64 0, .int .i64 0, .bool false, .int .i64 0])
    generalize World.setRow _ _ _ = u at S ⊢
    refine op_val (v := .slice none 0 0) rfl rfl hF rfl (run_assign rfl rfl) ?_; clear hF; intro a hF
    refine wpList_nil ?_
    refine wp_ret ?_
    repeat with_reducible (first | refine then_ret ?_ | refine in_ret ?_ | refine in_nrm ?_)
    refine ret2_gw (.inl rfl) hF rfl (res_cell (hF.ev rfl) (res_loadN ag25 rfl (S.cells 0 rfl 0 #[.slice none 0 0, .int .i64 0, .int .i64 0, .bool false, .int .i64 0] rfl))) (res_tmp (hF.ev rfl)) ?_
    obtain rfl := Option.some.inj hM
    replace S := S.nilrow 4 1
    replace S := S.nilrow 4 1
    exact ⟨none, 0, 0, none, 0, 0, rfl, rfl, rfl, S.sel [1, 0] rfl rfl⟩
  · replace hM := bif_t hc104 hM
    refine cond_f hF rfl (not_f hc104) ?_
    refine wp_skip ?_
    refine wp_seq ?_
    refine wp_region_lit ?_
    refine op_val (v := .agg #[.slice A0 x0.length c0, .int .i64 x1, .int .i64 x2, .bool x3, .int .i64 x4]) rfl rfl hF rfl (run_loadN rfl ag25 (hF.ev rfl) rfl ((S.free 1 rfl).cells 0 #[.slice A0 x0.length c0, .int .i64 x1, .int .i64 x2, .bool x3, .int .i64 x4] rfl)) ?_; clear hF; intro a hF
    obtain ⟨p105, h105, hM⟩ := bind_ex hM
    refine op_call rfl rfl hF rfl (run_call (vs := [.agg #[.slice A0 x0.length c0, .int .i64 x1, .int .i64 x2, .bool x3, .int .i64 x4]]) rfl rfl co27 ⟨(hF.ev rfl), trivial⟩) (c_impl_Panel_clone (x0 := x0) (x1 := x1) (x2 := x2) (x3 := x3) (x4 := x4) ⟨(S.rc0 h0.rc), rfl⟩ h105) ?_
    rintro e u ⟨B106, n107, d108, rfl, rfl, T⟩
    refine ⟨_, rfl, ?_⟩
    clear hF; intro a hF
    replace S := S.call1 T; clear T
    refine op_new (cs := #[.slice none 0 0, .int .i64 0, .int .i64 0, .bool false, .int .i64 0]) rfl rfl hF rfl S (run_allocZ rfl zr25) ?_; clear hF S; intro a g109 u hF S
    refine op_do rfl rfl (run_store (cs' := #[.slice B106 p105.1.length d108, .int .i64 p105.2.1, .int .i64 p105.2.2.1, .bool p105.2.2.2.1, .int .i64 p105.2.2.2.2]) rfl sz25 (hF.ev rfl) (hF.ev rfl) rfl rfl rfl (S.free 0 rfl) rfl rfl) ?_; replace S := S.put 0 rfl (#[.slice B106 p105.1.length d108, .int .i64 p105.2.1, .int .i64 p105.2.2.1, .bool p105.2.2.2.1, .int .i64 p105.2.2.2.2])
    generalize World.setRow _ _ _ = u at S ⊢
    refine wpList_nil ?_
    refine wp_seq ?_
    refine wp_region_lit ?_
    refine op_val (v := .slice A5 x5.length c5) rfl rfl hF rfl (run_move rfl (hF.ev rfl)) ?_; clear hF; intro a hF
    refine op_val (v := .int .i64 (x5.length : Int)) rfl rfl hF rfl (run_lenL rfl rfl Tryd.underlying39 (hF.ev rfl)) ?_; clear hF; intro a hF
    obtain ⟨hk111, hM⟩ := chk_ex hM
    replace hk111 := mkB_t hk111
    refine op_newrowL (m := x5.length) (ls := List.replicate x5.length false) (e := eB) rfl rfl hF rfl S (run_makeL rfl (hF.ev rfl) (hF.ev rfl) Tryd.underlying23 inf4 eB_len rfl (by decide) hk111) List.length_replicate eB_len (by rw [List.length_replicate]; omega) ?_; clear hF S; intro a g110 u hF S
    refine op_val (v := .slice (some ⟨g110, 0, none⟩) x5.length x5.length) rfl rfl hF rfl (run_assign rfl (hF.ev rfl)) ?_; clear hF; intro a hF
    refine wpList_nil ?_
    refine wp_seq ?_
    refine wp_seq ?_
    refine wp_region_lit ?_
    refine op_val (v := .slice A5 x5.length c5) rfl rfl hF rfl (run_move rfl (hF.ev rfl)) ?_; clear hF; intro a hF
    refine op_val (v := .int .i64 (x5.length : Int)) rfl rfl hF rfl (run_lenL rfl rfl Tryd.underlying39 (hF.ev rfl)) ?_; clear hF; intro a hF
    refine op_val (v := .int .i64 0) rfl rfl hF rfl (run_move rfl rfl) ?_; clear hF; intro a hF
    refine wpList_nil ?_
    obtain ⟨o113, hM117, hM⟩ := bind_ex hM
    refine wp_cut (fun a u => ∃ (p112 : List Bool × List Bool × Int × Int × Bool × Int) (B115 : Option Addr) (d116 : Nat), p112 = o113 ∧ x5.length = p112.1.length ∧ Fr a 38 [(4, .pointer (some ⟨g102, 0, none⟩)), (5, .slice none 0 0), (6, .pointer (some ⟨g109, 0, none⟩)), (7, .slice (some ⟨g110, 0, none⟩) x5.length x5.length)] ∧ St w u [.box g109 25 #[.slice B115 p112.2.1.length d116, .int .i64 p112.2.2.1, .int .i64 p112.2.2.2.1, .bool p112.2.2.2.2.1, .int .i64 p112.2.2.2.2.2], .box g102 25 #[.slice none 0 0, .int .i64 0, .int .i64 0, .bool false, .int .i64 0], .box g101 25 #[.slice A0 x0.length c0, .int .i64 x1, .int .i64 x2, .bool x3, .int .i64 x4], .row 4 1 (.slice (some ⟨g110, 0, none⟩) x5.length x5.length) x5.length (p112.1.flatMap eB), .row 4 1 (.slice B115 p112.2.1.length d116) p112.2.1.length (p112.2.1.flatMap eB)]) ?_ ?_
    · have _ := trivial
      refine wp_block ?_
      refine loop_gw (fun m a u => ∃ (p118 : List Bool × Int × List Bool × Int × Int × Bool × Int) (B120 : Option Addr) (d121 : Nat), m_impl_PanelRun_l1 x5 m p118 = some _ ∧ x5.length = p118.1.length ∧ Fr a 38 [(4, .pointer (some ⟨g102, 0, none⟩)), (5, .slice none 0 0), (6, .pointer (some ⟨g109, 0, none⟩)), (7, .slice (some ⟨g110, 0, none⟩) x5.length x5.length), (19, .slice A5 x5.length c5), (20, .int .i64 (x5.length : Int)), (21, .int .i64 p118.2.1)] ∧ St w u [.box g109 25 #[.slice B120 p118.2.2.1.length d121, .int .i64 p118.2.2.2.1, .int .i64 p118.2.2.2.2.1, .bool p118.2.2.2.2.2.1, .int .i64 p118.2.2.2.2.2.2], .box g102 25 #[.slice none 0 0, .int .i64 0, .int .i64 0, .bool false, .int .i64 0], .box g101 25 #[.slice A0 x0.length c0, .int .i64 x1, .int .i64 x2, .bool x3, .int .i64 x4], .row 4 1 (.slice (some ⟨g110, 0, none⟩) x5.length x5.length) x5.length (p118.1.flatMap eB), .row 4 1 (.slice B120 p118.2.2.1.length d121) p118.2.2.1.length (p118.2.2.1.flatMap eB)]) FUEL ⟨(List.replicate x5.length false, 0, p105.1, p105.2.1, p105.2.2.1, p105.2.2.2.1, p105.2.2.2.2), B106, d108, hM117, List.length_replicate.symm, hF.keep _ ⟨rfl, rfl, rfl, rfl, rfl, rfl, rfl, trivial⟩, S.sel [1, 3, 4, 0, 2] rfl rfl⟩ ?_
      clear hF S hM117; rintro m a u ⟨p118, B120, d121, hM117, hn119, hF, S⟩
      rcases m with _ | f1
      · exact none_some hM117
      rw [m_impl_PanelRun_l1.eq_2] at hM117
      refine wp_seq ?_
      refine wp_region_lit ?_
      refine op_val (v := .bool (ltB p118.2.1 (x5.length : Int))) rfl rfl hF rfl (run_lss (hF.ev rfl) (hF.ev rfl) rfl) ?_; clear hF; intro a hF
      refine wpList_nil ?_
      refine wp_seq ?_
      cases hc122 : (ltB p118.2.1 (x5.length : Int))
      · replace hM117 := bif_f hc122 hM117
        refine cond_f hF rfl hc122 ?_
        refine wp_exit ?_
        repeat with_reducible (first | refine then_exit ?_ | refine in_hit ?_ | refine in_miss rfl ?_)
        obtain rfl := Option.some.inj hM117
        exact ⟨(p118.1, p118.2.2.1, p118.2.2.2.1, p118.2.2.2.2.1, p118.2.2.2.2.2.1, p118.2.2.2.2.2.2), B120, d121, rfl, hn119, hF.keep _ ⟨rfl, rfl, rfl, rfl, trivial⟩, S.sel [0, 1, 2, 3, 4] rfl rfl⟩
      · replace hM117 := bif_t hc122 hM117
        refine cond_t hF rfl hc122 ?_
        refine wp_skip ?_
        refine wp_seq ?_
        refine wp_block ?_
        refine wp_seq ?_
        refine wp_region_lit ?_
        refine op_val (v := .int .i64 p118.2.1) rfl rfl hF rfl (run_move rfl (hF.ev rfl)) ?_; clear hF; intro a hF
        obtain ⟨hk123, hM117⟩ := chk_ex hM117
        replace hk123 := ixB_t hk123
        refine op_val (v := .pointer (some ⟨adB A5, adO A5 + p118.2.1.toNat * 4, none⟩)) rfl rfl hF rfl (run_indexAddr (b := adB A5) (off := adO A5) rfl Tryd.underlying39 sz27 ((hF.ev rfl).trans (congrArg (fun A => Value.slice A x5.length c5) ((S.rc0 h5.rc).rd.ad (ix_pos hk123)))) (hF.ev rfl) hk123.1 hk123.2 (k' := adO A5 + p118.2.1.toNat * 4) rfl) ?_; clear hF; intro a hF
        refine op_val (v := .agg #[.int .i64 ((x5.getD p118.2.1.toNat ((0, 0, 0, false) : Int × Int × Int × Bool)).1), .int .i64 ((x5.getD p118.2.1.toNat ((0, 0, 0, false) : Int × Int × Int × Bool)).2.1), .int .i64 ((x5.getD p118.2.1.toNat ((0, 0, 0, false) : Int × Int × Int × Bool)).2.2.1), .bool ((x5.getD p118.2.1.toNat ((0, 0, 0, false) : Int × Int × Int × Bool)).2.2.2)]) rfl rfl hF rfl (run_loadN (cs := #[.int .i64 ((x5.getD p118.2.1.toNat ((0, 0, 0, false) : Int × Int × Int × Bool)).1), .int .i64 ((x5.getD p118.2.1.toNat ((0, 0, 0, false) : Int × Int × Int × Bool)).2.1), .int .i64 ((x5.getD p118.2.1.toNat ((0, 0, 0, false) : Int × Int × Int × Bool)).2.2.1), .bool ((x5.getD p118.2.1.toNat ((0, 0, 0, false) : Int × Int × Int × Bool)).2.2.2)]) rfl ag27 (hF.ev rfl) rfl (rd_elN (l := x5) (S.rc0 h5.rc).rd rfl eCommand_len ((0, 0, 0, false) : Int × Int × Int × Bool) (ix_ltn hk123 rfl) rfl)) ?_; clear hF; intro a hF
        refine op_new (cs := #[.int .i64 0, .int .i64 0, .int .i64 0, .bool false]) rfl rfl hF rfl S (run_allocZ rfl zr27) ?_; clear hF S; intro a g124 u hF S
        refine op_val (v := .int .i64 p118.2.1) rfl rfl hF rfl (run_assign rfl (hF.ev rfl)) ?_; clear hF; intro a hF
        refine op_do rfl rfl (run_store (cs' := #[.int .i64 ((x5.getD p118.2.1.toNat ((0, 0, 0, false) : Int × Int × Int × Bool)).1), .int .i64 ((x5.getD p118.2.1.toNat ((0, 0, 0, false) : Int × Int × Int × Bool)).2.1), .int .i64 ((x5.getD p118.2.1.toNat ((0, 0, 0, false) : Int × Int × Int × Bool)).2.2.1), .bool ((x5.getD p118.2.1.toNat ((0, 0, 0, false) : Int × Int × Int × Bool)).2.2.2)]) rfl sz27 (hF.ev rfl) (hF.ev rfl) rfl rfl rfl (S.free 0 rfl) rfl rfl) ?_; replace S := S.put 0 rfl (#[.int .i64 ((x5.getD p118.2.1.toNat ((0, 0, 0, false) : Int × Int × Int × Bool)).1), .int .i64 ((x5.getD p118.2.1.toNat ((0, 0, 0, false) : Int × Int × Int × Bool)).2.1), .int .i64 ((x5.getD p118.2.1.toNat ((0, 0, 0, false) : Int × Int × Int × Bool)).2.2.1), .bool ((x5.getD p118.2.1.toNat ((0, 0, 0, false) : Int × Int × Int × Bool)).2.2.2)])
        generalize World.setRow _ _ _ = u at S ⊢
        refine wpList_nil ?_
        refine wp_region_lit ?_
        refine op_val (v := .slice (some ⟨g110, 0, none⟩) x5.length x5.length) rfl rfl hF rfl (run_move rfl (hF.ev rfl)) ?_; clear hF; intro a hF
        refine op_val (v := .int .i64 p118.2.1) rfl rfl hF rfl (run_move rfl (hF.ev rfl)) ?_; clear hF; intro a hF
        refine op_val (v := .agg #[.slice B120 p118.2.2.1.length d121, .int .i64 p118.2.2.2.1, .int .i64 p118.2.2.2.2.1, .bool p118.2.2.2.2.2.1, .int .i64 p118.2.2.2.2.2.2]) rfl rfl hF rfl (run_loadN rfl ag25 (hF.ev rfl) rfl ((S.free 1 rfl).cells 0 #[.slice B120 p118.2.2.1.length d121, .int .i64 p118.2.2.2.1, .int .i64 p118.2.2.2.2.1, .bool p118.2.2.2.2.2.1, .int .i64 p118.2.2.2.2.2.2] rfl)) ?_; clear hF; intro a hF
        refine op_val (v := .agg #[.int .i64 ((x5.getD p118.2.1.toNat ((0, 0, 0, false) : Int × Int × Int × Bool)).1), .int .i64 ((x5.getD p118.2.1.toNat ((0, 0, 0, false) : Int × Int × Int × Bool)).2.1), .int .i64 ((x5.getD p118.2.1.toNat ((0, 0, 0, false) : Int × Int × Int × Bool)).2.2.1), .bool ((x5.getD p118.2.1.toNat ((0, 0, 0, false) : Int × Int × Int × Bool)).2.2.2)]) rfl rfl hF rfl (run_loadN rfl ag27 (hF.ev rfl) rfl ((S.free 0 rfl).cells 0 #[.int .i64 ((x5.getD p118.2.1.toNat ((0, 0, 0, false) : Int × Int × Int × Bool)).1), .int .i64 ((x5.getD p118.2.1.toNat ((0, 0, 0, false) : Int × Int × Int × Bool)).2.1), .int .i64 ((x5.getD p118.2.1.toNat ((0, 0, 0, false) : Int × Int × Int × Bool)).2.2.1), .bool ((x5.getD p118.2.1.toNat ((0, 0, 0, false) : Int × Int × Int × Bool)).2.2.2)] rfl)) ?_; clear hF; intro a hF
        obtain ⟨p125, h125, hM117⟩ := bind_ex hM117
        refine op_call rfl rfl hF rfl (run_call (vs := [.agg #[.slice B120 p118.2.2.1.length d121, .int .i64 p118.2.2.2.1, .int .i64 p118.2.2.2.2.1, .bool p118.2.2.2.2.2.1, .int .i64 p118.2.2.2.2.2.2], .agg #[.int .i64 ((x5.getD p118.2.1.toNat ((0, 0, 0, false) : Int × Int × Int × Bool)).1), .int .i64 ((x5.getD p118.2.1.toNat ((0, 0, 0, false) : Int × Int × Int × Bool)).2.1), .int .i64 ((x5.getD p118.2.1.toNat ((0, 0, 0, false) : Int × Int × Int × Bool)).2.2.1), .bool ((x5.getD p118.2.1.toNat ((0, 0, 0, false) : Int × Int × Int × Bool)).2.2.2)]]) rfl rfl co7 ⟨(hF.ev rfl), (hF.ev rfl), trivial⟩) (c_impl_PanelDo (x0 := p118.2.2.1) (x1 := p118.2.2.2.1) (x2 := p118.2.2.2.2.1) (x3 := p118.2.2.2.2.2.1) (x4 := p118.2.2.2.2.2.2) (x5 := (x5.getD p118.2.1.toNat ((0, 0, 0, false) : Int × Int × Int × Bool)).1) (x6 := (x5.getD p118.2.1.toNat ((0, 0, 0, false) : Int × Int × Int × Bool)).2.1) (x7 := (x5.getD p118.2.1.toNat ((0, 0, 0, false) : Int × Int × Int × Bool)).2.2.1) (x8 := (x5.getD p118.2.1.toNat ((0, 0, 0, false) : Int × Int × Int × Bool)).2.2.2) ⟨(S.rc 5 rfl), rfl⟩ h125) ?_
        rintro e u ⟨B126, n127, d128, rfl, rfl, T⟩
        refine ⟨_, rfl, ?_⟩
        clear hF; intro a hF
        replace S := S.call1 T; clear T
        refine op_val (v := .tuple #[.agg #[.slice B126 p125.1.length d128, .int .i64 p125.2.1, .int .i64 p125.2.2.1, .bool p125.2.2.2.1, .int .i64 p125.2.2.2.2.1], .bool p125.2.2.2.2.2]) rfl rfl hF rfl (run_move rfl (hF.ev rfl)) ?_; clear hF; intro a hF
        refine op_val (v := .agg #[.slice B126 p125.1.length d128, .int .i64 p125.2.1, .int .i64 p125.2.2.1, .bool p125.2.2.2.1, .int .i64 p125.2.2.2.2.1]) rfl rfl hF rfl (run_extract rfl (hF.ev rfl) rfl) ?_; clear hF; intro a hF
        refine op_val (v := .bool p125.2.2.2.2.2) rfl rfl hF rfl (run_extract rfl (hF.ev rfl) rfl) ?_; clear hF; intro a hF
        refine op_do rfl rfl (run_store (cs' := #[.slice B126 p125.1.length d128, .int .i64 p125.2.1, .int .i64 p125.2.2.1, .bool p125.2.2.2.1, .int .i64 p125.2.2.2.2.1]) rfl sz25 (hF.ev rfl) (hF.ev rfl) rfl rfl rfl (S.free 2 rfl) rfl rfl) ?_; replace S := S.put 2 rfl (#[.slice B126 p125.1.length d128, .int .i64 p125.2.1, .int .i64 p125.2.2.1, .bool p125.2.2.2.1, .int .i64 p125.2.2.2.2.1])
        generalize World.setRow _ _ _ = u at S ⊢
        obtain ⟨hk129, hM117⟩ := chk_ex hM117
        replace hk129 := ixB_t hk129
        refine op_val (v := .pointer (some ⟨adB (some ⟨g110, 0, none⟩), adO (some ⟨g110, 0, none⟩) + p118.2.1.toNat * 1, none⟩)) rfl rfl hF rfl (run_indexAddr (b := adB (some ⟨g110, 0, none⟩)) (off := adO (some ⟨g110, 0, none⟩)) rfl Tryd.underlying23 sz4 ((hF.ev rfl).trans (congrArg (fun A => Value.slice A x5.length x5.length) ((S.rc 5 rfl).rd.ad (ix_pos hk129)))) (hF.ev rfl) hk129.1 hk129.2 (k' := adO (some ⟨g110, 0, none⟩) + p118.2.1.toNat * 1) rfl) ?_; clear hF; intro a hF
        obtain ⟨w', hrun, S'⟩ := run_storeElN (P := Tryd.prog) (ρ := a.eval) (y0 := p125.2.2.2.2.2) (off := 0) S 4 (.tmp 34) (.tmp 33) (i := 5) sz4 (hF.ev rfl) (hF.ev rfl) rfl rfl rfl rfl hn119 eB_len false (ix_ltn hk129 hn119) rfl rfl
        refine op_do rfl rfl (hrun _ rfl) ?_; clear hrun S; have S := S'; clear S'; generalize w' = u at S ⊢
        refine wpList_nil ?_
        refine wp_region_lit ?_
        refine op_val (v := .int .i64 (w64 (p118.2.1 + 1))) rfl rfl hF rfl (run_add (z := w64 (p118.2.1 + 1)) (hF.ev rfl) rfl rfl rfl) ?_; clear hF; intro a hF
        refine op_val (v := .int .i64 (w64 (p118.2.1 + 1))) rfl rfl hF rfl (run_move rfl (hF.ev rfl)) ?_; clear hF; intro a hF
        refine wpList_nil ?_
        exact ⟨f1, Nat.lt_succ_self _, (p118.1.set p118.2.1.toNat p125.2.2.2.2.2, w64 (p118.2.1 + 1), p125.1, p125.2.1, p125.2.2.1, p125.2.2.2.1, p125.2.2.2.2.1), B126, d128, hM117, (len_set hn119), hF.keep _ ⟨rfl, rfl, rfl, rfl, rfl, rfl, rfl, trivial⟩, S.sel [2, 3, 4, 5, 0] rfl rfl⟩
    · rintro a u ⟨p112, B115, d116, rfl, hn114, hF, S⟩
      refine wp_seq ?_
      refine wp_region_lit ?_
      refine op_val (v := .agg #[.slice B115 p112.2.1.length d116, .int .i64 p112.2.2.1, .int .i64 p112.2.2.2.1, .bool p112.2.2.2.2.1, .int .i64 p112.2.2.2.2.2]) rfl rfl hF rfl (run_loadN rfl ag25 (hF.ev rfl) rfl ((S.free 0 rfl).cells 0 #[.slice B115 p112.2.1.length d116, .int .i64 p112.2.2.1, .int .i64 p112.2.2.2.1, .bool p112.2.2.2.2.1, .int .i64 p112.2.2.2.2.2] rfl)) ?_; clear hF; intro a hF
      refine op_val (v := .slice (some ⟨g110, 0, none⟩) x5.length x5.length) rfl rfl hF rfl (run_move rfl (hF.ev rfl)) ?_; clear hF; intro a hF
      refine op_do rfl rfl (run_store (cs' := #[.slice B115 p112.2.1.length d116, .int .i64 p112.2.2.1, .int .i64 p112.2.2.2.1, .bool p112.2.2.2.2.1, .int .i64 p112.2.2.2.2.2]) rfl sz25 (hF.ev rfl) (hF.ev rfl) rfl rfl rfl (S.free 1 rfl) rfl rfl) ?_; replace S := S.put 1 rfl (#[.slice B115 p112.2.1.length d116, .int .i64 p112.2.2.1, .int .i64 p112.2.2.2.1, .bool p112.2.2.2.2.1, .int .i64 p112.2.2.2.2.2])
      generalize World.setRow _ _ _ = u at S ⊢
      refine op_val (v := .slice (some ⟨g110, 0, none⟩) x5.length x5.length) rfl rfl hF rfl (run_assign rfl (hF.ev rfl)) ?_; clear hF; intro a hF
      refine wpList_nil ?_
      refine wp_ret ?_
      repeat with_reducible (first | refine then_ret ?_ | refine in_ret ?_ | refine in_nrm ?_)
      refine ret2_gw (.inl rfl) hF rfl (res_cell (hF.ev rfl) (res_loadN ag25 rfl (S.cells 1 rfl 0 #[.slice B115 p112.2.1.length d116, .int .i64 p112.2.2.1, .int .i64 p112.2.2.2.1, .bool p112.2.2.2.2.1, .int .i64 p112.2.2.2.2.2] rfl))) (res_tmp (hF.ev rfl)) ?_
      obtain rfl := Option.some.inj hM
      exact ⟨B115, p112.2.1.length, d116, (some ⟨g110, 0, none⟩), x5.length, x5.length, rfl, rfl, hn114, S.sel [4, 3] rfl rfl⟩

end Go.Proofs.YtapkaobelejkkaaDoor
