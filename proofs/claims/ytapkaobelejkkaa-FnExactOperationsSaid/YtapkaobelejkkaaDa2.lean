/- Calls return what the models say. -/
import Derived.Test.YtapkaobelejkkaaDa1
namespace Go.Proofs.Ytapkaobelejkkaa
open Go.ChangeShapes Go.WideShapes Go.ChangeAt Go.RowKit
set_option linter.unusedVariables false
set_option linter.unusedSimpArgs false

set_option maxHeartbeats 4000000 in
theorem c_impl_PanelDo {x0 : List Bool} {x1 : Int} {x2 : Int} {x3 : Bool} {x4 : Int} {x5 : Int} {x6 : Int} {x7 : Int} {x8 : Bool} {A0 : Option Addr} {n0 c0 : Nat} {w : World} {r : List Bool × Int × Int × Bool × Int × Bool} (h0 : Rt w 1 eB A0 n0 c0 x0) (hM : m_impl_PanelDo x0 x1 x2 x3 x4 x5 x6 x7 x8 = some r) :
    Calls Try.prog 10 #[.agg #[.slice A0 n0 c0, .int .i64 x1, .int .i64 x2, .bool x3, .int .i64 x4], .agg #[.int .i64 x5, .int .i64 x6, .int .i64 x7, .bool x8]] w (fun e w' => ∃ (B0 : Option Addr) (N0 D0 : Nat), e = .returned (.tuple #[.agg #[.slice B0 N0 D0, .int .i64 r.2.1, .int .i64 r.2.2.1, .bool r.2.2.2.1, .int .i64 r.2.2.2.2.1], .bool r.2.2.2.2.2]) ∧ N0 = r.1.length ∧ St w w' [.row 4 1 (.slice B0 N0 D0) N0 (r.1.flatMap eB)]) := by
  obtain rfl := h0.len
  unfold m_impl_PanelDo at hM
  refine calls_gw Try.func10 Try.ntmps10 rfl [(0, .agg #[.slice A0 x0.length c0, .int .i64 x1, .int .i64 x2, .bool x3, .int .i64 x4]), (1, .agg #[.int .i64 x5, .int .i64 x6, .int .i64 x7, .bool x8])] ⟨rfl, rfl, trivial⟩ rfl ?_
  intro a hF
  have S := St.nil w
  refine wp_seq ?_
  refine wp_region_lit ?_
  refine op_new (cs := #[.slice A0 x0.length c0, .int .i64 x1, .int .i64 x2, .bool x3, .int .i64 x4]) rfl rfl hF rfl S (run_box rfl (hF.ev rfl) rfl) ?_; clear hF S; intro a g101 u hF S
  refine op_new (cs := #[.int .i64 x5, .int .i64 x6, .int .i64 x7, .bool x8]) rfl rfl hF rfl S (run_box rfl (hF.ev rfl) rfl) ?_; clear hF S; intro a g102 u hF S
  refine op_new (cs := #[.slice none 0 0, .int .i64 0, .int .i64 0, .bool false, .int .i64 0]) rfl rfl hF rfl S (run_allocZ rfl zr28) ?_; clear hF S; intro a g103 u hF S
  refine op_val (v := .bool false) rfl rfl hF rfl (run_assign rfl rfl) ?_; clear hF; intro a hF
  refine wpList_nil ?_
  refine wp_seq ?_
  refine wp_seq ?_
  refine wp_region_lit ?_
  refine op_val (v := .agg #[.slice A0 x0.length c0, .int .i64 x1, .int .i64 x2, .bool x3, .int .i64 x4]) rfl rfl hF rfl (run_loadN rfl ag28 (hF.ev rfl) rfl ((S.free 2 rfl).cells 0 #[.slice A0 x0.length c0, .int .i64 x1, .int .i64 x2, .bool x3, .int .i64 x4] rfl)) ?_; clear hF; intro a hF
  obtain ⟨p104, h104, hM⟩ := bind_ex hM
  refine op_call rfl rfl hF rfl (run_call (vs := [.agg #[.slice A0 x0.length c0, .int .i64 x1, .int .i64 x2, .bool x3, .int .i64 x4]]) rfl rfl co34 ⟨(hF.ev rfl), trivial⟩) (c_impl_PanelValid (x0 := x0) (x1 := x1) (x2 := x2) (x3 := x3) (x4 := x4) ⟨(S.rc0 h0.rc), rfl⟩ h104) ?_
  rintro e u ⟨rfl, T⟩
  refine ⟨_, rfl, ?_⟩
  clear hF; intro a hF
  replace S := S.call0 T; clear T
  refine op_val (v := .bool (!p104)) rfl rfl hF rfl (run_not rfl (hF.ev rfl)) ?_; clear hF; intro a hF
  refine wpList_nil ?_
  cases hc105 : (p104)
  · replace hM := bif_f hc105 hM
    refine cond_t hF rfl (not_t hc105) ?_
    refine wp_seq ?_
    refine wp_region_lit ?_
    refine op_val (v := .agg #[.slice none 0 0, .int .i64 0, .int .i64 0, .bool false, .int .i64 0]) rfl rfl hF rfl (run_build (vs := []) rfl trivial (bd28 )) ?_; clear hF; intro a hF
    refine op_do rfl rfl (run_store (cs' := #[.slice none 0 0, .int .i64 0, .int .i64 0, .bool false, .int .i64 0]) rfl sz28 (hF.ev rfl) (hF.ev rfl) rfl rfl rfl (S.free 0 rfl) rfl rfl) ?_; replace S := S.put 0 rfl (#[.slice none 0 0, .int .i64 0, .int .i64 0, .bool false, .int .i64 0])
    generalize World.setRow _ _ _ = u at S ⊢
    refine op_val (v := .bool false) rfl rfl hF rfl (run_assign rfl rfl) ?_; clear hF; intro a hF
    refine wpList_nil ?_
    refine wp_ret ?_
    repeat with_reducible (first | refine then_ret ?_ | refine in_ret ?_ | refine in_nrm ?_)
    refine ret2_gw (.inl rfl) hF rfl (res_cell (hF.ev rfl) (res_loadN ag28 rfl (S.cells 0 rfl 0 #[.slice none 0 0, .int .i64 0, .int .i64 0, .bool false, .int .i64 0] rfl))) (res_tmp (hF.ev rfl)) ?_
    obtain rfl := Option.some.inj hM
    replace S := S.nilrow 4 1
    exact ⟨none, 0, 0, rfl, rfl, S.sel [0] rfl rfl⟩
  · replace hM := bif_t hc105 hM
    refine cond_f hF rfl (not_f hc105) ?_
    refine wp_skip ?_
    refine wp_seq ?_
    refine wp_region_lit ?_
    refine op_val (v := .agg #[.slice A0 x0.length c0, .int .i64 x1, .int .i64 x2, .bool x3, .int .i64 x4]) rfl rfl hF rfl (run_loadN rfl ag28 (hF.ev rfl) rfl ((S.free 2 rfl).cells 0 #[.slice A0 x0.length c0, .int .i64 x1, .int .i64 x2, .bool x3, .int .i64 x4] rfl)) ?_; clear hF; intro a hF
    obtain ⟨p106, h106, hM⟩ := bind_ex hM
    refine op_call rfl rfl hF rfl (run_call (vs := [.agg #[.slice A0 x0.length c0, .int .i64 x1, .int .i64 x2, .bool x3, .int .i64 x4]]) rfl rfl co35 ⟨(hF.ev rfl), trivial⟩) (c_impl_Panel_clone (x0 := x0) (x1 := x1) (x2 := x2) (x3 := x3) (x4 := x4) ⟨(S.rc0 h0.rc), rfl⟩ h106) ?_
    rintro e u ⟨B107, n108, d109, rfl, rfl, T⟩
    refine ⟨_, rfl, ?_⟩
    clear hF; intro a hF
    replace S := S.call1 T; clear T
    refine op_new (cs := #[.slice none 0 0, .int .i64 0, .int .i64 0, .bool false, .int .i64 0]) rfl rfl hF rfl S (run_allocZ rfl zr28) ?_; clear hF S; intro a g110 u hF S
    refine op_do rfl rfl (run_store (cs' := #[.slice B107 p106.1.length d109, .int .i64 p106.2.1, .int .i64 p106.2.2.1, .bool p106.2.2.2.1, .int .i64 p106.2.2.2.2]) rfl sz28 (hF.ev rfl) (hF.ev rfl) rfl rfl rfl (S.free 0 rfl) rfl rfl) ?_; replace S := S.put 0 rfl (#[.slice B107 p106.1.length d109, .int .i64 p106.2.1, .int .i64 p106.2.2.1, .bool p106.2.2.2.1, .int .i64 p106.2.2.2.2])
    generalize World.setRow _ _ _ = u at S ⊢
    refine wpList_nil ?_
    refine wp_seq ?_
    refine wp_seq ?_
    refine wp_region_lit ?_
    refine op_val (v := .pointer (some ⟨g102, 0, none⟩)) rfl rfl hF rfl (run_fieldAddr rfl fl32_0 (hF.ev rfl) rfl) ?_; clear hF; intro a hF
    refine op_val (v := .int .i64 x5) rfl rfl hF rfl (run_load1 rfl one3 (hF.ev rfl) ((S.free 3 rfl).cell rfl)) ?_; clear hF; intro a hF
    refine wpList_nil ?_
    refine wp_block ?_
    refine wp_seq ?_
    refine wp_region_lit ?_
    refine op_val (v := .bool (x5 == 0)) rfl rfl hF rfl (run_eql (hF.ev rfl) rfl rfl) ?_; clear hF; intro a hF
    refine op_val (v := .bool (x5 == 0)) rfl rfl hF rfl (run_assign rfl (hF.ev rfl)) ?_; clear hF; intro a hF
    refine wpList_nil ?_
    obtain ⟨o112, hM115, hM⟩ := bind_ex hM
    refine wp_cut (fun a u => ∃ (p111 : List Bool × Int × Int × Bool × Int) (B113 : Option Addr) (d114 : Nat), (Sum.inl p111) = o112 ∧ Fr a 129 [(4, .pointer (some ⟨g103, 0, none⟩)), (5, .bool false), (6, .pointer (some ⟨g110, 0, none⟩))] ∧ St w u [.box g110 28 #[.slice B113 p111.1.length d114, .int .i64 p111.2.1, .int .i64 p111.2.2.1, .bool p111.2.2.2.1, .int .i64 p111.2.2.2.2], .box g103 28 #[.slice none 0 0, .int .i64 0, .int .i64 0, .bool false, .int .i64 0], .box g102 32 #[.int .i64 x5, .int .i64 x6, .int .i64 x7, .bool x8], .box g101 28 #[.slice A0 x0.length c0, .int .i64 x1, .int .i64 x2, .bool x3, .int .i64 x4], .row 4 1 (.slice B113 p111.1.length d114) p111.1.length (p111.1.flatMap eB)]) ?_ ?_
    · have _ := trivial
      cases hc116 : (x5 == 0)
      · replace hM115 := bif_f hc116 hM115
        refine cond_f hF rfl hc116 ?_
        refine wp_seq ?_
        refine wp_region_lit ?_
        refine op_val (v := .bool (x5 == 1)) rfl rfl hF rfl (run_eql (hF.ev rfl) rfl rfl) ?_; clear hF; intro a hF
        refine op_val (v := .bool (x5 == 1)) rfl rfl hF rfl (run_assign rfl (hF.ev rfl)) ?_; clear hF; intro a hF
        refine wpList_nil ?_
        obtain ⟨o118, hM121, hM115⟩ := bind_ex hM115
        refine wp_cut (fun a u => ∃ (p117 : List Bool × Int × Int × Bool × Int) (B119 : Option Addr) (d120 : Nat), (Sum.inl p117) = o118 ∧ Fr a 129 [(4, .pointer (some ⟨g103, 0, none⟩)), (5, .bool false), (6, .pointer (some ⟨g110, 0, none⟩))] ∧ St w u [.box g110 28 #[.slice B119 p117.1.length d120, .int .i64 p117.2.1, .int .i64 p117.2.2.1, .bool p117.2.2.2.1, .int .i64 p117.2.2.2.2], .box g103 28 #[.slice none 0 0, .int .i64 0, .int .i64 0, .bool false, .int .i64 0], .box g102 32 #[.int .i64 x5, .int .i64 x6, .int .i64 x7, .bool x8], .box g101 28 #[.slice A0 x0.length c0, .int .i64 x1, .int .i64 x2, .bool x3, .int .i64 x4], .row 4 1 (.slice B119 p117.1.length d120) p117.1.length (p117.1.flatMap eB)]) ?_ ?_
        · have _ := trivial
          cases hc122 : (x5 == 1)
          · replace hM121 := bif_f hc122 hM121
            refine cond_f hF rfl hc122 ?_
            refine wp_seq ?_
            refine wp_region_lit ?_
            refine op_val (v := .bool (x5 == 2)) rfl rfl hF rfl (run_eql (hF.ev rfl) rfl rfl) ?_; clear hF; intro a hF
            refine op_val (v := .bool (x5 == 2)) rfl rfl hF rfl (run_assign rfl (hF.ev rfl)) ?_; clear hF; intro a hF
            refine wpList_nil ?_
            obtain ⟨o124, hM127, hM121⟩ := bind_ex hM121
            refine wp_cut (fun a u => ∃ (p123 : List Bool × Int × Int × Bool × Int) (B125 : Option Addr) (d126 : Nat), (Sum.inl p123) = o124 ∧ Fr a 129 [(4, .pointer (some ⟨g103, 0, none⟩)), (5, .bool false), (6, .pointer (some ⟨g110, 0, none⟩))] ∧ St w u [.box g110 28 #[.slice B125 p123.1.length d126, .int .i64 p123.2.1, .int .i64 p123.2.2.1, .bool p123.2.2.2.1, .int .i64 p123.2.2.2.2], .box g103 28 #[.slice none 0 0, .int .i64 0, .int .i64 0, .bool false, .int .i64 0], .box g102 32 #[.int .i64 x5, .int .i64 x6, .int .i64 x7, .bool x8], .box g101 28 #[.slice A0 x0.length c0, .int .i64 x1, .int .i64 x2, .bool x3, .int .i64 x4], .row 4 1 (.slice B125 p123.1.length d126) p123.1.length (p123.1.flatMap eB)]) ?_ ?_
            · have _ := trivial
              cases hc128 : (x5 == 2)
              · replace hM127 := bif_f hc128 hM127
                refine cond_f hF rfl hc128 ?_
                refine wp_seq ?_
                refine wp_region_lit ?_
                refine op_val (v := .bool (x5 == 3)) rfl rfl hF rfl (run_eql (hF.ev rfl) rfl rfl) ?_; clear hF; intro a hF
                refine op_val (v := .bool (x5 == 3)) rfl rfl hF rfl (run_assign rfl (hF.ev rfl)) ?_; clear hF; intro a hF
                refine wpList_nil ?_
                cases hc129 : (x5 == 3)
                · replace hM127 := bif_f hc129 hM127
                  refine cond_f hF rfl hc129 ?_
                  refine wp_seq ?_
                  refine wp_region_lit ?_
                  refine op_val (v := .agg #[.slice B107 p106.1.length d109, .int .i64 p106.2.1, .int .i64 p106.2.2.1, .bool p106.2.2.2.1, .int .i64 p106.2.2.2.2]) rfl rfl hF rfl (run_loadN rfl ag28 (hF.ev rfl) rfl ((S.free 0 rfl).cells 0 #[.slice B107 p106.1.length d109, .int .i64 p106.2.1, .int .i64 p106.2.2.1, .bool p106.2.2.2.1, .int .i64 p106.2.2.2.2] rfl)) ?_; clear hF; intro a hF
                  refine op_do rfl rfl (run_store (cs' := #[.slice B107 p106.1.length d109, .int .i64 p106.2.1, .int .i64 p106.2.2.1, .bool p106.2.2.2.1, .int .i64 p106.2.2.2.2]) rfl sz28 (hF.ev rfl) (hF.ev rfl) rfl rfl rfl (S.free 2 rfl) rfl rfl) ?_; replace S := S.put 2 rfl (#[.slice B107 p106.1.length d109, .int .i64 p106.2.1, .int .i64 p106.2.2.1, .bool p106.2.2.2.1, .int .i64 p106.2.2.2.2])
                  generalize World.setRow _ _ _ = u at S ⊢
                  refine op_val (v := .bool false) rfl rfl hF rfl (run_assign rfl rfl) ?_; clear hF; intro a hF
                  refine wpList_nil ?_
                  refine wp_ret ?_
                  repeat with_reducible (first | refine then_ret ?_ | refine in_ret ?_ | refine in_nrm ?_)
                  refine ret2_gw (.inl rfl) hF rfl (res_cell (hF.ev rfl) (res_loadN ag28 rfl (S.cells 2 rfl 0 #[.slice B107 p106.1.length d109, .int .i64 p106.2.1, .int .i64 p106.2.2.1, .bool p106.2.2.2.1, .int .i64 p106.2.2.2.2] rfl))) (res_tmp (hF.ev rfl)) ?_
                  obtain rfl := Option.some.inj hM127
                  obtain rfl := Option.some.inj hM121
                  obtain rfl := Option.some.inj hM115
                  obtain rfl := Option.some.inj hM
                  exact ⟨B107, p106.1.length, d109, rfl, rfl, S.sel [1] rfl rfl⟩
                · replace hM127 := bif_t hc129 hM127
                  refine cond_t hF rfl hc129 ?_
                  refine wp_seq ?_
                  refine wp_region_lit ?_
                  refine op_val (v := .pointer (some ⟨g101, 1, none⟩)) rfl rfl hF rfl (run_fieldAddr rfl fl28_1 (hF.ev rfl) rfl) ?_; clear hF; intro a hF
                  refine op_val (v := .int .i64 x1) rfl rfl hF rfl (run_load1 rfl one3 (hF.ev rfl) ((S.free 4 rfl).cell rfl)) ?_; clear hF; intro a hF
                  refine op_val (v := .bool (x1 != (-1))) rfl rfl hF rfl (run_neq (hF.ev rfl) rfl rfl) ?_; clear hF; intro a hF
                  refine wpList_nil ?_
                  obtain ⟨o131, hM134, hM127⟩ := bind_ex hM127
                  refine wp_cut (fun a u => ∃ (p130 : List Bool × Int × Int × Bool × Int) (B132 : Option Addr) (d133 : Nat), p130 = o131 ∧ Fr a 129 [(4, .pointer (some ⟨g103, 0, none⟩)), (5, .bool false), (6, .pointer (some ⟨g110, 0, none⟩))] ∧ St w u [.box g110 28 #[.slice B132 p130.1.length d133, .int .i64 p130.2.1, .int .i64 p130.2.2.1, .bool p130.2.2.2.1, .int .i64 p130.2.2.2.2], .box g103 28 #[.slice none 0 0, .int .i64 0, .int .i64 0, .bool false, .int .i64 0], .box g102 32 #[.int .i64 x5, .int .i64 x6, .int .i64 x7, .bool x8], .box g101 28 #[.slice A0 x0.length c0, .int .i64 x1, .int .i64 x2, .bool x3, .int .i64 x4], .row 4 1 (.slice B132 p130.1.length d133) p130.1.length (p130.1.flatMap eB)]) ?_ ?_
                  · have _ := trivial
                    cases hc135 : (x1 != (-1))
                    · replace hM134 := bif_f hc135 hM134
                      refine cond_f hF rfl hc135 ?_
                      refine wp_skip ?_
                      obtain rfl := Option.some.inj hM134
                      exact ⟨(p106.1, p106.2.1, p106.2.2.1, p106.2.2.2.1, p106.2.2.2.2), B107, d109, rfl, hF.keep _ ⟨rfl, rfl, rfl, trivial⟩, S.sel [0, 2, 3, 4, 1] rfl rfl⟩
                    · replace hM134 := bif_t hc135 hM134
                      refine cond_t hF rfl hc135 ?_
                      refine wp_seq ?_
                      refine wp_region_lit ?_
                      refine op_val (v := .pointer (some ⟨g110, 4, none⟩)) rfl rfl hF rfl (run_fieldAddr rfl fl28_4 (hF.ev rfl) rfl) ?_; clear hF; intro a hF
                      refine op_val (v := .int .i64 p106.2.2.2.2) rfl rfl hF rfl (run_load1 rfl one3 (hF.ev rfl) ((S.free 0 rfl).cell rfl)) ?_; clear hF; intro a hF
                      refine op_val (v := .int .i64 (w64 (p106.2.2.2.2 - 1))) rfl rfl hF rfl (run_sub (z := w64 (p106.2.2.2.2 - 1)) (hF.ev rfl) rfl rfl rfl) ?_; clear hF; intro a hF
                      refine op_val (v := .pointer (some ⟨g110, 4, none⟩)) rfl rfl hF rfl (run_fieldAddr rfl fl28_4 (hF.ev rfl) rfl) ?_; clear hF; intro a hF
                      refine op_do rfl rfl (run_store (cs' := #[.slice B107 p106.1.length d109, .int .i64 p106.2.1, .int .i64 p106.2.2.1, .bool p106.2.2.2.1, .int .i64 (w64 (p106.2.2.2.2 - 1))]) rfl sz3 (hF.ev rfl) (hF.ev rfl) rfl rfl rfl (S.free 0 rfl) rfl rfl) ?_; replace S := S.put 0 rfl (#[.slice B107 p106.1.length d109, .int .i64 p106.2.1, .int .i64 p106.2.2.1, .bool p106.2.2.2.1, .int .i64 (w64 (p106.2.2.2.2 - 1))])
                      generalize World.setRow _ _ _ = u at S ⊢
                      refine wpList_nil ?_
                      refine wp_seq ?_
                      refine wp_region_lit ?_
                      refine op_val (v := .pointer (some ⟨g110, 4, none⟩)) rfl rfl hF rfl (run_fieldAddr rfl fl28_4 (hF.ev rfl) rfl) ?_; clear hF; intro a hF
                      refine op_val (v := .int .i64 (w64 (p106.2.2.2.2 - 1))) rfl rfl hF rfl (run_load1 rfl one3 (hF.ev rfl) ((S.free 0 rfl).cell rfl)) ?_; clear hF; intro a hF
                      refine op_val (v := .bool ((w64 (p106.2.2.2.2 - 1)) == 0)) rfl rfl hF rfl (run_eql (hF.ev rfl) rfl rfl) ?_; clear hF; intro a hF
                      refine wpList_nil ?_
                      obtain ⟨o137, hM140, hM134⟩ := bind_ex hM134
                      refine wp_cut (fun a u => ∃ (p136 : List Bool × Int × Int × Bool × Int) (B138 : Option Addr) (d139 : Nat), p136 = o137 ∧ Fr a 129 [(4, .pointer (some ⟨g103, 0, none⟩)), (5, .bool false), (6, .pointer (some ⟨g110, 0, none⟩))] ∧ St w u [.box g110 28 #[.slice B138 p136.1.length d139, .int .i64 p136.2.1, .int .i64 p136.2.2.1, .bool p136.2.2.2.1, .int .i64 p136.2.2.2.2], .box g103 28 #[.slice none 0 0, .int .i64 0, .int .i64 0, .bool false, .int .i64 0], .box g102 32 #[.int .i64 x5, .int .i64 x6, .int .i64 x7, .bool x8], .box g101 28 #[.slice A0 x0.length c0, .int .i64 x1, .int .i64 x2, .bool x3, .int .i64 x4], .row 4 1 (.slice B138 p136.1.length d139) p136.1.length (p136.1.flatMap eB)]) ?_ ?_
                      · have _ := trivial
                        cases hc141 : ((w64 (p106.2.2.2.2 - 1)) == 0)
                        · replace hM140 := bif_f hc141 hM140
                          refine cond_f hF rfl hc141 ?_
                          refine wp_skip ?_
                          obtain rfl := Option.some.inj hM140
                          exact ⟨(p106.1, p106.2.1, p106.2.2.1, p106.2.2.2.1, w64 (p106.2.2.2.2 - 1)), B107, d109, rfl, hF.keep _ ⟨rfl, rfl, rfl, trivial⟩, S.sel [0, 2, 3, 4, 1] rfl rfl⟩
                        · replace hM140 := bif_t hc141 hM140
                          refine cond_t hF rfl hc141 ?_
                          refine wp_region_lit ?_
                          obtain ⟨p142, h142, hM140⟩ := bind_ex hM140
                          refine op_call rfl rfl hF rfl (run_call (vs := [.pointer (some ⟨g110, 0, none⟩)]) rfl rfl co36 ⟨(hF.ev rfl), trivial⟩) (c_impl_Panel_unselect (x0 := p106.1) (x1 := p106.2.1) (x2 := p106.2.2.1) (x3 := p106.2.2.2.1) (x4 := w64 (p106.2.2.2.2 - 1)) rfl (show St w _ [.box g110 28 #[.slice B107 p106.1.length d109, .int .i64 p106.2.1, .int .i64 p106.2.2.1, .bool p106.2.2.2.1, .int .i64 (w64 (p106.2.2.2.2 - 1))], .row 4 1 (.slice B107 p106.1.length d109) p106.1.length (p106.1.flatMap eB), .box g103 28 #[.slice none 0 0, .int .i64 0, .int .i64 0, .bool false, .int .i64 0], .box g102 32 #[.int .i64 x5, .int .i64 x6, .int .i64 x7, .bool x8], .box g101 28 #[.slice A0 x0.length c0, .int .i64 x1, .int .i64 x2, .bool x3, .int .i64 x4]] from S.sel [0, 1, 2, 3, 4] rfl rfl) h142) ?_
                          rintro e u ⟨B143, n144, d145, rfl, rfl, T⟩
                          refine ⟨_, rfl, ?_⟩
                          clear hF; intro a hF
                          clear S; have S := T; clear T
                          refine wpList_nil ?_
                          obtain rfl := Option.some.inj hM140
                          exact ⟨(p142.1, p142.2.1, p142.2.2.1, p142.2.2.2.1, p142.2.2.2.2), B143, d145, rfl, hF.keep _ ⟨rfl, rfl, rfl, trivial⟩, S.sel [0, 2, 3, 4, 1] rfl rfl⟩
                      · rintro a u ⟨p136, B138, d139, rfl, hF, S⟩
                        obtain rfl := Option.some.inj hM134
                        exact ⟨(p136.1, p136.2.1, p136.2.2.1, p136.2.2.2.1, p136.2.2.2.2), B138, d139, rfl, hF.keep _ ⟨rfl, rfl, rfl, trivial⟩, S.sel [0, 1, 2, 3, 4] rfl rfl⟩
                  · rintro a u ⟨p130, B132, d133, rfl, hF, S⟩
                    obtain rfl := Option.some.inj hM127
                    exact ⟨(p130.1, p130.2.1, p130.2.2.1, p130.2.2.2.1, p130.2.2.2.2), B132, d133, rfl, hF.keep _ ⟨rfl, rfl, rfl, trivial⟩, S.sel [0, 1, 2, 3, 4] rfl rfl⟩
              · replace hM127 := bif_t hc128 hM127
                refine cond_t hF rfl hc128 ?_
                refine wp_seq ?_
                refine wp_seq ?_
                refine wp_region_lit ?_
                refine op_val (v := .pointer (some ⟨g101, 1, none⟩)) rfl rfl hF rfl (run_fieldAddr rfl fl28_1 (hF.ev rfl) rfl) ?_; clear hF; intro a hF
                refine op_val (v := .int .i64 x1) rfl rfl hF rfl (run_load1 rfl one3 (hF.ev rfl) ((S.free 4 rfl).cell rfl)) ?_; clear hF; intro a hF
                refine op_val (v := .bool (x1 == (-1))) rfl rfl hF rfl (run_eql (hF.ev rfl) rfl rfl) ?_; clear hF; intro a hF
                refine op_val (v := .bool (x1 == (-1))) rfl rfl hF rfl (run_move rfl (hF.ev rfl)) ?_; clear hF; intro a hF
                refine op_gv (v := .pointer (some ⟨g102, 1, none⟩)) rfl rfl hF rfl (yf (gw_yield hF rfl rfl rfl)) (fun hg => (run_fieldAddr rfl fl32_1 (hF.ev rfl) rfl)) ?_; clear hF; intro a hF
                refine op_gv (v := .int .i64 x6) rfl rfl hF rfl (yf (gw_yield hF rfl rfl rfl)) (fun hg => (run_load1 rfl one3 ((hF.ev rfl).trans (gv_t hg)) ((S.free 3 rfl).cell rfl))) ?_; clear hF; intro a hF
                refine op_gv (v := .pointer (some ⟨g101, 1, none⟩)) rfl rfl hF rfl (yf (gw_yield hF rfl rfl rfl)) (fun hg => (run_fieldAddr rfl fl28_1 (hF.ev rfl) rfl)) ?_; clear hF; intro a hF
                refine op_gv (v := .int .i64 x1) rfl rfl hF rfl (yf (gw_yield hF rfl rfl rfl)) (fun hg => (run_load1 rfl one3 ((hF.ev rfl).trans (gv_t hg)) ((S.free 4 rfl).cell rfl))) ?_; clear hF; intro a hF
                refine op_gv (v := .bool (x6 != x1)) rfl rfl hF rfl (yf (gw_yield hF rfl rfl rfl)) (fun hg => (run_neq ((hF.ev rfl).trans (gv_t hg)) ((hF.ev rfl).trans (gv_t hg)) rfl)) ?_; clear hF; intro a hF
                refine op_val (v := .bool ((x1 == (-1)) || (x6 != x1))) rfl rfl hF rfl (run_pick_or rfl (hF.ev rfl) rfl (fun hp => ((hF.ev rfl).trans (gv_t (not_t hp))))) ?_; clear hF; intro a hF
                refine wpList_nil ?_
                cases hc146 : ((x1 == (-1)) || (x6 != x1))
                · replace hM127 := bif_f hc146 hM127
                  refine cond_f hF rfl hc146 ?_
                  refine wp_skip ?_
                  refine wp_region_lit ?_
                  obtain ⟨p147, h147, hM127⟩ := bind_ex hM127
                  refine op_call rfl rfl hF rfl (run_call (vs := [.pointer (some ⟨g110, 0, none⟩)]) rfl rfl co36 ⟨(hF.ev rfl), trivial⟩) (c_impl_Panel_unselect (x0 := p106.1) (x1 := p106.2.1) (x2 := p106.2.2.1) (x3 := p106.2.2.2.1) (x4 := p106.2.2.2.2) rfl (show St w _ [.box g110 28 #[.slice B107 p106.1.length d109, .int .i64 p106.2.1, .int .i64 p106.2.2.1, .bool p106.2.2.2.1, .int .i64 p106.2.2.2.2], .row 4 1 (.slice B107 p106.1.length d109) p106.1.length (p106.1.flatMap eB), .box g103 28 #[.slice none 0 0, .int .i64 0, .int .i64 0, .bool false, .int .i64 0], .box g102 32 #[.int .i64 x5, .int .i64 x6, .int .i64 x7, .bool x8], .box g101 28 #[.slice A0 x0.length c0, .int .i64 x1, .int .i64 x2, .bool x3, .int .i64 x4]] from S.sel [0, 1, 2, 3, 4] rfl rfl) h147) ?_
                  rintro e u ⟨B148, n149, d150, rfl, rfl, T⟩
                  refine ⟨_, rfl, ?_⟩
                  clear hF; intro a hF
                  clear S; have S := T; clear T
                  refine wpList_nil ?_
                  obtain rfl := Option.some.inj hM127
                  exact ⟨(p147.1, p147.2.1, p147.2.2.1, p147.2.2.2.1, p147.2.2.2.2), B148, d150, rfl, hF.keep _ ⟨rfl, rfl, rfl, trivial⟩, S.sel [0, 2, 3, 4, 1] rfl rfl⟩
                · replace hM127 := bif_t hc146 hM127
                  refine cond_t hF rfl hc146 ?_
                  refine wp_seq ?_
                  refine wp_region_lit ?_
                  refine op_val (v := .agg #[.slice B107 p106.1.length d109, .int .i64 p106.2.1, .int .i64 p106.2.2.1, .bool p106.2.2.2.1, .int .i64 p106.2.2.2.2]) rfl rfl hF rfl (run_loadN rfl ag28 (hF.ev rfl) rfl ((S.free 0 rfl).cells 0 #[.slice B107 p106.1.length d109, .int .i64 p106.2.1, .int .i64 p106.2.2.1, .bool p106.2.2.2.1, .int .i64 p106.2.2.2.2] rfl)) ?_; clear hF; intro a hF
                  refine op_do rfl rfl (run_store (cs' := #[.slice B107 p106.1.length d109, .int .i64 p106.2.1, .int .i64 p106.2.2.1, .bool p106.2.2.2.1, .int .i64 p106.2.2.2.2]) rfl sz28 (hF.ev rfl) (hF.ev rfl) rfl rfl rfl (S.free 2 rfl) rfl rfl) ?_; replace S := S.put 2 rfl (#[.slice B107 p106.1.length d109, .int .i64 p106.2.1, .int .i64 p106.2.2.1, .bool p106.2.2.2.1, .int .i64 p106.2.2.2.2])
                  generalize World.setRow _ _ _ = u at S ⊢
                  refine op_val (v := .bool false) rfl rfl hF rfl (run_assign rfl rfl) ?_; clear hF; intro a hF
                  refine wpList_nil ?_
                  refine wp_ret ?_
                  repeat with_reducible (first | refine then_ret ?_ | refine in_ret ?_ | refine in_nrm ?_)
                  refine ret2_gw (.inl rfl) hF rfl (res_cell (hF.ev rfl) (res_loadN ag28 rfl (S.cells 2 rfl 0 #[.slice B107 p106.1.length d109, .int .i64 p106.2.1, .int .i64 p106.2.2.1, .bool p106.2.2.2.1, .int .i64 p106.2.2.2.2] rfl))) (res_tmp (hF.ev rfl)) ?_
                  obtain rfl := Option.some.inj hM127
                  obtain rfl := Option.some.inj hM121
                  obtain rfl := Option.some.inj hM115
                  obtain rfl := Option.some.inj hM
                  exact ⟨B107, p106.1.length, d109, rfl, rfl, S.sel [1] rfl rfl⟩
            · rintro a u ⟨p123, B125, d126, rfl, hF, S⟩
              replace hM121 := elim_l hM121
              obtain rfl := Option.some.inj hM121
              exact ⟨(p123.1, p123.2.1, p123.2.2.1, p123.2.2.2.1, p123.2.2.2.2), B125, d126, rfl, hF.keep _ ⟨rfl, rfl, rfl, trivial⟩, S.sel [0, 1, 2, 3, 4] rfl rfl⟩
          · replace hM121 := bif_t hc122 hM121
            refine cond_t hF rfl hc122 ?_
            refine wp_seq ?_
            refine wp_seq ?_
            refine wp_region_lit ?_
            refine op_val (v := .pointer (some ⟨g101, 1, none⟩)) rfl rfl hF rfl (run_fieldAddr rfl fl28_1 (hF.ev rfl) rfl) ?_; clear hF; intro a hF
            refine op_val (v := .int .i64 x1) rfl rfl hF rfl (run_load1 rfl one3 (hF.ev rfl) ((S.free 4 rfl).cell rfl)) ?_; clear hF; intro a hF
            refine op_val (v := .bool (x1 == (-1))) rfl rfl hF rfl (run_eql (hF.ev rfl) rfl rfl) ?_; clear hF; intro a hF
            refine op_val (v := .bool (x1 == (-1))) rfl rfl hF rfl (run_move rfl (hF.ev rfl)) ?_; clear hF; intro a hF
            refine op_gv (v := .pointer (some ⟨g102, 1, none⟩)) rfl rfl hF rfl (yf (gw_yield hF rfl rfl rfl)) (fun hg => (run_fieldAddr rfl fl32_1 (hF.ev rfl) rfl)) ?_; clear hF; intro a hF
            refine op_gv (v := .int .i64 x6) rfl rfl hF rfl (yf (gw_yield hF rfl rfl rfl)) (fun hg => (run_load1 rfl one3 ((hF.ev rfl).trans (gv_t hg)) ((S.free 3 rfl).cell rfl))) ?_; clear hF; intro a hF
            refine op_gv (v := .pointer (some ⟨g101, 1, none⟩)) rfl rfl hF rfl (yf (gw_yield hF rfl rfl rfl)) (fun hg => (run_fieldAddr rfl fl28_1 (hF.ev rfl) rfl)) ?_; clear hF; intro a hF
            refine op_gv (v := .int .i64 x1) rfl rfl hF rfl (yf (gw_yield hF rfl rfl rfl)) (fun hg => (run_load1 rfl one3 ((hF.ev rfl).trans (gv_t hg)) ((S.free 4 rfl).cell rfl))) ?_; clear hF; intro a hF
            refine op_gv (v := .bool (x6 != x1)) rfl rfl hF rfl (yf (gw_yield hF rfl rfl rfl)) (fun hg => (run_neq ((hF.ev rfl).trans (gv_t hg)) ((hF.ev rfl).trans (gv_t hg)) rfl)) ?_; clear hF; intro a hF
            refine op_val (v := .bool ((x1 == (-1)) || (x6 != x1))) rfl rfl hF rfl (run_pick_or rfl (hF.ev rfl) rfl (fun hp => ((hF.ev rfl).trans (gv_t (not_t hp))))) ?_; clear hF; intro a hF
            refine op_val (v := .bool ((x1 == (-1)) || (x6 != x1))) rfl rfl hF rfl (run_move rfl (hF.ev rfl)) ?_; clear hF; intro a hF
            refine op_gv (v := .pointer (some ⟨g102, 2, none⟩)) rfl rfl hF rfl (yf (gw_yield hF rfl rfl rfl)) (fun hg => (run_fieldAddr rfl fl32_2 (hF.ev rfl) rfl)) ?_; clear hF; intro a hF
            refine op_gv (v := .int .i64 x7) rfl rfl hF rfl (yf (gw_yield hF rfl rfl rfl)) (fun hg => (run_load1 rfl one3 ((hF.ev rfl).trans (gv_t hg)) ((S.free 3 rfl).cell rfl))) ?_; clear hF; intro a hF
            refine op_gv (v := .pointer (some ⟨g101, 2, none⟩)) rfl rfl hF rfl (yf (gw_yield hF rfl rfl rfl)) (fun hg => (run_fieldAddr rfl fl28_2 (hF.ev rfl) rfl)) ?_; clear hF; intro a hF
            refine op_gv (v := .int .i64 x2) rfl rfl hF rfl (yf (gw_yield hF rfl rfl rfl)) (fun hg => (run_load1 rfl one3 ((hF.ev rfl).trans (gv_t hg)) ((S.free 4 rfl).cell rfl))) ?_; clear hF; intro a hF
            refine op_gv (v := .bool (x7 != x2)) rfl rfl hF rfl (yf (gw_yield hF rfl rfl rfl)) (fun hg => (run_neq ((hF.ev rfl).trans (gv_t hg)) ((hF.ev rfl).trans (gv_t hg)) rfl)) ?_; clear hF; intro a hF
            refine op_val (v := .bool (((x1 == (-1)) || (x6 != x1)) || (x7 != x2))) rfl rfl hF rfl (run_pick_or rfl (hF.ev rfl) rfl (fun hp => ((hF.ev rfl).trans (gv_t (not_t hp))))) ?_; clear hF; intro a hF
            refine op_val (v := .bool (((x1 == (-1)) || (x6 != x1)) || (x7 != x2))) rfl rfl hF rfl (run_move rfl (hF.ev rfl)) ?_; clear hF; intro a hF
            refine op_gv (v := .pointer (some ⟨g102, 3, none⟩)) rfl rfl hF rfl (yf (gw_yield hF rfl rfl rfl)) (fun hg => (run_fieldAddr rfl fl32_3 (hF.ev rfl) rfl)) ?_; clear hF; intro a hF
            refine op_gv (v := .bool x8) rfl rfl hF rfl (yf (gw_yield hF rfl rfl rfl)) (fun hg => (run_load1 rfl one4 ((hF.ev rfl).trans (gv_t hg)) ((S.free 3 rfl).cell rfl))) ?_; clear hF; intro a hF
            refine op_gv (v := .pointer (some ⟨g101, 3, none⟩)) rfl rfl hF rfl (yf (gw_yield hF rfl rfl rfl)) (fun hg => (run_fieldAddr rfl fl28_3 (hF.ev rfl) rfl)) ?_; clear hF; intro a hF
            refine op_gv (v := .bool x3) rfl rfl hF rfl (yf (gw_yield hF rfl rfl rfl)) (fun hg => (run_load1 rfl one4 ((hF.ev rfl).trans (gv_t hg)) ((S.free 4 rfl).cell rfl))) ?_; clear hF; intro a hF
            refine op_gv (v := .bool (x8 != x3)) rfl rfl hF rfl (yf (gw_yield hF rfl rfl rfl)) (fun hg => (run_neqB ((hF.ev rfl).trans (gv_t hg)) ((hF.ev rfl).trans (gv_t hg)) Try.underlying4 rfl)) ?_; clear hF; intro a hF
            refine op_val (v := .bool ((((x1 == (-1)) || (x6 != x1)) || (x7 != x2)) || (x8 != x3))) rfl rfl hF rfl (run_pick_or rfl (hF.ev rfl) rfl (fun hp => ((hF.ev rfl).trans (gv_t (not_t hp))))) ?_; clear hF; intro a hF
            refine wpList_nil ?_
            cases hc151 : ((((x1 == (-1)) || (x6 != x1)) || (x7 != x2)) || (x8 != x3))
            · replace hM121 := bif_f hc151 hM121
              refine cond_f hF rfl hc151 ?_
              refine wp_skip ?_
              refine wp_seq ?_
              refine wp_region_lit ?_
              refine op_val (v := .pointer (some ⟨g110, 0, none⟩)) rfl rfl hF rfl (run_fieldAddr rfl fl28_0 (hF.ev rfl) rfl) ?_; clear hF; intro a hF
              refine op_val (v := .slice B107 p106.1.length d109) rfl rfl hF rfl (run_load1 rfl one22 (hF.ev rfl) ((S.free 0 rfl).cell rfl)) ?_; clear hF; intro a hF
              refine op_val (v := .pointer (some ⟨g102, 2, none⟩)) rfl rfl hF rfl (run_fieldAddr rfl fl32_2 (hF.ev rfl) rfl) ?_; clear hF; intro a hF
              refine op_val (v := .int .i64 x7) rfl rfl hF rfl (run_load1 rfl one3 (hF.ev rfl) ((S.free 3 rfl).cell rfl)) ?_; clear hF; intro a hF
              refine op_val (v := .pointer (some ⟨g102, 3, none⟩)) rfl rfl hF rfl (run_fieldAddr rfl fl32_3 (hF.ev rfl) rfl) ?_; clear hF; intro a hF
              refine op_val (v := .bool x8) rfl rfl hF rfl (run_load1 rfl one4 (hF.ev rfl) ((S.free 3 rfl).cell rfl)) ?_; clear hF; intro a hF
              obtain ⟨hk152, hM121⟩ := chk_ex hM121
              replace hk152 := ixB_t hk152
              refine op_val (v := .pointer (some ⟨adB B107, adO B107 + x7.toNat * 1, none⟩)) rfl rfl hF rfl (run_indexAddr (b := adB B107) (off := adO B107) rfl Try.underlying22 sz4 ((hF.ev rfl).trans (congrArg (fun A => Value.slice A p106.1.length d109) ((S.rc 1 rfl).rd.ad (ix_pos hk152)))) (hF.ev rfl) hk152.1 hk152.2 (k' := adO B107 + x7.toNat * 1) rfl) ?_; clear hF; intro a hF
              obtain ⟨w', hrun, S'⟩ := run_storeElN (P := Try.prog) (ρ := a.eval) (y0 := x8) (off := 0) S 4 (.tmp 99) (.tmp 98) (i := 1) sz4 (hF.ev rfl) (hF.ev rfl) rfl rfl rfl rfl rfl eB_len false (ix_ltn hk152 rfl) rfl rfl
              refine op_do rfl rfl (hrun _ rfl) ?_; clear hrun S; have S := S'; clear S'; generalize w' = u at S ⊢
              refine wpList_nil ?_
              refine wp_region_lit ?_
              obtain ⟨p153, h153, hM121⟩ := bind_ex hM121
              refine op_call rfl rfl hF rfl (run_call (vs := [.pointer (some ⟨g110, 0, none⟩)]) rfl rfl co36 ⟨(hF.ev rfl), trivial⟩) (c_impl_Panel_unselect (x0 := p106.1.set x7.toNat x8) (x1 := p106.2.1) (x2 := p106.2.2.1) (x3 := p106.2.2.2.1) (x4 := p106.2.2.2.2) (len_set rfl) (show St w _ [.box g110 28 #[.slice B107 p106.1.length d109, .int .i64 p106.2.1, .int .i64 p106.2.2.1, .bool p106.2.2.2.1, .int .i64 p106.2.2.2.2], .row 4 1 (.slice B107 p106.1.length d109) p106.1.length ((p106.1.set x7.toNat x8).flatMap eB), .box g103 28 #[.slice none 0 0, .int .i64 0, .int .i64 0, .bool false, .int .i64 0], .box g102 32 #[.int .i64 x5, .int .i64 x6, .int .i64 x7, .bool x8], .box g101 28 #[.slice A0 x0.length c0, .int .i64 x1, .int .i64 x2, .bool x3, .int .i64 x4]] from S.sel [0, 1, 2, 3, 4] rfl rfl) h153) ?_
              rintro e u ⟨B154, n155, d156, rfl, rfl, T⟩
              refine ⟨_, rfl, ?_⟩
              clear hF; intro a hF
              clear S; have S := T; clear T
              refine wpList_nil ?_
              obtain rfl := Option.some.inj hM121
              exact ⟨(p153.1, p153.2.1, p153.2.2.1, p153.2.2.2.1, p153.2.2.2.2), B154, d156, rfl, hF.keep _ ⟨rfl, rfl, rfl, trivial⟩, S.sel [0, 2, 3, 4, 1] rfl rfl⟩
            · replace hM121 := bif_t hc151 hM121
              refine cond_t hF rfl hc151 ?_
              refine wp_seq ?_
              refine wp_region_lit ?_
              refine op_val (v := .agg #[.slice B107 p106.1.length d109, .int .i64 p106.2.1, .int .i64 p106.2.2.1, .bool p106.2.2.2.1, .int .i64 p106.2.2.2.2]) rfl rfl hF rfl (run_loadN rfl ag28 (hF.ev rfl) rfl ((S.free 0 rfl).cells 0 #[.slice B107 p106.1.length d109, .int .i64 p106.2.1, .int .i64 p106.2.2.1, .bool p106.2.2.2.1, .int .i64 p106.2.2.2.2] rfl)) ?_; clear hF; intro a hF
              refine op_do rfl rfl (run_store (cs' := #[.slice B107 p106.1.length d109, .int .i64 p106.2.1, .int .i64 p106.2.2.1, .bool p106.2.2.2.1, .int .i64 p106.2.2.2.2]) rfl sz28 (hF.ev rfl) (hF.ev rfl) rfl rfl rfl (S.free 2 rfl) rfl rfl) ?_; replace S := S.put 2 rfl (#[.slice B107 p106.1.length d109, .int .i64 p106.2.1, .int .i64 p106.2.2.1, .bool p106.2.2.2.1, .int .i64 p106.2.2.2.2])
              generalize World.setRow _ _ _ = u at S ⊢
              refine op_val (v := .bool false) rfl rfl hF rfl (run_assign rfl rfl) ?_; clear hF; intro a hF
              refine wpList_nil ?_
              refine wp_ret ?_
              repeat with_reducible (first | refine then_ret ?_ | refine in_ret ?_ | refine in_nrm ?_)
              refine ret2_gw (.inl rfl) hF rfl (res_cell (hF.ev rfl) (res_loadN ag28 rfl (S.cells 2 rfl 0 #[.slice B107 p106.1.length d109, .int .i64 p106.2.1, .int .i64 p106.2.2.1, .bool p106.2.2.2.1, .int .i64 p106.2.2.2.2] rfl))) (res_tmp (hF.ev rfl)) ?_
              obtain rfl := Option.some.inj hM121
              obtain rfl := Option.some.inj hM115
              obtain rfl := Option.some.inj hM
              exact ⟨B107, p106.1.length, d109, rfl, rfl, S.sel [1] rfl rfl⟩
        · rintro a u ⟨p117, B119, d120, rfl, hF, S⟩
          replace hM115 := elim_l hM115
          obtain rfl := Option.some.inj hM115
          exact ⟨(p117.1, p117.2.1, p117.2.2.1, p117.2.2.2.1, p117.2.2.2.2), B119, d120, rfl, hF.keep _ ⟨rfl, rfl, rfl, trivial⟩, S.sel [0, 1, 2, 3, 4] rfl rfl⟩
      · replace hM115 := bif_t hc116 hM115
        refine cond_t hF rfl hc116 ?_
        refine wp_seq ?_
        refine wp_seq ?_
        obtain ⟨hk157, hM115⟩ := chk_ex hM115
        replace hk157 := fun hg => ixB_t (imp_t hk157 hg)
        refine region_gw (D := [18, 19, 20, 21, 22, 23, 24, 25, 26, 27, 28, 29, 30, 31, 32, 33, 34, 35, 36, 37, 38, 39, 40, 41, 42, 43, 44, 45, 46, 47, 48, 49, 50, 51, 52, 53, 54]) (Lr := [.box g110 28 #[.slice B107 p106.1.length d109, .int .i64 p106.2.1, .int .i64 p106.2.2.1, .bool p106.2.2.2.1, .int .i64 p106.2.2.2.2], .row 4 1 (.slice B107 p106.1.length d109) p106.1.length (p106.1.flatMap eB), .box g103 28 #[.slice none 0 0, .int .i64 0, .int .i64 0, .bool false, .int .i64 0], .box g102 32 #[.int .i64 x5, .int .i64 x6, .int .i64 x7, .bool x8], .box g101 28 #[.slice A0 x0.length c0, .int .i64 x1, .int .i64 x2, .bool x3, .int .i64 x4]]) (deps := (fun | 0 => [18] | 1 => [19] | 2 => [20] | 3 => [21] | 4 => [22] | 5 => [23] | 6 => [24] | 7 => [25] | 8 => [26] | 9 => [27] | 10 => [28] | 11 => [29] | 12 => [30] | 13 => [31] | 14 => [32] | 15 => [33] | 16 => [34] | 17 => [35] | 18 => [36] | 19 => [37] | 20 => [38] | 21 => [39] | 22 => [40] | 23 => [41] | 24 => [42] | 25 => [43] | 26 => [44] | 27 => [45] | 28 => [46] | 29 => [47] | 30 => [48] | 31 => [49] | 32 => [50] | 33 => [51] | 34 => [52] | 35 => [53] | 36 => [54] | _ => [])) (rd := (fun _ => [])) (zr := (fun _ => []))
          (φ := fun i vs => match i, vs with | 0, [v18] => v18 = .pointer (some ⟨g101, 1, none⟩) | 1, [v19] => v19 = .int .i64 x1 | 2, [v20] => v20 = .bool (x1 != (-1)) | 3, [v21] => v21 = .bool (x1 != (-1)) | 4, [v22] => v22 = gv (!(x1 != (-1))) (.pointer (some ⟨g102, 1, none⟩)) | 5, [v23] => v23 = gv (!(x1 != (-1))) (.int .i64 x6) | 6, [v24] => v24 = gv (!(x1 != (-1))) (.bool (ltB x6 0)) | 7, [v25] => v25 = .bool ((x1 != (-1)) || (ltB x6 0)) | 8, [v26] => v26 = .bool ((x1 != (-1)) || (ltB x6 0)) | 9, [v27] => v27 = gv (!((x1 != (-1)) || (ltB x6 0))) (.pointer (some ⟨g102, 1, none⟩)) | 10, [v28] => v28 = gv (!((x1 != (-1)) || (ltB x6 0))) (.int .i64 x6) | 11, [v29] => v29 = gv (!((x1 != (-1)) || (ltB x6 0))) (.bool (ltB 9 x6)) | 12, [v30] => v30 = .bool (((x1 != (-1)) || (ltB x6 0)) || (ltB 9 x6)) | 13, [v31] => v31 = .bool (((x1 != (-1)) || (ltB x6 0)) || (ltB 9 x6)) | 14, [v32] => v32 = gv (!(((x1 != (-1)) || (ltB x6 0)) || (ltB 9 x6))) (.pointer (some ⟨g102, 2, none⟩)) | 15, [v33] => v33 = gv (!(((x1 != (-1)) || (ltB x6 0)) || (ltB 9 x6))) (.int .i64 x7) | 16, [v34] => v34 = gv (!(((x1 != (-1)) || (ltB x6 0)) || (ltB 9 x6))) (.bool (ltB x7 0)) | 17, [v35] => v35 = .bool ((((x1 != (-1)) || (ltB x6 0)) || (ltB 9 x6)) || (ltB x7 0)) | 18, [v36] => v36 = .bool ((((x1 != (-1)) || (ltB x6 0)) || (ltB 9 x6)) || (ltB x7 0)) | 19, [v37] => v37 = gv (!((((x1 != (-1)) || (ltB x6 0)) || (ltB 9 x6)) || (ltB x7 0))) (.pointer (some ⟨g102, 2, none⟩)) | 20, [v38] => v38 = gv (!((((x1 != (-1)) || (ltB x6 0)) || (ltB 9 x6)) || (ltB x7 0))) (.int .i64 x7) | 21, [v39] => v39 = gv (!((((x1 != (-1)) || (ltB x6 0)) || (ltB 9 x6)) || (ltB x7 0))) (.pointer (some ⟨g101, 0, none⟩)) | 22, [v40] => v40 = gv (!((((x1 != (-1)) || (ltB x6 0)) || (ltB 9 x6)) || (ltB x7 0))) (.slice A0 x0.length c0) | 23, [v41] => v41 = gv (!((((x1 != (-1)) || (ltB x6 0)) || (ltB 9 x6)) || (ltB x7 0))) (.int .i64 (x0.length : Int)) | 24, [v42] => v42 = gv (!((((x1 != (-1)) || (ltB x6 0)) || (ltB 9 x6)) || (ltB x7 0))) (.bool (leB (x0.length : Int) x7)) | 25, [v43] => v43 = .bool (((((x1 != (-1)) || (ltB x6 0)) || (ltB 9 x6)) || (ltB x7 0)) || (leB (x0.length : Int) x7)) | 26, [v44] => v44 = .bool (((((x1 != (-1)) || (ltB x6 0)) || (ltB 9 x6)) || (ltB x7 0)) || (leB (x0.length : Int) x7)) | 27, [v45] => v45 = gv (!(((((x1 != (-1)) || (ltB x6 0)) || (ltB 9 x6)) || (ltB x7 0)) || (leB (x0.length : Int) x7))) (.pointer (some ⟨g101, 0, none⟩)) | 28, [v46] => v46 = gv (!(((((x1 != (-1)) || (ltB x6 0)) || (ltB 9 x6)) || (ltB x7 0)) || (leB (x0.length : Int) x7))) (.slice A0 x0.length c0) | 29, [v47] => v47 = gv (!(((((x1 != (-1)) || (ltB x6 0)) || (ltB 9 x6)) || (ltB x7 0)) || (leB (x0.length : Int) x7))) (.pointer (some ⟨g102, 2, none⟩)) | 30, [v48] => v48 = gv (!(((((x1 != (-1)) || (ltB x6 0)) || (ltB 9 x6)) || (ltB x7 0)) || (leB (x0.length : Int) x7))) (.int .i64 x7) | 31, [v49] => v49 = gv (!(((((x1 != (-1)) || (ltB x6 0)) || (ltB 9 x6)) || (ltB x7 0)) || (leB (x0.length : Int) x7))) (.pointer (some ⟨adB A0, adO A0 + x7.toNat * 1, none⟩)) | 32, [v50] => v50 = gv (!(((((x1 != (-1)) || (ltB x6 0)) || (ltB 9 x6)) || (ltB x7 0)) || (leB (x0.length : Int) x7))) (.bool (x0.getD x7.toNat false)) | 33, [v51] => v51 = gv (!(((((x1 != (-1)) || (ltB x6 0)) || (ltB 9 x6)) || (ltB x7 0)) || (leB (x0.length : Int) x7))) (.pointer (some ⟨g102, 3, none⟩)) | 34, [v52] => v52 = gv (!(((((x1 != (-1)) || (ltB x6 0)) || (ltB 9 x6)) || (ltB x7 0)) || (leB (x0.length : Int) x7))) (.bool x8) | 35, [v53] => v53 = gv (!(((((x1 != (-1)) || (ltB x6 0)) || (ltB 9 x6)) || (ltB x7 0)) || (leB (x0.length : Int) x7))) (.bool ((x0.getD x7.toNat false) == x8)) | 36, [v54] => v54 = .bool ((((((x1 != (-1)) || (ltB x6 0)) || (ltB 9 x6)) || (ltB x7 0)) || (leB (x0.length : Int) x7)) || ((x0.getD x7.toNat false) == x8)) | _, _ => True)
          (C := fun _ _ => [])
          (κ := (fun _ => none)) (Z := (fun _ => [])) mixed hF (by kernel_rfl) S ?_ ?_
        · refine ⟨?_, ?_, ?_, ?_, ?_, ?_, ?_, ?_, ?_, ?_, ?_, ?_, ?_, ?_, ?_, ?_, ?_, ?_, ?_, ?_, ?_, ?_, ?_, ?_, ?_, ?_, ?_, ?_, ?_, ?_, ?_, ?_, ?_, ?_, ?_, ?_, ?_, trivial⟩
          · intro a u X hB hu hp hr hz hl S
            replace S : St w u ([] ++ X) := S
            exact .inl ⟨rfl, .pointer (some ⟨g101, 1, none⟩), u, (run_fieldAddr rfl fl28_1 (hF.evB hB rfl rfl) rfl), rfl, S⟩
          · intro a u X hB hu hp hr hz hl S
            replace S : St w u ([] ++ X) := S
            have e18 : sl a 18 = .pointer (some ⟨g101, 1, none⟩) := hp 0 rfl
            exact .inl ⟨rfl, .int .i64 x1, u, (run_load1 rfl one3 (ev_sl e18) ((gr_box S hl 4 rfl).cell rfl)), rfl, S⟩
          · intro a u X hB hu hp hr hz hl S
            replace S : St w u ([] ++ X) := S
            have e19 : sl a 19 = .int .i64 x1 := hp 1 rfl
            exact .inl ⟨rfl, .bool (x1 != (-1)), u, (run_neq (ev_sl e19) (ev_const _ _) rfl), rfl, S⟩
          · intro a u X hB hu hp hr hz hl S
            replace S : St w u ([] ++ X) := S
            have e20 : sl a 20 = .bool (x1 != (-1)) := hp 2 rfl
            exact .inl ⟨rfl, .bool (x1 != (-1)), u, (run_move rfl (ev_sl e20)), rfl, S⟩
          · intro a u X hB hu hp hr hz hl S
            replace S : St w u ([] ++ X) := S
            have e21 : sl a 21 = .bool (x1 != (-1)) := hp 3 rfl
            rcases (Bool.eq_false_or_eq_true (!(x1 != (-1)))).symm with hg | hg
            · exact .inr (.inr (.inr ⟨gr_eg rfl (yf (gr_yield rfl rfl e21)) hg, (gv_f hg).symm, S⟩))
            · exact .inl ⟨gr_eg rfl (yf (gr_yield rfl rfl e21)) hg, .pointer (some ⟨g102, 1, none⟩), u, (run_fieldAddr rfl fl32_1 (hF.evB hB rfl rfl) rfl), (gv_t hg).symm, S⟩
          · intro a u X hB hu hp hr hz hl S
            replace S : St w u ([] ++ X) := S
            have e21 : sl a 21 = .bool (x1 != (-1)) := hp 3 rfl
            have e22 : sl a 22 = gv (!(x1 != (-1))) (.pointer (some ⟨g102, 1, none⟩)) := hp 4 rfl
            rcases (Bool.eq_false_or_eq_true (!(x1 != (-1)))).symm with hg | hg
            · exact .inr (.inr (.inr ⟨gr_eg rfl (yf (gr_yield rfl rfl e21)) hg, (gv_f hg).symm, S⟩))
            · exact .inl ⟨gr_eg rfl (yf (gr_yield rfl rfl e21)) hg, .int .i64 x6, u, (run_load1 rfl one3 ((ev_sl e22).trans (gv_t hg)) ((gr_box S hl 3 rfl).cell rfl)), (gv_t hg).symm, S⟩
          · intro a u X hB hu hp hr hz hl S
            replace S : St w u ([] ++ X) := S
            have e21 : sl a 21 = .bool (x1 != (-1)) := hp 3 rfl
            have e23 : sl a 23 = gv (!(x1 != (-1))) (.int .i64 x6) := hp 5 rfl
            rcases (Bool.eq_false_or_eq_true (!(x1 != (-1)))).symm with hg | hg
            · exact .inr (.inr (.inr ⟨gr_eg rfl (yf (gr_yield rfl rfl e21)) hg, (gv_f hg).symm, S⟩))
            · exact .inl ⟨gr_eg rfl (yf (gr_yield rfl rfl e21)) hg, .bool (ltB x6 0), u, (run_lss ((ev_sl e23).trans (gv_t hg)) (ev_const _ _) rfl), (gv_t hg).symm, S⟩
          · intro a u X hB hu hp hr hz hl S
            replace S : St w u ([] ++ X) := S
            have e21 : sl a 21 = .bool (x1 != (-1)) := hp 3 rfl
            have e24 : sl a 24 = gv (!(x1 != (-1))) (.bool (ltB x6 0)) := hp 6 rfl
            exact .inl ⟨rfl, .bool ((x1 != (-1)) || (ltB x6 0)), u, (run_pick_or rfl (ev_sl e21) (ev_const _ _) (fun hp => ((ev_sl e24).trans (gv_t (not_t hp))))), rfl, S⟩
          · intro a u X hB hu hp hr hz hl S
            replace S : St w u ([] ++ X) := S
            have e25 : sl a 25 = .bool ((x1 != (-1)) || (ltB x6 0)) := hp 7 rfl
            exact .inl ⟨rfl, .bool ((x1 != (-1)) || (ltB x6 0)), u, (run_move rfl (ev_sl e25)), rfl, S⟩
          · intro a u X hB hu hp hr hz hl S
            replace S : St w u ([] ++ X) := S
            have e26 : sl a 26 = .bool ((x1 != (-1)) || (ltB x6 0)) := hp 8 rfl
            rcases (Bool.eq_false_or_eq_true (!((x1 != (-1)) || (ltB x6 0)))).symm with hg | hg
            · exact .inr (.inr (.inr ⟨gr_eg rfl (yf (gr_yield rfl rfl e26)) hg, (gv_f hg).symm, S⟩))
            · exact .inl ⟨gr_eg rfl (yf (gr_yield rfl rfl e26)) hg, .pointer (some ⟨g102, 1, none⟩), u, (run_fieldAddr rfl fl32_1 (hF.evB hB rfl rfl) rfl), (gv_t hg).symm, S⟩
          · intro a u X hB hu hp hr hz hl S
            replace S : St w u ([] ++ X) := S
            have e26 : sl a 26 = .bool ((x1 != (-1)) || (ltB x6 0)) := hp 8 rfl
            have e27 : sl a 27 = gv (!((x1 != (-1)) || (ltB x6 0))) (.pointer (some ⟨g102, 1, none⟩)) := hp 9 rfl
            rcases (Bool.eq_false_or_eq_true (!((x1 != (-1)) || (ltB x6 0)))).symm with hg | hg
            · exact .inr (.inr (.inr ⟨gr_eg rfl (yf (gr_yield rfl rfl e26)) hg, (gv_f hg).symm, S⟩))
            · exact .inl ⟨gr_eg rfl (yf (gr_yield rfl rfl e26)) hg, .int .i64 x6, u, (run_load1 rfl one3 ((ev_sl e27).trans (gv_t hg)) ((gr_box S hl 3 rfl).cell rfl)), (gv_t hg).symm, S⟩
          · intro a u X hB hu hp hr hz hl S
            replace S : St w u ([] ++ X) := S
            have e26 : sl a 26 = .bool ((x1 != (-1)) || (ltB x6 0)) := hp 8 rfl
            have e28 : sl a 28 = gv (!((x1 != (-1)) || (ltB x6 0))) (.int .i64 x6) := hp 10 rfl
            rcases (Bool.eq_false_or_eq_true (!((x1 != (-1)) || (ltB x6 0)))).symm with hg | hg
            · exact .inr (.inr (.inr ⟨gr_eg rfl (yf (gr_yield rfl rfl e26)) hg, (gv_f hg).symm, S⟩))
            · exact .inl ⟨gr_eg rfl (yf (gr_yield rfl rfl e26)) hg, .bool (ltB 9 x6), u, (run_gtr ((ev_sl e28).trans (gv_t hg)) (ev_const _ _) rfl), (gv_t hg).symm, S⟩
          · intro a u X hB hu hp hr hz hl S
            replace S : St w u ([] ++ X) := S
            have e26 : sl a 26 = .bool ((x1 != (-1)) || (ltB x6 0)) := hp 8 rfl
            have e29 : sl a 29 = gv (!((x1 != (-1)) || (ltB x6 0))) (.bool (ltB 9 x6)) := hp 11 rfl
            exact .inl ⟨rfl, .bool (((x1 != (-1)) || (ltB x6 0)) || (ltB 9 x6)), u, (run_pick_or rfl (ev_sl e26) (ev_const _ _) (fun hp => ((ev_sl e29).trans (gv_t (not_t hp))))), rfl, S⟩
          · intro a u X hB hu hp hr hz hl S
            replace S : St w u ([] ++ X) := S
            have e30 : sl a 30 = .bool (((x1 != (-1)) || (ltB x6 0)) || (ltB 9 x6)) := hp 12 rfl
            exact .inl ⟨rfl, .bool (((x1 != (-1)) || (ltB x6 0)) || (ltB 9 x6)), u, (run_move rfl (ev_sl e30)), rfl, S⟩
          · intro a u X hB hu hp hr hz hl S
            replace S : St w u ([] ++ X) := S
            have e31 : sl a 31 = .bool (((x1 != (-1)) || (ltB x6 0)) || (ltB 9 x6)) := hp 13 rfl
            rcases (Bool.eq_false_or_eq_true (!(((x1 != (-1)) || (ltB x6 0)) || (ltB 9 x6)))).symm with hg | hg
            · exact .inr (.inr (.inr ⟨gr_eg rfl (yf (gr_yield rfl rfl e31)) hg, (gv_f hg).symm, S⟩))
            · exact .inl ⟨gr_eg rfl (yf (gr_yield rfl rfl e31)) hg, .pointer (some ⟨g102, 2, none⟩), u, (run_fieldAddr rfl fl32_2 (hF.evB hB rfl rfl) rfl), (gv_t hg).symm, S⟩
          · intro a u X hB hu hp hr hz hl S
            replace S : St w u ([] ++ X) := S
            have e31 : sl a 31 = .bool (((x1 != (-1)) || (ltB x6 0)) || (ltB 9 x6)) := hp 13 rfl
            have e32 : sl a 32 = gv (!(((x1 != (-1)) || (ltB x6 0)) || (ltB 9 x6))) (.pointer (some ⟨g102, 2, none⟩)) := hp 14 rfl
            rcases (Bool.eq_false_or_eq_true (!(((x1 != (-1)) || (ltB x6 0)) || (ltB 9 x6)))).symm with hg | hg
            · exact .inr (.inr (.inr ⟨gr_eg rfl (yf (gr_yield rfl rfl e31)) hg, (gv_f hg).symm, S⟩))
            · exact .inl ⟨gr_eg rfl (yf (gr_yield rfl rfl e31)) hg, .int .i64 x7, u, (run_load1 rfl one3 ((ev_sl e32).trans (gv_t hg)) ((gr_box S hl 3 rfl).cell rfl)), (gv_t hg).symm, S⟩
          · intro a u X hB hu hp hr hz hl S
            replace S : St w u ([] ++ X) := S
            have e31 : sl a 31 = .bool (((x1 != (-1)) || (ltB x6 0)) || (ltB 9 x6)) := hp 13 rfl
            have e33 : sl a 33 = gv (!(((x1 != (-1)) || (ltB x6 0)) || (ltB 9 x6))) (.int .i64 x7) := hp 15 rfl
            rcases (Bool.eq_false_or_eq_true (!(((x1 != (-1)) || (ltB x6 0)) || (ltB 9 x6)))).symm with hg | hg
            · exact .inr (.inr (.inr ⟨gr_eg rfl (yf (gr_yield rfl rfl e31)) hg, (gv_f hg).symm, S⟩))
            · exact .inl ⟨gr_eg rfl (yf (gr_yield rfl rfl e31)) hg, .bool (ltB x7 0), u, (run_lss ((ev_sl e33).trans (gv_t hg)) (ev_const _ _) rfl), (gv_t hg).symm, S⟩
          · intro a u X hB hu hp hr hz hl S
            replace S : St w u ([] ++ X) := S
            have e31 : sl a 31 = .bool (((x1 != (-1)) || (ltB x6 0)) || (ltB 9 x6)) := hp 13 rfl
            have e34 : sl a 34 = gv (!(((x1 != (-1)) || (ltB x6 0)) || (ltB 9 x6))) (.bool (ltB x7 0)) := hp 16 rfl
            exact .inl ⟨rfl, .bool ((((x1 != (-1)) || (ltB x6 0)) || (ltB 9 x6)) || (ltB x7 0)), u, (run_pick_or rfl (ev_sl e31) (ev_const _ _) (fun hp => ((ev_sl e34).trans (gv_t (not_t hp))))), rfl, S⟩
          · intro a u X hB hu hp hr hz hl S
            replace S : St w u ([] ++ X) := S
            have e35 : sl a 35 = .bool ((((x1 != (-1)) || (ltB x6 0)) || (ltB 9 x6)) || (ltB x7 0)) := hp 17 rfl
            exact .inl ⟨rfl, .bool ((((x1 != (-1)) || (ltB x6 0)) || (ltB 9 x6)) || (ltB x7 0)), u, (run_move rfl (ev_sl e35)), rfl, S⟩
          · intro a u X hB hu hp hr hz hl S
            replace S : St w u ([] ++ X) := S
            have e36 : sl a 36 = .bool ((((x1 != (-1)) || (ltB x6 0)) || (ltB 9 x6)) || (ltB x7 0)) := hp 18 rfl
            rcases (Bool.eq_false_or_eq_true (!((((x1 != (-1)) || (ltB x6 0)) || (ltB 9 x6)) || (ltB x7 0)))).symm with hg | hg
            · exact .inr (.inr (.inr ⟨gr_eg rfl (yf (gr_yield rfl rfl e36)) hg, (gv_f hg).symm, S⟩))
            · exact .inl ⟨gr_eg rfl (yf (gr_yield rfl rfl e36)) hg, .pointer (some ⟨g102, 2, none⟩), u, (run_fieldAddr rfl fl32_2 (hF.evB hB rfl rfl) rfl), (gv_t hg).symm, S⟩
          · intro a u X hB hu hp hr hz hl S
            replace S : St w u ([] ++ X) := S
            have e36 : sl a 36 = .bool ((((x1 != (-1)) || (ltB x6 0)) || (ltB 9 x6)) || (ltB x7 0)) := hp 18 rfl
            have e37 : sl a 37 = gv (!((((x1 != (-1)) || (ltB x6 0)) || (ltB 9 x6)) || (ltB x7 0))) (.pointer (some ⟨g102, 2, none⟩)) := hp 19 rfl
            rcases (Bool.eq_false_or_eq_true (!((((x1 != (-1)) || (ltB x6 0)) || (ltB 9 x6)) || (ltB x7 0)))).symm with hg | hg
            · exact .inr (.inr (.inr ⟨gr_eg rfl (yf (gr_yield rfl rfl e36)) hg, (gv_f hg).symm, S⟩))
            · exact .inl ⟨gr_eg rfl (yf (gr_yield rfl rfl e36)) hg, .int .i64 x7, u, (run_load1 rfl one3 ((ev_sl e37).trans (gv_t hg)) ((gr_box S hl 3 rfl).cell rfl)), (gv_t hg).symm, S⟩
          · intro a u X hB hu hp hr hz hl S
            replace S : St w u ([] ++ X) := S
            have e36 : sl a 36 = .bool ((((x1 != (-1)) || (ltB x6 0)) || (ltB 9 x6)) || (ltB x7 0)) := hp 18 rfl
            rcases (Bool.eq_false_or_eq_true (!((((x1 != (-1)) || (ltB x6 0)) || (ltB 9 x6)) || (ltB x7 0)))).symm with hg | hg
            · exact .inr (.inr (.inr ⟨gr_eg rfl (yf (gr_yield rfl rfl e36)) hg, (gv_f hg).symm, S⟩))
            · exact .inl ⟨gr_eg rfl (yf (gr_yield rfl rfl e36)) hg, .pointer (some ⟨g101, 0, none⟩), u, (run_fieldAddr rfl fl28_0 (hF.evB hB rfl rfl) rfl), (gv_t hg).symm, S⟩
          · intro a u X hB hu hp hr hz hl S
            replace S : St w u ([] ++ X) := S
            have e36 : sl a 36 = .bool ((((x1 != (-1)) || (ltB x6 0)) || (ltB 9 x6)) || (ltB x7 0)) := hp 18 rfl
            have e39 : sl a 39 = gv (!((((x1 != (-1)) || (ltB x6 0)) || (ltB 9 x6)) || (ltB x7 0))) (.pointer (some ⟨g101, 0, none⟩)) := hp 21 rfl
            rcases (Bool.eq_false_or_eq_true (!((((x1 != (-1)) || (ltB x6 0)) || (ltB 9 x6)) || (ltB x7 0)))).symm with hg | hg
            · exact .inr (.inr (.inr ⟨gr_eg rfl (yf (gr_yield rfl rfl e36)) hg, (gv_f hg).symm, S⟩))
            · exact .inl ⟨gr_eg rfl (yf (gr_yield rfl rfl e36)) hg, .slice A0 x0.length c0, u, (run_load1 rfl one22 ((ev_sl e39).trans (gv_t hg)) ((gr_box S hl 4 rfl).cell rfl)), (gv_t hg).symm, S⟩
          · intro a u X hB hu hp hr hz hl S
            replace S : St w u ([] ++ X) := S
            have e36 : sl a 36 = .bool ((((x1 != (-1)) || (ltB x6 0)) || (ltB 9 x6)) || (ltB x7 0)) := hp 18 rfl
            have e40 : sl a 40 = gv (!((((x1 != (-1)) || (ltB x6 0)) || (ltB 9 x6)) || (ltB x7 0))) (.slice A0 x0.length c0) := hp 22 rfl
            rcases (Bool.eq_false_or_eq_true (!((((x1 != (-1)) || (ltB x6 0)) || (ltB 9 x6)) || (ltB x7 0)))).symm with hg | hg
            · exact .inr (.inr (.inr ⟨gr_eg rfl (yf (gr_yield rfl rfl e36)) hg, (gv_f hg).symm, S⟩))
            · exact .inl ⟨gr_eg rfl (yf (gr_yield rfl rfl e36)) hg, .int .i64 (x0.length : Int), u, (run_lenL rfl rfl Try.underlying22 ((ev_sl e40).trans (gv_t hg))), (gv_t hg).symm, S⟩
          · intro a u X hB hu hp hr hz hl S
            replace S : St w u ([] ++ X) := S
            have e36 : sl a 36 = .bool ((((x1 != (-1)) || (ltB x6 0)) || (ltB 9 x6)) || (ltB x7 0)) := hp 18 rfl
            have e38 : sl a 38 = gv (!((((x1 != (-1)) || (ltB x6 0)) || (ltB 9 x6)) || (ltB x7 0))) (.int .i64 x7) := hp 20 rfl
            have e41 : sl a 41 = gv (!((((x1 != (-1)) || (ltB x6 0)) || (ltB 9 x6)) || (ltB x7 0))) (.int .i64 (x0.length : Int)) := hp 23 rfl
            rcases (Bool.eq_false_or_eq_true (!((((x1 != (-1)) || (ltB x6 0)) || (ltB 9 x6)) || (ltB x7 0)))).symm with hg | hg
            · exact .inr (.inr (.inr ⟨gr_eg rfl (yf (gr_yield rfl rfl e36)) hg, (gv_f hg).symm, S⟩))
            · exact .inl ⟨gr_eg rfl (yf (gr_yield rfl rfl e36)) hg, .bool (leB (x0.length : Int) x7), u, (run_geq ((ev_sl e38).trans (gv_t hg)) ((ev_sl e41).trans (gv_t hg)) rfl), (gv_t hg).symm, S⟩
          · intro a u X hB hu hp hr hz hl S
            replace S : St w u ([] ++ X) := S
            have e36 : sl a 36 = .bool ((((x1 != (-1)) || (ltB x6 0)) || (ltB 9 x6)) || (ltB x7 0)) := hp 18 rfl
            have e42 : sl a 42 = gv (!((((x1 != (-1)) || (ltB x6 0)) || (ltB 9 x6)) || (ltB x7 0))) (.bool (leB (x0.length : Int) x7)) := hp 24 rfl
            exact .inl ⟨rfl, .bool (((((x1 != (-1)) || (ltB x6 0)) || (ltB 9 x6)) || (ltB x7 0)) || (leB (x0.length : Int) x7)), u, (run_pick_or rfl (ev_sl e36) (ev_const _ _) (fun hp => ((ev_sl e42).trans (gv_t (not_t hp))))), rfl, S⟩
          · intro a u X hB hu hp hr hz hl S
            replace S : St w u ([] ++ X) := S
            have e43 : sl a 43 = .bool (((((x1 != (-1)) || (ltB x6 0)) || (ltB 9 x6)) || (ltB x7 0)) || (leB (x0.length : Int) x7)) := hp 25 rfl
            exact .inl ⟨rfl, .bool (((((x1 != (-1)) || (ltB x6 0)) || (ltB 9 x6)) || (ltB x7 0)) || (leB (x0.length : Int) x7)), u, (run_move rfl (ev_sl e43)), rfl, S⟩
          · intro a u X hB hu hp hr hz hl S
            replace S : St w u ([] ++ X) := S
            have e44 : sl a 44 = .bool (((((x1 != (-1)) || (ltB x6 0)) || (ltB 9 x6)) || (ltB x7 0)) || (leB (x0.length : Int) x7)) := hp 26 rfl
            rcases (Bool.eq_false_or_eq_true (!(((((x1 != (-1)) || (ltB x6 0)) || (ltB 9 x6)) || (ltB x7 0)) || (leB (x0.length : Int) x7)))).symm with hg | hg
            · exact .inr (.inr (.inr ⟨gr_eg rfl (yf (gr_yield rfl rfl e44)) hg, (gv_f hg).symm, S⟩))
            · exact .inl ⟨gr_eg rfl (yf (gr_yield rfl rfl e44)) hg, .pointer (some ⟨g101, 0, none⟩), u, (run_fieldAddr rfl fl28_0 (hF.evB hB rfl rfl) rfl), (gv_t hg).symm, S⟩
          · intro a u X hB hu hp hr hz hl S
            replace S : St w u ([] ++ X) := S
            have e44 : sl a 44 = .bool (((((x1 != (-1)) || (ltB x6 0)) || (ltB 9 x6)) || (ltB x7 0)) || (leB (x0.length : Int) x7)) := hp 26 rfl
            have e45 : sl a 45 = gv (!(((((x1 != (-1)) || (ltB x6 0)) || (ltB 9 x6)) || (ltB x7 0)) || (leB (x0.length : Int) x7))) (.pointer (some ⟨g101, 0, none⟩)) := hp 27 rfl
            rcases (Bool.eq_false_or_eq_true (!(((((x1 != (-1)) || (ltB x6 0)) || (ltB 9 x6)) || (ltB x7 0)) || (leB (x0.length : Int) x7)))).symm with hg | hg
            · exact .inr (.inr (.inr ⟨gr_eg rfl (yf (gr_yield rfl rfl e44)) hg, (gv_f hg).symm, S⟩))
            · exact .inl ⟨gr_eg rfl (yf (gr_yield rfl rfl e44)) hg, .slice A0 x0.length c0, u, (run_load1 rfl one22 ((ev_sl e45).trans (gv_t hg)) ((gr_box S hl 4 rfl).cell rfl)), (gv_t hg).symm, S⟩
          · intro a u X hB hu hp hr hz hl S
            replace S : St w u ([] ++ X) := S
            have e44 : sl a 44 = .bool (((((x1 != (-1)) || (ltB x6 0)) || (ltB 9 x6)) || (ltB x7 0)) || (leB (x0.length : Int) x7)) := hp 26 rfl
            rcases (Bool.eq_false_or_eq_true (!(((((x1 != (-1)) || (ltB x6 0)) || (ltB 9 x6)) || (ltB x7 0)) || (leB (x0.length : Int) x7)))).symm with hg | hg
            · exact .inr (.inr (.inr ⟨gr_eg rfl (yf (gr_yield rfl rfl e44)) hg, (gv_f hg).symm, S⟩))
            · exact .inl ⟨gr_eg rfl (yf (gr_yield rfl rfl e44)) hg, .pointer (some ⟨g102, 2, none⟩), u, (run_fieldAddr rfl fl32_2 (hF.evB hB rfl rfl) rfl), (gv_t hg).symm, S⟩
          · intro a u X hB hu hp hr hz hl S
            replace S : St w u ([] ++ X) := S
            have e44 : sl a 44 = .bool (((((x1 != (-1)) || (ltB x6 0)) || (ltB 9 x6)) || (ltB x7 0)) || (leB (x0.length : Int) x7)) := hp 26 rfl
            have e47 : sl a 47 = gv (!(((((x1 != (-1)) || (ltB x6 0)) || (ltB 9 x6)) || (ltB x7 0)) || (leB (x0.length : Int) x7))) (.pointer (some ⟨g102, 2, none⟩)) := hp 29 rfl
            rcases (Bool.eq_false_or_eq_true (!(((((x1 != (-1)) || (ltB x6 0)) || (ltB 9 x6)) || (ltB x7 0)) || (leB (x0.length : Int) x7)))).symm with hg | hg
            · exact .inr (.inr (.inr ⟨gr_eg rfl (yf (gr_yield rfl rfl e44)) hg, (gv_f hg).symm, S⟩))
            · exact .inl ⟨gr_eg rfl (yf (gr_yield rfl rfl e44)) hg, .int .i64 x7, u, (run_load1 rfl one3 ((ev_sl e47).trans (gv_t hg)) ((gr_box S hl 3 rfl).cell rfl)), (gv_t hg).symm, S⟩
          · intro a u X hB hu hp hr hz hl S
            replace S : St w u ([] ++ X) := S
            have e44 : sl a 44 = .bool (((((x1 != (-1)) || (ltB x6 0)) || (ltB 9 x6)) || (ltB x7 0)) || (leB (x0.length : Int) x7)) := hp 26 rfl
            have e46 : sl a 46 = gv (!(((((x1 != (-1)) || (ltB x6 0)) || (ltB 9 x6)) || (ltB x7 0)) || (leB (x0.length : Int) x7))) (.slice A0 x0.length c0) := hp 28 rfl
            have e48 : sl a 48 = gv (!(((((x1 != (-1)) || (ltB x6 0)) || (ltB 9 x6)) || (ltB x7 0)) || (leB (x0.length : Int) x7))) (.int .i64 x7) := hp 30 rfl
            rcases (Bool.eq_false_or_eq_true (!(((((x1 != (-1)) || (ltB x6 0)) || (ltB 9 x6)) || (ltB x7 0)) || (leB (x0.length : Int) x7)))).symm with hg | hg
            · exact .inr (.inr (.inr ⟨gr_eg rfl (yf (gr_yield rfl rfl e44)) hg, (gv_f hg).symm, S⟩))
            · exact .inl ⟨gr_eg rfl (yf (gr_yield rfl rfl e44)) hg, .pointer (some ⟨adB A0, adO A0 + x7.toNat * 1, none⟩), u, (run_indexAddr (b := adB A0) (off := adO A0) rfl Try.underlying22 sz4 (((ev_sl e46).trans (gv_t hg)).trans (congrArg (fun A => Value.slice A x0.length c0) ((S.rc0 h0.rc).rd.ad (ix_pos (hk157 hg))))) ((ev_sl e48).trans (gv_t hg)) (hk157 hg).1 (hk157 hg).2 (k' := adO A0 + x7.toNat * 1) rfl), (gv_t hg).symm, S⟩
          · intro a u X hB hu hp hr hz hl S
            replace S : St w u ([] ++ X) := S
            have e44 : sl a 44 = .bool (((((x1 != (-1)) || (ltB x6 0)) || (ltB 9 x6)) || (ltB x7 0)) || (leB (x0.length : Int) x7)) := hp 26 rfl
            have e49 : sl a 49 = gv (!(((((x1 != (-1)) || (ltB x6 0)) || (ltB 9 x6)) || (ltB x7 0)) || (leB (x0.length : Int) x7))) (.pointer (some ⟨adB A0, adO A0 + x7.toNat * 1, none⟩)) := hp 31 rfl
            rcases (Bool.eq_false_or_eq_true (!(((((x1 != (-1)) || (ltB x6 0)) || (ltB 9 x6)) || (ltB x7 0)) || (leB (x0.length : Int) x7)))).symm with hg | hg
            · exact .inr (.inr (.inr ⟨gr_eg rfl (yf (gr_yield rfl rfl e44)) hg, (gv_f hg).symm, S⟩))
            · exact .inl ⟨gr_eg rfl (yf (gr_yield rfl rfl e44)) hg, .bool (x0.getD x7.toNat false), u, (run_load1 rfl one4 ((ev_sl e49).trans (gv_t hg)) (rd_el0 (l := x0) (S.rc0 h0.rc).rd rfl eB_len false (ix_ltn (hk157 hg) rfl) rfl)), (gv_t hg).symm, S⟩
          · intro a u X hB hu hp hr hz hl S
            replace S : St w u ([] ++ X) := S
            have e44 : sl a 44 = .bool (((((x1 != (-1)) || (ltB x6 0)) || (ltB 9 x6)) || (ltB x7 0)) || (leB (x0.length : Int) x7)) := hp 26 rfl
            rcases (Bool.eq_false_or_eq_true (!(((((x1 != (-1)) || (ltB x6 0)) || (ltB 9 x6)) || (ltB x7 0)) || (leB (x0.length : Int) x7)))).symm with hg | hg
            · exact .inr (.inr (.inr ⟨gr_eg rfl (yf (gr_yield rfl rfl e44)) hg, (gv_f hg).symm, S⟩))
            · exact .inl ⟨gr_eg rfl (yf (gr_yield rfl rfl e44)) hg, .pointer (some ⟨g102, 3, none⟩), u, (run_fieldAddr rfl fl32_3 (hF.evB hB rfl rfl) rfl), (gv_t hg).symm, S⟩
          · intro a u X hB hu hp hr hz hl S
            replace S : St w u ([] ++ X) := S
            have e44 : sl a 44 = .bool (((((x1 != (-1)) || (ltB x6 0)) || (ltB 9 x6)) || (ltB x7 0)) || (leB (x0.length : Int) x7)) := hp 26 rfl
            have e51 : sl a 51 = gv (!(((((x1 != (-1)) || (ltB x6 0)) || (ltB 9 x6)) || (ltB x7 0)) || (leB (x0.length : Int) x7))) (.pointer (some ⟨g102, 3, none⟩)) := hp 33 rfl
            rcases (Bool.eq_false_or_eq_true (!(((((x1 != (-1)) || (ltB x6 0)) || (ltB 9 x6)) || (ltB x7 0)) || (leB (x0.length : Int) x7)))).symm with hg | hg
            · exact .inr (.inr (.inr ⟨gr_eg rfl (yf (gr_yield rfl rfl e44)) hg, (gv_f hg).symm, S⟩))
            · exact .inl ⟨gr_eg rfl (yf (gr_yield rfl rfl e44)) hg, .bool x8, u, (run_load1 rfl one4 ((ev_sl e51).trans (gv_t hg)) ((gr_box S hl 3 rfl).cell rfl)), (gv_t hg).symm, S⟩
          · intro a u X hB hu hp hr hz hl S
            replace S : St w u ([] ++ X) := S
            have e44 : sl a 44 = .bool (((((x1 != (-1)) || (ltB x6 0)) || (ltB 9 x6)) || (ltB x7 0)) || (leB (x0.length : Int) x7)) := hp 26 rfl
            have e50 : sl a 50 = gv (!(((((x1 != (-1)) || (ltB x6 0)) || (ltB 9 x6)) || (ltB x7 0)) || (leB (x0.length : Int) x7))) (.bool (x0.getD x7.toNat false)) := hp 32 rfl
            have e52 : sl a 52 = gv (!(((((x1 != (-1)) || (ltB x6 0)) || (ltB 9 x6)) || (ltB x7 0)) || (leB (x0.length : Int) x7))) (.bool x8) := hp 34 rfl
            rcases (Bool.eq_false_or_eq_true (!(((((x1 != (-1)) || (ltB x6 0)) || (ltB 9 x6)) || (ltB x7 0)) || (leB (x0.length : Int) x7)))).symm with hg | hg
            · exact .inr (.inr (.inr ⟨gr_eg rfl (yf (gr_yield rfl rfl e44)) hg, (gv_f hg).symm, S⟩))
            · exact .inl ⟨gr_eg rfl (yf (gr_yield rfl rfl e44)) hg, .bool ((x0.getD x7.toNat false) == x8), u, (run_eqlB ((ev_sl e50).trans (gv_t hg)) ((ev_sl e52).trans (gv_t hg)) Try.underlying4 rfl), (gv_t hg).symm, S⟩
          · intro a u X hB hu hp hr hz hl S
            replace S : St w u ([] ++ X) := S
            have e44 : sl a 44 = .bool (((((x1 != (-1)) || (ltB x6 0)) || (ltB 9 x6)) || (ltB x7 0)) || (leB (x0.length : Int) x7)) := hp 26 rfl
            have e53 : sl a 53 = gv (!(((((x1 != (-1)) || (ltB x6 0)) || (ltB 9 x6)) || (ltB x7 0)) || (leB (x0.length : Int) x7))) (.bool ((x0.getD x7.toNat false) == x8)) := hp 35 rfl
            exact .inl ⟨rfl, .bool ((((((x1 != (-1)) || (ltB x6 0)) || (ltB 9 x6)) || (ltB x7 0)) || (leB (x0.length : Int) x7)) || ((x0.getD x7.toNat false) == x8)), u, (run_pick_or rfl (ev_sl e44) (ev_const _ _) (fun hp => ((ev_sl e53).trans (gv_t (not_t hp))))), rfl, S⟩
        · intro a u hB hp S
          obtain ⟨q0, q1, q2, q3, q4, q5, q6, q7, q8, q9, q10, q11, q12, q13, q14, q15, q16, q17, q18, q19, q20, q21, q22, q23, q24, q25, q26, q27, q28, q29, q30, q31, q32, q33, q34, q35, q36, _⟩ := hp
          have e18 : sl a 18 = .pointer (some ⟨g101, 1, none⟩) := q0
          have e19 : sl a 19 = .int .i64 x1 := q1
          have e20 : sl a 20 = .bool (x1 != (-1)) := q2
          have e21 : sl a 21 = .bool (x1 != (-1)) := q3
          have e22 : sl a 22 = gv (!(x1 != (-1))) (.pointer (some ⟨g102, 1, none⟩)) := q4
          have e23 : sl a 23 = gv (!(x1 != (-1))) (.int .i64 x6) := q5
          have e24 : sl a 24 = gv (!(x1 != (-1))) (.bool (ltB x6 0)) := q6
          have e25 : sl a 25 = .bool ((x1 != (-1)) || (ltB x6 0)) := q7
          have e26 : sl a 26 = .bool ((x1 != (-1)) || (ltB x6 0)) := q8
          have e27 : sl a 27 = gv (!((x1 != (-1)) || (ltB x6 0))) (.pointer (some ⟨g102, 1, none⟩)) := q9
          have e28 : sl a 28 = gv (!((x1 != (-1)) || (ltB x6 0))) (.int .i64 x6) := q10
          have e29 : sl a 29 = gv (!((x1 != (-1)) || (ltB x6 0))) (.bool (ltB 9 x6)) := q11
          have e30 : sl a 30 = .bool (((x1 != (-1)) || (ltB x6 0)) || (ltB 9 x6)) := q12
          have e31 : sl a 31 = .bool (((x1 != (-1)) || (ltB x6 0)) || (ltB 9 x6)) := q13
          have e32 : sl a 32 = gv (!(((x1 != (-1)) || (ltB x6 0)) || (ltB 9 x6))) (.pointer (some ⟨g102, 2, none⟩)) := q14
          have e33 : sl a 33 = gv (!(((x1 != (-1)) || (ltB x6 0)) || (ltB 9 x6))) (.int .i64 x7) := q15
          have e34 : sl a 34 = gv (!(((x1 != (-1)) || (ltB x6 0)) || (ltB 9 x6))) (.bool (ltB x7 0)) := q16
          have e35 : sl a 35 = .bool ((((x1 != (-1)) || (ltB x6 0)) || (ltB 9 x6)) || (ltB x7 0)) := q17
          have e36 : sl a 36 = .bool ((((x1 != (-1)) || (ltB x6 0)) || (ltB 9 x6)) || (ltB x7 0)) := q18
          have e37 : sl a 37 = gv (!((((x1 != (-1)) || (ltB x6 0)) || (ltB 9 x6)) || (ltB x7 0))) (.pointer (some ⟨g102, 2, none⟩)) := q19
          have e38 : sl a 38 = gv (!((((x1 != (-1)) || (ltB x6 0)) || (ltB 9 x6)) || (ltB x7 0))) (.int .i64 x7) := q20
          have e39 : sl a 39 = gv (!((((x1 != (-1)) || (ltB x6 0)) || (ltB 9 x6)) || (ltB x7 0))) (.pointer (some ⟨g101, 0, none⟩)) := q21
          have e40 : sl a 40 = gv (!((((x1 != (-1)) || (ltB x6 0)) || (ltB 9 x6)) || (ltB x7 0))) (.slice A0 x0.length c0) := q22
          have e41 : sl a 41 = gv (!((((x1 != (-1)) || (ltB x6 0)) || (ltB 9 x6)) || (ltB x7 0))) (.int .i64 (x0.length : Int)) := q23
          have e42 : sl a 42 = gv (!((((x1 != (-1)) || (ltB x6 0)) || (ltB 9 x6)) || (ltB x7 0))) (.bool (leB (x0.length : Int) x7)) := q24
          have e43 : sl a 43 = .bool (((((x1 != (-1)) || (ltB x6 0)) || (ltB 9 x6)) || (ltB x7 0)) || (leB (x0.length : Int) x7)) := q25
          have e44 : sl a 44 = .bool (((((x1 != (-1)) || (ltB x6 0)) || (ltB 9 x6)) || (ltB x7 0)) || (leB (x0.length : Int) x7)) := q26
          have e45 : sl a 45 = gv (!(((((x1 != (-1)) || (ltB x6 0)) || (ltB 9 x6)) || (ltB x7 0)) || (leB (x0.length : Int) x7))) (.pointer (some ⟨g101, 0, none⟩)) := q27
          have e46 : sl a 46 = gv (!(((((x1 != (-1)) || (ltB x6 0)) || (ltB 9 x6)) || (ltB x7 0)) || (leB (x0.length : Int) x7))) (.slice A0 x0.length c0) := q28
          have e47 : sl a 47 = gv (!(((((x1 != (-1)) || (ltB x6 0)) || (ltB 9 x6)) || (ltB x7 0)) || (leB (x0.length : Int) x7))) (.pointer (some ⟨g102, 2, none⟩)) := q29
          have e48 : sl a 48 = gv (!(((((x1 != (-1)) || (ltB x6 0)) || (ltB 9 x6)) || (ltB x7 0)) || (leB (x0.length : Int) x7))) (.int .i64 x7) := q30
          have e49 : sl a 49 = gv (!(((((x1 != (-1)) || (ltB x6 0)) || (ltB 9 x6)) || (ltB x7 0)) || (leB (x0.length : Int) x7))) (.pointer (some ⟨adB A0, adO A0 + x7.toNat * 1, none⟩)) := q31
          have e50 : sl a 50 = gv (!(((((x1 != (-1)) || (ltB x6 0)) || (ltB 9 x6)) || (ltB x7 0)) || (leB (x0.length : Int) x7))) (.bool (x0.getD x7.toNat false)) := q32
          have e51 : sl a 51 = gv (!(((((x1 != (-1)) || (ltB x6 0)) || (ltB 9 x6)) || (ltB x7 0)) || (leB (x0.length : Int) x7))) (.pointer (some ⟨g102, 3, none⟩)) := q33
          have e52 : sl a 52 = gv (!(((((x1 != (-1)) || (ltB x6 0)) || (ltB 9 x6)) || (ltB x7 0)) || (leB (x0.length : Int) x7))) (.bool x8) := q34
          have e53 : sl a 53 = gv (!(((((x1 != (-1)) || (ltB x6 0)) || (ltB 9 x6)) || (ltB x7 0)) || (leB (x0.length : Int) x7))) (.bool ((x0.getD x7.toNat false) == x8)) := q35
          have e54 : sl a 54 = .bool ((((((x1 != (-1)) || (ltB x6 0)) || (ltB 9 x6)) || (ltB x7 0)) || (leB (x0.length : Int) x7)) || ((x0.getD x7.toNat false) == x8)) := q36
          replace S : St w u [.box g110 28 #[.slice B107 p106.1.length d109, .int .i64 p106.2.1, .int .i64 p106.2.2.1, .bool p106.2.2.2.1, .int .i64 p106.2.2.2.2], .row 4 1 (.slice B107 p106.1.length d109) p106.1.length (p106.1.flatMap eB), .box g103 28 #[.slice none 0 0, .int .i64 0, .int .i64 0, .bool false, .int .i64 0], .box g102 32 #[.int .i64 x5, .int .i64 x6, .int .i64 x7, .bool x8], .box g101 28 #[.slice A0 x0.length c0, .int .i64 x1, .int .i64 x2, .bool x3, .int .i64 x4]] := S
          clear q0 q1 q2 q3 q4 q5 q6 q7 q8 q9 q10 q11 q12 q13 q14 q15 q16 q17 q18 q19 q20 q21 q22 q23 q24 q25 q26 q27 q28 q29 q30 q31 q32 q33 q34 q35 q36
          have hF := hF.region hB [(18, .pointer (some ⟨g101, 1, none⟩)), (19, .int .i64 x1), (20, .bool (x1 != (-1))), (21, .bool (x1 != (-1))), (22, gv (!(x1 != (-1))) (.pointer (some ⟨g102, 1, none⟩))), (23, gv (!(x1 != (-1))) (.int .i64 x6)), (24, gv (!(x1 != (-1))) (.bool (ltB x6 0))), (25, .bool ((x1 != (-1)) || (ltB x6 0))), (26, .bool ((x1 != (-1)) || (ltB x6 0))), (27, gv (!((x1 != (-1)) || (ltB x6 0))) (.pointer (some ⟨g102, 1, none⟩))), (28, gv (!((x1 != (-1)) || (ltB x6 0))) (.int .i64 x6)), (29, gv (!((x1 != (-1)) || (ltB x6 0))) (.bool (ltB 9 x6))), (30, .bool (((x1 != (-1)) || (ltB x6 0)) || (ltB 9 x6))), (31, .bool (((x1 != (-1)) || (ltB x6 0)) || (ltB 9 x6))), (32, gv (!(((x1 != (-1)) || (ltB x6 0)) || (ltB 9 x6))) (.pointer (some ⟨g102, 2, none⟩))), (33, gv (!(((x1 != (-1)) || (ltB x6 0)) || (ltB 9 x6))) (.int .i64 x7)), (34, gv (!(((x1 != (-1)) || (ltB x6 0)) || (ltB 9 x6))) (.bool (ltB x7 0))), (35, .bool ((((x1 != (-1)) || (ltB x6 0)) || (ltB 9 x6)) || (ltB x7 0))), (36, .bool ((((x1 != (-1)) || (ltB x6 0)) || (ltB 9 x6)) || (ltB x7 0))), (37, gv (!((((x1 != (-1)) || (ltB x6 0)) || (ltB 9 x6)) || (ltB x7 0))) (.pointer (some ⟨g102, 2, none⟩))), (38, gv (!((((x1 != (-1)) || (ltB x6 0)) || (ltB 9 x6)) || (ltB x7 0))) (.int .i64 x7)), (39, gv (!((((x1 != (-1)) || (ltB x6 0)) || (ltB 9 x6)) || (ltB x7 0))) (.pointer (some ⟨g101, 0, none⟩))), (40, gv (!((((x1 != (-1)) || (ltB x6 0)) || (ltB 9 x6)) || (ltB x7 0))) (.slice A0 x0.length c0)), (41, gv (!((((x1 != (-1)) || (ltB x6 0)) || (ltB 9 x6)) || (ltB x7 0))) (.int .i64 (x0.length : Int))), (42, gv (!((((x1 != (-1)) || (ltB x6 0)) || (ltB 9 x6)) || (ltB x7 0))) (.bool (leB (x0.length : Int) x7))), (43, .bool (((((x1 != (-1)) || (ltB x6 0)) || (ltB 9 x6)) || (ltB x7 0)) || (leB (x0.length : Int) x7))), (44, .bool (((((x1 != (-1)) || (ltB x6 0)) || (ltB 9 x6)) || (ltB x7 0)) || (leB (x0.length : Int) x7))), (45, gv (!(((((x1 != (-1)) || (ltB x6 0)) || (ltB 9 x6)) || (ltB x7 0)) || (leB (x0.length : Int) x7))) (.pointer (some ⟨g101, 0, none⟩))), (46, gv (!(((((x1 != (-1)) || (ltB x6 0)) || (ltB 9 x6)) || (ltB x7 0)) || (leB (x0.length : Int) x7))) (.slice A0 x0.length c0)), (47, gv (!(((((x1 != (-1)) || (ltB x6 0)) || (ltB 9 x6)) || (ltB x7 0)) || (leB (x0.length : Int) x7))) (.pointer (some ⟨g102, 2, none⟩))), (48, gv (!(((((x1 != (-1)) || (ltB x6 0)) || (ltB 9 x6)) || (ltB x7 0)) || (leB (x0.length : Int) x7))) (.int .i64 x7)), (49, gv (!(((((x1 != (-1)) || (ltB x6 0)) || (ltB 9 x6)) || (ltB x7 0)) || (leB (x0.length : Int) x7))) (.pointer (some ⟨adB A0, adO A0 + x7.toNat * 1, none⟩))), (50, gv (!(((((x1 != (-1)) || (ltB x6 0)) || (ltB 9 x6)) || (ltB x7 0)) || (leB (x0.length : Int) x7))) (.bool (x0.getD x7.toNat false))), (51, gv (!(((((x1 != (-1)) || (ltB x6 0)) || (ltB 9 x6)) || (ltB x7 0)) || (leB (x0.length : Int) x7))) (.pointer (some ⟨g102, 3, none⟩))), (52, gv (!(((((x1 != (-1)) || (ltB x6 0)) || (ltB 9 x6)) || (ltB x7 0)) || (leB (x0.length : Int) x7))) (.bool x8)), (53, gv (!(((((x1 != (-1)) || (ltB x6 0)) || (ltB 9 x6)) || (ltB x7 0)) || (leB (x0.length : Int) x7))) (.bool ((x0.getD x7.toNat false) == x8))), (54, .bool ((((((x1 != (-1)) || (ltB x6 0)) || (ltB 9 x6)) || (ltB x7 0)) || (leB (x0.length : Int) x7)) || ((x0.getD x7.toNat false) == x8)))] (allSl_mem ⟨e18, e19, e20, e21, e22, e23, e24, e25, e26, e27, e28, e29, e30, e31, e32, e33, e34, e35, e36, e37, e38, e39, e40, e41, e42, e43, e44, e45, e46, e47, e48, e49, e50, e51, e52, e53, e54, trivial⟩) rfl
          clear hB e18 e19 e20 e21 e22 e23 e24 e25 e26 e27 e28 e29 e30 e31 e32 e33 e34 e35 e36 e37 e38 e39 e40 e41 e42 e43 e44 e45 e46 e47 e48 e49 e50 e51 e52 e53 e54
          cases hc158 : ((((((x1 != (-1)) || (ltB x6 0)) || (ltB 9 x6)) || (ltB x7 0)) || (leB (x0.length : Int) x7)) || ((x0.getD x7.toNat false) == x8))
          · replace hM115 := bif_f hc158 hM115
            refine cond_f hF rfl hc158 ?_
            refine wp_skip ?_
            refine region_gw (D := [56, 57, 58, 59, 60, 61, 62, 63, 64, 65]) (Lr := [.row 4 1 (.slice B107 p106.1.length d109) p106.1.length (p106.1.flatMap eB), .box g103 28 #[.slice none 0 0, .int .i64 0, .int .i64 0, .bool false, .int .i64 0], .box g102 32 #[.int .i64 x5, .int .i64 x6, .int .i64 x7, .bool x8], .box g101 28 #[.slice A0 x0.length c0, .int .i64 x1, .int .i64 x2, .bool x3, .int .i64 x4]]) (deps := (fun | 0 => [56] | 1 => [57] | 2 => [58] | 3 => [59] | 4 => [60] | 5 => [61] | 6 => [62] | 7 => [62] | 8 => [63] | 9 => [63] | 10 => [64] | 11 => [64] | 12 => [65] | 13 => [65] | _ => [])) (rd := (fun _ => [])) (zr := (fun _ => []))
              (φ := fun i vs => match i, vs with | 0, [v56] => v56 = .pointer (some ⟨g102, 1, none⟩) | 1, [v57] => v57 = .int .i64 x6 | 2, [v58] => v58 = .pointer (some ⟨g102, 2, none⟩) | 3, [v59] => v59 = .int .i64 x7 | 4, [v60] => v60 = .pointer (some ⟨g102, 3, none⟩) | 5, [v61] => v61 = .bool x8 | 6, [v62] => v62 = .pointer (some ⟨g110, 1, none⟩) | 8, [v63] => v63 = .pointer (some ⟨g110, 2, none⟩) | 10, [v64] => v64 = .pointer (some ⟨g110, 3, none⟩) | 12, [v65] => v65 = .pointer (some ⟨g110, 4, none⟩) | _, _ => True)
              (C := fun i vs => match i, vs with | 7, [v62] => [.box g110 28 #[.slice B107 p106.1.length d109, .int .i64 x6, .int .i64 p106.2.2.1, .bool p106.2.2.2.1, .int .i64 p106.2.2.2.2]] | 9, [v63] => [.box g110 28 #[.slice B107 p106.1.length d109, .int .i64 x6, .int .i64 x7, .bool p106.2.2.2.1, .int .i64 p106.2.2.2.2]] | 11, [v64] => [.box g110 28 #[.slice B107 p106.1.length d109, .int .i64 x6, .int .i64 x7, .bool x8, .int .i64 p106.2.2.2.2]] | 13, [v65] => [.box g110 28 #[.slice B107 p106.1.length d109, .int .i64 x6, .int .i64 x7, .bool x8, .int .i64 3]] | _, _ => [])
              (κ := (fun | 7 => some 9 | 9 => some 11 | 11 => some 13 | _ => none)) (Z := (fun | 7 => [.box g110 28 #[.slice B107 p106.1.length d109, .int .i64 p106.2.1, .int .i64 p106.2.2.1, .bool p106.2.2.2.1, .int .i64 p106.2.2.2.2]] | _ => [])) mixed hF (by kernel_rfl) (show St w _ [.box g110 28 #[.slice B107 p106.1.length d109, .int .i64 p106.2.1, .int .i64 p106.2.2.1, .bool p106.2.2.2.1, .int .i64 p106.2.2.2.2], .row 4 1 (.slice B107 p106.1.length d109) p106.1.length (p106.1.flatMap eB), .box g103 28 #[.slice none 0 0, .int .i64 0, .int .i64 0, .bool false, .int .i64 0], .box g102 32 #[.int .i64 x5, .int .i64 x6, .int .i64 x7, .bool x8], .box g101 28 #[.slice A0 x0.length c0, .int .i64 x1, .int .i64 x2, .bool x3, .int .i64 x4]] from S.sel [0, 1, 2, 3, 4] rfl rfl) ?_ ?_
            · refine ⟨?_, ?_, ?_, ?_, ?_, ?_, ?_, ?_, ?_, ?_, ?_, ?_, ?_, ?_, trivial⟩
              · intro a u X hB hu hp hr hz hl S
                replace S : St w u ([] ++ X) := S
                exact .inl ⟨rfl, .pointer (some ⟨g102, 1, none⟩), u, (run_fieldAddr rfl fl32_1 (hF.evB hB rfl rfl) rfl), rfl, S⟩
              · intro a u X hB hu hp hr hz hl S
                replace S : St w u ([] ++ X) := S
                have e56 : sl a 56 = .pointer (some ⟨g102, 1, none⟩) := hp 0 rfl
                exact .inl ⟨rfl, .int .i64 x6, u, (run_load1 rfl one3 (ev_sl e56) ((gr_box S hl 2 rfl).cell rfl)), rfl, S⟩
              · intro a u X hB hu hp hr hz hl S
                replace S : St w u ([] ++ X) := S
                exact .inl ⟨rfl, .pointer (some ⟨g102, 2, none⟩), u, (run_fieldAddr rfl fl32_2 (hF.evB hB rfl rfl) rfl), rfl, S⟩
              · intro a u X hB hu hp hr hz hl S
                replace S : St w u ([] ++ X) := S
                have e58 : sl a 58 = .pointer (some ⟨g102, 2, none⟩) := hp 2 rfl
                exact .inl ⟨rfl, .int .i64 x7, u, (run_load1 rfl one3 (ev_sl e58) ((gr_box S hl 2 rfl).cell rfl)), rfl, S⟩
              · intro a u X hB hu hp hr hz hl S
                replace S : St w u ([] ++ X) := S
                exact .inl ⟨rfl, .pointer (some ⟨g102, 3, none⟩), u, (run_fieldAddr rfl fl32_3 (hF.evB hB rfl rfl) rfl), rfl, S⟩
              · intro a u X hB hu hp hr hz hl S
                replace S : St w u ([] ++ X) := S
                have e60 : sl a 60 = .pointer (some ⟨g102, 3, none⟩) := hp 4 rfl
                exact .inl ⟨rfl, .bool x8, u, (run_load1 rfl one4 (ev_sl e60) ((gr_box S hl 2 rfl).cell rfl)), rfl, S⟩
              · intro a u X hB hu hp hr hz hl S
                replace S : St w u ([] ++ X) := S
                exact .inl ⟨rfl, .pointer (some ⟨g110, 1, none⟩), u, (run_fieldAddr rfl fl28_1 (hF.evB hB rfl rfl) rfl), rfl, S⟩
              · intro a u X hB hu hp hr hz hl S
                replace S : St w u ([.box g110 28 #[.slice B107 p106.1.length d109, .int .i64 p106.2.1, .int .i64 p106.2.2.1, .bool p106.2.2.2.1, .int .i64 p106.2.2.2.2]] ++ X) := S
                have e57 : sl a 57 = .int .i64 x6 := hp 1 rfl
                have e62 : sl a 62 = .pointer (some ⟨g110, 1, none⟩) := hp 6 rfl
                exact .inr (.inl ⟨rfl, _, run_store (cs' := #[.slice B107 p106.1.length d109, .int .i64 x6, .int .i64 p106.2.2.1, .bool p106.2.2.2.1, .int .i64 p106.2.2.2.2]) rfl sz3 (ev_sl e62) (ev_sl e57) rfl rfl rfl (S.free 0 rfl) rfl rfl, trivial, S.put 0 rfl (#[.slice B107 p106.1.length d109, .int .i64 x6, .int .i64 p106.2.2.1, .bool p106.2.2.2.1, .int .i64 p106.2.2.2.2])⟩)
              · intro a u X hB hu hp hr hz hl S
                replace S : St w u ([] ++ X) := S
                exact .inl ⟨rfl, .pointer (some ⟨g110, 2, none⟩), u, (run_fieldAddr rfl fl28_2 (hF.evB hB rfl rfl) rfl), rfl, S⟩
              · intro a u X hB hu hp hr hz hl S
                replace S : St w u ([.box g110 28 #[.slice B107 p106.1.length d109, .int .i64 x6, .int .i64 p106.2.2.1, .bool p106.2.2.2.1, .int .i64 p106.2.2.2.2]] ++ X) := S
                have e59 : sl a 59 = .int .i64 x7 := hp 3 rfl
                have e63 : sl a 63 = .pointer (some ⟨g110, 2, none⟩) := hp 8 rfl
                exact .inr (.inl ⟨rfl, _, run_store (cs' := #[.slice B107 p106.1.length d109, .int .i64 x6, .int .i64 x7, .bool p106.2.2.2.1, .int .i64 p106.2.2.2.2]) rfl sz3 (ev_sl e63) (ev_sl e59) rfl rfl rfl (S.free 0 rfl) rfl rfl, trivial, S.put 0 rfl (#[.slice B107 p106.1.length d109, .int .i64 x6, .int .i64 x7, .bool p106.2.2.2.1, .int .i64 p106.2.2.2.2])⟩)
              · intro a u X hB hu hp hr hz hl S
                replace S : St w u ([] ++ X) := S
                exact .inl ⟨rfl, .pointer (some ⟨g110, 3, none⟩), u, (run_fieldAddr rfl fl28_3 (hF.evB hB rfl rfl) rfl), rfl, S⟩
              · intro a u X hB hu hp hr hz hl S
                replace S : St w u ([.box g110 28 #[.slice B107 p106.1.length d109, .int .i64 x6, .int .i64 x7, .bool p106.2.2.2.1, .int .i64 p106.2.2.2.2]] ++ X) := S
                have e61 : sl a 61 = .bool x8 := hp 5 rfl
                have e64 : sl a 64 = .pointer (some ⟨g110, 3, none⟩) := hp 10 rfl
                exact .inr (.inl ⟨rfl, _, run_store (cs' := #[.slice B107 p106.1.length d109, .int .i64 x6, .int .i64 x7, .bool x8, .int .i64 p106.2.2.2.2]) rfl sz4 (ev_sl e64) (ev_sl e61) rfl rfl rfl (S.free 0 rfl) rfl rfl, trivial, S.put 0 rfl (#[.slice B107 p106.1.length d109, .int .i64 x6, .int .i64 x7, .bool x8, .int .i64 p106.2.2.2.2])⟩)
              · intro a u X hB hu hp hr hz hl S
                replace S : St w u ([] ++ X) := S
                exact .inl ⟨rfl, .pointer (some ⟨g110, 4, none⟩), u, (run_fieldAddr rfl fl28_4 (hF.evB hB rfl rfl) rfl), rfl, S⟩
              · intro a u X hB hu hp hr hz hl S
                replace S : St w u ([.box g110 28 #[.slice B107 p106.1.length d109, .int .i64 x6, .int .i64 x7, .bool x8, .int .i64 p106.2.2.2.2]] ++ X) := S
                have e65 : sl a 65 = .pointer (some ⟨g110, 4, none⟩) := hp 12 rfl
                exact .inr (.inl ⟨rfl, _, run_store (cs' := #[.slice B107 p106.1.length d109, .int .i64 x6, .int .i64 x7, .bool x8, .int .i64 3]) rfl sz3 (ev_sl e65) (ev_const _ _) rfl rfl rfl (S.free 0 rfl) rfl rfl, trivial, S.put 0 rfl (#[.slice B107 p106.1.length d109, .int .i64 x6, .int .i64 x7, .bool x8, .int .i64 3])⟩)
            · intro a u hB hp S
              obtain ⟨q0, q1, q2, q3, q4, q5, q6, q7, q8, q9, q10, q11, q12, q13, _⟩ := hp
              have e56 : sl a 56 = .pointer (some ⟨g102, 1, none⟩) := q0
              have e57 : sl a 57 = .int .i64 x6 := q1
              have e58 : sl a 58 = .pointer (some ⟨g102, 2, none⟩) := q2
              have e59 : sl a 59 = .int .i64 x7 := q3
              have e60 : sl a 60 = .pointer (some ⟨g102, 3, none⟩) := q4
              have e61 : sl a 61 = .bool x8 := q5
              have e62 : sl a 62 = .pointer (some ⟨g110, 1, none⟩) := q6
              have e63 : sl a 63 = .pointer (some ⟨g110, 2, none⟩) := q8
              have e64 : sl a 64 = .pointer (some ⟨g110, 3, none⟩) := q10
              have e65 : sl a 65 = .pointer (some ⟨g110, 4, none⟩) := q12
              replace S : St w u [.box g110 28 #[.slice B107 p106.1.length d109, .int .i64 x6, .int .i64 x7, .bool x8, .int .i64 3], .row 4 1 (.slice B107 p106.1.length d109) p106.1.length (p106.1.flatMap eB), .box g103 28 #[.slice none 0 0, .int .i64 0, .int .i64 0, .bool false, .int .i64 0], .box g102 32 #[.int .i64 x5, .int .i64 x6, .int .i64 x7, .bool x8], .box g101 28 #[.slice A0 x0.length c0, .int .i64 x1, .int .i64 x2, .bool x3, .int .i64 x4]] := S
              clear q0 q1 q2 q3 q4 q5 q6 q7 q8 q9 q10 q11 q12 q13
              have hF := hF.region hB [(56, .pointer (some ⟨g102, 1, none⟩)), (57, .int .i64 x6), (58, .pointer (some ⟨g102, 2, none⟩)), (59, .int .i64 x7), (60, .pointer (some ⟨g102, 3, none⟩)), (61, .bool x8), (62, .pointer (some ⟨g110, 1, none⟩)), (63, .pointer (some ⟨g110, 2, none⟩)), (64, .pointer (some ⟨g110, 3, none⟩)), (65, .pointer (some ⟨g110, 4, none⟩))] (allSl_mem ⟨e56, e57, e58, e59, e60, e61, e62, e63, e64, e65, trivial⟩) rfl
              clear hB e56 e57 e58 e59 e60 e61 e62 e63 e64 e65
              obtain rfl := Option.some.inj hM115
              exact ⟨(p106.1, x6, x7, x8, 3), B107, d109, rfl, hF.keep _ ⟨rfl, rfl, rfl, trivial⟩, S.sel [0, 2, 3, 4, 1] rfl rfl⟩
          · replace hM115 := bif_t hc158 hM115
            refine cond_t hF rfl hc158 ?_
            refine wp_seq ?_
            refine wp_region_lit ?_
            refine op_val (v := .agg #[.slice B107 p106.1.length d109, .int .i64 p106.2.1, .int .i64 p106.2.2.1, .bool p106.2.2.2.1, .int .i64 p106.2.2.2.2]) rfl rfl hF rfl (run_loadN rfl ag28 (hF.ev rfl) rfl ((S.free 0 rfl).cells 0 #[.slice B107 p106.1.length d109, .int .i64 p106.2.1, .int .i64 p106.2.2.1, .bool p106.2.2.2.1, .int .i64 p106.2.2.2.2] rfl)) ?_; clear hF; intro a hF
            refine op_do rfl rfl (run_store (cs' := #[.slice B107 p106.1.length d109, .int .i64 p106.2.1, .int .i64 p106.2.2.1, .bool p106.2.2.2.1, .int .i64 p106.2.2.2.2]) rfl sz28 (hF.ev rfl) (hF.ev rfl) rfl rfl rfl (S.free 2 rfl) rfl rfl) ?_; replace S := S.put 2 rfl (#[.slice B107 p106.1.length d109, .int .i64 p106.2.1, .int .i64 p106.2.2.1, .bool p106.2.2.2.1, .int .i64 p106.2.2.2.2])
            generalize World.setRow _ _ _ = u at S ⊢
            refine op_val (v := .bool false) rfl rfl hF rfl (run_assign rfl rfl) ?_; clear hF; intro a hF
            refine wpList_nil ?_
            refine wp_ret ?_
            repeat with_reducible (first | refine then_ret ?_ | refine in_ret ?_ | refine in_nrm ?_)
            refine ret2_gw (.inl rfl) hF rfl (res_cell (hF.ev rfl) (res_loadN ag28 rfl (S.cells 2 rfl 0 #[.slice B107 p106.1.length d109, .int .i64 p106.2.1, .int .i64 p106.2.2.1, .bool p106.2.2.2.1, .int .i64 p106.2.2.2.2] rfl))) (res_tmp (hF.ev rfl)) ?_
            obtain rfl := Option.some.inj hM115
            obtain rfl := Option.some.inj hM
            exact ⟨B107, p106.1.length, d109, rfl, rfl, S.sel [1] rfl rfl⟩
    · rintro a u ⟨p111, B113, d114, rfl, hF, S⟩
      replace hM := elim_l hM
      refine wp_seq ?_
      refine wp_region_lit ?_
      refine op_val (v := .agg #[.slice B113 p111.1.length d114, .int .i64 p111.2.1, .int .i64 p111.2.2.1, .bool p111.2.2.2.1, .int .i64 p111.2.2.2.2]) rfl rfl hF rfl (run_loadN rfl ag28 (hF.ev rfl) rfl ((S.free 0 rfl).cells 0 #[.slice B113 p111.1.length d114, .int .i64 p111.2.1, .int .i64 p111.2.2.1, .bool p111.2.2.2.1, .int .i64 p111.2.2.2.2] rfl)) ?_; clear hF; intro a hF
      refine op_do rfl rfl (run_store (cs' := #[.slice B113 p111.1.length d114, .int .i64 p111.2.1, .int .i64 p111.2.2.1, .bool p111.2.2.2.1, .int .i64 p111.2.2.2.2]) rfl sz28 (hF.ev rfl) (hF.ev rfl) rfl rfl rfl (S.free 1 rfl) rfl rfl) ?_; replace S := S.put 1 rfl (#[.slice B113 p111.1.length d114, .int .i64 p111.2.1, .int .i64 p111.2.2.1, .bool p111.2.2.2.1, .int .i64 p111.2.2.2.2])
      generalize World.setRow _ _ _ = u at S ⊢
      refine op_val (v := .bool true) rfl rfl hF rfl (run_assign rfl rfl) ?_; clear hF; intro a hF
      refine wpList_nil ?_
      refine wp_ret ?_
      repeat with_reducible (first | refine then_ret ?_ | refine in_ret ?_ | refine in_nrm ?_)
      refine ret2_gw (.inl rfl) hF rfl (res_cell (hF.ev rfl) (res_loadN ag28 rfl (S.cells 1 rfl 0 #[.slice B113 p111.1.length d114, .int .i64 p111.2.1, .int .i64 p111.2.2.1, .bool p111.2.2.2.1, .int .i64 p111.2.2.2.2] rfl))) (res_tmp (hF.ev rfl)) ?_
      obtain rfl := Option.some.inj hM
      exact ⟨B113, p111.1.length, d114, rfl, rfl, S.sel [4] rfl rfl⟩

set_option maxHeartbeats 4000000 in
theorem c_laws_eqBoolS {x0 : List Bool} {x1 : List Bool} {A0 : Option Addr} {n0 c0 : Nat} {A1 : Option Addr} {n1 c1 : Nat} {w : World} {r : Bool} (h0 : Rt w 1 eB A0 n0 c0 x0) (h1 : Rt w 1 eB A1 n1 c1 x1) (hM : m_laws_eqBoolS x0 x1 = some r) :
    Calls Try.prog 18 #[.slice A0 n0 c0, .slice A1 n1 c1] w (fun e w' => e = .returned (.bool r) ∧ St w w' []) := by
  obtain rfl := h0.len
  obtain rfl := h1.len
  unfold m_laws_eqBoolS at hM
  refine calls_gw Try.func18 Try.ntmps18 rfl [(0, .slice A0 x0.length c0), (1, .slice A1 x1.length c1)] ⟨rfl, rfl, trivial⟩ rfl ?_
  intro a hF
  have S := St.nil w
  refine wp_seq ?_
  refine wp_region_lit ?_
  refine op_val (v := .bool false) rfl rfl hF rfl (run_assign rfl rfl) ?_; clear hF; intro a hF
  refine wpList_nil ?_
  refine wp_seq ?_
  refine wp_seq ?_
  refine wp_region_lit ?_
  refine op_val (v := .slice A0 x0.length c0) rfl rfl hF rfl (run_move rfl (hF.ev rfl)) ?_; clear hF; intro a hF
  refine op_val (v := .int .i64 (x0.length : Int)) rfl rfl hF rfl (run_lenL rfl rfl Try.underlying22 (hF.ev rfl)) ?_; clear hF; intro a hF
  refine op_val (v := .slice A1 x1.length c1) rfl rfl hF rfl (run_move rfl (hF.ev rfl)) ?_; clear hF; intro a hF
  refine op_val (v := .int .i64 (x1.length : Int)) rfl rfl hF rfl (run_lenL rfl rfl Try.underlying22 (hF.ev rfl)) ?_; clear hF; intro a hF
  refine op_val (v := .bool ((x0.length : Int) != (x1.length : Int))) rfl rfl hF rfl (run_neq (hF.ev rfl) (hF.ev rfl) rfl) ?_; clear hF; intro a hF
  refine wpList_nil ?_
  cases hc101 : ((x0.length : Int) != (x1.length : Int))
  · replace hM := bif_f hc101 hM
    refine cond_f hF rfl hc101 ?_
    refine wp_skip ?_
    refine wp_seq ?_
    refine wp_seq ?_
    refine wp_region_lit ?_
    refine op_val (v := .int .i64 0) rfl rfl hF rfl (run_assign rfl rfl) ?_; clear hF; intro a hF
    refine wpList_nil ?_
    obtain ⟨o103, hM104, hM⟩ := bind_ex hM
    refine wp_cut (fun a u => ∃ (p102 : Unit), (Sum.inl p102) = o103 ∧ Fr a 26 [(4, .bool false)] ∧ St w u []) ?_ ?_
    · have _ := trivial
      refine wp_block ?_
      refine loop_gw (fun m a u => ∃ (p105 : Int), m_laws_eqBoolS_l1 x0 x1 m p105 = some _ ∧ Fr a 26 [(0, .slice A0 x0.length c0), (1, .slice A1 x1.length c1), (4, .bool false), (5, .int .i64 p105)] ∧ St w u []) FUEL ⟨0, hM104, hF.keep _ ⟨rfl, rfl, rfl, rfl, trivial⟩, S.sel [] rfl rfl⟩ ?_
      clear hF S hM104; rintro m a u ⟨p105, hM104, hF, S⟩
      rcases m with _ | f1
      · exact none_some hM104
      rw [m_laws_eqBoolS_l1.eq_2] at hM104
      refine wp_seq ?_
      refine wp_seq ?_
      refine wp_region_lit ?_
      refine op_val (v := .int .i64 p105) rfl rfl hF rfl (run_move rfl (hF.ev rfl)) ?_; clear hF; intro a hF
      refine op_val (v := .slice A0 x0.length c0) rfl rfl hF rfl (run_move rfl (hF.ev rfl)) ?_; clear hF; intro a hF
      refine op_val (v := .int .i64 (x0.length : Int)) rfl rfl hF rfl (run_lenL rfl rfl Try.underlying22 (hF.ev rfl)) ?_; clear hF; intro a hF
      refine op_val (v := .bool (ltB p105 (x0.length : Int))) rfl rfl hF rfl (run_lss (hF.ev rfl) (hF.ev rfl) rfl) ?_; clear hF; intro a hF
      refine wpList_nil ?_
      cases hc106 : (ltB p105 (x0.length : Int))
      · replace hM104 := bif_f hc106 hM104
        refine cond_f hF rfl hc106 ?_
        refine wp_exit ?_
        repeat with_reducible (first | refine then_exit ?_ | refine in_hit ?_ | refine in_miss rfl ?_)
        obtain rfl := Option.some.inj hM104
        exact ⟨(), rfl, hF.keep _ ⟨rfl, trivial⟩, S.sel [] rfl rfl⟩
      · replace hM104 := bif_t hc106 hM104
        refine cond_t hF rfl hc106 ?_
        refine wp_skip ?_
        refine wp_seq ?_
        refine wp_block ?_
        refine wp_seq ?_
        obtain ⟨hk107, hM104⟩ := chk_ex hM104
        replace hk107 := ixB_t hk107
        obtain ⟨hk108, hM104⟩ := chk_ex hM104
        replace hk108 := ixB_t hk108
        refine region_gw (D := [17, 18, 19, 20, 21, 22, 23, 24, 25]) (Lr := []) (deps := (fun | 0 => [17] | 1 => [18] | 2 => [19] | 3 => [20] | 4 => [21] | 5 => [22] | 6 => [23] | 7 => [24] | 8 => [25] | _ => [])) (rd := (fun _ => [])) (zr := (fun _ => []))
          (φ := fun i vs => match i, vs with | 0, [v17] => v17 = .slice A0 x0.length c0 | 1, [v18] => v18 = .int .i64 p105 | 2, [v19] => v19 = .pointer (some ⟨adB A0, adO A0 + p105.toNat * 1, none⟩) | 3, [v20] => v20 = .bool (x0.getD p105.toNat false) | 4, [v21] => v21 = .slice A1 x1.length c1 | 5, [v22] => v22 = .int .i64 p105 | 6, [v23] => v23 = .pointer (some ⟨adB A1, adO A1 + p105.toNat * 1, none⟩) | 7, [v24] => v24 = .bool (x1.getD p105.toNat false) | 8, [v25] => v25 = .bool ((x0.getD p105.toNat false) != (x1.getD p105.toNat false)) | _, _ => True)
          (C := fun _ _ => [])
          (κ := (fun _ => none)) (Z := (fun _ => [])) mixed hF (by kernel_rfl) S ?_ ?_
        · refine ⟨?_, ?_, ?_, ?_, ?_, ?_, ?_, ?_, ?_, trivial⟩
          · intro a u X hB hu hp hr hz hl S
            replace S : St w u ([] ++ X) := S
            exact .inl ⟨rfl, .slice A0 x0.length c0, u, (run_move rfl (hF.evB hB rfl rfl)), rfl, S⟩
          · intro a u X hB hu hp hr hz hl S
            replace S : St w u ([] ++ X) := S
            exact .inl ⟨rfl, .int .i64 p105, u, (run_move rfl (hF.evB hB rfl rfl)), rfl, S⟩
          · intro a u X hB hu hp hr hz hl S
            replace S : St w u ([] ++ X) := S
            have e17 : sl a 17 = .slice A0 x0.length c0 := hp 0 rfl
            have e18 : sl a 18 = .int .i64 p105 := hp 1 rfl
            exact .inl ⟨rfl, .pointer (some ⟨adB A0, adO A0 + p105.toNat * 1, none⟩), u, (run_indexAddr (b := adB A0) (off := adO A0) rfl Try.underlying22 sz4 ((ev_sl e17).trans (congrArg (fun A => Value.slice A x0.length c0) ((S.rc0 h0.rc).rd.ad (ix_pos hk107)))) (ev_sl e18) hk107.1 hk107.2 (k' := adO A0 + p105.toNat * 1) rfl), rfl, S⟩
          · intro a u X hB hu hp hr hz hl S
            replace S : St w u ([] ++ X) := S
            have e19 : sl a 19 = .pointer (some ⟨adB A0, adO A0 + p105.toNat * 1, none⟩) := hp 2 rfl
            exact .inl ⟨rfl, .bool (x0.getD p105.toNat false), u, (run_load1 rfl one4 (ev_sl e19) (rd_el0 (l := x0) (S.rc0 h0.rc).rd rfl eB_len false (ix_ltn hk107 rfl) rfl)), rfl, S⟩
          · intro a u X hB hu hp hr hz hl S
            replace S : St w u ([] ++ X) := S
            exact .inl ⟨rfl, .slice A1 x1.length c1, u, (run_move rfl (hF.evB hB rfl rfl)), rfl, S⟩
          · intro a u X hB hu hp hr hz hl S
            replace S : St w u ([] ++ X) := S
            exact .inl ⟨rfl, .int .i64 p105, u, (run_move rfl (hF.evB hB rfl rfl)), rfl, S⟩
          · intro a u X hB hu hp hr hz hl S
            replace S : St w u ([] ++ X) := S
            have e21 : sl a 21 = .slice A1 x1.length c1 := hp 4 rfl
            have e22 : sl a 22 = .int .i64 p105 := hp 5 rfl
            exact .inl ⟨rfl, .pointer (some ⟨adB A1, adO A1 + p105.toNat * 1, none⟩), u, (run_indexAddr (b := adB A1) (off := adO A1) rfl Try.underlying22 sz4 ((ev_sl e21).trans (congrArg (fun A => Value.slice A x1.length c1) ((S.rc0 h1.rc).rd.ad (ix_pos hk108)))) (ev_sl e22) hk108.1 hk108.2 (k' := adO A1 + p105.toNat * 1) rfl), rfl, S⟩
          · intro a u X hB hu hp hr hz hl S
            replace S : St w u ([] ++ X) := S
            have e23 : sl a 23 = .pointer (some ⟨adB A1, adO A1 + p105.toNat * 1, none⟩) := hp 6 rfl
            exact .inl ⟨rfl, .bool (x1.getD p105.toNat false), u, (run_load1 rfl one4 (ev_sl e23) (rd_el0 (l := x1) (S.rc0 h1.rc).rd rfl eB_len false (ix_ltn hk108 rfl) rfl)), rfl, S⟩
          · intro a u X hB hu hp hr hz hl S
            replace S : St w u ([] ++ X) := S
            have e20 : sl a 20 = .bool (x0.getD p105.toNat false) := hp 3 rfl
            have e24 : sl a 24 = .bool (x1.getD p105.toNat false) := hp 7 rfl
            exact .inl ⟨rfl, .bool ((x0.getD p105.toNat false) != (x1.getD p105.toNat false)), u, (run_neqB (ev_sl e20) (ev_sl e24) Try.underlying4 rfl), rfl, S⟩
        · intro a u hB hp S
          obtain ⟨q0, q1, q2, q3, q4, q5, q6, q7, q8, _⟩ := hp
          have e17 : sl a 17 = .slice A0 x0.length c0 := q0
          have e18 : sl a 18 = .int .i64 p105 := q1
          have e19 : sl a 19 = .pointer (some ⟨adB A0, adO A0 + p105.toNat * 1, none⟩) := q2
          have e20 : sl a 20 = .bool (x0.getD p105.toNat false) := q3
          have e21 : sl a 21 = .slice A1 x1.length c1 := q4
          have e22 : sl a 22 = .int .i64 p105 := q5
          have e23 : sl a 23 = .pointer (some ⟨adB A1, adO A1 + p105.toNat * 1, none⟩) := q6
          have e24 : sl a 24 = .bool (x1.getD p105.toNat false) := q7
          have e25 : sl a 25 = .bool ((x0.getD p105.toNat false) != (x1.getD p105.toNat false)) := q8
          replace S : St w u [] := S
          clear q0 q1 q2 q3 q4 q5 q6 q7 q8
          have hF := hF.region hB [(17, .slice A0 x0.length c0), (18, .int .i64 p105), (19, .pointer (some ⟨adB A0, adO A0 + p105.toNat * 1, none⟩)), (20, .bool (x0.getD p105.toNat false)), (21, .slice A1 x1.length c1), (22, .int .i64 p105), (23, .pointer (some ⟨adB A1, adO A1 + p105.toNat * 1, none⟩)), (24, .bool (x1.getD p105.toNat false)), (25, .bool ((x0.getD p105.toNat false) != (x1.getD p105.toNat false)))] (allSl_mem ⟨e17, e18, e19, e20, e21, e22, e23, e24, e25, trivial⟩) rfl
          clear hB e17 e18 e19 e20 e21 e22 e23 e24 e25
          cases hc109 : ((x0.getD p105.toNat false) != (x1.getD p105.toNat false))
          · replace hM104 := bif_f hc109 hM104
            refine cond_f hF rfl hc109 ?_
            refine wp_skip ?_
            refine wp_region_lit ?_
            refine op_val (v := .int .i64 p105) rfl rfl hF rfl (run_move rfl (hF.ev rfl)) ?_; clear hF; intro a hF
            refine op_val (v := .int .i64 (w64 (p105 + 1))) rfl rfl hF rfl (run_add (z := w64 (p105 + 1)) (hF.ev rfl) rfl rfl rfl) ?_; clear hF; intro a hF
            refine op_val (v := .int .i64 (w64 (p105 + 1))) rfl rfl hF rfl (run_assign rfl (hF.ev rfl)) ?_; clear hF; intro a hF
            refine wpList_nil ?_
            exact ⟨f1, Nat.lt_succ_self _, w64 (p105 + 1), hM104, hF.keep _ ⟨rfl, rfl, rfl, rfl, trivial⟩, S.sel [] rfl rfl⟩
          · replace hM104 := bif_t hc109 hM104
            refine cond_t hF rfl hc109 ?_
            refine wp_seq ?_
            refine wp_region_lit ?_
            refine op_val (v := .bool false) rfl rfl hF rfl (run_assign rfl rfl) ?_; clear hF; intro a hF
            refine wpList_nil ?_
            refine wp_ret ?_
            repeat with_reducible (first | refine then_ret ?_ | refine in_ret ?_ | refine in_nrm ?_)
            refine ret1_gw (.inl rfl) hF rfl (res_tmp (hF.ev rfl)) ?_
            obtain rfl := Option.some.inj hM104
            obtain rfl := Option.some.inj hM
            exact ⟨rfl, S.sel [] rfl rfl⟩
    · rintro a u ⟨p102, rfl, hF, S⟩
      replace hM := elim_l hM
      refine wp_seq ?_
      refine wp_region_lit ?_
      refine op_val (v := .bool true) rfl rfl hF rfl (run_assign rfl rfl) ?_; clear hF; intro a hF
      refine wpList_nil ?_
      refine wp_ret ?_
      repeat with_reducible (first | refine then_ret ?_ | refine in_ret ?_ | refine in_nrm ?_)
      refine ret1_gw (.inl rfl) hF rfl (res_tmp (hF.ev rfl)) ?_
      obtain rfl := Option.some.inj hM
      exact ⟨rfl, S.sel [] rfl rfl⟩
  · replace hM := bif_t hc101 hM
    refine cond_t hF rfl hc101 ?_
    refine wp_seq ?_
    refine wp_region_lit ?_
    refine op_val (v := .bool false) rfl rfl hF rfl (run_assign rfl rfl) ?_; clear hF; intro a hF
    refine wpList_nil ?_
    refine wp_ret ?_
    repeat with_reducible (first | refine then_ret ?_ | refine in_ret ?_ | refine in_nrm ?_)
    refine ret1_gw (.inl rfl) hF rfl (res_tmp (hF.ev rfl)) ?_
    obtain rfl := Option.some.inj hM
    exact ⟨rfl, S.sel [] rfl rfl⟩

set_option maxHeartbeats 4000000 in
theorem c_laws_eqPanel {x0 : List Bool} {x1 : Int} {x2 : Int} {x3 : Bool} {x4 : Int} {x5 : List Bool} {x6 : Int} {x7 : Int} {x8 : Bool} {x9 : Int} {A0 : Option Addr} {n0 c0 : Nat} {A5 : Option Addr} {n5 c5 : Nat} {w : World} {r : Bool} (h0 : Rt w 1 eB A0 n0 c0 x0) (h5 : Rt w 1 eB A5 n5 c5 x5) (hM : m_laws_eqPanel x0 x1 x2 x3 x4 x5 x6 x7 x8 x9 = some r) :
    Calls Try.prog 11 #[.agg #[.slice A0 n0 c0, .int .i64 x1, .int .i64 x2, .bool x3, .int .i64 x4], .agg #[.slice A5 n5 c5, .int .i64 x6, .int .i64 x7, .bool x8, .int .i64 x9]] w (fun e w' => e = .returned (.bool r) ∧ St w w' []) := by
  obtain rfl := h0.len
  obtain rfl := h5.len
  unfold m_laws_eqPanel at hM
  refine calls_gw Try.func11 Try.ntmps11 rfl [(0, .agg #[.slice A0 x0.length c0, .int .i64 x1, .int .i64 x2, .bool x3, .int .i64 x4]), (1, .agg #[.slice A5 x5.length c5, .int .i64 x6, .int .i64 x7, .bool x8, .int .i64 x9])] ⟨rfl, rfl, trivial⟩ rfl ?_
  intro a hF
  have S := St.nil w
  refine wp_seq ?_
  refine wp_region_lit ?_
  refine op_new (cs := #[.slice A0 x0.length c0, .int .i64 x1, .int .i64 x2, .bool x3, .int .i64 x4]) rfl rfl hF rfl S (run_box rfl (hF.ev rfl) rfl) ?_; clear hF S; intro a g101 u hF S
  refine op_new (cs := #[.slice A5 x5.length c5, .int .i64 x6, .int .i64 x7, .bool x8, .int .i64 x9]) rfl rfl hF rfl S (run_box rfl (hF.ev rfl) rfl) ?_; clear hF S; intro a g102 u hF S
  refine op_val (v := .bool false) rfl rfl hF rfl (run_assign rfl rfl) ?_; clear hF; intro a hF
  refine wpList_nil ?_
  refine wp_seq ?_
  refine wp_seq ?_
  refine wp_region_lit ?_
  refine op_val (v := .pointer (some ⟨g101, 0, none⟩)) rfl rfl hF rfl (run_fieldAddr rfl fl28_0 (hF.ev rfl) rfl) ?_; clear hF; intro a hF
  refine op_val (v := .slice A0 x0.length c0) rfl rfl hF rfl (run_load1 rfl one22 (hF.ev rfl) ((S.free 1 rfl).cell rfl)) ?_; clear hF; intro a hF
  refine op_val (v := .pointer (some ⟨g102, 0, none⟩)) rfl rfl hF rfl (run_fieldAddr rfl fl28_0 (hF.ev rfl) rfl) ?_; clear hF; intro a hF
  refine op_val (v := .slice A5 x5.length c5) rfl rfl hF rfl (run_load1 rfl one22 (hF.ev rfl) ((S.free 0 rfl).cell rfl)) ?_; clear hF; intro a hF
  obtain ⟨p103, h103, hM⟩ := bind_ex hM
  refine op_call rfl rfl hF rfl (run_call (vs := [.slice A0 x0.length c0, .slice A5 x5.length c5]) rfl rfl co18 ⟨(hF.ev rfl), (hF.ev rfl), trivial⟩) (c_laws_eqBoolS (x0 := x0) (x1 := x5) ⟨(S.rc0 h0.rc), rfl⟩ ⟨(S.rc0 h5.rc), rfl⟩ h103) ?_
  rintro e u ⟨rfl, T⟩
  refine ⟨_, rfl, ?_⟩
  clear hF; intro a hF
  replace S := S.call0 T; clear T
  refine op_val (v := .bool (!p103)) rfl rfl hF rfl (run_not rfl (hF.ev rfl)) ?_; clear hF; intro a hF
  refine wpList_nil ?_
  cases hc104 : (p103)
  · replace hM := bif_f hc104 hM
    refine cond_t hF rfl (not_t hc104) ?_
    refine wp_seq ?_
    refine wp_region_lit ?_
    refine op_val (v := .bool false) rfl rfl hF rfl (run_assign rfl rfl) ?_; clear hF; intro a hF
    refine wpList_nil ?_
    refine wp_ret ?_
    repeat with_reducible (first | refine then_ret ?_ | refine in_ret ?_ | refine in_nrm ?_)
    refine ret1_gw (.inl rfl) hF rfl (res_tmp (hF.ev rfl)) ?_
    obtain rfl := Option.some.inj hM
    exact ⟨rfl, S.sel [] rfl rfl⟩
  · replace hM := bif_t hc104 hM
    refine cond_f hF rfl (not_f hc104) ?_
    refine wp_skip ?_
    refine wp_seq ?_
    refine wp_seq ?_
    refine wp_region_lit ?_
    refine op_val (v := .pointer (some ⟨g101, 1, none⟩)) rfl rfl hF rfl (run_fieldAddr rfl fl28_1 (hF.ev rfl) rfl) ?_; clear hF; intro a hF
    refine op_val (v := .int .i64 x1) rfl rfl hF rfl (run_load1 rfl one3 (hF.ev rfl) ((S.free 1 rfl).cell rfl)) ?_; clear hF; intro a hF
    refine op_val (v := .pointer (some ⟨g102, 1, none⟩)) rfl rfl hF rfl (run_fieldAddr rfl fl28_1 (hF.ev rfl) rfl) ?_; clear hF; intro a hF
    refine op_val (v := .int .i64 x6) rfl rfl hF rfl (run_load1 rfl one3 (hF.ev rfl) ((S.free 0 rfl).cell rfl)) ?_; clear hF; intro a hF
    refine op_val (v := .bool (x1 != x6)) rfl rfl hF rfl (run_neq (hF.ev rfl) (hF.ev rfl) rfl) ?_; clear hF; intro a hF
    refine wpList_nil ?_
    cases hc105 : (x1 != x6)
    · replace hM := bif_f hc105 hM
      refine cond_f hF rfl hc105 ?_
      refine wp_skip ?_
      refine wp_seq ?_
      refine wp_seq ?_
      refine wp_region_lit ?_
      refine op_val (v := .pointer (some ⟨g101, 2, none⟩)) rfl rfl hF rfl (run_fieldAddr rfl fl28_2 (hF.ev rfl) rfl) ?_; clear hF; intro a hF
      refine op_val (v := .int .i64 x2) rfl rfl hF rfl (run_load1 rfl one3 (hF.ev rfl) ((S.free 1 rfl).cell rfl)) ?_; clear hF; intro a hF
      refine op_val (v := .pointer (some ⟨g102, 2, none⟩)) rfl rfl hF rfl (run_fieldAddr rfl fl28_2 (hF.ev rfl) rfl) ?_; clear hF; intro a hF
      refine op_val (v := .int .i64 x7) rfl rfl hF rfl (run_load1 rfl one3 (hF.ev rfl) ((S.free 0 rfl).cell rfl)) ?_; clear hF; intro a hF
      refine op_val (v := .bool (x2 != x7)) rfl rfl hF rfl (run_neq (hF.ev rfl) (hF.ev rfl) rfl) ?_; clear hF; intro a hF
      refine wpList_nil ?_
      cases hc106 : (x2 != x7)
      · replace hM := bif_f hc106 hM
        refine cond_f hF rfl hc106 ?_
        refine wp_skip ?_
        refine wp_seq ?_
        refine wp_seq ?_
        refine wp_region_lit ?_
        refine op_val (v := .pointer (some ⟨g101, 3, none⟩)) rfl rfl hF rfl (run_fieldAddr rfl fl28_3 (hF.ev rfl) rfl) ?_; clear hF; intro a hF
        refine op_val (v := .bool x3) rfl rfl hF rfl (run_load1 rfl one4 (hF.ev rfl) ((S.free 1 rfl).cell rfl)) ?_; clear hF; intro a hF
        refine op_val (v := .pointer (some ⟨g102, 3, none⟩)) rfl rfl hF rfl (run_fieldAddr rfl fl28_3 (hF.ev rfl) rfl) ?_; clear hF; intro a hF
        refine op_val (v := .bool x8) rfl rfl hF rfl (run_load1 rfl one4 (hF.ev rfl) ((S.free 0 rfl).cell rfl)) ?_; clear hF; intro a hF
        refine op_val (v := .bool (x3 != x8)) rfl rfl hF rfl (run_neqB (hF.ev rfl) (hF.ev rfl) Try.underlying4 rfl) ?_; clear hF; intro a hF
        refine wpList_nil ?_
        cases hc107 : (x3 != x8)
        · replace hM := bif_f hc107 hM
          refine cond_f hF rfl hc107 ?_
          refine wp_skip ?_
          refine wp_seq ?_
          refine wp_seq ?_
          refine wp_region_lit ?_
          refine op_val (v := .pointer (some ⟨g101, 4, none⟩)) rfl rfl hF rfl (run_fieldAddr rfl fl28_4 (hF.ev rfl) rfl) ?_; clear hF; intro a hF
          refine op_val (v := .int .i64 x4) rfl rfl hF rfl (run_load1 rfl one3 (hF.ev rfl) ((S.free 1 rfl).cell rfl)) ?_; clear hF; intro a hF
          refine op_val (v := .pointer (some ⟨g102, 4, none⟩)) rfl rfl hF rfl (run_fieldAddr rfl fl28_4 (hF.ev rfl) rfl) ?_; clear hF; intro a hF
          refine op_val (v := .int .i64 x9) rfl rfl hF rfl (run_load1 rfl one3 (hF.ev rfl) ((S.free 0 rfl).cell rfl)) ?_; clear hF; intro a hF
          refine op_val (v := .bool (x4 != x9)) rfl rfl hF rfl (run_neq (hF.ev rfl) (hF.ev rfl) rfl) ?_; clear hF; intro a hF
          refine wpList_nil ?_
          cases hc108 : (x4 != x9)
          · replace hM := bif_f hc108 hM
            refine cond_f hF rfl hc108 ?_
            refine wp_skip ?_
            refine wp_seq ?_
            refine wp_region_lit ?_
            refine op_val (v := .bool true) rfl rfl hF rfl (run_assign rfl rfl) ?_; clear hF; intro a hF
            refine wpList_nil ?_
            refine wp_ret ?_
            repeat with_reducible (first | refine then_ret ?_ | refine in_ret ?_ | refine in_nrm ?_)
            refine ret1_gw (.inl rfl) hF rfl (res_tmp (hF.ev rfl)) ?_
            obtain rfl := Option.some.inj hM
            exact ⟨rfl, S.sel [] rfl rfl⟩
          · replace hM := bif_t hc108 hM
            refine cond_t hF rfl hc108 ?_
            refine wp_seq ?_
            refine wp_region_lit ?_
            refine op_val (v := .bool false) rfl rfl hF rfl (run_assign rfl rfl) ?_; clear hF; intro a hF
            refine wpList_nil ?_
            refine wp_ret ?_
            repeat with_reducible (first | refine then_ret ?_ | refine in_ret ?_ | refine in_nrm ?_)
            refine ret1_gw (.inl rfl) hF rfl (res_tmp (hF.ev rfl)) ?_
            obtain rfl := Option.some.inj hM
            exact ⟨rfl, S.sel [] rfl rfl⟩
        · replace hM := bif_t hc107 hM
          refine cond_t hF rfl hc107 ?_
          refine wp_seq ?_
          refine wp_region_lit ?_
          refine op_val (v := .bool false) rfl rfl hF rfl (run_assign rfl rfl) ?_; clear hF; intro a hF
          refine wpList_nil ?_
          refine wp_ret ?_
          repeat with_reducible (first | refine then_ret ?_ | refine in_ret ?_ | refine in_nrm ?_)
          refine ret1_gw (.inl rfl) hF rfl (res_tmp (hF.ev rfl)) ?_
          obtain rfl := Option.some.inj hM
          exact ⟨rfl, S.sel [] rfl rfl⟩
      · replace hM := bif_t hc106 hM
        refine cond_t hF rfl hc106 ?_
        refine wp_seq ?_
        refine wp_region_lit ?_
        refine op_val (v := .bool false) rfl rfl hF rfl (run_assign rfl rfl) ?_; clear hF; intro a hF
        refine wpList_nil ?_
        refine wp_ret ?_
        repeat with_reducible (first | refine then_ret ?_ | refine in_ret ?_ | refine in_nrm ?_)
        refine ret1_gw (.inl rfl) hF rfl (res_tmp (hF.ev rfl)) ?_
        obtain rfl := Option.some.inj hM
        exact ⟨rfl, S.sel [] rfl rfl⟩
    · replace hM := bif_t hc105 hM
      refine cond_t hF rfl hc105 ?_
      refine wp_seq ?_
      refine wp_region_lit ?_
      refine op_val (v := .bool false) rfl rfl hF rfl (run_assign rfl rfl) ?_; clear hF; intro a hF
      refine wpList_nil ?_
      refine wp_ret ?_
      repeat with_reducible (first | refine then_ret ?_ | refine in_ret ?_ | refine in_nrm ?_)
      refine ret1_gw (.inl rfl) hF rfl (res_tmp (hF.ev rfl)) ?_
      obtain rfl := Option.some.inj hM
      exact ⟨rfl, S.sel [] rfl rfl⟩

set_option maxHeartbeats 4000000 in
theorem c_laws_markBoolS {x0 : List Bool} {x1 : Int} {A0 : Option Addr} {n0 c0 : Nat} {w : World} {r : Int × List Bool} {w0 : World} {X : List Asn} (h0 : n0 = x0.length) (S : St w0 w (Asn.row 4 1 (.slice A0 n0 c0) n0 (x0.flatMap eB) :: X)) (hM : m_laws_markBoolS x0 x1 = some r) :
    Calls Try.prog 21 #[.slice A0 n0 c0, .int .i64 x1] w (fun e w' => e = .returned (.int .i64 r.1) ∧ n0 = r.2.length ∧ St w0 w' (Asn.row 4 1 (.slice A0 n0 c0) n0 (r.2.flatMap eB) :: X)) := by
  obtain rfl := h0
  unfold m_laws_markBoolS at hM
  refine calls_gw Try.func21 Try.ntmps21 rfl [(0, .slice A0 x0.length c0), (1, .int .i64 x1)] ⟨rfl, rfl, trivial⟩ rfl ?_
  intro a hF
  refine wp_seq ?_
  refine wp_region_lit ?_
  refine op_val (v := .int .i64 0) rfl rfl hF rfl (run_assign rfl rfl) ?_; clear hF; intro a hF
  refine wpList_nil ?_
  refine wp_seq ?_
  refine wp_seq ?_
  refine wp_region_lit ?_
  refine op_val (v := .int .i64 0) rfl rfl hF rfl (run_assign rfl rfl) ?_; clear hF; intro a hF
  refine wpList_nil ?_
  obtain ⟨o102, hM104, hM⟩ := bind_ex hM
  refine wp_cut (fun a u => ∃ (p101 : Int × List Bool), p101 = o102 ∧ x0.length = p101.2.length ∧ Fr a 21 [(1, .int .i64 p101.1), (4, .int .i64 0)] ∧ St w0 u (Asn.row 4 1 (.slice A0 x0.length c0) x0.length (p101.2.flatMap eB) :: X)) ?_ ?_
  · have _ := trivial
    refine wp_block ?_
    refine loop_gw (fun m a u => ∃ (p105 : List Bool × Int × Int), m_laws_markBoolS_l1 x0 m p105 = some _ ∧ x0.length = p105.1.length ∧ Fr a 21 [(0, .slice A0 x0.length c0), (1, .int .i64 p105.2.1), (4, .int .i64 0), (5, .int .i64 p105.2.2)] ∧ St w0 u (Asn.row 4 1 (.slice A0 x0.length c0) x0.length (p105.1.flatMap eB) :: X)) FUEL ⟨(x0, x1, 0), hM104, rfl, hF.keep _ ⟨rfl, rfl, rfl, rfl, trivial⟩, S.selT (M := [.row 4 1 (.slice A0 x0.length c0) x0.length (x0.flatMap eB)]) 1 [0] rfl rfl rfl⟩ ?_
    clear hF S hM104; rintro m a u ⟨p105, hM104, hn106, hF, S⟩
    rcases m with _ | f1
    · exact none_some hM104
    rw [m_laws_markBoolS_l1.eq_2] at hM104
    refine wp_seq ?_
    refine wp_seq ?_
    refine wp_region_lit ?_
    refine op_val (v := .int .i64 p105.2.2) rfl rfl hF rfl (run_move rfl (hF.ev rfl)) ?_; clear hF; intro a hF
    refine op_val (v := .slice A0 x0.length c0) rfl rfl hF rfl (run_move rfl (hF.ev rfl)) ?_; clear hF; intro a hF
    refine op_val (v := .int .i64 (x0.length : Int)) rfl rfl hF rfl (run_lenL rfl rfl Try.underlying22 (hF.ev rfl)) ?_; clear hF; intro a hF
    refine op_val (v := .bool (ltB p105.2.2 (x0.length : Int))) rfl rfl hF rfl (run_lss (hF.ev rfl) (hF.ev rfl) rfl) ?_; clear hF; intro a hF
    refine wpList_nil ?_
    cases hc107 : (ltB p105.2.2 (x0.length : Int))
    · replace hM104 := bif_f hc107 hM104
      refine cond_f hF rfl hc107 ?_
      refine wp_exit ?_
      repeat with_reducible (first | refine then_exit ?_ | refine in_hit ?_ | refine in_miss rfl ?_)
      obtain rfl := Option.some.inj hM104
      exact ⟨(p105.2.1, p105.1), rfl, hn106, hF.keep _ ⟨rfl, rfl, trivial⟩, S.selT (M := [.row 4 1 (.slice A0 x0.length c0) x0.length (p105.1.flatMap eB)]) 1 [0] rfl rfl rfl⟩
    · replace hM104 := bif_t hc107 hM104
      refine cond_t hF rfl hc107 ?_
      refine wp_skip ?_
      refine wp_seq ?_
      refine wp_block ?_
      refine wp_seq ?_
      refine wp_region_lit ?_
      refine op_val (v := .slice A0 x0.length c0) rfl rfl hF rfl (run_move rfl (hF.ev rfl)) ?_; clear hF; intro a hF
      refine op_val (v := .int .i64 p105.2.2) rfl rfl hF rfl (run_move rfl (hF.ev rfl)) ?_; clear hF; intro a hF
      refine op_val (v := .int .i64 p105.2.1) rfl rfl hF rfl (run_move rfl (hF.ev rfl)) ?_; clear hF; intro a hF
      refine op_val (v := .int .i64 (Int.tmod p105.2.1 3)) rfl rfl hF rfl (run_rem (z := Int.tmod p105.2.1 3) (hF.ev rfl) rfl rfl (by decide) rfl) ?_; clear hF; intro a hF
      refine op_val (v := .bool ((Int.tmod p105.2.1 3) == 0)) rfl rfl hF rfl (run_eql (hF.ev rfl) rfl rfl) ?_; clear hF; intro a hF
      obtain ⟨hk108, hM104⟩ := chk_ex hM104
      replace hk108 := ixB_t hk108
      refine op_val (v := .pointer (some ⟨adB A0, adO A0 + p105.2.2.toNat * 1, none⟩)) rfl rfl hF rfl (run_indexAddr (b := adB A0) (off := adO A0) rfl Try.underlying22 sz4 ((hF.ev rfl).trans (congrArg (fun A => Value.slice A x0.length c0) ((S.rc 0 rfl).rd.ad (ix_pos hk108)))) (hF.ev rfl) hk108.1 hk108.2 (k' := adO A0 + p105.2.2.toNat * 1) rfl) ?_; clear hF; intro a hF
      obtain ⟨w', hrun, S'⟩ := run_storeElN (P := Try.prog) (ρ := a.eval) (y0 := (Int.tmod p105.2.1 3) == 0) (off := 0) S 4 (.tmp 17) (.tmp 16) (i := 0) sz4 (hF.ev rfl) (hF.ev rfl) rfl rfl rfl rfl hn106 eB_len false (ix_ltn hk108 hn106) rfl rfl
      refine op_do rfl rfl (hrun _ rfl) ?_; clear hrun S; have S := S'; clear S'; generalize w' = u at S ⊢
      refine wpList_nil ?_
      refine wp_region_lit ?_
      refine op_val (v := .int .i64 p105.2.1) rfl rfl hF rfl (run_move rfl (hF.ev rfl)) ?_; clear hF; intro a hF
      refine op_val (v := .int .i64 (w64 (p105.2.1 + 1))) rfl rfl hF rfl (run_add (z := w64 (p105.2.1 + 1)) (hF.ev rfl) rfl rfl rfl) ?_; clear hF; intro a hF
      refine op_val (v := .int .i64 (w64 (p105.2.1 + 1))) rfl rfl hF rfl (run_assign rfl (hF.ev rfl)) ?_; clear hF; intro a hF
      refine wpList_nil ?_
      refine wp_region_lit ?_
      refine op_val (v := .int .i64 p105.2.2) rfl rfl hF rfl (run_move rfl (hF.ev rfl)) ?_; clear hF; intro a hF
      refine op_val (v := .int .i64 (w64 (p105.2.2 + 1))) rfl rfl hF rfl (run_add (z := w64 (p105.2.2 + 1)) (hF.ev rfl) rfl rfl rfl) ?_; clear hF; intro a hF
      refine op_val (v := .int .i64 (w64 (p105.2.2 + 1))) rfl rfl hF rfl (run_assign rfl (hF.ev rfl)) ?_; clear hF; intro a hF
      refine wpList_nil ?_
      exact ⟨f1, Nat.lt_succ_self _, (p105.1.set p105.2.2.toNat ((Int.tmod p105.2.1 3) == 0), w64 (p105.2.1 + 1), w64 (p105.2.2 + 1)), hM104, (len_set hn106), hF.keep _ ⟨rfl, rfl, rfl, rfl, trivial⟩, S.selT (M := [.row 4 1 (.slice A0 x0.length c0) x0.length ((p105.1.set p105.2.2.toNat ((Int.tmod p105.2.1 3) == 0)).flatMap eB)]) 1 [0] rfl rfl rfl⟩
  · rintro a u ⟨p101, rfl, hn103, hF, S⟩
    refine wp_seq ?_
    refine wp_region_lit ?_
    refine op_val (v := .int .i64 p101.1) rfl rfl hF rfl (run_move rfl (hF.ev rfl)) ?_; clear hF; intro a hF
    refine op_val (v := .int .i64 p101.1) rfl rfl hF rfl (run_assign rfl (hF.ev rfl)) ?_; clear hF; intro a hF
    refine wpList_nil ?_
    refine wp_ret ?_
    repeat with_reducible (first | refine then_ret ?_ | refine in_ret ?_ | refine in_nrm ?_)
    refine ret1_gw (.inl rfl) hF rfl (res_tmp (hF.ev rfl)) ?_
    obtain rfl := Option.some.inj hM
    exact ⟨rfl, hn103, S.selT (M := [.row 4 1 (.slice A0 x0.length c0) x0.length (p101.2.flatMap eB)]) 1 [0] rfl rfl rfl⟩

set_option maxHeartbeats 4000000 in
theorem c_laws_markPanel {x0 : List Bool} {x1 : Int} {x2 : Int} {x3 : Bool} {x4 : Int} {x5 : Int} {A0 : Option Addr} {n0 c0 : Nat} {w : World} {r : Int × List Bool} {w0 : World} {X : List Asn} (h0 : n0 = x0.length) (S : St w0 w (Asn.row 4 1 (.slice A0 n0 c0) n0 (x0.flatMap eB) :: X)) (hM : m_laws_markPanel x0 x1 x2 x3 x4 x5 = some r) :
    Calls Try.prog 12 #[.agg #[.slice A0 n0 c0, .int .i64 x1, .int .i64 x2, .bool x3, .int .i64 x4], .int .i64 x5] w (fun e w' => e = .returned (.int .i64 r.1) ∧ n0 = r.2.length ∧ St w0 w' (Asn.row 4 1 (.slice A0 n0 c0) n0 (r.2.flatMap eB) :: X)) := by
  obtain rfl := h0
  unfold m_laws_markPanel at hM
  refine calls_gw Try.func12 Try.ntmps12 rfl [(0, .agg #[.slice A0 x0.length c0, .int .i64 x1, .int .i64 x2, .bool x3, .int .i64 x4]), (1, .int .i64 x5)] ⟨rfl, rfl, trivial⟩ rfl ?_
  intro a hF
  refine wp_seq ?_
  refine wp_region_lit ?_
  refine op_new (cs := #[.slice A0 x0.length c0, .int .i64 x1, .int .i64 x2, .bool x3, .int .i64 x4]) rfl rfl hF rfl S (run_box rfl (hF.ev rfl) rfl) ?_; clear hF S; intro a g101 u hF S
  refine op_val (v := .int .i64 0) rfl rfl hF rfl (run_assign rfl rfl) ?_; clear hF; intro a hF
  refine wpList_nil ?_
  refine wp_seq ?_
  refine wp_region_lit ?_
  refine op_val (v := .pointer (some ⟨g101, 0, none⟩)) rfl rfl hF rfl (run_fieldAddr rfl fl28_0 (hF.ev rfl) rfl) ?_; clear hF; intro a hF
  refine op_val (v := .slice A0 x0.length c0) rfl rfl hF rfl (run_load1 rfl one22 (hF.ev rfl) ((S.free 0 rfl).cell rfl)) ?_; clear hF; intro a hF
  refine op_val (v := .int .i64 x5) rfl rfl hF rfl (run_move rfl (hF.ev rfl)) ?_; clear hF; intro a hF
  obtain ⟨p102, h102, hM⟩ := bind_ex hM
  refine op_call rfl rfl hF rfl (run_call (vs := [.slice A0 x0.length c0, .int .i64 x5]) rfl rfl co21 ⟨(hF.ev rfl), (hF.ev rfl), trivial⟩) (c_laws_markBoolS (x0 := x0) (x1 := x5) rfl (show St w0 _ (Asn.row 4 1 (.slice A0 x0.length c0) x0.length (x0.flatMap eB) :: Asn.box g101 28 #[.slice A0 x0.length c0, .int .i64 x1, .int .i64 x2, .bool x3, .int .i64 x4] :: X) from S.selT (M := [.row 4 1 (.slice A0 x0.length c0) x0.length (x0.flatMap eB), .box g101 28 #[.slice A0 x0.length c0, .int .i64 x1, .int .i64 x2, .bool x3, .int .i64 x4]]) 2 [1, 0] rfl rfl rfl) h102) ?_
  rintro e u ⟨rfl, hn103, T⟩
  refine ⟨_, rfl, ?_⟩
  clear hF; intro a hF
  clear S; have S := T; clear T
  refine op_val (v := .int .i64 p102.1) rfl rfl hF rfl (run_assign rfl (hF.ev rfl)) ?_; clear hF; intro a hF
  refine wpList_nil ?_
  refine wp_seq ?_
  refine wp_region_lit ?_
  refine op_val (v := .int .i64 p102.1) rfl rfl hF rfl (run_move rfl (hF.ev rfl)) ?_; clear hF; intro a hF
  refine op_val (v := .int .i64 p102.1) rfl rfl hF rfl (run_assign rfl (hF.ev rfl)) ?_; clear hF; intro a hF
  refine wpList_nil ?_
  refine wp_ret ?_
  repeat with_reducible (first | refine then_ret ?_ | refine in_ret ?_ | refine in_nrm ?_)
  refine ret1_gw (.inl rfl) hF rfl (res_tmp (hF.ev rfl)) ?_
  obtain rfl := Option.some.inj hM
  exact ⟨rfl, hn103, S.selT (M := [.row 4 1 (.slice A0 x0.length c0) x0.length (p102.2.flatMap eB)]) 2 [0] rfl rfl rfl⟩

set_option maxHeartbeats 4000000 in
theorem c_laws_heldBoolS {x0 : List Bool} {x1 : Int} {A0 : Option Addr} {n0 c0 : Nat} {w : World} {r : Int} (h0 : Rt w 1 eB A0 n0 c0 x0) (hM : m_laws_heldBoolS x0 x1 = some r) :
    Calls Try.prog 22 #[.slice A0 n0 c0, .int .i64 x1] w (fun e w' => e = .returned (.int .i64 r) ∧ St w w' []) := by
  obtain rfl := h0.len
  unfold m_laws_heldBoolS at hM
  refine calls_gw Try.func22 Try.ntmps22 rfl [(0, .slice A0 x0.length c0), (1, .int .i64 x1)] ⟨rfl, rfl, trivial⟩ rfl ?_
  intro a hF
  have S := St.nil w
  refine wp_seq ?_
  refine wp_region_lit ?_
  refine op_val (v := .int .i64 0) rfl rfl hF rfl (run_assign rfl rfl) ?_; clear hF; intro a hF
  refine wpList_nil ?_
  refine wp_seq ?_
  refine wp_seq ?_
  refine wp_region_lit ?_
  refine op_val (v := .int .i64 0) rfl rfl hF rfl (run_assign rfl rfl) ?_; clear hF; intro a hF
  refine wpList_nil ?_
  obtain ⟨o102, hM103, hM⟩ := bind_ex hM
  refine wp_cut (fun a u => ∃ (p101 : Int), (Sum.inl p101) = o102 ∧ Fr a 23 [(1, .int .i64 p101), (4, .int .i64 0)] ∧ St w u []) ?_ ?_
  · have _ := trivial
    refine wp_block ?_
    refine loop_gw (fun m a u => ∃ (p104 : Int × Int), m_laws_heldBoolS_l1 x0 m p104 = some _ ∧ Fr a 23 [(0, .slice A0 x0.length c0), (1, .int .i64 p104.1), (4, .int .i64 0), (5, .int .i64 p104.2)] ∧ St w u []) FUEL ⟨(x1, 0), hM103, hF.keep _ ⟨rfl, rfl, rfl, rfl, trivial⟩, S.sel [] rfl rfl⟩ ?_
    clear hF S hM103; rintro m a u ⟨p104, hM103, hF, S⟩
    rcases m with _ | f1
    · exact none_some hM103
    rw [m_laws_heldBoolS_l1.eq_2] at hM103
    refine wp_seq ?_
    refine wp_seq ?_
    refine wp_region_lit ?_
    refine op_val (v := .int .i64 p104.2) rfl rfl hF rfl (run_move rfl (hF.ev rfl)) ?_; clear hF; intro a hF
    refine op_val (v := .slice A0 x0.length c0) rfl rfl hF rfl (run_move rfl (hF.ev rfl)) ?_; clear hF; intro a hF
    refine op_val (v := .int .i64 (x0.length : Int)) rfl rfl hF rfl (run_lenL rfl rfl Try.underlying22 (hF.ev rfl)) ?_; clear hF; intro a hF
    refine op_val (v := .bool (ltB p104.2 (x0.length : Int))) rfl rfl hF rfl (run_lss (hF.ev rfl) (hF.ev rfl) rfl) ?_; clear hF; intro a hF
    refine wpList_nil ?_
    cases hc105 : (ltB p104.2 (x0.length : Int))
    · replace hM103 := bif_f hc105 hM103
      refine cond_f hF rfl hc105 ?_
      refine wp_exit ?_
      repeat with_reducible (first | refine then_exit ?_ | refine in_hit ?_ | refine in_miss rfl ?_)
      obtain rfl := Option.some.inj hM103
      exact ⟨p104.1, rfl, hF.keep _ ⟨rfl, rfl, trivial⟩, S.sel [] rfl rfl⟩
    · replace hM103 := bif_t hc105 hM103
      refine cond_t hF rfl hc105 ?_
      refine wp_skip ?_
      refine wp_seq ?_
      refine wp_block ?_
      refine wp_seq ?_
      refine wp_seq ?_
      refine wp_region_lit ?_
      refine op_val (v := .slice A0 x0.length c0) rfl rfl hF rfl (run_move rfl (hF.ev rfl)) ?_; clear hF; intro a hF
      refine op_val (v := .int .i64 p104.2) rfl rfl hF rfl (run_move rfl (hF.ev rfl)) ?_; clear hF; intro a hF
      obtain ⟨hk106, hM103⟩ := chk_ex hM103
      replace hk106 := ixB_t hk106
      refine op_val (v := .pointer (some ⟨adB A0, adO A0 + p104.2.toNat * 1, none⟩)) rfl rfl hF rfl (run_indexAddr (b := adB A0) (off := adO A0) rfl Try.underlying22 sz4 ((hF.ev rfl).trans (congrArg (fun A => Value.slice A x0.length c0) ((S.rc0 h0.rc).rd.ad (ix_pos hk106)))) (hF.ev rfl) hk106.1 hk106.2 (k' := adO A0 + p104.2.toNat * 1) rfl) ?_; clear hF; intro a hF
      refine op_val (v := .bool (x0.getD p104.2.toNat false)) rfl rfl hF rfl (run_load1 rfl one4 (hF.ev rfl) (rd_el0 (l := x0) (S.rc0 h0.rc).rd rfl eB_len false (ix_ltn hk106 rfl) rfl)) ?_; clear hF; intro a hF
      refine op_val (v := .int .i64 p104.1) rfl rfl hF rfl (run_move rfl (hF.ev rfl)) ?_; clear hF; intro a hF
      refine op_val (v := .int .i64 (Int.tmod p104.1 3)) rfl rfl hF rfl (run_rem (z := Int.tmod p104.1 3) (hF.ev rfl) rfl rfl (by decide) rfl) ?_; clear hF; intro a hF
      refine op_val (v := .bool ((Int.tmod p104.1 3) == 0)) rfl rfl hF rfl (run_eql (hF.ev rfl) rfl rfl) ?_; clear hF; intro a hF
      refine op_val (v := .bool ((x0.getD p104.2.toNat false) != ((Int.tmod p104.1 3) == 0))) rfl rfl hF rfl (run_neqB (hF.ev rfl) (hF.ev rfl) Try.underlying4 rfl) ?_; clear hF; intro a hF
      refine wpList_nil ?_
      cases hc107 : ((x0.getD p104.2.toNat false) != ((Int.tmod p104.1 3) == 0))
      · replace hM103 := bif_f hc107 hM103
        refine cond_f hF rfl hc107 ?_
        refine wp_skip ?_
        refine wp_region_lit ?_
        refine op_val (v := .int .i64 p104.1) rfl rfl hF rfl (run_move rfl (hF.ev rfl)) ?_; clear hF; intro a hF
        refine op_val (v := .int .i64 (w64 (p104.1 + 1))) rfl rfl hF rfl (run_add (z := w64 (p104.1 + 1)) (hF.ev rfl) rfl rfl rfl) ?_; clear hF; intro a hF
        refine op_val (v := .int .i64 (w64 (p104.1 + 1))) rfl rfl hF rfl (run_assign rfl (hF.ev rfl)) ?_; clear hF; intro a hF
        refine wpList_nil ?_
        refine wp_region_lit ?_
        refine op_val (v := .int .i64 p104.2) rfl rfl hF rfl (run_move rfl (hF.ev rfl)) ?_; clear hF; intro a hF
        refine op_val (v := .int .i64 (w64 (p104.2 + 1))) rfl rfl hF rfl (run_add (z := w64 (p104.2 + 1)) (hF.ev rfl) rfl rfl rfl) ?_; clear hF; intro a hF
        refine op_val (v := .int .i64 (w64 (p104.2 + 1))) rfl rfl hF rfl (run_assign rfl (hF.ev rfl)) ?_; clear hF; intro a hF
        refine wpList_nil ?_
        exact ⟨f1, Nat.lt_succ_self _, (w64 (p104.1 + 1), w64 (p104.2 + 1)), hM103, hF.keep _ ⟨rfl, rfl, rfl, rfl, trivial⟩, S.sel [] rfl rfl⟩
      · replace hM103 := bif_t hc107 hM103
        refine cond_t hF rfl hc107 ?_
        refine wp_seq ?_
        refine wp_region_lit ?_
        refine op_val (v := .int .i64 (-1)) rfl rfl hF rfl (run_assign rfl rfl) ?_; clear hF; intro a hF
        refine wpList_nil ?_
        refine wp_ret ?_
        repeat with_reducible (first | refine then_ret ?_ | refine in_ret ?_ | refine in_nrm ?_)
        refine ret1_gw (.inl rfl) hF rfl (res_tmp (hF.ev rfl)) ?_
        obtain rfl := Option.some.inj hM103
        obtain rfl := Option.some.inj hM
        exact ⟨rfl, S.sel [] rfl rfl⟩
  · rintro a u ⟨p101, rfl, hF, S⟩
    replace hM := elim_l hM
    refine wp_seq ?_
    refine wp_region_lit ?_
    refine op_val (v := .int .i64 p101) rfl rfl hF rfl (run_move rfl (hF.ev rfl)) ?_; clear hF; intro a hF
    refine op_val (v := .int .i64 p101) rfl rfl hF rfl (run_assign rfl (hF.ev rfl)) ?_; clear hF; intro a hF
    refine wpList_nil ?_
    refine wp_ret ?_
    repeat with_reducible (first | refine then_ret ?_ | refine in_ret ?_ | refine in_nrm ?_)
    refine ret1_gw (.inl rfl) hF rfl (res_tmp (hF.ev rfl)) ?_
    obtain rfl := Option.some.inj hM
    exact ⟨rfl, S.sel [] rfl rfl⟩

set_option maxHeartbeats 4000000 in
theorem c_laws_heldPanel {x0 : List Bool} {x1 : Int} {x2 : Int} {x3 : Bool} {x4 : Int} {x5 : Int} {A0 : Option Addr} {n0 c0 : Nat} {w : World} {r : Int} (h0 : Rt w 1 eB A0 n0 c0 x0) (hM : m_laws_heldPanel x0 x1 x2 x3 x4 x5 = some r) :
    Calls Try.prog 13 #[.agg #[.slice A0 n0 c0, .int .i64 x1, .int .i64 x2, .bool x3, .int .i64 x4], .int .i64 x5] w (fun e w' => e = .returned (.int .i64 r) ∧ St w w' []) := by
  obtain rfl := h0.len
  unfold m_laws_heldPanel at hM
  refine calls_gw Try.func13 Try.ntmps13 rfl [(0, .agg #[.slice A0 x0.length c0, .int .i64 x1, .int .i64 x2, .bool x3, .int .i64 x4]), (1, .int .i64 x5)] ⟨rfl, rfl, trivial⟩ rfl ?_
  intro a hF
  have S := St.nil w
  refine wp_seq ?_
  refine wp_region_lit ?_
  refine op_new (cs := #[.slice A0 x0.length c0, .int .i64 x1, .int .i64 x2, .bool x3, .int .i64 x4]) rfl rfl hF rfl S (run_box rfl (hF.ev rfl) rfl) ?_; clear hF S; intro a g101 u hF S
  refine op_val (v := .int .i64 0) rfl rfl hF rfl (run_assign rfl rfl) ?_; clear hF; intro a hF
  refine wpList_nil ?_
  refine wp_seq ?_
  refine wp_region_lit ?_
  refine op_val (v := .pointer (some ⟨g101, 0, none⟩)) rfl rfl hF rfl (run_fieldAddr rfl fl28_0 (hF.ev rfl) rfl) ?_; clear hF; intro a hF
  refine op_val (v := .slice A0 x0.length c0) rfl rfl hF rfl (run_load1 rfl one22 (hF.ev rfl) ((S.free 0 rfl).cell rfl)) ?_; clear hF; intro a hF
  refine op_val (v := .int .i64 x5) rfl rfl hF rfl (run_move rfl (hF.ev rfl)) ?_; clear hF; intro a hF
  obtain ⟨p102, h102, hM⟩ := bind_ex hM
  refine op_call rfl rfl hF rfl (run_call (vs := [.slice A0 x0.length c0, .int .i64 x5]) rfl rfl co22 ⟨(hF.ev rfl), (hF.ev rfl), trivial⟩) (c_laws_heldBoolS (x0 := x0) (x1 := x5) ⟨(S.rc0 h0.rc), rfl⟩ h102) ?_
  rintro e u ⟨rfl, T⟩
  refine ⟨_, rfl, ?_⟩
  clear hF; intro a hF
  replace S := S.call0 T; clear T
  refine op_val (v := .int .i64 p102) rfl rfl hF rfl (run_assign rfl (hF.ev rfl)) ?_; clear hF; intro a hF
  refine wpList_nil ?_
  refine wp_seq ?_
  refine wp_seq ?_
  refine wp_region_lit ?_
  refine op_val (v := .int .i64 p102) rfl rfl hF rfl (run_move rfl (hF.ev rfl)) ?_; clear hF; intro a hF
  refine op_val (v := .bool (ltB p102 0)) rfl rfl hF rfl (run_lss (hF.ev rfl) rfl rfl) ?_; clear hF; intro a hF
  refine wpList_nil ?_
  cases hc103 : (ltB p102 0)
  · replace hM := bif_f hc103 hM
    refine cond_f hF rfl hc103 ?_
    refine wp_skip ?_
    refine wp_seq ?_
    refine wp_region_lit ?_
    refine op_val (v := .int .i64 p102) rfl rfl hF rfl (run_move rfl (hF.ev rfl)) ?_; clear hF; intro a hF
    refine op_val (v := .int .i64 p102) rfl rfl hF rfl (run_assign rfl (hF.ev rfl)) ?_; clear hF; intro a hF
    refine wpList_nil ?_
    refine wp_ret ?_
    repeat with_reducible (first | refine then_ret ?_ | refine in_ret ?_ | refine in_nrm ?_)
    refine ret1_gw (.inl rfl) hF rfl (res_tmp (hF.ev rfl)) ?_
    obtain rfl := Option.some.inj hM
    exact ⟨rfl, S.sel [] rfl rfl⟩
  · replace hM := bif_t hc103 hM
    refine cond_t hF rfl hc103 ?_
    refine wp_seq ?_
    refine wp_region_lit ?_
    refine op_val (v := .int .i64 (-1)) rfl rfl hF rfl (run_assign rfl rfl) ?_; clear hF; intro a hF
    refine wpList_nil ?_
    refine wp_ret ?_
    repeat with_reducible (first | refine then_ret ?_ | refine in_ret ?_ | refine in_nrm ?_)
    refine ret1_gw (.inl rfl) hF rfl (res_tmp (hF.ev rfl)) ?_
    obtain rfl := Option.some.inj hM
    exact ⟨rfl, S.sel [] rfl rfl⟩

set_option maxHeartbeats 4000000 in
theorem c_laws_FnExactPanelDo {x0 : List Bool} {x1 : Int} {x2 : Int} {x3 : Bool} {x4 : Int} {x5 : Int} {x6 : Int} {x7 : Int} {x8 : Bool} {A0 : Option Addr} {n0 c0 : Nat} {w : World} {r : Bool} (h0 : Rt w 1 eB A0 n0 c0 x0) (hM : m_laws_FnExactPanelDo x0 x1 x2 x3 x4 x5 x6 x7 x8 = some r) :
    Calls Try.prog 3 #[.agg #[.slice A0 n0 c0, .int .i64 x1, .int .i64 x2, .bool x3, .int .i64 x4], .agg #[.int .i64 x5, .int .i64 x6, .int .i64 x7, .bool x8]] w (fun e w' => e = .returned (.bool r) ∧ St w w' []) := by
  obtain rfl := h0.len
  unfold m_laws_FnExactPanelDo at hM
  refine calls_gw Try.func3 Try.ntmps3 rfl [(0, .agg #[.slice A0 x0.length c0, .int .i64 x1, .int .i64 x2, .bool x3, .int .i64 x4]), (1, .agg #[.int .i64 x5, .int .i64 x6, .int .i64 x7, .bool x8])] ⟨rfl, rfl, trivial⟩ rfl ?_
  intro a hF
  have S := St.nil w
  refine wp_seq ?_
  refine wp_region_lit ?_
  refine op_new (cs := #[.slice A0 x0.length c0, .int .i64 x1, .int .i64 x2, .bool x3, .int .i64 x4]) rfl rfl hF rfl S (run_box rfl (hF.ev rfl) rfl) ?_; clear hF S; intro a g101 u hF S
  refine op_new (cs := #[.int .i64 x5, .int .i64 x6, .int .i64 x7, .bool x8]) rfl rfl hF rfl S (run_box rfl (hF.ev rfl) rfl) ?_; clear hF S; intro a g102 u hF S
  refine op_val (v := .bool false) rfl rfl hF rfl (run_assign rfl rfl) ?_; clear hF; intro a hF
  refine wpList_nil ?_
  refine wp_seq ?_
  refine wp_region_lit ?_
  refine op_val (v := .int .i64 1048576) rfl rfl hF rfl (run_assign rfl rfl) ?_; clear hF; intro a hF
  refine wpList_nil ?_
  refine wp_seq ?_
  refine wp_region_lit ?_
  refine op_val (v := .agg #[.slice A0 x0.length c0, .int .i64 x1, .int .i64 x2, .bool x3, .int .i64 x4]) rfl rfl hF rfl (run_loadN rfl ag24 (hF.ev rfl) rfl ((S.free 1 rfl).cells 0 #[.slice A0 x0.length c0, .int .i64 x1, .int .i64 x2, .bool x3, .int .i64 x4] rfl)) ?_; clear hF; intro a hF
  refine op_val (v := .int .i64 1048576) rfl rfl hF rfl (run_move rfl (hF.ev rfl)) ?_; clear hF; intro a hF
  obtain ⟨p103, h103, hM⟩ := bind_ex hM
  refine op_call rfl rfl hF rfl (run_call (vs := [.agg #[.slice A0 x0.length c0, .int .i64 x1, .int .i64 x2, .bool x3, .int .i64 x4], .int .i64 1048576]) rfl rfl co6 ⟨(hF.ev rfl), (hF.ev rfl), trivial⟩) (c_laws_szPanel (x0 := x0) (x1 := x1) (x2 := x2) (x3 := x3) (x4 := x4) (x5 := 1048576) ⟨(S.rc0 h0.rc), rfl⟩ h103) ?_
  rintro e u ⟨rfl, T⟩
  refine ⟨_, rfl, ?_⟩
  clear hF; intro a hF
  replace S := S.call0 T; clear T
  refine op_val (v := .int .i64 p103) rfl rfl hF rfl (run_assign rfl (hF.ev rfl)) ?_; clear hF; intro a hF
  refine wpList_nil ?_
  refine wp_seq ?_
  refine wp_seq ?_
  refine wp_region_lit ?_
  refine op_val (v := .int .i64 p103) rfl rfl hF rfl (run_move rfl (hF.ev rfl)) ?_; clear hF; intro a hF
  refine op_val (v := .bool (ltB p103 0)) rfl rfl hF rfl (run_lss (hF.ev rfl) rfl rfl) ?_; clear hF; intro a hF
  refine wpList_nil ?_
  cases hc104 : (ltB p103 0)
  · replace hM := bif_f hc104 hM
    refine cond_f hF rfl hc104 ?_
    refine wp_skip ?_
    refine wp_seq ?_
    obtain ⟨p105, h105, hM⟩ := bind_ex hM
    obtain ⟨p109, h109, hM⟩ := bind_ex hM
    obtain ⟨p110, h110, hM⟩ := bind_ex hM
    refine region_gw (D := [22, 23, 24, 25, 26, 21, 27, 28, 6, 7]) (Lr := [.box g102 26 #[.int .i64 x5, .int .i64 x6, .int .i64 x7, .bool x8], .box g101 24 #[.slice A0 x0.length c0, .int .i64 x1, .int .i64 x2, .bool x3, .int .i64 x4]]) (deps := (fun | 0 => [22] | 1 => [23] | 2 => [24] | 3 => [25] | 4 => [26] | 5 => [21, 26] | 6 => [27, 26] | 7 => [28] | 8 => [6] | 9 => [6, 26] | 10 => [7] | _ => [])) (rd := (fun | 4 => [1] | _ => [])) (zr := (fun _ => []))
      (φ := fun i vs => match i, vs with | 0, [v22] => v22 = .agg #[.slice A0 x0.length c0, .int .i64 x1, .int .i64 x2, .bool x3, .int .i64 x4] | 1, [v23] => v23 = .agg #[.slice (slA (vtup v23 0)) p105.1.length (slC (vtup v23 0)), .int .i64 p105.2.1, .int .i64 p105.2.2.1, .bool p105.2.2.2.1, .int .i64 p105.2.2.2.2] | 2, [v24] => v24 = .agg #[.int .i64 x5, .int .i64 x6, .int .i64 x7, .bool x8] | 3, [v25] => v25 = .agg #[.int .i64 p109.1, .int .i64 p109.2.1, .int .i64 p109.2.2.1, .bool p109.2.2.2] | 4, [v26] => v26 = .tuple #[.agg #[.slice (slA (vtup (vtup v26 0) 0)) p110.1.length (slC (vtup (vtup v26 0) 0)), .int .i64 p110.2.1, .int .i64 p110.2.2.1, .bool p110.2.2.2.1, .int .i64 p110.2.2.2.2.1], .bool p110.2.2.2.2.2] | 5, [v21, v26] => v21 = .tuple #[.agg #[.slice (slA (vtup (vtup v26 0) 0)) p110.1.length (slC (vtup (vtup v26 0) 0)), .int .i64 p110.2.1, .int .i64 p110.2.2.1, .bool p110.2.2.2.1, .int .i64 p110.2.2.2.2.1], .bool p110.2.2.2.2.2] | 6, [v27, v26] => v27 = .agg #[.slice (slA (vtup (vtup v26 0) 0)) p110.1.length (slC (vtup (vtup v26 0) 0)), .int .i64 p110.2.1, .int .i64 p110.2.2.1, .bool p110.2.2.2.1, .int .i64 p110.2.2.2.2.1] | 7, [v28] => v28 = .bool p110.2.2.2.2.2 | 8, [v6] => v6 = .pointer (some ⟨ptB v6, 0, none⟩) | 10, [v7] => v7 = .bool p110.2.2.2.2.2 | _, _ => True)
      (C := fun i vs => match i, vs with | 1, [v23] => [.row 4 1 (.slice (slA (vtup v23 0)) p105.1.length (slC (vtup v23 0))) p105.1.length (p105.1.flatMap eB)] | 4, [v26] => [.row 4 1 (.slice (slA (vtup (vtup v26 0) 0)) p110.1.length (slC (vtup (vtup v26 0) 0))) p110.1.length (p110.1.flatMap eB)] | 8, [v6] => [.box (ptB v6) 28 #[.slice none 0 0, .int .i64 0, .int .i64 0, .bool false, .int .i64 0]] | 9, [v6, v26] => [.box (ptB v6) 28 #[.slice (slA (vtup (vtup v26 0) 0)) p110.1.length (slC (vtup (vtup v26 0) 0)), .int .i64 p110.2.1, .int .i64 p110.2.2.1, .bool p110.2.2.2.1, .int .i64 p110.2.2.2.2.1]] | _, _ => [])
      (κ := (fun | 8 => some 9 | _ => none)) (Z := (fun _ => [])) mixed hF (by kernel_rfl) S ?_ ?_
    · refine ⟨?_, ?_, ?_, ?_, ?_, ?_, ?_, ?_, ?_, ?_, ?_, trivial⟩
      · intro a u X hB hu hp hr hz hl S
        replace S : St w u ([] ++ X) := S
        exact .inl ⟨rfl, .agg #[.slice A0 x0.length c0, .int .i64 x1, .int .i64 x2, .bool x3, .int .i64 x4], u, (run_loadN rfl ag24 (hF.evB hB rfl rfl) rfl ((gr_box S hl 1 rfl).cells 0 #[.slice A0 x0.length c0, .int .i64 x1, .int .i64 x2, .bool x3, .int .i64 x4] rfl)), rfl, S⟩
      · intro a u X hB hu hp hr hz hl S
        replace S : St w u ([] ++ X) := S
        have e22 : sl a 22 = .agg #[.slice A0 x0.length c0, .int .i64 x1, .int .i64 x2, .bool x3, .int .i64 x4] := hp 0 rfl
        refine .inr (.inr (.inl ⟨rfl, _, _, (run_call (vs := [.agg #[.slice A0 x0.length c0, .int .i64 x1, .int .i64 x2, .bool x3, .int .i64 x4]]) rfl rfl co8 ⟨(ev_sl e22), trivial⟩), ?_⟩))
        refine Calls.mono (c_laws_toPanel (x0 := x0) (x1 := x1) (x2 := x2) (x3 := x3) (x4 := x4) ⟨(S.rc0 h0.rc), rfl⟩ h105) ?_
        rintro e w1 ⟨B106, n107, d108, rfl, rfl, T⟩
        exact ⟨_, rfl, rfl, S.call1 T⟩
      · intro a u X hB hu hp hr hz hl S
        replace S : St w u ([] ++ X) := S
        exact .inl ⟨rfl, .agg #[.int .i64 x5, .int .i64 x6, .int .i64 x7, .bool x8], u, (run_loadN rfl ag26 (hF.evB hB rfl rfl) rfl ((gr_box S hl 0 rfl).cells 0 #[.int .i64 x5, .int .i64 x6, .int .i64 x7, .bool x8] rfl)), rfl, S⟩
      · intro a u X hB hu hp hr hz hl S
        replace S : St w u ([] ++ X) := S
        have e24 : sl a 24 = .agg #[.int .i64 x5, .int .i64 x6, .int .i64 x7, .bool x8] := hp 2 rfl
        refine .inr (.inr (.inl ⟨rfl, _, _, (run_call (vs := [.agg #[.int .i64 x5, .int .i64 x6, .int .i64 x7, .bool x8]]) rfl rfl co9 ⟨(ev_sl e24), trivial⟩), ?_⟩))
        refine Calls.mono (c_laws_toCommand (x0 := x5) (x1 := x6) (x2 := x7) (x3 := x8)  h109) ?_
        rintro e w1 ⟨rfl, T⟩
        exact ⟨_, rfl, rfl, S.call0 T⟩
      · intro a u X hB hu hp hr hz hl S
        replace S : St w u ([] ++ X) := S
        have e23 : sl a 23 = .agg #[.slice (slA (vtup (sl a 23) 0)) p105.1.length (slC (vtup (sl a 23) 0)), .int .i64 p105.2.1, .int .i64 p105.2.2.1, .bool p105.2.2.2.1, .int .i64 p105.2.2.2.2] := hp 1 rfl
        have e25 : sl a 25 = .agg #[.int .i64 p109.1, .int .i64 p109.2.1, .int .i64 p109.2.2.1, .bool p109.2.2.2] := hp 3 rfl
        refine .inr (.inr (.inl ⟨rfl, _, _, (run_call (vs := [.agg #[.slice (slA (vtup (sl a 23) 0)) p105.1.length (slC (vtup (sl a 23) 0)), .int .i64 p105.2.1, .int .i64 p105.2.2.1, .bool p105.2.2.2.1, .int .i64 p105.2.2.2.2], .agg #[.int .i64 p109.1, .int .i64 p109.2.1, .int .i64 p109.2.2.1, .bool p109.2.2.2]]) rfl rfl co7 ⟨(ev_sl e23), (ev_sl e25), trivial⟩), ?_⟩))
        refine Calls.mono (c_spec_PanelDo (x0 := p105.1) (x1 := p105.2.1) (x2 := p105.2.2.1) (x3 := p105.2.2.2.1) (x4 := p105.2.2.2.2) (x5 := p109.1) (x6 := p109.2.1) (x7 := p109.2.2.1) (x8 := p109.2.2.2) ⟨(own_rc (show World.ownsRow _ 0 _ _ _ _ _ from S.mem (List.mem_append_right _ (hr 1 (List.mem_of_getElem? (i := 0) rfl) _ (List.mem_of_getElem? (i := 0) rfl))))), rfl⟩ h110) ?_
        rintro e w1 ⟨B111, n112, d113, rfl, rfl, T⟩
        exact ⟨_, rfl, rfl, S.call1 T⟩
      · intro a u X hB hu hp hr hz hl S
        replace S : St w u ([] ++ X) := S
        have e26 : sl a 26 = .tuple #[.agg #[.slice (slA (vtup (vtup (sl a 26) 0) 0)) p110.1.length (slC (vtup (vtup (sl a 26) 0) 0)), .int .i64 p110.2.1, .int .i64 p110.2.2.1, .bool p110.2.2.2.1, .int .i64 p110.2.2.2.2.1], .bool p110.2.2.2.2.2] := hp 4 rfl
        exact .inl ⟨rfl, .tuple #[.agg #[.slice (slA (vtup (vtup (sl a 26) 0) 0)) p110.1.length (slC (vtup (vtup (sl a 26) 0) 0)), .int .i64 p110.2.1, .int .i64 p110.2.2.1, .bool p110.2.2.2.1, .int .i64 p110.2.2.2.2.1], .bool p110.2.2.2.2.2], u, (run_move rfl (ev_sl e26)), rfl, S⟩
      · intro a u X hB hu hp hr hz hl S
        replace S : St w u ([] ++ X) := S
        have e21 : sl a 21 = .tuple #[.agg #[.slice (slA (vtup (vtup (sl a 26) 0) 0)) p110.1.length (slC (vtup (vtup (sl a 26) 0) 0)), .int .i64 p110.2.1, .int .i64 p110.2.2.1, .bool p110.2.2.2.1, .int .i64 p110.2.2.2.2.1], .bool p110.2.2.2.2.2] := hp 5 rfl
        exact .inl ⟨rfl, .agg #[.slice (slA (vtup (vtup (sl a 26) 0) 0)) p110.1.length (slC (vtup (vtup (sl a 26) 0) 0)), .int .i64 p110.2.1, .int .i64 p110.2.2.1, .bool p110.2.2.2.1, .int .i64 p110.2.2.2.2.1], u, (run_extract rfl (ev_sl e21) rfl), rfl, S⟩
      · intro a u X hB hu hp hr hz hl S
        replace S : St w u ([] ++ X) := S
        have e21 : sl a 21 = .tuple #[.agg #[.slice (slA (vtup (vtup (sl a 26) 0) 0)) p110.1.length (slC (vtup (vtup (sl a 26) 0) 0)), .int .i64 p110.2.1, .int .i64 p110.2.2.1, .bool p110.2.2.2.1, .int .i64 p110.2.2.2.2.1], .bool p110.2.2.2.2.2] := hp 5 rfl
        exact .inl ⟨rfl, .bool p110.2.2.2.2.2, u, (run_extract rfl (ev_sl e21) rfl), rfl, S⟩
      · intro a u X hB hu hp hr hz hl S
        replace S : St w u ([] ++ X) := S
        exact .inl ⟨rfl, _, _, (run_allocZ rfl zr28), rfl, S.alloc _ _⟩
      · intro a u X hB hu hp hr hz hl S
        replace S : St w u ([.box (ptB (sl a 6)) 28 #[.slice none 0 0, .int .i64 0, .int .i64 0, .bool false, .int .i64 0]] ++ X) := S
        have e6 : sl a 6 = .pointer (some ⟨ptB (sl a 6), 0, none⟩) := hp 8 rfl
        have e27 : sl a 27 = .agg #[.slice (slA (vtup (vtup (sl a 26) 0) 0)) p110.1.length (slC (vtup (vtup (sl a 26) 0) 0)), .int .i64 p110.2.1, .int .i64 p110.2.2.1, .bool p110.2.2.2.1, .int .i64 p110.2.2.2.2.1] := hp 6 rfl
        exact .inr (.inl ⟨rfl, _, run_store (cs' := #[.slice (slA (vtup (vtup (sl a 26) 0) 0)) p110.1.length (slC (vtup (vtup (sl a 26) 0) 0)), .int .i64 p110.2.1, .int .i64 p110.2.2.1, .bool p110.2.2.2.1, .int .i64 p110.2.2.2.2.1]) rfl sz28 (ev_sl e6) (ev_sl e27) rfl rfl rfl (S.free 0 rfl) rfl rfl, trivial, S.put 0 rfl (#[.slice (slA (vtup (vtup (sl a 26) 0) 0)) p110.1.length (slC (vtup (vtup (sl a 26) 0) 0)), .int .i64 p110.2.1, .int .i64 p110.2.2.1, .bool p110.2.2.2.1, .int .i64 p110.2.2.2.2.1])⟩)
      · intro a u X hB hu hp hr hz hl S
        replace S : St w u ([] ++ X) := S
        have e28 : sl a 28 = .bool p110.2.2.2.2.2 := hp 7 rfl
        exact .inl ⟨rfl, .bool p110.2.2.2.2.2, u, (run_assign rfl (ev_sl e28)), rfl, S⟩
    · intro a u hB hp S
      obtain ⟨q0, q1, q2, q3, q4, q5, q6, q7, q8, q9, q10, _⟩ := hp
      have e22 : sl a 22 = .agg #[.slice A0 x0.length c0, .int .i64 x1, .int .i64 x2, .bool x3, .int .i64 x4] := q0
      have e23 : sl a 23 = .agg #[.slice (slA (vtup (sl a 23) 0)) p105.1.length (slC (vtup (sl a 23) 0)), .int .i64 p105.2.1, .int .i64 p105.2.2.1, .bool p105.2.2.2.1, .int .i64 p105.2.2.2.2] := q1
      have e24 : sl a 24 = .agg #[.int .i64 x5, .int .i64 x6, .int .i64 x7, .bool x8] := q2
      have e25 : sl a 25 = .agg #[.int .i64 p109.1, .int .i64 p109.2.1, .int .i64 p109.2.2.1, .bool p109.2.2.2] := q3
      have e26 : sl a 26 = .tuple #[.agg #[.slice (slA (vtup (vtup (sl a 26) 0) 0)) p110.1.length (slC (vtup (vtup (sl a 26) 0) 0)), .int .i64 p110.2.1, .int .i64 p110.2.2.1, .bool p110.2.2.2.1, .int .i64 p110.2.2.2.2.1], .bool p110.2.2.2.2.2] := q4
      have e21 : sl a 21 = .tuple #[.agg #[.slice (slA (vtup (vtup (sl a 26) 0) 0)) p110.1.length (slC (vtup (vtup (sl a 26) 0) 0)), .int .i64 p110.2.1, .int .i64 p110.2.2.1, .bool p110.2.2.2.1, .int .i64 p110.2.2.2.2.1], .bool p110.2.2.2.2.2] := q5
      have e27 : sl a 27 = .agg #[.slice (slA (vtup (vtup (sl a 26) 0) 0)) p110.1.length (slC (vtup (vtup (sl a 26) 0) 0)), .int .i64 p110.2.1, .int .i64 p110.2.2.1, .bool p110.2.2.2.1, .int .i64 p110.2.2.2.2.1] := q6
      have e28 : sl a 28 = .bool p110.2.2.2.2.2 := q7
      have e6 : sl a 6 = .pointer (some ⟨ptB (sl a 6), 0, none⟩) := q8
      have e7 : sl a 7 = .bool p110.2.2.2.2.2 := q10
      replace S : St w u [.row 4 1 (.slice (slA (vtup (sl a 23) 0)) p105.1.length (slC (vtup (sl a 23) 0))) p105.1.length (p105.1.flatMap eB), .row 4 1 (.slice (slA (vtup (vtup (sl a 26) 0) 0)) p110.1.length (slC (vtup (vtup (sl a 26) 0) 0))) p110.1.length (p110.1.flatMap eB), .box (ptB (sl a 6)) 28 #[.slice (slA (vtup (vtup (sl a 26) 0) 0)) p110.1.length (slC (vtup (vtup (sl a 26) 0) 0)), .int .i64 p110.2.1, .int .i64 p110.2.2.1, .bool p110.2.2.2.1, .int .i64 p110.2.2.2.2.1], .box g102 26 #[.int .i64 x5, .int .i64 x6, .int .i64 x7, .bool x8], .box g101 24 #[.slice A0 x0.length c0, .int .i64 x1, .int .i64 x2, .bool x3, .int .i64 x4]] := S
      clear q0 q1 q2 q3 q4 q5 q6 q7 q8 q9 q10
      generalize slA (vtup (sl a 23) 0) = B114 at *
      generalize slC (vtup (sl a 23) 0) = d115 at *
      generalize slA (vtup (vtup (sl a 26) 0) 0) = B116 at *
      generalize slC (vtup (vtup (sl a 26) 0) 0) = d117 at *
      generalize ptB (sl a 6) = g118 at *
      have hF := hF.region hB [(22, .agg #[.slice A0 x0.length c0, .int .i64 x1, .int .i64 x2, .bool x3, .int .i64 x4]), (23, .agg #[.slice B114 p105.1.length d115, .int .i64 p105.2.1, .int .i64 p105.2.2.1, .bool p105.2.2.2.1, .int .i64 p105.2.2.2.2]), (24, .agg #[.int .i64 x5, .int .i64 x6, .int .i64 x7, .bool x8]), (25, .agg #[.int .i64 p109.1, .int .i64 p109.2.1, .int .i64 p109.2.2.1, .bool p109.2.2.2]), (26, .tuple #[.agg #[.slice B116 p110.1.length d117, .int .i64 p110.2.1, .int .i64 p110.2.2.1, .bool p110.2.2.2.1, .int .i64 p110.2.2.2.2.1], .bool p110.2.2.2.2.2]), (21, .tuple #[.agg #[.slice B116 p110.1.length d117, .int .i64 p110.2.1, .int .i64 p110.2.2.1, .bool p110.2.2.2.1, .int .i64 p110.2.2.2.2.1], .bool p110.2.2.2.2.2]), (27, .agg #[.slice B116 p110.1.length d117, .int .i64 p110.2.1, .int .i64 p110.2.2.1, .bool p110.2.2.2.1, .int .i64 p110.2.2.2.2.1]), (28, .bool p110.2.2.2.2.2), (6, .pointer (some ⟨g118, 0, none⟩)), (7, .bool p110.2.2.2.2.2)] (allSl_mem ⟨e22, e23, e24, e25, e26, e21, e27, e28, e6, e7, trivial⟩) rfl
      clear hB e22 e23 e24 e25 e26 e21 e27 e28 e6 e7
      refine wp_seq ?_
      refine wp_region_lit ?_
      refine op_val (v := .agg #[.slice A0 x0.length c0, .int .i64 x1, .int .i64 x2, .bool x3, .int .i64 x4]) rfl rfl hF rfl (run_loadN rfl ag24 (hF.ev rfl) rfl ((S.free 4 rfl).cells 0 #[.slice A0 x0.length c0, .int .i64 x1, .int .i64 x2, .bool x3, .int .i64 x4] rfl)) ?_; clear hF; intro a hF
      obtain ⟨p119, h119, hM⟩ := bind_ex hM
      refine op_call rfl rfl hF rfl (run_call (vs := [.agg #[.slice A0 x0.length c0, .int .i64 x1, .int .i64 x2, .bool x3, .int .i64 x4]]) rfl rfl co8 ⟨(hF.ev rfl), trivial⟩) (c_laws_toPanel (x0 := x0) (x1 := x1) (x2 := x2) (x3 := x3) (x4 := x4) ⟨(S.rc0 h0.rc), rfl⟩ h119) ?_
      rintro e u ⟨B120, n121, d122, rfl, rfl, T⟩
      refine ⟨_, rfl, ?_⟩
      clear hF; intro a hF
      replace S := S.call1 T; clear T
      refine op_new (cs := #[.slice none 0 0, .int .i64 0, .int .i64 0, .bool false, .int .i64 0]) rfl rfl hF rfl S (run_allocZ rfl zr28) ?_; clear hF S; intro a g123 u hF S
      refine op_do rfl rfl (run_store (cs' := #[.slice B120 p119.1.length d122, .int .i64 p119.2.1, .int .i64 p119.2.2.1, .bool p119.2.2.2.1, .int .i64 p119.2.2.2.2]) rfl sz28 (hF.ev rfl) (hF.ev rfl) rfl rfl rfl (S.free 0 rfl) rfl rfl) ?_; replace S := S.put 0 rfl (#[.slice B120 p119.1.length d122, .int .i64 p119.2.1, .int .i64 p119.2.2.1, .bool p119.2.2.2.1, .int .i64 p119.2.2.2.2])
      generalize World.setRow _ _ _ = u at S ⊢
      refine wpList_nil ?_
      refine wp_seq ?_
      obtain ⟨p124, h124, hM⟩ := bind_ex hM
      obtain ⟨p125, h125, hM⟩ := bind_ex hM
      refine region_gw (D := [32, 33, 34, 35, 31, 36, 37, 9, 10]) (Lr := [.box g123 28 #[.slice B120 p119.1.length d122, .int .i64 p119.2.1, .int .i64 p119.2.2.1, .bool p119.2.2.2.1, .int .i64 p119.2.2.2.2], .row 4 1 (.slice B120 p119.1.length d122) p119.1.length (p119.1.flatMap eB), .row 4 1 (.slice B114 p105.1.length d115) p105.1.length (p105.1.flatMap eB), .row 4 1 (.slice B116 p110.1.length d117) p110.1.length (p110.1.flatMap eB), .box g118 28 #[.slice B116 p110.1.length d117, .int .i64 p110.2.1, .int .i64 p110.2.2.1, .bool p110.2.2.2.1, .int .i64 p110.2.2.2.2.1], .box g102 26 #[.int .i64 x5, .int .i64 x6, .int .i64 x7, .bool x8], .box g101 24 #[.slice A0 x0.length c0, .int .i64 x1, .int .i64 x2, .bool x3, .int .i64 x4]]) (deps := (fun | 0 => [32] | 1 => [33] | 2 => [34] | 3 => [35] | 4 => [31, 35] | 5 => [36, 35] | 6 => [37] | 7 => [9] | 8 => [9, 35] | 9 => [10] | _ => [])) (rd := (fun _ => [])) (zr := (fun _ => []))
        (φ := fun i vs => match i, vs with | 0, [v32] => v32 = .agg #[.slice B120 p119.1.length d122, .int .i64 p119.2.1, .int .i64 p119.2.2.1, .bool p119.2.2.2.1, .int .i64 p119.2.2.2.2] | 1, [v33] => v33 = .agg #[.int .i64 x5, .int .i64 x6, .int .i64 x7, .bool x8] | 2, [v34] => v34 = .agg #[.int .i64 p124.1, .int .i64 p124.2.1, .int .i64 p124.2.2.1, .bool p124.2.2.2] | 3, [v35] => v35 = .tuple #[.agg #[.slice (slA (vtup (vtup v35 0) 0)) p125.1.length (slC (vtup (vtup v35 0) 0)), .int .i64 p125.2.1, .int .i64 p125.2.2.1, .bool p125.2.2.2.1, .int .i64 p125.2.2.2.2.1], .bool p125.2.2.2.2.2] | 4, [v31, v35] => v31 = .tuple #[.agg #[.slice (slA (vtup (vtup v35 0) 0)) p125.1.length (slC (vtup (vtup v35 0) 0)), .int .i64 p125.2.1, .int .i64 p125.2.2.1, .bool p125.2.2.2.1, .int .i64 p125.2.2.2.2.1], .bool p125.2.2.2.2.2] | 5, [v36, v35] => v36 = .agg #[.slice (slA (vtup (vtup v35 0) 0)) p125.1.length (slC (vtup (vtup v35 0) 0)), .int .i64 p125.2.1, .int .i64 p125.2.2.1, .bool p125.2.2.2.1, .int .i64 p125.2.2.2.2.1] | 6, [v37] => v37 = .bool p125.2.2.2.2.2 | 7, [v9] => v9 = .pointer (some ⟨ptB v9, 0, none⟩) | 9, [v10] => v10 = .bool p125.2.2.2.2.2 | _, _ => True)
        (C := fun i vs => match i, vs with | 3, [v35] => [.row 4 1 (.slice (slA (vtup (vtup v35 0) 0)) p125.1.length (slC (vtup (vtup v35 0) 0))) p125.1.length (p125.1.flatMap eB)] | 7, [v9] => [.box (ptB v9) 28 #[.slice none 0 0, .int .i64 0, .int .i64 0, .bool false, .int .i64 0]] | 8, [v9, v35] => [.box (ptB v9) 28 #[.slice (slA (vtup (vtup v35 0) 0)) p125.1.length (slC (vtup (vtup v35 0) 0)), .int .i64 p125.2.1, .int .i64 p125.2.2.1, .bool p125.2.2.2.1, .int .i64 p125.2.2.2.2.1]] | _, _ => [])
        (κ := (fun | 7 => some 8 | _ => none)) (Z := (fun _ => [])) mixed hF (by kernel_rfl) S ?_ ?_
      · refine ⟨?_, ?_, ?_, ?_, ?_, ?_, ?_, ?_, ?_, ?_, trivial⟩
        · intro a u X hB hu hp hr hz hl S
          replace S : St w u ([] ++ X) := S
          exact .inl ⟨rfl, .agg #[.slice B120 p119.1.length d122, .int .i64 p119.2.1, .int .i64 p119.2.2.1, .bool p119.2.2.2.1, .int .i64 p119.2.2.2.2], u, (run_loadN rfl ag28 (hF.evB hB rfl rfl) rfl ((gr_box S hl 0 rfl).cells 0 #[.slice B120 p119.1.length d122, .int .i64 p119.2.1, .int .i64 p119.2.2.1, .bool p119.2.2.2.1, .int .i64 p119.2.2.2.2] rfl)), rfl, S⟩
        · intro a u X hB hu hp hr hz hl S
          replace S : St w u ([] ++ X) := S
          exact .inl ⟨rfl, .agg #[.int .i64 x5, .int .i64 x6, .int .i64 x7, .bool x8], u, (run_loadN rfl ag26 (hF.evB hB rfl rfl) rfl ((gr_box S hl 5 rfl).cells 0 #[.int .i64 x5, .int .i64 x6, .int .i64 x7, .bool x8] rfl)), rfl, S⟩
        · intro a u X hB hu hp hr hz hl S
          replace S : St w u ([] ++ X) := S
          have e33 : sl a 33 = .agg #[.int .i64 x5, .int .i64 x6, .int .i64 x7, .bool x8] := hp 1 rfl
          refine .inr (.inr (.inl ⟨rfl, _, _, (run_call (vs := [.agg #[.int .i64 x5, .int .i64 x6, .int .i64 x7, .bool x8]]) rfl rfl co9 ⟨(ev_sl e33), trivial⟩), ?_⟩))
          refine Calls.mono (c_laws_toCommand (x0 := x5) (x1 := x6) (x2 := x7) (x3 := x8)  h124) ?_
          rintro e w1 ⟨rfl, T⟩
          exact ⟨_, rfl, rfl, S.call0 T⟩
        · intro a u X hB hu hp hr hz hl S
          replace S : St w u ([] ++ X) := S
          have e32 : sl a 32 = .agg #[.slice B120 p119.1.length d122, .int .i64 p119.2.1, .int .i64 p119.2.2.1, .bool p119.2.2.2.1, .int .i64 p119.2.2.2.2] := hp 0 rfl
          have e34 : sl a 34 = .agg #[.int .i64 p124.1, .int .i64 p124.2.1, .int .i64 p124.2.2.1, .bool p124.2.2.2] := hp 2 rfl
          refine .inr (.inr (.inl ⟨rfl, _, _, (run_call (vs := [.agg #[.slice B120 p119.1.length d122, .int .i64 p119.2.1, .int .i64 p119.2.2.1, .bool p119.2.2.2.1, .int .i64 p119.2.2.2.2], .agg #[.int .i64 p124.1, .int .i64 p124.2.1, .int .i64 p124.2.2.1, .bool p124.2.2.2]]) rfl rfl co10 ⟨(ev_sl e32), (ev_sl e34), trivial⟩), ?_⟩))
          refine Calls.mono (c_impl_PanelDo (x0 := p119.1) (x1 := p119.2.1) (x2 := p119.2.2.1) (x3 := p119.2.2.2.1) (x4 := p119.2.2.2.2) (x5 := p124.1) (x6 := p124.2.1) (x7 := p124.2.2.1) (x8 := p124.2.2.2) ⟨(gr_rc S hl 1 rfl), rfl⟩ h125) ?_
          rintro e w1 ⟨B126, n127, d128, rfl, rfl, T⟩
          exact ⟨_, rfl, rfl, S.call1 T⟩
        · intro a u X hB hu hp hr hz hl S
          replace S : St w u ([] ++ X) := S
          have e35 : sl a 35 = .tuple #[.agg #[.slice (slA (vtup (vtup (sl a 35) 0) 0)) p125.1.length (slC (vtup (vtup (sl a 35) 0) 0)), .int .i64 p125.2.1, .int .i64 p125.2.2.1, .bool p125.2.2.2.1, .int .i64 p125.2.2.2.2.1], .bool p125.2.2.2.2.2] := hp 3 rfl
          exact .inl ⟨rfl, .tuple #[.agg #[.slice (slA (vtup (vtup (sl a 35) 0) 0)) p125.1.length (slC (vtup (vtup (sl a 35) 0) 0)), .int .i64 p125.2.1, .int .i64 p125.2.2.1, .bool p125.2.2.2.1, .int .i64 p125.2.2.2.2.1], .bool p125.2.2.2.2.2], u, (run_move rfl (ev_sl e35)), rfl, S⟩
        · intro a u X hB hu hp hr hz hl S
          replace S : St w u ([] ++ X) := S
          have e31 : sl a 31 = .tuple #[.agg #[.slice (slA (vtup (vtup (sl a 35) 0) 0)) p125.1.length (slC (vtup (vtup (sl a 35) 0) 0)), .int .i64 p125.2.1, .int .i64 p125.2.2.1, .bool p125.2.2.2.1, .int .i64 p125.2.2.2.2.1], .bool p125.2.2.2.2.2] := hp 4 rfl
          exact .inl ⟨rfl, .agg #[.slice (slA (vtup (vtup (sl a 35) 0) 0)) p125.1.length (slC (vtup (vtup (sl a 35) 0) 0)), .int .i64 p125.2.1, .int .i64 p125.2.2.1, .bool p125.2.2.2.1, .int .i64 p125.2.2.2.2.1], u, (run_extract rfl (ev_sl e31) rfl), rfl, S⟩
        · intro a u X hB hu hp hr hz hl S
          replace S : St w u ([] ++ X) := S
          have e31 : sl a 31 = .tuple #[.agg #[.slice (slA (vtup (vtup (sl a 35) 0) 0)) p125.1.length (slC (vtup (vtup (sl a 35) 0) 0)), .int .i64 p125.2.1, .int .i64 p125.2.2.1, .bool p125.2.2.2.1, .int .i64 p125.2.2.2.2.1], .bool p125.2.2.2.2.2] := hp 4 rfl
          exact .inl ⟨rfl, .bool p125.2.2.2.2.2, u, (run_extract rfl (ev_sl e31) rfl), rfl, S⟩
        · intro a u X hB hu hp hr hz hl S
          replace S : St w u ([] ++ X) := S
          exact .inl ⟨rfl, _, _, (run_allocZ rfl zr28), rfl, S.alloc _ _⟩
        · intro a u X hB hu hp hr hz hl S
          replace S : St w u ([.box (ptB (sl a 9)) 28 #[.slice none 0 0, .int .i64 0, .int .i64 0, .bool false, .int .i64 0]] ++ X) := S
          have e9 : sl a 9 = .pointer (some ⟨ptB (sl a 9), 0, none⟩) := hp 7 rfl
          have e36 : sl a 36 = .agg #[.slice (slA (vtup (vtup (sl a 35) 0) 0)) p125.1.length (slC (vtup (vtup (sl a 35) 0) 0)), .int .i64 p125.2.1, .int .i64 p125.2.2.1, .bool p125.2.2.2.1, .int .i64 p125.2.2.2.2.1] := hp 5 rfl
          exact .inr (.inl ⟨rfl, _, run_store (cs' := #[.slice (slA (vtup (vtup (sl a 35) 0) 0)) p125.1.length (slC (vtup (vtup (sl a 35) 0) 0)), .int .i64 p125.2.1, .int .i64 p125.2.2.1, .bool p125.2.2.2.1, .int .i64 p125.2.2.2.2.1]) rfl sz28 (ev_sl e9) (ev_sl e36) rfl rfl rfl (S.free 0 rfl) rfl rfl, trivial, S.put 0 rfl (#[.slice (slA (vtup (vtup (sl a 35) 0) 0)) p125.1.length (slC (vtup (vtup (sl a 35) 0) 0)), .int .i64 p125.2.1, .int .i64 p125.2.2.1, .bool p125.2.2.2.1, .int .i64 p125.2.2.2.2.1])⟩)
        · intro a u X hB hu hp hr hz hl S
          replace S : St w u ([] ++ X) := S
          have e37 : sl a 37 = .bool p125.2.2.2.2.2 := hp 6 rfl
          exact .inl ⟨rfl, .bool p125.2.2.2.2.2, u, (run_assign rfl (ev_sl e37)), rfl, S⟩
      · intro a u hB hp S
        obtain ⟨q0, q1, q2, q3, q4, q5, q6, q7, q8, q9, _⟩ := hp
        have e32 : sl a 32 = .agg #[.slice B120 p119.1.length d122, .int .i64 p119.2.1, .int .i64 p119.2.2.1, .bool p119.2.2.2.1, .int .i64 p119.2.2.2.2] := q0
        have e33 : sl a 33 = .agg #[.int .i64 x5, .int .i64 x6, .int .i64 x7, .bool x8] := q1
        have e34 : sl a 34 = .agg #[.int .i64 p124.1, .int .i64 p124.2.1, .int .i64 p124.2.2.1, .bool p124.2.2.2] := q2
        have e35 : sl a 35 = .tuple #[.agg #[.slice (slA (vtup (vtup (sl a 35) 0) 0)) p125.1.length (slC (vtup (vtup (sl a 35) 0) 0)), .int .i64 p125.2.1, .int .i64 p125.2.2.1, .bool p125.2.2.2.1, .int .i64 p125.2.2.2.2.1], .bool p125.2.2.2.2.2] := q3
        have e31 : sl a 31 = .tuple #[.agg #[.slice (slA (vtup (vtup (sl a 35) 0) 0)) p125.1.length (slC (vtup (vtup (sl a 35) 0) 0)), .int .i64 p125.2.1, .int .i64 p125.2.2.1, .bool p125.2.2.2.1, .int .i64 p125.2.2.2.2.1], .bool p125.2.2.2.2.2] := q4
        have e36 : sl a 36 = .agg #[.slice (slA (vtup (vtup (sl a 35) 0) 0)) p125.1.length (slC (vtup (vtup (sl a 35) 0) 0)), .int .i64 p125.2.1, .int .i64 p125.2.2.1, .bool p125.2.2.2.1, .int .i64 p125.2.2.2.2.1] := q5
        have e37 : sl a 37 = .bool p125.2.2.2.2.2 := q6
        have e9 : sl a 9 = .pointer (some ⟨ptB (sl a 9), 0, none⟩) := q7
        have e10 : sl a 10 = .bool p125.2.2.2.2.2 := q9
        replace S : St w u [.row 4 1 (.slice (slA (vtup (vtup (sl a 35) 0) 0)) p125.1.length (slC (vtup (vtup (sl a 35) 0) 0))) p125.1.length (p125.1.flatMap eB), .box (ptB (sl a 9)) 28 #[.slice (slA (vtup (vtup (sl a 35) 0) 0)) p125.1.length (slC (vtup (vtup (sl a 35) 0) 0)), .int .i64 p125.2.1, .int .i64 p125.2.2.1, .bool p125.2.2.2.1, .int .i64 p125.2.2.2.2.1], .box g123 28 #[.slice B120 p119.1.length d122, .int .i64 p119.2.1, .int .i64 p119.2.2.1, .bool p119.2.2.2.1, .int .i64 p119.2.2.2.2], .row 4 1 (.slice B120 p119.1.length d122) p119.1.length (p119.1.flatMap eB), .row 4 1 (.slice B114 p105.1.length d115) p105.1.length (p105.1.flatMap eB), .row 4 1 (.slice B116 p110.1.length d117) p110.1.length (p110.1.flatMap eB), .box g118 28 #[.slice B116 p110.1.length d117, .int .i64 p110.2.1, .int .i64 p110.2.2.1, .bool p110.2.2.2.1, .int .i64 p110.2.2.2.2.1], .box g102 26 #[.int .i64 x5, .int .i64 x6, .int .i64 x7, .bool x8], .box g101 24 #[.slice A0 x0.length c0, .int .i64 x1, .int .i64 x2, .bool x3, .int .i64 x4]] := S
        clear q0 q1 q2 q3 q4 q5 q6 q7 q8 q9
        generalize slA (vtup (vtup (sl a 35) 0) 0) = B129 at *
        generalize slC (vtup (vtup (sl a 35) 0) 0) = d130 at *
        generalize ptB (sl a 9) = g131 at *
        have hF := hF.region hB [(32, .agg #[.slice B120 p119.1.length d122, .int .i64 p119.2.1, .int .i64 p119.2.2.1, .bool p119.2.2.2.1, .int .i64 p119.2.2.2.2]), (33, .agg #[.int .i64 x5, .int .i64 x6, .int .i64 x7, .bool x8]), (34, .agg #[.int .i64 p124.1, .int .i64 p124.2.1, .int .i64 p124.2.2.1, .bool p124.2.2.2]), (35, .tuple #[.agg #[.slice B129 p125.1.length d130, .int .i64 p125.2.1, .int .i64 p125.2.2.1, .bool p125.2.2.2.1, .int .i64 p125.2.2.2.2.1], .bool p125.2.2.2.2.2]), (31, .tuple #[.agg #[.slice B129 p125.1.length d130, .int .i64 p125.2.1, .int .i64 p125.2.2.1, .bool p125.2.2.2.1, .int .i64 p125.2.2.2.2.1], .bool p125.2.2.2.2.2]), (36, .agg #[.slice B129 p125.1.length d130, .int .i64 p125.2.1, .int .i64 p125.2.2.1, .bool p125.2.2.2.1, .int .i64 p125.2.2.2.2.1]), (37, .bool p125.2.2.2.2.2), (9, .pointer (some ⟨g131, 0, none⟩)), (10, .bool p125.2.2.2.2.2)] (allSl_mem ⟨e32, e33, e34, e35, e31, e36, e37, e9, e10, trivial⟩) rfl
        clear hB e32 e33 e34 e35 e31 e36 e37 e9 e10
        refine wp_seq ?_
        refine wp_seq ?_
        refine wp_region_lit ?_
        refine op_val (v := .agg #[.slice B129 p125.1.length d130, .int .i64 p125.2.1, .int .i64 p125.2.2.1, .bool p125.2.2.2.1, .int .i64 p125.2.2.2.2.1]) rfl rfl hF rfl (run_loadN rfl ag28 (hF.ev rfl) rfl ((S.free 1 rfl).cells 0 #[.slice B129 p125.1.length d130, .int .i64 p125.2.1, .int .i64 p125.2.2.1, .bool p125.2.2.2.1, .int .i64 p125.2.2.2.2.1] rfl)) ?_; clear hF; intro a hF
        refine op_val (v := .agg #[.slice B116 p110.1.length d117, .int .i64 p110.2.1, .int .i64 p110.2.2.1, .bool p110.2.2.2.1, .int .i64 p110.2.2.2.2.1]) rfl rfl hF rfl (run_loadN rfl ag28 (hF.ev rfl) rfl ((S.free 6 rfl).cells 0 #[.slice B116 p110.1.length d117, .int .i64 p110.2.1, .int .i64 p110.2.2.1, .bool p110.2.2.2.1, .int .i64 p110.2.2.2.2.1] rfl)) ?_; clear hF; intro a hF
        obtain ⟨p132, h132, hM⟩ := bind_ex hM
        refine op_call rfl rfl hF rfl (run_call (vs := [.agg #[.slice B129 p125.1.length d130, .int .i64 p125.2.1, .int .i64 p125.2.2.1, .bool p125.2.2.2.1, .int .i64 p125.2.2.2.2.1], .agg #[.slice B116 p110.1.length d117, .int .i64 p110.2.1, .int .i64 p110.2.2.1, .bool p110.2.2.2.1, .int .i64 p110.2.2.2.2.1]]) rfl rfl co11 ⟨(hF.ev rfl), (hF.ev rfl), trivial⟩) (c_laws_eqPanel (x0 := p125.1) (x1 := p125.2.1) (x2 := p125.2.2.1) (x3 := p125.2.2.2.1) (x4 := p125.2.2.2.2.1) (x5 := p110.1) (x6 := p110.2.1) (x7 := p110.2.2.1) (x8 := p110.2.2.2.1) (x9 := p110.2.2.2.2.1) ⟨(S.rc 0 rfl), rfl⟩ ⟨(S.rc 5 rfl), rfl⟩ h132) ?_
        rintro e u ⟨rfl, T⟩
        refine ⟨_, rfl, ?_⟩
        clear hF; intro a hF
        replace S := S.call0 T; clear T
        refine op_val (v := .bool (!p132)) rfl rfl hF rfl (run_not rfl (hF.ev rfl)) ?_; clear hF; intro a hF
        refine op_val (v := .bool (!p132)) rfl rfl hF rfl (run_move rfl (hF.ev rfl)) ?_; clear hF; intro a hF
        refine op_gv (v := .bool p125.2.2.2.2.2) rfl rfl hF rfl (yf (gw_yield hF rfl rfl rfl)) (fun hg => (run_move rfl (hF.ev rfl))) ?_; clear hF; intro a hF
        refine op_gv (v := .bool p110.2.2.2.2.2) rfl rfl hF rfl (yf (gw_yield hF rfl rfl rfl)) (fun hg => (run_move rfl (hF.ev rfl))) ?_; clear hF; intro a hF
        refine op_gv (v := .bool (p125.2.2.2.2.2 != p110.2.2.2.2.2)) rfl rfl hF rfl (yf (gw_yield hF rfl rfl rfl)) (fun hg => (run_neqB ((hF.ev rfl).trans (gv_t hg)) ((hF.ev rfl).trans (gv_t hg)) Try.underlying4 rfl)) ?_; clear hF; intro a hF
        refine op_val (v := .bool ((!p132) || (p125.2.2.2.2.2 != p110.2.2.2.2.2))) rfl rfl hF rfl (run_pick_or rfl (hF.ev rfl) rfl (fun hp => ((hF.ev rfl).trans (gv_t (not_t hp))))) ?_; clear hF; intro a hF
        refine wpList_nil ?_
        cases hc133 : ((!p132) || (p125.2.2.2.2.2 != p110.2.2.2.2.2))
        · replace hM := bif_f hc133 hM
          refine cond_f hF rfl hc133 ?_
          refine wp_skip ?_
          refine wp_seq ?_
          refine wp_seq ?_
          obtain ⟨p134, h134, hM⟩ := bind_ex hM
          obtain ⟨p138, h138, hM⟩ := bind_ex hM
          refine region_gw (D := [47, 48, 49, 50, 51]) (Lr := [.row 4 1 (.slice B129 p125.1.length d130) p125.1.length (p125.1.flatMap eB), .box g131 28 #[.slice B129 p125.1.length d130, .int .i64 p125.2.1, .int .i64 p125.2.2.1, .bool p125.2.2.2.1, .int .i64 p125.2.2.2.2.1], .box g123 28 #[.slice B120 p119.1.length d122, .int .i64 p119.2.1, .int .i64 p119.2.2.1, .bool p119.2.2.2.1, .int .i64 p119.2.2.2.2], .row 4 1 (.slice B120 p119.1.length d122) p119.1.length (p119.1.flatMap eB), .row 4 1 (.slice B114 p105.1.length d115) p105.1.length (p105.1.flatMap eB), .row 4 1 (.slice B116 p110.1.length d117) p110.1.length (p110.1.flatMap eB), .box g118 28 #[.slice B116 p110.1.length d117, .int .i64 p110.2.1, .int .i64 p110.2.2.1, .bool p110.2.2.2.1, .int .i64 p110.2.2.2.2.1], .box g102 26 #[.int .i64 x5, .int .i64 x6, .int .i64 x7, .bool x8], .box g101 24 #[.slice A0 x0.length c0, .int .i64 x1, .int .i64 x2, .bool x3, .int .i64 x4]]) (deps := (fun | 0 => [47] | 1 => [48] | 2 => [49] | 3 => [50] | 4 => [51] | _ => [])) (rd := (fun | 3 => [2] | _ => [])) (zr := (fun _ => []))
            (φ := fun i vs => match i, vs with | 0, [v47] => v47 = .agg #[.slice B120 p119.1.length d122, .int .i64 p119.2.1, .int .i64 p119.2.2.1, .bool p119.2.2.2.1, .int .i64 p119.2.2.2.2] | 1, [v48] => v48 = .agg #[.slice A0 x0.length c0, .int .i64 x1, .int .i64 x2, .bool x3, .int .i64 x4] | 2, [v49] => v49 = .agg #[.slice (slA (vtup v49 0)) p134.1.length (slC (vtup v49 0)), .int .i64 p134.2.1, .int .i64 p134.2.2.1, .bool p134.2.2.2.1, .int .i64 p134.2.2.2.2] | 3, [v50] => v50 = .bool p138 | 4, [v51] => v51 = .bool (!p138) | _, _ => True)
            (C := fun i vs => match i, vs with | 2, [v49] => [.row 4 1 (.slice (slA (vtup v49 0)) p134.1.length (slC (vtup v49 0))) p134.1.length (p134.1.flatMap eB)] | _, _ => [])
            (κ := (fun _ => none)) (Z := (fun _ => [])) mixed hF (by kernel_rfl) S ?_ ?_
          · refine ⟨?_, ?_, ?_, ?_, ?_, trivial⟩
            · intro a u X hB hu hp hr hz hl S
              replace S : St w u ([] ++ X) := S
              exact .inl ⟨rfl, .agg #[.slice B120 p119.1.length d122, .int .i64 p119.2.1, .int .i64 p119.2.2.1, .bool p119.2.2.2.1, .int .i64 p119.2.2.2.2], u, (run_loadN rfl ag28 (hF.evB hB rfl rfl) rfl ((gr_box S hl 2 rfl).cells 0 #[.slice B120 p119.1.length d122, .int .i64 p119.2.1, .int .i64 p119.2.2.1, .bool p119.2.2.2.1, .int .i64 p119.2.2.2.2] rfl)), rfl, S⟩
            · intro a u X hB hu hp hr hz hl S
              replace S : St w u ([] ++ X) := S
              exact .inl ⟨rfl, .agg #[.slice A0 x0.length c0, .int .i64 x1, .int .i64 x2, .bool x3, .int .i64 x4], u, (run_loadN rfl ag24 (hF.evB hB rfl rfl) rfl ((gr_box S hl 8 rfl).cells 0 #[.slice A0 x0.length c0, .int .i64 x1, .int .i64 x2, .bool x3, .int .i64 x4] rfl)), rfl, S⟩
            · intro a u X hB hu hp hr hz hl S
              replace S : St w u ([] ++ X) := S
              have e48 : sl a 48 = .agg #[.slice A0 x0.length c0, .int .i64 x1, .int .i64 x2, .bool x3, .int .i64 x4] := hp 1 rfl
              refine .inr (.inr (.inl ⟨rfl, _, _, (run_call (vs := [.agg #[.slice A0 x0.length c0, .int .i64 x1, .int .i64 x2, .bool x3, .int .i64 x4]]) rfl rfl co8 ⟨(ev_sl e48), trivial⟩), ?_⟩))
              refine Calls.mono (c_laws_toPanel (x0 := x0) (x1 := x1) (x2 := x2) (x3 := x3) (x4 := x4) ⟨(S.rc0 h0.rc), rfl⟩ h134) ?_
              rintro e w1 ⟨B135, n136, d137, rfl, rfl, T⟩
              exact ⟨_, rfl, rfl, S.call1 T⟩
            · intro a u X hB hu hp hr hz hl S
              replace S : St w u ([] ++ X) := S
              have e47 : sl a 47 = .agg #[.slice B120 p119.1.length d122, .int .i64 p119.2.1, .int .i64 p119.2.2.1, .bool p119.2.2.2.1, .int .i64 p119.2.2.2.2] := hp 0 rfl
              have e49 : sl a 49 = .agg #[.slice (slA (vtup (sl a 49) 0)) p134.1.length (slC (vtup (sl a 49) 0)), .int .i64 p134.2.1, .int .i64 p134.2.2.1, .bool p134.2.2.2.1, .int .i64 p134.2.2.2.2] := hp 2 rfl
              refine .inr (.inr (.inl ⟨rfl, _, _, (run_call (vs := [.agg #[.slice B120 p119.1.length d122, .int .i64 p119.2.1, .int .i64 p119.2.2.1, .bool p119.2.2.2.1, .int .i64 p119.2.2.2.2], .agg #[.slice (slA (vtup (sl a 49) 0)) p134.1.length (slC (vtup (sl a 49) 0)), .int .i64 p134.2.1, .int .i64 p134.2.2.1, .bool p134.2.2.2.1, .int .i64 p134.2.2.2.2]]) rfl rfl co11 ⟨(ev_sl e47), (ev_sl e49), trivial⟩), ?_⟩))
              refine Calls.mono (c_laws_eqPanel (x0 := p119.1) (x1 := p119.2.1) (x2 := p119.2.2.1) (x3 := p119.2.2.2.1) (x4 := p119.2.2.2.2) (x5 := p134.1) (x6 := p134.2.1) (x7 := p134.2.2.1) (x8 := p134.2.2.2.1) (x9 := p134.2.2.2.2) ⟨(gr_rc S hl 3 rfl), rfl⟩ ⟨(own_rc (show World.ownsRow _ 0 _ _ _ _ _ from S.mem (List.mem_append_right _ (hr 2 (List.mem_of_getElem? (i := 0) rfl) _ (List.mem_of_getElem? (i := 0) rfl))))), rfl⟩ h138) ?_
              rintro e w1 ⟨rfl, T⟩
              exact ⟨_, rfl, rfl, S.call0 T⟩
            · intro a u X hB hu hp hr hz hl S
              replace S : St w u ([] ++ X) := S
              have e50 : sl a 50 = .bool p138 := hp 3 rfl
              exact .inl ⟨rfl, .bool (!p138), u, (run_not rfl (ev_sl e50)), rfl, S⟩
          · intro a u hB hp S
            obtain ⟨q0, q1, q2, q3, q4, _⟩ := hp
            have e47 : sl a 47 = .agg #[.slice B120 p119.1.length d122, .int .i64 p119.2.1, .int .i64 p119.2.2.1, .bool p119.2.2.2.1, .int .i64 p119.2.2.2.2] := q0
            have e48 : sl a 48 = .agg #[.slice A0 x0.length c0, .int .i64 x1, .int .i64 x2, .bool x3, .int .i64 x4] := q1
            have e49 : sl a 49 = .agg #[.slice (slA (vtup (sl a 49) 0)) p134.1.length (slC (vtup (sl a 49) 0)), .int .i64 p134.2.1, .int .i64 p134.2.2.1, .bool p134.2.2.2.1, .int .i64 p134.2.2.2.2] := q2
            have e50 : sl a 50 = .bool p138 := q3
            have e51 : sl a 51 = .bool (!p138) := q4
            replace S : St w u [.row 4 1 (.slice (slA (vtup (sl a 49) 0)) p134.1.length (slC (vtup (sl a 49) 0))) p134.1.length (p134.1.flatMap eB), .row 4 1 (.slice B129 p125.1.length d130) p125.1.length (p125.1.flatMap eB), .box g131 28 #[.slice B129 p125.1.length d130, .int .i64 p125.2.1, .int .i64 p125.2.2.1, .bool p125.2.2.2.1, .int .i64 p125.2.2.2.2.1], .box g123 28 #[.slice B120 p119.1.length d122, .int .i64 p119.2.1, .int .i64 p119.2.2.1, .bool p119.2.2.2.1, .int .i64 p119.2.2.2.2], .row 4 1 (.slice B120 p119.1.length d122) p119.1.length (p119.1.flatMap eB), .row 4 1 (.slice B114 p105.1.length d115) p105.1.length (p105.1.flatMap eB), .row 4 1 (.slice B116 p110.1.length d117) p110.1.length (p110.1.flatMap eB), .box g118 28 #[.slice B116 p110.1.length d117, .int .i64 p110.2.1, .int .i64 p110.2.2.1, .bool p110.2.2.2.1, .int .i64 p110.2.2.2.2.1], .box g102 26 #[.int .i64 x5, .int .i64 x6, .int .i64 x7, .bool x8], .box g101 24 #[.slice A0 x0.length c0, .int .i64 x1, .int .i64 x2, .bool x3, .int .i64 x4]] := S
            clear q0 q1 q2 q3 q4
            generalize slA (vtup (sl a 49) 0) = B139 at *
            generalize slC (vtup (sl a 49) 0) = d140 at *
            have hF := hF.region hB [(47, .agg #[.slice B120 p119.1.length d122, .int .i64 p119.2.1, .int .i64 p119.2.2.1, .bool p119.2.2.2.1, .int .i64 p119.2.2.2.2]), (48, .agg #[.slice A0 x0.length c0, .int .i64 x1, .int .i64 x2, .bool x3, .int .i64 x4]), (49, .agg #[.slice B139 p134.1.length d140, .int .i64 p134.2.1, .int .i64 p134.2.2.1, .bool p134.2.2.2.1, .int .i64 p134.2.2.2.2]), (50, .bool p138), (51, .bool (!p138))] (allSl_mem ⟨e47, e48, e49, e50, e51, trivial⟩) rfl
            clear hB e47 e48 e49 e50 e51
            cases hc141 : (p138)
            · replace hM := bif_f hc141 hM
              refine cond_t hF rfl (not_t hc141) ?_
              refine wp_seq ?_
              refine wp_region_lit ?_
              refine op_val (v := .bool false) rfl rfl hF rfl (run_assign rfl rfl) ?_; clear hF; intro a hF
              refine wpList_nil ?_
              refine wp_ret ?_
              repeat with_reducible (first | refine then_ret ?_ | refine in_ret ?_ | refine in_nrm ?_)
              refine ret1_gw (.inl rfl) hF rfl (res_tmp (hF.ev rfl)) ?_
              obtain rfl := Option.some.inj hM
              exact ⟨rfl, S.sel [] rfl rfl⟩
            · replace hM := bif_t hc141 hM
              refine cond_f hF rfl (not_f hc141) ?_
              refine wp_skip ?_
              refine wp_seq ?_
              refine wp_region_lit ?_
              refine op_val (v := .int .i64 1) rfl rfl hF rfl (run_assign rfl rfl) ?_; clear hF; intro a hF
              refine wpList_nil ?_
              refine wp_seq ?_
              refine wp_region_lit ?_
              refine op_val (v := .agg #[.slice B120 p119.1.length d122, .int .i64 p119.2.1, .int .i64 p119.2.2.1, .bool p119.2.2.2.1, .int .i64 p119.2.2.2.2]) rfl rfl hF rfl (run_loadN rfl ag28 (hF.ev rfl) rfl ((S.free 3 rfl).cells 0 #[.slice B120 p119.1.length d122, .int .i64 p119.2.1, .int .i64 p119.2.2.1, .bool p119.2.2.2.1, .int .i64 p119.2.2.2.2] rfl)) ?_; clear hF; intro a hF
              refine op_val (v := .int .i64 1) rfl rfl hF rfl (run_move rfl (hF.ev rfl)) ?_; clear hF; intro a hF
              obtain ⟨p142, h142, hM⟩ := bind_ex hM
              refine op_call rfl rfl hF rfl (run_call (vs := [.agg #[.slice B120 p119.1.length d122, .int .i64 p119.2.1, .int .i64 p119.2.2.1, .bool p119.2.2.2.1, .int .i64 p119.2.2.2.2], .int .i64 1]) rfl rfl co12 ⟨(hF.ev rfl), (hF.ev rfl), trivial⟩) (c_laws_markPanel (x0 := p119.1) (x1 := p119.2.1) (x2 := p119.2.2.1) (x3 := p119.2.2.2.1) (x4 := p119.2.2.2.2) (x5 := 1) rfl (show St w _ [.row 4 1 (.slice B120 p119.1.length d122) p119.1.length (p119.1.flatMap eB), .row 4 1 (.slice B139 p134.1.length d140) p134.1.length (p134.1.flatMap eB), .row 4 1 (.slice B129 p125.1.length d130) p125.1.length (p125.1.flatMap eB), .box g131 28 #[.slice B129 p125.1.length d130, .int .i64 p125.2.1, .int .i64 p125.2.2.1, .bool p125.2.2.2.1, .int .i64 p125.2.2.2.2.1], .box g123 28 #[.slice B120 p119.1.length d122, .int .i64 p119.2.1, .int .i64 p119.2.2.1, .bool p119.2.2.2.1, .int .i64 p119.2.2.2.2], .row 4 1 (.slice B114 p105.1.length d115) p105.1.length (p105.1.flatMap eB), .row 4 1 (.slice B116 p110.1.length d117) p110.1.length (p110.1.flatMap eB), .box g118 28 #[.slice B116 p110.1.length d117, .int .i64 p110.2.1, .int .i64 p110.2.2.1, .bool p110.2.2.2.1, .int .i64 p110.2.2.2.2.1], .box g102 26 #[.int .i64 x5, .int .i64 x6, .int .i64 x7, .bool x8], .box g101 24 #[.slice A0 x0.length c0, .int .i64 x1, .int .i64 x2, .bool x3, .int .i64 x4]] from S.sel [4, 0, 1, 2, 3, 5, 6, 7, 8, 9] rfl rfl) h142) ?_
              rintro e u ⟨rfl, hn143, T⟩
              refine ⟨_, rfl, ?_⟩
              clear hF; intro a hF
              clear S; have S := T; clear T
              refine op_val (v := .int .i64 p142.1) rfl rfl hF rfl (run_assign rfl (hF.ev rfl)) ?_; clear hF; intro a hF
              refine wpList_nil ?_
              refine wp_seq ?_
              refine wp_seq ?_
              refine wp_region_lit ?_
              refine op_val (v := .int .i64 p142.1) rfl rfl hF rfl (run_move rfl (hF.ev rfl)) ?_; clear hF; intro a hF
              refine op_val (v := .bool (ltB p142.1 0)) rfl rfl hF rfl (run_lss (hF.ev rfl) rfl rfl) ?_; clear hF; intro a hF
              refine op_val (v := .bool (ltB p142.1 0)) rfl rfl hF rfl (run_move rfl (hF.ev rfl)) ?_; clear hF; intro a hF
              refine op_gv (v := .agg #[.slice B129 p125.1.length d130, .int .i64 p125.2.1, .int .i64 p125.2.2.1, .bool p125.2.2.2.1, .int .i64 p125.2.2.2.2.1]) rfl rfl hF rfl (yf (gw_yield hF rfl rfl rfl)) (fun hg => (run_loadN rfl ag28 (hF.ev rfl) rfl ((S.free 3 rfl).cells 0 #[.slice B129 p125.1.length d130, .int .i64 p125.2.1, .int .i64 p125.2.2.1, .bool p125.2.2.2.1, .int .i64 p125.2.2.2.2.1] rfl))) ?_; clear hF; intro a hF
              refine op_gv (v := .agg #[.slice B116 p110.1.length d117, .int .i64 p110.2.1, .int .i64 p110.2.2.1, .bool p110.2.2.2.1, .int .i64 p110.2.2.2.2.1]) rfl rfl hF rfl (yf (gw_yield hF rfl rfl rfl)) (fun hg => (run_loadN rfl ag28 (hF.ev rfl) rfl ((S.free 7 rfl).cells 0 #[.slice B116 p110.1.length d117, .int .i64 p110.2.1, .int .i64 p110.2.2.1, .bool p110.2.2.2.1, .int .i64 p110.2.2.2.2.1] rfl))) ?_; clear hF; intro a hF
              obtain ⟨p144, h144, hM⟩ := bind_ex hM
              refine op_gcall (v := .bool p144) rfl rfl hF rfl S (yf (gw_yield hF rfl rfl rfl)) (fun hg => (run_call (vs := [.agg #[.slice B129 p125.1.length d130, .int .i64 p125.2.1, .int .i64 p125.2.2.1, .bool p125.2.2.2.1, .int .i64 p125.2.2.2.2.1], .agg #[.slice B116 p110.1.length d117, .int .i64 p110.2.1, .int .i64 p110.2.2.1, .bool p110.2.2.2.1, .int .i64 p110.2.2.2.2.1]]) rfl rfl co11 ⟨((hF.ev rfl).trans (gv_t hg)), ((hF.ev rfl).trans (gv_t hg)), trivial⟩)) (fun hg => c_laws_eqPanel (x0 := p125.1) (x1 := p125.2.1) (x2 := p125.2.2.1) (x3 := p125.2.2.2.1) (x4 := p125.2.2.2.2.1) (x5 := p110.1) (x6 := p110.2.1) (x7 := p110.2.2.1) (x8 := p110.2.2.2.1) (x9 := p110.2.2.2.2.1) ⟨(S.rc 2 rfl), rfl⟩ ⟨(S.rc 6 rfl), rfl⟩ (gb_t h144 hg)) ?_; clear hF S; intro a u hF S
              refine op_gv (v := .bool (!p144)) rfl rfl hF rfl (yf (gw_yield hF rfl rfl rfl)) (fun hg => (run_not rfl ((hF.ev rfl).trans (gv_t hg)))) ?_; clear hF; intro a hF
              refine op_val (v := .bool ((ltB p142.1 0) || (!p144))) rfl rfl hF rfl (run_pick_or rfl (hF.ev rfl) rfl (fun hp => ((hF.ev rfl).trans (gv_t (not_t hp))))) ?_; clear hF; intro a hF
              refine op_val (v := .bool ((ltB p142.1 0) || (!p144))) rfl rfl hF rfl (run_move rfl (hF.ev rfl)) ?_; clear hF; intro a hF
              refine op_gv (v := .bool p125.2.2.2.2.2) rfl rfl hF rfl (yf (gw_yield hF rfl rfl rfl)) (fun hg => (run_move rfl (hF.ev rfl))) ?_; clear hF; intro a hF
              refine op_gv (v := .bool p110.2.2.2.2.2) rfl rfl hF rfl (yf (gw_yield hF rfl rfl rfl)) (fun hg => (run_move rfl (hF.ev rfl))) ?_; clear hF; intro a hF
              refine op_gv (v := .bool (p125.2.2.2.2.2 != p110.2.2.2.2.2)) rfl rfl hF rfl (yf (gw_yield hF rfl rfl rfl)) (fun hg => (run_neqB ((hF.ev rfl).trans (gv_t hg)) ((hF.ev rfl).trans (gv_t hg)) Try.underlying4 rfl)) ?_; clear hF; intro a hF
              refine op_val (v := .bool (((ltB p142.1 0) || (!p144)) || (p125.2.2.2.2.2 != p110.2.2.2.2.2))) rfl rfl hF rfl (run_pick_or rfl (hF.ev rfl) rfl (fun hp => ((hF.ev rfl).trans (gv_t (not_t hp))))) ?_; clear hF; intro a hF
              refine wpList_nil ?_
              cases hc145 : (((ltB p142.1 0) || (!p144)) || (p125.2.2.2.2.2 != p110.2.2.2.2.2))
              · replace hM := bif_f hc145 hM
                refine cond_f hF rfl hc145 ?_
                refine wp_skip ?_
                refine wp_seq ?_
                refine wp_region_lit ?_
                refine op_val (v := .int .i64 1) rfl rfl hF rfl (run_assign rfl rfl) ?_; clear hF; intro a hF
                refine wpList_nil ?_
                refine wp_seq ?_
                refine wp_region_lit ?_
                refine op_val (v := .agg #[.slice B129 p125.1.length d130, .int .i64 p125.2.1, .int .i64 p125.2.2.1, .bool p125.2.2.2.1, .int .i64 p125.2.2.2.2.1]) rfl rfl hF rfl (run_loadN rfl ag28 (hF.ev rfl) rfl ((S.free 3 rfl).cells 0 #[.slice B129 p125.1.length d130, .int .i64 p125.2.1, .int .i64 p125.2.2.1, .bool p125.2.2.2.1, .int .i64 p125.2.2.2.2.1] rfl)) ?_; clear hF; intro a hF
                refine op_val (v := .int .i64 1) rfl rfl hF rfl (run_move rfl (hF.ev rfl)) ?_; clear hF; intro a hF
                obtain ⟨p146, h146, hM⟩ := bind_ex hM
                refine op_call rfl rfl hF rfl (run_call (vs := [.agg #[.slice B129 p125.1.length d130, .int .i64 p125.2.1, .int .i64 p125.2.2.1, .bool p125.2.2.2.1, .int .i64 p125.2.2.2.2.1], .int .i64 1]) rfl rfl co12 ⟨(hF.ev rfl), (hF.ev rfl), trivial⟩) (c_laws_markPanel (x0 := p125.1) (x1 := p125.2.1) (x2 := p125.2.2.1) (x3 := p125.2.2.2.1) (x4 := p125.2.2.2.2.1) (x5 := 1) rfl (show St w _ [.row 4 1 (.slice B129 p125.1.length d130) p125.1.length (p125.1.flatMap eB), .row 4 1 (.slice B120 p119.1.length d122) p119.1.length (p142.2.flatMap eB), .row 4 1 (.slice B139 p134.1.length d140) p134.1.length (p134.1.flatMap eB), .box g131 28 #[.slice B129 p125.1.length d130, .int .i64 p125.2.1, .int .i64 p125.2.2.1, .bool p125.2.2.2.1, .int .i64 p125.2.2.2.2.1], .box g123 28 #[.slice B120 p119.1.length d122, .int .i64 p119.2.1, .int .i64 p119.2.2.1, .bool p119.2.2.2.1, .int .i64 p119.2.2.2.2], .row 4 1 (.slice B114 p105.1.length d115) p105.1.length (p105.1.flatMap eB), .row 4 1 (.slice B116 p110.1.length d117) p110.1.length (p110.1.flatMap eB), .box g118 28 #[.slice B116 p110.1.length d117, .int .i64 p110.2.1, .int .i64 p110.2.2.1, .bool p110.2.2.2.1, .int .i64 p110.2.2.2.2.1], .box g102 26 #[.int .i64 x5, .int .i64 x6, .int .i64 x7, .bool x8], .box g101 24 #[.slice A0 x0.length c0, .int .i64 x1, .int .i64 x2, .bool x3, .int .i64 x4]] from S.sel [2, 0, 1, 3, 4, 5, 6, 7, 8, 9] rfl rfl) h146) ?_
                rintro e u ⟨rfl, hn147, T⟩
                refine ⟨_, rfl, ?_⟩
                clear hF; intro a hF
                clear S; have S := T; clear T
                refine op_val (v := .int .i64 p146.1) rfl rfl hF rfl (run_assign rfl (hF.ev rfl)) ?_; clear hF; intro a hF
                refine wpList_nil ?_
                refine wp_seq ?_
                refine wp_region_lit ?_
                refine op_val (v := .int .i64 1) rfl rfl hF rfl (run_assign rfl rfl) ?_; clear hF; intro a hF
                refine wpList_nil ?_
                refine wp_seq ?_
                refine wp_region_lit ?_
                refine op_val (v := .agg #[.slice B129 p125.1.length d130, .int .i64 p125.2.1, .int .i64 p125.2.2.1, .bool p125.2.2.2.1, .int .i64 p125.2.2.2.2.1]) rfl rfl hF rfl (run_loadN rfl ag28 (hF.ev rfl) rfl ((S.free 3 rfl).cells 0 #[.slice B129 p125.1.length d130, .int .i64 p125.2.1, .int .i64 p125.2.2.1, .bool p125.2.2.2.1, .int .i64 p125.2.2.2.2.1] rfl)) ?_; clear hF; intro a hF
                refine op_val (v := .int .i64 1) rfl rfl hF rfl (run_move rfl (hF.ev rfl)) ?_; clear hF; intro a hF
                obtain ⟨p148, h148, hM⟩ := bind_ex hM
                refine op_call rfl rfl hF rfl (run_call (vs := [.agg #[.slice B129 p125.1.length d130, .int .i64 p125.2.1, .int .i64 p125.2.2.1, .bool p125.2.2.2.1, .int .i64 p125.2.2.2.2.1], .int .i64 1]) rfl rfl co13 ⟨(hF.ev rfl), (hF.ev rfl), trivial⟩) (c_laws_heldPanel (x0 := p146.2) (x1 := p125.2.1) (x2 := p125.2.2.1) (x3 := p125.2.2.2.1) (x4 := p125.2.2.2.2.1) (x5 := 1) ⟨(S.rc 0 rfl), hn147⟩ h148) ?_
                rintro e u ⟨rfl, T⟩
                refine ⟨_, rfl, ?_⟩
                clear hF; intro a hF
                replace S := S.call0 T; clear T
                refine op_val (v := .int .i64 p148) rfl rfl hF rfl (run_assign rfl (hF.ev rfl)) ?_; clear hF; intro a hF
                refine wpList_nil ?_
                refine wp_seq ?_
                refine wp_seq ?_
                refine wp_region_lit ?_
                refine op_val (v := .int .i64 p148) rfl rfl hF rfl (run_move rfl (hF.ev rfl)) ?_; clear hF; intro a hF
                refine op_val (v := .bool (ltB p148 0)) rfl rfl hF rfl (run_lss (hF.ev rfl) rfl rfl) ?_; clear hF; intro a hF
                refine wpList_nil ?_
                cases hc149 : (ltB p148 0)
                · replace hM := bif_f hc149 hM
                  refine cond_f hF rfl hc149 ?_
                  refine wp_skip ?_
                  refine wp_seq ?_
                  refine wp_seq ?_
                  refine wp_region_lit ?_
                  refine op_val (v := .int .i64 p148) rfl rfl hF rfl (run_move rfl (hF.ev rfl)) ?_; clear hF; intro a hF
                  refine op_val (v := .int .i64 p146.1) rfl rfl hF rfl (run_move rfl (hF.ev rfl)) ?_; clear hF; intro a hF
                  refine op_val (v := .bool (p148 != p146.1)) rfl rfl hF rfl (run_neq (hF.ev rfl) (hF.ev rfl) rfl) ?_; clear hF; intro a hF
                  refine wpList_nil ?_
                  cases hc150 : (p148 != p146.1)
                  · replace hM := bif_f hc150 hM
                    refine cond_f hF rfl hc150 ?_
                    refine wp_skip ?_
                    refine wp_seq ?_
                    obtain ⟨p151, h151, hM⟩ := bind_ex hM
                    obtain ⟨p155, h155, hM⟩ := bind_ex hM
                    obtain ⟨p156, h156, hM⟩ := bind_ex hM
                    refine region_gw (D := [80, 81, 82, 83, 84, 79, 85, 86, 14, 15]) (Lr := [.row 4 1 (.slice B129 p125.1.length d130) p125.1.length (p146.2.flatMap eB), .row 4 1 (.slice B120 p119.1.length d122) p119.1.length (p142.2.flatMap eB), .row 4 1 (.slice B139 p134.1.length d140) p134.1.length (p134.1.flatMap eB), .box g131 28 #[.slice B129 p125.1.length d130, .int .i64 p125.2.1, .int .i64 p125.2.2.1, .bool p125.2.2.2.1, .int .i64 p125.2.2.2.2.1], .box g123 28 #[.slice B120 p119.1.length d122, .int .i64 p119.2.1, .int .i64 p119.2.2.1, .bool p119.2.2.2.1, .int .i64 p119.2.2.2.2], .row 4 1 (.slice B114 p105.1.length d115) p105.1.length (p105.1.flatMap eB), .row 4 1 (.slice B116 p110.1.length d117) p110.1.length (p110.1.flatMap eB), .box g118 28 #[.slice B116 p110.1.length d117, .int .i64 p110.2.1, .int .i64 p110.2.2.1, .bool p110.2.2.2.1, .int .i64 p110.2.2.2.2.1], .box g102 26 #[.int .i64 x5, .int .i64 x6, .int .i64 x7, .bool x8], .box g101 24 #[.slice A0 x0.length c0, .int .i64 x1, .int .i64 x2, .bool x3, .int .i64 x4]]) (deps := (fun | 0 => [80] | 1 => [81] | 2 => [82] | 3 => [83] | 4 => [84] | 5 => [79, 84] | 6 => [85, 84] | 7 => [86] | 8 => [14] | 9 => [14, 84] | 10 => [15] | _ => [])) (rd := (fun | 4 => [1] | _ => [])) (zr := (fun _ => []))
                      (φ := fun i vs => match i, vs with | 0, [v80] => v80 = .agg #[.slice A0 x0.length c0, .int .i64 x1, .int .i64 x2, .bool x3, .int .i64 x4] | 1, [v81] => v81 = .agg #[.slice (slA (vtup v81 0)) p151.1.length (slC (vtup v81 0)), .int .i64 p151.2.1, .int .i64 p151.2.2.1, .bool p151.2.2.2.1, .int .i64 p151.2.2.2.2] | 2, [v82] => v82 = .agg #[.int .i64 x5, .int .i64 x6, .int .i64 x7, .bool x8] | 3, [v83] => v83 = .agg #[.int .i64 p155.1, .int .i64 p155.2.1, .int .i64 p155.2.2.1, .bool p155.2.2.2] | 4, [v84] => v84 = .tuple #[.agg #[.slice (slA (vtup (vtup v84 0) 0)) p156.1.length (slC (vtup (vtup v84 0) 0)), .int .i64 p156.2.1, .int .i64 p156.2.2.1, .bool p156.2.2.2.1, .int .i64 p156.2.2.2.2.1], .bool p156.2.2.2.2.2] | 5, [v79, v84] => v79 = .tuple #[.agg #[.slice (slA (vtup (vtup v84 0) 0)) p156.1.length (slC (vtup (vtup v84 0) 0)), .int .i64 p156.2.1, .int .i64 p156.2.2.1, .bool p156.2.2.2.1, .int .i64 p156.2.2.2.2.1], .bool p156.2.2.2.2.2] | 6, [v85, v84] => v85 = .agg #[.slice (slA (vtup (vtup v84 0) 0)) p156.1.length (slC (vtup (vtup v84 0) 0)), .int .i64 p156.2.1, .int .i64 p156.2.2.1, .bool p156.2.2.2.1, .int .i64 p156.2.2.2.2.1] | 7, [v86] => v86 = .bool p156.2.2.2.2.2 | 8, [v14] => v14 = .pointer (some ⟨ptB v14, 0, none⟩) | 10, [v15] => v15 = .bool p156.2.2.2.2.2 | _, _ => True)
                      (C := fun i vs => match i, vs with | 1, [v81] => [.row 4 1 (.slice (slA (vtup v81 0)) p151.1.length (slC (vtup v81 0))) p151.1.length (p151.1.flatMap eB)] | 4, [v84] => [.row 4 1 (.slice (slA (vtup (vtup v84 0) 0)) p156.1.length (slC (vtup (vtup v84 0) 0))) p156.1.length (p156.1.flatMap eB)] | 8, [v14] => [.box (ptB v14) 28 #[.slice none 0 0, .int .i64 0, .int .i64 0, .bool false, .int .i64 0]] | 9, [v14, v84] => [.box (ptB v14) 28 #[.slice (slA (vtup (vtup v84 0) 0)) p156.1.length (slC (vtup (vtup v84 0) 0)), .int .i64 p156.2.1, .int .i64 p156.2.2.1, .bool p156.2.2.2.1, .int .i64 p156.2.2.2.2.1]] | _, _ => [])
                      (κ := (fun | 8 => some 9 | _ => none)) (Z := (fun _ => [])) mixed hF (by kernel_rfl) S ?_ ?_
                    · refine ⟨?_, ?_, ?_, ?_, ?_, ?_, ?_, ?_, ?_, ?_, ?_, trivial⟩
                      · intro a u X hB hu hp hr hz hl S
                        replace S : St w u ([] ++ X) := S
                        exact .inl ⟨rfl, .agg #[.slice A0 x0.length c0, .int .i64 x1, .int .i64 x2, .bool x3, .int .i64 x4], u, (run_loadN rfl ag24 (hF.evB hB rfl rfl) rfl ((gr_box S hl 9 rfl).cells 0 #[.slice A0 x0.length c0, .int .i64 x1, .int .i64 x2, .bool x3, .int .i64 x4] rfl)), rfl, S⟩
                      · intro a u X hB hu hp hr hz hl S
                        replace S : St w u ([] ++ X) := S
                        have e80 : sl a 80 = .agg #[.slice A0 x0.length c0, .int .i64 x1, .int .i64 x2, .bool x3, .int .i64 x4] := hp 0 rfl
                        refine .inr (.inr (.inl ⟨rfl, _, _, (run_call (vs := [.agg #[.slice A0 x0.length c0, .int .i64 x1, .int .i64 x2, .bool x3, .int .i64 x4]]) rfl rfl co8 ⟨(ev_sl e80), trivial⟩), ?_⟩))
                        refine Calls.mono (c_laws_toPanel (x0 := x0) (x1 := x1) (x2 := x2) (x3 := x3) (x4 := x4) ⟨(S.rc0 h0.rc), rfl⟩ h151) ?_
                        rintro e w1 ⟨B152, n153, d154, rfl, rfl, T⟩
                        exact ⟨_, rfl, rfl, S.call1 T⟩
                      · intro a u X hB hu hp hr hz hl S
                        replace S : St w u ([] ++ X) := S
                        exact .inl ⟨rfl, .agg #[.int .i64 x5, .int .i64 x6, .int .i64 x7, .bool x8], u, (run_loadN rfl ag26 (hF.evB hB rfl rfl) rfl ((gr_box S hl 8 rfl).cells 0 #[.int .i64 x5, .int .i64 x6, .int .i64 x7, .bool x8] rfl)), rfl, S⟩
                      · intro a u X hB hu hp hr hz hl S
                        replace S : St w u ([] ++ X) := S
                        have e82 : sl a 82 = .agg #[.int .i64 x5, .int .i64 x6, .int .i64 x7, .bool x8] := hp 2 rfl
                        refine .inr (.inr (.inl ⟨rfl, _, _, (run_call (vs := [.agg #[.int .i64 x5, .int .i64 x6, .int .i64 x7, .bool x8]]) rfl rfl co9 ⟨(ev_sl e82), trivial⟩), ?_⟩))
                        refine Calls.mono (c_laws_toCommand (x0 := x5) (x1 := x6) (x2 := x7) (x3 := x8)  h155) ?_
                        rintro e w1 ⟨rfl, T⟩
                        exact ⟨_, rfl, rfl, S.call0 T⟩
                      · intro a u X hB hu hp hr hz hl S
                        replace S : St w u ([] ++ X) := S
                        have e81 : sl a 81 = .agg #[.slice (slA (vtup (sl a 81) 0)) p151.1.length (slC (vtup (sl a 81) 0)), .int .i64 p151.2.1, .int .i64 p151.2.2.1, .bool p151.2.2.2.1, .int .i64 p151.2.2.2.2] := hp 1 rfl
                        have e83 : sl a 83 = .agg #[.int .i64 p155.1, .int .i64 p155.2.1, .int .i64 p155.2.2.1, .bool p155.2.2.2] := hp 3 rfl
                        refine .inr (.inr (.inl ⟨rfl, _, _, (run_call (vs := [.agg #[.slice (slA (vtup (sl a 81) 0)) p151.1.length (slC (vtup (sl a 81) 0)), .int .i64 p151.2.1, .int .i64 p151.2.2.1, .bool p151.2.2.2.1, .int .i64 p151.2.2.2.2], .agg #[.int .i64 p155.1, .int .i64 p155.2.1, .int .i64 p155.2.2.1, .bool p155.2.2.2]]) rfl rfl co10 ⟨(ev_sl e81), (ev_sl e83), trivial⟩), ?_⟩))
                        refine Calls.mono (c_impl_PanelDo (x0 := p151.1) (x1 := p151.2.1) (x2 := p151.2.2.1) (x3 := p151.2.2.2.1) (x4 := p151.2.2.2.2) (x5 := p155.1) (x6 := p155.2.1) (x7 := p155.2.2.1) (x8 := p155.2.2.2) ⟨(own_rc (show World.ownsRow _ 0 _ _ _ _ _ from S.mem (List.mem_append_right _ (hr 1 (List.mem_of_getElem? (i := 0) rfl) _ (List.mem_of_getElem? (i := 0) rfl))))), rfl⟩ h156) ?_
                        rintro e w1 ⟨B157, n158, d159, rfl, rfl, T⟩
                        exact ⟨_, rfl, rfl, S.call1 T⟩
                      · intro a u X hB hu hp hr hz hl S
                        replace S : St w u ([] ++ X) := S
                        have e84 : sl a 84 = .tuple #[.agg #[.slice (slA (vtup (vtup (sl a 84) 0) 0)) p156.1.length (slC (vtup (vtup (sl a 84) 0) 0)), .int .i64 p156.2.1, .int .i64 p156.2.2.1, .bool p156.2.2.2.1, .int .i64 p156.2.2.2.2.1], .bool p156.2.2.2.2.2] := hp 4 rfl
                        exact .inl ⟨rfl, .tuple #[.agg #[.slice (slA (vtup (vtup (sl a 84) 0) 0)) p156.1.length (slC (vtup (vtup (sl a 84) 0) 0)), .int .i64 p156.2.1, .int .i64 p156.2.2.1, .bool p156.2.2.2.1, .int .i64 p156.2.2.2.2.1], .bool p156.2.2.2.2.2], u, (run_move rfl (ev_sl e84)), rfl, S⟩
                      · intro a u X hB hu hp hr hz hl S
                        replace S : St w u ([] ++ X) := S
                        have e79 : sl a 79 = .tuple #[.agg #[.slice (slA (vtup (vtup (sl a 84) 0) 0)) p156.1.length (slC (vtup (vtup (sl a 84) 0) 0)), .int .i64 p156.2.1, .int .i64 p156.2.2.1, .bool p156.2.2.2.1, .int .i64 p156.2.2.2.2.1], .bool p156.2.2.2.2.2] := hp 5 rfl
                        exact .inl ⟨rfl, .agg #[.slice (slA (vtup (vtup (sl a 84) 0) 0)) p156.1.length (slC (vtup (vtup (sl a 84) 0) 0)), .int .i64 p156.2.1, .int .i64 p156.2.2.1, .bool p156.2.2.2.1, .int .i64 p156.2.2.2.2.1], u, (run_extract rfl (ev_sl e79) rfl), rfl, S⟩
                      · intro a u X hB hu hp hr hz hl S
                        replace S : St w u ([] ++ X) := S
                        have e79 : sl a 79 = .tuple #[.agg #[.slice (slA (vtup (vtup (sl a 84) 0) 0)) p156.1.length (slC (vtup (vtup (sl a 84) 0) 0)), .int .i64 p156.2.1, .int .i64 p156.2.2.1, .bool p156.2.2.2.1, .int .i64 p156.2.2.2.2.1], .bool p156.2.2.2.2.2] := hp 5 rfl
                        exact .inl ⟨rfl, .bool p156.2.2.2.2.2, u, (run_extract rfl (ev_sl e79) rfl), rfl, S⟩
                      · intro a u X hB hu hp hr hz hl S
                        replace S : St w u ([] ++ X) := S
                        exact .inl ⟨rfl, _, _, (run_allocZ rfl zr28), rfl, S.alloc _ _⟩
                      · intro a u X hB hu hp hr hz hl S
                        replace S : St w u ([.box (ptB (sl a 14)) 28 #[.slice none 0 0, .int .i64 0, .int .i64 0, .bool false, .int .i64 0]] ++ X) := S
                        have e14 : sl a 14 = .pointer (some ⟨ptB (sl a 14), 0, none⟩) := hp 8 rfl
                        have e85 : sl a 85 = .agg #[.slice (slA (vtup (vtup (sl a 84) 0) 0)) p156.1.length (slC (vtup (vtup (sl a 84) 0) 0)), .int .i64 p156.2.1, .int .i64 p156.2.2.1, .bool p156.2.2.2.1, .int .i64 p156.2.2.2.2.1] := hp 6 rfl
                        exact .inr (.inl ⟨rfl, _, run_store (cs' := #[.slice (slA (vtup (vtup (sl a 84) 0) 0)) p156.1.length (slC (vtup (vtup (sl a 84) 0) 0)), .int .i64 p156.2.1, .int .i64 p156.2.2.1, .bool p156.2.2.2.1, .int .i64 p156.2.2.2.2.1]) rfl sz28 (ev_sl e14) (ev_sl e85) rfl rfl rfl (S.free 0 rfl) rfl rfl, trivial, S.put 0 rfl (#[.slice (slA (vtup (vtup (sl a 84) 0) 0)) p156.1.length (slC (vtup (vtup (sl a 84) 0) 0)), .int .i64 p156.2.1, .int .i64 p156.2.2.1, .bool p156.2.2.2.1, .int .i64 p156.2.2.2.2.1])⟩)
                      · intro a u X hB hu hp hr hz hl S
                        replace S : St w u ([] ++ X) := S
                        have e86 : sl a 86 = .bool p156.2.2.2.2.2 := hp 7 rfl
                        exact .inl ⟨rfl, .bool p156.2.2.2.2.2, u, (run_assign rfl (ev_sl e86)), rfl, S⟩
                    · intro a u hB hp S
                      obtain ⟨q0, q1, q2, q3, q4, q5, q6, q7, q8, q9, q10, _⟩ := hp
                      have e80 : sl a 80 = .agg #[.slice A0 x0.length c0, .int .i64 x1, .int .i64 x2, .bool x3, .int .i64 x4] := q0
                      have e81 : sl a 81 = .agg #[.slice (slA (vtup (sl a 81) 0)) p151.1.length (slC (vtup (sl a 81) 0)), .int .i64 p151.2.1, .int .i64 p151.2.2.1, .bool p151.2.2.2.1, .int .i64 p151.2.2.2.2] := q1
                      have e82 : sl a 82 = .agg #[.int .i64 x5, .int .i64 x6, .int .i64 x7, .bool x8] := q2
                      have e83 : sl a 83 = .agg #[.int .i64 p155.1, .int .i64 p155.2.1, .int .i64 p155.2.2.1, .bool p155.2.2.2] := q3
                      have e84 : sl a 84 = .tuple #[.agg #[.slice (slA (vtup (vtup (sl a 84) 0) 0)) p156.1.length (slC (vtup (vtup (sl a 84) 0) 0)), .int .i64 p156.2.1, .int .i64 p156.2.2.1, .bool p156.2.2.2.1, .int .i64 p156.2.2.2.2.1], .bool p156.2.2.2.2.2] := q4
                      have e79 : sl a 79 = .tuple #[.agg #[.slice (slA (vtup (vtup (sl a 84) 0) 0)) p156.1.length (slC (vtup (vtup (sl a 84) 0) 0)), .int .i64 p156.2.1, .int .i64 p156.2.2.1, .bool p156.2.2.2.1, .int .i64 p156.2.2.2.2.1], .bool p156.2.2.2.2.2] := q5
                      have e85 : sl a 85 = .agg #[.slice (slA (vtup (vtup (sl a 84) 0) 0)) p156.1.length (slC (vtup (vtup (sl a 84) 0) 0)), .int .i64 p156.2.1, .int .i64 p156.2.2.1, .bool p156.2.2.2.1, .int .i64 p156.2.2.2.2.1] := q6
                      have e86 : sl a 86 = .bool p156.2.2.2.2.2 := q7
                      have e14 : sl a 14 = .pointer (some ⟨ptB (sl a 14), 0, none⟩) := q8
                      have e15 : sl a 15 = .bool p156.2.2.2.2.2 := q10
                      replace S : St w u [.row 4 1 (.slice (slA (vtup (sl a 81) 0)) p151.1.length (slC (vtup (sl a 81) 0))) p151.1.length (p151.1.flatMap eB), .row 4 1 (.slice (slA (vtup (vtup (sl a 84) 0) 0)) p156.1.length (slC (vtup (vtup (sl a 84) 0) 0))) p156.1.length (p156.1.flatMap eB), .box (ptB (sl a 14)) 28 #[.slice (slA (vtup (vtup (sl a 84) 0) 0)) p156.1.length (slC (vtup (vtup (sl a 84) 0) 0)), .int .i64 p156.2.1, .int .i64 p156.2.2.1, .bool p156.2.2.2.1, .int .i64 p156.2.2.2.2.1], .row 4 1 (.slice B129 p125.1.length d130) p125.1.length (p146.2.flatMap eB), .row 4 1 (.slice B120 p119.1.length d122) p119.1.length (p142.2.flatMap eB), .row 4 1 (.slice B139 p134.1.length d140) p134.1.length (p134.1.flatMap eB), .box g131 28 #[.slice B129 p125.1.length d130, .int .i64 p125.2.1, .int .i64 p125.2.2.1, .bool p125.2.2.2.1, .int .i64 p125.2.2.2.2.1], .box g123 28 #[.slice B120 p119.1.length d122, .int .i64 p119.2.1, .int .i64 p119.2.2.1, .bool p119.2.2.2.1, .int .i64 p119.2.2.2.2], .row 4 1 (.slice B114 p105.1.length d115) p105.1.length (p105.1.flatMap eB), .row 4 1 (.slice B116 p110.1.length d117) p110.1.length (p110.1.flatMap eB), .box g118 28 #[.slice B116 p110.1.length d117, .int .i64 p110.2.1, .int .i64 p110.2.2.1, .bool p110.2.2.2.1, .int .i64 p110.2.2.2.2.1], .box g102 26 #[.int .i64 x5, .int .i64 x6, .int .i64 x7, .bool x8], .box g101 24 #[.slice A0 x0.length c0, .int .i64 x1, .int .i64 x2, .bool x3, .int .i64 x4]] := S
                      clear q0 q1 q2 q3 q4 q5 q6 q7 q8 q9 q10
                      generalize slA (vtup (sl a 81) 0) = B160 at *
                      generalize slC (vtup (sl a 81) 0) = d161 at *
                      generalize slA (vtup (vtup (sl a 84) 0) 0) = B162 at *
                      generalize slC (vtup (vtup (sl a 84) 0) 0) = d163 at *
                      generalize ptB (sl a 14) = g164 at *
                      have hF := hF.region hB [(80, .agg #[.slice A0 x0.length c0, .int .i64 x1, .int .i64 x2, .bool x3, .int .i64 x4]), (81, .agg #[.slice B160 p151.1.length d161, .int .i64 p151.2.1, .int .i64 p151.2.2.1, .bool p151.2.2.2.1, .int .i64 p151.2.2.2.2]), (82, .agg #[.int .i64 x5, .int .i64 x6, .int .i64 x7, .bool x8]), (83, .agg #[.int .i64 p155.1, .int .i64 p155.2.1, .int .i64 p155.2.2.1, .bool p155.2.2.2]), (84, .tuple #[.agg #[.slice B162 p156.1.length d163, .int .i64 p156.2.1, .int .i64 p156.2.2.1, .bool p156.2.2.2.1, .int .i64 p156.2.2.2.2.1], .bool p156.2.2.2.2.2]), (79, .tuple #[.agg #[.slice B162 p156.1.length d163, .int .i64 p156.2.1, .int .i64 p156.2.2.1, .bool p156.2.2.2.1, .int .i64 p156.2.2.2.2.1], .bool p156.2.2.2.2.2]), (85, .agg #[.slice B162 p156.1.length d163, .int .i64 p156.2.1, .int .i64 p156.2.2.1, .bool p156.2.2.2.1, .int .i64 p156.2.2.2.2.1]), (86, .bool p156.2.2.2.2.2), (14, .pointer (some ⟨g164, 0, none⟩)), (15, .bool p156.2.2.2.2.2)] (allSl_mem ⟨e80, e81, e82, e83, e84, e79, e85, e86, e14, e15, trivial⟩) rfl
                      clear hB e80 e81 e82 e83 e84 e79 e85 e86 e14 e15
                      refine wp_seq ?_
                      refine wp_seq ?_
                      refine wp_region_lit ?_
                      refine op_val (v := .agg #[.slice B162 p156.1.length d163, .int .i64 p156.2.1, .int .i64 p156.2.2.1, .bool p156.2.2.2.1, .int .i64 p156.2.2.2.2.1]) rfl rfl hF rfl (run_loadN rfl ag28 (hF.ev rfl) rfl ((S.free 2 rfl).cells 0 #[.slice B162 p156.1.length d163, .int .i64 p156.2.1, .int .i64 p156.2.2.1, .bool p156.2.2.2.1, .int .i64 p156.2.2.2.2.1] rfl)) ?_; clear hF; intro a hF
                      refine op_val (v := .agg #[.slice B116 p110.1.length d117, .int .i64 p110.2.1, .int .i64 p110.2.2.1, .bool p110.2.2.2.1, .int .i64 p110.2.2.2.2.1]) rfl rfl hF rfl (run_loadN rfl ag28 (hF.ev rfl) rfl ((S.free 10 rfl).cells 0 #[.slice B116 p110.1.length d117, .int .i64 p110.2.1, .int .i64 p110.2.2.1, .bool p110.2.2.2.1, .int .i64 p110.2.2.2.2.1] rfl)) ?_; clear hF; intro a hF
                      obtain ⟨p165, h165, hM⟩ := bind_ex hM
                      refine op_call rfl rfl hF rfl (run_call (vs := [.agg #[.slice B162 p156.1.length d163, .int .i64 p156.2.1, .int .i64 p156.2.2.1, .bool p156.2.2.2.1, .int .i64 p156.2.2.2.2.1], .agg #[.slice B116 p110.1.length d117, .int .i64 p110.2.1, .int .i64 p110.2.2.1, .bool p110.2.2.2.1, .int .i64 p110.2.2.2.2.1]]) rfl rfl co11 ⟨(hF.ev rfl), (hF.ev rfl), trivial⟩) (c_laws_eqPanel (x0 := p156.1) (x1 := p156.2.1) (x2 := p156.2.2.1) (x3 := p156.2.2.2.1) (x4 := p156.2.2.2.2.1) (x5 := p110.1) (x6 := p110.2.1) (x7 := p110.2.2.1) (x8 := p110.2.2.2.1) (x9 := p110.2.2.2.2.1) ⟨(S.rc 1 rfl), rfl⟩ ⟨(S.rc 9 rfl), rfl⟩ h165) ?_
                      rintro e u ⟨rfl, T⟩
                      refine ⟨_, rfl, ?_⟩
                      clear hF; intro a hF
                      replace S := S.call0 T; clear T
                      refine op_val (v := .bool (!p165)) rfl rfl hF rfl (run_not rfl (hF.ev rfl)) ?_; clear hF; intro a hF
                      refine op_val (v := .bool (!p165)) rfl rfl hF rfl (run_move rfl (hF.ev rfl)) ?_; clear hF; intro a hF
                      refine op_gv (v := .bool p156.2.2.2.2.2) rfl rfl hF rfl (yf (gw_yield hF rfl rfl rfl)) (fun hg => (run_move rfl (hF.ev rfl))) ?_; clear hF; intro a hF
                      refine op_gv (v := .bool p110.2.2.2.2.2) rfl rfl hF rfl (yf (gw_yield hF rfl rfl rfl)) (fun hg => (run_move rfl (hF.ev rfl))) ?_; clear hF; intro a hF
                      refine op_gv (v := .bool (p156.2.2.2.2.2 != p110.2.2.2.2.2)) rfl rfl hF rfl (yf (gw_yield hF rfl rfl rfl)) (fun hg => (run_neqB ((hF.ev rfl).trans (gv_t hg)) ((hF.ev rfl).trans (gv_t hg)) Try.underlying4 rfl)) ?_; clear hF; intro a hF
                      refine op_val (v := .bool ((!p165) || (p156.2.2.2.2.2 != p110.2.2.2.2.2))) rfl rfl hF rfl (run_pick_or rfl (hF.ev rfl) rfl (fun hp => ((hF.ev rfl).trans (gv_t (not_t hp))))) ?_; clear hF; intro a hF
                      refine wpList_nil ?_
                      cases hc166 : ((!p165) || (p156.2.2.2.2.2 != p110.2.2.2.2.2))
                      · replace hM := bif_f hc166 hM
                        refine cond_f hF rfl hc166 ?_
                        refine wp_skip ?_
                        refine wp_seq ?_
                        refine wp_region_lit ?_
                        refine op_val (v := .int .i64 1) rfl rfl hF rfl (run_assign rfl rfl) ?_; clear hF; intro a hF
                        refine wpList_nil ?_
                        refine wp_seq ?_
                        refine wp_region_lit ?_
                        refine op_val (v := .agg #[.slice B129 p125.1.length d130, .int .i64 p125.2.1, .int .i64 p125.2.2.1, .bool p125.2.2.2.1, .int .i64 p125.2.2.2.2.1]) rfl rfl hF rfl (run_loadN rfl ag28 (hF.ev rfl) rfl ((S.free 6 rfl).cells 0 #[.slice B129 p125.1.length d130, .int .i64 p125.2.1, .int .i64 p125.2.2.1, .bool p125.2.2.2.1, .int .i64 p125.2.2.2.2.1] rfl)) ?_; clear hF; intro a hF
                        refine op_val (v := .int .i64 1) rfl rfl hF rfl (run_move rfl (hF.ev rfl)) ?_; clear hF; intro a hF
                        obtain ⟨p167, h167, hM⟩ := bind_ex hM
                        refine op_call rfl rfl hF rfl (run_call (vs := [.agg #[.slice B129 p125.1.length d130, .int .i64 p125.2.1, .int .i64 p125.2.2.1, .bool p125.2.2.2.1, .int .i64 p125.2.2.2.2.1], .int .i64 1]) rfl rfl co13 ⟨(hF.ev rfl), (hF.ev rfl), trivial⟩) (c_laws_heldPanel (x0 := p146.2) (x1 := p125.2.1) (x2 := p125.2.2.1) (x3 := p125.2.2.2.1) (x4 := p125.2.2.2.2.1) (x5 := 1) ⟨(S.rc 3 rfl), hn147⟩ h167) ?_
                        rintro e u ⟨rfl, T⟩
                        refine ⟨_, rfl, ?_⟩
                        clear hF; intro a hF
                        replace S := S.call0 T; clear T
                        refine op_val (v := .int .i64 p167) rfl rfl hF rfl (run_assign rfl (hF.ev rfl)) ?_; clear hF; intro a hF
                        refine wpList_nil ?_
                        refine wp_seq ?_
                        refine wp_seq ?_
                        refine wp_region_lit ?_
                        refine op_val (v := .int .i64 p167) rfl rfl hF rfl (run_move rfl (hF.ev rfl)) ?_; clear hF; intro a hF
                        refine op_val (v := .bool (ltB p167 0)) rfl rfl hF rfl (run_lss (hF.ev rfl) rfl rfl) ?_; clear hF; intro a hF
                        refine wpList_nil ?_
                        cases hc168 : (ltB p167 0)
                        · replace hM := bif_f hc168 hM
                          refine cond_f hF rfl hc168 ?_
                          refine wp_skip ?_
                          refine wp_seq ?_
                          refine wp_seq ?_
                          refine wp_region_lit ?_
                          refine op_val (v := .int .i64 p167) rfl rfl hF rfl (run_move rfl (hF.ev rfl)) ?_; clear hF; intro a hF
                          refine op_val (v := .int .i64 p146.1) rfl rfl hF rfl (run_move rfl (hF.ev rfl)) ?_; clear hF; intro a hF
                          refine op_val (v := .bool (p167 != p146.1)) rfl rfl hF rfl (run_neq (hF.ev rfl) (hF.ev rfl) rfl) ?_; clear hF; intro a hF
                          refine wpList_nil ?_
                          cases hc169 : (p167 != p146.1)
                          · replace hM := bif_f hc169 hM
                            refine cond_f hF rfl hc169 ?_
                            refine wp_skip ?_
                            refine wp_seq ?_
                            refine wp_region_lit ?_
                            refine op_val (v := .bool true) rfl rfl hF rfl (run_assign rfl rfl) ?_; clear hF; intro a hF
                            refine wpList_nil ?_
                            refine wp_ret ?_
                            repeat with_reducible (first | refine then_ret ?_ | refine in_ret ?_ | refine in_nrm ?_)
                            refine ret1_gw (.inl rfl) hF rfl (res_tmp (hF.ev rfl)) ?_
                            obtain rfl := Option.some.inj hM
                            exact ⟨rfl, S.sel [] rfl rfl⟩
                          · replace hM := bif_t hc169 hM
                            refine cond_t hF rfl hc169 ?_
                            refine wp_seq ?_
                            refine wp_region_lit ?_
                            refine op_val (v := .bool false) rfl rfl hF rfl (run_assign rfl rfl) ?_; clear hF; intro a hF
                            refine wpList_nil ?_
                            refine wp_ret ?_
                            repeat with_reducible (first | refine then_ret ?_ | refine in_ret ?_ | refine in_nrm ?_)
                            refine ret1_gw (.inl rfl) hF rfl (res_tmp (hF.ev rfl)) ?_
                            obtain rfl := Option.some.inj hM
                            exact ⟨rfl, S.sel [] rfl rfl⟩
                        · replace hM := bif_t hc168 hM
                          refine cond_t hF rfl hc168 ?_
                          refine wp_seq ?_
                          refine wp_region_lit ?_
                          refine op_val (v := .bool false) rfl rfl hF rfl (run_assign rfl rfl) ?_; clear hF; intro a hF
                          refine wpList_nil ?_
                          refine wp_ret ?_
                          repeat with_reducible (first | refine then_ret ?_ | refine in_ret ?_ | refine in_nrm ?_)
                          refine ret1_gw (.inl rfl) hF rfl (res_tmp (hF.ev rfl)) ?_
                          obtain rfl := Option.some.inj hM
                          exact ⟨rfl, S.sel [] rfl rfl⟩
                      · replace hM := bif_t hc166 hM
                        refine cond_t hF rfl hc166 ?_
                        refine wp_seq ?_
                        refine wp_region_lit ?_
                        refine op_val (v := .bool false) rfl rfl hF rfl (run_assign rfl rfl) ?_; clear hF; intro a hF
                        refine wpList_nil ?_
                        refine wp_ret ?_
                        repeat with_reducible (first | refine then_ret ?_ | refine in_ret ?_ | refine in_nrm ?_)
                        refine ret1_gw (.inl rfl) hF rfl (res_tmp (hF.ev rfl)) ?_
                        obtain rfl := Option.some.inj hM
                        exact ⟨rfl, S.sel [] rfl rfl⟩
                  · replace hM := bif_t hc150 hM
                    refine cond_t hF rfl hc150 ?_
                    refine wp_seq ?_
                    refine wp_region_lit ?_
                    refine op_val (v := .bool false) rfl rfl hF rfl (run_assign rfl rfl) ?_; clear hF; intro a hF
                    refine wpList_nil ?_
                    refine wp_ret ?_
                    repeat with_reducible (first | refine then_ret ?_ | refine in_ret ?_ | refine in_nrm ?_)
                    refine ret1_gw (.inl rfl) hF rfl (res_tmp (hF.ev rfl)) ?_
                    obtain rfl := Option.some.inj hM
                    exact ⟨rfl, S.sel [] rfl rfl⟩
                · replace hM := bif_t hc149 hM
                  refine cond_t hF rfl hc149 ?_
                  refine wp_seq ?_
                  refine wp_region_lit ?_
                  refine op_val (v := .bool false) rfl rfl hF rfl (run_assign rfl rfl) ?_; clear hF; intro a hF
                  refine wpList_nil ?_
                  refine wp_ret ?_
                  repeat with_reducible (first | refine then_ret ?_ | refine in_ret ?_ | refine in_nrm ?_)
                  refine ret1_gw (.inl rfl) hF rfl (res_tmp (hF.ev rfl)) ?_
                  obtain rfl := Option.some.inj hM
                  exact ⟨rfl, S.sel [] rfl rfl⟩
              · replace hM := bif_t hc145 hM
                refine cond_t hF rfl hc145 ?_
                refine wp_seq ?_
                refine wp_region_lit ?_
                refine op_val (v := .bool false) rfl rfl hF rfl (run_assign rfl rfl) ?_; clear hF; intro a hF
                refine wpList_nil ?_
                refine wp_ret ?_
                repeat with_reducible (first | refine then_ret ?_ | refine in_ret ?_ | refine in_nrm ?_)
                refine ret1_gw (.inl rfl) hF rfl (res_tmp (hF.ev rfl)) ?_
                obtain rfl := Option.some.inj hM
                exact ⟨rfl, S.sel [] rfl rfl⟩
        · replace hM := bif_t hc133 hM
          refine cond_t hF rfl hc133 ?_
          refine wp_seq ?_
          refine wp_region_lit ?_
          refine op_val (v := .bool false) rfl rfl hF rfl (run_assign rfl rfl) ?_; clear hF; intro a hF
          refine wpList_nil ?_
          refine wp_ret ?_
          repeat with_reducible (first | refine then_ret ?_ | refine in_ret ?_ | refine in_nrm ?_)
          refine ret1_gw (.inl rfl) hF rfl (res_tmp (hF.ev rfl)) ?_
          obtain rfl := Option.some.inj hM
          exact ⟨rfl, S.sel [] rfl rfl⟩
  · replace hM := bif_t hc104 hM
    refine cond_t hF rfl hc104 ?_
    refine wp_seq ?_
    refine wp_region_lit ?_
    refine op_val (v := .bool true) rfl rfl hF rfl (run_assign rfl rfl) ?_; clear hF; intro a hF
    refine wpList_nil ?_
    refine wp_ret ?_
    repeat with_reducible (first | refine then_ret ?_ | refine in_ret ?_ | refine in_nrm ?_)
    refine ret1_gw (.inl rfl) hF rfl (res_tmp (hF.ev rfl)) ?_
    obtain rfl := Option.some.inj hM
    exact ⟨rfl, S.sel [] rfl rfl⟩

set_option maxHeartbeats 4000000 in
theorem c_laws_szCommandS {x0 : List (Int × Int × Int × Bool)} {x1 : Int} {A0 : Option Addr} {n0 c0 : Nat} {w : World} {r : Int} (h0 : Rt w 4 eLCommand A0 n0 c0 x0) (hM : m_laws_szCommandS x0 x1 = some r) :
    Calls Try.prog 14 #[.slice A0 n0 c0, .int .i64 x1] w (fun e w' => e = .returned (.int .i64 r) ∧ St w w' []) := by
  obtain rfl := h0.len
  unfold m_laws_szCommandS at hM
  refine calls_gw Try.func14 Try.ntmps14 rfl [(0, .slice A0 x0.length c0), (1, .int .i64 x1)] ⟨rfl, rfl, trivial⟩ rfl ?_
  intro a hF
  have S := St.nil w
  refine wp_seq ?_
  refine wp_region_lit ?_
  refine op_val (v := .int .i64 0) rfl rfl hF rfl (run_assign rfl rfl) ?_; clear hF; intro a hF
  refine wpList_nil ?_
  refine wp_seq ?_
  refine wp_region_lit ?_
  refine op_val (v := .int .i64 x1) rfl rfl hF rfl (run_move rfl (hF.ev rfl)) ?_; clear hF; intro a hF
  refine op_val (v := .slice A0 x0.length c0) rfl rfl hF rfl (run_move rfl (hF.ev rfl)) ?_; clear hF; intro a hF
  refine op_val (v := .int .i64 (x0.length : Int)) rfl rfl hF rfl (run_lenL rfl rfl Try.underlying37 (hF.ev rfl)) ?_; clear hF; intro a hF
  refine op_val (v := .int .i64 (w64 (x1 - (x0.length : Int)))) rfl rfl hF rfl (run_sub (z := w64 (x1 - (x0.length : Int))) (hF.ev rfl) (hF.ev rfl) rfl rfl) ?_; clear hF; intro a hF
  refine op_val (v := .int .i64 (w64 (x1 - (x0.length : Int)))) rfl rfl hF rfl (run_assign rfl (hF.ev rfl)) ?_; clear hF; intro a hF
  refine wpList_nil ?_
  refine wp_seq ?_
  refine wp_seq ?_
  refine wp_region_lit ?_
  refine op_val (v := .int .i64 (w64 (x1 - (x0.length : Int)))) rfl rfl hF rfl (run_move rfl (hF.ev rfl)) ?_; clear hF; intro a hF
  refine op_val (v := .bool (ltB (w64 (x1 - (x0.length : Int))) 0)) rfl rfl hF rfl (run_lss (hF.ev rfl) rfl rfl) ?_; clear hF; intro a hF
  refine wpList_nil ?_
  cases hc101 : (ltB (w64 (x1 - (x0.length : Int))) 0)
  · replace hM := bif_f hc101 hM
    refine cond_f hF rfl hc101 ?_
    refine wp_skip ?_
    refine wp_seq ?_
    refine wp_region_lit ?_
    refine op_val (v := .int .i64 (w64 (x1 - (x0.length : Int)))) rfl rfl hF rfl (run_move rfl (hF.ev rfl)) ?_; clear hF; intro a hF
    refine op_val (v := .int .i64 (w64 (x1 - (x0.length : Int)))) rfl rfl hF rfl (run_assign rfl (hF.ev rfl)) ?_; clear hF; intro a hF
    refine wpList_nil ?_
    refine wp_ret ?_
    repeat with_reducible (first | refine then_ret ?_ | refine in_ret ?_ | refine in_nrm ?_)
    refine ret1_gw (.inl rfl) hF rfl (res_tmp (hF.ev rfl)) ?_
    obtain rfl := Option.some.inj hM
    exact ⟨rfl, S.sel [] rfl rfl⟩
  · replace hM := bif_t hc101 hM
    refine cond_t hF rfl hc101 ?_
    refine wp_seq ?_
    refine wp_region_lit ?_
    refine op_val (v := .int .i64 (-1)) rfl rfl hF rfl (run_assign rfl rfl) ?_; clear hF; intro a hF
    refine wpList_nil ?_
    refine wp_ret ?_
    repeat with_reducible (first | refine then_ret ?_ | refine in_ret ?_ | refine in_nrm ?_)
    refine ret1_gw (.inl rfl) hF rfl (res_tmp (hF.ev rfl)) ?_
    obtain rfl := Option.some.inj hM
    exact ⟨rfl, S.sel [] rfl rfl⟩

set_option maxHeartbeats 4000000 in
theorem c_laws_toCommandS {x0 : List (Int × Int × Int × Bool)} {A0 : Option Addr} {n0 c0 : Nat} {w : World} {r : List (Int × Int × Int × Bool)} (h0 : Rt w 4 eLCommand A0 n0 c0 x0) (hM : m_laws_toCommandS x0 = some r) :
    Calls Try.prog 16 #[.slice A0 n0 c0] w (fun e w' => ∃ (B0 : Option Addr) (N0 D0 : Nat), e = .returned (.slice B0 N0 D0) ∧ N0 = r.length ∧ St w w' [.row 32 4 (.slice B0 N0 D0) N0 (r.flatMap eCommand)]) := by
  obtain rfl := h0.len
  unfold m_laws_toCommandS at hM
  refine calls_gw Try.func16 Try.ntmps16 rfl [(0, .slice A0 x0.length c0)] ⟨rfl, trivial⟩ rfl ?_
  intro a hF
  have S := St.nil w
  refine wp_seq ?_
  refine wp_region_lit ?_
  refine op_val (v := .slice none 0 0) rfl rfl hF rfl (run_assign rfl rfl) ?_; clear hF; intro a hF
  refine wpList_nil ?_
  refine wp_seq ?_
  refine wp_region_lit ?_
  refine op_val (v := .slice A0 x0.length c0) rfl rfl hF rfl (run_move rfl (hF.ev rfl)) ?_; clear hF; intro a hF
  refine op_val (v := .int .i64 (x0.length : Int)) rfl rfl hF rfl (run_lenL rfl rfl Try.underlying37 (hF.ev rfl)) ?_; clear hF; intro a hF
  obtain ⟨hk102, hM⟩ := chk_ex hM
  replace hk102 := mkB_t hk102
  refine op_newrowL (m := x0.length) (ls := List.replicate x0.length ((0, 0, 0, false) : Int × Int × Int × Bool)) (e := eCommand) rfl rfl hF rfl S (run_makeL rfl (hF.ev rfl) (hF.ev rfl) Try.underlying41 inf32 eCommand_len rfl (by decide) hk102) List.length_replicate eCommand_len (by rw [List.length_replicate]; omega) ?_; clear hF S; intro a g101 u hF S
  refine op_val (v := .slice (some ⟨g101, 0, none⟩) x0.length x0.length) rfl rfl hF rfl (run_assign rfl (hF.ev rfl)) ?_; clear hF; intro a hF
  refine wpList_nil ?_
  refine wp_seq ?_
  refine wp_seq ?_
  refine wp_region_lit ?_
  refine op_val (v := .int .i64 0) rfl rfl hF rfl (run_assign rfl rfl) ?_; clear hF; intro a hF
  refine wpList_nil ?_
  obtain ⟨o104, hM106, hM⟩ := bind_ex hM
  refine wp_cut (fun a u => ∃ (p103 : List (Int × Int × Int × Bool)), p103 = o104 ∧ x0.length = p103.length ∧ Fr a 23 [(2, .slice none 0 0), (3, .slice (some ⟨g101, 0, none⟩) x0.length x0.length)] ∧ St w u [.row 32 4 (.slice (some ⟨g101, 0, none⟩) x0.length x0.length) x0.length (p103.flatMap eCommand)]) ?_ ?_
  · have _ := trivial
    refine wp_block ?_
    refine loop_gw (fun m a u => ∃ (p107 : List (Int × Int × Int × Bool) × Int), m_laws_toCommandS_l1 x0 m p107 = some _ ∧ x0.length = p107.1.length ∧ Fr a 23 [(0, .slice A0 x0.length c0), (2, .slice none 0 0), (3, .slice (some ⟨g101, 0, none⟩) x0.length x0.length), (4, .int .i64 p107.2)] ∧ St w u [.row 32 4 (.slice (some ⟨g101, 0, none⟩) x0.length x0.length) x0.length (p107.1.flatMap eCommand)]) FUEL ⟨(List.replicate x0.length ((0, 0, 0, false) : Int × Int × Int × Bool), 0), hM106, List.length_replicate.symm, hF.keep _ ⟨rfl, rfl, rfl, rfl, trivial⟩, S.sel [0] rfl rfl⟩ ?_
    clear hF S hM106; rintro m a u ⟨p107, hM106, hn108, hF, S⟩
    rcases m with _ | f1
    · exact none_some hM106
    rw [m_laws_toCommandS_l1.eq_2] at hM106
    refine wp_seq ?_
    refine wp_seq ?_
    refine wp_region_lit ?_
    refine op_val (v := .int .i64 p107.2) rfl rfl hF rfl (run_move rfl (hF.ev rfl)) ?_; clear hF; intro a hF
    refine op_val (v := .slice A0 x0.length c0) rfl rfl hF rfl (run_move rfl (hF.ev rfl)) ?_; clear hF; intro a hF
    refine op_val (v := .int .i64 (x0.length : Int)) rfl rfl hF rfl (run_lenL rfl rfl Try.underlying37 (hF.ev rfl)) ?_; clear hF; intro a hF
    refine op_val (v := .bool (ltB p107.2 (x0.length : Int))) rfl rfl hF rfl (run_lss (hF.ev rfl) (hF.ev rfl) rfl) ?_; clear hF; intro a hF
    refine wpList_nil ?_
    cases hc109 : (ltB p107.2 (x0.length : Int))
    · replace hM106 := bif_f hc109 hM106
      refine cond_f hF rfl hc109 ?_
      refine wp_exit ?_
      repeat with_reducible (first | refine then_exit ?_ | refine in_hit ?_ | refine in_miss rfl ?_)
      obtain rfl := Option.some.inj hM106
      exact ⟨p107.1, rfl, hn108, hF.keep _ ⟨rfl, rfl, trivial⟩, S.sel [0] rfl rfl⟩
    · replace hM106 := bif_t hc109 hM106
      refine cond_t hF rfl hc109 ?_
      refine wp_skip ?_
      refine wp_seq ?_
      refine wp_block ?_
      refine wp_region_lit ?_
      refine op_val (v := .slice (some ⟨g101, 0, none⟩) x0.length x0.length) rfl rfl hF rfl (run_move rfl (hF.ev rfl)) ?_; clear hF; intro a hF
      refine op_val (v := .int .i64 p107.2) rfl rfl hF rfl (run_move rfl (hF.ev rfl)) ?_; clear hF; intro a hF
      refine op_val (v := .slice A0 x0.length c0) rfl rfl hF rfl (run_move rfl (hF.ev rfl)) ?_; clear hF; intro a hF
      refine op_val (v := .int .i64 p107.2) rfl rfl hF rfl (run_move rfl (hF.ev rfl)) ?_; clear hF; intro a hF
      obtain ⟨hk110, hM106⟩ := chk_ex hM106
      replace hk110 := ixB_t hk110
      refine op_val (v := .pointer (some ⟨adB A0, adO A0 + p107.2.toNat * 4, none⟩)) rfl rfl hF rfl (run_indexAddr (b := adB A0) (off := adO A0) rfl Try.underlying37 sz26 ((hF.ev rfl).trans (congrArg (fun A => Value.slice A x0.length c0) ((S.rc0 h0.rc).rd.ad (ix_pos hk110)))) (hF.ev rfl) hk110.1 hk110.2 (k' := adO A0 + p107.2.toNat * 4) rfl) ?_; clear hF; intro a hF
      refine op_val (v := .agg #[.int .i64 ((x0.getD p107.2.toNat ((0, 0, 0, false) : Int × Int × Int × Bool)).1), .int .i64 ((x0.getD p107.2.toNat ((0, 0, 0, false) : Int × Int × Int × Bool)).2.1), .int .i64 ((x0.getD p107.2.toNat ((0, 0, 0, false) : Int × Int × Int × Bool)).2.2.1), .bool ((x0.getD p107.2.toNat ((0, 0, 0, false) : Int × Int × Int × Bool)).2.2.2)]) rfl rfl hF rfl (run_loadN (cs := #[.int .i64 ((x0.getD p107.2.toNat ((0, 0, 0, false) : Int × Int × Int × Bool)).1), .int .i64 ((x0.getD p107.2.toNat ((0, 0, 0, false) : Int × Int × Int × Bool)).2.1), .int .i64 ((x0.getD p107.2.toNat ((0, 0, 0, false) : Int × Int × Int × Bool)).2.2.1), .bool ((x0.getD p107.2.toNat ((0, 0, 0, false) : Int × Int × Int × Bool)).2.2.2)]) rfl ag26 (hF.ev rfl) rfl (rd_elN (l := x0) (S.rc0 h0.rc).rd rfl eLCommand_len ((0, 0, 0, false) : Int × Int × Int × Bool) (ix_ltn hk110 rfl) rfl)) ?_; clear hF; intro a hF
      obtain ⟨p111, h111, hM106⟩ := bind_ex hM106
      refine op_call rfl rfl hF rfl (run_call (vs := [.agg #[.int .i64 ((x0.getD p107.2.toNat ((0, 0, 0, false) : Int × Int × Int × Bool)).1), .int .i64 ((x0.getD p107.2.toNat ((0, 0, 0, false) : Int × Int × Int × Bool)).2.1), .int .i64 ((x0.getD p107.2.toNat ((0, 0, 0, false) : Int × Int × Int × Bool)).2.2.1), .bool ((x0.getD p107.2.toNat ((0, 0, 0, false) : Int × Int × Int × Bool)).2.2.2)]]) rfl rfl co9 ⟨(hF.ev rfl), trivial⟩) (c_laws_toCommand (x0 := (x0.getD p107.2.toNat ((0, 0, 0, false) : Int × Int × Int × Bool)).1) (x1 := (x0.getD p107.2.toNat ((0, 0, 0, false) : Int × Int × Int × Bool)).2.1) (x2 := (x0.getD p107.2.toNat ((0, 0, 0, false) : Int × Int × Int × Bool)).2.2.1) (x3 := (x0.getD p107.2.toNat ((0, 0, 0, false) : Int × Int × Int × Bool)).2.2.2)  h111) ?_
      rintro e u ⟨rfl, T⟩
      refine ⟨_, rfl, ?_⟩
      clear hF; intro a hF
      replace S := S.call0 T; clear T
      obtain ⟨hk112, hM106⟩ := chk_ex hM106
      replace hk112 := ixB_t hk112
      refine op_val (v := .pointer (some ⟨adB (some ⟨g101, 0, none⟩), adO (some ⟨g101, 0, none⟩) + p107.2.toNat * 4, none⟩)) rfl rfl hF rfl (run_indexAddr (b := adB (some ⟨g101, 0, none⟩)) (off := adO (some ⟨g101, 0, none⟩)) rfl Try.underlying41 sz32 ((hF.ev rfl).trans (congrArg (fun A => Value.slice A x0.length x0.length) ((S.rc 0 rfl).rd.ad (ix_pos hk112)))) (hF.ev rfl) hk112.1 hk112.2 (k' := adO (some ⟨g101, 0, none⟩) + p107.2.toNat * 4) rfl) ?_; clear hF; intro a hF
      obtain ⟨w', hrun, S'⟩ := run_storeElN (P := Try.prog) (ρ := a.eval) (y0 := (p111.1, p111.2.1, p111.2.2.1, p111.2.2.2)) (off := 0) S 32 (.tmp 21) (.tmp 20) (i := 0) sz32 (hF.ev rfl) (hF.ev rfl) rfl rfl rfl rfl hn108 eCommand_len ((0, 0, 0, false) : Int × Int × Int × Bool) (ix_ltn hk112 hn108) rfl rfl
      refine op_do rfl rfl (hrun _ rfl) ?_; clear hrun S; have S := S'; clear S'; generalize w' = u at S ⊢
      refine wpList_nil ?_
      refine wp_region_lit ?_
      refine op_val (v := .int .i64 p107.2) rfl rfl hF rfl (run_move rfl (hF.ev rfl)) ?_; clear hF; intro a hF
      refine op_val (v := .int .i64 (w64 (p107.2 + 1))) rfl rfl hF rfl (run_add (z := w64 (p107.2 + 1)) (hF.ev rfl) rfl rfl rfl) ?_; clear hF; intro a hF
      refine op_val (v := .int .i64 (w64 (p107.2 + 1))) rfl rfl hF rfl (run_assign rfl (hF.ev rfl)) ?_; clear hF; intro a hF
      refine wpList_nil ?_
      exact ⟨f1, Nat.lt_succ_self _, (p107.1.set p107.2.toNat (p111.1, p111.2.1, p111.2.2.1, p111.2.2.2), w64 (p107.2 + 1)), hM106, (len_set hn108), hF.keep _ ⟨rfl, rfl, rfl, rfl, trivial⟩, S.sel [0] rfl rfl⟩
  · rintro a u ⟨p103, rfl, hn105, hF, S⟩
    refine wp_seq ?_
    refine wp_region_lit ?_
    refine op_val (v := .slice (some ⟨g101, 0, none⟩) x0.length x0.length) rfl rfl hF rfl (run_move rfl (hF.ev rfl)) ?_; clear hF; intro a hF
    refine op_val (v := .slice (some ⟨g101, 0, none⟩) x0.length x0.length) rfl rfl hF rfl (run_assign rfl (hF.ev rfl)) ?_; clear hF; intro a hF
    refine wpList_nil ?_
    refine wp_ret ?_
    repeat with_reducible (first | refine then_ret ?_ | refine in_ret ?_ | refine in_nrm ?_)
    refine ret1_gw (.inl rfl) hF rfl (res_tmp (hF.ev rfl)) ?_
    obtain rfl := Option.some.inj hM
    exact ⟨(some ⟨g101, 0, none⟩), x0.length, x0.length, rfl, hn105, S.sel [0] rfl rfl⟩

end Go.Proofs.Ytapkaobelejkkaa
