/- Calls return what the models say. -/
import Derived.Test.YtceghkdjpkegaaaDoorDa2
namespace Go.Proofs.YtceghkdjpkegaaaDoor
open Go.ChangeShapes Go.WideShapes Go.ChangeAt Go.RowKit
set_option linter.unusedVariables false
set_option linter.unusedSimpArgs false

set_option maxHeartbeats 4000000 in
theorem c_spec_PollDo {x0 : Int} {x1 : List Int} {x2 : Int} {x3 : List Int} {x4 : Int} {x5 : Int} {x6 : Int} {x7 : Int} {x8 : Int} {x9 : Int} {A1 : Option Addr} {n1 c1 : Nat} {A3 : Option Addr} {n3 c3 : Nat} {w : World} {r : Int × List Int × Int × List Int × Int × Int × Int × Int × Bool} (h1 : Rt w 1 eI A1 n1 c1 x1) (h3 : Rt w 1 eI A3 n3 c3 x3) (hM : m_spec_PollDo x0 x1 x2 x3 x4 x5 x6 x7 x8 x9 = some r) :
    Calls Tryd.prog 14 #[.agg #[.int .i64 x0, .slice A1 n1 c1, .int .i64 x2, .slice A3 n3 c3, .int .i64 x4, .int .i64 x5, .int .i64 x6, .int .i64 x7], .agg #[.int .i64 x8, .int .i64 x9]] w (fun e w' => ∃ (B0 : Option Addr) (N0 D0 : Nat) (B1 : Option Addr) (N1 D1 : Nat), e = .returned (.tuple #[.agg #[.int .i64 r.1, .slice B0 N0 D0, .int .i64 r.2.2.1, .slice B1 N1 D1, .int .i64 r.2.2.2.2.1, .int .i64 r.2.2.2.2.2.1, .int .i64 r.2.2.2.2.2.2.1, .int .i64 r.2.2.2.2.2.2.2.1], .bool r.2.2.2.2.2.2.2.2]) ∧ N0 = r.2.1.length ∧ N1 = r.2.2.2.1.length ∧ St w w' [.row 3 1 (.slice B0 N0 D0) N0 (r.2.1.flatMap eI), .row 3 1 (.slice B1 N1 D1) N1 (r.2.2.2.1.flatMap eI)]) := by
  obtain rfl := h1.len
  obtain rfl := h3.len
  unfold m_spec_PollDo at hM
  refine calls_gw Tryd.func14 Tryd.ntmps14 rfl [(0, .agg #[.int .i64 x0, .slice A1 x1.length c1, .int .i64 x2, .slice A3 x3.length c3, .int .i64 x4, .int .i64 x5, .int .i64 x6, .int .i64 x7]), (1, .agg #[.int .i64 x8, .int .i64 x9])] ⟨rfl, rfl, trivial⟩ rfl ?_
  intro a hF
  have S := St.nil w
  refine wp_seq ?_
  refine wp_region_lit ?_
  refine op_new (cs := #[.int .i64 x0, .slice A1 x1.length c1, .int .i64 x2, .slice A3 x3.length c3, .int .i64 x4, .int .i64 x5, .int .i64 x6, .int .i64 x7]) rfl rfl hF rfl S (run_box rfl (hF.ev rfl) rfl) ?_; clear hF S; intro a g101 u hF S
  refine op_new (cs := #[.int .i64 x8, .int .i64 x9]) rfl rfl hF rfl S (run_box rfl (hF.ev rfl) rfl) ?_; clear hF S; intro a g102 u hF S
  refine op_new (cs := #[.int .i64 0, .slice none 0 0, .int .i64 0, .slice none 0 0, .int .i64 0, .int .i64 0, .int .i64 0, .int .i64 0]) rfl rfl hF rfl S (run_allocZ rfl zr25) ?_; clear hF S; intro a g103 u hF S
  refine op_val (v := .bool false) rfl rfl hF rfl (run_assign rfl rfl) ?_; clear hF; intro a hF
  refine wpList_nil ?_
  refine wp_seq ?_
  refine wp_seq ?_
  refine wp_region_lit ?_
  refine op_val (v := .agg #[.int .i64 x0, .slice A1 x1.length c1, .int .i64 x2, .slice A3 x3.length c3, .int .i64 x4, .int .i64 x5, .int .i64 x6, .int .i64 x7]) rfl rfl hF rfl (run_loadN rfl ag25 (hF.ev rfl) rfl ((S.free 2 rfl).cells 0 #[.int .i64 x0, .slice A1 x1.length c1, .int .i64 x2, .slice A3 x3.length c3, .int .i64 x4, .int .i64 x5, .int .i64 x6, .int .i64 x7] rfl)) ?_; clear hF; intro a hF
  obtain ⟨p104, h104, hM⟩ := bind_ex hM
  refine op_call rfl rfl hF rfl (run_call (vs := [.agg #[.int .i64 x0, .slice A1 x1.length c1, .int .i64 x2, .slice A3 x3.length c3, .int .i64 x4, .int .i64 x5, .int .i64 x6, .int .i64 x7]]) rfl rfl co32 ⟨(hF.ev rfl), trivial⟩) (c_spec_PollValid (x0 := x0) (x1 := x1) (x2 := x2) (x3 := x3) (x4 := x4) (x5 := x5) (x6 := x6) (x7 := x7) ⟨(S.rc0 h1.rc), rfl⟩ ⟨(S.rc0 h3.rc), rfl⟩ h104) ?_
  rintro e u ⟨rfl, T⟩
  refine ⟨_, rfl, ?_⟩
  clear hF; intro a hF
  replace S := S.call0 T; clear T
  refine op_val (v := .bool (!p104)) rfl rfl hF rfl (run_not rfl (hF.ev rfl)) ?_; clear hF; intro a hF
  refine wpList_nil ?_
  cases hc105 : (p104)
  · replace hM := bif_f hc105 hM
    refine cond_t hF rfl (not_t hc105) ?_
    refine wp_seq ?_
    refine wp_region_lit ?_
    refine op_val (v := .agg #[.int .i64 0, .slice none 0 0, .int .i64 0, .slice none 0 0, .int .i64 0, .int .i64 0, .int .i64 0, .int .i64 0]) rfl rfl hF rfl (run_build (vs := []) rfl trivial (bd25 )) ?_; clear hF; intro a hF
    refine op_do rfl rfl (run_store (cs' := #[.int .i64 0, .slice none 0 0, .int .i64 0, .slice none 0 0, .int .i64 0, .int .i64 0, .int .i64 0, .int .i64 0]) rfl sz25 (hF.ev rfl) (hF.ev rfl) rfl rfl rfl (S.free 0 rfl) rfl rfl) ?_; replace S := S.put 0 rfl (#[.int .i64 0, .slice none 0 0, .int .i64 0, .slice none 0 0, .int .i64 0, .int .i64 0, .int .i64 0, .int .i64 0])
    generalize World.setRow _ _ _ = u at S ⊢
    refine op_val (v := .bool false) rfl rfl hF rfl (run_assign rfl rfl) ?_; clear hF; intro a hF
    refine wpList_nil ?_
    refine wp_ret ?_
    repeat with_reducible (first | refine then_ret ?_ | refine in_ret ?_ | refine in_nrm ?_)
    refine ret2_gw (.inl rfl) hF rfl (res_cell (hF.ev rfl) (res_loadN ag25 rfl (S.cells 0 rfl 0 #[.int .i64 0, .slice none 0 0, .int .i64 0, .slice none 0 0, .int .i64 0, .int .i64 0, .int .i64 0, .int .i64 0] rfl))) (res_tmp (hF.ev rfl)) ?_
    obtain rfl := Option.some.inj hM
    replace S := S.nilrow 3 1
    replace S := S.nilrow 3 1
    exact ⟨none, 0, 0, none, 0, 0, rfl, rfl, rfl, S.sel [1, 0] rfl rfl⟩
  · replace hM := bif_t hc105 hM
    refine cond_f hF rfl (not_f hc105) ?_
    refine wp_skip ?_
    refine wp_seq ?_
    refine wp_region_lit ?_
    refine op_val (v := .agg #[.int .i64 x0, .slice A1 x1.length c1, .int .i64 x2, .slice A3 x3.length c3, .int .i64 x4, .int .i64 x5, .int .i64 x6, .int .i64 x7]) rfl rfl hF rfl (run_loadN rfl ag25 (hF.ev rfl) rfl ((S.free 2 rfl).cells 0 #[.int .i64 x0, .slice A1 x1.length c1, .int .i64 x2, .slice A3 x3.length c3, .int .i64 x4, .int .i64 x5, .int .i64 x6, .int .i64 x7] rfl)) ?_; clear hF; intro a hF
    obtain ⟨p106, h106, hM⟩ := bind_ex hM
    refine op_call rfl rfl hF rfl (run_call (vs := [.agg #[.int .i64 x0, .slice A1 x1.length c1, .int .i64 x2, .slice A3 x3.length c3, .int .i64 x4, .int .i64 x5, .int .i64 x6, .int .i64 x7]]) rfl rfl co33 ⟨(hF.ev rfl), trivial⟩) (c_spec_l27Copy (x0 := x0) (x1 := x1) (x2 := x2) (x3 := x3) (x4 := x4) (x5 := x5) (x6 := x6) (x7 := x7) ⟨(S.rc0 h1.rc), rfl⟩ ⟨(S.rc0 h3.rc), rfl⟩ h106) ?_
    rintro e u ⟨B107, n108, d109, B110, n111, d112, rfl, rfl, rfl, T⟩
    refine ⟨_, rfl, ?_⟩
    clear hF; intro a hF
    replace S := S.call2 T; clear T
    refine op_new (cs := #[.int .i64 0, .slice none 0 0, .int .i64 0, .slice none 0 0, .int .i64 0, .int .i64 0, .int .i64 0, .int .i64 0]) rfl rfl hF rfl S (run_allocZ rfl zr25) ?_; clear hF S; intro a g113 u hF S
    refine op_do rfl rfl (run_store (cs' := #[.int .i64 p106.1, .slice B107 p106.2.1.length d109, .int .i64 p106.2.2.1, .slice B110 p106.2.2.2.1.length d112, .int .i64 p106.2.2.2.2.1, .int .i64 p106.2.2.2.2.2.1, .int .i64 p106.2.2.2.2.2.2.1, .int .i64 p106.2.2.2.2.2.2.2]) rfl sz25 (hF.ev rfl) (hF.ev rfl) rfl rfl rfl (S.free 0 rfl) rfl rfl) ?_; replace S := S.put 0 rfl (#[.int .i64 p106.1, .slice B107 p106.2.1.length d109, .int .i64 p106.2.2.1, .slice B110 p106.2.2.2.1.length d112, .int .i64 p106.2.2.2.2.1, .int .i64 p106.2.2.2.2.2.1, .int .i64 p106.2.2.2.2.2.2.1, .int .i64 p106.2.2.2.2.2.2.2])
    generalize World.setRow _ _ _ = u at S ⊢
    refine wpList_nil ?_
    refine wp_seq ?_
    refine wp_block ?_
    refine wp_seq ?_
    refine wp_region_lit ?_
    refine op_val (v := .pointer (some ⟨g102, 0, none⟩)) rfl rfl hF rfl (run_fieldAddr rfl fl31_0 (hF.ev rfl) rfl) ?_; clear hF; intro a hF
    refine op_val (v := .int .i64 x8) rfl rfl hF rfl (run_load1 rfl one3 (hF.ev rfl) ((S.free 4 rfl).cell rfl)) ?_; clear hF; intro a hF
    refine op_val (v := .bool (x8 == 0)) rfl rfl hF rfl (run_eql (hF.ev rfl) rfl rfl) ?_; clear hF; intro a hF
    refine op_val (v := .bool (x8 == 0)) rfl rfl hF rfl (run_assign rfl (hF.ev rfl)) ?_; clear hF; intro a hF
    refine wpList_nil ?_
    obtain ⟨o115, hM120, hM⟩ := bind_ex hM
    refine wp_cut (fun a u => ∃ (p114 : Int × List Int × Int × List Int × Int × Int × Int × Int) (B116 : Option Addr) (d117 : Nat) (B118 : Option Addr) (d119 : Nat), (Sum.inl p114) = o115 ∧ Fr a 81 [(2, .pointer (some ⟨g101, 0, none⟩)), (4, .pointer (some ⟨g103, 0, none⟩)), (5, .bool false), (6, .pointer (some ⟨g113, 0, none⟩))] ∧ St w u [.box g113 25 #[.int .i64 p114.1, .slice B116 p114.2.1.length d117, .int .i64 p114.2.2.1, .slice B118 p114.2.2.2.1.length d119, .int .i64 p114.2.2.2.2.1, .int .i64 p114.2.2.2.2.2.1, .int .i64 p114.2.2.2.2.2.2.1, .int .i64 p114.2.2.2.2.2.2.2], .box g103 25 #[.int .i64 0, .slice none 0 0, .int .i64 0, .slice none 0 0, .int .i64 0, .int .i64 0, .int .i64 0, .int .i64 0], .box g101 25 #[.int .i64 x0, .slice A1 x1.length c1, .int .i64 x2, .slice A3 x3.length c3, .int .i64 x4, .int .i64 x5, .int .i64 x6, .int .i64 x7], .row 3 1 (.slice B116 p114.2.1.length d117) p114.2.1.length (p114.2.1.flatMap eI), .row 3 1 (.slice B118 p114.2.2.2.1.length d119) p114.2.2.2.1.length (p114.2.2.2.1.flatMap eI)]) ?_ ?_
    · have _ := trivial
      cases hc121 : (x8 == 0)
      · replace hM120 := bif_f hc121 hM120
        refine cond_f hF rfl hc121 ?_
        refine wp_seq ?_
        refine wp_region_lit ?_
        refine op_val (v := .pointer (some ⟨g102, 0, none⟩)) rfl rfl hF rfl (run_fieldAddr rfl fl31_0 (hF.ev rfl) rfl) ?_; clear hF; intro a hF
        refine op_val (v := .int .i64 x8) rfl rfl hF rfl (run_load1 rfl one3 (hF.ev rfl) ((S.free 4 rfl).cell rfl)) ?_; clear hF; intro a hF
        refine op_val (v := .bool (x8 == 1)) rfl rfl hF rfl (run_eql (hF.ev rfl) rfl rfl) ?_; clear hF; intro a hF
        refine op_val (v := .bool (x8 == 1)) rfl rfl hF rfl (run_assign rfl (hF.ev rfl)) ?_; clear hF; intro a hF
        refine wpList_nil ?_
        obtain ⟨o123, hM128, hM120⟩ := bind_ex hM120
        refine wp_cut (fun a u => ∃ (p122 : Int × List Int × Int × List Int × Int × Int × Int × Int) (B124 : Option Addr) (d125 : Nat) (B126 : Option Addr) (d127 : Nat), (Sum.inl p122) = o123 ∧ Fr a 81 [(2, .pointer (some ⟨g101, 0, none⟩)), (4, .pointer (some ⟨g103, 0, none⟩)), (5, .bool false), (6, .pointer (some ⟨g113, 0, none⟩))] ∧ St w u [.box g113 25 #[.int .i64 p122.1, .slice B124 p122.2.1.length d125, .int .i64 p122.2.2.1, .slice B126 p122.2.2.2.1.length d127, .int .i64 p122.2.2.2.2.1, .int .i64 p122.2.2.2.2.2.1, .int .i64 p122.2.2.2.2.2.2.1, .int .i64 p122.2.2.2.2.2.2.2], .box g103 25 #[.int .i64 0, .slice none 0 0, .int .i64 0, .slice none 0 0, .int .i64 0, .int .i64 0, .int .i64 0, .int .i64 0], .box g101 25 #[.int .i64 x0, .slice A1 x1.length c1, .int .i64 x2, .slice A3 x3.length c3, .int .i64 x4, .int .i64 x5, .int .i64 x6, .int .i64 x7], .row 3 1 (.slice B124 p122.2.1.length d125) p122.2.1.length (p122.2.1.flatMap eI), .row 3 1 (.slice B126 p122.2.2.2.1.length d127) p122.2.2.2.1.length (p122.2.2.2.1.flatMap eI)]) ?_ ?_
        · have _ := trivial
          cases hc129 : (x8 == 1)
          · replace hM128 := bif_f hc129 hM128
            refine cond_f hF rfl hc129 ?_
            refine wp_seq ?_
            refine wp_region_lit ?_
            refine op_val (v := .pointer (some ⟨g102, 0, none⟩)) rfl rfl hF rfl (run_fieldAddr rfl fl31_0 (hF.ev rfl) rfl) ?_; clear hF; intro a hF
            refine op_val (v := .int .i64 x8) rfl rfl hF rfl (run_load1 rfl one3 (hF.ev rfl) ((S.free 4 rfl).cell rfl)) ?_; clear hF; intro a hF
            refine op_val (v := .bool (x8 == 2)) rfl rfl hF rfl (run_eql (hF.ev rfl) rfl rfl) ?_; clear hF; intro a hF
            refine op_val (v := .bool (x8 == 2)) rfl rfl hF rfl (run_move rfl (hF.ev rfl)) ?_; clear hF; intro a hF
            refine op_gv (v := .pointer (some ⟨g101, 5, none⟩)) rfl rfl hF rfl (yt (gw_yield hF rfl rfl rfl)) (fun hg => (run_fieldAddr rfl fl25_5 (hF.ev rfl) rfl)) ?_; clear hF; intro a hF
            refine op_gv (v := .int .i64 x5) rfl rfl hF rfl (yt (gw_yield hF rfl rfl rfl)) (fun hg => (run_load1 rfl one3 ((hF.ev rfl).trans (gv_t hg)) ((S.free 5 rfl).cell rfl))) ?_; clear hF; intro a hF
            refine op_gv (v := .bool (leB 0 x5)) rfl rfl hF rfl (yt (gw_yield hF rfl rfl rfl)) (fun hg => (run_geq ((hF.ev rfl).trans (gv_t hg)) rfl rfl)) ?_; clear hF; intro a hF
            refine op_val (v := .bool ((x8 == 2) && (leB 0 x5))) rfl rfl hF rfl (run_pick_and rfl (hF.ev rfl) (fun hp => ((hF.ev rfl).trans (gv_t hp))) rfl) ?_; clear hF; intro a hF
            refine op_val (v := .bool ((x8 == 2) && (leB 0 x5))) rfl rfl hF rfl (run_assign rfl (hF.ev rfl)) ?_; clear hF; intro a hF
            refine wpList_nil ?_
            obtain ⟨o131, hM136, hM128⟩ := bind_ex hM128
            refine wp_cut (fun a u => ∃ (p130 : Int × List Int × Int × List Int × Int × Int × Int × Int) (B132 : Option Addr) (d133 : Nat) (B134 : Option Addr) (d135 : Nat), (Sum.inl p130) = o131 ∧ Fr a 81 [(2, .pointer (some ⟨g101, 0, none⟩)), (4, .pointer (some ⟨g103, 0, none⟩)), (5, .bool false), (6, .pointer (some ⟨g113, 0, none⟩))] ∧ St w u [.box g113 25 #[.int .i64 p130.1, .slice B132 p130.2.1.length d133, .int .i64 p130.2.2.1, .slice B134 p130.2.2.2.1.length d135, .int .i64 p130.2.2.2.2.1, .int .i64 p130.2.2.2.2.2.1, .int .i64 p130.2.2.2.2.2.2.1, .int .i64 p130.2.2.2.2.2.2.2], .box g103 25 #[.int .i64 0, .slice none 0 0, .int .i64 0, .slice none 0 0, .int .i64 0, .int .i64 0, .int .i64 0, .int .i64 0], .box g101 25 #[.int .i64 x0, .slice A1 x1.length c1, .int .i64 x2, .slice A3 x3.length c3, .int .i64 x4, .int .i64 x5, .int .i64 x6, .int .i64 x7], .row 3 1 (.slice B132 p130.2.1.length d133) p130.2.1.length (p130.2.1.flatMap eI), .row 3 1 (.slice B134 p130.2.2.2.1.length d135) p130.2.2.2.1.length (p130.2.2.2.1.flatMap eI)]) ?_ ?_
            · have _ := trivial
              cases hc137 : ((x8 == 2) && (leB 0 x5))
              · replace hM136 := bif_f hc137 hM136
                refine cond_f hF rfl hc137 ?_
                refine wp_seq ?_
                refine wp_region_lit ?_
                refine op_val (v := .pointer (some ⟨g102, 0, none⟩)) rfl rfl hF rfl (run_fieldAddr rfl fl31_0 (hF.ev rfl) rfl) ?_; clear hF; intro a hF
                refine op_val (v := .int .i64 x8) rfl rfl hF rfl (run_load1 rfl one3 (hF.ev rfl) ((S.free 4 rfl).cell rfl)) ?_; clear hF; intro a hF
                refine op_val (v := .bool (x8 == 3)) rfl rfl hF rfl (run_eql (hF.ev rfl) rfl rfl) ?_; clear hF; intro a hF
                refine op_val (v := .bool (x8 == 3)) rfl rfl hF rfl (run_move rfl (hF.ev rfl)) ?_; clear hF; intro a hF
                refine op_gv (v := .pointer (some ⟨g101, 6, none⟩)) rfl rfl hF rfl (yt (gw_yield hF rfl rfl rfl)) (fun hg => (run_fieldAddr rfl fl25_6 (hF.ev rfl) rfl)) ?_; clear hF; intro a hF
                refine op_gv (v := .int .i64 x6) rfl rfl hF rfl (yt (gw_yield hF rfl rfl rfl)) (fun hg => (run_load1 rfl one3 ((hF.ev rfl).trans (gv_t hg)) ((S.free 5 rfl).cell rfl))) ?_; clear hF; intro a hF
                refine op_gv (v := .bool (leB 0 x6)) rfl rfl hF rfl (yt (gw_yield hF rfl rfl rfl)) (fun hg => (run_geq ((hF.ev rfl).trans (gv_t hg)) rfl rfl)) ?_; clear hF; intro a hF
                refine op_val (v := .bool ((x8 == 3) && (leB 0 x6))) rfl rfl hF rfl (run_pick_and rfl (hF.ev rfl) (fun hp => ((hF.ev rfl).trans (gv_t hp))) rfl) ?_; clear hF; intro a hF
                refine op_val (v := .bool ((x8 == 3) && (leB 0 x6))) rfl rfl hF rfl (run_assign rfl (hF.ev rfl)) ?_; clear hF; intro a hF
                refine wpList_nil ?_
                obtain ⟨o139, hM144, hM136⟩ := bind_ex hM136
                refine wp_cut (fun a u => ∃ (p138 : Int × List Int × Int × List Int × Int × Int × Int × Int) (B140 : Option Addr) (d141 : Nat) (B142 : Option Addr) (d143 : Nat), (Sum.inl p138) = o139 ∧ Fr a 81 [(2, .pointer (some ⟨g101, 0, none⟩)), (4, .pointer (some ⟨g103, 0, none⟩)), (5, .bool false), (6, .pointer (some ⟨g113, 0, none⟩))] ∧ St w u [.box g113 25 #[.int .i64 p138.1, .slice B140 p138.2.1.length d141, .int .i64 p138.2.2.1, .slice B142 p138.2.2.2.1.length d143, .int .i64 p138.2.2.2.2.1, .int .i64 p138.2.2.2.2.2.1, .int .i64 p138.2.2.2.2.2.2.1, .int .i64 p138.2.2.2.2.2.2.2], .box g103 25 #[.int .i64 0, .slice none 0 0, .int .i64 0, .slice none 0 0, .int .i64 0, .int .i64 0, .int .i64 0, .int .i64 0], .box g101 25 #[.int .i64 x0, .slice A1 x1.length c1, .int .i64 x2, .slice A3 x3.length c3, .int .i64 x4, .int .i64 x5, .int .i64 x6, .int .i64 x7], .row 3 1 (.slice B140 p138.2.1.length d141) p138.2.1.length (p138.2.1.flatMap eI), .row 3 1 (.slice B142 p138.2.2.2.1.length d143) p138.2.2.2.1.length (p138.2.2.2.1.flatMap eI)]) ?_ ?_
                · have _ := trivial
                  cases hc145 : ((x8 == 3) && (leB 0 x6))
                  · replace hM144 := bif_f hc145 hM144
                    refine cond_f hF rfl hc145 ?_
                    refine wp_seq ?_
                    refine wp_region_lit ?_
                    refine op_val (v := .pointer (some ⟨g102, 0, none⟩)) rfl rfl hF rfl (run_fieldAddr rfl fl31_0 (hF.ev rfl) rfl) ?_; clear hF; intro a hF
                    refine op_val (v := .int .i64 x8) rfl rfl hF rfl (run_load1 rfl one3 (hF.ev rfl) ((S.free 4 rfl).cell rfl)) ?_; clear hF; intro a hF
                    refine op_val (v := .bool (x8 == 4)) rfl rfl hF rfl (run_eql (hF.ev rfl) rfl rfl) ?_; clear hF; intro a hF
                    refine op_val (v := .bool (x8 == 4)) rfl rfl hF rfl (run_move rfl (hF.ev rfl)) ?_; clear hF; intro a hF
                    refine op_gv (v := .pointer (some ⟨g101, 5, none⟩)) rfl rfl hF rfl (yt (gw_yield hF rfl rfl rfl)) (fun hg => (run_fieldAddr rfl fl25_5 (hF.ev rfl) rfl)) ?_; clear hF; intro a hF
                    refine op_gv (v := .int .i64 x5) rfl rfl hF rfl (yt (gw_yield hF rfl rfl rfl)) (fun hg => (run_load1 rfl one3 ((hF.ev rfl).trans (gv_t hg)) ((S.free 5 rfl).cell rfl))) ?_; clear hF; intro a hF
                    refine op_gv (v := .bool (leB 0 x5)) rfl rfl hF rfl (yt (gw_yield hF rfl rfl rfl)) (fun hg => (run_geq ((hF.ev rfl).trans (gv_t hg)) rfl rfl)) ?_; clear hF; intro a hF
                    refine op_val (v := .bool ((x8 == 4) && (leB 0 x5))) rfl rfl hF rfl (run_pick_and rfl (hF.ev rfl) (fun hp => ((hF.ev rfl).trans (gv_t hp))) rfl) ?_; clear hF; intro a hF
                    refine op_val (v := .bool ((x8 == 4) && (leB 0 x5))) rfl rfl hF rfl (run_assign rfl (hF.ev rfl)) ?_; clear hF; intro a hF
                    refine wpList_nil ?_
                    obtain ⟨o147, hM148, hM144⟩ := bind_ex hM144
                    refine wp_cut (fun a u => ∃ (p146 : Int × Int × Int), (Sum.inl p146) = o147 ∧ Fr a 81 [(2, .pointer (some ⟨g101, 0, none⟩)), (4, .pointer (some ⟨g103, 0, none⟩)), (5, .bool false), (6, .pointer (some ⟨g113, 0, none⟩))] ∧ St w u [.box g113 25 #[.int .i64 p106.1, .slice B107 p106.2.1.length d109, .int .i64 p106.2.2.1, .slice B110 p106.2.2.2.1.length d112, .int .i64 p106.2.2.2.2.1, .int .i64 p146.1, .int .i64 p146.2.1, .int .i64 p146.2.2], .box g103 25 #[.int .i64 0, .slice none 0 0, .int .i64 0, .slice none 0 0, .int .i64 0, .int .i64 0, .int .i64 0, .int .i64 0], .box g101 25 #[.int .i64 x0, .slice A1 x1.length c1, .int .i64 x2, .slice A3 x3.length c3, .int .i64 x4, .int .i64 x5, .int .i64 x6, .int .i64 x7], .row 3 1 (.slice B107 p106.2.1.length d109) p106.2.1.length (p106.2.1.flatMap eI), .row 3 1 (.slice B110 p106.2.2.2.1.length d112) p106.2.2.2.1.length (p106.2.2.2.1.flatMap eI)]) ?_ ?_
                    · have _ := trivial
                      cases hc149 : ((x8 == 4) && (leB 0 x5))
                      · replace hM148 := bif_f hc149 hM148
                        refine cond_f hF rfl hc149 ?_
                        refine wp_seq ?_
                        refine wp_region_lit ?_
                        refine op_val (v := .pointer (some ⟨g102, 0, none⟩)) rfl rfl hF rfl (run_fieldAddr rfl fl31_0 (hF.ev rfl) rfl) ?_; clear hF; intro a hF
                        refine op_val (v := .int .i64 x8) rfl rfl hF rfl (run_load1 rfl one3 (hF.ev rfl) ((S.free 4 rfl).cell rfl)) ?_; clear hF; intro a hF
                        refine op_val (v := .bool (x8 == 5)) rfl rfl hF rfl (run_eql (hF.ev rfl) rfl rfl) ?_; clear hF; intro a hF
                        refine op_val (v := .bool (x8 == 5)) rfl rfl hF rfl (run_move rfl (hF.ev rfl)) ?_; clear hF; intro a hF
                        refine op_gv (v := .pointer (some ⟨g101, 6, none⟩)) rfl rfl hF rfl (yt (gw_yield hF rfl rfl rfl)) (fun hg => (run_fieldAddr rfl fl25_6 (hF.ev rfl) rfl)) ?_; clear hF; intro a hF
                        refine op_gv (v := .int .i64 x6) rfl rfl hF rfl (yt (gw_yield hF rfl rfl rfl)) (fun hg => (run_load1 rfl one3 ((hF.ev rfl).trans (gv_t hg)) ((S.free 5 rfl).cell rfl))) ?_; clear hF; intro a hF
                        refine op_gv (v := .bool (leB 0 x6)) rfl rfl hF rfl (yt (gw_yield hF rfl rfl rfl)) (fun hg => (run_geq ((hF.ev rfl).trans (gv_t hg)) rfl rfl)) ?_; clear hF; intro a hF
                        refine op_val (v := .bool ((x8 == 5) && (leB 0 x6))) rfl rfl hF rfl (run_pick_and rfl (hF.ev rfl) (fun hp => ((hF.ev rfl).trans (gv_t hp))) rfl) ?_; clear hF; intro a hF
                        refine op_val (v := .bool ((x8 == 5) && (leB 0 x6))) rfl rfl hF rfl (run_assign rfl (hF.ev rfl)) ?_; clear hF; intro a hF
                        refine wpList_nil ?_
                        cases hc150 : ((x8 == 5) && (leB 0 x6))
                        · replace hM148 := bif_f hc150 hM148
                          refine cond_f hF rfl hc150 ?_
                          refine wp_seq ?_
                          refine wp_region_lit ?_
                          refine op_val (v := .agg #[.int .i64 p106.1, .slice B107 p106.2.1.length d109, .int .i64 p106.2.2.1, .slice B110 p106.2.2.2.1.length d112, .int .i64 p106.2.2.2.2.1, .int .i64 p106.2.2.2.2.2.1, .int .i64 p106.2.2.2.2.2.2.1, .int .i64 p106.2.2.2.2.2.2.2]) rfl rfl hF rfl (run_loadN rfl ag25 (hF.ev rfl) rfl ((S.free 0 rfl).cells 0 #[.int .i64 p106.1, .slice B107 p106.2.1.length d109, .int .i64 p106.2.2.1, .slice B110 p106.2.2.2.1.length d112, .int .i64 p106.2.2.2.2.1, .int .i64 p106.2.2.2.2.2.1, .int .i64 p106.2.2.2.2.2.2.1, .int .i64 p106.2.2.2.2.2.2.2] rfl)) ?_; clear hF; intro a hF
                          refine op_do rfl rfl (run_store (cs' := #[.int .i64 p106.1, .slice B107 p106.2.1.length d109, .int .i64 p106.2.2.1, .slice B110 p106.2.2.2.1.length d112, .int .i64 p106.2.2.2.2.1, .int .i64 p106.2.2.2.2.2.1, .int .i64 p106.2.2.2.2.2.2.1, .int .i64 p106.2.2.2.2.2.2.2]) rfl sz25 (hF.ev rfl) (hF.ev rfl) rfl rfl rfl (S.free 3 rfl) rfl rfl) ?_; replace S := S.put 3 rfl (#[.int .i64 p106.1, .slice B107 p106.2.1.length d109, .int .i64 p106.2.2.1, .slice B110 p106.2.2.2.1.length d112, .int .i64 p106.2.2.2.2.1, .int .i64 p106.2.2.2.2.2.1, .int .i64 p106.2.2.2.2.2.2.1, .int .i64 p106.2.2.2.2.2.2.2])
                          generalize World.setRow _ _ _ = u at S ⊢
                          refine op_val (v := .bool false) rfl rfl hF rfl (run_assign rfl rfl) ?_; clear hF; intro a hF
                          refine wpList_nil ?_
                          refine wp_ret ?_
                          repeat with_reducible (first | refine then_ret ?_ | refine in_ret ?_ | refine in_nrm ?_)
                          refine ret2_gw (.inl rfl) hF rfl (res_cell (hF.ev rfl) (res_loadN ag25 rfl (S.cells 3 rfl 0 #[.int .i64 p106.1, .slice B107 p106.2.1.length d109, .int .i64 p106.2.2.1, .slice B110 p106.2.2.2.1.length d112, .int .i64 p106.2.2.2.2.1, .int .i64 p106.2.2.2.2.2.1, .int .i64 p106.2.2.2.2.2.2.1, .int .i64 p106.2.2.2.2.2.2.2] rfl))) (res_tmp (hF.ev rfl)) ?_
                          obtain rfl := Option.some.inj hM148
                          obtain rfl := Option.some.inj hM144
                          obtain rfl := Option.some.inj hM136
                          obtain rfl := Option.some.inj hM128
                          obtain rfl := Option.some.inj hM120
                          obtain rfl := Option.some.inj hM
                          exact ⟨B107, p106.2.1.length, d109, B110, p106.2.2.2.1.length, d112, rfl, rfl, rfl, S.sel [1, 2] rfl rfl⟩
                        · replace hM148 := bif_t hc150 hM148
                          refine cond_t hF rfl hc150 ?_
                          refine wp_seq ?_
                          refine wp_region_lit ?_
                          refine op_val (v := .pointer (some ⟨g113, 6, none⟩)) rfl rfl hF rfl (run_fieldAddr rfl fl25_6 (hF.ev rfl) rfl) ?_; clear hF; intro a hF
                          refine op_do rfl rfl (run_store (cs' := #[.int .i64 p106.1, .slice B107 p106.2.1.length d109, .int .i64 p106.2.2.1, .slice B110 p106.2.2.2.1.length d112, .int .i64 p106.2.2.2.2.1, .int .i64 p106.2.2.2.2.2.1, .int .i64 (-1), .int .i64 p106.2.2.2.2.2.2.2]) rfl sz3 (hF.ev rfl) rfl rfl rfl rfl (S.free 0 rfl) rfl rfl) ?_; replace S := S.put 0 rfl (#[.int .i64 p106.1, .slice B107 p106.2.1.length d109, .int .i64 p106.2.2.1, .slice B110 p106.2.2.2.1.length d112, .int .i64 p106.2.2.2.2.1, .int .i64 p106.2.2.2.2.2.1, .int .i64 (-1), .int .i64 p106.2.2.2.2.2.2.2])
                          generalize World.setRow _ _ _ = u at S ⊢
                          refine wpList_nil ?_
                          refine wp_region_lit ?_
                          refine op_val (v := .pointer (some ⟨g113, 7, none⟩)) rfl rfl hF rfl (run_fieldAddr rfl fl25_7 (hF.ev rfl) rfl) ?_; clear hF; intro a hF
                          refine op_do rfl rfl (run_store (cs' := #[.int .i64 p106.1, .slice B107 p106.2.1.length d109, .int .i64 p106.2.2.1, .slice B110 p106.2.2.2.1.length d112, .int .i64 p106.2.2.2.2.1, .int .i64 p106.2.2.2.2.2.1, .int .i64 (-1), .int .i64 (-1)]) rfl sz3 (hF.ev rfl) rfl rfl rfl rfl (S.free 0 rfl) rfl rfl) ?_; replace S := S.put 0 rfl (#[.int .i64 p106.1, .slice B107 p106.2.1.length d109, .int .i64 p106.2.2.1, .slice B110 p106.2.2.2.1.length d112, .int .i64 p106.2.2.2.2.1, .int .i64 p106.2.2.2.2.2.1, .int .i64 (-1), .int .i64 (-1)])
                          generalize World.setRow _ _ _ = u at S ⊢
                          refine wpList_nil ?_
                          obtain rfl := Option.some.inj hM148
                          exact ⟨(p106.2.2.2.2.2.1, -1, -1), rfl, hF.keep _ ⟨rfl, rfl, rfl, rfl, trivial⟩, S.sel [0, 3, 5, 1, 2] rfl rfl⟩
                      · replace hM148 := bif_t hc149 hM148
                        refine cond_t hF rfl hc149 ?_
                        refine wp_region_lit ?_
                        refine op_val (v := .pointer (some ⟨g113, 5, none⟩)) rfl rfl hF rfl (run_fieldAddr rfl fl25_5 (hF.ev rfl) rfl) ?_; clear hF; intro a hF
                        refine op_do rfl rfl (run_store (cs' := #[.int .i64 p106.1, .slice B107 p106.2.1.length d109, .int .i64 p106.2.2.1, .slice B110 p106.2.2.2.1.length d112, .int .i64 p106.2.2.2.2.1, .int .i64 (-1), .int .i64 p106.2.2.2.2.2.2.1, .int .i64 p106.2.2.2.2.2.2.2]) rfl sz3 (hF.ev rfl) rfl rfl rfl rfl (S.free 0 rfl) rfl rfl) ?_; replace S := S.put 0 rfl (#[.int .i64 p106.1, .slice B107 p106.2.1.length d109, .int .i64 p106.2.2.1, .slice B110 p106.2.2.2.1.length d112, .int .i64 p106.2.2.2.2.1, .int .i64 (-1), .int .i64 p106.2.2.2.2.2.2.1, .int .i64 p106.2.2.2.2.2.2.2])
                        generalize World.setRow _ _ _ = u at S ⊢
                        refine wpList_nil ?_
                        obtain rfl := Option.some.inj hM148
                        exact ⟨(-1, p106.2.2.2.2.2.2.1, p106.2.2.2.2.2.2.2), rfl, hF.keep _ ⟨rfl, rfl, rfl, rfl, trivial⟩, S.sel [0, 3, 5, 1, 2] rfl rfl⟩
                    · rintro a u ⟨p146, rfl, hF, S⟩
                      replace hM144 := elim_l hM144
                      obtain rfl := Option.some.inj hM144
                      exact ⟨(p106.1, p106.2.1, p106.2.2.1, p106.2.2.2.1, p106.2.2.2.2.1, p146.1, p146.2.1, p146.2.2), B107, d109, B110, d112, rfl, hF.keep _ ⟨rfl, rfl, rfl, rfl, trivial⟩, S.sel [0, 1, 2, 3, 4] rfl rfl⟩
                  · replace hM144 := bif_t hc145 hM144
                    refine cond_t hF rfl hc145 ?_
                    refine wp_region_lit ?_
                    refine op_val (v := .agg #[.int .i64 p106.1, .slice B107 p106.2.1.length d109, .int .i64 p106.2.2.1, .slice B110 p106.2.2.2.1.length d112, .int .i64 p106.2.2.2.2.1, .int .i64 p106.2.2.2.2.2.1, .int .i64 p106.2.2.2.2.2.2.1, .int .i64 p106.2.2.2.2.2.2.2]) rfl rfl hF rfl (run_loadN rfl ag25 (hF.ev rfl) rfl ((S.free 0 rfl).cells 0 #[.int .i64 p106.1, .slice B107 p106.2.1.length d109, .int .i64 p106.2.2.1, .slice B110 p106.2.2.2.1.length d112, .int .i64 p106.2.2.2.2.1, .int .i64 p106.2.2.2.2.2.1, .int .i64 p106.2.2.2.2.2.2.1, .int .i64 p106.2.2.2.2.2.2.2] rfl)) ?_; clear hF; intro a hF
                    obtain ⟨p151, h151, hM144⟩ := bind_ex hM144
                    refine op_call rfl rfl hF rfl (run_call (vs := [.agg #[.int .i64 p106.1, .slice B107 p106.2.1.length d109, .int .i64 p106.2.2.1, .slice B110 p106.2.2.2.1.length d112, .int .i64 p106.2.2.2.2.1, .int .i64 p106.2.2.2.2.2.1, .int .i64 p106.2.2.2.2.2.2.1, .int .i64 p106.2.2.2.2.2.2.2]]) rfl rfl co35 ⟨(hF.ev rfl), trivial⟩) (c_spec_l27Take (x0 := p106.1) (x1 := p106.2.1) (x2 := p106.2.2.1) (x3 := p106.2.2.2.1) (x4 := p106.2.2.2.2.1) (x5 := p106.2.2.2.2.2.1) (x6 := p106.2.2.2.2.2.2.1) (x7 := p106.2.2.2.2.2.2.2) rfl rfl (show St w _ [.row 3 1 (.slice B107 p106.2.1.length d109) p106.2.1.length (p106.2.1.flatMap eI), .row 3 1 (.slice B110 p106.2.2.2.1.length d112) p106.2.2.2.1.length (p106.2.2.2.1.flatMap eI), .box g113 25 #[.int .i64 p106.1, .slice B107 p106.2.1.length d109, .int .i64 p106.2.2.1, .slice B110 p106.2.2.2.1.length d112, .int .i64 p106.2.2.2.2.1, .int .i64 p106.2.2.2.2.2.1, .int .i64 p106.2.2.2.2.2.2.1, .int .i64 p106.2.2.2.2.2.2.2], .box g103 25 #[.int .i64 0, .slice none 0 0, .int .i64 0, .slice none 0 0, .int .i64 0, .int .i64 0, .int .i64 0, .int .i64 0], .box g102 31 #[.int .i64 x8, .int .i64 x9], .box g101 25 #[.int .i64 x0, .slice A1 x1.length c1, .int .i64 x2, .slice A3 x3.length c3, .int .i64 x4, .int .i64 x5, .int .i64 x6, .int .i64 x7]] from S.sel [1, 2, 0, 3, 4, 5] rfl rfl) h151) ?_
                    rintro e u ⟨B152, n153, d154, B155, n156, d157, rfl, rfl, rfl, T⟩
                    refine ⟨_, rfl, ?_⟩
                    clear hF; intro a hF
                    clear S; have S := T; clear T
                    refine op_do rfl rfl (run_store (cs' := #[.int .i64 p151.1, .slice B152 p151.2.1.length d154, .int .i64 p151.2.2.1, .slice B155 p151.2.2.2.1.length d157, .int .i64 p151.2.2.2.2.1, .int .i64 p151.2.2.2.2.2.1, .int .i64 p151.2.2.2.2.2.2.1, .int .i64 p151.2.2.2.2.2.2.2]) rfl sz25 (hF.ev rfl) (hF.ev rfl) rfl rfl rfl (S.free 2 rfl) rfl rfl) ?_; replace S := S.put 2 rfl (#[.int .i64 p151.1, .slice B152 p151.2.1.length d154, .int .i64 p151.2.2.1, .slice B155 p151.2.2.2.1.length d157, .int .i64 p151.2.2.2.2.1, .int .i64 p151.2.2.2.2.2.1, .int .i64 p151.2.2.2.2.2.2.1, .int .i64 p151.2.2.2.2.2.2.2])
                    generalize World.setRow _ _ _ = u at S ⊢
                    refine wpList_nil ?_
                    obtain rfl := Option.some.inj hM144
                    exact ⟨(p151.1, p151.2.1, p151.2.2.1, p151.2.2.2.1, p151.2.2.2.2.1, p151.2.2.2.2.2.1, p151.2.2.2.2.2.2.1, p151.2.2.2.2.2.2.2), B152, d154, B155, d157, rfl, hF.keep _ ⟨rfl, rfl, rfl, rfl, trivial⟩, S.sel [2, 3, 5, 0, 1] rfl rfl⟩
                · rintro a u ⟨p138, B140, d141, B142, d143, rfl, hF, S⟩
                  replace hM136 := elim_l hM136
                  obtain rfl := Option.some.inj hM136
                  exact ⟨(p138.1, p138.2.1, p138.2.2.1, p138.2.2.2.1, p138.2.2.2.2.1, p138.2.2.2.2.2.1, p138.2.2.2.2.2.2.1, p138.2.2.2.2.2.2.2), B140, d141, B142, d143, rfl, hF.keep _ ⟨rfl, rfl, rfl, rfl, trivial⟩, S.sel [0, 1, 2, 3, 4] rfl rfl⟩
              · replace hM136 := bif_t hc137 hM136
                refine cond_t hF rfl hc137 ?_
                refine wp_region_lit ?_
                refine op_val (v := .agg #[.int .i64 p106.1, .slice B107 p106.2.1.length d109, .int .i64 p106.2.2.1, .slice B110 p106.2.2.2.1.length d112, .int .i64 p106.2.2.2.2.1, .int .i64 p106.2.2.2.2.2.1, .int .i64 p106.2.2.2.2.2.2.1, .int .i64 p106.2.2.2.2.2.2.2]) rfl rfl hF rfl (run_loadN rfl ag25 (hF.ev rfl) rfl ((S.free 0 rfl).cells 0 #[.int .i64 p106.1, .slice B107 p106.2.1.length d109, .int .i64 p106.2.2.1, .slice B110 p106.2.2.2.1.length d112, .int .i64 p106.2.2.2.2.1, .int .i64 p106.2.2.2.2.2.1, .int .i64 p106.2.2.2.2.2.2.1, .int .i64 p106.2.2.2.2.2.2.2] rfl)) ?_; clear hF; intro a hF
                obtain ⟨p158, h158, hM136⟩ := bind_ex hM136
                refine op_call rfl rfl hF rfl (run_call (vs := [.agg #[.int .i64 p106.1, .slice B107 p106.2.1.length d109, .int .i64 p106.2.2.1, .slice B110 p106.2.2.2.1.length d112, .int .i64 p106.2.2.2.2.1, .int .i64 p106.2.2.2.2.2.1, .int .i64 p106.2.2.2.2.2.2.1, .int .i64 p106.2.2.2.2.2.2.2]]) rfl rfl co34 ⟨(hF.ev rfl), trivial⟩) (c_spec_l27Hear (x0 := p106.1) (x1 := p106.2.1) (x2 := p106.2.2.1) (x3 := p106.2.2.2.1) (x4 := p106.2.2.2.2.1) (x5 := p106.2.2.2.2.2.1) (x6 := p106.2.2.2.2.2.2.1) (x7 := p106.2.2.2.2.2.2.2) rfl rfl (show St w _ [.row 3 1 (.slice B107 p106.2.1.length d109) p106.2.1.length (p106.2.1.flatMap eI), .row 3 1 (.slice B110 p106.2.2.2.1.length d112) p106.2.2.2.1.length (p106.2.2.2.1.flatMap eI), .box g113 25 #[.int .i64 p106.1, .slice B107 p106.2.1.length d109, .int .i64 p106.2.2.1, .slice B110 p106.2.2.2.1.length d112, .int .i64 p106.2.2.2.2.1, .int .i64 p106.2.2.2.2.2.1, .int .i64 p106.2.2.2.2.2.2.1, .int .i64 p106.2.2.2.2.2.2.2], .box g103 25 #[.int .i64 0, .slice none 0 0, .int .i64 0, .slice none 0 0, .int .i64 0, .int .i64 0, .int .i64 0, .int .i64 0], .box g102 31 #[.int .i64 x8, .int .i64 x9], .box g101 25 #[.int .i64 x0, .slice A1 x1.length c1, .int .i64 x2, .slice A3 x3.length c3, .int .i64 x4, .int .i64 x5, .int .i64 x6, .int .i64 x7]] from S.sel [1, 2, 0, 3, 4, 5] rfl rfl) h158) ?_
                rintro e u ⟨B159, n160, d161, B162, n163, d164, rfl, rfl, rfl, T⟩
                refine ⟨_, rfl, ?_⟩
                clear hF; intro a hF
                clear S; have S := T; clear T
                refine op_do rfl rfl (run_store (cs' := #[.int .i64 p158.1, .slice B159 p158.2.1.length d161, .int .i64 p158.2.2.1, .slice B162 p158.2.2.2.1.length d164, .int .i64 p158.2.2.2.2.1, .int .i64 p158.2.2.2.2.2.1, .int .i64 p158.2.2.2.2.2.2.1, .int .i64 p158.2.2.2.2.2.2.2]) rfl sz25 (hF.ev rfl) (hF.ev rfl) rfl rfl rfl (S.free 2 rfl) rfl rfl) ?_; replace S := S.put 2 rfl (#[.int .i64 p158.1, .slice B159 p158.2.1.length d161, .int .i64 p158.2.2.1, .slice B162 p158.2.2.2.1.length d164, .int .i64 p158.2.2.2.2.1, .int .i64 p158.2.2.2.2.2.1, .int .i64 p158.2.2.2.2.2.2.1, .int .i64 p158.2.2.2.2.2.2.2])
                generalize World.setRow _ _ _ = u at S ⊢
                refine wpList_nil ?_
                obtain rfl := Option.some.inj hM136
                exact ⟨(p158.1, p158.2.1, p158.2.2.1, p158.2.2.2.1, p158.2.2.2.2.1, p158.2.2.2.2.2.1, p158.2.2.2.2.2.2.1, p158.2.2.2.2.2.2.2), B159, d161, B162, d164, rfl, hF.keep _ ⟨rfl, rfl, rfl, rfl, trivial⟩, S.sel [2, 3, 5, 0, 1] rfl rfl⟩
            · rintro a u ⟨p130, B132, d133, B134, d135, rfl, hF, S⟩
              replace hM128 := elim_l hM128
              obtain rfl := Option.some.inj hM128
              exact ⟨(p130.1, p130.2.1, p130.2.2.1, p130.2.2.2.1, p130.2.2.2.2.1, p130.2.2.2.2.2.1, p130.2.2.2.2.2.2.1, p130.2.2.2.2.2.2.2), B132, d133, B134, d135, rfl, hF.keep _ ⟨rfl, rfl, rfl, rfl, trivial⟩, S.sel [0, 1, 2, 3, 4] rfl rfl⟩
          · replace hM128 := bif_t hc129 hM128
            refine cond_t hF rfl hc129 ?_
            refine wp_region_lit ?_
            refine op_val (v := .pointer (some ⟨g101, 0, none⟩)) rfl rfl hF rfl (run_fieldAddr rfl fl25_0 (hF.ev rfl) rfl) ?_; clear hF; intro a hF
            refine op_val (v := .int .i64 x0) rfl rfl hF rfl (run_load1 rfl one3 (hF.ev rfl) ((S.free 5 rfl).cell rfl)) ?_; clear hF; intro a hF
            refine op_val (v := .pointer (some ⟨g113, 5, none⟩)) rfl rfl hF rfl (run_fieldAddr rfl fl25_5 (hF.ev rfl) rfl) ?_; clear hF; intro a hF
            refine op_do rfl rfl (run_store (cs' := #[.int .i64 p106.1, .slice B107 p106.2.1.length d109, .int .i64 p106.2.2.1, .slice B110 p106.2.2.2.1.length d112, .int .i64 p106.2.2.2.2.1, .int .i64 x0, .int .i64 p106.2.2.2.2.2.2.1, .int .i64 p106.2.2.2.2.2.2.2]) rfl sz3 (hF.ev rfl) (hF.ev rfl) rfl rfl rfl (S.free 0 rfl) rfl rfl) ?_; replace S := S.put 0 rfl (#[.int .i64 p106.1, .slice B107 p106.2.1.length d109, .int .i64 p106.2.2.1, .slice B110 p106.2.2.2.1.length d112, .int .i64 p106.2.2.2.2.1, .int .i64 x0, .int .i64 p106.2.2.2.2.2.2.1, .int .i64 p106.2.2.2.2.2.2.2])
            generalize World.setRow _ _ _ = u at S ⊢
            refine wpList_nil ?_
            obtain rfl := Option.some.inj hM128
            exact ⟨(p106.1, p106.2.1, p106.2.2.1, p106.2.2.2.1, p106.2.2.2.2.1, x0, p106.2.2.2.2.2.2.1, p106.2.2.2.2.2.2.2), B107, d109, B110, d112, rfl, hF.keep _ ⟨rfl, rfl, rfl, rfl, trivial⟩, S.sel [0, 3, 5, 1, 2] rfl rfl⟩
        · rintro a u ⟨p122, B124, d125, B126, d127, rfl, hF, S⟩
          replace hM120 := elim_l hM120
          obtain rfl := Option.some.inj hM120
          exact ⟨(p122.1, p122.2.1, p122.2.2.1, p122.2.2.2.1, p122.2.2.2.2.1, p122.2.2.2.2.2.1, p122.2.2.2.2.2.2.1, p122.2.2.2.2.2.2.2), B124, d125, B126, d127, rfl, hF.keep _ ⟨rfl, rfl, rfl, rfl, trivial⟩, S.sel [0, 1, 2, 3, 4] rfl rfl⟩
      · replace hM120 := bif_t hc121 hM120
        refine cond_t hF rfl hc121 ?_
        refine wp_region_lit ?_
        refine op_val (v := .pointer (some ⟨g113, 3, none⟩)) rfl rfl hF rfl (run_fieldAddr rfl fl25_3 (hF.ev rfl) rfl) ?_; clear hF; intro a hF
        refine op_val (v := .slice B110 p106.2.2.2.1.length d112) rfl rfl hF rfl (run_load1 rfl one23 (hF.ev rfl) ((S.free 0 rfl).cell rfl)) ?_; clear hF; intro a hF
        refine op_val (v := .pointer (some ⟨g102, 1, none⟩)) rfl rfl hF rfl (run_fieldAddr rfl fl31_1 (hF.ev rfl) rfl) ?_; clear hF; intro a hF
        refine op_val (v := .int .i64 x9) rfl rfl hF rfl (run_load1 rfl one3 (hF.ev rfl) ((S.free 4 rfl).cell rfl)) ?_; clear hF; intro a hF
        refine op_newrowL (ls := (([x9] : List Int) : List Int)) (e := eI) rfl rfl hF rfl S (run_buildS (vs := [(0, .int .i64 x9)]) rfl ⟨⟨rfl, (hF.ev rfl)⟩, trivial⟩ (bs23_1_0 rfl)) rfl eI_len (Nat.le_of_ble_eq_true rfl) ?_; clear hF S; intro a g165 u hF S
        obtain ⟨hk168, hM120⟩ := chk_ex hM120
        replace hk168 := apB_t hk168
        refine op_appendL (lx := p106.2.2.2.1) (ly := ([x9] : List Int)) rfl rfl hF rfl S rfl (hF.ev rfl) (hF.ev rfl) (i := 3) rfl rfl Tryd.underlying23 inf3 rfl (by decide) (S.rc 0 rfl).rd rfl eI_one hk168 (by decide) ?_; clear hF S; intro a B166 d167 u hF S
        refine op_val (v := .pointer (some ⟨g113, 3, none⟩)) rfl rfl hF rfl (run_fieldAddr rfl fl25_3 (hF.ev rfl) rfl) ?_; clear hF; intro a hF
        refine op_do rfl rfl (run_store (cs' := #[.int .i64 p106.1, .slice B107 p106.2.1.length d109, .int .i64 p106.2.2.1, .slice B166 ((p106.2.2.2.1 ++ ([x9] : List Int)).length) d167, .int .i64 p106.2.2.2.2.1, .int .i64 p106.2.2.2.2.2.1, .int .i64 p106.2.2.2.2.2.2.1, .int .i64 p106.2.2.2.2.2.2.2]) rfl sz23 (hF.ev rfl) (hF.ev rfl) rfl rfl rfl (S.free 1 rfl) rfl rfl) ?_; replace S := S.put 1 rfl (#[.int .i64 p106.1, .slice B107 p106.2.1.length d109, .int .i64 p106.2.2.1, .slice B166 ((p106.2.2.2.1 ++ ([x9] : List Int)).length) d167, .int .i64 p106.2.2.2.2.1, .int .i64 p106.2.2.2.2.2.1, .int .i64 p106.2.2.2.2.2.2.1, .int .i64 p106.2.2.2.2.2.2.2])
        generalize World.setRow _ _ _ = u at S ⊢
        refine wpList_nil ?_
        obtain rfl := Option.some.inj hM120
        exact ⟨(p106.1, p106.2.1, p106.2.2.1, p106.2.2.2.1 ++ ([x9] : List Int), p106.2.2.2.2.1, p106.2.2.2.2.2.1, p106.2.2.2.2.2.2.1, p106.2.2.2.2.2.2.2), B107, d109, B166, d167, rfl, hF.keep _ ⟨rfl, rfl, rfl, rfl, trivial⟩, S.sel [1, 4, 6, 2, 3] rfl rfl⟩
    · rintro a u ⟨p114, B116, d117, B118, d119, rfl, hF, S⟩
      replace hM := elim_l hM
      refine wp_seq ?_
      refine wp_seq ?_
      refine wp_region_lit ?_
      refine op_val (v := .agg #[.int .i64 p114.1, .slice B116 p114.2.1.length d117, .int .i64 p114.2.2.1, .slice B118 p114.2.2.2.1.length d119, .int .i64 p114.2.2.2.2.1, .int .i64 p114.2.2.2.2.2.1, .int .i64 p114.2.2.2.2.2.2.1, .int .i64 p114.2.2.2.2.2.2.2]) rfl rfl hF rfl (run_loadN rfl ag25 (hF.ev rfl) rfl ((S.free 0 rfl).cells 0 #[.int .i64 p114.1, .slice B116 p114.2.1.length d117, .int .i64 p114.2.2.1, .slice B118 p114.2.2.2.1.length d119, .int .i64 p114.2.2.2.2.1, .int .i64 p114.2.2.2.2.2.1, .int .i64 p114.2.2.2.2.2.2.1, .int .i64 p114.2.2.2.2.2.2.2] rfl)) ?_; clear hF; intro a hF
      obtain ⟨p169, h169, hM⟩ := bind_ex hM
      refine op_call rfl rfl hF rfl (run_call (vs := [.agg #[.int .i64 p114.1, .slice B116 p114.2.1.length d117, .int .i64 p114.2.2.1, .slice B118 p114.2.2.2.1.length d119, .int .i64 p114.2.2.2.2.1, .int .i64 p114.2.2.2.2.2.1, .int .i64 p114.2.2.2.2.2.2.1, .int .i64 p114.2.2.2.2.2.2.2]]) rfl rfl co32 ⟨(hF.ev rfl), trivial⟩) (c_spec_PollValid (x0 := p114.1) (x1 := p114.2.1) (x2 := p114.2.2.1) (x3 := p114.2.2.2.1) (x4 := p114.2.2.2.2.1) (x5 := p114.2.2.2.2.2.1) (x6 := p114.2.2.2.2.2.2.1) (x7 := p114.2.2.2.2.2.2.2) ⟨(S.rc 3 rfl), rfl⟩ ⟨(S.rc 4 rfl), rfl⟩ h169) ?_
      rintro e u ⟨rfl, T⟩
      refine ⟨_, rfl, ?_⟩
      clear hF; intro a hF
      replace S := S.call0 T; clear T
      refine op_val (v := .bool (!p169)) rfl rfl hF rfl (run_not rfl (hF.ev rfl)) ?_; clear hF; intro a hF
      refine wpList_nil ?_
      cases hc170 : (p169)
      · replace hM := bif_f hc170 hM
        refine cond_t hF rfl (not_t hc170) ?_
        refine wp_seq ?_
        refine wp_region_lit ?_
        refine op_val (v := .agg #[.int .i64 x0, .slice A1 x1.length c1, .int .i64 x2, .slice A3 x3.length c3, .int .i64 x4, .int .i64 x5, .int .i64 x6, .int .i64 x7]) rfl rfl hF rfl (run_loadN rfl ag25 (hF.ev rfl) rfl ((S.free 2 rfl).cells 0 #[.int .i64 x0, .slice A1 x1.length c1, .int .i64 x2, .slice A3 x3.length c3, .int .i64 x4, .int .i64 x5, .int .i64 x6, .int .i64 x7] rfl)) ?_; clear hF; intro a hF
        obtain ⟨p171, h171, hM⟩ := bind_ex hM
        refine op_call rfl rfl hF rfl (run_call (vs := [.agg #[.int .i64 x0, .slice A1 x1.length c1, .int .i64 x2, .slice A3 x3.length c3, .int .i64 x4, .int .i64 x5, .int .i64 x6, .int .i64 x7]]) rfl rfl co33 ⟨(hF.ev rfl), trivial⟩) (c_spec_l27Copy (x0 := x0) (x1 := x1) (x2 := x2) (x3 := x3) (x4 := x4) (x5 := x5) (x6 := x6) (x7 := x7) ⟨(S.rc0 h1.rc), rfl⟩ ⟨(S.rc0 h3.rc), rfl⟩ h171) ?_
        rintro e u ⟨B172, n173, d174, B175, n176, d177, rfl, rfl, rfl, T⟩
        refine ⟨_, rfl, ?_⟩
        clear hF; intro a hF
        replace S := S.call2 T; clear T
        refine op_do rfl rfl (run_store (cs' := #[.int .i64 p171.1, .slice B172 p171.2.1.length d174, .int .i64 p171.2.2.1, .slice B175 p171.2.2.2.1.length d177, .int .i64 p171.2.2.2.2.1, .int .i64 p171.2.2.2.2.2.1, .int .i64 p171.2.2.2.2.2.2.1, .int .i64 p171.2.2.2.2.2.2.2]) rfl sz25 (hF.ev rfl) (hF.ev rfl) rfl rfl rfl (S.free 3 rfl) rfl rfl) ?_; replace S := S.put 3 rfl (#[.int .i64 p171.1, .slice B172 p171.2.1.length d174, .int .i64 p171.2.2.1, .slice B175 p171.2.2.2.1.length d177, .int .i64 p171.2.2.2.2.1, .int .i64 p171.2.2.2.2.2.1, .int .i64 p171.2.2.2.2.2.2.1, .int .i64 p171.2.2.2.2.2.2.2])
        generalize World.setRow _ _ _ = u at S ⊢
        refine op_val (v := .bool false) rfl rfl hF rfl (run_assign rfl rfl) ?_; clear hF; intro a hF
        refine wpList_nil ?_
        refine wp_ret ?_
        repeat with_reducible (first | refine then_ret ?_ | refine in_ret ?_ | refine in_nrm ?_)
        refine ret2_gw (.inl rfl) hF rfl (res_cell (hF.ev rfl) (res_loadN ag25 rfl (S.cells 3 rfl 0 #[.int .i64 p171.1, .slice B172 p171.2.1.length d174, .int .i64 p171.2.2.1, .slice B175 p171.2.2.2.1.length d177, .int .i64 p171.2.2.2.2.1, .int .i64 p171.2.2.2.2.2.1, .int .i64 p171.2.2.2.2.2.2.1, .int .i64 p171.2.2.2.2.2.2.2] rfl))) (res_tmp (hF.ev rfl)) ?_
        obtain rfl := Option.some.inj hM
        exact ⟨B172, p171.2.1.length, d174, B175, p171.2.2.2.1.length, d177, rfl, rfl, rfl, S.sel [0, 1] rfl rfl⟩
      · replace hM := bif_t hc170 hM
        refine cond_f hF rfl (not_f hc170) ?_
        refine wp_skip ?_
        refine wp_seq ?_
        refine wp_region_lit ?_
        refine op_val (v := .agg #[.int .i64 p114.1, .slice B116 p114.2.1.length d117, .int .i64 p114.2.2.1, .slice B118 p114.2.2.2.1.length d119, .int .i64 p114.2.2.2.2.1, .int .i64 p114.2.2.2.2.2.1, .int .i64 p114.2.2.2.2.2.2.1, .int .i64 p114.2.2.2.2.2.2.2]) rfl rfl hF rfl (run_loadN rfl ag25 (hF.ev rfl) rfl ((S.free 0 rfl).cells 0 #[.int .i64 p114.1, .slice B116 p114.2.1.length d117, .int .i64 p114.2.2.1, .slice B118 p114.2.2.2.1.length d119, .int .i64 p114.2.2.2.2.1, .int .i64 p114.2.2.2.2.2.1, .int .i64 p114.2.2.2.2.2.2.1, .int .i64 p114.2.2.2.2.2.2.2] rfl)) ?_; clear hF; intro a hF
        refine op_do rfl rfl (run_store (cs' := #[.int .i64 p114.1, .slice B116 p114.2.1.length d117, .int .i64 p114.2.2.1, .slice B118 p114.2.2.2.1.length d119, .int .i64 p114.2.2.2.2.1, .int .i64 p114.2.2.2.2.2.1, .int .i64 p114.2.2.2.2.2.2.1, .int .i64 p114.2.2.2.2.2.2.2]) rfl sz25 (hF.ev rfl) (hF.ev rfl) rfl rfl rfl (S.free 1 rfl) rfl rfl) ?_; replace S := S.put 1 rfl (#[.int .i64 p114.1, .slice B116 p114.2.1.length d117, .int .i64 p114.2.2.1, .slice B118 p114.2.2.2.1.length d119, .int .i64 p114.2.2.2.2.1, .int .i64 p114.2.2.2.2.2.1, .int .i64 p114.2.2.2.2.2.2.1, .int .i64 p114.2.2.2.2.2.2.2])
        generalize World.setRow _ _ _ = u at S ⊢
        refine op_val (v := .bool true) rfl rfl hF rfl (run_assign rfl rfl) ?_; clear hF; intro a hF
        refine wpList_nil ?_
        refine wp_ret ?_
        repeat with_reducible (first | refine then_ret ?_ | refine in_ret ?_ | refine in_nrm ?_)
        refine ret2_gw (.inl rfl) hF rfl (res_cell (hF.ev rfl) (res_loadN ag25 rfl (S.cells 1 rfl 0 #[.int .i64 p114.1, .slice B116 p114.2.1.length d117, .int .i64 p114.2.2.1, .slice B118 p114.2.2.2.1.length d119, .int .i64 p114.2.2.2.2.1, .int .i64 p114.2.2.2.2.2.1, .int .i64 p114.2.2.2.2.2.2.1, .int .i64 p114.2.2.2.2.2.2.2] rfl))) (res_tmp (hF.ev rfl)) ?_
        obtain rfl := Option.some.inj hM
        exact ⟨B116, p114.2.1.length, d117, B118, p114.2.2.2.1.length, d119, rfl, rfl, rfl, S.sel [3, 4] rfl rfl⟩

set_option maxHeartbeats 4000000 in
theorem c_spec_PollRun {x0 : Int} {x1 : List Int} {x2 : Int} {x3 : List Int} {x4 : Int} {x5 : Int} {x6 : Int} {x7 : Int} {x8 : List (Int × Int)} {A1 : Option Addr} {n1 c1 : Nat} {A3 : Option Addr} {n3 c3 : Nat} {A8 : Option Addr} {n8 c8 : Nat} {w : World} {r : Int × List Int × Int × List Int × Int × Int × Int × Int × Int} (h1 : Rt w 1 eI A1 n1 c1 x1) (h3 : Rt w 1 eI A3 n3 c3 x3) (h8 : Rt w 2 ePollDeed A8 n8 c8 x8) (hM : m_spec_PollRun x0 x1 x2 x3 x4 x5 x6 x7 x8 = some r) :
    Calls Tryd.prog 18 #[.agg #[.int .i64 x0, .slice A1 n1 c1, .int .i64 x2, .slice A3 n3 c3, .int .i64 x4, .int .i64 x5, .int .i64 x6, .int .i64 x7], .slice A8 n8 c8] w (fun e w' => ∃ (B0 : Option Addr) (N0 D0 : Nat) (B1 : Option Addr) (N1 D1 : Nat), e = .returned (.tuple #[.agg #[.int .i64 r.1, .slice B0 N0 D0, .int .i64 r.2.2.1, .slice B1 N1 D1, .int .i64 r.2.2.2.2.1, .int .i64 r.2.2.2.2.2.1, .int .i64 r.2.2.2.2.2.2.1, .int .i64 r.2.2.2.2.2.2.2.1], .int .i64 r.2.2.2.2.2.2.2.2]) ∧ N0 = r.2.1.length ∧ N1 = r.2.2.2.1.length ∧ St w w' [.row 3 1 (.slice B0 N0 D0) N0 (r.2.1.flatMap eI), .row 3 1 (.slice B1 N1 D1) N1 (r.2.2.2.1.flatMap eI)]) := by
  obtain rfl := h1.len
  obtain rfl := h3.len
  obtain rfl := h8.len
  unfold m_spec_PollRun at hM
  refine calls_gw Tryd.func18 Tryd.ntmps18 rfl [(0, .agg #[.int .i64 x0, .slice A1 x1.length c1, .int .i64 x2, .slice A3 x3.length c3, .int .i64 x4, .int .i64 x5, .int .i64 x6, .int .i64 x7]), (1, .slice A8 x8.length c8)] ⟨rfl, rfl, trivial⟩ rfl ?_
  intro a hF
  have S := St.nil w
  refine wp_seq ?_
  refine wp_region_lit ?_
  refine op_new (cs := #[.int .i64 x0, .slice A1 x1.length c1, .int .i64 x2, .slice A3 x3.length c3, .int .i64 x4, .int .i64 x5, .int .i64 x6, .int .i64 x7]) rfl rfl hF rfl S (run_box rfl (hF.ev rfl) rfl) ?_; clear hF S; intro a g101 u hF S
  refine op_new (cs := #[.int .i64 0, .slice none 0 0, .int .i64 0, .slice none 0 0, .int .i64 0, .int .i64 0, .int .i64 0, .int .i64 0]) rfl rfl hF rfl S (run_allocZ rfl zr25) ?_; clear hF S; intro a g102 u hF S
  refine op_val (v := .int .i64 0) rfl rfl hF rfl (run_assign rfl rfl) ?_; clear hF; intro a hF
  refine wpList_nil ?_
  refine wp_seq ?_
  refine wp_seq ?_
  refine wp_region_lit ?_
  refine op_val (v := .agg #[.int .i64 x0, .slice A1 x1.length c1, .int .i64 x2, .slice A3 x3.length c3, .int .i64 x4, .int .i64 x5, .int .i64 x6, .int .i64 x7]) rfl rfl hF rfl (run_loadN rfl ag25 (hF.ev rfl) rfl ((S.free 1 rfl).cells 0 #[.int .i64 x0, .slice A1 x1.length c1, .int .i64 x2, .slice A3 x3.length c3, .int .i64 x4, .int .i64 x5, .int .i64 x6, .int .i64 x7] rfl)) ?_; clear hF; intro a hF
  obtain ⟨p103, h103, hM⟩ := bind_ex hM
  refine op_call rfl rfl hF rfl (run_call (vs := [.agg #[.int .i64 x0, .slice A1 x1.length c1, .int .i64 x2, .slice A3 x3.length c3, .int .i64 x4, .int .i64 x5, .int .i64 x6, .int .i64 x7]]) rfl rfl co32 ⟨(hF.ev rfl), trivial⟩) (c_spec_PollValid (x0 := x0) (x1 := x1) (x2 := x2) (x3 := x3) (x4 := x4) (x5 := x5) (x6 := x6) (x7 := x7) ⟨(S.rc0 h1.rc), rfl⟩ ⟨(S.rc0 h3.rc), rfl⟩ h103) ?_
  rintro e u ⟨rfl, T⟩
  refine ⟨_, rfl, ?_⟩
  clear hF; intro a hF
  replace S := S.call0 T; clear T
  refine op_val (v := .bool (!p103)) rfl rfl hF rfl (run_not rfl (hF.ev rfl)) ?_; clear hF; intro a hF
  refine wpList_nil ?_
  cases hc104 : (p103)
  · replace hM := bif_f hc104 hM
    refine cond_t hF rfl (not_t hc104) ?_
    refine wp_seq ?_
    refine wp_region_lit ?_
    refine op_val (v := .agg #[.int .i64 0, .slice none 0 0, .int .i64 0, .slice none 0 0, .int .i64 0, .int .i64 0, .int .i64 0, .int .i64 0]) rfl rfl hF rfl (run_build (vs := []) rfl trivial (bd25 )) ?_; clear hF; intro a hF
    refine op_do rfl rfl (run_store (cs' := #[.int .i64 0, .slice none 0 0, .int .i64 0, .slice none 0 0, .int .i64 0, .int .i64 0, .int .i64 0, .int .i64 0]) rfl sz25 (hF.ev rfl) (hF.ev rfl) rfl rfl rfl (S.free 0 rfl) rfl rfl) ?_; replace S := S.put 0 rfl (#[.int .i64 0, .slice none 0 0, .int .i64 0, .slice none 0 0, .int .i64 0, .int .i64 0, .int .i64 0, .int .i64 0])
    generalize World.setRow _ _ _ = u at S ⊢
    refine op_val (v := .int .i64 0) rfl rfl hF rfl (run_assign rfl rfl) ?_; clear hF; intro a hF
    refine wpList_nil ?_
    refine wp_ret ?_
    repeat with_reducible (first | refine then_ret ?_ | refine in_ret ?_ | refine in_nrm ?_)
    refine ret2_gw (.inl rfl) hF rfl (res_cell (hF.ev rfl) (res_loadN ag25 rfl (S.cells 0 rfl 0 #[.int .i64 0, .slice none 0 0, .int .i64 0, .slice none 0 0, .int .i64 0, .int .i64 0, .int .i64 0, .int .i64 0] rfl))) (res_tmp (hF.ev rfl)) ?_
    obtain rfl := Option.some.inj hM
    replace S := S.nilrow 3 1
    replace S := S.nilrow 3 1
    exact ⟨none, 0, 0, none, 0, 0, rfl, rfl, rfl, S.sel [1, 0] rfl rfl⟩
  · replace hM := bif_t hc104 hM
    refine cond_f hF rfl (not_f hc104) ?_
    refine wp_skip ?_
    refine wp_seq ?_
    refine wp_region_lit ?_
    refine op_val (v := .agg #[.int .i64 x0, .slice A1 x1.length c1, .int .i64 x2, .slice A3 x3.length c3, .int .i64 x4, .int .i64 x5, .int .i64 x6, .int .i64 x7]) rfl rfl hF rfl (run_loadN rfl ag25 (hF.ev rfl) rfl ((S.free 1 rfl).cells 0 #[.int .i64 x0, .slice A1 x1.length c1, .int .i64 x2, .slice A3 x3.length c3, .int .i64 x4, .int .i64 x5, .int .i64 x6, .int .i64 x7] rfl)) ?_; clear hF; intro a hF
    obtain ⟨p105, h105, hM⟩ := bind_ex hM
    refine op_call rfl rfl hF rfl (run_call (vs := [.agg #[.int .i64 x0, .slice A1 x1.length c1, .int .i64 x2, .slice A3 x3.length c3, .int .i64 x4, .int .i64 x5, .int .i64 x6, .int .i64 x7]]) rfl rfl co33 ⟨(hF.ev rfl), trivial⟩) (c_spec_l27Copy (x0 := x0) (x1 := x1) (x2 := x2) (x3 := x3) (x4 := x4) (x5 := x5) (x6 := x6) (x7 := x7) ⟨(S.rc0 h1.rc), rfl⟩ ⟨(S.rc0 h3.rc), rfl⟩ h105) ?_
    rintro e u ⟨B106, n107, d108, B109, n110, d111, rfl, rfl, rfl, T⟩
    refine ⟨_, rfl, ?_⟩
    clear hF; intro a hF
    replace S := S.call2 T; clear T
    refine op_new (cs := #[.int .i64 0, .slice none 0 0, .int .i64 0, .slice none 0 0, .int .i64 0, .int .i64 0, .int .i64 0, .int .i64 0]) rfl rfl hF rfl S (run_allocZ rfl zr25) ?_; clear hF S; intro a g112 u hF S
    refine op_do rfl rfl (run_store (cs' := #[.int .i64 p105.1, .slice B106 p105.2.1.length d108, .int .i64 p105.2.2.1, .slice B109 p105.2.2.2.1.length d111, .int .i64 p105.2.2.2.2.1, .int .i64 p105.2.2.2.2.2.1, .int .i64 p105.2.2.2.2.2.2.1, .int .i64 p105.2.2.2.2.2.2.2]) rfl sz25 (hF.ev rfl) (hF.ev rfl) rfl rfl rfl (S.free 0 rfl) rfl rfl) ?_; replace S := S.put 0 rfl (#[.int .i64 p105.1, .slice B106 p105.2.1.length d108, .int .i64 p105.2.2.1, .slice B109 p105.2.2.2.1.length d111, .int .i64 p105.2.2.2.2.1, .int .i64 p105.2.2.2.2.2.1, .int .i64 p105.2.2.2.2.2.2.1, .int .i64 p105.2.2.2.2.2.2.2])
    generalize World.setRow _ _ _ = u at S ⊢
    refine wpList_nil ?_
    refine wp_seq ?_
    refine wp_region_lit ?_
    refine op_val (v := .int .i64 0) rfl rfl hF rfl (run_assign rfl rfl) ?_; clear hF; intro a hF
    refine wpList_nil ?_
    refine wp_seq ?_
    refine wp_seq ?_
    refine wp_region_lit ?_
    refine op_val (v := .int .i64 0) rfl rfl hF rfl (run_assign rfl rfl) ?_; clear hF; intro a hF
    refine wpList_nil ?_
    obtain ⟨o114, hM119, hM⟩ := bind_ex hM
    refine wp_cut (fun a u => ∃ (p113 : Int × Int × List Int × Int × List Int × Int × Int × Int × Int) (B115 : Option Addr) (d116 : Nat) (B117 : Option Addr) (d118 : Nat), p113 = o114 ∧ Fr a 38 [(4, .pointer (some ⟨g102, 0, none⟩)), (5, .int .i64 0), (6, .pointer (some ⟨g112, 0, none⟩)), (7, .int .i64 p113.1)] ∧ St w u [.box g112 25 #[.int .i64 p113.2.1, .slice B115 p113.2.2.1.length d116, .int .i64 p113.2.2.2.1, .slice B117 p113.2.2.2.2.1.length d118, .int .i64 p113.2.2.2.2.2.1, .int .i64 p113.2.2.2.2.2.2.1, .int .i64 p113.2.2.2.2.2.2.2.1, .int .i64 p113.2.2.2.2.2.2.2.2], .box g102 25 #[.int .i64 0, .slice none 0 0, .int .i64 0, .slice none 0 0, .int .i64 0, .int .i64 0, .int .i64 0, .int .i64 0], .row 3 1 (.slice B115 p113.2.2.1.length d116) p113.2.2.1.length (p113.2.2.1.flatMap eI), .row 3 1 (.slice B117 p113.2.2.2.2.1.length d118) p113.2.2.2.2.1.length (p113.2.2.2.2.1.flatMap eI)]) ?_ ?_
    · have _ := trivial
      refine wp_block ?_
      refine loop_gw (fun m a u => ∃ (p120 : Int × Int × Int × List Int × Int × List Int × Int × Int × Int × Int) (B121 : Option Addr) (d122 : Nat) (B123 : Option Addr) (d124 : Nat), m_spec_PollRun_l1 x8 m p120 = some _ ∧ Fr a 38 [(1, .slice A8 x8.length c8), (4, .pointer (some ⟨g102, 0, none⟩)), (5, .int .i64 0), (6, .pointer (some ⟨g112, 0, none⟩)), (7, .int .i64 p120.1), (8, .int .i64 p120.2.1)] ∧ St w u [.box g112 25 #[.int .i64 p120.2.2.1, .slice B121 p120.2.2.2.1.length d122, .int .i64 p120.2.2.2.2.1, .slice B123 p120.2.2.2.2.2.1.length d124, .int .i64 p120.2.2.2.2.2.2.1, .int .i64 p120.2.2.2.2.2.2.2.1, .int .i64 p120.2.2.2.2.2.2.2.2.1, .int .i64 p120.2.2.2.2.2.2.2.2.2], .box g102 25 #[.int .i64 0, .slice none 0 0, .int .i64 0, .slice none 0 0, .int .i64 0, .int .i64 0, .int .i64 0, .int .i64 0], .row 3 1 (.slice B121 p120.2.2.2.1.length d122) p120.2.2.2.1.length (p120.2.2.2.1.flatMap eI), .row 3 1 (.slice B123 p120.2.2.2.2.2.1.length d124) p120.2.2.2.2.2.1.length (p120.2.2.2.2.2.1.flatMap eI)]) FUEL ⟨(0, 0, p105.1, p105.2.1, p105.2.2.1, p105.2.2.2.1, p105.2.2.2.2.1, p105.2.2.2.2.2.1, p105.2.2.2.2.2.2.1, p105.2.2.2.2.2.2.2), B106, d108, B109, d111, hM119, hF.keep _ ⟨rfl, rfl, rfl, rfl, rfl, rfl, trivial⟩, S.sel [0, 3, 1, 2] rfl rfl⟩ ?_
      clear hF S hM119; rintro m a u ⟨p120, B121, d122, B123, d124, hM119, hF, S⟩
      rcases m with _ | f1
      · exact none_some hM119
      rw [m_spec_PollRun_l1.eq_2] at hM119
      refine wp_seq ?_
      refine wp_seq ?_
      refine wp_region_lit ?_
      refine op_val (v := .int .i64 p120.2.1) rfl rfl hF rfl (run_move rfl (hF.ev rfl)) ?_; clear hF; intro a hF
      refine op_val (v := .slice A8 x8.length c8) rfl rfl hF rfl (run_move rfl (hF.ev rfl)) ?_; clear hF; intro a hF
      refine op_val (v := .int .i64 (x8.length : Int)) rfl rfl hF rfl (run_lenL rfl rfl Tryd.underlying38 (hF.ev rfl)) ?_; clear hF; intro a hF
      refine op_val (v := .bool (ltB p120.2.1 (x8.length : Int))) rfl rfl hF rfl (run_lss (hF.ev rfl) (hF.ev rfl) rfl) ?_; clear hF; intro a hF
      refine wpList_nil ?_
      cases hc125 : (ltB p120.2.1 (x8.length : Int))
      · replace hM119 := bif_f hc125 hM119
        refine cond_f hF rfl hc125 ?_
        refine wp_exit ?_
        repeat with_reducible (first | refine then_exit ?_ | refine in_hit ?_ | refine in_miss rfl ?_)
        obtain rfl := Option.some.inj hM119
        exact ⟨(p120.1, p120.2.2.1, p120.2.2.2.1, p120.2.2.2.2.1, p120.2.2.2.2.2.1, p120.2.2.2.2.2.2.1, p120.2.2.2.2.2.2.2.1, p120.2.2.2.2.2.2.2.2.1, p120.2.2.2.2.2.2.2.2.2), B121, d122, B123, d124, rfl, hF.keep _ ⟨rfl, rfl, rfl, rfl, trivial⟩, S.sel [0, 1, 2, 3] rfl rfl⟩
      · replace hM119 := bif_t hc125 hM119
        refine cond_t hF rfl hc125 ?_
        refine wp_skip ?_
        refine wp_seq ?_
        refine wp_block ?_
        refine wp_seq ?_
        obtain ⟨hk126, hM119⟩ := chk_ex hM119
        replace hk126 := ixB_t hk126
        obtain ⟨p127, h127, hM119⟩ := bind_ex hM119
        refine region_gw (D := [24, 25, 26, 27, 28, 29, 23, 30, 31, 9, 10]) (Lr := [.box g112 25 #[.int .i64 p120.2.2.1, .slice B121 p120.2.2.2.1.length d122, .int .i64 p120.2.2.2.2.1, .slice B123 p120.2.2.2.2.2.1.length d124, .int .i64 p120.2.2.2.2.2.2.1, .int .i64 p120.2.2.2.2.2.2.2.1, .int .i64 p120.2.2.2.2.2.2.2.2.1, .int .i64 p120.2.2.2.2.2.2.2.2.2], .box g102 25 #[.int .i64 0, .slice none 0 0, .int .i64 0, .slice none 0 0, .int .i64 0, .int .i64 0, .int .i64 0, .int .i64 0], .row 3 1 (.slice B121 p120.2.2.2.1.length d122) p120.2.2.2.1.length (p120.2.2.2.1.flatMap eI), .row 3 1 (.slice B123 p120.2.2.2.2.2.1.length d124) p120.2.2.2.2.2.1.length (p120.2.2.2.2.2.1.flatMap eI)]) (deps := (fun | 0 => [24] | 1 => [25] | 2 => [26] | 3 => [27] | 4 => [28] | 5 => [29] | 6 => [23, 29] | 7 => [30, 29] | 8 => [31] | 9 => [9] | 10 => [9, 29] | 11 => [10] | _ => [])) (rd := (fun _ => [])) (zr := (fun _ => []))
          (φ := fun i vs => match i, vs with | 0, [v24] => v24 = .agg #[.int .i64 p120.2.2.1, .slice B121 p120.2.2.2.1.length d122, .int .i64 p120.2.2.2.2.1, .slice B123 p120.2.2.2.2.2.1.length d124, .int .i64 p120.2.2.2.2.2.2.1, .int .i64 p120.2.2.2.2.2.2.2.1, .int .i64 p120.2.2.2.2.2.2.2.2.1, .int .i64 p120.2.2.2.2.2.2.2.2.2] | 1, [v25] => v25 = .slice A8 x8.length c8 | 2, [v26] => v26 = .int .i64 p120.2.1 | 3, [v27] => v27 = .pointer (some ⟨adB A8, adO A8 + p120.2.1.toNat * 2, none⟩) | 4, [v28] => v28 = .agg #[.int .i64 ((x8.getD p120.2.1.toNat ((0, 0) : Int × Int)).1), .int .i64 ((x8.getD p120.2.1.toNat ((0, 0) : Int × Int)).2)] | 5, [v29] => v29 = .tuple #[.agg #[.int .i64 p127.1, .slice (slA (vtup (vtup v29 0) 1)) p127.2.1.length (slC (vtup (vtup v29 0) 1)), .int .i64 p127.2.2.1, .slice (slA (vtup (vtup v29 0) 3)) p127.2.2.2.1.length (slC (vtup (vtup v29 0) 3)), .int .i64 p127.2.2.2.2.1, .int .i64 p127.2.2.2.2.2.1, .int .i64 p127.2.2.2.2.2.2.1, .int .i64 p127.2.2.2.2.2.2.2.1], .bool p127.2.2.2.2.2.2.2.2] | 6, [v23, v29] => v23 = .tuple #[.agg #[.int .i64 p127.1, .slice (slA (vtup (vtup v29 0) 1)) p127.2.1.length (slC (vtup (vtup v29 0) 1)), .int .i64 p127.2.2.1, .slice (slA (vtup (vtup v29 0) 3)) p127.2.2.2.1.length (slC (vtup (vtup v29 0) 3)), .int .i64 p127.2.2.2.2.1, .int .i64 p127.2.2.2.2.2.1, .int .i64 p127.2.2.2.2.2.2.1, .int .i64 p127.2.2.2.2.2.2.2.1], .bool p127.2.2.2.2.2.2.2.2] | 7, [v30, v29] => v30 = .agg #[.int .i64 p127.1, .slice (slA (vtup (vtup v29 0) 1)) p127.2.1.length (slC (vtup (vtup v29 0) 1)), .int .i64 p127.2.2.1, .slice (slA (vtup (vtup v29 0) 3)) p127.2.2.2.1.length (slC (vtup (vtup v29 0) 3)), .int .i64 p127.2.2.2.2.1, .int .i64 p127.2.2.2.2.2.1, .int .i64 p127.2.2.2.2.2.2.1, .int .i64 p127.2.2.2.2.2.2.2.1] | 8, [v31] => v31 = .bool p127.2.2.2.2.2.2.2.2 | 9, [v9] => v9 = .pointer (some ⟨ptB v9, 0, none⟩) | 11, [v10] => v10 = .bool p127.2.2.2.2.2.2.2.2 | _, _ => True)
          (C := fun i vs => match i, vs with | 5, [v29] => [.row 3 1 (.slice (slA (vtup (vtup v29 0) 1)) p127.2.1.length (slC (vtup (vtup v29 0) 1))) p127.2.1.length (p127.2.1.flatMap eI), .row 3 1 (.slice (slA (vtup (vtup v29 0) 3)) p127.2.2.2.1.length (slC (vtup (vtup v29 0) 3))) p127.2.2.2.1.length (p127.2.2.2.1.flatMap eI)] | 9, [v9] => [.box (ptB v9) 25 #[.int .i64 0, .slice none 0 0, .int .i64 0, .slice none 0 0, .int .i64 0, .int .i64 0, .int .i64 0, .int .i64 0]] | 10, [v9, v29] => [.box (ptB v9) 25 #[.int .i64 p127.1, .slice (slA (vtup (vtup v29 0) 1)) p127.2.1.length (slC (vtup (vtup v29 0) 1)), .int .i64 p127.2.2.1, .slice (slA (vtup (vtup v29 0) 3)) p127.2.2.2.1.length (slC (vtup (vtup v29 0) 3)), .int .i64 p127.2.2.2.2.1, .int .i64 p127.2.2.2.2.2.1, .int .i64 p127.2.2.2.2.2.2.1, .int .i64 p127.2.2.2.2.2.2.2.1]] | _, _ => [])
          (κ := (fun | 9 => some 10 | _ => none)) (Z := (fun _ => [])) mixed hF (by kernel_rfl) S ?_ ?_
        · refine ⟨?_, ?_, ?_, ?_, ?_, ?_, ?_, ?_, ?_, ?_, ?_, ?_, trivial⟩
          · intro a u X hB hu hp hr hz hl S
            replace S : St w u ([] ++ X) := S
            exact .inl ⟨rfl, .agg #[.int .i64 p120.2.2.1, .slice B121 p120.2.2.2.1.length d122, .int .i64 p120.2.2.2.2.1, .slice B123 p120.2.2.2.2.2.1.length d124, .int .i64 p120.2.2.2.2.2.2.1, .int .i64 p120.2.2.2.2.2.2.2.1, .int .i64 p120.2.2.2.2.2.2.2.2.1, .int .i64 p120.2.2.2.2.2.2.2.2.2], u, (run_loadN rfl ag25 (hF.evB hB rfl rfl) rfl ((gr_box S hl 0 rfl).cells 0 #[.int .i64 p120.2.2.1, .slice B121 p120.2.2.2.1.length d122, .int .i64 p120.2.2.2.2.1, .slice B123 p120.2.2.2.2.2.1.length d124, .int .i64 p120.2.2.2.2.2.2.1, .int .i64 p120.2.2.2.2.2.2.2.1, .int .i64 p120.2.2.2.2.2.2.2.2.1, .int .i64 p120.2.2.2.2.2.2.2.2.2] rfl)), rfl, S⟩
          · intro a u X hB hu hp hr hz hl S
            replace S : St w u ([] ++ X) := S
            exact .inl ⟨rfl, .slice A8 x8.length c8, u, (run_move rfl (hF.evB hB rfl rfl)), rfl, S⟩
          · intro a u X hB hu hp hr hz hl S
            replace S : St w u ([] ++ X) := S
            exact .inl ⟨rfl, .int .i64 p120.2.1, u, (run_move rfl (hF.evB hB rfl rfl)), rfl, S⟩
          · intro a u X hB hu hp hr hz hl S
            replace S : St w u ([] ++ X) := S
            have e25 : sl a 25 = .slice A8 x8.length c8 := hp 1 rfl
            have e26 : sl a 26 = .int .i64 p120.2.1 := hp 2 rfl
            exact .inl ⟨rfl, .pointer (some ⟨adB A8, adO A8 + p120.2.1.toNat * 2, none⟩), u, (run_indexAddr (b := adB A8) (off := adO A8) rfl Tryd.underlying38 sz31 ((ev_sl e25).trans (congrArg (fun A => Value.slice A x8.length c8) ((S.rc0 h8.rc).rd.ad (ix_pos hk126)))) (ev_sl e26) hk126.1 hk126.2 (k' := adO A8 + p120.2.1.toNat * 2) rfl), rfl, S⟩
          · intro a u X hB hu hp hr hz hl S
            replace S : St w u ([] ++ X) := S
            have e27 : sl a 27 = .pointer (some ⟨adB A8, adO A8 + p120.2.1.toNat * 2, none⟩) := hp 3 rfl
            exact .inl ⟨rfl, .agg #[.int .i64 ((x8.getD p120.2.1.toNat ((0, 0) : Int × Int)).1), .int .i64 ((x8.getD p120.2.1.toNat ((0, 0) : Int × Int)).2)], u, (run_loadN (cs := #[.int .i64 ((x8.getD p120.2.1.toNat ((0, 0) : Int × Int)).1), .int .i64 ((x8.getD p120.2.1.toNat ((0, 0) : Int × Int)).2)]) rfl ag31 (ev_sl e27) rfl (rd_elN (l := x8) (S.rc0 h8.rc).rd rfl ePollDeed_len ((0, 0) : Int × Int) (ix_ltn hk126 rfl) rfl)), rfl, S⟩
          · intro a u X hB hu hp hr hz hl S
            replace S : St w u ([] ++ X) := S
            have e24 : sl a 24 = .agg #[.int .i64 p120.2.2.1, .slice B121 p120.2.2.2.1.length d122, .int .i64 p120.2.2.2.2.1, .slice B123 p120.2.2.2.2.2.1.length d124, .int .i64 p120.2.2.2.2.2.2.1, .int .i64 p120.2.2.2.2.2.2.2.1, .int .i64 p120.2.2.2.2.2.2.2.2.1, .int .i64 p120.2.2.2.2.2.2.2.2.2] := hp 0 rfl
            have e28 : sl a 28 = .agg #[.int .i64 ((x8.getD p120.2.1.toNat ((0, 0) : Int × Int)).1), .int .i64 ((x8.getD p120.2.1.toNat ((0, 0) : Int × Int)).2)] := hp 4 rfl
            refine .inr (.inr (.inl ⟨rfl, _, _, (run_call (vs := [.agg #[.int .i64 p120.2.2.1, .slice B121 p120.2.2.2.1.length d122, .int .i64 p120.2.2.2.2.1, .slice B123 p120.2.2.2.2.2.1.length d124, .int .i64 p120.2.2.2.2.2.2.1, .int .i64 p120.2.2.2.2.2.2.2.1, .int .i64 p120.2.2.2.2.2.2.2.2.1, .int .i64 p120.2.2.2.2.2.2.2.2.2], .agg #[.int .i64 ((x8.getD p120.2.1.toNat ((0, 0) : Int × Int)).1), .int .i64 ((x8.getD p120.2.1.toNat ((0, 0) : Int × Int)).2)]]) rfl rfl co14 ⟨(ev_sl e24), (ev_sl e28), trivial⟩), ?_⟩))
            refine Calls.mono (c_spec_PollDo (x0 := p120.2.2.1) (x1 := p120.2.2.2.1) (x2 := p120.2.2.2.2.1) (x3 := p120.2.2.2.2.2.1) (x4 := p120.2.2.2.2.2.2.1) (x5 := p120.2.2.2.2.2.2.2.1) (x6 := p120.2.2.2.2.2.2.2.2.1) (x7 := p120.2.2.2.2.2.2.2.2.2) (x8 := (x8.getD p120.2.1.toNat ((0, 0) : Int × Int)).1) (x9 := (x8.getD p120.2.1.toNat ((0, 0) : Int × Int)).2) ⟨(gr_rc S hl 2 rfl), rfl⟩ ⟨(gr_rc S hl 3 rfl), rfl⟩ h127) ?_
            rintro e w1 ⟨B128, n129, d130, B131, n132, d133, rfl, rfl, rfl, T⟩
            exact ⟨_, rfl, rfl, S.call2 T⟩
          · intro a u X hB hu hp hr hz hl S
            replace S : St w u ([] ++ X) := S
            have e29 : sl a 29 = .tuple #[.agg #[.int .i64 p127.1, .slice (slA (vtup (vtup (sl a 29) 0) 1)) p127.2.1.length (slC (vtup (vtup (sl a 29) 0) 1)), .int .i64 p127.2.2.1, .slice (slA (vtup (vtup (sl a 29) 0) 3)) p127.2.2.2.1.length (slC (vtup (vtup (sl a 29) 0) 3)), .int .i64 p127.2.2.2.2.1, .int .i64 p127.2.2.2.2.2.1, .int .i64 p127.2.2.2.2.2.2.1, .int .i64 p127.2.2.2.2.2.2.2.1], .bool p127.2.2.2.2.2.2.2.2] := hp 5 rfl
            exact .inl ⟨rfl, .tuple #[.agg #[.int .i64 p127.1, .slice (slA (vtup (vtup (sl a 29) 0) 1)) p127.2.1.length (slC (vtup (vtup (sl a 29) 0) 1)), .int .i64 p127.2.2.1, .slice (slA (vtup (vtup (sl a 29) 0) 3)) p127.2.2.2.1.length (slC (vtup (vtup (sl a 29) 0) 3)), .int .i64 p127.2.2.2.2.1, .int .i64 p127.2.2.2.2.2.1, .int .i64 p127.2.2.2.2.2.2.1, .int .i64 p127.2.2.2.2.2.2.2.1], .bool p127.2.2.2.2.2.2.2.2], u, (run_move rfl (ev_sl e29)), rfl, S⟩
          · intro a u X hB hu hp hr hz hl S
            replace S : St w u ([] ++ X) := S
            have e23 : sl a 23 = .tuple #[.agg #[.int .i64 p127.1, .slice (slA (vtup (vtup (sl a 29) 0) 1)) p127.2.1.length (slC (vtup (vtup (sl a 29) 0) 1)), .int .i64 p127.2.2.1, .slice (slA (vtup (vtup (sl a 29) 0) 3)) p127.2.2.2.1.length (slC (vtup (vtup (sl a 29) 0) 3)), .int .i64 p127.2.2.2.2.1, .int .i64 p127.2.2.2.2.2.1, .int .i64 p127.2.2.2.2.2.2.1, .int .i64 p127.2.2.2.2.2.2.2.1], .bool p127.2.2.2.2.2.2.2.2] := hp 6 rfl
            exact .inl ⟨rfl, .agg #[.int .i64 p127.1, .slice (slA (vtup (vtup (sl a 29) 0) 1)) p127.2.1.length (slC (vtup (vtup (sl a 29) 0) 1)), .int .i64 p127.2.2.1, .slice (slA (vtup (vtup (sl a 29) 0) 3)) p127.2.2.2.1.length (slC (vtup (vtup (sl a 29) 0) 3)), .int .i64 p127.2.2.2.2.1, .int .i64 p127.2.2.2.2.2.1, .int .i64 p127.2.2.2.2.2.2.1, .int .i64 p127.2.2.2.2.2.2.2.1], u, (run_extract rfl (ev_sl e23) rfl), rfl, S⟩
          · intro a u X hB hu hp hr hz hl S
            replace S : St w u ([] ++ X) := S
            have e23 : sl a 23 = .tuple #[.agg #[.int .i64 p127.1, .slice (slA (vtup (vtup (sl a 29) 0) 1)) p127.2.1.length (slC (vtup (vtup (sl a 29) 0) 1)), .int .i64 p127.2.2.1, .slice (slA (vtup (vtup (sl a 29) 0) 3)) p127.2.2.2.1.length (slC (vtup (vtup (sl a 29) 0) 3)), .int .i64 p127.2.2.2.2.1, .int .i64 p127.2.2.2.2.2.1, .int .i64 p127.2.2.2.2.2.2.1, .int .i64 p127.2.2.2.2.2.2.2.1], .bool p127.2.2.2.2.2.2.2.2] := hp 6 rfl
            exact .inl ⟨rfl, .bool p127.2.2.2.2.2.2.2.2, u, (run_extract rfl (ev_sl e23) rfl), rfl, S⟩
          · intro a u X hB hu hp hr hz hl S
            replace S : St w u ([] ++ X) := S
            exact .inl ⟨rfl, _, _, (run_allocZ rfl zr25), rfl, S.alloc _ _⟩
          · intro a u X hB hu hp hr hz hl S
            replace S : St w u ([.box (ptB (sl a 9)) 25 #[.int .i64 0, .slice none 0 0, .int .i64 0, .slice none 0 0, .int .i64 0, .int .i64 0, .int .i64 0, .int .i64 0]] ++ X) := S
            have e9 : sl a 9 = .pointer (some ⟨ptB (sl a 9), 0, none⟩) := hp 9 rfl
            have e30 : sl a 30 = .agg #[.int .i64 p127.1, .slice (slA (vtup (vtup (sl a 29) 0) 1)) p127.2.1.length (slC (vtup (vtup (sl a 29) 0) 1)), .int .i64 p127.2.2.1, .slice (slA (vtup (vtup (sl a 29) 0) 3)) p127.2.2.2.1.length (slC (vtup (vtup (sl a 29) 0) 3)), .int .i64 p127.2.2.2.2.1, .int .i64 p127.2.2.2.2.2.1, .int .i64 p127.2.2.2.2.2.2.1, .int .i64 p127.2.2.2.2.2.2.2.1] := hp 7 rfl
            exact .inr (.inl ⟨rfl, _, run_store (cs' := #[.int .i64 p127.1, .slice (slA (vtup (vtup (sl a 29) 0) 1)) p127.2.1.length (slC (vtup (vtup (sl a 29) 0) 1)), .int .i64 p127.2.2.1, .slice (slA (vtup (vtup (sl a 29) 0) 3)) p127.2.2.2.1.length (slC (vtup (vtup (sl a 29) 0) 3)), .int .i64 p127.2.2.2.2.1, .int .i64 p127.2.2.2.2.2.1, .int .i64 p127.2.2.2.2.2.2.1, .int .i64 p127.2.2.2.2.2.2.2.1]) rfl sz25 (ev_sl e9) (ev_sl e30) rfl rfl rfl (S.free 0 rfl) rfl rfl, trivial, S.put 0 rfl (#[.int .i64 p127.1, .slice (slA (vtup (vtup (sl a 29) 0) 1)) p127.2.1.length (slC (vtup (vtup (sl a 29) 0) 1)), .int .i64 p127.2.2.1, .slice (slA (vtup (vtup (sl a 29) 0) 3)) p127.2.2.2.1.length (slC (vtup (vtup (sl a 29) 0) 3)), .int .i64 p127.2.2.2.2.1, .int .i64 p127.2.2.2.2.2.1, .int .i64 p127.2.2.2.2.2.2.1, .int .i64 p127.2.2.2.2.2.2.2.1])⟩)
          · intro a u X hB hu hp hr hz hl S
            replace S : St w u ([] ++ X) := S
            have e31 : sl a 31 = .bool p127.2.2.2.2.2.2.2.2 := hp 8 rfl
            exact .inl ⟨rfl, .bool p127.2.2.2.2.2.2.2.2, u, (run_assign rfl (ev_sl e31)), rfl, S⟩
        · intro a u hB hp S
          obtain ⟨q0, q1, q2, q3, q4, q5, q6, q7, q8, q9, q10, q11, _⟩ := hp
          have e24 : sl a 24 = .agg #[.int .i64 p120.2.2.1, .slice B121 p120.2.2.2.1.length d122, .int .i64 p120.2.2.2.2.1, .slice B123 p120.2.2.2.2.2.1.length d124, .int .i64 p120.2.2.2.2.2.2.1, .int .i64 p120.2.2.2.2.2.2.2.1, .int .i64 p120.2.2.2.2.2.2.2.2.1, .int .i64 p120.2.2.2.2.2.2.2.2.2] := q0
          have e25 : sl a 25 = .slice A8 x8.length c8 := q1
          have e26 : sl a 26 = .int .i64 p120.2.1 := q2
          have e27 : sl a 27 = .pointer (some ⟨adB A8, adO A8 + p120.2.1.toNat * 2, none⟩) := q3
          have e28 : sl a 28 = .agg #[.int .i64 ((x8.getD p120.2.1.toNat ((0, 0) : Int × Int)).1), .int .i64 ((x8.getD p120.2.1.toNat ((0, 0) : Int × Int)).2)] := q4
          have e29 : sl a 29 = .tuple #[.agg #[.int .i64 p127.1, .slice (slA (vtup (vtup (sl a 29) 0) 1)) p127.2.1.length (slC (vtup (vtup (sl a 29) 0) 1)), .int .i64 p127.2.2.1, .slice (slA (vtup (vtup (sl a 29) 0) 3)) p127.2.2.2.1.length (slC (vtup (vtup (sl a 29) 0) 3)), .int .i64 p127.2.2.2.2.1, .int .i64 p127.2.2.2.2.2.1, .int .i64 p127.2.2.2.2.2.2.1, .int .i64 p127.2.2.2.2.2.2.2.1], .bool p127.2.2.2.2.2.2.2.2] := q5
          have e23 : sl a 23 = .tuple #[.agg #[.int .i64 p127.1, .slice (slA (vtup (vtup (sl a 29) 0) 1)) p127.2.1.length (slC (vtup (vtup (sl a 29) 0) 1)), .int .i64 p127.2.2.1, .slice (slA (vtup (vtup (sl a 29) 0) 3)) p127.2.2.2.1.length (slC (vtup (vtup (sl a 29) 0) 3)), .int .i64 p127.2.2.2.2.1, .int .i64 p127.2.2.2.2.2.1, .int .i64 p127.2.2.2.2.2.2.1, .int .i64 p127.2.2.2.2.2.2.2.1], .bool p127.2.2.2.2.2.2.2.2] := q6
          have e30 : sl a 30 = .agg #[.int .i64 p127.1, .slice (slA (vtup (vtup (sl a 29) 0) 1)) p127.2.1.length (slC (vtup (vtup (sl a 29) 0) 1)), .int .i64 p127.2.2.1, .slice (slA (vtup (vtup (sl a 29) 0) 3)) p127.2.2.2.1.length (slC (vtup (vtup (sl a 29) 0) 3)), .int .i64 p127.2.2.2.2.1, .int .i64 p127.2.2.2.2.2.1, .int .i64 p127.2.2.2.2.2.2.1, .int .i64 p127.2.2.2.2.2.2.2.1] := q7
          have e31 : sl a 31 = .bool p127.2.2.2.2.2.2.2.2 := q8
          have e9 : sl a 9 = .pointer (some ⟨ptB (sl a 9), 0, none⟩) := q9
          have e10 : sl a 10 = .bool p127.2.2.2.2.2.2.2.2 := q11
          replace S : St w u [.row 3 1 (.slice (slA (vtup (vtup (sl a 29) 0) 1)) p127.2.1.length (slC (vtup (vtup (sl a 29) 0) 1))) p127.2.1.length (p127.2.1.flatMap eI), .row 3 1 (.slice (slA (vtup (vtup (sl a 29) 0) 3)) p127.2.2.2.1.length (slC (vtup (vtup (sl a 29) 0) 3))) p127.2.2.2.1.length (p127.2.2.2.1.flatMap eI), .box (ptB (sl a 9)) 25 #[.int .i64 p127.1, .slice (slA (vtup (vtup (sl a 29) 0) 1)) p127.2.1.length (slC (vtup (vtup (sl a 29) 0) 1)), .int .i64 p127.2.2.1, .slice (slA (vtup (vtup (sl a 29) 0) 3)) p127.2.2.2.1.length (slC (vtup (vtup (sl a 29) 0) 3)), .int .i64 p127.2.2.2.2.1, .int .i64 p127.2.2.2.2.2.1, .int .i64 p127.2.2.2.2.2.2.1, .int .i64 p127.2.2.2.2.2.2.2.1], .box g112 25 #[.int .i64 p120.2.2.1, .slice B121 p120.2.2.2.1.length d122, .int .i64 p120.2.2.2.2.1, .slice B123 p120.2.2.2.2.2.1.length d124, .int .i64 p120.2.2.2.2.2.2.1, .int .i64 p120.2.2.2.2.2.2.2.1, .int .i64 p120.2.2.2.2.2.2.2.2.1, .int .i64 p120.2.2.2.2.2.2.2.2.2], .box g102 25 #[.int .i64 0, .slice none 0 0, .int .i64 0, .slice none 0 0, .int .i64 0, .int .i64 0, .int .i64 0, .int .i64 0], .row 3 1 (.slice B121 p120.2.2.2.1.length d122) p120.2.2.2.1.length (p120.2.2.2.1.flatMap eI), .row 3 1 (.slice B123 p120.2.2.2.2.2.1.length d124) p120.2.2.2.2.2.1.length (p120.2.2.2.2.2.1.flatMap eI)] := S
          clear q0 q1 q2 q3 q4 q5 q6 q7 q8 q9 q10 q11
          generalize slA (vtup (vtup (sl a 29) 0) 1) = B134 at *
          generalize slC (vtup (vtup (sl a 29) 0) 1) = d135 at *
          generalize slA (vtup (vtup (sl a 29) 0) 3) = B136 at *
          generalize slC (vtup (vtup (sl a 29) 0) 3) = d137 at *
          generalize ptB (sl a 9) = g138 at *
          have hF := hF.region hB [(24, .agg #[.int .i64 p120.2.2.1, .slice B121 p120.2.2.2.1.length d122, .int .i64 p120.2.2.2.2.1, .slice B123 p120.2.2.2.2.2.1.length d124, .int .i64 p120.2.2.2.2.2.2.1, .int .i64 p120.2.2.2.2.2.2.2.1, .int .i64 p120.2.2.2.2.2.2.2.2.1, .int .i64 p120.2.2.2.2.2.2.2.2.2]), (25, .slice A8 x8.length c8), (26, .int .i64 p120.2.1), (27, .pointer (some ⟨adB A8, adO A8 + p120.2.1.toNat * 2, none⟩)), (28, .agg #[.int .i64 ((x8.getD p120.2.1.toNat ((0, 0) : Int × Int)).1), .int .i64 ((x8.getD p120.2.1.toNat ((0, 0) : Int × Int)).2)]), (29, .tuple #[.agg #[.int .i64 p127.1, .slice B134 p127.2.1.length d135, .int .i64 p127.2.2.1, .slice B136 p127.2.2.2.1.length d137, .int .i64 p127.2.2.2.2.1, .int .i64 p127.2.2.2.2.2.1, .int .i64 p127.2.2.2.2.2.2.1, .int .i64 p127.2.2.2.2.2.2.2.1], .bool p127.2.2.2.2.2.2.2.2]), (23, .tuple #[.agg #[.int .i64 p127.1, .slice B134 p127.2.1.length d135, .int .i64 p127.2.2.1, .slice B136 p127.2.2.2.1.length d137, .int .i64 p127.2.2.2.2.1, .int .i64 p127.2.2.2.2.2.1, .int .i64 p127.2.2.2.2.2.2.1, .int .i64 p127.2.2.2.2.2.2.2.1], .bool p127.2.2.2.2.2.2.2.2]), (30, .agg #[.int .i64 p127.1, .slice B134 p127.2.1.length d135, .int .i64 p127.2.2.1, .slice B136 p127.2.2.2.1.length d137, .int .i64 p127.2.2.2.2.1, .int .i64 p127.2.2.2.2.2.1, .int .i64 p127.2.2.2.2.2.2.1, .int .i64 p127.2.2.2.2.2.2.2.1]), (31, .bool p127.2.2.2.2.2.2.2.2), (9, .pointer (some ⟨g138, 0, none⟩)), (10, .bool p127.2.2.2.2.2.2.2.2)] (allSl_mem ⟨e24, e25, e26, e27, e28, e29, e23, e30, e31, e9, e10, trivial⟩) rfl
          clear hB e24 e25 e26 e27 e28 e29 e23 e30 e31 e9 e10
          refine wp_seq ?_
          refine wp_region_lit ?_
          refine op_val (v := .bool p127.2.2.2.2.2.2.2.2) rfl rfl hF rfl (run_move rfl (hF.ev rfl)) ?_; clear hF; intro a hF
          refine wpList_nil ?_
          obtain ⟨o140, hM145, hM119⟩ := bind_ex hM119
          refine wp_cut (fun a u => ∃ (p139 : Int × Int × List Int × Int × List Int × Int × Int × Int × Int) (B141 : Option Addr) (d142 : Nat) (B143 : Option Addr) (d144 : Nat), p139 = o140 ∧ Fr a 38 [(1, .slice A8 x8.length c8), (4, .pointer (some ⟨g102, 0, none⟩)), (5, .int .i64 0), (6, .pointer (some ⟨g112, 0, none⟩)), (7, .int .i64 p139.1), (8, .int .i64 p120.2.1)] ∧ St w u [.box g112 25 #[.int .i64 p139.2.1, .slice B141 p139.2.2.1.length d142, .int .i64 p139.2.2.2.1, .slice B143 p139.2.2.2.2.1.length d144, .int .i64 p139.2.2.2.2.2.1, .int .i64 p139.2.2.2.2.2.2.1, .int .i64 p139.2.2.2.2.2.2.2.1, .int .i64 p139.2.2.2.2.2.2.2.2], .box g102 25 #[.int .i64 0, .slice none 0 0, .int .i64 0, .slice none 0 0, .int .i64 0, .int .i64 0, .int .i64 0, .int .i64 0], .row 3 1 (.slice B141 p139.2.2.1.length d142) p139.2.2.1.length (p139.2.2.1.flatMap eI), .row 3 1 (.slice B143 p139.2.2.2.2.1.length d144) p139.2.2.2.2.1.length (p139.2.2.2.2.1.flatMap eI)]) ?_ ?_
          · have _ := trivial
            cases hc146 : (p127.2.2.2.2.2.2.2.2)
            · replace hM145 := bif_f hc146 hM145
              refine cond_f hF rfl hc146 ?_
              refine wp_skip ?_
              obtain rfl := Option.some.inj hM145
              exact ⟨(p120.1, p120.2.2.1, p120.2.2.2.1, p120.2.2.2.2.1, p120.2.2.2.2.2.1, p120.2.2.2.2.2.2.1, p120.2.2.2.2.2.2.2.1, p120.2.2.2.2.2.2.2.2.1, p120.2.2.2.2.2.2.2.2.2), B121, d122, B123, d124, rfl, hF.keep _ ⟨rfl, rfl, rfl, rfl, rfl, rfl, trivial⟩, S.sel [3, 4, 5, 6] rfl rfl⟩
            · replace hM145 := bif_t hc146 hM145
              refine cond_t hF rfl hc146 ?_
              refine wp_seq ?_
              refine wp_region_lit ?_
              refine op_val (v := .agg #[.int .i64 p127.1, .slice B134 p127.2.1.length d135, .int .i64 p127.2.2.1, .slice B136 p127.2.2.2.1.length d137, .int .i64 p127.2.2.2.2.1, .int .i64 p127.2.2.2.2.2.1, .int .i64 p127.2.2.2.2.2.2.1, .int .i64 p127.2.2.2.2.2.2.2.1]) rfl rfl hF rfl (run_loadN rfl ag25 (hF.ev rfl) rfl ((S.free 2 rfl).cells 0 #[.int .i64 p127.1, .slice B134 p127.2.1.length d135, .int .i64 p127.2.2.1, .slice B136 p127.2.2.2.1.length d137, .int .i64 p127.2.2.2.2.1, .int .i64 p127.2.2.2.2.2.1, .int .i64 p127.2.2.2.2.2.2.1, .int .i64 p127.2.2.2.2.2.2.2.1] rfl)) ?_; clear hF; intro a hF
              refine op_do rfl rfl (run_store (cs' := #[.int .i64 p127.1, .slice B134 p127.2.1.length d135, .int .i64 p127.2.2.1, .slice B136 p127.2.2.2.1.length d137, .int .i64 p127.2.2.2.2.1, .int .i64 p127.2.2.2.2.2.1, .int .i64 p127.2.2.2.2.2.2.1, .int .i64 p127.2.2.2.2.2.2.2.1]) rfl sz25 (hF.ev rfl) (hF.ev rfl) rfl rfl rfl (S.free 3 rfl) rfl rfl) ?_; replace S := S.put 3 rfl (#[.int .i64 p127.1, .slice B134 p127.2.1.length d135, .int .i64 p127.2.2.1, .slice B136 p127.2.2.2.1.length d137, .int .i64 p127.2.2.2.2.1, .int .i64 p127.2.2.2.2.2.1, .int .i64 p127.2.2.2.2.2.2.1, .int .i64 p127.2.2.2.2.2.2.2.1])
              generalize World.setRow _ _ _ = u at S ⊢
              refine wpList_nil ?_
              refine wp_region_lit ?_
              refine op_val (v := .int .i64 p120.1) rfl rfl hF rfl (run_move rfl (hF.ev rfl)) ?_; clear hF; intro a hF
              refine op_val (v := .int .i64 (w64 (p120.1 + 1))) rfl rfl hF rfl (run_add (z := w64 (p120.1 + 1)) (hF.ev rfl) rfl rfl rfl) ?_; clear hF; intro a hF
              refine op_val (v := .int .i64 (w64 (p120.1 + 1))) rfl rfl hF rfl (run_assign rfl (hF.ev rfl)) ?_; clear hF; intro a hF
              refine wpList_nil ?_
              obtain rfl := Option.some.inj hM145
              exact ⟨(w64 (p120.1 + 1), p127.1, p127.2.1, p127.2.2.1, p127.2.2.2.1, p127.2.2.2.2.1, p127.2.2.2.2.2.1, p127.2.2.2.2.2.2.1, p127.2.2.2.2.2.2.2.1), B134, d135, B136, d137, rfl, hF.keep _ ⟨rfl, rfl, rfl, rfl, rfl, rfl, trivial⟩, S.sel [3, 4, 0, 1] rfl rfl⟩
          · rintro a u ⟨p139, B141, d142, B143, d144, rfl, hF, S⟩
            refine wp_region_lit ?_
            refine op_val (v := .int .i64 p120.2.1) rfl rfl hF rfl (run_move rfl (hF.ev rfl)) ?_; clear hF; intro a hF
            refine op_val (v := .int .i64 (w64 (p120.2.1 + 1))) rfl rfl hF rfl (run_add (z := w64 (p120.2.1 + 1)) (hF.ev rfl) rfl rfl rfl) ?_; clear hF; intro a hF
            refine op_val (v := .int .i64 (w64 (p120.2.1 + 1))) rfl rfl hF rfl (run_assign rfl (hF.ev rfl)) ?_; clear hF; intro a hF
            refine wpList_nil ?_
            exact ⟨f1, Nat.lt_succ_self _, (p139.1, w64 (p120.2.1 + 1), p139.2.1, p139.2.2.1, p139.2.2.2.1, p139.2.2.2.2.1, p139.2.2.2.2.2.1, p139.2.2.2.2.2.2.1, p139.2.2.2.2.2.2.2.1, p139.2.2.2.2.2.2.2.2), B141, d142, B143, d144, hM119, hF.keep _ ⟨rfl, rfl, rfl, rfl, rfl, rfl, trivial⟩, S.sel [0, 1, 2, 3] rfl rfl⟩
    · rintro a u ⟨p113, B115, d116, B117, d118, rfl, hF, S⟩
      refine wp_seq ?_
      refine wp_region_lit ?_
      refine op_val (v := .agg #[.int .i64 p113.2.1, .slice B115 p113.2.2.1.length d116, .int .i64 p113.2.2.2.1, .slice B117 p113.2.2.2.2.1.length d118, .int .i64 p113.2.2.2.2.2.1, .int .i64 p113.2.2.2.2.2.2.1, .int .i64 p113.2.2.2.2.2.2.2.1, .int .i64 p113.2.2.2.2.2.2.2.2]) rfl rfl hF rfl (run_loadN rfl ag25 (hF.ev rfl) rfl ((S.free 0 rfl).cells 0 #[.int .i64 p113.2.1, .slice B115 p113.2.2.1.length d116, .int .i64 p113.2.2.2.1, .slice B117 p113.2.2.2.2.1.length d118, .int .i64 p113.2.2.2.2.2.1, .int .i64 p113.2.2.2.2.2.2.1, .int .i64 p113.2.2.2.2.2.2.2.1, .int .i64 p113.2.2.2.2.2.2.2.2] rfl)) ?_; clear hF; intro a hF
      refine op_val (v := .int .i64 p113.1) rfl rfl hF rfl (run_move rfl (hF.ev rfl)) ?_; clear hF; intro a hF
      refine op_do rfl rfl (run_store (cs' := #[.int .i64 p113.2.1, .slice B115 p113.2.2.1.length d116, .int .i64 p113.2.2.2.1, .slice B117 p113.2.2.2.2.1.length d118, .int .i64 p113.2.2.2.2.2.1, .int .i64 p113.2.2.2.2.2.2.1, .int .i64 p113.2.2.2.2.2.2.2.1, .int .i64 p113.2.2.2.2.2.2.2.2]) rfl sz25 (hF.ev rfl) (hF.ev rfl) rfl rfl rfl (S.free 1 rfl) rfl rfl) ?_; replace S := S.put 1 rfl (#[.int .i64 p113.2.1, .slice B115 p113.2.2.1.length d116, .int .i64 p113.2.2.2.1, .slice B117 p113.2.2.2.2.1.length d118, .int .i64 p113.2.2.2.2.2.1, .int .i64 p113.2.2.2.2.2.2.1, .int .i64 p113.2.2.2.2.2.2.2.1, .int .i64 p113.2.2.2.2.2.2.2.2])
      generalize World.setRow _ _ _ = u at S ⊢
      refine op_val (v := .int .i64 p113.1) rfl rfl hF rfl (run_assign rfl (hF.ev rfl)) ?_; clear hF; intro a hF
      refine wpList_nil ?_
      refine wp_ret ?_
      repeat with_reducible (first | refine then_ret ?_ | refine in_ret ?_ | refine in_nrm ?_)
      refine ret2_gw (.inl rfl) hF rfl (res_cell (hF.ev rfl) (res_loadN ag25 rfl (S.cells 1 rfl 0 #[.int .i64 p113.2.1, .slice B115 p113.2.2.1.length d116, .int .i64 p113.2.2.2.1, .slice B117 p113.2.2.2.2.1.length d118, .int .i64 p113.2.2.2.2.2.1, .int .i64 p113.2.2.2.2.2.2.1, .int .i64 p113.2.2.2.2.2.2.2.1, .int .i64 p113.2.2.2.2.2.2.2.2] rfl))) (res_tmp (hF.ev rfl)) ?_
      obtain rfl := Option.some.inj hM
      exact ⟨B115, p113.2.2.1.length, d116, B117, p113.2.2.2.2.1.length, d118, rfl, rfl, rfl, S.sel [2, 3] rfl rfl⟩

set_option maxHeartbeats 4000000 in
theorem c_spec_l20Rd_odd {x0 : List Int} {x1 : Int} {x2 : Int} {A0 : Option Addr} {n0 c0 : Nat} {g0 : Nat} {w : World} {r : Bool × Int} {w0 : World} {X : List Asn} (h0 : Rt w0 1 eU A0 n0 c0 x0) (S : St w0 w (Asn.box g0 77 #[.slice A0 n0 c0, .int .i64 x1] :: X)) (hM : m_spec_l20Rd_odd x0 x1 x2 = some r) :
    Calls Tryd.prog 49 #[.pointer (some ⟨g0, 0, none⟩), .int .i64 x2] w (fun e w' => e = .returned (.bool r.1) ∧ St w0 w' (Asn.box g0 77 #[.slice A0 n0 c0, .int .i64 r.2] :: X)) := by
  obtain rfl := h0.len
  unfold m_spec_l20Rd_odd at hM
  refine calls_gw Tryd.func49 Tryd.ntmps49 rfl [(0, .pointer (some ⟨g0, 0, none⟩)), (1, .int .i64 x2)] ⟨rfl, rfl, trivial⟩ rfl ?_
  intro a hF
  refine wp_seq ?_
  refine wp_region_lit ?_
  refine op_val (v := .bool false) rfl rfl hF rfl (run_assign rfl rfl) ?_; clear hF; intro a hF
  refine wpList_nil ?_
  refine wp_seq ?_
  obtain ⟨o102, hM103, hM⟩ := bind_ex hM
  refine wp_cut (fun a u => ∃ (p101 : Bool × Int), p101 = o102 ∧ Fr a 15 [(4, .bool p101.1)] ∧ St w0 u (Asn.box g0 77 #[.slice A0 x0.length c0, .int .i64 p101.2] :: X)) ?_ ?_
  · have _ := trivial
    refine wp_region_lit ?_
    refine op_val (v := .int .i64 x2) rfl rfl hF rfl (run_move rfl (hF.ev rfl)) ?_; clear hF; intro a hF
    refine op_val (v := .bool (ltB 0 x2)) rfl rfl hF rfl (run_gtr (hF.ev rfl) rfl rfl) ?_; clear hF; intro a hF
    refine op_val (v := .bool (ltB 0 x2)) rfl rfl hF rfl (run_move rfl (hF.ev rfl)) ?_; clear hF; intro a hF
    refine op_gv (v := .pointer (some ⟨g0, 0, none⟩)) rfl rfl hF rfl (yt (gw_yield hF rfl rfl rfl)) (fun hg => (run_move rfl (hF.ev rfl))) ?_; clear hF; intro a hF
    refine op_gv (v := .int .i64 x2) rfl rfl hF rfl (yt (gw_yield hF rfl rfl rfl)) (fun hg => (run_move rfl (hF.ev rfl))) ?_; clear hF; intro a hF
    cases hc104 : (ltB 0 x2)
    · replace hM103 := bif_f hc104 hM103
      refine op_skipped rfl ((gw_yield hF rfl rfl rfl).trans (congrArg some hc104)) rfl rfl hF rfl ?_; clear hF; intro a hF
      refine op_skipped rfl ((gw_yield hF rfl rfl rfl).trans (congrArg some hc104)) rfl rfl hF rfl ?_; clear hF; intro a hF
      refine op_skipped rfl ((gw_yield hF rfl rfl rfl).trans (congrArg some hc104)) rfl rfl hF rfl ?_; clear hF; intro a hF
      refine op_skipped rfl ((gw_yield hF rfl rfl rfl).trans (congrArg some hc104)) rfl rfl hF rfl ?_; clear hF; intro a hF
      refine op_val (v := .bool false) rfl rfl hF rfl (run_pick_f rfl (hF.ev rfl) hc104 rfl) ?_; clear hF; intro a hF
      refine op_val (v := .bool false) rfl rfl hF rfl (run_assign rfl (hF.ev rfl)) ?_; clear hF; intro a hF
      refine wpList_nil ?_
      obtain rfl := Option.some.inj hM103
      exact ⟨(false, x1), rfl, hF.keep _ ⟨rfl, trivial⟩, S.selT (M := [.box g0 77 #[.slice A0 x0.length c0, .int .i64 x1]]) 1 [0] rfl rfl rfl⟩
    · replace hM103 := bif_t hc104 hM103
      refine op_guarded rfl ((gw_yield hF rfl rfl rfl).trans (congrArg some hc104)) ?_
      obtain ⟨p105, h105, hM103⟩ := bind_ex hM103
      refine op_call rfl rfl hF rfl (run_call (vs := [.pointer (some ⟨g0, 0, none⟩), .int .i64 x2]) rfl rfl co31 ⟨((hF.ev rfl).trans (gv_t hc104)), ((hF.ev rfl).trans (gv_t hc104)), trivial⟩) (c_spec_l20Rd_pick (x0 := x0) (x1 := x1) (x2 := x2) ⟨h0.rc, rfl⟩ (show St w0 _ (Asn.box g0 77 #[.slice A0 x0.length c0, .int .i64 x1] :: X) from S.selT (M := [.box g0 77 #[.slice A0 x0.length c0, .int .i64 x1]]) 1 [0] rfl rfl rfl) h105) ?_
      rintro e u ⟨rfl, T⟩
      refine ⟨_, rfl, ?_⟩
      clear hF; intro a hF
      clear S; have S := T; clear T
      refine op_guarded rfl ((gw_yield hF rfl rfl rfl).trans (congrArg some hc104)) ?_
      refine op_val (v := .int .i64 x2) rfl rfl hF rfl (run_move rfl (hF.ev rfl)) ?_; clear hF; intro a hF
      refine op_guarded rfl ((gw_yield hF rfl rfl rfl).trans (congrArg some hc104)) ?_
      refine op_val (v := .int .i64 (w64 (x2 - 1))) rfl rfl hF rfl (run_sub (z := w64 (x2 - 1)) (hF.ev rfl) rfl rfl rfl) ?_; clear hF; intro a hF
      refine op_guarded rfl ((gw_yield hF rfl rfl rfl).trans (congrArg some hc104)) ?_
      refine op_val (v := .bool (p105.1 == (w64 (x2 - 1)))) rfl rfl hF rfl (run_eql (hF.ev rfl) (hF.ev rfl) rfl) ?_; clear hF; intro a hF
      refine op_val (v := .bool (p105.1 == (w64 (x2 - 1)))) rfl rfl hF rfl (run_pick_t rfl (hF.ev rfl) hc104 (hF.ev rfl)) ?_; clear hF; intro a hF
      refine op_val (v := .bool (p105.1 == (w64 (x2 - 1)))) rfl rfl hF rfl (run_assign rfl (hF.ev rfl)) ?_; clear hF; intro a hF
      refine wpList_nil ?_
      obtain rfl := Option.some.inj hM103
      exact ⟨(p105.1 == (w64 (x2 - 1)), p105.2), rfl, hF.keep _ ⟨rfl, trivial⟩, S.selT (M := [.box g0 77 #[.slice A0 x0.length c0, .int .i64 p105.2]]) 1 [0] rfl rfl rfl⟩
  · rintro a u ⟨p101, rfl, hF, S⟩
    refine wp_ret ?_
    repeat with_reducible (first | refine then_ret ?_ | refine in_ret ?_ | refine in_nrm ?_)
    refine ret1_gw (.inl rfl) hF rfl (res_tmp (hF.ev rfl)) ?_
    obtain rfl := Option.some.inj hM
    exact ⟨rfl, S.selT (M := [.box g0 77 #[.slice A0 x0.length c0, .int .i64 p101.2]]) 1 [0] rfl rfl rfl⟩

set_option maxHeartbeats 4000000 in
theorem c_spec_l20Poll {x0 : List Int} {x1 : Int} {x2 : Int} {A0 : Option Addr} {n0 c0 : Nat} {g0 : Nat} {w : World} {r : Int × List Int × Int × List Int × Int × Int × Int × Int × Int} {w0 : World} {X : List Asn} (h0 : Rt w0 1 eU A0 n0 c0 x0) (S : St w0 w (Asn.box g0 77 #[.slice A0 n0 c0, .int .i64 x1] :: X)) (hM : m_spec_l20Poll x0 x1 x2 = some r) :
    Calls Tryd.prog 30 #[.pointer (some ⟨g0, 0, none⟩), .int .i64 x2] w (fun e w' => ∃ (B0 : Option Addr) (N0 D0 : Nat) (B1 : Option Addr) (N1 D1 : Nat), e = .returned (.agg #[.int .i64 r.1, .slice B0 N0 D0, .int .i64 r.2.2.1, .slice B1 N1 D1, .int .i64 r.2.2.2.2.1, .int .i64 r.2.2.2.2.2.1, .int .i64 r.2.2.2.2.2.2.1, .int .i64 r.2.2.2.2.2.2.2.1]) ∧ N0 = r.2.1.length ∧ N1 = r.2.2.2.1.length ∧ St w0 w' (Asn.row 3 1 (.slice B0 N0 D0) N0 (r.2.1.flatMap eI) :: Asn.row 3 1 (.slice B1 N1 D1) N1 (r.2.2.2.1.flatMap eI) :: Asn.box g0 77 #[.slice A0 n0 c0, .int .i64 r.2.2.2.2.2.2.2.2] :: X)) := by
  obtain rfl := h0.len
  unfold m_spec_l20Poll at hM
  refine calls_gw Tryd.func30 Tryd.ntmps30 rfl [(0, .pointer (some ⟨g0, 0, none⟩)), (1, .int .i64 x2)] ⟨rfl, rfl, trivial⟩ rfl ?_
  intro a hF
  refine wp_seq ?_
  refine wp_region_lit ?_
  refine op_new (cs := #[.int .i64 0, .slice none 0 0, .int .i64 0, .slice none 0 0, .int .i64 0, .int .i64 0, .int .i64 0, .int .i64 0]) rfl rfl hF rfl S (run_allocZ rfl zr25) ?_; clear hF S; intro a g101 u hF S
  refine wpList_nil ?_
  refine wp_seq ?_
  refine wp_region_lit ?_
  obtain ⟨p102, h102, hM⟩ := bind_ex hM
  refine op_call rfl rfl hF rfl (run_call (vs := []) rfl rfl co9 trivial) (c_spec_PollNew   h102) ?_
  rintro e u ⟨B103, n104, d105, B106, n107, d108, rfl, rfl, rfl, T⟩
  refine ⟨_, rfl, ?_⟩
  clear hF; intro a hF
  replace S := S.call2 T; clear T
  refine op_val (v := .pointer (some ⟨g0, 0, none⟩)) rfl rfl hF rfl (run_move rfl (hF.ev rfl)) ?_; clear hF; intro a hF
  obtain ⟨p109, h109, hM⟩ := bind_ex hM
  refine op_call rfl rfl hF rfl (run_call (vs := [.pointer (some ⟨g0, 0, none⟩)]) rfl rfl co39 ⟨(hF.ev rfl), trivial⟩) (c_spec_l20PollDeeds (x0 := x0) (x1 := x1) ⟨h0.rc, rfl⟩ (show St w0 _ (Asn.box g0 77 #[.slice A0 x0.length c0, .int .i64 x1] :: Asn.row 3 1 (.slice B103 p102.2.1.length d105) p102.2.1.length (p102.2.1.flatMap eI) :: Asn.row 3 1 (.slice B106 p102.2.2.2.1.length d108) p102.2.2.2.1.length (p102.2.2.2.1.flatMap eI) :: Asn.box g101 25 #[.int .i64 0, .slice none 0 0, .int .i64 0, .slice none 0 0, .int .i64 0, .int .i64 0, .int .i64 0, .int .i64 0] :: X) from S.selT (M := [.box g0 77 #[.slice A0 x0.length c0, .int .i64 x1], .row 3 1 (.slice B103 p102.2.1.length d105) p102.2.1.length (p102.2.1.flatMap eI), .row 3 1 (.slice B106 p102.2.2.2.1.length d108) p102.2.2.2.1.length (p102.2.2.2.1.flatMap eI), .box g101 25 #[.int .i64 0, .slice none 0 0, .int .i64 0, .slice none 0 0, .int .i64 0, .int .i64 0, .int .i64 0, .int .i64 0]]) 4 [3, 0, 1, 2] rfl rfl rfl) h109) ?_
  rintro e u ⟨B110, n111, d112, rfl, rfl, T⟩
  refine ⟨_, rfl, ?_⟩
  clear hF; intro a hF
  clear S; have S := T; clear T
  obtain ⟨p113, h113, hM⟩ := bind_ex hM
  refine op_call rfl rfl hF rfl (run_call (vs := [.agg #[.int .i64 p102.1, .slice B103 p102.2.1.length d105, .int .i64 p102.2.2.1, .slice B106 p102.2.2.2.1.length d108, .int .i64 p102.2.2.2.2.1, .int .i64 p102.2.2.2.2.2.1, .int .i64 p102.2.2.2.2.2.2.1, .int .i64 p102.2.2.2.2.2.2.2], .slice B110 p109.1.length d112]) rfl rfl co18 ⟨(hF.ev rfl), (hF.ev rfl), trivial⟩) (c_spec_PollRun (x0 := p102.1) (x1 := p102.2.1) (x2 := p102.2.2.1) (x3 := p102.2.2.2.1) (x4 := p102.2.2.2.2.1) (x5 := p102.2.2.2.2.2.1) (x6 := p102.2.2.2.2.2.2.1) (x7 := p102.2.2.2.2.2.2.2) (x8 := p109.1) ⟨(S.rc 2 rfl), rfl⟩ ⟨(S.rc 3 rfl), rfl⟩ ⟨(S.rc 0 rfl), rfl⟩ h113) ?_
  rintro e u ⟨B114, n115, d116, B117, n118, d119, rfl, rfl, rfl, T⟩
  refine ⟨_, rfl, ?_⟩
  clear hF; intro a hF
  replace S := S.call2 T; clear T
  refine op_val (v := .tuple #[.agg #[.int .i64 p113.1, .slice B114 p113.2.1.length d116, .int .i64 p113.2.2.1, .slice B117 p113.2.2.2.1.length d119, .int .i64 p113.2.2.2.2.1, .int .i64 p113.2.2.2.2.2.1, .int .i64 p113.2.2.2.2.2.2.1, .int .i64 p113.2.2.2.2.2.2.2.1], .int .i64 p113.2.2.2.2.2.2.2.2]) rfl rfl hF rfl (run_move rfl (hF.ev rfl)) ?_; clear hF; intro a hF
  refine op_val (v := .agg #[.int .i64 p113.1, .slice B114 p113.2.1.length d116, .int .i64 p113.2.2.1, .slice B117 p113.2.2.2.1.length d119, .int .i64 p113.2.2.2.2.1, .int .i64 p113.2.2.2.2.2.1, .int .i64 p113.2.2.2.2.2.2.1, .int .i64 p113.2.2.2.2.2.2.2.1]) rfl rfl hF rfl (run_extract rfl (hF.ev rfl) rfl) ?_; clear hF; intro a hF
  refine op_val (v := .int .i64 p113.2.2.2.2.2.2.2.2) rfl rfl hF rfl (run_extract rfl (hF.ev rfl) rfl) ?_; clear hF; intro a hF
  refine op_new (cs := #[.int .i64 0, .slice none 0 0, .int .i64 0, .slice none 0 0, .int .i64 0, .int .i64 0, .int .i64 0, .int .i64 0]) rfl rfl hF rfl S (run_allocZ rfl zr25) ?_; clear hF S; intro a g120 u hF S
  refine op_do rfl rfl (run_store (cs' := #[.int .i64 p113.1, .slice B114 p113.2.1.length d116, .int .i64 p113.2.2.1, .slice B117 p113.2.2.2.1.length d119, .int .i64 p113.2.2.2.2.1, .int .i64 p113.2.2.2.2.2.1, .int .i64 p113.2.2.2.2.2.2.1, .int .i64 p113.2.2.2.2.2.2.2.1]) rfl sz25 (hF.ev rfl) (hF.ev rfl) rfl rfl rfl (S.free 0 rfl) rfl rfl) ?_; replace S := S.put 0 rfl (#[.int .i64 p113.1, .slice B114 p113.2.1.length d116, .int .i64 p113.2.2.1, .slice B117 p113.2.2.2.1.length d119, .int .i64 p113.2.2.2.2.1, .int .i64 p113.2.2.2.2.2.1, .int .i64 p113.2.2.2.2.2.2.1, .int .i64 p113.2.2.2.2.2.2.2.1])
  generalize World.setRow _ _ _ = u at S ⊢
  refine op_val (v := .int .i64 p113.2.2.2.2.2.2.2.2) rfl rfl hF rfl (run_assign rfl (hF.ev rfl)) ?_; clear hF; intro a hF
  refine wpList_nil ?_
  refine wp_seq ?_
  refine wp_seq ?_
  refine wp_region_lit ?_
  refine op_val (v := .pointer (some ⟨g0, 0, none⟩)) rfl rfl hF rfl (run_move rfl (hF.ev rfl)) ?_; clear hF; intro a hF
  refine op_val (v := .int .i64 x2) rfl rfl hF rfl (run_move rfl (hF.ev rfl)) ?_; clear hF; intro a hF
  obtain ⟨p121, h121, hM⟩ := bind_ex hM
  refine op_call rfl rfl hF rfl (run_call (vs := [.pointer (some ⟨g0, 0, none⟩), .int .i64 x2]) rfl rfl co49 ⟨(hF.ev rfl), (hF.ev rfl), trivial⟩) (c_spec_l20Rd_odd (x0 := x0) (x1 := p109.2) (x2 := x2) ⟨h0.rc, rfl⟩ (show St w0 _ (Asn.box g0 77 #[.slice A0 x0.length c0, .int .i64 p109.2] :: Asn.box g120 25 #[.int .i64 p113.1, .slice B114 p113.2.1.length d116, .int .i64 p113.2.2.1, .slice B117 p113.2.2.2.1.length d119, .int .i64 p113.2.2.2.2.1, .int .i64 p113.2.2.2.2.2.1, .int .i64 p113.2.2.2.2.2.2.1, .int .i64 p113.2.2.2.2.2.2.2.1] :: Asn.row 3 1 (.slice B114 p113.2.1.length d116) p113.2.1.length (p113.2.1.flatMap eI) :: Asn.row 3 1 (.slice B117 p113.2.2.2.1.length d119) p113.2.2.2.1.length (p113.2.2.2.1.flatMap eI) :: Asn.row 31 2 (.slice B110 p109.1.length d112) p109.1.length (p109.1.flatMap ePollDeed) :: Asn.row 3 1 (.slice B103 p102.2.1.length d105) p102.2.1.length (p102.2.1.flatMap eI) :: Asn.row 3 1 (.slice B106 p102.2.2.2.1.length d108) p102.2.2.2.1.length (p102.2.2.2.1.flatMap eI) :: Asn.box g101 25 #[.int .i64 0, .slice none 0 0, .int .i64 0, .slice none 0 0, .int .i64 0, .int .i64 0, .int .i64 0, .int .i64 0] :: X) from S.selT (M := [.box g0 77 #[.slice A0 x0.length c0, .int .i64 p109.2], .box g120 25 #[.int .i64 p113.1, .slice B114 p113.2.1.length d116, .int .i64 p113.2.2.1, .slice B117 p113.2.2.2.1.length d119, .int .i64 p113.2.2.2.2.1, .int .i64 p113.2.2.2.2.2.1, .int .i64 p113.2.2.2.2.2.2.1, .int .i64 p113.2.2.2.2.2.2.2.1], .row 3 1 (.slice B114 p113.2.1.length d116) p113.2.1.length (p113.2.1.flatMap eI), .row 3 1 (.slice B117 p113.2.2.2.1.length d119) p113.2.2.2.1.length (p113.2.2.2.1.flatMap eI), .row 31 2 (.slice B110 p109.1.length d112) p109.1.length (p109.1.flatMap ePollDeed), .row 3 1 (.slice B103 p102.2.1.length d105) p102.2.1.length (p102.2.1.flatMap eI), .row 3 1 (.slice B106 p102.2.2.2.1.length d108) p102.2.2.2.1.length (p102.2.2.2.1.flatMap eI), .box g101 25 #[.int .i64 0, .slice none 0 0, .int .i64 0, .slice none 0 0, .int .i64 0, .int .i64 0, .int .i64 0, .int .i64 0]]) 8 [4, 0, 1, 2, 3, 5, 6, 7] rfl rfl rfl) h121) ?_
  rintro e u ⟨rfl, T⟩
  refine ⟨_, rfl, ?_⟩
  clear hF; intro a hF
  clear S; have S := T; clear T
  refine wpList_nil ?_
  obtain ⟨o123, hM128, hM⟩ := bind_ex hM
  refine wp_cut (fun a u => ∃ (p122 : Int × Int × List Int × List Int × Int × Int × Int) (B124 : Option Addr) (d125 : Nat) (B126 : Option Addr) (d127 : Nat), p122 = o123 ∧ Fr a 44 [(4, .pointer (some ⟨g101, 0, none⟩)), (5, .pointer (some ⟨g120, 0, none⟩))] ∧ St w0 u (Asn.box g0 77 #[.slice A0 x0.length c0, .int .i64 p122.1] :: Asn.box g120 25 #[.int .i64 p122.2.1, .slice B124 p122.2.2.1.length d125, .int .i64 p113.2.2.1, .slice B126 p122.2.2.2.1.length d127, .int .i64 p122.2.2.2.2.1, .int .i64 p113.2.2.2.2.2.1, .int .i64 p122.2.2.2.2.2.1, .int .i64 p122.2.2.2.2.2.2] :: Asn.box g101 25 #[.int .i64 0, .slice none 0 0, .int .i64 0, .slice none 0 0, .int .i64 0, .int .i64 0, .int .i64 0, .int .i64 0] :: Asn.row 3 1 (.slice B124 p122.2.2.1.length d125) p122.2.2.1.length (p122.2.2.1.flatMap eI) :: Asn.row 3 1 (.slice B126 p122.2.2.2.1.length d127) p122.2.2.2.1.length (p122.2.2.2.1.flatMap eI) :: X)) ?_ ?_
  · have _ := trivial
    cases hc129 : (p121.1)
    · replace hM128 := bif_f hc129 hM128
      refine cond_f hF rfl hc129 ?_
      refine wp_skip ?_
      obtain rfl := Option.some.inj hM128
      exact ⟨(p121.2, p113.1, p113.2.1, p113.2.2.2.1, p113.2.2.2.2.1, p113.2.2.2.2.2.2.1, p113.2.2.2.2.2.2.2.1), B114, d116, B117, d119, rfl, hF.keep _ ⟨rfl, rfl, trivial⟩, S.selT (M := [.box g0 77 #[.slice A0 x0.length c0, .int .i64 p121.2], .box g120 25 #[.int .i64 p113.1, .slice B114 p113.2.1.length d116, .int .i64 p113.2.2.1, .slice B117 p113.2.2.2.1.length d119, .int .i64 p113.2.2.2.2.1, .int .i64 p113.2.2.2.2.2.1, .int .i64 p113.2.2.2.2.2.2.1, .int .i64 p113.2.2.2.2.2.2.2.1], .box g101 25 #[.int .i64 0, .slice none 0 0, .int .i64 0, .slice none 0 0, .int .i64 0, .int .i64 0, .int .i64 0, .int .i64 0], .row 3 1 (.slice B114 p113.2.1.length d116) p113.2.1.length (p113.2.1.flatMap eI), .row 3 1 (.slice B117 p113.2.2.2.1.length d119) p113.2.2.2.1.length (p113.2.2.2.1.flatMap eI)]) 8 [0, 1, 7, 2, 3] rfl rfl rfl⟩
    · replace hM128 := bif_t hc129 hM128
      refine cond_t hF rfl hc129 ?_
      refine wp_seq ?_
      refine wp_region_lit ?_
      refine op_val (v := .pointer (some ⟨g0, 0, none⟩)) rfl rfl hF rfl (run_move rfl (hF.ev rfl)) ?_; clear hF; intro a hF
      obtain ⟨p130, h130, hM128⟩ := bind_ex hM128
      refine op_call rfl rfl hF rfl (run_call (vs := [.pointer (some ⟨g0, 0, none⟩), .int .i64 5]) rfl rfl co31 ⟨(hF.ev rfl), rfl, trivial⟩) (c_spec_l20Rd_pick (x0 := x0) (x1 := p121.2) (x2 := 5) ⟨h0.rc, rfl⟩ (show St w0 _ (Asn.box g0 77 #[.slice A0 x0.length c0, .int .i64 p121.2] :: Asn.box g120 25 #[.int .i64 p113.1, .slice B114 p113.2.1.length d116, .int .i64 p113.2.2.1, .slice B117 p113.2.2.2.1.length d119, .int .i64 p113.2.2.2.2.1, .int .i64 p113.2.2.2.2.2.1, .int .i64 p113.2.2.2.2.2.2.1, .int .i64 p113.2.2.2.2.2.2.2.1] :: Asn.row 3 1 (.slice B114 p113.2.1.length d116) p113.2.1.length (p113.2.1.flatMap eI) :: Asn.row 3 1 (.slice B117 p113.2.2.2.1.length d119) p113.2.2.2.1.length (p113.2.2.2.1.flatMap eI) :: Asn.row 31 2 (.slice B110 p109.1.length d112) p109.1.length (p109.1.flatMap ePollDeed) :: Asn.row 3 1 (.slice B103 p102.2.1.length d105) p102.2.1.length (p102.2.1.flatMap eI) :: Asn.row 3 1 (.slice B106 p102.2.2.2.1.length d108) p102.2.2.2.1.length (p102.2.2.2.1.flatMap eI) :: Asn.box g101 25 #[.int .i64 0, .slice none 0 0, .int .i64 0, .slice none 0 0, .int .i64 0, .int .i64 0, .int .i64 0, .int .i64 0] :: X) from S.selT (M := [.box g0 77 #[.slice A0 x0.length c0, .int .i64 p121.2], .box g120 25 #[.int .i64 p113.1, .slice B114 p113.2.1.length d116, .int .i64 p113.2.2.1, .slice B117 p113.2.2.2.1.length d119, .int .i64 p113.2.2.2.2.1, .int .i64 p113.2.2.2.2.2.1, .int .i64 p113.2.2.2.2.2.2.1, .int .i64 p113.2.2.2.2.2.2.2.1], .row 3 1 (.slice B114 p113.2.1.length d116) p113.2.1.length (p113.2.1.flatMap eI), .row 3 1 (.slice B117 p113.2.2.2.1.length d119) p113.2.2.2.1.length (p113.2.2.2.1.flatMap eI), .row 31 2 (.slice B110 p109.1.length d112) p109.1.length (p109.1.flatMap ePollDeed), .row 3 1 (.slice B103 p102.2.1.length d105) p102.2.1.length (p102.2.1.flatMap eI), .row 3 1 (.slice B106 p102.2.2.2.1.length d108) p102.2.2.2.1.length (p102.2.2.2.1.flatMap eI), .box g101 25 #[.int .i64 0, .slice none 0 0, .int .i64 0, .slice none 0 0, .int .i64 0, .int .i64 0, .int .i64 0, .int .i64 0]]) 8 [0, 1, 2, 3, 4, 5, 6, 7] rfl rfl rfl) h130) ?_
      rintro e u ⟨rfl, T⟩
      refine ⟨_, rfl, ?_⟩
      clear hF; intro a hF
      clear S; have S := T; clear T
      refine wpList_nil ?_
      refine wp_block ?_
      refine wp_seq ?_
      refine wp_region_lit ?_
      refine op_val (v := .bool (p130.1 == 0)) rfl rfl hF rfl (run_eql (hF.ev rfl) rfl rfl) ?_; clear hF; intro a hF
      refine op_val (v := .bool (p130.1 == 0)) rfl rfl hF rfl (run_assign rfl (hF.ev rfl)) ?_; clear hF; intro a hF
      refine wpList_nil ?_
      obtain ⟨o132, hM137, hM128⟩ := bind_ex hM128
      refine wp_cut (fun a u => ∃ (p131 : Int × Int × List Int × List Int × Int × Int × Int) (B133 : Option Addr) (d134 : Nat) (B135 : Option Addr) (d136 : Nat), p131 = o132 ∧ Fr a 44 [(4, .pointer (some ⟨g101, 0, none⟩)), (5, .pointer (some ⟨g120, 0, none⟩))] ∧ St w0 u (Asn.box g0 77 #[.slice A0 x0.length c0, .int .i64 p131.1] :: Asn.box g120 25 #[.int .i64 p131.2.1, .slice B133 p131.2.2.1.length d134, .int .i64 p113.2.2.1, .slice B135 p131.2.2.2.1.length d136, .int .i64 p131.2.2.2.2.1, .int .i64 p113.2.2.2.2.2.1, .int .i64 p131.2.2.2.2.2.1, .int .i64 p131.2.2.2.2.2.2] :: Asn.box g101 25 #[.int .i64 0, .slice none 0 0, .int .i64 0, .slice none 0 0, .int .i64 0, .int .i64 0, .int .i64 0, .int .i64 0] :: Asn.row 3 1 (.slice B133 p131.2.2.1.length d134) p131.2.2.1.length (p131.2.2.1.flatMap eI) :: Asn.row 3 1 (.slice B135 p131.2.2.2.1.length d136) p131.2.2.2.1.length (p131.2.2.2.1.flatMap eI) :: X)) ?_ ?_
      · have _ := trivial
        cases hc138 : (p130.1 == 0)
        · replace hM137 := bif_f hc138 hM137
          refine cond_f hF rfl hc138 ?_
          refine wp_seq ?_
          refine wp_region_lit ?_
          refine op_val (v := .bool (p130.1 == 1)) rfl rfl hF rfl (run_eql (hF.ev rfl) rfl rfl) ?_; clear hF; intro a hF
          refine op_val (v := .bool (p130.1 == 1)) rfl rfl hF rfl (run_assign rfl (hF.ev rfl)) ?_; clear hF; intro a hF
          refine wpList_nil ?_
          obtain ⟨o140, hM145, hM137⟩ := bind_ex hM137
          refine wp_cut (fun a u => ∃ (p139 : Int × List Int × List Int × Int × Int × Int) (B141 : Option Addr) (d142 : Nat) (B143 : Option Addr) (d144 : Nat), p139 = o140 ∧ Fr a 44 [(4, .pointer (some ⟨g101, 0, none⟩)), (5, .pointer (some ⟨g120, 0, none⟩))] ∧ St w0 u (Asn.box g0 77 #[.slice A0 x0.length c0, .int .i64 p139.1] :: Asn.box g120 25 #[.int .i64 p113.1, .slice B141 p139.2.1.length d142, .int .i64 p113.2.2.1, .slice B143 p139.2.2.1.length d144, .int .i64 p139.2.2.2.1, .int .i64 p113.2.2.2.2.2.1, .int .i64 p139.2.2.2.2.1, .int .i64 p139.2.2.2.2.2] :: Asn.box g101 25 #[.int .i64 0, .slice none 0 0, .int .i64 0, .slice none 0 0, .int .i64 0, .int .i64 0, .int .i64 0, .int .i64 0] :: Asn.row 3 1 (.slice B141 p139.2.1.length d142) p139.2.1.length (p139.2.1.flatMap eI) :: Asn.row 3 1 (.slice B143 p139.2.2.1.length d144) p139.2.2.1.length (p139.2.2.1.flatMap eI) :: X)) ?_ ?_
          · have _ := trivial
            cases hc146 : (p130.1 == 1)
            · replace hM145 := bif_f hc146 hM145
              refine cond_f hF rfl hc146 ?_
              refine wp_seq ?_
              refine wp_region_lit ?_
              refine op_val (v := .bool (p130.1 == 2)) rfl rfl hF rfl (run_eql (hF.ev rfl) rfl rfl) ?_; clear hF; intro a hF
              refine op_val (v := .bool (p130.1 == 2)) rfl rfl hF rfl (run_assign rfl (hF.ev rfl)) ?_; clear hF; intro a hF
              refine wpList_nil ?_
              obtain ⟨o148, hM153, hM145⟩ := bind_ex hM145
              refine wp_cut (fun a u => ∃ (p147 : Int × List Int × List Int × Int) (B149 : Option Addr) (d150 : Nat) (B151 : Option Addr) (d152 : Nat), p147 = o148 ∧ Fr a 44 [(4, .pointer (some ⟨g101, 0, none⟩)), (5, .pointer (some ⟨g120, 0, none⟩))] ∧ St w0 u (Asn.box g0 77 #[.slice A0 x0.length c0, .int .i64 p147.1] :: Asn.box g120 25 #[.int .i64 p113.1, .slice B149 p147.2.1.length d150, .int .i64 p113.2.2.1, .slice B151 p147.2.2.1.length d152, .int .i64 p147.2.2.2, .int .i64 p113.2.2.2.2.2.1, .int .i64 p113.2.2.2.2.2.2.1, .int .i64 p113.2.2.2.2.2.2.2.1] :: Asn.box g101 25 #[.int .i64 0, .slice none 0 0, .int .i64 0, .slice none 0 0, .int .i64 0, .int .i64 0, .int .i64 0, .int .i64 0] :: Asn.row 3 1 (.slice B149 p147.2.1.length d150) p147.2.1.length (p147.2.1.flatMap eI) :: Asn.row 3 1 (.slice B151 p147.2.2.1.length d152) p147.2.2.1.length (p147.2.2.1.flatMap eI) :: X)) ?_ ?_
              · have _ := trivial
                cases hc154 : (p130.1 == 2)
                · replace hM153 := bif_f hc154 hM153
                  refine cond_f hF rfl hc154 ?_
                  refine wp_seq ?_
                  refine wp_region_lit ?_
                  refine op_val (v := .bool (p130.1 == 3)) rfl rfl hF rfl (run_eql (hF.ev rfl) rfl rfl) ?_; clear hF; intro a hF
                  refine op_val (v := .bool (p130.1 == 3)) rfl rfl hF rfl (run_assign rfl (hF.ev rfl)) ?_; clear hF; intro a hF
                  refine wpList_nil ?_
                  obtain ⟨o156, hM159, hM153⟩ := bind_ex hM153
                  refine wp_cut (fun a u => ∃ (p155 : Int × List Int × Int) (B157 : Option Addr) (d158 : Nat), p155 = o156 ∧ Fr a 44 [(4, .pointer (some ⟨g101, 0, none⟩)), (5, .pointer (some ⟨g120, 0, none⟩))] ∧ St w0 u (Asn.box g0 77 #[.slice A0 x0.length c0, .int .i64 p155.1] :: Asn.box g120 25 #[.int .i64 p113.1, .slice B157 p155.2.1.length d158, .int .i64 p113.2.2.1, .slice B117 p113.2.2.2.1.length d119, .int .i64 p155.2.2, .int .i64 p113.2.2.2.2.2.1, .int .i64 p113.2.2.2.2.2.2.1, .int .i64 p113.2.2.2.2.2.2.2.1] :: Asn.box g101 25 #[.int .i64 0, .slice none 0 0, .int .i64 0, .slice none 0 0, .int .i64 0, .int .i64 0, .int .i64 0, .int .i64 0] :: Asn.row 3 1 (.slice B157 p155.2.1.length d158) p155.2.1.length (p155.2.1.flatMap eI) :: Asn.row 3 1 (.slice B117 p113.2.2.2.1.length d119) p113.2.2.2.1.length (p113.2.2.2.1.flatMap eI) :: X)) ?_ ?_
                  · have _ := trivial
                    cases hc160 : (p130.1 == 3)
                    · replace hM159 := bif_f hc160 hM159
                      refine cond_f hF rfl hc160 ?_
                      refine wp_region_lit ?_
                      refine op_newrowL (ls := (([-2, 1000] : List Int) : List Int)) (e := eI) rfl rfl hF rfl S (run_buildS (vs := [(0, .int .i64 (-2)), (1, .int .i64 1000)]) rfl ⟨⟨rfl, rfl⟩, ⟨rfl, rfl⟩, trivial⟩ (bs23_2_0_0 rfl rfl)) rfl eI_len (Nat.le_of_ble_eq_true rfl) ?_; clear hF S; intro a g161 u hF S
                      refine op_val (v := .pointer (some ⟨g0, 0, none⟩)) rfl rfl hF rfl (run_move rfl (hF.ev rfl)) ?_; clear hF; intro a hF
                      obtain ⟨p162, h162, hM159⟩ := bind_ex hM159
                      refine op_call rfl rfl hF rfl (run_call (vs := [.pointer (some ⟨g0, 0, none⟩), .int .i64 2]) rfl rfl co31 ⟨(hF.ev rfl), rfl, trivial⟩) (c_spec_l20Rd_pick (x0 := x0) (x1 := p130.2) (x2 := 2) ⟨h0.rc, rfl⟩ (show St w0 _ (Asn.box g0 77 #[.slice A0 x0.length c0, .int .i64 p130.2] :: Asn.row 3 1 (.slice (some ⟨g161, 0, none⟩) (([-2, 1000] : List Int).length) (([-2, 1000] : List Int).length)) (([-2, 1000] : List Int).length) (([-2, 1000] : List Int).flatMap eI) :: Asn.box g120 25 #[.int .i64 p113.1, .slice B114 p113.2.1.length d116, .int .i64 p113.2.2.1, .slice B117 p113.2.2.2.1.length d119, .int .i64 p113.2.2.2.2.1, .int .i64 p113.2.2.2.2.2.1, .int .i64 p113.2.2.2.2.2.2.1, .int .i64 p113.2.2.2.2.2.2.2.1] :: Asn.row 3 1 (.slice B114 p113.2.1.length d116) p113.2.1.length (p113.2.1.flatMap eI) :: Asn.row 3 1 (.slice B117 p113.2.2.2.1.length d119) p113.2.2.2.1.length (p113.2.2.2.1.flatMap eI) :: Asn.row 31 2 (.slice B110 p109.1.length d112) p109.1.length (p109.1.flatMap ePollDeed) :: Asn.row 3 1 (.slice B103 p102.2.1.length d105) p102.2.1.length (p102.2.1.flatMap eI) :: Asn.row 3 1 (.slice B106 p102.2.2.2.1.length d108) p102.2.2.2.1.length (p102.2.2.2.1.flatMap eI) :: Asn.box g101 25 #[.int .i64 0, .slice none 0 0, .int .i64 0, .slice none 0 0, .int .i64 0, .int .i64 0, .int .i64 0, .int .i64 0] :: X) from S.selT (M := [.box g0 77 #[.slice A0 x0.length c0, .int .i64 p130.2], .row 3 1 (.slice (some ⟨g161, 0, none⟩) (([-2, 1000] : List Int).length) (([-2, 1000] : List Int).length)) (([-2, 1000] : List Int).length) (([-2, 1000] : List Int).flatMap eI), .box g120 25 #[.int .i64 p113.1, .slice B114 p113.2.1.length d116, .int .i64 p113.2.2.1, .slice B117 p113.2.2.2.1.length d119, .int .i64 p113.2.2.2.2.1, .int .i64 p113.2.2.2.2.2.1, .int .i64 p113.2.2.2.2.2.2.1, .int .i64 p113.2.2.2.2.2.2.2.1], .row 3 1 (.slice B114 p113.2.1.length d116) p113.2.1.length (p113.2.1.flatMap eI), .row 3 1 (.slice B117 p113.2.2.2.1.length d119) p113.2.2.2.1.length (p113.2.2.2.1.flatMap eI), .row 31 2 (.slice B110 p109.1.length d112) p109.1.length (p109.1.flatMap ePollDeed), .row 3 1 (.slice B103 p102.2.1.length d105) p102.2.1.length (p102.2.1.flatMap eI), .row 3 1 (.slice B106 p102.2.2.2.1.length d108) p102.2.2.2.1.length (p102.2.2.2.1.flatMap eI), .box g101 25 #[.int .i64 0, .slice none 0 0, .int .i64 0, .slice none 0 0, .int .i64 0, .int .i64 0, .int .i64 0, .int .i64 0]]) 9 [1, 0, 2, 3, 4, 5, 6, 7, 8] rfl rfl rfl) h162) ?_
                      rintro e u ⟨rfl, T⟩
                      refine ⟨_, rfl, ?_⟩
                      clear hF; intro a hF
                      clear S; have S := T; clear T
                      obtain ⟨hk163, hM159⟩ := chk_ex hM159
                      replace hk163 := ixB_t hk163
                      refine op_val (v := .pointer (some ⟨adB (some ⟨g161, 0, none⟩), adO (some ⟨g161, 0, none⟩) + p162.1.toNat * 1, none⟩)) rfl rfl hF rfl (run_indexAddr (b := adB (some ⟨g161, 0, none⟩)) (off := adO (some ⟨g161, 0, none⟩)) rfl Tryd.underlying23 sz3 ((hF.ev rfl).trans (congrArg (fun A => Value.slice A (([-2, 1000] : List Int).length) (([-2, 1000] : List Int).length)) ((S.rc 1 rfl).rd.ad (ix_pos hk163)))) (hF.ev rfl) hk163.1 hk163.2 (k' := adO (some ⟨g161, 0, none⟩) + p162.1.toNat * 1) rfl) ?_; clear hF; intro a hF
                      refine op_val (v := .int .i64 (([-2, 1000] : List Int).getD p162.1.toNat (0 : Int))) rfl rfl hF rfl (run_load1 rfl one3 (hF.ev rfl) (rd_el0 (l := ([-2, 1000] : List Int)) (S.rc 1 rfl).rd rfl eI_len (0 : Int) (ix_ltn hk163 rfl) rfl)) ?_; clear hF; intro a hF
                      refine op_val (v := .pointer (some ⟨g120, 4, none⟩)) rfl rfl hF rfl (run_fieldAddr rfl fl25_4 (hF.ev rfl) rfl) ?_; clear hF; intro a hF
                      refine op_do rfl rfl (run_store (cs' := #[.int .i64 p113.1, .slice B114 p113.2.1.length d116, .int .i64 p113.2.2.1, .slice B117 p113.2.2.2.1.length d119, .int .i64 (([-2, 1000] : List Int).getD p162.1.toNat (0 : Int)), .int .i64 p113.2.2.2.2.2.1, .int .i64 p113.2.2.2.2.2.2.1, .int .i64 p113.2.2.2.2.2.2.2.1]) rfl sz3 (hF.ev rfl) (hF.ev rfl) rfl rfl rfl (S.free 2 rfl) rfl rfl) ?_; replace S := S.put 2 rfl (#[.int .i64 p113.1, .slice B114 p113.2.1.length d116, .int .i64 p113.2.2.1, .slice B117 p113.2.2.2.1.length d119, .int .i64 (([-2, 1000] : List Int).getD p162.1.toNat (0 : Int)), .int .i64 p113.2.2.2.2.2.1, .int .i64 p113.2.2.2.2.2.2.1, .int .i64 p113.2.2.2.2.2.2.2.1])
                      generalize World.setRow _ _ _ = u at S ⊢
                      refine wpList_nil ?_
                      obtain rfl := Option.some.inj hM159
                      exact ⟨(p162.2, p113.2.1, (([-2, 1000] : List Int).getD p162.1.toNat (0 : Int))), B114, d116, rfl, hF.keep _ ⟨rfl, rfl, trivial⟩, S.selT (M := [.box g0 77 #[.slice A0 x0.length c0, .int .i64 p162.2], .box g120 25 #[.int .i64 p113.1, .slice B114 p113.2.1.length d116, .int .i64 p113.2.2.1, .slice B117 p113.2.2.2.1.length d119, .int .i64 (([-2, 1000] : List Int).getD p162.1.toNat (0 : Int)), .int .i64 p113.2.2.2.2.2.1, .int .i64 p113.2.2.2.2.2.2.1, .int .i64 p113.2.2.2.2.2.2.2.1], .box g101 25 #[.int .i64 0, .slice none 0 0, .int .i64 0, .slice none 0 0, .int .i64 0, .int .i64 0, .int .i64 0, .int .i64 0], .row 3 1 (.slice B114 p113.2.1.length d116) p113.2.1.length (p113.2.1.flatMap eI), .row 3 1 (.slice B117 p113.2.2.2.1.length d119) p113.2.2.2.1.length (p113.2.2.2.1.flatMap eI)]) 9 [0, 2, 8, 3, 4] rfl rfl rfl⟩
                    · replace hM159 := bif_t hc160 hM159
                      refine cond_t hF rfl hc160 ?_
                      refine wp_region_lit ?_
                      obtain ⟨hk165, hM159⟩ := chk_ex hM159
                      replace hk165 := mkB_t hk165
                      refine op_newrowL (m := (13 : Int).toNat) (ls := List.replicate ((13 : Int).toNat) (0 : Int)) (e := eI) rfl rfl hF rfl S (run_makeL rfl rfl rfl Tryd.underlying23 inf3 eI_len rfl (by decide) hk165) List.length_replicate eI_len (by rw [List.length_replicate]; omega) ?_; clear hF S; intro a g164 u hF S
                      refine op_val (v := .pointer (some ⟨g120, 1, none⟩)) rfl rfl hF rfl (run_fieldAddr rfl fl25_1 (hF.ev rfl) rfl) ?_; clear hF; intro a hF
                      refine op_do rfl rfl (run_store (cs' := #[.int .i64 p113.1, .slice (some ⟨g164, 0, none⟩) ((13 : Int).toNat) ((13 : Int).toNat), .int .i64 p113.2.2.1, .slice B117 p113.2.2.2.1.length d119, .int .i64 p113.2.2.2.2.1, .int .i64 p113.2.2.2.2.2.1, .int .i64 p113.2.2.2.2.2.2.1, .int .i64 p113.2.2.2.2.2.2.2.1]) rfl sz23 (hF.ev rfl) (hF.ev rfl) rfl rfl rfl (S.free 2 rfl) rfl rfl) ?_; replace S := S.put 2 rfl (#[.int .i64 p113.1, .slice (some ⟨g164, 0, none⟩) ((13 : Int).toNat) ((13 : Int).toNat), .int .i64 p113.2.2.1, .slice B117 p113.2.2.2.1.length d119, .int .i64 p113.2.2.2.2.1, .int .i64 p113.2.2.2.2.2.1, .int .i64 p113.2.2.2.2.2.2.1, .int .i64 p113.2.2.2.2.2.2.2.1])
                      generalize World.setRow _ _ _ = u at S ⊢
                      refine wpList_nil ?_
                      obtain rfl := Option.some.inj hM159
                      try rw [show (13 : Int).toNat = (List.replicate ((13 : Int).toNat) (0 : Int)).length from List.length_replicate.symm] at hF
                      try rw [show (13 : Int).toNat = (List.replicate ((13 : Int).toNat) (0 : Int)).length from List.length_replicate.symm] at S
                      exact ⟨(p130.2, List.replicate ((13 : Int).toNat) (0 : Int), p113.2.2.2.2.1), (some ⟨g164, 0, none⟩), ((13 : Int).toNat), rfl, hF.keep _ ⟨rfl, rfl, trivial⟩, S.selT (M := [.box g0 77 #[.slice A0 x0.length c0, .int .i64 p130.2], .box g120 25 #[.int .i64 p113.1, .slice (some ⟨g164, 0, none⟩) ((List.replicate ((13 : Int).toNat) (0 : Int)).length) ((13 : Int).toNat), .int .i64 p113.2.2.1, .slice B117 p113.2.2.2.1.length d119, .int .i64 p113.2.2.2.2.1, .int .i64 p113.2.2.2.2.2.1, .int .i64 p113.2.2.2.2.2.2.1, .int .i64 p113.2.2.2.2.2.2.2.1], .box g101 25 #[.int .i64 0, .slice none 0 0, .int .i64 0, .slice none 0 0, .int .i64 0, .int .i64 0, .int .i64 0, .int .i64 0], .row 3 1 (.slice (some ⟨g164, 0, none⟩) ((List.replicate ((13 : Int).toNat) (0 : Int)).length) ((13 : Int).toNat)) ((List.replicate ((13 : Int).toNat) (0 : Int)).length) ((List.replicate ((13 : Int).toNat) (0 : Int)).flatMap eI), .row 3 1 (.slice B117 p113.2.2.2.1.length d119) p113.2.2.2.1.length (p113.2.2.2.1.flatMap eI)]) 9 [1, 2, 8, 0, 4] rfl rfl rfl⟩
                  · rintro a u ⟨p155, B157, d158, rfl, hF, S⟩
                    obtain rfl := Option.some.inj hM153
                    exact ⟨(p155.1, p155.2.1, p113.2.2.2.1, p155.2.2), B157, d158, B117, d119, rfl, hF.keep _ ⟨rfl, rfl, trivial⟩, S.selT (M := [.box g0 77 #[.slice A0 x0.length c0, .int .i64 p155.1], .box g120 25 #[.int .i64 p113.1, .slice B157 p155.2.1.length d158, .int .i64 p113.2.2.1, .slice B117 p113.2.2.2.1.length d119, .int .i64 p155.2.2, .int .i64 p113.2.2.2.2.2.1, .int .i64 p113.2.2.2.2.2.2.1, .int .i64 p113.2.2.2.2.2.2.2.1], .box g101 25 #[.int .i64 0, .slice none 0 0, .int .i64 0, .slice none 0 0, .int .i64 0, .int .i64 0, .int .i64 0, .int .i64 0], .row 3 1 (.slice B157 p155.2.1.length d158) p155.2.1.length (p155.2.1.flatMap eI), .row 3 1 (.slice B117 p113.2.2.2.1.length d119) p113.2.2.2.1.length (p113.2.2.2.1.flatMap eI)]) 5 [0, 1, 2, 3, 4] rfl rfl rfl⟩
                · replace hM153 := bif_t hc154 hM153
                  refine cond_t hF rfl hc154 ?_
                  refine wp_region_lit ?_
                  refine op_val (v := .pointer (some ⟨g120, 3, none⟩)) rfl rfl hF rfl (run_fieldAddr rfl fl25_3 (hF.ev rfl) rfl) ?_; clear hF; intro a hF
                  refine op_val (v := .slice B117 p113.2.2.2.1.length d119) rfl rfl hF rfl (run_load1 rfl one23 (hF.ev rfl) ((S.free 1 rfl).cell rfl)) ?_; clear hF; intro a hF
                  refine op_newrowL (ls := (([-1] : List Int) : List Int)) (e := eI) rfl rfl hF rfl S (run_buildS (vs := [(0, .int .i64 (-1))]) rfl ⟨⟨rfl, rfl⟩, trivial⟩ (bs23_1_0 rfl)) rfl eI_len (Nat.le_of_ble_eq_true rfl) ?_; clear hF S; intro a g166 u hF S
                  obtain ⟨hk169, hM153⟩ := chk_ex hM153
                  replace hk169 := apB_t hk169
                  refine op_appendL (lx := p113.2.2.2.1) (ly := ([-1] : List Int)) rfl rfl hF rfl S rfl (hF.ev rfl) (hF.ev rfl) (i := 4) rfl rfl Tryd.underlying23 inf3 rfl (by decide) (S.rc 0 rfl).rd rfl eI_one hk169 (by decide) ?_; clear hF S; intro a B167 d168 u hF S
                  refine op_val (v := .pointer (some ⟨g120, 3, none⟩)) rfl rfl hF rfl (run_fieldAddr rfl fl25_3 (hF.ev rfl) rfl) ?_; clear hF; intro a hF
                  refine op_do rfl rfl (run_store (cs' := #[.int .i64 p113.1, .slice B114 p113.2.1.length d116, .int .i64 p113.2.2.1, .slice B167 ((p113.2.2.2.1 ++ ([-1] : List Int)).length) d168, .int .i64 p113.2.2.2.2.1, .int .i64 p113.2.2.2.2.2.1, .int .i64 p113.2.2.2.2.2.2.1, .int .i64 p113.2.2.2.2.2.2.2.1]) rfl sz23 (hF.ev rfl) (hF.ev rfl) rfl rfl rfl (S.free 2 rfl) rfl rfl) ?_; replace S := S.put 2 rfl (#[.int .i64 p113.1, .slice B114 p113.2.1.length d116, .int .i64 p113.2.2.1, .slice B167 ((p113.2.2.2.1 ++ ([-1] : List Int)).length) d168, .int .i64 p113.2.2.2.2.1, .int .i64 p113.2.2.2.2.2.1, .int .i64 p113.2.2.2.2.2.2.1, .int .i64 p113.2.2.2.2.2.2.2.1])
                  generalize World.setRow _ _ _ = u at S ⊢
                  refine wpList_nil ?_
                  obtain rfl := Option.some.inj hM153
                  exact ⟨(p130.2, p113.2.1, p113.2.2.2.1 ++ ([-1] : List Int), p113.2.2.2.2.1), B114, d116, B167, d168, rfl, hF.keep _ ⟨rfl, rfl, trivial⟩, S.selT (M := [.box g0 77 #[.slice A0 x0.length c0, .int .i64 p130.2], .box g120 25 #[.int .i64 p113.1, .slice B114 p113.2.1.length d116, .int .i64 p113.2.2.1, .slice B167 ((p113.2.2.2.1 ++ ([-1] : List Int)).length) d168, .int .i64 p113.2.2.2.2.1, .int .i64 p113.2.2.2.2.2.1, .int .i64 p113.2.2.2.2.2.2.1, .int .i64 p113.2.2.2.2.2.2.2.1], .box g101 25 #[.int .i64 0, .slice none 0 0, .int .i64 0, .slice none 0 0, .int .i64 0, .int .i64 0, .int .i64 0, .int .i64 0], .row 3 1 (.slice B114 p113.2.1.length d116) p113.2.1.length (p113.2.1.flatMap eI), .row 3 1 (.slice B167 ((p113.2.2.2.1 ++ ([-1] : List Int)).length) d168) ((p113.2.2.2.1 ++ ([-1] : List Int)).length) ((p113.2.2.2.1 ++ ([-1] : List Int)).flatMap eI)]) 9 [1, 2, 8, 3, 4] rfl rfl rfl⟩
              · rintro a u ⟨p147, B149, d150, B151, d152, rfl, hF, S⟩
                obtain rfl := Option.some.inj hM145
                exact ⟨(p147.1, p147.2.1, p147.2.2.1, p147.2.2.2, p113.2.2.2.2.2.2.1, p113.2.2.2.2.2.2.2.1), B149, d150, B151, d152, rfl, hF.keep _ ⟨rfl, rfl, trivial⟩, S.selT (M := [.box g0 77 #[.slice A0 x0.length c0, .int .i64 p147.1], .box g120 25 #[.int .i64 p113.1, .slice B149 p147.2.1.length d150, .int .i64 p113.2.2.1, .slice B151 p147.2.2.1.length d152, .int .i64 p147.2.2.2, .int .i64 p113.2.2.2.2.2.1, .int .i64 p113.2.2.2.2.2.2.1, .int .i64 p113.2.2.2.2.2.2.2.1], .box g101 25 #[.int .i64 0, .slice none 0 0, .int .i64 0, .slice none 0 0, .int .i64 0, .int .i64 0, .int .i64 0, .int .i64 0], .row 3 1 (.slice B149 p147.2.1.length d150) p147.2.1.length (p147.2.1.flatMap eI), .row 3 1 (.slice B151 p147.2.2.1.length d152) p147.2.2.1.length (p147.2.2.1.flatMap eI)]) 5 [0, 1, 2, 3, 4] rfl rfl rfl⟩
            · replace hM145 := bif_t hc146 hM145
              refine cond_t hF rfl hc146 ?_
              refine wp_seq ?_
              refine wp_region_lit ?_
              refine op_val (v := .pointer (some ⟨g120, 6, none⟩)) rfl rfl hF rfl (run_fieldAddr rfl fl25_6 (hF.ev rfl) rfl) ?_; clear hF; intro a hF
              refine op_do rfl rfl (run_store (cs' := #[.int .i64 p113.1, .slice B114 p113.2.1.length d116, .int .i64 p113.2.2.1, .slice B117 p113.2.2.2.1.length d119, .int .i64 p113.2.2.2.2.1, .int .i64 p113.2.2.2.2.2.1, .int .i64 (-1), .int .i64 p113.2.2.2.2.2.2.2.1]) rfl sz3 (hF.ev rfl) rfl rfl rfl rfl (S.free 1 rfl) rfl rfl) ?_; replace S := S.put 1 rfl (#[.int .i64 p113.1, .slice B114 p113.2.1.length d116, .int .i64 p113.2.2.1, .slice B117 p113.2.2.2.1.length d119, .int .i64 p113.2.2.2.2.1, .int .i64 p113.2.2.2.2.2.1, .int .i64 (-1), .int .i64 p113.2.2.2.2.2.2.2.1])
              generalize World.setRow _ _ _ = u at S ⊢
              refine wpList_nil ?_
              refine wp_region_lit ?_
              refine op_val (v := .pointer (some ⟨g120, 7, none⟩)) rfl rfl hF rfl (run_fieldAddr rfl fl25_7 (hF.ev rfl) rfl) ?_; clear hF; intro a hF
              refine op_do rfl rfl (run_store (cs' := #[.int .i64 p113.1, .slice B114 p113.2.1.length d116, .int .i64 p113.2.2.1, .slice B117 p113.2.2.2.1.length d119, .int .i64 p113.2.2.2.2.1, .int .i64 p113.2.2.2.2.2.1, .int .i64 (-1), .int .i64 3]) rfl sz3 (hF.ev rfl) rfl rfl rfl rfl (S.free 1 rfl) rfl rfl) ?_; replace S := S.put 1 rfl (#[.int .i64 p113.1, .slice B114 p113.2.1.length d116, .int .i64 p113.2.2.1, .slice B117 p113.2.2.2.1.length d119, .int .i64 p113.2.2.2.2.1, .int .i64 p113.2.2.2.2.2.1, .int .i64 (-1), .int .i64 3])
              generalize World.setRow _ _ _ = u at S ⊢
              refine wpList_nil ?_
              obtain rfl := Option.some.inj hM145
              exact ⟨(p130.2, p113.2.1, p113.2.2.2.1, p113.2.2.2.2.1, -1, 3), B114, d116, B117, d119, rfl, hF.keep _ ⟨rfl, rfl, trivial⟩, S.selT (M := [.box g0 77 #[.slice A0 x0.length c0, .int .i64 p130.2], .box g120 25 #[.int .i64 p113.1, .slice B114 p113.2.1.length d116, .int .i64 p113.2.2.1, .slice B117 p113.2.2.2.1.length d119, .int .i64 p113.2.2.2.2.1, .int .i64 p113.2.2.2.2.2.1, .int .i64 (-1), .int .i64 3], .box g101 25 #[.int .i64 0, .slice none 0 0, .int .i64 0, .slice none 0 0, .int .i64 0, .int .i64 0, .int .i64 0, .int .i64 0], .row 3 1 (.slice B114 p113.2.1.length d116) p113.2.1.length (p113.2.1.flatMap eI), .row 3 1 (.slice B117 p113.2.2.2.1.length d119) p113.2.2.2.1.length (p113.2.2.2.1.flatMap eI)]) 8 [0, 1, 7, 2, 3] rfl rfl rfl⟩
          · rintro a u ⟨p139, B141, d142, B143, d144, rfl, hF, S⟩
            obtain rfl := Option.some.inj hM137
            exact ⟨(p139.1, p113.1, p139.2.1, p139.2.2.1, p139.2.2.2.1, p139.2.2.2.2.1, p139.2.2.2.2.2), B141, d142, B143, d144, rfl, hF.keep _ ⟨rfl, rfl, trivial⟩, S.selT (M := [.box g0 77 #[.slice A0 x0.length c0, .int .i64 p139.1], .box g120 25 #[.int .i64 p113.1, .slice B141 p139.2.1.length d142, .int .i64 p113.2.2.1, .slice B143 p139.2.2.1.length d144, .int .i64 p139.2.2.2.1, .int .i64 p113.2.2.2.2.2.1, .int .i64 p139.2.2.2.2.1, .int .i64 p139.2.2.2.2.2], .box g101 25 #[.int .i64 0, .slice none 0 0, .int .i64 0, .slice none 0 0, .int .i64 0, .int .i64 0, .int .i64 0, .int .i64 0], .row 3 1 (.slice B141 p139.2.1.length d142) p139.2.1.length (p139.2.1.flatMap eI), .row 3 1 (.slice B143 p139.2.2.1.length d144) p139.2.2.1.length (p139.2.2.1.flatMap eI)]) 5 [0, 1, 2, 3, 4] rfl rfl rfl⟩
        · replace hM137 := bif_t hc138 hM137
          refine cond_t hF rfl hc138 ?_
          refine wp_region_lit ?_
          refine op_val (v := .pointer (some ⟨g120, 0, none⟩)) rfl rfl hF rfl (run_fieldAddr rfl fl25_0 (hF.ev rfl) rfl) ?_; clear hF; intro a hF
          refine op_do rfl rfl (run_store (cs' := #[.int .i64 2, .slice B114 p113.2.1.length d116, .int .i64 p113.2.2.1, .slice B117 p113.2.2.2.1.length d119, .int .i64 p113.2.2.2.2.1, .int .i64 p113.2.2.2.2.2.1, .int .i64 p113.2.2.2.2.2.2.1, .int .i64 p113.2.2.2.2.2.2.2.1]) rfl sz3 (hF.ev rfl) rfl rfl rfl rfl (S.free 1 rfl) rfl rfl) ?_; replace S := S.put 1 rfl (#[.int .i64 2, .slice B114 p113.2.1.length d116, .int .i64 p113.2.2.1, .slice B117 p113.2.2.2.1.length d119, .int .i64 p113.2.2.2.2.1, .int .i64 p113.2.2.2.2.2.1, .int .i64 p113.2.2.2.2.2.2.1, .int .i64 p113.2.2.2.2.2.2.2.1])
          generalize World.setRow _ _ _ = u at S ⊢
          refine wpList_nil ?_
          obtain rfl := Option.some.inj hM137
          exact ⟨(p130.2, 2, p113.2.1, p113.2.2.2.1, p113.2.2.2.2.1, p113.2.2.2.2.2.2.1, p113.2.2.2.2.2.2.2.1), B114, d116, B117, d119, rfl, hF.keep _ ⟨rfl, rfl, trivial⟩, S.selT (M := [.box g0 77 #[.slice A0 x0.length c0, .int .i64 p130.2], .box g120 25 #[.int .i64 2, .slice B114 p113.2.1.length d116, .int .i64 p113.2.2.1, .slice B117 p113.2.2.2.1.length d119, .int .i64 p113.2.2.2.2.1, .int .i64 p113.2.2.2.2.2.1, .int .i64 p113.2.2.2.2.2.2.1, .int .i64 p113.2.2.2.2.2.2.2.1], .box g101 25 #[.int .i64 0, .slice none 0 0, .int .i64 0, .slice none 0 0, .int .i64 0, .int .i64 0, .int .i64 0, .int .i64 0], .row 3 1 (.slice B114 p113.2.1.length d116) p113.2.1.length (p113.2.1.flatMap eI), .row 3 1 (.slice B117 p113.2.2.2.1.length d119) p113.2.2.2.1.length (p113.2.2.2.1.flatMap eI)]) 8 [0, 1, 7, 2, 3] rfl rfl rfl⟩
      · rintro a u ⟨p131, B133, d134, B135, d136, rfl, hF, S⟩
        obtain rfl := Option.some.inj hM128
        exact ⟨(p131.1, p131.2.1, p131.2.2.1, p131.2.2.2.1, p131.2.2.2.2.1, p131.2.2.2.2.2.1, p131.2.2.2.2.2.2), B133, d134, B135, d136, rfl, hF.keep _ ⟨rfl, rfl, trivial⟩, S.selT (M := [.box g0 77 #[.slice A0 x0.length c0, .int .i64 p131.1], .box g120 25 #[.int .i64 p131.2.1, .slice B133 p131.2.2.1.length d134, .int .i64 p113.2.2.1, .slice B135 p131.2.2.2.1.length d136, .int .i64 p131.2.2.2.2.1, .int .i64 p113.2.2.2.2.2.1, .int .i64 p131.2.2.2.2.2.1, .int .i64 p131.2.2.2.2.2.2], .box g101 25 #[.int .i64 0, .slice none 0 0, .int .i64 0, .slice none 0 0, .int .i64 0, .int .i64 0, .int .i64 0, .int .i64 0], .row 3 1 (.slice B133 p131.2.2.1.length d134) p131.2.2.1.length (p131.2.2.1.flatMap eI), .row 3 1 (.slice B135 p131.2.2.2.1.length d136) p131.2.2.2.1.length (p131.2.2.2.1.flatMap eI)]) 5 [0, 1, 2, 3, 4] rfl rfl rfl⟩
  · rintro a u ⟨p122, B124, d125, B126, d127, rfl, hF, S⟩
    refine wp_seq ?_
    refine wp_region_lit ?_
    refine op_val (v := .agg #[.int .i64 p122.2.1, .slice B124 p122.2.2.1.length d125, .int .i64 p113.2.2.1, .slice B126 p122.2.2.2.1.length d127, .int .i64 p122.2.2.2.2.1, .int .i64 p113.2.2.2.2.2.1, .int .i64 p122.2.2.2.2.2.1, .int .i64 p122.2.2.2.2.2.2]) rfl rfl hF rfl (run_loadN rfl ag25 (hF.ev rfl) rfl ((S.free 1 rfl).cells 0 #[.int .i64 p122.2.1, .slice B124 p122.2.2.1.length d125, .int .i64 p113.2.2.1, .slice B126 p122.2.2.2.1.length d127, .int .i64 p122.2.2.2.2.1, .int .i64 p113.2.2.2.2.2.1, .int .i64 p122.2.2.2.2.2.1, .int .i64 p122.2.2.2.2.2.2] rfl)) ?_; clear hF; intro a hF
    refine op_do rfl rfl (run_store (cs' := #[.int .i64 p122.2.1, .slice B124 p122.2.2.1.length d125, .int .i64 p113.2.2.1, .slice B126 p122.2.2.2.1.length d127, .int .i64 p122.2.2.2.2.1, .int .i64 p113.2.2.2.2.2.1, .int .i64 p122.2.2.2.2.2.1, .int .i64 p122.2.2.2.2.2.2]) rfl sz25 (hF.ev rfl) (hF.ev rfl) rfl rfl rfl (S.free 2 rfl) rfl rfl) ?_; replace S := S.put 2 rfl (#[.int .i64 p122.2.1, .slice B124 p122.2.2.1.length d125, .int .i64 p113.2.2.1, .slice B126 p122.2.2.2.1.length d127, .int .i64 p122.2.2.2.2.1, .int .i64 p113.2.2.2.2.2.1, .int .i64 p122.2.2.2.2.2.1, .int .i64 p122.2.2.2.2.2.2])
    generalize World.setRow _ _ _ = u at S ⊢
    refine wpList_nil ?_
    refine wp_ret ?_
    repeat with_reducible (first | refine then_ret ?_ | refine in_ret ?_ | refine in_nrm ?_)
    refine ret1_gw (.inl rfl) hF rfl (res_cell (hF.ev rfl) (res_loadN ag25 rfl (S.cells 2 rfl 0 #[.int .i64 p122.2.1, .slice B124 p122.2.2.1.length d125, .int .i64 p113.2.2.1, .slice B126 p122.2.2.2.1.length d127, .int .i64 p122.2.2.2.2.1, .int .i64 p113.2.2.2.2.2.1, .int .i64 p122.2.2.2.2.2.1, .int .i64 p122.2.2.2.2.2.2] rfl))) ?_
    obtain rfl := Option.some.inj hM
    exact ⟨B124, p122.2.2.1.length, d125, B126, p122.2.2.2.1.length, d127, rfl, rfl, rfl, S.selT (M := [.row 3 1 (.slice B124 p122.2.2.1.length d125) p122.2.2.1.length (p122.2.2.1.flatMap eI), .row 3 1 (.slice B126 p122.2.2.2.1.length d127) p122.2.2.2.1.length (p122.2.2.2.1.flatMap eI), .box g0 77 #[.slice A0 x0.length c0, .int .i64 p122.1]]) 5 [3, 4, 0] rfl rfl rfl⟩

set_option maxHeartbeats 4000000 in
theorem c_spec_DrawPollDo {x0 : List Int} {A0 : Option Addr} {n0 c0 : Nat} {w : World} {r : Int × List Int × Int × List Int × Int × Int × Int × Int × Int × Int} (h0 : Rt w 1 eU A0 n0 c0 x0) (hM : m_spec_DrawPollDo x0 = some r) :
    Calls Tryd.prog 13 #[.slice A0 n0 c0] w (fun e w' => ∃ (B0 : Option Addr) (N0 D0 : Nat) (B1 : Option Addr) (N1 D1 : Nat), e = .returned (.tuple #[.agg #[.int .i64 r.1, .slice B0 N0 D0, .int .i64 r.2.2.1, .slice B1 N1 D1, .int .i64 r.2.2.2.2.1, .int .i64 r.2.2.2.2.2.1, .int .i64 r.2.2.2.2.2.2.1, .int .i64 r.2.2.2.2.2.2.2.1], .agg #[.int .i64 r.2.2.2.2.2.2.2.2.1, .int .i64 r.2.2.2.2.2.2.2.2.2]]) ∧ N0 = r.2.1.length ∧ N1 = r.2.2.2.1.length ∧ St w w' [.row 3 1 (.slice B0 N0 D0) N0 (r.2.1.flatMap eI), .row 3 1 (.slice B1 N1 D1) N1 (r.2.2.2.1.flatMap eI)]) := by
  obtain rfl := h0.len
  unfold m_spec_DrawPollDo at hM
  refine calls_gw Tryd.func13 Tryd.ntmps13 rfl [(0, .slice A0 x0.length c0)] ⟨rfl, trivial⟩ rfl ?_
  intro a hF
  have S := St.nil w
  refine wp_seq ?_
  refine wp_region_lit ?_
  refine op_new (cs := #[.int .i64 0, .slice none 0 0, .int .i64 0, .slice none 0 0, .int .i64 0, .int .i64 0, .int .i64 0, .int .i64 0]) rfl rfl hF rfl S (run_allocZ rfl zr25) ?_; clear hF S; intro a g101 u hF S
  refine op_new (cs := #[.int .i64 0, .int .i64 0]) rfl rfl hF rfl S (run_allocZ rfl zr31) ?_; clear hF S; intro a g102 u hF S
  refine wpList_nil ?_
  refine wp_seq ?_
  refine wp_region_lit ?_
  refine op_val (v := .slice A0 x0.length c0) rfl rfl hF rfl (run_move rfl (hF.ev rfl)) ?_; clear hF; intro a hF
  refine op_call rfl rfl hF rfl (run_call (vs := [.slice A0 x0.length c0]) rfl rfl co29 ⟨(hF.ev rfl), trivial⟩) (c_spec_l20Open ⟨(S.rc0 h0.rc), rfl⟩) ?_
  rintro e u ⟨g103, rfl, T⟩
  refine ⟨_, rfl, ?_⟩
  clear hF; intro a hF
  replace S := S.call1 T; clear T
  refine op_val (v := .pointer (some ⟨g103, 0, none⟩)) rfl rfl hF rfl (run_assign rfl (hF.ev rfl)) ?_; clear hF; intro a hF
  refine wpList_nil ?_
  refine wp_seq ?_
  refine wp_region_lit ?_
  refine op_val (v := .pointer (some ⟨g103, 0, none⟩)) rfl rfl hF rfl (run_move rfl (hF.ev rfl)) ?_; clear hF; intro a hF
  obtain ⟨p104, h104, hM⟩ := bind_ex hM
  refine op_call rfl rfl hF rfl (run_call (vs := [.pointer (some ⟨g103, 0, none⟩), .int .i64 12]) rfl rfl co30 ⟨(hF.ev rfl), rfl, trivial⟩) (c_spec_l20Poll (x0 := x0.take 2000) (x1 := 0) (x2 := 12) ⟨(op_rc h0.rc rfl), rfl⟩ (show St w _ [.box g103 77 #[.slice (opA c0 x0.length A0) ((x0.take 2000).length) c0, .int .i64 0], .box g102 31 #[.int .i64 0, .int .i64 0], .box g101 25 #[.int .i64 0, .slice none 0 0, .int .i64 0, .slice none 0 0, .int .i64 0, .int .i64 0, .int .i64 0, .int .i64 0]] from S.sel [0, 1, 2] rfl rfl) h104) ?_
  rintro e u ⟨B105, n106, d107, B108, n109, d110, rfl, rfl, rfl, T⟩
  refine ⟨_, rfl, ?_⟩
  clear hF; intro a hF
  clear S; have S := T; clear T
  refine op_new (cs := #[.int .i64 0, .slice none 0 0, .int .i64 0, .slice none 0 0, .int .i64 0, .int .i64 0, .int .i64 0, .int .i64 0]) rfl rfl hF rfl S (run_allocZ rfl zr25) ?_; clear hF S; intro a g111 u hF S
  refine op_do rfl rfl (run_store (cs' := #[.int .i64 p104.1, .slice B105 p104.2.1.length d107, .int .i64 p104.2.2.1, .slice B108 p104.2.2.2.1.length d110, .int .i64 p104.2.2.2.2.1, .int .i64 p104.2.2.2.2.2.1, .int .i64 p104.2.2.2.2.2.2.1, .int .i64 p104.2.2.2.2.2.2.2.1]) rfl sz25 (hF.ev rfl) (hF.ev rfl) rfl rfl rfl (S.free 0 rfl) rfl rfl) ?_; replace S := S.put 0 rfl (#[.int .i64 p104.1, .slice B105 p104.2.1.length d107, .int .i64 p104.2.2.1, .slice B108 p104.2.2.2.1.length d110, .int .i64 p104.2.2.2.2.1, .int .i64 p104.2.2.2.2.2.1, .int .i64 p104.2.2.2.2.2.2.1, .int .i64 p104.2.2.2.2.2.2.2.1])
  generalize World.setRow _ _ _ = u at S ⊢
  refine wpList_nil ?_
  refine wp_seq ?_
  obtain ⟨p112, h112, hM⟩ := bind_ex hM
  obtain ⟨p113, h113, hM⟩ := bind_ex hM
  obtain ⟨p114, h114, hM⟩ := bind_ex hM
  obtain ⟨p115, h115, hM⟩ := bind_ex hM
  refine region_gw (D := [10, 11, 12, 13, 14, 15, 16, 17, 18, 19, 20, 21, 22, 23, 24]) (Lr := [.box g111 25 #[.int .i64 p104.1, .slice B105 p104.2.1.length d107, .int .i64 p104.2.2.1, .slice B108 p104.2.2.2.1.length d110, .int .i64 p104.2.2.2.2.1, .int .i64 p104.2.2.2.2.2.1, .int .i64 p104.2.2.2.2.2.2.1, .int .i64 p104.2.2.2.2.2.2.2.1], .row 3 1 (.slice B105 p104.2.1.length d107) p104.2.1.length (p104.2.1.flatMap eI), .row 3 1 (.slice B108 p104.2.2.2.1.length d110) p104.2.2.2.1.length (p104.2.2.2.1.flatMap eI)]) (deps := (fun | 0 => [10] | 1 => [11] | 2 => [12] | 3 => [13] | 4 => [14] | 5 => [15] | 6 => [16] | 7 => [17] | 8 => [18] | 9 => [19] | 10 => [20] | 11 => [21] | 12 => [22] | 13 => [23] | 14 => [24] | 15 => [2] | 16 => [3] | _ => [])) (rd := (fun _ => [])) (zr := (fun _ => []))
    (φ := fun i vs => match i, vs with | 0, [v10] => v10 = .agg #[.int .i64 p104.1, .slice B105 p104.2.1.length d107, .int .i64 p104.2.2.1, .slice B108 p104.2.2.2.1.length d110, .int .i64 p104.2.2.2.2.1, .int .i64 p104.2.2.2.2.2.1, .int .i64 p104.2.2.2.2.2.2.1, .int .i64 p104.2.2.2.2.2.2.2.1] | 1, [v11] => v11 = .pointer (some ⟨g103, 0, none⟩) | 2, [v12] => v12 = .int .i64 p112.1 | 3, [v13] => v13 = .pointer (some ⟨g103, 0, none⟩) | 4, [v14] => v14 = .int .i64 p113.1 | 5, [v15] => v15 = .int .i64 (w64 (Int.tdiv p113.1 19)) | 6, [v16] => v16 = .int .i64 (w64 (p112.1 - (w64 (Int.tdiv p113.1 19)))) | 7, [v17] => v17 = .pointer (some ⟨g103, 0, none⟩) | 8, [v18] => v18 = .int .i64 p114.1 | 9, [v19] => v19 = .pointer (some ⟨g103, 0, none⟩) | 10, [v20] => v20 = .int .i64 p115.1 | 11, [v21] => v21 = .int .i64 (w64 (Int.tdiv p115.1 11)) | 12, [v22] => v22 = .int .i64 (w64 ((w64 (Int.tdiv p115.1 11)) * 90)) | 13, [v23] => v23 = .int .i64 (w64 (p114.1 - (w64 ((w64 (Int.tdiv p115.1 11)) * 90)))) | 14, [v24] => v24 = .agg #[.int .i64 (w64 (p112.1 - (w64 (Int.tdiv p113.1 19)))), .int .i64 (w64 (p114.1 - (w64 ((w64 (Int.tdiv p115.1 11)) * 90))))] | _, _ => True)
    (C := fun i vs => match i, vs with | 2, [v12] => [.box g103 77 #[.slice (opA c0 x0.length A0) ((x0.take 2000).length) c0, .int .i64 p112.2]] | 4, [v14] => [.box g103 77 #[.slice (opA c0 x0.length A0) ((x0.take 2000).length) c0, .int .i64 p113.2]] | 8, [v18] => [.box g103 77 #[.slice (opA c0 x0.length A0) ((x0.take 2000).length) c0, .int .i64 p114.2]] | 10, [v20] => [.box g103 77 #[.slice (opA c0 x0.length A0) ((x0.take 2000).length) c0, .int .i64 p115.2]] | 15, [v2] => [.box g101 25 #[.int .i64 p104.1, .slice B105 p104.2.1.length d107, .int .i64 p104.2.2.1, .slice B108 p104.2.2.2.1.length d110, .int .i64 p104.2.2.2.2.1, .int .i64 p104.2.2.2.2.2.1, .int .i64 p104.2.2.2.2.2.2.1, .int .i64 p104.2.2.2.2.2.2.2.1]] | 16, [v3] => [.box g102 31 #[.int .i64 (w64 (p112.1 - (w64 (Int.tdiv p113.1 19)))), .int .i64 (w64 (p114.1 - (w64 ((w64 (Int.tdiv p115.1 11)) * 90))))]] | _, _ => [])
    (κ := (fun | 2 => some 4 | 4 => some 8 | 8 => some 10 | _ => none)) (Z := (fun | 2 => [.box g103 77 #[.slice (opA c0 x0.length A0) ((x0.take 2000).length) c0, .int .i64 p104.2.2.2.2.2.2.2.2]] | 15 => [.box g101 25 #[.int .i64 0, .slice none 0 0, .int .i64 0, .slice none 0 0, .int .i64 0, .int .i64 0, .int .i64 0, .int .i64 0]] | 16 => [.box g102 31 #[.int .i64 0, .int .i64 0]] | _ => [])) mixed hF (by kernel_rfl) (show St w _ [.box g103 77 #[.slice (opA c0 x0.length A0) ((x0.take 2000).length) c0, .int .i64 p104.2.2.2.2.2.2.2.2], .box g101 25 #[.int .i64 0, .slice none 0 0, .int .i64 0, .slice none 0 0, .int .i64 0, .int .i64 0, .int .i64 0, .int .i64 0], .box g102 31 #[.int .i64 0, .int .i64 0], .box g111 25 #[.int .i64 p104.1, .slice B105 p104.2.1.length d107, .int .i64 p104.2.2.1, .slice B108 p104.2.2.2.1.length d110, .int .i64 p104.2.2.2.2.1, .int .i64 p104.2.2.2.2.2.1, .int .i64 p104.2.2.2.2.2.2.1, .int .i64 p104.2.2.2.2.2.2.2.1], .row 3 1 (.slice B105 p104.2.1.length d107) p104.2.1.length (p104.2.1.flatMap eI), .row 3 1 (.slice B108 p104.2.2.2.1.length d110) p104.2.2.2.1.length (p104.2.2.2.1.flatMap eI)] from S.sel [3, 5, 4, 0, 1, 2] rfl rfl) ?_ ?_
  · refine ⟨?_, ?_, ?_, ?_, ?_, ?_, ?_, ?_, ?_, ?_, ?_, ?_, ?_, ?_, ?_, ?_, ?_, trivial⟩
    · intro a u X hB hu hp hr hz hl S
      replace S : St w u ([] ++ X) := S
      exact .inl ⟨rfl, .agg #[.int .i64 p104.1, .slice B105 p104.2.1.length d107, .int .i64 p104.2.2.1, .slice B108 p104.2.2.2.1.length d110, .int .i64 p104.2.2.2.2.1, .int .i64 p104.2.2.2.2.2.1, .int .i64 p104.2.2.2.2.2.2.1, .int .i64 p104.2.2.2.2.2.2.2.1], u, (run_loadN rfl ag25 (hF.evB hB rfl rfl) rfl ((gr_box S hl 0 rfl).cells 0 #[.int .i64 p104.1, .slice B105 p104.2.1.length d107, .int .i64 p104.2.2.1, .slice B108 p104.2.2.2.1.length d110, .int .i64 p104.2.2.2.2.1, .int .i64 p104.2.2.2.2.2.1, .int .i64 p104.2.2.2.2.2.2.1, .int .i64 p104.2.2.2.2.2.2.2.1] rfl)), rfl, S⟩
    · intro a u X hB hu hp hr hz hl S
      replace S : St w u ([] ++ X) := S
      exact .inl ⟨rfl, .pointer (some ⟨g103, 0, none⟩), u, (run_move rfl (hF.evB hB rfl rfl)), rfl, S⟩
    · intro a u X hB hu hp hr hz hl S
      replace S : St w u ([.box g103 77 #[.slice (opA c0 x0.length A0) ((x0.take 2000).length) c0, .int .i64 p104.2.2.2.2.2.2.2.2]] ++ X) := S
      have e11 : sl a 11 = .pointer (some ⟨g103, 0, none⟩) := hp 1 rfl
      refine .inr (.inr (.inl ⟨rfl, _, _, (run_call (vs := [.pointer (some ⟨g103, 0, none⟩), .int .i64 7]) rfl rfl co31 ⟨(ev_sl e11), (ev_const _ _), trivial⟩), ?_⟩))
      refine Calls.mono (c_spec_l20Rd_pick (x0 := x0.take 2000) (x1 := p104.2.2.2.2.2.2.2.2) (x2 := 7) ⟨(op_rc h0.rc rfl), rfl⟩ S h112) ?_
      rintro e w1 ⟨rfl, T⟩
      exact ⟨_, rfl, rfl, T⟩
    · intro a u X hB hu hp hr hz hl S
      replace S : St w u ([] ++ X) := S
      exact .inl ⟨rfl, .pointer (some ⟨g103, 0, none⟩), u, (run_move rfl (hF.evB hB rfl rfl)), rfl, S⟩
    · intro a u X hB hu hp hr hz hl S
      replace S : St w u ([.box g103 77 #[.slice (opA c0 x0.length A0) ((x0.take 2000).length) c0, .int .i64 p112.2]] ++ X) := S
      have e13 : sl a 13 = .pointer (some ⟨g103, 0, none⟩) := hp 3 rfl
      refine .inr (.inr (.inl ⟨rfl, _, _, (run_call (vs := [.pointer (some ⟨g103, 0, none⟩), .int .i64 20]) rfl rfl co31 ⟨(ev_sl e13), (ev_const _ _), trivial⟩), ?_⟩))
      refine Calls.mono (c_spec_l20Rd_pick (x0 := x0.take 2000) (x1 := p112.2) (x2 := 20) ⟨(op_rc h0.rc rfl), rfl⟩ S h113) ?_
      rintro e w1 ⟨rfl, T⟩
      exact ⟨_, rfl, rfl, T⟩
    · intro a u X hB hu hp hr hz hl S
      replace S : St w u ([] ++ X) := S
      have e14 : sl a 14 = .int .i64 p113.1 := hp 4 rfl
      exact .inl ⟨rfl, .int .i64 (w64 (Int.tdiv p113.1 19)), u, (run_quo (z := w64 (Int.tdiv p113.1 19)) (ev_sl e14) (ev_const _ _) rfl (by decide) rfl), rfl, S⟩
    · intro a u X hB hu hp hr hz hl S
      replace S : St w u ([] ++ X) := S
      have e12 : sl a 12 = .int .i64 p112.1 := hp 2 rfl
      have e15 : sl a 15 = .int .i64 (w64 (Int.tdiv p113.1 19)) := hp 5 rfl
      exact .inl ⟨rfl, .int .i64 (w64 (p112.1 - (w64 (Int.tdiv p113.1 19)))), u, (run_sub (z := w64 (p112.1 - (w64 (Int.tdiv p113.1 19)))) (ev_sl e12) (ev_sl e15) rfl rfl), rfl, S⟩
    · intro a u X hB hu hp hr hz hl S
      replace S : St w u ([] ++ X) := S
      exact .inl ⟨rfl, .pointer (some ⟨g103, 0, none⟩), u, (run_move rfl (hF.evB hB rfl rfl)), rfl, S⟩
    · intro a u X hB hu hp hr hz hl S
      replace S : St w u ([.box g103 77 #[.slice (opA c0 x0.length A0) ((x0.take 2000).length) c0, .int .i64 p113.2]] ++ X) := S
      have e17 : sl a 17 = .pointer (some ⟨g103, 0, none⟩) := hp 7 rfl
      refine .inr (.inr (.inl ⟨rfl, _, _, (run_call (vs := [.pointer (some ⟨g103, 0, none⟩), .int .i64 90]) rfl rfl co31 ⟨(ev_sl e17), (ev_const _ _), trivial⟩), ?_⟩))
      refine Calls.mono (c_spec_l20Rd_pick (x0 := x0.take 2000) (x1 := p113.2) (x2 := 90) ⟨(op_rc h0.rc rfl), rfl⟩ S h114) ?_
      rintro e w1 ⟨rfl, T⟩
      exact ⟨_, rfl, rfl, T⟩
    · intro a u X hB hu hp hr hz hl S
      replace S : St w u ([] ++ X) := S
      exact .inl ⟨rfl, .pointer (some ⟨g103, 0, none⟩), u, (run_move rfl (hF.evB hB rfl rfl)), rfl, S⟩
    · intro a u X hB hu hp hr hz hl S
      replace S : St w u ([.box g103 77 #[.slice (opA c0 x0.length A0) ((x0.take 2000).length) c0, .int .i64 p114.2]] ++ X) := S
      have e19 : sl a 19 = .pointer (some ⟨g103, 0, none⟩) := hp 9 rfl
      refine .inr (.inr (.inl ⟨rfl, _, _, (run_call (vs := [.pointer (some ⟨g103, 0, none⟩), .int .i64 12]) rfl rfl co31 ⟨(ev_sl e19), (ev_const _ _), trivial⟩), ?_⟩))
      refine Calls.mono (c_spec_l20Rd_pick (x0 := x0.take 2000) (x1 := p114.2) (x2 := 12) ⟨(op_rc h0.rc rfl), rfl⟩ S h115) ?_
      rintro e w1 ⟨rfl, T⟩
      exact ⟨_, rfl, rfl, T⟩
    · intro a u X hB hu hp hr hz hl S
      replace S : St w u ([] ++ X) := S
      have e20 : sl a 20 = .int .i64 p115.1 := hp 10 rfl
      exact .inl ⟨rfl, .int .i64 (w64 (Int.tdiv p115.1 11)), u, (run_quo (z := w64 (Int.tdiv p115.1 11)) (ev_sl e20) (ev_const _ _) rfl (by decide) rfl), rfl, S⟩
    · intro a u X hB hu hp hr hz hl S
      replace S : St w u ([] ++ X) := S
      have e21 : sl a 21 = .int .i64 (w64 (Int.tdiv p115.1 11)) := hp 11 rfl
      exact .inl ⟨rfl, .int .i64 (w64 ((w64 (Int.tdiv p115.1 11)) * 90)), u, (run_mul (z := w64 ((w64 (Int.tdiv p115.1 11)) * 90)) (ev_sl e21) (ev_const _ _) rfl rfl), rfl, S⟩
    · intro a u X hB hu hp hr hz hl S
      replace S : St w u ([] ++ X) := S
      have e18 : sl a 18 = .int .i64 p114.1 := hp 8 rfl
      have e22 : sl a 22 = .int .i64 (w64 ((w64 (Int.tdiv p115.1 11)) * 90)) := hp 12 rfl
      exact .inl ⟨rfl, .int .i64 (w64 (p114.1 - (w64 ((w64 (Int.tdiv p115.1 11)) * 90)))), u, (run_sub (z := w64 (p114.1 - (w64 ((w64 (Int.tdiv p115.1 11)) * 90)))) (ev_sl e18) (ev_sl e22) rfl rfl), rfl, S⟩
    · intro a u X hB hu hp hr hz hl S
      replace S : St w u ([] ++ X) := S
      have e16 : sl a 16 = .int .i64 (w64 (p112.1 - (w64 (Int.tdiv p113.1 19)))) := hp 6 rfl
      have e23 : sl a 23 = .int .i64 (w64 (p114.1 - (w64 ((w64 (Int.tdiv p115.1 11)) * 90)))) := hp 13 rfl
      exact .inl ⟨rfl, .agg #[.int .i64 (w64 (p112.1 - (w64 (Int.tdiv p113.1 19)))), .int .i64 (w64 (p114.1 - (w64 ((w64 (Int.tdiv p115.1 11)) * 90))))], u, (run_build (vs := [(0, .int .i64 (w64 (p112.1 - (w64 (Int.tdiv p113.1 19))))), (1, .int .i64 (w64 (p114.1 - (w64 ((w64 (Int.tdiv p115.1 11)) * 90)))))]) rfl ⟨⟨rfl, (ev_sl e16)⟩, ⟨rfl, (ev_sl e23)⟩, trivial⟩ (bd31_0_1 rfl rfl)), rfl, S⟩
    · intro a u X hB hu hp hr hz hl S
      replace S : St w u ([.box g101 25 #[.int .i64 0, .slice none 0 0, .int .i64 0, .slice none 0 0, .int .i64 0, .int .i64 0, .int .i64 0, .int .i64 0]] ++ X) := S
      have e10 : sl a 10 = .agg #[.int .i64 p104.1, .slice B105 p104.2.1.length d107, .int .i64 p104.2.2.1, .slice B108 p104.2.2.2.1.length d110, .int .i64 p104.2.2.2.2.1, .int .i64 p104.2.2.2.2.2.1, .int .i64 p104.2.2.2.2.2.2.1, .int .i64 p104.2.2.2.2.2.2.2.1] := hp 0 rfl
      exact .inr (.inl ⟨rfl, _, run_store (cs' := #[.int .i64 p104.1, .slice B105 p104.2.1.length d107, .int .i64 p104.2.2.1, .slice B108 p104.2.2.2.1.length d110, .int .i64 p104.2.2.2.2.1, .int .i64 p104.2.2.2.2.2.1, .int .i64 p104.2.2.2.2.2.2.1, .int .i64 p104.2.2.2.2.2.2.2.1]) rfl sz25 (hF.evB hB rfl rfl) (ev_sl e10) rfl rfl rfl (S.free 0 rfl) rfl rfl, trivial, S.put 0 rfl (#[.int .i64 p104.1, .slice B105 p104.2.1.length d107, .int .i64 p104.2.2.1, .slice B108 p104.2.2.2.1.length d110, .int .i64 p104.2.2.2.2.1, .int .i64 p104.2.2.2.2.2.1, .int .i64 p104.2.2.2.2.2.2.1, .int .i64 p104.2.2.2.2.2.2.2.1])⟩)
    · intro a u X hB hu hp hr hz hl S
      replace S : St w u ([.box g102 31 #[.int .i64 0, .int .i64 0]] ++ X) := S
      have e24 : sl a 24 = .agg #[.int .i64 (w64 (p112.1 - (w64 (Int.tdiv p113.1 19)))), .int .i64 (w64 (p114.1 - (w64 ((w64 (Int.tdiv p115.1 11)) * 90))))] := hp 14 rfl
      exact .inr (.inl ⟨rfl, _, run_store (cs' := #[.int .i64 (w64 (p112.1 - (w64 (Int.tdiv p113.1 19)))), .int .i64 (w64 (p114.1 - (w64 ((w64 (Int.tdiv p115.1 11)) * 90))))]) rfl sz31 (hF.evB hB rfl rfl) (ev_sl e24) rfl rfl rfl (S.free 0 rfl) rfl rfl, trivial, S.put 0 rfl (#[.int .i64 (w64 (p112.1 - (w64 (Int.tdiv p113.1 19)))), .int .i64 (w64 (p114.1 - (w64 ((w64 (Int.tdiv p115.1 11)) * 90))))])⟩)
  · intro a u hB hp S
    obtain ⟨q0, q1, q2, q3, q4, q5, q6, q7, q8, q9, q10, q11, q12, q13, q14, q15, q16, _⟩ := hp
    have e10 : sl a 10 = .agg #[.int .i64 p104.1, .slice B105 p104.2.1.length d107, .int .i64 p104.2.2.1, .slice B108 p104.2.2.2.1.length d110, .int .i64 p104.2.2.2.2.1, .int .i64 p104.2.2.2.2.2.1, .int .i64 p104.2.2.2.2.2.2.1, .int .i64 p104.2.2.2.2.2.2.2.1] := q0
    have e11 : sl a 11 = .pointer (some ⟨g103, 0, none⟩) := q1
    have e12 : sl a 12 = .int .i64 p112.1 := q2
    have e13 : sl a 13 = .pointer (some ⟨g103, 0, none⟩) := q3
    have e14 : sl a 14 = .int .i64 p113.1 := q4
    have e15 : sl a 15 = .int .i64 (w64 (Int.tdiv p113.1 19)) := q5
    have e16 : sl a 16 = .int .i64 (w64 (p112.1 - (w64 (Int.tdiv p113.1 19)))) := q6
    have e17 : sl a 17 = .pointer (some ⟨g103, 0, none⟩) := q7
    have e18 : sl a 18 = .int .i64 p114.1 := q8
    have e19 : sl a 19 = .pointer (some ⟨g103, 0, none⟩) := q9
    have e20 : sl a 20 = .int .i64 p115.1 := q10
    have e21 : sl a 21 = .int .i64 (w64 (Int.tdiv p115.1 11)) := q11
    have e22 : sl a 22 = .int .i64 (w64 ((w64 (Int.tdiv p115.1 11)) * 90)) := q12
    have e23 : sl a 23 = .int .i64 (w64 (p114.1 - (w64 ((w64 (Int.tdiv p115.1 11)) * 90)))) := q13
    have e24 : sl a 24 = .agg #[.int .i64 (w64 (p112.1 - (w64 (Int.tdiv p113.1 19)))), .int .i64 (w64 (p114.1 - (w64 ((w64 (Int.tdiv p115.1 11)) * 90))))] := q14
    replace S : St w u [.box g103 77 #[.slice (opA c0 x0.length A0) ((x0.take 2000).length) c0, .int .i64 p115.2], .box g101 25 #[.int .i64 p104.1, .slice B105 p104.2.1.length d107, .int .i64 p104.2.2.1, .slice B108 p104.2.2.2.1.length d110, .int .i64 p104.2.2.2.2.1, .int .i64 p104.2.2.2.2.2.1, .int .i64 p104.2.2.2.2.2.2.1, .int .i64 p104.2.2.2.2.2.2.2.1], .box g102 31 #[.int .i64 (w64 (p112.1 - (w64 (Int.tdiv p113.1 19)))), .int .i64 (w64 (p114.1 - (w64 ((w64 (Int.tdiv p115.1 11)) * 90))))], .box g111 25 #[.int .i64 p104.1, .slice B105 p104.2.1.length d107, .int .i64 p104.2.2.1, .slice B108 p104.2.2.2.1.length d110, .int .i64 p104.2.2.2.2.1, .int .i64 p104.2.2.2.2.2.1, .int .i64 p104.2.2.2.2.2.2.1, .int .i64 p104.2.2.2.2.2.2.2.1], .row 3 1 (.slice B105 p104.2.1.length d107) p104.2.1.length (p104.2.1.flatMap eI), .row 3 1 (.slice B108 p104.2.2.2.1.length d110) p104.2.2.2.1.length (p104.2.2.2.1.flatMap eI)] := S
    clear q0 q1 q2 q3 q4 q5 q6 q7 q8 q9 q10 q11 q12 q13 q14 q15 q16
    have hF := hF.region hB [(10, .agg #[.int .i64 p104.1, .slice B105 p104.2.1.length d107, .int .i64 p104.2.2.1, .slice B108 p104.2.2.2.1.length d110, .int .i64 p104.2.2.2.2.1, .int .i64 p104.2.2.2.2.2.1, .int .i64 p104.2.2.2.2.2.2.1, .int .i64 p104.2.2.2.2.2.2.2.1]), (11, .pointer (some ⟨g103, 0, none⟩)), (12, .int .i64 p112.1), (13, .pointer (some ⟨g103, 0, none⟩)), (14, .int .i64 p113.1), (15, .int .i64 (w64 (Int.tdiv p113.1 19))), (16, .int .i64 (w64 (p112.1 - (w64 (Int.tdiv p113.1 19))))), (17, .pointer (some ⟨g103, 0, none⟩)), (18, .int .i64 p114.1), (19, .pointer (some ⟨g103, 0, none⟩)), (20, .int .i64 p115.1), (21, .int .i64 (w64 (Int.tdiv p115.1 11))), (22, .int .i64 (w64 ((w64 (Int.tdiv p115.1 11)) * 90))), (23, .int .i64 (w64 (p114.1 - (w64 ((w64 (Int.tdiv p115.1 11)) * 90))))), (24, .agg #[.int .i64 (w64 (p112.1 - (w64 (Int.tdiv p113.1 19)))), .int .i64 (w64 (p114.1 - (w64 ((w64 (Int.tdiv p115.1 11)) * 90))))])] (allSl_mem ⟨e10, e11, e12, e13, e14, e15, e16, e17, e18, e19, e20, e21, e22, e23, e24, trivial⟩) rfl
    clear hB e10 e11 e12 e13 e14 e15 e16 e17 e18 e19 e20 e21 e22 e23 e24
    refine wp_ret ?_
    repeat with_reducible (first | refine then_ret ?_ | refine in_ret ?_ | refine in_nrm ?_)
    refine ret2_gw (.inl rfl) hF rfl (res_cell (hF.ev rfl) (res_loadN ag25 rfl (S.cells 1 rfl 0 #[.int .i64 p104.1, .slice B105 p104.2.1.length d107, .int .i64 p104.2.2.1, .slice B108 p104.2.2.2.1.length d110, .int .i64 p104.2.2.2.2.1, .int .i64 p104.2.2.2.2.2.1, .int .i64 p104.2.2.2.2.2.2.1, .int .i64 p104.2.2.2.2.2.2.2.1] rfl))) (res_cell (hF.ev rfl) (res_loadN ag31 rfl (S.cells 2 rfl 0 #[.int .i64 (w64 (p112.1 - (w64 (Int.tdiv p113.1 19)))), .int .i64 (w64 (p114.1 - (w64 ((w64 (Int.tdiv p115.1 11)) * 90))))] rfl))) ?_
    obtain rfl := Option.some.inj hM
    exact ⟨B105, p104.2.1.length, d107, B108, p104.2.2.2.1.length, d110, rfl, rfl, rfl, S.sel [4, 5] rfl rfl⟩

set_option maxHeartbeats 4000000 in
theorem c_laws_FnPollDo {x0 : List Int} {A0 : Option Addr} {n0 c0 : Nat} {w : World} {r : Bool} (h0 : Rt w 1 eU A0 n0 c0 x0) (hM : m_laws_FnPollDo x0 = some r) :
    Calls Tryd.prog 4 #[.slice A0 n0 c0] w (fun e w' => e = .returned (.bool r) ∧ St w w' []) := by
  obtain rfl := h0.len
  unfold m_laws_FnPollDo at hM
  refine calls_gw Tryd.func4 Tryd.ntmps4 rfl [(0, .slice A0 x0.length c0)] ⟨rfl, trivial⟩ rfl ?_
  intro a hF
  have S := St.nil w
  refine wp_seq ?_
  refine wp_region_lit ?_
  refine op_val (v := .bool false) rfl rfl hF rfl (run_assign rfl rfl) ?_; clear hF; intro a hF
  refine wpList_nil ?_
  refine wp_seq ?_
  refine wp_seq ?_
  refine wp_region_lit ?_
  refine op_val (v := .slice A0 x0.length c0) rfl rfl hF rfl (run_move rfl (hF.ev rfl)) ?_; clear hF; intro a hF
  refine op_val (v := .int .i64 (x0.length : Int)) rfl rfl hF rfl (run_lenL rfl rfl Tryd.underlying22 (hF.ev rfl)) ?_; clear hF; intro a hF
  refine op_val (v := .bool (ltB 1048576 (x0.length : Int))) rfl rfl hF rfl (run_gtr (hF.ev rfl) rfl rfl) ?_; clear hF; intro a hF
  refine wpList_nil ?_
  cases hc101 : (ltB 1048576 (x0.length : Int))
  · replace hM := bif_f hc101 hM
    refine cond_f hF rfl hc101 ?_
    refine wp_skip ?_
    refine wp_seq ?_
    refine wp_region_lit ?_
    refine op_val (v := .slice A0 x0.length c0) rfl rfl hF rfl (run_move rfl (hF.ev rfl)) ?_; clear hF; intro a hF
    obtain ⟨p102, h102, hM⟩ := bind_ex hM
    refine op_call rfl rfl hF rfl (run_call (vs := [.slice A0 x0.length c0]) rfl rfl co13 ⟨(hF.ev rfl), trivial⟩) (c_spec_DrawPollDo (x0 := x0) ⟨(S.rc0 h0.rc), rfl⟩ h102) ?_
    rintro e u ⟨B103, n104, d105, B106, n107, d108, rfl, rfl, rfl, T⟩
    refine ⟨_, rfl, ?_⟩
    clear hF; intro a hF
    replace S := S.call2 T; clear T
    refine op_val (v := .tuple #[.agg #[.int .i64 p102.1, .slice B103 p102.2.1.length d105, .int .i64 p102.2.2.1, .slice B106 p102.2.2.2.1.length d108, .int .i64 p102.2.2.2.2.1, .int .i64 p102.2.2.2.2.2.1, .int .i64 p102.2.2.2.2.2.2.1, .int .i64 p102.2.2.2.2.2.2.2.1], .agg #[.int .i64 p102.2.2.2.2.2.2.2.2.1, .int .i64 p102.2.2.2.2.2.2.2.2.2]]) rfl rfl hF rfl (run_move rfl (hF.ev rfl)) ?_; clear hF; intro a hF
    refine op_val (v := .agg #[.int .i64 p102.1, .slice B103 p102.2.1.length d105, .int .i64 p102.2.2.1, .slice B106 p102.2.2.2.1.length d108, .int .i64 p102.2.2.2.2.1, .int .i64 p102.2.2.2.2.2.1, .int .i64 p102.2.2.2.2.2.2.1, .int .i64 p102.2.2.2.2.2.2.2.1]) rfl rfl hF rfl (run_extract rfl (hF.ev rfl) rfl) ?_; clear hF; intro a hF
    refine op_val (v := .agg #[.int .i64 p102.2.2.2.2.2.2.2.2.1, .int .i64 p102.2.2.2.2.2.2.2.2.2]) rfl rfl hF rfl (run_extract rfl (hF.ev rfl) rfl) ?_; clear hF; intro a hF
    refine op_new (cs := #[.int .i64 0, .slice none 0 0, .int .i64 0, .slice none 0 0, .int .i64 0, .int .i64 0, .int .i64 0, .int .i64 0]) rfl rfl hF rfl S (run_allocZ rfl zr25) ?_; clear hF S; intro a g109 u hF S
    refine op_new (cs := #[.int .i64 0, .int .i64 0]) rfl rfl hF rfl S (run_allocZ rfl zr31) ?_; clear hF S; intro a g110 u hF S
    refine op_do rfl rfl (run_store (cs' := #[.int .i64 p102.1, .slice B103 p102.2.1.length d105, .int .i64 p102.2.2.1, .slice B106 p102.2.2.2.1.length d108, .int .i64 p102.2.2.2.2.1, .int .i64 p102.2.2.2.2.2.1, .int .i64 p102.2.2.2.2.2.2.1, .int .i64 p102.2.2.2.2.2.2.2.1]) rfl sz25 (hF.ev rfl) (hF.ev rfl) rfl rfl rfl (S.free 1 rfl) rfl rfl) ?_; replace S := S.put 1 rfl (#[.int .i64 p102.1, .slice B103 p102.2.1.length d105, .int .i64 p102.2.2.1, .slice B106 p102.2.2.2.1.length d108, .int .i64 p102.2.2.2.2.1, .int .i64 p102.2.2.2.2.2.1, .int .i64 p102.2.2.2.2.2.2.1, .int .i64 p102.2.2.2.2.2.2.2.1])
    generalize World.setRow _ _ _ = u at S ⊢
    refine op_do rfl rfl (run_store (cs' := #[.int .i64 p102.2.2.2.2.2.2.2.2.1, .int .i64 p102.2.2.2.2.2.2.2.2.2]) rfl sz31 (hF.ev rfl) (hF.ev rfl) rfl rfl rfl (S.free 0 rfl) rfl rfl) ?_; replace S := S.put 0 rfl (#[.int .i64 p102.2.2.2.2.2.2.2.2.1, .int .i64 p102.2.2.2.2.2.2.2.2.2])
    generalize World.setRow _ _ _ = u at S ⊢
    refine wpList_nil ?_
    refine wp_seq ?_
    refine wp_region_lit ?_
    refine op_val (v := .agg #[.int .i64 p102.1, .slice B103 p102.2.1.length d105, .int .i64 p102.2.2.1, .slice B106 p102.2.2.2.1.length d108, .int .i64 p102.2.2.2.2.1, .int .i64 p102.2.2.2.2.2.1, .int .i64 p102.2.2.2.2.2.2.1, .int .i64 p102.2.2.2.2.2.2.2.1]) rfl rfl hF rfl (run_loadN rfl ag25 (hF.ev rfl) rfl ((S.free 1 rfl).cells 0 #[.int .i64 p102.1, .slice B103 p102.2.1.length d105, .int .i64 p102.2.2.1, .slice B106 p102.2.2.2.1.length d108, .int .i64 p102.2.2.2.2.1, .int .i64 p102.2.2.2.2.2.1, .int .i64 p102.2.2.2.2.2.2.1, .int .i64 p102.2.2.2.2.2.2.2.1] rfl)) ?_; clear hF; intro a hF
    refine op_val (v := .agg #[.int .i64 p102.2.2.2.2.2.2.2.2.1, .int .i64 p102.2.2.2.2.2.2.2.2.2]) rfl rfl hF rfl (run_loadN rfl ag31 (hF.ev rfl) rfl ((S.free 0 rfl).cells 0 #[.int .i64 p102.2.2.2.2.2.2.2.2.1, .int .i64 p102.2.2.2.2.2.2.2.2.2] rfl)) ?_; clear hF; intro a hF
    obtain ⟨p111, h111, hM⟩ := bind_ex hM
    refine op_call rfl rfl hF rfl (run_call (vs := [.agg #[.int .i64 p102.1, .slice B103 p102.2.1.length d105, .int .i64 p102.2.2.1, .slice B106 p102.2.2.2.1.length d108, .int .i64 p102.2.2.2.2.1, .int .i64 p102.2.2.2.2.2.1, .int .i64 p102.2.2.2.2.2.2.1, .int .i64 p102.2.2.2.2.2.2.2.1], .agg #[.int .i64 p102.2.2.2.2.2.2.2.2.1, .int .i64 p102.2.2.2.2.2.2.2.2.2]]) rfl rfl co10 ⟨(hF.ev rfl), (hF.ev rfl), trivial⟩) (c_impl_PollDo (x0 := p102.1) (x1 := p102.2.1) (x2 := p102.2.2.1) (x3 := p102.2.2.2.1) (x4 := p102.2.2.2.2.1) (x5 := p102.2.2.2.2.2.1) (x6 := p102.2.2.2.2.2.2.1) (x7 := p102.2.2.2.2.2.2.2.1) (x8 := p102.2.2.2.2.2.2.2.2.1) (x9 := p102.2.2.2.2.2.2.2.2.2) ⟨(S.rc 2 rfl), rfl⟩ ⟨(S.rc 3 rfl), rfl⟩ h111) ?_
    rintro e u ⟨B112, n113, d114, B115, n116, d117, rfl, rfl, rfl, T⟩
    refine ⟨_, rfl, ?_⟩
    clear hF; intro a hF
    replace S := S.call2 T; clear T
    refine op_val (v := .tuple #[.agg #[.int .i64 p111.1, .slice B112 p111.2.1.length d114, .int .i64 p111.2.2.1, .slice B115 p111.2.2.2.1.length d117, .int .i64 p111.2.2.2.2.1, .int .i64 p111.2.2.2.2.2.1, .int .i64 p111.2.2.2.2.2.2.1, .int .i64 p111.2.2.2.2.2.2.2.1], .bool p111.2.2.2.2.2.2.2.2]) rfl rfl hF rfl (run_move rfl (hF.ev rfl)) ?_; clear hF; intro a hF
    refine op_val (v := .agg #[.int .i64 p111.1, .slice B112 p111.2.1.length d114, .int .i64 p111.2.2.1, .slice B115 p111.2.2.2.1.length d117, .int .i64 p111.2.2.2.2.1, .int .i64 p111.2.2.2.2.2.1, .int .i64 p111.2.2.2.2.2.2.1, .int .i64 p111.2.2.2.2.2.2.2.1]) rfl rfl hF rfl (run_extract rfl (hF.ev rfl) rfl) ?_; clear hF; intro a hF
    refine op_val (v := .bool p111.2.2.2.2.2.2.2.2) rfl rfl hF rfl (run_extract rfl (hF.ev rfl) rfl) ?_; clear hF; intro a hF
    refine op_new (cs := #[.int .i64 0, .slice none 0 0, .int .i64 0, .slice none 0 0, .int .i64 0, .int .i64 0, .int .i64 0, .int .i64 0]) rfl rfl hF rfl S (run_allocZ rfl zr25) ?_; clear hF S; intro a g118 u hF S
    refine op_do rfl rfl (run_store (cs' := #[.int .i64 p111.1, .slice B112 p111.2.1.length d114, .int .i64 p111.2.2.1, .slice B115 p111.2.2.2.1.length d117, .int .i64 p111.2.2.2.2.1, .int .i64 p111.2.2.2.2.2.1, .int .i64 p111.2.2.2.2.2.2.1, .int .i64 p111.2.2.2.2.2.2.2.1]) rfl sz25 (hF.ev rfl) (hF.ev rfl) rfl rfl rfl (S.free 0 rfl) rfl rfl) ?_; replace S := S.put 0 rfl (#[.int .i64 p111.1, .slice B112 p111.2.1.length d114, .int .i64 p111.2.2.1, .slice B115 p111.2.2.2.1.length d117, .int .i64 p111.2.2.2.2.1, .int .i64 p111.2.2.2.2.2.1, .int .i64 p111.2.2.2.2.2.2.1, .int .i64 p111.2.2.2.2.2.2.2.1])
    generalize World.setRow _ _ _ = u at S ⊢
    refine op_val (v := .bool p111.2.2.2.2.2.2.2.2) rfl rfl hF rfl (run_assign rfl (hF.ev rfl)) ?_; clear hF; intro a hF
    refine wpList_nil ?_
    refine wp_seq ?_
    refine wp_region_lit ?_
    refine op_val (v := .agg #[.int .i64 p102.1, .slice B103 p102.2.1.length d105, .int .i64 p102.2.2.1, .slice B106 p102.2.2.2.1.length d108, .int .i64 p102.2.2.2.2.1, .int .i64 p102.2.2.2.2.2.1, .int .i64 p102.2.2.2.2.2.2.1, .int .i64 p102.2.2.2.2.2.2.2.1]) rfl rfl hF rfl (run_loadN rfl ag25 (hF.ev rfl) rfl ((S.free 4 rfl).cells 0 #[.int .i64 p102.1, .slice B103 p102.2.1.length d105, .int .i64 p102.2.2.1, .slice B106 p102.2.2.2.1.length d108, .int .i64 p102.2.2.2.2.1, .int .i64 p102.2.2.2.2.2.1, .int .i64 p102.2.2.2.2.2.2.1, .int .i64 p102.2.2.2.2.2.2.2.1] rfl)) ?_; clear hF; intro a hF
    refine op_val (v := .agg #[.int .i64 p102.2.2.2.2.2.2.2.2.1, .int .i64 p102.2.2.2.2.2.2.2.2.2]) rfl rfl hF rfl (run_loadN rfl ag31 (hF.ev rfl) rfl ((S.free 3 rfl).cells 0 #[.int .i64 p102.2.2.2.2.2.2.2.2.1, .int .i64 p102.2.2.2.2.2.2.2.2.2] rfl)) ?_; clear hF; intro a hF
    obtain ⟨p119, h119, hM⟩ := bind_ex hM
    refine op_call rfl rfl hF rfl (run_call (vs := [.agg #[.int .i64 p102.1, .slice B103 p102.2.1.length d105, .int .i64 p102.2.2.1, .slice B106 p102.2.2.2.1.length d108, .int .i64 p102.2.2.2.2.1, .int .i64 p102.2.2.2.2.2.1, .int .i64 p102.2.2.2.2.2.2.1, .int .i64 p102.2.2.2.2.2.2.2.1], .agg #[.int .i64 p102.2.2.2.2.2.2.2.2.1, .int .i64 p102.2.2.2.2.2.2.2.2.2]]) rfl rfl co14 ⟨(hF.ev rfl), (hF.ev rfl), trivial⟩) (c_spec_PollDo (x0 := p102.1) (x1 := p102.2.1) (x2 := p102.2.2.1) (x3 := p102.2.2.2.1) (x4 := p102.2.2.2.2.1) (x5 := p102.2.2.2.2.2.1) (x6 := p102.2.2.2.2.2.2.1) (x7 := p102.2.2.2.2.2.2.2.1) (x8 := p102.2.2.2.2.2.2.2.2.1) (x9 := p102.2.2.2.2.2.2.2.2.2) ⟨(S.rc 5 rfl), rfl⟩ ⟨(S.rc 6 rfl), rfl⟩ h119) ?_
    rintro e u ⟨B120, n121, d122, B123, n124, d125, rfl, rfl, rfl, T⟩
    refine ⟨_, rfl, ?_⟩
    clear hF; intro a hF
    replace S := S.call2 T; clear T
    refine op_val (v := .tuple #[.agg #[.int .i64 p119.1, .slice B120 p119.2.1.length d122, .int .i64 p119.2.2.1, .slice B123 p119.2.2.2.1.length d125, .int .i64 p119.2.2.2.2.1, .int .i64 p119.2.2.2.2.2.1, .int .i64 p119.2.2.2.2.2.2.1, .int .i64 p119.2.2.2.2.2.2.2.1], .bool p119.2.2.2.2.2.2.2.2]) rfl rfl hF rfl (run_move rfl (hF.ev rfl)) ?_; clear hF; intro a hF
    refine op_val (v := .agg #[.int .i64 p119.1, .slice B120 p119.2.1.length d122, .int .i64 p119.2.2.1, .slice B123 p119.2.2.2.1.length d125, .int .i64 p119.2.2.2.2.1, .int .i64 p119.2.2.2.2.2.1, .int .i64 p119.2.2.2.2.2.2.1, .int .i64 p119.2.2.2.2.2.2.2.1]) rfl rfl hF rfl (run_extract rfl (hF.ev rfl) rfl) ?_; clear hF; intro a hF
    refine op_val (v := .bool p119.2.2.2.2.2.2.2.2) rfl rfl hF rfl (run_extract rfl (hF.ev rfl) rfl) ?_; clear hF; intro a hF
    refine op_new (cs := #[.int .i64 0, .slice none 0 0, .int .i64 0, .slice none 0 0, .int .i64 0, .int .i64 0, .int .i64 0, .int .i64 0]) rfl rfl hF rfl S (run_allocZ rfl zr25) ?_; clear hF S; intro a g126 u hF S
    refine op_do rfl rfl (run_store (cs' := #[.int .i64 p119.1, .slice B120 p119.2.1.length d122, .int .i64 p119.2.2.1, .slice B123 p119.2.2.2.1.length d125, .int .i64 p119.2.2.2.2.1, .int .i64 p119.2.2.2.2.2.1, .int .i64 p119.2.2.2.2.2.2.1, .int .i64 p119.2.2.2.2.2.2.2.1]) rfl sz25 (hF.ev rfl) (hF.ev rfl) rfl rfl rfl (S.free 0 rfl) rfl rfl) ?_; replace S := S.put 0 rfl (#[.int .i64 p119.1, .slice B120 p119.2.1.length d122, .int .i64 p119.2.2.1, .slice B123 p119.2.2.2.1.length d125, .int .i64 p119.2.2.2.2.1, .int .i64 p119.2.2.2.2.2.1, .int .i64 p119.2.2.2.2.2.2.1, .int .i64 p119.2.2.2.2.2.2.2.1])
    generalize World.setRow _ _ _ = u at S ⊢
    refine op_val (v := .bool p119.2.2.2.2.2.2.2.2) rfl rfl hF rfl (run_assign rfl (hF.ev rfl)) ?_; clear hF; intro a hF
    refine wpList_nil ?_
    refine wp_seq ?_
    refine wp_seq ?_
    refine wp_region_lit ?_
    refine op_val (v := .agg #[.int .i64 p111.1, .slice B112 p111.2.1.length d114, .int .i64 p111.2.2.1, .slice B115 p111.2.2.2.1.length d117, .int .i64 p111.2.2.2.2.1, .int .i64 p111.2.2.2.2.2.1, .int .i64 p111.2.2.2.2.2.2.1, .int .i64 p111.2.2.2.2.2.2.2.1]) rfl rfl hF rfl (run_loadN rfl ag25 (hF.ev rfl) rfl ((S.free 3 rfl).cells 0 #[.int .i64 p111.1, .slice B112 p111.2.1.length d114, .int .i64 p111.2.2.1, .slice B115 p111.2.2.2.1.length d117, .int .i64 p111.2.2.2.2.1, .int .i64 p111.2.2.2.2.2.1, .int .i64 p111.2.2.2.2.2.2.1, .int .i64 p111.2.2.2.2.2.2.2.1] rfl)) ?_; clear hF; intro a hF
    refine op_val (v := .agg #[.int .i64 p119.1, .slice B120 p119.2.1.length d122, .int .i64 p119.2.2.1, .slice B123 p119.2.2.2.1.length d125, .int .i64 p119.2.2.2.2.1, .int .i64 p119.2.2.2.2.2.1, .int .i64 p119.2.2.2.2.2.2.1, .int .i64 p119.2.2.2.2.2.2.2.1]) rfl rfl hF rfl (run_loadN rfl ag25 (hF.ev rfl) rfl ((S.free 0 rfl).cells 0 #[.int .i64 p119.1, .slice B120 p119.2.1.length d122, .int .i64 p119.2.2.1, .slice B123 p119.2.2.2.1.length d125, .int .i64 p119.2.2.2.2.1, .int .i64 p119.2.2.2.2.2.1, .int .i64 p119.2.2.2.2.2.2.1, .int .i64 p119.2.2.2.2.2.2.2.1] rfl)) ?_; clear hF; intro a hF
    obtain ⟨p127, h127, hM⟩ := bind_ex hM
    refine op_call rfl rfl hF rfl (run_call (vs := [.agg #[.int .i64 p111.1, .slice B112 p111.2.1.length d114, .int .i64 p111.2.2.1, .slice B115 p111.2.2.2.1.length d117, .int .i64 p111.2.2.2.2.1, .int .i64 p111.2.2.2.2.2.1, .int .i64 p111.2.2.2.2.2.2.1, .int .i64 p111.2.2.2.2.2.2.2.1], .agg #[.int .i64 p119.1, .slice B120 p119.2.1.length d122, .int .i64 p119.2.2.1, .slice B123 p119.2.2.2.1.length d125, .int .i64 p119.2.2.2.2.1, .int .i64 p119.2.2.2.2.2.1, .int .i64 p119.2.2.2.2.2.2.1, .int .i64 p119.2.2.2.2.2.2.2.1]]) rfl rfl co8 ⟨(hF.ev rfl), (hF.ev rfl), trivial⟩) (c_laws_samePoll (x0 := p111.1) (x1 := p111.2.1) (x2 := p111.2.2.1) (x3 := p111.2.2.2.1) (x4 := p111.2.2.2.2.1) (x5 := p111.2.2.2.2.2.1) (x6 := p111.2.2.2.2.2.2.1) (x7 := p111.2.2.2.2.2.2.2.1) (x8 := p119.1) (x9 := p119.2.1) (x10 := p119.2.2.1) (x11 := p119.2.2.2.1) (x12 := p119.2.2.2.2.1) (x13 := p119.2.2.2.2.2.1) (x14 := p119.2.2.2.2.2.2.1) (x15 := p119.2.2.2.2.2.2.2.1) ⟨(S.rc 4 rfl), rfl⟩ ⟨(S.rc 5 rfl), rfl⟩ ⟨(S.rc 1 rfl), rfl⟩ ⟨(S.rc 2 rfl), rfl⟩ h127) ?_
    rintro e u ⟨rfl, T⟩
    refine ⟨_, rfl, ?_⟩
    clear hF; intro a hF
    replace S := S.call0 T; clear T
    refine op_val (v := .bool (!p127)) rfl rfl hF rfl (run_not rfl (hF.ev rfl)) ?_; clear hF; intro a hF
    refine op_val (v := .bool (!p127)) rfl rfl hF rfl (run_move rfl (hF.ev rfl)) ?_; clear hF; intro a hF
    refine op_gv (v := .bool p111.2.2.2.2.2.2.2.2) rfl rfl hF rfl (yf (gw_yield hF rfl rfl rfl)) (fun hg => (run_move rfl (hF.ev rfl))) ?_; clear hF; intro a hF
    refine op_gv (v := .bool p119.2.2.2.2.2.2.2.2) rfl rfl hF rfl (yf (gw_yield hF rfl rfl rfl)) (fun hg => (run_move rfl (hF.ev rfl))) ?_; clear hF; intro a hF
    refine op_gv (v := .bool (p111.2.2.2.2.2.2.2.2 != p119.2.2.2.2.2.2.2.2)) rfl rfl hF rfl (yf (gw_yield hF rfl rfl rfl)) (fun hg => (run_neqB ((hF.ev rfl).trans (gv_t hg)) ((hF.ev rfl).trans (gv_t hg)) Tryd.underlying4 rfl)) ?_; clear hF; intro a hF
    refine op_val (v := .bool ((!p127) || (p111.2.2.2.2.2.2.2.2 != p119.2.2.2.2.2.2.2.2))) rfl rfl hF rfl (run_pick_or rfl (hF.ev rfl) rfl (fun hp => ((hF.ev rfl).trans (gv_t (not_t hp))))) ?_; clear hF; intro a hF
    refine wpList_nil ?_
    cases hc128 : ((!p127) || (p111.2.2.2.2.2.2.2.2 != p119.2.2.2.2.2.2.2.2))
    · replace hM := bif_f hc128 hM
      refine cond_f hF rfl hc128 ?_
      refine wp_skip ?_
      refine wp_seq ?_
      refine wp_seq ?_
      refine wp_region_lit ?_
      refine op_val (v := .bool p111.2.2.2.2.2.2.2.2) rfl rfl hF rfl (run_move rfl (hF.ev rfl)) ?_; clear hF; intro a hF
      refine op_val (v := .bool (!p111.2.2.2.2.2.2.2.2)) rfl rfl hF rfl (run_not rfl (hF.ev rfl)) ?_; clear hF; intro a hF
      refine wpList_nil ?_
      cases hc129 : (p111.2.2.2.2.2.2.2.2)
      · replace hM := bif_f hc129 hM
        refine cond_t hF rfl (not_t hc129) ?_
        refine wp_seq ?_
        refine wp_region_lit ?_
        refine op_val (v := .agg #[.int .i64 p111.1, .slice B112 p111.2.1.length d114, .int .i64 p111.2.2.1, .slice B115 p111.2.2.2.1.length d117, .int .i64 p111.2.2.2.2.1, .int .i64 p111.2.2.2.2.2.1, .int .i64 p111.2.2.2.2.2.2.1, .int .i64 p111.2.2.2.2.2.2.2.1]) rfl rfl hF rfl (run_loadN rfl ag25 (hF.ev rfl) rfl ((S.free 3 rfl).cells 0 #[.int .i64 p111.1, .slice B112 p111.2.1.length d114, .int .i64 p111.2.2.1, .slice B115 p111.2.2.2.1.length d117, .int .i64 p111.2.2.2.2.1, .int .i64 p111.2.2.2.2.2.1, .int .i64 p111.2.2.2.2.2.2.1, .int .i64 p111.2.2.2.2.2.2.2.1] rfl)) ?_; clear hF; intro a hF
        refine op_val (v := .agg #[.int .i64 p102.1, .slice B103 p102.2.1.length d105, .int .i64 p102.2.2.1, .slice B106 p102.2.2.2.1.length d108, .int .i64 p102.2.2.2.2.1, .int .i64 p102.2.2.2.2.2.1, .int .i64 p102.2.2.2.2.2.2.1, .int .i64 p102.2.2.2.2.2.2.2.1]) rfl rfl hF rfl (run_loadN rfl ag25 (hF.ev rfl) rfl ((S.free 7 rfl).cells 0 #[.int .i64 p102.1, .slice B103 p102.2.1.length d105, .int .i64 p102.2.2.1, .slice B106 p102.2.2.2.1.length d108, .int .i64 p102.2.2.2.2.1, .int .i64 p102.2.2.2.2.2.1, .int .i64 p102.2.2.2.2.2.2.1, .int .i64 p102.2.2.2.2.2.2.2.1] rfl)) ?_; clear hF; intro a hF
        obtain ⟨p130, h130, hM⟩ := bind_ex hM
        refine op_call rfl rfl hF rfl (run_call (vs := [.agg #[.int .i64 p111.1, .slice B112 p111.2.1.length d114, .int .i64 p111.2.2.1, .slice B115 p111.2.2.2.1.length d117, .int .i64 p111.2.2.2.2.1, .int .i64 p111.2.2.2.2.2.1, .int .i64 p111.2.2.2.2.2.2.1, .int .i64 p111.2.2.2.2.2.2.2.1], .agg #[.int .i64 p102.1, .slice B103 p102.2.1.length d105, .int .i64 p102.2.2.1, .slice B106 p102.2.2.2.1.length d108, .int .i64 p102.2.2.2.2.1, .int .i64 p102.2.2.2.2.2.1, .int .i64 p102.2.2.2.2.2.2.1, .int .i64 p102.2.2.2.2.2.2.2.1]]) rfl rfl co8 ⟨(hF.ev rfl), (hF.ev rfl), trivial⟩) (c_laws_samePoll (x0 := p111.1) (x1 := p111.2.1) (x2 := p111.2.2.1) (x3 := p111.2.2.2.1) (x4 := p111.2.2.2.2.1) (x5 := p111.2.2.2.2.2.1) (x6 := p111.2.2.2.2.2.2.1) (x7 := p111.2.2.2.2.2.2.2.1) (x8 := p102.1) (x9 := p102.2.1) (x10 := p102.2.2.1) (x11 := p102.2.2.2.1) (x12 := p102.2.2.2.2.1) (x13 := p102.2.2.2.2.2.1) (x14 := p102.2.2.2.2.2.2.1) (x15 := p102.2.2.2.2.2.2.2.1) ⟨(S.rc 4 rfl), rfl⟩ ⟨(S.rc 5 rfl), rfl⟩ ⟨(S.rc 8 rfl), rfl⟩ ⟨(S.rc 9 rfl), rfl⟩ h130) ?_
        rintro e u ⟨rfl, T⟩
        refine ⟨_, rfl, ?_⟩
        clear hF; intro a hF
        replace S := S.call0 T; clear T
        refine op_val (v := .bool p130) rfl rfl hF rfl (run_move rfl (hF.ev rfl)) ?_; clear hF; intro a hF
        refine op_gv (v := .agg #[.int .i64 p102.1, .slice B103 p102.2.1.length d105, .int .i64 p102.2.2.1, .slice B106 p102.2.2.2.1.length d108, .int .i64 p102.2.2.2.2.1, .int .i64 p102.2.2.2.2.2.1, .int .i64 p102.2.2.2.2.2.2.1, .int .i64 p102.2.2.2.2.2.2.2.1]) rfl rfl hF rfl (yf (gw_yield hF rfl rfl rfl)) (fun hg => (run_loadN rfl ag25 (hF.ev rfl) rfl ((S.free 7 rfl).cells 0 #[.int .i64 p102.1, .slice B103 p102.2.1.length d105, .int .i64 p102.2.2.1, .slice B106 p102.2.2.2.1.length d108, .int .i64 p102.2.2.2.2.1, .int .i64 p102.2.2.2.2.2.1, .int .i64 p102.2.2.2.2.2.2.1, .int .i64 p102.2.2.2.2.2.2.2.1] rfl))) ?_; clear hF; intro a hF
        obtain ⟨p131, h131, hM⟩ := bind_ex hM
        refine op_gcall (v := .bool p131) rfl rfl hF rfl S (yf (gw_yield hF rfl rfl rfl)) (fun hg => (run_call (vs := [.agg #[.int .i64 p102.1, .slice B103 p102.2.1.length d105, .int .i64 p102.2.2.1, .slice B106 p102.2.2.2.1.length d108, .int .i64 p102.2.2.2.2.1, .int .i64 p102.2.2.2.2.2.1, .int .i64 p102.2.2.2.2.2.2.1, .int .i64 p102.2.2.2.2.2.2.2.1]]) rfl rfl co15 ⟨((hF.ev rfl).trans (gv_t hg)), trivial⟩)) (fun hg => c_impl_PollValid (x0 := p102.1) (x1 := p102.2.1) (x2 := p102.2.2.1) (x3 := p102.2.2.2.1) (x4 := p102.2.2.2.2.1) (x5 := p102.2.2.2.2.2.1) (x6 := p102.2.2.2.2.2.2.1) (x7 := p102.2.2.2.2.2.2.2.1) ⟨(S.rc 8 rfl), rfl⟩ ⟨(S.rc 9 rfl), rfl⟩ (gb_t h131 hg)) ?_; clear hF S; intro a u hF S
        refine op_gv (v := .bool (!p131)) rfl rfl hF rfl (yf (gw_yield hF rfl rfl rfl)) (fun hg => (run_not rfl ((hF.ev rfl).trans (gv_t hg)))) ?_; clear hF; intro a hF
        refine op_val (v := .bool (p130 || (!p131))) rfl rfl hF rfl (run_pick_or rfl (hF.ev rfl) rfl (fun hp => ((hF.ev rfl).trans (gv_t (not_t hp))))) ?_; clear hF; intro a hF
        refine op_val (v := .bool (p130 || (!p131))) rfl rfl hF rfl (run_move rfl (hF.ev rfl)) ?_; clear hF; intro a hF
        obtain ⟨p132, h132, hM⟩ := bind_ex hM
        refine op_gcall (v := .bool p132) rfl rfl hF rfl S (yt (gw_yield hF rfl rfl rfl)) (fun hg => (run_call (vs := []) rfl rfl co12 trivial)) (fun hg => c_laws_alive   (gb_t h132 hg)) ?_; clear hF S; intro a u hF S
        refine op_val (v := .bool ((p130 || (!p131)) && p132)) rfl rfl hF rfl (run_pick_and rfl (hF.ev rfl) (fun hp => ((hF.ev rfl).trans (gv_t hp))) rfl) ?_; clear hF; intro a hF
        refine op_val (v := .bool ((p130 || (!p131)) && p132)) rfl rfl hF rfl (run_assign rfl (hF.ev rfl)) ?_; clear hF; intro a hF
        refine wpList_nil ?_
        refine wp_ret ?_
        repeat with_reducible (first | refine then_ret ?_ | refine in_ret ?_ | refine in_nrm ?_)
        refine ret1_gw (.inl rfl) hF rfl (res_tmp (hF.ev rfl)) ?_
        obtain rfl := Option.some.inj hM
        exact ⟨rfl, S.sel [] rfl rfl⟩
      · replace hM := bif_t hc129 hM
        refine cond_f hF rfl (not_f hc129) ?_
        refine wp_skip ?_
        refine wp_seq ?_
        refine wp_region_lit ?_
        refine op_val (v := .agg #[.int .i64 p111.1, .slice B112 p111.2.1.length d114, .int .i64 p111.2.2.1, .slice B115 p111.2.2.2.1.length d117, .int .i64 p111.2.2.2.2.1, .int .i64 p111.2.2.2.2.2.1, .int .i64 p111.2.2.2.2.2.2.1, .int .i64 p111.2.2.2.2.2.2.2.1]) rfl rfl hF rfl (run_loadN rfl ag25 (hF.ev rfl) rfl ((S.free 3 rfl).cells 0 #[.int .i64 p111.1, .slice B112 p111.2.1.length d114, .int .i64 p111.2.2.1, .slice B115 p111.2.2.2.1.length d117, .int .i64 p111.2.2.2.2.1, .int .i64 p111.2.2.2.2.2.1, .int .i64 p111.2.2.2.2.2.2.1, .int .i64 p111.2.2.2.2.2.2.2.1] rfl)) ?_; clear hF; intro a hF
        refine op_val (v := .agg #[.int .i64 4, .int .i64 0]) rfl rfl hF rfl (run_build (vs := [(0, .int .i64 4)]) rfl ⟨⟨rfl, rfl⟩, trivial⟩ (bd31_0 rfl)) ?_; clear hF; intro a hF
        obtain ⟨p133, h133, hM⟩ := bind_ex hM
        refine op_call rfl rfl hF rfl (run_call (vs := [.agg #[.int .i64 p111.1, .slice B112 p111.2.1.length d114, .int .i64 p111.2.2.1, .slice B115 p111.2.2.2.1.length d117, .int .i64 p111.2.2.2.2.1, .int .i64 p111.2.2.2.2.2.1, .int .i64 p111.2.2.2.2.2.2.1, .int .i64 p111.2.2.2.2.2.2.2.1], .agg #[.int .i64 4, .int .i64 0]]) rfl rfl co10 ⟨(hF.ev rfl), (hF.ev rfl), trivial⟩) (c_impl_PollDo (x0 := p111.1) (x1 := p111.2.1) (x2 := p111.2.2.1) (x3 := p111.2.2.2.1) (x4 := p111.2.2.2.2.1) (x5 := p111.2.2.2.2.2.1) (x6 := p111.2.2.2.2.2.2.1) (x7 := p111.2.2.2.2.2.2.2.1) (x8 := 4) (x9 := 0) ⟨(S.rc 4 rfl), rfl⟩ ⟨(S.rc 5 rfl), rfl⟩ h133) ?_
        rintro e u ⟨B134, n135, d136, B137, n138, d139, rfl, rfl, rfl, T⟩
        refine ⟨_, rfl, ?_⟩
        clear hF; intro a hF
        replace S := S.call2 T; clear T
        refine op_val (v := .tuple #[.agg #[.int .i64 p133.1, .slice B134 p133.2.1.length d136, .int .i64 p133.2.2.1, .slice B137 p133.2.2.2.1.length d139, .int .i64 p133.2.2.2.2.1, .int .i64 p133.2.2.2.2.2.1, .int .i64 p133.2.2.2.2.2.2.1, .int .i64 p133.2.2.2.2.2.2.2.1], .bool p133.2.2.2.2.2.2.2.2]) rfl rfl hF rfl (run_move rfl (hF.ev rfl)) ?_; clear hF; intro a hF
        refine op_val (v := .agg #[.int .i64 p133.1, .slice B134 p133.2.1.length d136, .int .i64 p133.2.2.1, .slice B137 p133.2.2.2.1.length d139, .int .i64 p133.2.2.2.2.1, .int .i64 p133.2.2.2.2.2.1, .int .i64 p133.2.2.2.2.2.2.1, .int .i64 p133.2.2.2.2.2.2.2.1]) rfl rfl hF rfl (run_extract rfl (hF.ev rfl) rfl) ?_; clear hF; intro a hF
        refine op_val (v := .bool p133.2.2.2.2.2.2.2.2) rfl rfl hF rfl (run_extract rfl (hF.ev rfl) rfl) ?_; clear hF; intro a hF
        refine op_new (cs := #[.int .i64 0, .slice none 0 0, .int .i64 0, .slice none 0 0, .int .i64 0, .int .i64 0, .int .i64 0, .int .i64 0]) rfl rfl hF rfl S (run_allocZ rfl zr25) ?_; clear hF S; intro a g140 u hF S
        refine op_do rfl rfl (run_store (cs' := #[.int .i64 p133.1, .slice B134 p133.2.1.length d136, .int .i64 p133.2.2.1, .slice B137 p133.2.2.2.1.length d139, .int .i64 p133.2.2.2.2.1, .int .i64 p133.2.2.2.2.2.1, .int .i64 p133.2.2.2.2.2.2.1, .int .i64 p133.2.2.2.2.2.2.2.1]) rfl sz25 (hF.ev rfl) (hF.ev rfl) rfl rfl rfl (S.free 0 rfl) rfl rfl) ?_; replace S := S.put 0 rfl (#[.int .i64 p133.1, .slice B134 p133.2.1.length d136, .int .i64 p133.2.2.1, .slice B137 p133.2.2.2.1.length d139, .int .i64 p133.2.2.2.2.1, .int .i64 p133.2.2.2.2.2.1, .int .i64 p133.2.2.2.2.2.2.1, .int .i64 p133.2.2.2.2.2.2.2.1])
        generalize World.setRow _ _ _ = u at S ⊢
        refine op_val (v := .bool p133.2.2.2.2.2.2.2.2) rfl rfl hF rfl (run_assign rfl (hF.ev rfl)) ?_; clear hF; intro a hF
        refine wpList_nil ?_
        refine wp_seq ?_
        refine wp_region_lit ?_
        refine op_val (v := .agg #[.int .i64 p111.1, .slice B112 p111.2.1.length d114, .int .i64 p111.2.2.1, .slice B115 p111.2.2.2.1.length d117, .int .i64 p111.2.2.2.2.1, .int .i64 p111.2.2.2.2.2.1, .int .i64 p111.2.2.2.2.2.2.1, .int .i64 p111.2.2.2.2.2.2.2.1]) rfl rfl hF rfl (run_loadN rfl ag25 (hF.ev rfl) rfl ((S.free 6 rfl).cells 0 #[.int .i64 p111.1, .slice B112 p111.2.1.length d114, .int .i64 p111.2.2.1, .slice B115 p111.2.2.2.1.length d117, .int .i64 p111.2.2.2.2.1, .int .i64 p111.2.2.2.2.2.1, .int .i64 p111.2.2.2.2.2.2.1, .int .i64 p111.2.2.2.2.2.2.2.1] rfl)) ?_; clear hF; intro a hF
        refine op_val (v := .agg #[.int .i64 5, .int .i64 0]) rfl rfl hF rfl (run_build (vs := [(0, .int .i64 5)]) rfl ⟨⟨rfl, rfl⟩, trivial⟩ (bd31_0 rfl)) ?_; clear hF; intro a hF
        obtain ⟨p141, h141, hM⟩ := bind_ex hM
        refine op_call rfl rfl hF rfl (run_call (vs := [.agg #[.int .i64 p111.1, .slice B112 p111.2.1.length d114, .int .i64 p111.2.2.1, .slice B115 p111.2.2.2.1.length d117, .int .i64 p111.2.2.2.2.1, .int .i64 p111.2.2.2.2.2.1, .int .i64 p111.2.2.2.2.2.2.1, .int .i64 p111.2.2.2.2.2.2.2.1], .agg #[.int .i64 5, .int .i64 0]]) rfl rfl co10 ⟨(hF.ev rfl), (hF.ev rfl), trivial⟩) (c_impl_PollDo (x0 := p111.1) (x1 := p111.2.1) (x2 := p111.2.2.1) (x3 := p111.2.2.2.1) (x4 := p111.2.2.2.2.1) (x5 := p111.2.2.2.2.2.1) (x6 := p111.2.2.2.2.2.2.1) (x7 := p111.2.2.2.2.2.2.2.1) (x8 := 5) (x9 := 0) ⟨(S.rc 7 rfl), rfl⟩ ⟨(S.rc 8 rfl), rfl⟩ h141) ?_
        rintro e u ⟨B142, n143, d144, B145, n146, d147, rfl, rfl, rfl, T⟩
        refine ⟨_, rfl, ?_⟩
        clear hF; intro a hF
        replace S := S.call2 T; clear T
        refine op_val (v := .tuple #[.agg #[.int .i64 p141.1, .slice B142 p141.2.1.length d144, .int .i64 p141.2.2.1, .slice B145 p141.2.2.2.1.length d147, .int .i64 p141.2.2.2.2.1, .int .i64 p141.2.2.2.2.2.1, .int .i64 p141.2.2.2.2.2.2.1, .int .i64 p141.2.2.2.2.2.2.2.1], .bool p141.2.2.2.2.2.2.2.2]) rfl rfl hF rfl (run_move rfl (hF.ev rfl)) ?_; clear hF; intro a hF
        refine op_val (v := .agg #[.int .i64 p141.1, .slice B142 p141.2.1.length d144, .int .i64 p141.2.2.1, .slice B145 p141.2.2.2.1.length d147, .int .i64 p141.2.2.2.2.1, .int .i64 p141.2.2.2.2.2.1, .int .i64 p141.2.2.2.2.2.2.1, .int .i64 p141.2.2.2.2.2.2.2.1]) rfl rfl hF rfl (run_extract rfl (hF.ev rfl) rfl) ?_; clear hF; intro a hF
        refine op_val (v := .bool p141.2.2.2.2.2.2.2.2) rfl rfl hF rfl (run_extract rfl (hF.ev rfl) rfl) ?_; clear hF; intro a hF
        refine op_new (cs := #[.int .i64 0, .slice none 0 0, .int .i64 0, .slice none 0 0, .int .i64 0, .int .i64 0, .int .i64 0, .int .i64 0]) rfl rfl hF rfl S (run_allocZ rfl zr25) ?_; clear hF S; intro a g148 u hF S
        refine op_do rfl rfl (run_store (cs' := #[.int .i64 p141.1, .slice B142 p141.2.1.length d144, .int .i64 p141.2.2.1, .slice B145 p141.2.2.2.1.length d147, .int .i64 p141.2.2.2.2.1, .int .i64 p141.2.2.2.2.2.1, .int .i64 p141.2.2.2.2.2.2.1, .int .i64 p141.2.2.2.2.2.2.2.1]) rfl sz25 (hF.ev rfl) (hF.ev rfl) rfl rfl rfl (S.free 0 rfl) rfl rfl) ?_; replace S := S.put 0 rfl (#[.int .i64 p141.1, .slice B142 p141.2.1.length d144, .int .i64 p141.2.2.1, .slice B145 p141.2.2.2.1.length d147, .int .i64 p141.2.2.2.2.1, .int .i64 p141.2.2.2.2.2.1, .int .i64 p141.2.2.2.2.2.2.1, .int .i64 p141.2.2.2.2.2.2.2.1])
        generalize World.setRow _ _ _ = u at S ⊢
        refine op_val (v := .bool p141.2.2.2.2.2.2.2.2) rfl rfl hF rfl (run_assign rfl (hF.ev rfl)) ?_; clear hF; intro a hF
        refine wpList_nil ?_
        refine wp_seq ?_
        refine wp_region_lit ?_
        refine op_val (v := .agg #[.int .i64 p111.1, .slice B112 p111.2.1.length d114, .int .i64 p111.2.2.1, .slice B115 p111.2.2.2.1.length d117, .int .i64 p111.2.2.2.2.1, .int .i64 p111.2.2.2.2.2.1, .int .i64 p111.2.2.2.2.2.2.1, .int .i64 p111.2.2.2.2.2.2.2.1]) rfl rfl hF rfl (run_loadN rfl ag25 (hF.ev rfl) rfl ((S.free 9 rfl).cells 0 #[.int .i64 p111.1, .slice B112 p111.2.1.length d114, .int .i64 p111.2.2.1, .slice B115 p111.2.2.2.1.length d117, .int .i64 p111.2.2.2.2.1, .int .i64 p111.2.2.2.2.2.1, .int .i64 p111.2.2.2.2.2.2.1, .int .i64 p111.2.2.2.2.2.2.2.1] rfl)) ?_; clear hF; intro a hF
        obtain ⟨p149, h149, hM⟩ := bind_ex hM
        refine op_call rfl rfl hF rfl (run_call (vs := [.agg #[.int .i64 p111.1, .slice B112 p111.2.1.length d114, .int .i64 p111.2.2.1, .slice B115 p111.2.2.2.1.length d117, .int .i64 p111.2.2.2.2.1, .int .i64 p111.2.2.2.2.2.1, .int .i64 p111.2.2.2.2.2.2.1, .int .i64 p111.2.2.2.2.2.2.2.1]]) rfl rfl co15 ⟨(hF.ev rfl), trivial⟩) (c_impl_PollValid (x0 := p111.1) (x1 := p111.2.1) (x2 := p111.2.2.1) (x3 := p111.2.2.2.1) (x4 := p111.2.2.2.2.1) (x5 := p111.2.2.2.2.2.1) (x6 := p111.2.2.2.2.2.2.1) (x7 := p111.2.2.2.2.2.2.2.1) ⟨(S.rc 10 rfl), rfl⟩ ⟨(S.rc 11 rfl), rfl⟩ h149) ?_
        rintro e u ⟨rfl, T⟩
        refine ⟨_, rfl, ?_⟩
        clear hF; intro a hF
        replace S := S.call0 T; clear T
        refine op_val (v := .bool p149) rfl rfl hF rfl (run_move rfl (hF.ev rfl)) ?_; clear hF; intro a hF
        refine op_gv (v := .bool p133.2.2.2.2.2.2.2.2) rfl rfl hF rfl (yt (gw_yield hF rfl rfl rfl)) (fun hg => (run_move rfl (hF.ev rfl))) ?_; clear hF; intro a hF
        refine op_gv (v := .pointer (some ⟨g118, 5, none⟩)) rfl rfl hF rfl (yt (gw_yield hF rfl rfl rfl)) (fun hg => (run_fieldAddr rfl fl25_5 (hF.ev rfl) rfl)) ?_; clear hF; intro a hF
        refine op_gv (v := .int .i64 p111.2.2.2.2.2.1) rfl rfl hF rfl (yt (gw_yield hF rfl rfl rfl)) (fun hg => (run_load1 rfl one3 ((hF.ev rfl).trans (gv_t hg)) ((S.free 9 rfl).cell rfl))) ?_; clear hF; intro a hF
        refine op_gv (v := .bool (leB 0 p111.2.2.2.2.2.1)) rfl rfl hF rfl (yt (gw_yield hF rfl rfl rfl)) (fun hg => (run_geq ((hF.ev rfl).trans (gv_t hg)) rfl rfl)) ?_; clear hF; intro a hF
        refine op_gv (v := .bool (p133.2.2.2.2.2.2.2.2 == (leB 0 p111.2.2.2.2.2.1))) rfl rfl hF rfl (yt (gw_yield hF rfl rfl rfl)) (fun hg => (run_eqlB ((hF.ev rfl).trans (gv_t hg)) ((hF.ev rfl).trans (gv_t hg)) Tryd.underlying4 rfl)) ?_; clear hF; intro a hF
        refine op_val (v := .bool (p149 && (p133.2.2.2.2.2.2.2.2 == (leB 0 p111.2.2.2.2.2.1)))) rfl rfl hF rfl (run_pick_and rfl (hF.ev rfl) (fun hp => ((hF.ev rfl).trans (gv_t hp))) rfl) ?_; clear hF; intro a hF
        refine op_val (v := .bool (p149 && (p133.2.2.2.2.2.2.2.2 == (leB 0 p111.2.2.2.2.2.1)))) rfl rfl hF rfl (run_move rfl (hF.ev rfl)) ?_; clear hF; intro a hF
        refine op_gv (v := .bool p141.2.2.2.2.2.2.2.2) rfl rfl hF rfl (yt (gw_yield hF rfl rfl rfl)) (fun hg => (run_move rfl (hF.ev rfl))) ?_; clear hF; intro a hF
        refine op_gv (v := .pointer (some ⟨g118, 6, none⟩)) rfl rfl hF rfl (yt (gw_yield hF rfl rfl rfl)) (fun hg => (run_fieldAddr rfl fl25_6 (hF.ev rfl) rfl)) ?_; clear hF; intro a hF
        refine op_gv (v := .int .i64 p111.2.2.2.2.2.2.1) rfl rfl hF rfl (yt (gw_yield hF rfl rfl rfl)) (fun hg => (run_load1 rfl one3 ((hF.ev rfl).trans (gv_t hg)) ((S.free 9 rfl).cell rfl))) ?_; clear hF; intro a hF
        refine op_gv (v := .bool (leB 0 p111.2.2.2.2.2.2.1)) rfl rfl hF rfl (yt (gw_yield hF rfl rfl rfl)) (fun hg => (run_geq ((hF.ev rfl).trans (gv_t hg)) rfl rfl)) ?_; clear hF; intro a hF
        refine op_gv (v := .bool (p141.2.2.2.2.2.2.2.2 == (leB 0 p111.2.2.2.2.2.2.1))) rfl rfl hF rfl (yt (gw_yield hF rfl rfl rfl)) (fun hg => (run_eqlB ((hF.ev rfl).trans (gv_t hg)) ((hF.ev rfl).trans (gv_t hg)) Tryd.underlying4 rfl)) ?_; clear hF; intro a hF
        refine op_val (v := .bool ((p149 && (p133.2.2.2.2.2.2.2.2 == (leB 0 p111.2.2.2.2.2.1))) && (p141.2.2.2.2.2.2.2.2 == (leB 0 p111.2.2.2.2.2.2.1)))) rfl rfl hF rfl (run_pick_and rfl (hF.ev rfl) (fun hp => ((hF.ev rfl).trans (gv_t hp))) rfl) ?_; clear hF; intro a hF
        refine op_val (v := .bool ((p149 && (p133.2.2.2.2.2.2.2.2 == (leB 0 p111.2.2.2.2.2.1))) && (p141.2.2.2.2.2.2.2.2 == (leB 0 p111.2.2.2.2.2.2.1)))) rfl rfl hF rfl (run_assign rfl (hF.ev rfl)) ?_; clear hF; intro a hF
        refine wpList_nil ?_
        refine wp_ret ?_
        repeat with_reducible (first | refine then_ret ?_ | refine in_ret ?_ | refine in_nrm ?_)
        refine ret1_gw (.inl rfl) hF rfl (res_tmp (hF.ev rfl)) ?_
        obtain rfl := Option.some.inj hM
        exact ⟨rfl, S.sel [] rfl rfl⟩
    · replace hM := bif_t hc128 hM
      refine cond_t hF rfl hc128 ?_
      refine wp_seq ?_
      refine wp_region_lit ?_
      refine op_val (v := .bool false) rfl rfl hF rfl (run_assign rfl rfl) ?_; clear hF; intro a hF
      refine wpList_nil ?_
      refine wp_ret ?_
      repeat with_reducible (first | refine then_ret ?_ | refine in_ret ?_ | refine in_nrm ?_)
      refine ret1_gw (.inl rfl) hF rfl (res_tmp (hF.ev rfl)) ?_
      obtain rfl := Option.some.inj hM
      exact ⟨rfl, S.sel [] rfl rfl⟩
  · replace hM := bif_t hc101 hM
    refine cond_t hF rfl hc101 ?_
    refine wp_seq ?_
    refine wp_region_lit ?_
    refine op_val (v := .bool true) rfl rfl hF rfl (run_assign rfl rfl) ?_; clear hF; intro a hF
    refine wpList_nil ?_
    refine wp_ret ?_
    repeat with_reducible (first | refine then_ret ?_ | refine in_ret ?_ | refine in_nrm ?_)
    refine ret1_gw (.inl rfl) hF rfl (res_tmp (hF.ev rfl)) ?_
    obtain rfl := Option.some.inj hM
    exact ⟨rfl, S.sel [] rfl rfl⟩

set_option maxHeartbeats 4000000 in
theorem c_spec_DrawPollRun {x0 : List Int} {A0 : Option Addr} {n0 c0 : Nat} {w : World} {r : Int × List Int × Int × List Int × Int × Int × Int × Int × List (Int × Int)} (h0 : Rt w 1 eU A0 n0 c0 x0) (hM : m_spec_DrawPollRun x0 = some r) :
    Calls Tryd.prog 16 #[.slice A0 n0 c0] w (fun e w' => ∃ (B0 : Option Addr) (N0 D0 : Nat) (B1 : Option Addr) (N1 D1 : Nat) (B2 : Option Addr) (N2 D2 : Nat), e = .returned (.tuple #[.agg #[.int .i64 r.1, .slice B0 N0 D0, .int .i64 r.2.2.1, .slice B1 N1 D1, .int .i64 r.2.2.2.2.1, .int .i64 r.2.2.2.2.2.1, .int .i64 r.2.2.2.2.2.2.1, .int .i64 r.2.2.2.2.2.2.2.1], .slice B2 N2 D2]) ∧ N0 = r.2.1.length ∧ N1 = r.2.2.2.1.length ∧ N2 = r.2.2.2.2.2.2.2.2.length ∧ St w w' [.row 3 1 (.slice B0 N0 D0) N0 (r.2.1.flatMap eI), .row 3 1 (.slice B1 N1 D1) N1 (r.2.2.2.1.flatMap eI), .row 31 2 (.slice B2 N2 D2) N2 (r.2.2.2.2.2.2.2.2.flatMap ePollDeed)]) := by
  obtain rfl := h0.len
  unfold m_spec_DrawPollRun at hM
  refine calls_gw Tryd.func16 Tryd.ntmps16 rfl [(0, .slice A0 x0.length c0)] ⟨rfl, trivial⟩ rfl ?_
  intro a hF
  have S := St.nil w
  refine wp_seq ?_
  refine wp_region_lit ?_
  refine op_new (cs := #[.int .i64 0, .slice none 0 0, .int .i64 0, .slice none 0 0, .int .i64 0, .int .i64 0, .int .i64 0, .int .i64 0]) rfl rfl hF rfl S (run_allocZ rfl zr25) ?_; clear hF S; intro a g101 u hF S
  refine op_val (v := .slice none 0 0) rfl rfl hF rfl (run_assign rfl rfl) ?_; clear hF; intro a hF
  refine wpList_nil ?_
  refine wp_seq ?_
  refine wp_region_lit ?_
  refine op_val (v := .slice A0 x0.length c0) rfl rfl hF rfl (run_move rfl (hF.ev rfl)) ?_; clear hF; intro a hF
  refine op_call rfl rfl hF rfl (run_call (vs := [.slice A0 x0.length c0]) rfl rfl co29 ⟨(hF.ev rfl), trivial⟩) (c_spec_l20Open ⟨(S.rc0 h0.rc), rfl⟩) ?_
  rintro e u ⟨g102, rfl, T⟩
  refine ⟨_, rfl, ?_⟩
  clear hF; intro a hF
  replace S := S.call1 T; clear T
  refine op_val (v := .pointer (some ⟨g102, 0, none⟩)) rfl rfl hF rfl (run_assign rfl (hF.ev rfl)) ?_; clear hF; intro a hF
  refine wpList_nil ?_
  refine wp_seq ?_
  refine wp_region_lit ?_
  refine op_val (v := .pointer (some ⟨g102, 0, none⟩)) rfl rfl hF rfl (run_move rfl (hF.ev rfl)) ?_; clear hF; intro a hF
  obtain ⟨p103, h103, hM⟩ := bind_ex hM
  refine op_call rfl rfl hF rfl (run_call (vs := [.pointer (some ⟨g102, 0, none⟩), .int .i64 12]) rfl rfl co30 ⟨(hF.ev rfl), rfl, trivial⟩) (c_spec_l20Poll (x0 := x0.take 2000) (x1 := 0) (x2 := 12) ⟨(op_rc h0.rc rfl), rfl⟩ (show St w _ [.box g102 77 #[.slice (opA c0 x0.length A0) ((x0.take 2000).length) c0, .int .i64 0], .box g101 25 #[.int .i64 0, .slice none 0 0, .int .i64 0, .slice none 0 0, .int .i64 0, .int .i64 0, .int .i64 0, .int .i64 0]] from S.sel [0, 1] rfl rfl) h103) ?_
  rintro e u ⟨B104, n105, d106, B107, n108, d109, rfl, rfl, rfl, T⟩
  refine ⟨_, rfl, ?_⟩
  clear hF; intro a hF
  clear S; have S := T; clear T
  refine op_new (cs := #[.int .i64 0, .slice none 0 0, .int .i64 0, .slice none 0 0, .int .i64 0, .int .i64 0, .int .i64 0, .int .i64 0]) rfl rfl hF rfl S (run_allocZ rfl zr25) ?_; clear hF S; intro a g110 u hF S
  refine op_do rfl rfl (run_store (cs' := #[.int .i64 p103.1, .slice B104 p103.2.1.length d106, .int .i64 p103.2.2.1, .slice B107 p103.2.2.2.1.length d109, .int .i64 p103.2.2.2.2.1, .int .i64 p103.2.2.2.2.2.1, .int .i64 p103.2.2.2.2.2.2.1, .int .i64 p103.2.2.2.2.2.2.2.1]) rfl sz25 (hF.ev rfl) (hF.ev rfl) rfl rfl rfl (S.free 0 rfl) rfl rfl) ?_; replace S := S.put 0 rfl (#[.int .i64 p103.1, .slice B104 p103.2.1.length d106, .int .i64 p103.2.2.1, .slice B107 p103.2.2.2.1.length d109, .int .i64 p103.2.2.2.2.1, .int .i64 p103.2.2.2.2.2.1, .int .i64 p103.2.2.2.2.2.2.1, .int .i64 p103.2.2.2.2.2.2.2.1])
  generalize World.setRow _ _ _ = u at S ⊢
  refine wpList_nil ?_
  refine wp_seq ?_
  obtain ⟨p111, h111, hM⟩ := bind_ex hM
  refine region_gw (D := [10, 11, 12, 3]) (Lr := [.box g110 25 #[.int .i64 p103.1, .slice B104 p103.2.1.length d106, .int .i64 p103.2.2.1, .slice B107 p103.2.2.2.1.length d109, .int .i64 p103.2.2.2.2.1, .int .i64 p103.2.2.2.2.2.1, .int .i64 p103.2.2.2.2.2.2.1, .int .i64 p103.2.2.2.2.2.2.2.1], .row 3 1 (.slice B104 p103.2.1.length d106) p103.2.1.length (p103.2.1.flatMap eI), .row 3 1 (.slice B107 p103.2.2.2.1.length d109) p103.2.2.2.1.length (p103.2.2.2.1.flatMap eI)]) (deps := (fun | 0 => [10] | 1 => [11] | 2 => [12] | 3 => [2] | 4 => [3, 12] | _ => [])) (rd := (fun _ => [])) (zr := (fun _ => []))
    (φ := fun i vs => match i, vs with | 0, [v10] => v10 = .agg #[.int .i64 p103.1, .slice B104 p103.2.1.length d106, .int .i64 p103.2.2.1, .slice B107 p103.2.2.2.1.length d109, .int .i64 p103.2.2.2.2.1, .int .i64 p103.2.2.2.2.2.1, .int .i64 p103.2.2.2.2.2.2.1, .int .i64 p103.2.2.2.2.2.2.2.1] | 1, [v11] => v11 = .pointer (some ⟨g102, 0, none⟩) | 2, [v12] => v12 = .slice (slA v12) p111.1.length (slC v12) | 4, [v3, v12] => v3 = .slice (slA v12) p111.1.length (slC v12) | _, _ => True)
    (C := fun i vs => match i, vs with | 2, [v12] => [.row 31 2 (.slice (slA v12) p111.1.length (slC v12)) p111.1.length (p111.1.flatMap ePollDeed), .box g102 77 #[.slice (opA c0 x0.length A0) ((x0.take 2000).length) c0, .int .i64 p111.2]] | 3, [v2] => [.box g101 25 #[.int .i64 p103.1, .slice B104 p103.2.1.length d106, .int .i64 p103.2.2.1, .slice B107 p103.2.2.2.1.length d109, .int .i64 p103.2.2.2.2.1, .int .i64 p103.2.2.2.2.2.1, .int .i64 p103.2.2.2.2.2.2.1, .int .i64 p103.2.2.2.2.2.2.2.1]] | _, _ => [])
    (κ := (fun _ => none)) (Z := (fun | 2 => [.box g102 77 #[.slice (opA c0 x0.length A0) ((x0.take 2000).length) c0, .int .i64 p103.2.2.2.2.2.2.2.2]] | 3 => [.box g101 25 #[.int .i64 0, .slice none 0 0, .int .i64 0, .slice none 0 0, .int .i64 0, .int .i64 0, .int .i64 0, .int .i64 0]] | _ => [])) mixed hF (by kernel_rfl) (show St w _ [.box g102 77 #[.slice (opA c0 x0.length A0) ((x0.take 2000).length) c0, .int .i64 p103.2.2.2.2.2.2.2.2], .box g101 25 #[.int .i64 0, .slice none 0 0, .int .i64 0, .slice none 0 0, .int .i64 0, .int .i64 0, .int .i64 0, .int .i64 0], .box g110 25 #[.int .i64 p103.1, .slice B104 p103.2.1.length d106, .int .i64 p103.2.2.1, .slice B107 p103.2.2.2.1.length d109, .int .i64 p103.2.2.2.2.1, .int .i64 p103.2.2.2.2.2.1, .int .i64 p103.2.2.2.2.2.2.1, .int .i64 p103.2.2.2.2.2.2.2.1], .row 3 1 (.slice B104 p103.2.1.length d106) p103.2.1.length (p103.2.1.flatMap eI), .row 3 1 (.slice B107 p103.2.2.2.1.length d109) p103.2.2.2.1.length (p103.2.2.2.1.flatMap eI)] from S.sel [3, 4, 0, 1, 2] rfl rfl) ?_ ?_
  · refine ⟨?_, ?_, ?_, ?_, ?_, trivial⟩
    · intro a u X hB hu hp hr hz hl S
      replace S : St w u ([] ++ X) := S
      exact .inl ⟨rfl, .agg #[.int .i64 p103.1, .slice B104 p103.2.1.length d106, .int .i64 p103.2.2.1, .slice B107 p103.2.2.2.1.length d109, .int .i64 p103.2.2.2.2.1, .int .i64 p103.2.2.2.2.2.1, .int .i64 p103.2.2.2.2.2.2.1, .int .i64 p103.2.2.2.2.2.2.2.1], u, (run_loadN rfl ag25 (hF.evB hB rfl rfl) rfl ((gr_box S hl 0 rfl).cells 0 #[.int .i64 p103.1, .slice B104 p103.2.1.length d106, .int .i64 p103.2.2.1, .slice B107 p103.2.2.2.1.length d109, .int .i64 p103.2.2.2.2.1, .int .i64 p103.2.2.2.2.2.1, .int .i64 p103.2.2.2.2.2.2.1, .int .i64 p103.2.2.2.2.2.2.2.1] rfl)), rfl, S⟩
    · intro a u X hB hu hp hr hz hl S
      replace S : St w u ([] ++ X) := S
      exact .inl ⟨rfl, .pointer (some ⟨g102, 0, none⟩), u, (run_move rfl (hF.evB hB rfl rfl)), rfl, S⟩
    · intro a u X hB hu hp hr hz hl S
      replace S : St w u ([.box g102 77 #[.slice (opA c0 x0.length A0) ((x0.take 2000).length) c0, .int .i64 p103.2.2.2.2.2.2.2.2]] ++ X) := S
      have e11 : sl a 11 = .pointer (some ⟨g102, 0, none⟩) := hp 1 rfl
      refine .inr (.inr (.inl ⟨rfl, _, _, (run_call (vs := [.pointer (some ⟨g102, 0, none⟩)]) rfl rfl co39 ⟨(ev_sl e11), trivial⟩), ?_⟩))
      refine Calls.mono (c_spec_l20PollDeeds (x0 := x0.take 2000) (x1 := p103.2.2.2.2.2.2.2.2) ⟨(op_rc h0.rc rfl), rfl⟩ S h111) ?_
      rintro e w1 ⟨B118, n119, d120, rfl, rfl, T⟩
      exact ⟨_, rfl, rfl, T⟩
    · intro a u X hB hu hp hr hz hl S
      replace S : St w u ([.box g101 25 #[.int .i64 0, .slice none 0 0, .int .i64 0, .slice none 0 0, .int .i64 0, .int .i64 0, .int .i64 0, .int .i64 0]] ++ X) := S
      have e10 : sl a 10 = .agg #[.int .i64 p103.1, .slice B104 p103.2.1.length d106, .int .i64 p103.2.2.1, .slice B107 p103.2.2.2.1.length d109, .int .i64 p103.2.2.2.2.1, .int .i64 p103.2.2.2.2.2.1, .int .i64 p103.2.2.2.2.2.2.1, .int .i64 p103.2.2.2.2.2.2.2.1] := hp 0 rfl
      exact .inr (.inl ⟨rfl, _, run_store (cs' := #[.int .i64 p103.1, .slice B104 p103.2.1.length d106, .int .i64 p103.2.2.1, .slice B107 p103.2.2.2.1.length d109, .int .i64 p103.2.2.2.2.1, .int .i64 p103.2.2.2.2.2.1, .int .i64 p103.2.2.2.2.2.2.1, .int .i64 p103.2.2.2.2.2.2.2.1]) rfl sz25 (hF.evB hB rfl rfl) (ev_sl e10) rfl rfl rfl (S.free 0 rfl) rfl rfl, trivial, S.put 0 rfl (#[.int .i64 p103.1, .slice B104 p103.2.1.length d106, .int .i64 p103.2.2.1, .slice B107 p103.2.2.2.1.length d109, .int .i64 p103.2.2.2.2.1, .int .i64 p103.2.2.2.2.2.1, .int .i64 p103.2.2.2.2.2.2.1, .int .i64 p103.2.2.2.2.2.2.2.1])⟩)
    · intro a u X hB hu hp hr hz hl S
      replace S : St w u ([] ++ X) := S
      have e12 : sl a 12 = .slice (slA (sl a 12)) p111.1.length (slC (sl a 12)) := hp 2 rfl
      exact .inl ⟨rfl, .slice (slA (sl a 12)) p111.1.length (slC (sl a 12)), u, (run_assign rfl (ev_sl e12)), rfl, S⟩
  · intro a u hB hp S
    obtain ⟨q0, q1, q2, q3, q4, _⟩ := hp
    have e10 : sl a 10 = .agg #[.int .i64 p103.1, .slice B104 p103.2.1.length d106, .int .i64 p103.2.2.1, .slice B107 p103.2.2.2.1.length d109, .int .i64 p103.2.2.2.2.1, .int .i64 p103.2.2.2.2.2.1, .int .i64 p103.2.2.2.2.2.2.1, .int .i64 p103.2.2.2.2.2.2.2.1] := q0
    have e11 : sl a 11 = .pointer (some ⟨g102, 0, none⟩) := q1
    have e12 : sl a 12 = .slice (slA (sl a 12)) p111.1.length (slC (sl a 12)) := q2
    have e3 : sl a 3 = .slice (slA (sl a 12)) p111.1.length (slC (sl a 12)) := q4
    replace S : St w u [.row 31 2 (.slice (slA (sl a 12)) p111.1.length (slC (sl a 12))) p111.1.length (p111.1.flatMap ePollDeed), .box g102 77 #[.slice (opA c0 x0.length A0) ((x0.take 2000).length) c0, .int .i64 p111.2], .box g101 25 #[.int .i64 p103.1, .slice B104 p103.2.1.length d106, .int .i64 p103.2.2.1, .slice B107 p103.2.2.2.1.length d109, .int .i64 p103.2.2.2.2.1, .int .i64 p103.2.2.2.2.2.1, .int .i64 p103.2.2.2.2.2.2.1, .int .i64 p103.2.2.2.2.2.2.2.1], .box g110 25 #[.int .i64 p103.1, .slice B104 p103.2.1.length d106, .int .i64 p103.2.2.1, .slice B107 p103.2.2.2.1.length d109, .int .i64 p103.2.2.2.2.1, .int .i64 p103.2.2.2.2.2.1, .int .i64 p103.2.2.2.2.2.2.1, .int .i64 p103.2.2.2.2.2.2.2.1], .row 3 1 (.slice B104 p103.2.1.length d106) p103.2.1.length (p103.2.1.flatMap eI), .row 3 1 (.slice B107 p103.2.2.2.1.length d109) p103.2.2.2.1.length (p103.2.2.2.1.flatMap eI)] := S
    clear q0 q1 q2 q3 q4
    generalize slA (sl a 12) = B121 at *
    generalize slC (sl a 12) = d122 at *
    have hF := hF.region hB [(10, .agg #[.int .i64 p103.1, .slice B104 p103.2.1.length d106, .int .i64 p103.2.2.1, .slice B107 p103.2.2.2.1.length d109, .int .i64 p103.2.2.2.2.1, .int .i64 p103.2.2.2.2.2.1, .int .i64 p103.2.2.2.2.2.2.1, .int .i64 p103.2.2.2.2.2.2.2.1]), (11, .pointer (some ⟨g102, 0, none⟩)), (12, .slice B121 p111.1.length d122), (3, .slice B121 p111.1.length d122)] (allSl_mem ⟨e10, e11, e12, e3, trivial⟩) rfl
    clear hB e10 e11 e12 e3
    refine wp_ret ?_
    repeat with_reducible (first | refine then_ret ?_ | refine in_ret ?_ | refine in_nrm ?_)
    refine ret2_gw (.inl rfl) hF rfl (res_cell (hF.ev rfl) (res_loadN ag25 rfl (S.cells 2 rfl 0 #[.int .i64 p103.1, .slice B104 p103.2.1.length d106, .int .i64 p103.2.2.1, .slice B107 p103.2.2.2.1.length d109, .int .i64 p103.2.2.2.2.1, .int .i64 p103.2.2.2.2.2.1, .int .i64 p103.2.2.2.2.2.2.1, .int .i64 p103.2.2.2.2.2.2.2.1] rfl))) (res_tmp (hF.ev rfl)) ?_
    obtain rfl := Option.some.inj hM
    exact ⟨B104, p103.2.1.length, d106, B107, p103.2.2.2.1.length, d109, B121, p111.1.length, d122, rfl, rfl, rfl, rfl, S.sel [4, 5, 0] rfl rfl⟩

set_option maxHeartbeats 4000000 in
theorem c_impl_PollRun {x0 : Int} {x1 : List Int} {x2 : Int} {x3 : List Int} {x4 : Int} {x5 : Int} {x6 : Int} {x7 : Int} {x8 : List (Int × Int)} {A1 : Option Addr} {n1 c1 : Nat} {A3 : Option Addr} {n3 c3 : Nat} {A8 : Option Addr} {n8 c8 : Nat} {w : World} {r : Int × List Int × Int × List Int × Int × Int × Int × Int × Int} (h1 : Rt w 1 eI A1 n1 c1 x1) (h3 : Rt w 1 eI A3 n3 c3 x3) (h8 : Rt w 2 ePollDeed A8 n8 c8 x8) (hM : m_impl_PollRun x0 x1 x2 x3 x4 x5 x6 x7 x8 = some r) :
    Calls Tryd.prog 17 #[.agg #[.int .i64 x0, .slice A1 n1 c1, .int .i64 x2, .slice A3 n3 c3, .int .i64 x4, .int .i64 x5, .int .i64 x6, .int .i64 x7], .slice A8 n8 c8] w (fun e w' => ∃ (B0 : Option Addr) (N0 D0 : Nat) (B1 : Option Addr) (N1 D1 : Nat), e = .returned (.tuple #[.agg #[.int .i64 r.1, .slice B0 N0 D0, .int .i64 r.2.2.1, .slice B1 N1 D1, .int .i64 r.2.2.2.2.1, .int .i64 r.2.2.2.2.2.1, .int .i64 r.2.2.2.2.2.2.1, .int .i64 r.2.2.2.2.2.2.2.1], .int .i64 r.2.2.2.2.2.2.2.2]) ∧ N0 = r.2.1.length ∧ N1 = r.2.2.2.1.length ∧ St w w' [.row 3 1 (.slice B0 N0 D0) N0 (r.2.1.flatMap eI), .row 3 1 (.slice B1 N1 D1) N1 (r.2.2.2.1.flatMap eI)]) := by
  obtain rfl := h1.len
  obtain rfl := h3.len
  obtain rfl := h8.len
  unfold m_impl_PollRun at hM
  refine calls_gw Tryd.func17 Tryd.ntmps17 rfl [(0, .agg #[.int .i64 x0, .slice A1 x1.length c1, .int .i64 x2, .slice A3 x3.length c3, .int .i64 x4, .int .i64 x5, .int .i64 x6, .int .i64 x7]), (1, .slice A8 x8.length c8)] ⟨rfl, rfl, trivial⟩ rfl ?_
  intro a hF
  have S := St.nil w
  refine wp_seq ?_
  refine wp_region_lit ?_
  refine op_new (cs := #[.int .i64 x0, .slice A1 x1.length c1, .int .i64 x2, .slice A3 x3.length c3, .int .i64 x4, .int .i64 x5, .int .i64 x6, .int .i64 x7]) rfl rfl hF rfl S (run_box rfl (hF.ev rfl) rfl) ?_; clear hF S; intro a g101 u hF S
  refine op_new (cs := #[.int .i64 0, .slice none 0 0, .int .i64 0, .slice none 0 0, .int .i64 0, .int .i64 0, .int .i64 0, .int .i64 0]) rfl rfl hF rfl S (run_allocZ rfl zr25) ?_; clear hF S; intro a g102 u hF S
  refine op_val (v := .int .i64 0) rfl rfl hF rfl (run_assign rfl rfl) ?_; clear hF; intro a hF
  refine wpList_nil ?_
  refine wp_seq ?_
  refine wp_seq ?_
  refine wp_region_lit ?_
  refine op_val (v := .agg #[.int .i64 x0, .slice A1 x1.length c1, .int .i64 x2, .slice A3 x3.length c3, .int .i64 x4, .int .i64 x5, .int .i64 x6, .int .i64 x7]) rfl rfl hF rfl (run_loadN rfl ag25 (hF.ev rfl) rfl ((S.free 1 rfl).cells 0 #[.int .i64 x0, .slice A1 x1.length c1, .int .i64 x2, .slice A3 x3.length c3, .int .i64 x4, .int .i64 x5, .int .i64 x6, .int .i64 x7] rfl)) ?_; clear hF; intro a hF
  obtain ⟨p103, h103, hM⟩ := bind_ex hM
  refine op_call rfl rfl hF rfl (run_call (vs := [.agg #[.int .i64 x0, .slice A1 x1.length c1, .int .i64 x2, .slice A3 x3.length c3, .int .i64 x4, .int .i64 x5, .int .i64 x6, .int .i64 x7]]) rfl rfl co15 ⟨(hF.ev rfl), trivial⟩) (c_impl_PollValid (x0 := x0) (x1 := x1) (x2 := x2) (x3 := x3) (x4 := x4) (x5 := x5) (x6 := x6) (x7 := x7) ⟨(S.rc0 h1.rc), rfl⟩ ⟨(S.rc0 h3.rc), rfl⟩ h103) ?_
  rintro e u ⟨rfl, T⟩
  refine ⟨_, rfl, ?_⟩
  clear hF; intro a hF
  replace S := S.call0 T; clear T
  refine op_val (v := .bool (!p103)) rfl rfl hF rfl (run_not rfl (hF.ev rfl)) ?_; clear hF; intro a hF
  refine wpList_nil ?_
  cases hc104 : (p103)
  · replace hM := bif_f hc104 hM
    refine cond_t hF rfl (not_t hc104) ?_
    refine wp_seq ?_
    refine wp_region_lit ?_
    refine op_val (v := .agg #[.int .i64 0, .slice none 0 0, .int .i64 0, .slice none 0 0, .int .i64 0, .int .i64 0, .int .i64 0, .int .i64 0]) rfl rfl hF rfl (run_build (vs := []) rfl trivial (bd25 )) ?_; clear hF; intro a hF
    refine op_do rfl rfl (run_store (cs' := #[.int .i64 0, .slice none 0 0, .int .i64 0, .slice none 0 0, .int .i64 0, .int .i64 0, .int .i64 0, .int .i64 0]) rfl sz25 (hF.ev rfl) (hF.ev rfl) rfl rfl rfl (S.free 0 rfl) rfl rfl) ?_; replace S := S.put 0 rfl (#[.int .i64 0, .slice none 0 0, .int .i64 0, .slice none 0 0, .int .i64 0, .int .i64 0, .int .i64 0, .int .i64 0])
    generalize World.setRow _ _ _ = u at S ⊢
    refine op_val (v := .int .i64 0) rfl rfl hF rfl (run_assign rfl rfl) ?_; clear hF; intro a hF
    refine wpList_nil ?_
    refine wp_ret ?_
    repeat with_reducible (first | refine then_ret ?_ | refine in_ret ?_ | refine in_nrm ?_)
    refine ret2_gw (.inl rfl) hF rfl (res_cell (hF.ev rfl) (res_loadN ag25 rfl (S.cells 0 rfl 0 #[.int .i64 0, .slice none 0 0, .int .i64 0, .slice none 0 0, .int .i64 0, .int .i64 0, .int .i64 0, .int .i64 0] rfl))) (res_tmp (hF.ev rfl)) ?_
    obtain rfl := Option.some.inj hM
    replace S := S.nilrow 3 1
    replace S := S.nilrow 3 1
    exact ⟨none, 0, 0, none, 0, 0, rfl, rfl, rfl, S.sel [1, 0] rfl rfl⟩
  · replace hM := bif_t hc104 hM
    refine cond_f hF rfl (not_f hc104) ?_
    refine wp_skip ?_
    refine wp_seq ?_
    refine wp_region_lit ?_
    refine op_val (v := .agg #[.int .i64 x0, .slice A1 x1.length c1, .int .i64 x2, .slice A3 x3.length c3, .int .i64 x4, .int .i64 x5, .int .i64 x6, .int .i64 x7]) rfl rfl hF rfl (run_loadN rfl ag25 (hF.ev rfl) rfl ((S.free 1 rfl).cells 0 #[.int .i64 x0, .slice A1 x1.length c1, .int .i64 x2, .slice A3 x3.length c3, .int .i64 x4, .int .i64 x5, .int .i64 x6, .int .i64 x7] rfl)) ?_; clear hF; intro a hF
    obtain ⟨p105, h105, hM⟩ := bind_ex hM
    refine op_call rfl rfl hF rfl (run_call (vs := [.agg #[.int .i64 x0, .slice A1 x1.length c1, .int .i64 x2, .slice A3 x3.length c3, .int .i64 x4, .int .i64 x5, .int .i64 x6, .int .i64 x7]]) rfl rfl co24 ⟨(hF.ev rfl), trivial⟩) (c_impl_Poll_clone (x0 := x0) (x1 := x1) (x2 := x2) (x3 := x3) (x4 := x4) (x5 := x5) (x6 := x6) (x7 := x7) ⟨(S.rc0 h1.rc), rfl⟩ ⟨(S.rc0 h3.rc), rfl⟩ h105) ?_
    rintro e u ⟨B106, n107, d108, B109, n110, d111, rfl, rfl, rfl, T⟩
    refine ⟨_, rfl, ?_⟩
    clear hF; intro a hF
    replace S := S.call2 T; clear T
    refine op_new (cs := #[.int .i64 0, .slice none 0 0, .int .i64 0, .slice none 0 0, .int .i64 0, .int .i64 0, .int .i64 0, .int .i64 0]) rfl rfl hF rfl S (run_allocZ rfl zr25) ?_; clear hF S; intro a g112 u hF S
    refine op_do rfl rfl (run_store (cs' := #[.int .i64 p105.1, .slice B106 p105.2.1.length d108, .int .i64 p105.2.2.1, .slice B109 p105.2.2.2.1.length d111, .int .i64 p105.2.2.2.2.1, .int .i64 p105.2.2.2.2.2.1, .int .i64 p105.2.2.2.2.2.2.1, .int .i64 p105.2.2.2.2.2.2.2]) rfl sz25 (hF.ev rfl) (hF.ev rfl) rfl rfl rfl (S.free 0 rfl) rfl rfl) ?_; replace S := S.put 0 rfl (#[.int .i64 p105.1, .slice B106 p105.2.1.length d108, .int .i64 p105.2.2.1, .slice B109 p105.2.2.2.1.length d111, .int .i64 p105.2.2.2.2.1, .int .i64 p105.2.2.2.2.2.1, .int .i64 p105.2.2.2.2.2.2.1, .int .i64 p105.2.2.2.2.2.2.2])
    generalize World.setRow _ _ _ = u at S ⊢
    refine op_val (v := .int .i64 0) rfl rfl hF rfl (run_assign rfl rfl) ?_; clear hF; intro a hF
    refine wpList_nil ?_
    refine wp_seq ?_
    refine wp_seq ?_
    refine wp_region_lit ?_
    refine op_val (v := .slice A8 x8.length c8) rfl rfl hF rfl (run_move rfl (hF.ev rfl)) ?_; clear hF; intro a hF
    refine op_val (v := .int .i64 (x8.length : Int)) rfl rfl hF rfl (run_lenL rfl rfl Tryd.underlying38 (hF.ev rfl)) ?_; clear hF; intro a hF
    refine op_val (v := .int .i64 0) rfl rfl hF rfl (run_move rfl rfl) ?_; clear hF; intro a hF
    refine wpList_nil ?_
    obtain ⟨o114, hM119, hM⟩ := bind_ex hM
    refine wp_cut (fun a u => ∃ (p113 : Int × Int × List Int × Int × List Int × Int × Int × Int × Int) (B115 : Option Addr) (d116 : Nat) (B117 : Option Addr) (d118 : Nat), p113 = o114 ∧ Fr a 37 [(4, .pointer (some ⟨g102, 0, none⟩)), (5, .int .i64 0), (6, .pointer (some ⟨g112, 0, none⟩)), (7, .int .i64 p113.1)] ∧ St w u [.box g112 25 #[.int .i64 p113.2.1, .slice B115 p113.2.2.1.length d116, .int .i64 p113.2.2.2.1, .slice B117 p113.2.2.2.2.1.length d118, .int .i64 p113.2.2.2.2.2.1, .int .i64 p113.2.2.2.2.2.2.1, .int .i64 p113.2.2.2.2.2.2.2.1, .int .i64 p113.2.2.2.2.2.2.2.2], .box g102 25 #[.int .i64 0, .slice none 0 0, .int .i64 0, .slice none 0 0, .int .i64 0, .int .i64 0, .int .i64 0, .int .i64 0], .row 3 1 (.slice B115 p113.2.2.1.length d116) p113.2.2.1.length (p113.2.2.1.flatMap eI), .row 3 1 (.slice B117 p113.2.2.2.2.1.length d118) p113.2.2.2.2.1.length (p113.2.2.2.2.1.flatMap eI)]) ?_ ?_
    · have _ := trivial
      refine wp_block ?_
      refine loop_gw (fun m a u => ∃ (p120 : Int × Int × Int × List Int × Int × List Int × Int × Int × Int × Int) (B121 : Option Addr) (d122 : Nat) (B123 : Option Addr) (d124 : Nat), m_impl_PollRun_l1 x8 m p120 = some _ ∧ Fr a 37 [(4, .pointer (some ⟨g102, 0, none⟩)), (5, .int .i64 0), (6, .pointer (some ⟨g112, 0, none⟩)), (7, .int .i64 p120.1), (18, .slice A8 x8.length c8), (19, .int .i64 (x8.length : Int)), (20, .int .i64 p120.2.1)] ∧ St w u [.box g112 25 #[.int .i64 p120.2.2.1, .slice B121 p120.2.2.2.1.length d122, .int .i64 p120.2.2.2.2.1, .slice B123 p120.2.2.2.2.2.1.length d124, .int .i64 p120.2.2.2.2.2.2.1, .int .i64 p120.2.2.2.2.2.2.2.1, .int .i64 p120.2.2.2.2.2.2.2.2.1, .int .i64 p120.2.2.2.2.2.2.2.2.2], .box g102 25 #[.int .i64 0, .slice none 0 0, .int .i64 0, .slice none 0 0, .int .i64 0, .int .i64 0, .int .i64 0, .int .i64 0], .row 3 1 (.slice B121 p120.2.2.2.1.length d122) p120.2.2.2.1.length (p120.2.2.2.1.flatMap eI), .row 3 1 (.slice B123 p120.2.2.2.2.2.1.length d124) p120.2.2.2.2.2.1.length (p120.2.2.2.2.2.1.flatMap eI)]) FUEL ⟨(0, 0, p105.1, p105.2.1, p105.2.2.1, p105.2.2.2.1, p105.2.2.2.2.1, p105.2.2.2.2.2.1, p105.2.2.2.2.2.2.1, p105.2.2.2.2.2.2.2), B106, d108, B109, d111, hM119, hF.keep _ ⟨rfl, rfl, rfl, rfl, rfl, rfl, rfl, trivial⟩, S.sel [0, 3, 1, 2] rfl rfl⟩ ?_
      clear hF S hM119; rintro m a u ⟨p120, B121, d122, B123, d124, hM119, hF, S⟩
      rcases m with _ | f1
      · exact none_some hM119
      rw [m_impl_PollRun_l1.eq_2] at hM119
      refine wp_seq ?_
      refine wp_region_lit ?_
      refine op_val (v := .bool (ltB p120.2.1 (x8.length : Int))) rfl rfl hF rfl (run_lss (hF.ev rfl) (hF.ev rfl) rfl) ?_; clear hF; intro a hF
      refine wpList_nil ?_
      refine wp_seq ?_
      cases hc125 : (ltB p120.2.1 (x8.length : Int))
      · replace hM119 := bif_f hc125 hM119
        refine cond_f hF rfl hc125 ?_
        refine wp_exit ?_
        repeat with_reducible (first | refine then_exit ?_ | refine in_hit ?_ | refine in_miss rfl ?_)
        obtain rfl := Option.some.inj hM119
        exact ⟨(p120.1, p120.2.2.1, p120.2.2.2.1, p120.2.2.2.2.1, p120.2.2.2.2.2.1, p120.2.2.2.2.2.2.1, p120.2.2.2.2.2.2.2.1, p120.2.2.2.2.2.2.2.2.1, p120.2.2.2.2.2.2.2.2.2), B121, d122, B123, d124, rfl, hF.keep _ ⟨rfl, rfl, rfl, rfl, trivial⟩, S.sel [0, 1, 2, 3] rfl rfl⟩
      · replace hM119 := bif_t hc125 hM119
        refine cond_t hF rfl hc125 ?_
        refine wp_skip ?_
        refine wp_seq ?_
        refine wp_block ?_
        refine wp_seq ?_
        refine wp_region_lit ?_
        obtain ⟨hk126, hM119⟩ := chk_ex hM119
        replace hk126 := ixB_t hk126
        refine op_val (v := .pointer (some ⟨adB A8, adO A8 + p120.2.1.toNat * 2, none⟩)) rfl rfl hF rfl (run_indexAddr (b := adB A8) (off := adO A8) rfl Tryd.underlying38 sz31 ((hF.ev rfl).trans (congrArg (fun A => Value.slice A x8.length c8) ((S.rc0 h8.rc).rd.ad (ix_pos hk126)))) (hF.ev rfl) hk126.1 hk126.2 (k' := adO A8 + p120.2.1.toNat * 2) rfl) ?_; clear hF; intro a hF
        refine op_val (v := .agg #[.int .i64 ((x8.getD p120.2.1.toNat ((0, 0) : Int × Int)).1), .int .i64 ((x8.getD p120.2.1.toNat ((0, 0) : Int × Int)).2)]) rfl rfl hF rfl (run_loadN (cs := #[.int .i64 ((x8.getD p120.2.1.toNat ((0, 0) : Int × Int)).1), .int .i64 ((x8.getD p120.2.1.toNat ((0, 0) : Int × Int)).2)]) rfl ag31 (hF.ev rfl) rfl (rd_elN (l := x8) (S.rc0 h8.rc).rd rfl ePollDeed_len ((0, 0) : Int × Int) (ix_ltn hk126 rfl) rfl)) ?_; clear hF; intro a hF
        refine op_new (cs := #[.int .i64 0, .int .i64 0]) rfl rfl hF rfl S (run_allocZ rfl zr31) ?_; clear hF S; intro a g127 u hF S
        refine op_do rfl rfl (run_store (cs' := #[.int .i64 ((x8.getD p120.2.1.toNat ((0, 0) : Int × Int)).1), .int .i64 ((x8.getD p120.2.1.toNat ((0, 0) : Int × Int)).2)]) rfl sz31 (hF.ev rfl) (hF.ev rfl) rfl rfl rfl (S.free 0 rfl) rfl rfl) ?_; replace S := S.put 0 rfl (#[.int .i64 ((x8.getD p120.2.1.toNat ((0, 0) : Int × Int)).1), .int .i64 ((x8.getD p120.2.1.toNat ((0, 0) : Int × Int)).2)])
        generalize World.setRow _ _ _ = u at S ⊢
        refine wpList_nil ?_
        refine wp_seq ?_
        refine wp_region_lit ?_
        refine op_val (v := .agg #[.int .i64 p120.2.2.1, .slice B121 p120.2.2.2.1.length d122, .int .i64 p120.2.2.2.2.1, .slice B123 p120.2.2.2.2.2.1.length d124, .int .i64 p120.2.2.2.2.2.2.1, .int .i64 p120.2.2.2.2.2.2.2.1, .int .i64 p120.2.2.2.2.2.2.2.2.1, .int .i64 p120.2.2.2.2.2.2.2.2.2]) rfl rfl hF rfl (run_loadN rfl ag25 (hF.ev rfl) rfl ((S.free 1 rfl).cells 0 #[.int .i64 p120.2.2.1, .slice B121 p120.2.2.2.1.length d122, .int .i64 p120.2.2.2.2.1, .slice B123 p120.2.2.2.2.2.1.length d124, .int .i64 p120.2.2.2.2.2.2.1, .int .i64 p120.2.2.2.2.2.2.2.1, .int .i64 p120.2.2.2.2.2.2.2.2.1, .int .i64 p120.2.2.2.2.2.2.2.2.2] rfl)) ?_; clear hF; intro a hF
        refine op_val (v := .agg #[.int .i64 ((x8.getD p120.2.1.toNat ((0, 0) : Int × Int)).1), .int .i64 ((x8.getD p120.2.1.toNat ((0, 0) : Int × Int)).2)]) rfl rfl hF rfl (run_loadN rfl ag31 (hF.ev rfl) rfl ((S.free 0 rfl).cells 0 #[.int .i64 ((x8.getD p120.2.1.toNat ((0, 0) : Int × Int)).1), .int .i64 ((x8.getD p120.2.1.toNat ((0, 0) : Int × Int)).2)] rfl)) ?_; clear hF; intro a hF
        obtain ⟨p128, h128, hM119⟩ := bind_ex hM119
        refine op_call rfl rfl hF rfl (run_call (vs := [.agg #[.int .i64 p120.2.2.1, .slice B121 p120.2.2.2.1.length d122, .int .i64 p120.2.2.2.2.1, .slice B123 p120.2.2.2.2.2.1.length d124, .int .i64 p120.2.2.2.2.2.2.1, .int .i64 p120.2.2.2.2.2.2.2.1, .int .i64 p120.2.2.2.2.2.2.2.2.1, .int .i64 p120.2.2.2.2.2.2.2.2.2], .agg #[.int .i64 ((x8.getD p120.2.1.toNat ((0, 0) : Int × Int)).1), .int .i64 ((x8.getD p120.2.1.toNat ((0, 0) : Int × Int)).2)]]) rfl rfl co10 ⟨(hF.ev rfl), (hF.ev rfl), trivial⟩) (c_impl_PollDo (x0 := p120.2.2.1) (x1 := p120.2.2.2.1) (x2 := p120.2.2.2.2.1) (x3 := p120.2.2.2.2.2.1) (x4 := p120.2.2.2.2.2.2.1) (x5 := p120.2.2.2.2.2.2.2.1) (x6 := p120.2.2.2.2.2.2.2.2.1) (x7 := p120.2.2.2.2.2.2.2.2.2) (x8 := (x8.getD p120.2.1.toNat ((0, 0) : Int × Int)).1) (x9 := (x8.getD p120.2.1.toNat ((0, 0) : Int × Int)).2) ⟨(S.rc 3 rfl), rfl⟩ ⟨(S.rc 4 rfl), rfl⟩ h128) ?_
        rintro e u ⟨B129, n130, d131, B132, n133, d134, rfl, rfl, rfl, T⟩
        refine ⟨_, rfl, ?_⟩
        clear hF; intro a hF
        replace S := S.call2 T; clear T
        refine op_val (v := .tuple #[.agg #[.int .i64 p128.1, .slice B129 p128.2.1.length d131, .int .i64 p128.2.2.1, .slice B132 p128.2.2.2.1.length d134, .int .i64 p128.2.2.2.2.1, .int .i64 p128.2.2.2.2.2.1, .int .i64 p128.2.2.2.2.2.2.1, .int .i64 p128.2.2.2.2.2.2.2.1], .bool p128.2.2.2.2.2.2.2.2]) rfl rfl hF rfl (run_move rfl (hF.ev rfl)) ?_; clear hF; intro a hF
        refine op_val (v := .agg #[.int .i64 p128.1, .slice B129 p128.2.1.length d131, .int .i64 p128.2.2.1, .slice B132 p128.2.2.2.1.length d134, .int .i64 p128.2.2.2.2.1, .int .i64 p128.2.2.2.2.2.1, .int .i64 p128.2.2.2.2.2.2.1, .int .i64 p128.2.2.2.2.2.2.2.1]) rfl rfl hF rfl (run_extract rfl (hF.ev rfl) rfl) ?_; clear hF; intro a hF
        refine op_val (v := .bool p128.2.2.2.2.2.2.2.2) rfl rfl hF rfl (run_extract rfl (hF.ev rfl) rfl) ?_; clear hF; intro a hF
        refine op_new (cs := #[.int .i64 0, .slice none 0 0, .int .i64 0, .slice none 0 0, .int .i64 0, .int .i64 0, .int .i64 0, .int .i64 0]) rfl rfl hF rfl S (run_allocZ rfl zr25) ?_; clear hF S; intro a g135 u hF S
        refine op_do rfl rfl (run_store (cs' := #[.int .i64 p128.1, .slice B129 p128.2.1.length d131, .int .i64 p128.2.2.1, .slice B132 p128.2.2.2.1.length d134, .int .i64 p128.2.2.2.2.1, .int .i64 p128.2.2.2.2.2.1, .int .i64 p128.2.2.2.2.2.2.1, .int .i64 p128.2.2.2.2.2.2.2.1]) rfl sz25 (hF.ev rfl) (hF.ev rfl) rfl rfl rfl (S.free 0 rfl) rfl rfl) ?_; replace S := S.put 0 rfl (#[.int .i64 p128.1, .slice B129 p128.2.1.length d131, .int .i64 p128.2.2.1, .slice B132 p128.2.2.2.1.length d134, .int .i64 p128.2.2.2.2.1, .int .i64 p128.2.2.2.2.2.1, .int .i64 p128.2.2.2.2.2.2.1, .int .i64 p128.2.2.2.2.2.2.2.1])
        generalize World.setRow _ _ _ = u at S ⊢
        refine op_val (v := .bool p128.2.2.2.2.2.2.2.2) rfl rfl hF rfl (run_assign rfl (hF.ev rfl)) ?_; clear hF; intro a hF
        refine wpList_nil ?_
        refine wp_seq ?_
        refine wp_region_lit ?_
        refine op_val (v := .bool p128.2.2.2.2.2.2.2.2) rfl rfl hF rfl (run_move rfl (hF.ev rfl)) ?_; clear hF; intro a hF
        refine wpList_nil ?_
        obtain ⟨o137, hM142, hM119⟩ := bind_ex hM119
        refine wp_cut (fun a u => ∃ (p136 : Int × Int × List Int × Int × List Int × Int × Int × Int × Int) (B138 : Option Addr) (d139 : Nat) (B140 : Option Addr) (d141 : Nat), p136 = o137 ∧ Fr a 37 [(4, .pointer (some ⟨g102, 0, none⟩)), (5, .int .i64 0), (6, .pointer (some ⟨g112, 0, none⟩)), (7, .int .i64 p136.1), (18, .slice A8 x8.length c8), (19, .int .i64 (x8.length : Int)), (20, .int .i64 p120.2.1)] ∧ St w u [.box g112 25 #[.int .i64 p136.2.1, .slice B138 p136.2.2.1.length d139, .int .i64 p136.2.2.2.1, .slice B140 p136.2.2.2.2.1.length d141, .int .i64 p136.2.2.2.2.2.1, .int .i64 p136.2.2.2.2.2.2.1, .int .i64 p136.2.2.2.2.2.2.2.1, .int .i64 p136.2.2.2.2.2.2.2.2], .box g102 25 #[.int .i64 0, .slice none 0 0, .int .i64 0, .slice none 0 0, .int .i64 0, .int .i64 0, .int .i64 0, .int .i64 0], .row 3 1 (.slice B138 p136.2.2.1.length d139) p136.2.2.1.length (p136.2.2.1.flatMap eI), .row 3 1 (.slice B140 p136.2.2.2.2.1.length d141) p136.2.2.2.2.1.length (p136.2.2.2.2.1.flatMap eI)]) ?_ ?_
        · have _ := trivial
          cases hc143 : (p128.2.2.2.2.2.2.2.2)
          · replace hM142 := bif_f hc143 hM142
            refine cond_f hF rfl hc143 ?_
            refine wp_skip ?_
            obtain rfl := Option.some.inj hM142
            exact ⟨(p120.1, p120.2.2.1, p120.2.2.2.1, p120.2.2.2.2.1, p120.2.2.2.2.2.1, p120.2.2.2.2.2.2.1, p120.2.2.2.2.2.2.2.1, p120.2.2.2.2.2.2.2.2.1, p120.2.2.2.2.2.2.2.2.2), B121, d122, B123, d124, rfl, hF.keep _ ⟨rfl, rfl, rfl, rfl, rfl, rfl, rfl, trivial⟩, S.sel [4, 5, 6, 7] rfl rfl⟩
          · replace hM142 := bif_t hc143 hM142
            refine cond_t hF rfl hc143 ?_
            refine wp_seq ?_
            refine wp_region_lit ?_
            refine op_val (v := .agg #[.int .i64 p128.1, .slice B129 p128.2.1.length d131, .int .i64 p128.2.2.1, .slice B132 p128.2.2.2.1.length d134, .int .i64 p128.2.2.2.2.1, .int .i64 p128.2.2.2.2.2.1, .int .i64 p128.2.2.2.2.2.2.1, .int .i64 p128.2.2.2.2.2.2.2.1]) rfl rfl hF rfl (run_loadN rfl ag25 (hF.ev rfl) rfl ((S.free 0 rfl).cells 0 #[.int .i64 p128.1, .slice B129 p128.2.1.length d131, .int .i64 p128.2.2.1, .slice B132 p128.2.2.2.1.length d134, .int .i64 p128.2.2.2.2.1, .int .i64 p128.2.2.2.2.2.1, .int .i64 p128.2.2.2.2.2.2.1, .int .i64 p128.2.2.2.2.2.2.2.1] rfl)) ?_; clear hF; intro a hF
            refine op_do rfl rfl (run_store (cs' := #[.int .i64 p128.1, .slice B129 p128.2.1.length d131, .int .i64 p128.2.2.1, .slice B132 p128.2.2.2.1.length d134, .int .i64 p128.2.2.2.2.1, .int .i64 p128.2.2.2.2.2.1, .int .i64 p128.2.2.2.2.2.2.1, .int .i64 p128.2.2.2.2.2.2.2.1]) rfl sz25 (hF.ev rfl) (hF.ev rfl) rfl rfl rfl (S.free 4 rfl) rfl rfl) ?_; replace S := S.put 4 rfl (#[.int .i64 p128.1, .slice B129 p128.2.1.length d131, .int .i64 p128.2.2.1, .slice B132 p128.2.2.2.1.length d134, .int .i64 p128.2.2.2.2.1, .int .i64 p128.2.2.2.2.2.1, .int .i64 p128.2.2.2.2.2.2.1, .int .i64 p128.2.2.2.2.2.2.2.1])
            generalize World.setRow _ _ _ = u at S ⊢
            refine wpList_nil ?_
            refine wp_region_lit ?_
            refine op_val (v := .int .i64 p120.1) rfl rfl hF rfl (run_move rfl (hF.ev rfl)) ?_; clear hF; intro a hF
            refine op_val (v := .int .i64 (w64 (p120.1 + 1))) rfl rfl hF rfl (run_add (z := w64 (p120.1 + 1)) (hF.ev rfl) rfl rfl rfl) ?_; clear hF; intro a hF
            refine op_val (v := .int .i64 (w64 (p120.1 + 1))) rfl rfl hF rfl (run_assign rfl (hF.ev rfl)) ?_; clear hF; intro a hF
            refine wpList_nil ?_
            obtain rfl := Option.some.inj hM142
            exact ⟨(w64 (p120.1 + 1), p128.1, p128.2.1, p128.2.2.1, p128.2.2.2.1, p128.2.2.2.2.1, p128.2.2.2.2.2.1, p128.2.2.2.2.2.2.1, p128.2.2.2.2.2.2.2.1), B129, d131, B132, d134, rfl, hF.keep _ ⟨rfl, rfl, rfl, rfl, rfl, rfl, rfl, trivial⟩, S.sel [4, 5, 1, 2] rfl rfl⟩
        · rintro a u ⟨p136, B138, d139, B140, d141, rfl, hF, S⟩
          refine wp_region_lit ?_
          refine op_val (v := .int .i64 (w64 (p120.2.1 + 1))) rfl rfl hF rfl (run_add (z := w64 (p120.2.1 + 1)) (hF.ev rfl) rfl rfl rfl) ?_; clear hF; intro a hF
          refine op_val (v := .int .i64 (w64 (p120.2.1 + 1))) rfl rfl hF rfl (run_move rfl (hF.ev rfl)) ?_; clear hF; intro a hF
          refine wpList_nil ?_
          exact ⟨f1, Nat.lt_succ_self _, (p136.1, w64 (p120.2.1 + 1), p136.2.1, p136.2.2.1, p136.2.2.2.1, p136.2.2.2.2.1, p136.2.2.2.2.2.1, p136.2.2.2.2.2.2.1, p136.2.2.2.2.2.2.2.1, p136.2.2.2.2.2.2.2.2), B138, d139, B140, d141, hM119, hF.keep _ ⟨rfl, rfl, rfl, rfl, rfl, rfl, rfl, trivial⟩, S.sel [0, 1, 2, 3] rfl rfl⟩
    · rintro a u ⟨p113, B115, d116, B117, d118, rfl, hF, S⟩
      refine wp_seq ?_
      refine wp_region_lit ?_
      refine op_val (v := .agg #[.int .i64 p113.2.1, .slice B115 p113.2.2.1.length d116, .int .i64 p113.2.2.2.1, .slice B117 p113.2.2.2.2.1.length d118, .int .i64 p113.2.2.2.2.2.1, .int .i64 p113.2.2.2.2.2.2.1, .int .i64 p113.2.2.2.2.2.2.2.1, .int .i64 p113.2.2.2.2.2.2.2.2]) rfl rfl hF rfl (run_loadN rfl ag25 (hF.ev rfl) rfl ((S.free 0 rfl).cells 0 #[.int .i64 p113.2.1, .slice B115 p113.2.2.1.length d116, .int .i64 p113.2.2.2.1, .slice B117 p113.2.2.2.2.1.length d118, .int .i64 p113.2.2.2.2.2.1, .int .i64 p113.2.2.2.2.2.2.1, .int .i64 p113.2.2.2.2.2.2.2.1, .int .i64 p113.2.2.2.2.2.2.2.2] rfl)) ?_; clear hF; intro a hF
      refine op_val (v := .int .i64 p113.1) rfl rfl hF rfl (run_move rfl (hF.ev rfl)) ?_; clear hF; intro a hF
      refine op_do rfl rfl (run_store (cs' := #[.int .i64 p113.2.1, .slice B115 p113.2.2.1.length d116, .int .i64 p113.2.2.2.1, .slice B117 p113.2.2.2.2.1.length d118, .int .i64 p113.2.2.2.2.2.1, .int .i64 p113.2.2.2.2.2.2.1, .int .i64 p113.2.2.2.2.2.2.2.1, .int .i64 p113.2.2.2.2.2.2.2.2]) rfl sz25 (hF.ev rfl) (hF.ev rfl) rfl rfl rfl (S.free 1 rfl) rfl rfl) ?_; replace S := S.put 1 rfl (#[.int .i64 p113.2.1, .slice B115 p113.2.2.1.length d116, .int .i64 p113.2.2.2.1, .slice B117 p113.2.2.2.2.1.length d118, .int .i64 p113.2.2.2.2.2.1, .int .i64 p113.2.2.2.2.2.2.1, .int .i64 p113.2.2.2.2.2.2.2.1, .int .i64 p113.2.2.2.2.2.2.2.2])
      generalize World.setRow _ _ _ = u at S ⊢
      refine op_val (v := .int .i64 p113.1) rfl rfl hF rfl (run_assign rfl (hF.ev rfl)) ?_; clear hF; intro a hF
      refine wpList_nil ?_
      refine wp_ret ?_
      repeat with_reducible (first | refine then_ret ?_ | refine in_ret ?_ | refine in_nrm ?_)
      refine ret2_gw (.inl rfl) hF rfl (res_cell (hF.ev rfl) (res_loadN ag25 rfl (S.cells 1 rfl 0 #[.int .i64 p113.2.1, .slice B115 p113.2.2.1.length d116, .int .i64 p113.2.2.2.1, .slice B117 p113.2.2.2.2.1.length d118, .int .i64 p113.2.2.2.2.2.1, .int .i64 p113.2.2.2.2.2.2.1, .int .i64 p113.2.2.2.2.2.2.2.1, .int .i64 p113.2.2.2.2.2.2.2.2] rfl))) (res_tmp (hF.ev rfl)) ?_
      obtain rfl := Option.some.inj hM
      exact ⟨B115, p113.2.2.1.length, d116, B117, p113.2.2.2.2.1.length, d118, rfl, rfl, rfl, S.sel [2, 3] rfl rfl⟩

end Go.Proofs.YtceghkdjpkegaaaDoor
