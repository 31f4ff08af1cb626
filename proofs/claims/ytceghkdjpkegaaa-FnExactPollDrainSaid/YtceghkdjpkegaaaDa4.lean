/- Calls return what the models say. -/
import Derived.Test.YtceghkdjpkegaaaDa3
namespace Go.Proofs.Ytceghkdjpkegaaa
open Go.ChangeShapes Go.WideShapes Go.ChangeAt Go.RowKit
set_option linter.unusedVariables false
set_option linter.unusedSimpArgs false

set_option maxHeartbeats 4000000 in
theorem c_laws_FnExactPollRun {x0 : Int} {x1 : List Int} {x2 : Int} {x3 : List Int} {x4 : Int} {x5 : Int} {x6 : Int} {x7 : Int} {x8 : List (Int × Int)} {A1 : Option Addr} {n1 c1 : Nat} {A3 : Option Addr} {n3 c3 : Nat} {A8 : Option Addr} {n8 c8 : Nat} {w : World} {r : Bool} (h1 : Rt w 1 eI A1 n1 c1 x1) (h3 : Rt w 1 eI A3 n3 c3 x3) (h8 : Rt w 2 eLPollDeed A8 n8 c8 x8) (hM : m_laws_FnExactPollRun x0 x1 x2 x3 x4 x5 x6 x7 x8 = some r) :
    Calls Try.prog 5 #[.agg #[.int .i64 x0, .slice A1 n1 c1, .int .i64 x2, .slice A3 n3 c3, .int .i64 x4, .int .i64 x5, .int .i64 x6, .int .i64 x7], .slice A8 n8 c8] w (fun e w' => e = .returned (.bool r) ∧ St w w' []) := by
  obtain rfl := h1.len
  obtain rfl := h3.len
  obtain rfl := h8.len
  unfold m_laws_FnExactPollRun at hM
  refine calls_gw Try.func5 Try.ntmps5 rfl [(0, .agg #[.int .i64 x0, .slice A1 x1.length c1, .int .i64 x2, .slice A3 x3.length c3, .int .i64 x4, .int .i64 x5, .int .i64 x6, .int .i64 x7]), (1, .slice A8 x8.length c8)] ⟨rfl, rfl, trivial⟩ rfl ?_
  intro a hF
  have S := St.nil w
  refine wp_seq ?_
  refine wp_region_lit ?_
  refine op_new (cs := #[.int .i64 x0, .slice A1 x1.length c1, .int .i64 x2, .slice A3 x3.length c3, .int .i64 x4, .int .i64 x5, .int .i64 x6, .int .i64 x7]) rfl rfl hF rfl S (run_box rfl (hF.ev rfl) rfl) ?_; clear hF S; intro a g101 u hF S
  refine op_val (v := .bool false) rfl rfl hF rfl (run_assign rfl rfl) ?_; clear hF; intro a hF
  refine wpList_nil ?_
  refine wp_seq ?_
  refine wp_region_lit ?_
  refine op_val (v := .int .i64 1048576) rfl rfl hF rfl (run_assign rfl rfl) ?_; clear hF; intro a hF
  refine wpList_nil ?_
  refine wp_seq ?_
  refine wp_region_lit ?_
  refine op_val (v := .agg #[.int .i64 x0, .slice A1 x1.length c1, .int .i64 x2, .slice A3 x3.length c3, .int .i64 x4, .int .i64 x5, .int .i64 x6, .int .i64 x7]) rfl rfl hF rfl (run_loadN rfl ag24 (hF.ev rfl) rfl ((S.free 0 rfl).cells 0 #[.int .i64 x0, .slice A1 x1.length c1, .int .i64 x2, .slice A3 x3.length c3, .int .i64 x4, .int .i64 x5, .int .i64 x6, .int .i64 x7] rfl)) ?_; clear hF; intro a hF
  refine op_val (v := .int .i64 1048576) rfl rfl hF rfl (run_move rfl (hF.ev rfl)) ?_; clear hF; intro a hF
  obtain ⟨p102, h102, hM⟩ := bind_ex hM
  refine op_call rfl rfl hF rfl (run_call (vs := [.agg #[.int .i64 x0, .slice A1 x1.length c1, .int .i64 x2, .slice A3 x3.length c3, .int .i64 x4, .int .i64 x5, .int .i64 x6, .int .i64 x7], .int .i64 1048576]) rfl rfl co6 ⟨(hF.ev rfl), (hF.ev rfl), trivial⟩) (c_laws_szPoll (x0 := x0) (x1 := x1) (x2 := x2) (x3 := x3) (x4 := x4) (x5 := x5) (x6 := x6) (x7 := x7) (x8 := 1048576) ⟨(S.rc0 h1.rc), rfl⟩ ⟨(S.rc0 h3.rc), rfl⟩ h102) ?_
  rintro e u ⟨rfl, T⟩
  refine ⟨_, rfl, ?_⟩
  clear hF; intro a hF
  replace S := S.call0 T; clear T
  refine op_val (v := .int .i64 p102) rfl rfl hF rfl (run_assign rfl (hF.ev rfl)) ?_; clear hF; intro a hF
  refine wpList_nil ?_
  refine wp_seq ?_
  refine wp_seq ?_
  refine wp_region_lit ?_
  refine op_val (v := .int .i64 p102) rfl rfl hF rfl (run_move rfl (hF.ev rfl)) ?_; clear hF; intro a hF
  refine op_val (v := .bool (ltB p102 0)) rfl rfl hF rfl (run_lss (hF.ev rfl) rfl rfl) ?_; clear hF; intro a hF
  refine wpList_nil ?_
  cases hc103 : (ltB p102 0)
  · replace hM := bif_f hc103 hM
    refine cond_f hF rfl hc103 ?_
    refine wp_skip ?_
    refine wp_seq ?_
    refine wp_region_lit ?_
    refine op_val (v := .slice A8 x8.length c8) rfl rfl hF rfl (run_move rfl (hF.ev rfl)) ?_; clear hF; intro a hF
    refine op_val (v := .int .i64 p102) rfl rfl hF rfl (run_move rfl (hF.ev rfl)) ?_; clear hF; intro a hF
    obtain ⟨p104, h104, hM⟩ := bind_ex hM
    refine op_call rfl rfl hF rfl (run_call (vs := [.slice A8 x8.length c8, .int .i64 p102]) rfl rfl co16 ⟨(hF.ev rfl), (hF.ev rfl), trivial⟩) (c_laws_szPollDeedS (x0 := x8) (x1 := p102) ⟨(S.rc0 h8.rc), rfl⟩ h104) ?_
    rintro e u ⟨rfl, T⟩
    refine ⟨_, rfl, ?_⟩
    clear hF; intro a hF
    replace S := S.call0 T; clear T
    refine op_val (v := .int .i64 p104) rfl rfl hF rfl (run_assign rfl (hF.ev rfl)) ?_; clear hF; intro a hF
    refine wpList_nil ?_
    refine wp_seq ?_
    refine wp_seq ?_
    refine wp_region_lit ?_
    refine op_val (v := .int .i64 p104) rfl rfl hF rfl (run_move rfl (hF.ev rfl)) ?_; clear hF; intro a hF
    refine op_val (v := .bool (ltB p104 0)) rfl rfl hF rfl (run_lss (hF.ev rfl) rfl rfl) ?_; clear hF; intro a hF
    refine wpList_nil ?_
    cases hc105 : (ltB p104 0)
    · replace hM := bif_f hc105 hM
      refine cond_f hF rfl hc105 ?_
      refine wp_skip ?_
      refine wp_seq ?_
      refine wp_region_lit ?_
      refine op_val (v := .agg #[.int .i64 x0, .slice A1 x1.length c1, .int .i64 x2, .slice A3 x3.length c3, .int .i64 x4, .int .i64 x5, .int .i64 x6, .int .i64 x7]) rfl rfl hF rfl (run_loadN rfl ag24 (hF.ev rfl) rfl ((S.free 0 rfl).cells 0 #[.int .i64 x0, .slice A1 x1.length c1, .int .i64 x2, .slice A3 x3.length c3, .int .i64 x4, .int .i64 x5, .int .i64 x6, .int .i64 x7] rfl)) ?_; clear hF; intro a hF
      obtain ⟨p106, h106, hM⟩ := bind_ex hM
      refine op_call rfl rfl hF rfl (run_call (vs := [.agg #[.int .i64 x0, .slice A1 x1.length c1, .int .i64 x2, .slice A3 x3.length c3, .int .i64 x4, .int .i64 x5, .int .i64 x6, .int .i64 x7]]) rfl rfl co8 ⟨(hF.ev rfl), trivial⟩) (c_laws_toPoll (x0 := x0) (x1 := x1) (x2 := x2) (x3 := x3) (x4 := x4) (x5 := x5) (x6 := x6) (x7 := x7) ⟨(S.rc0 h1.rc), rfl⟩ ⟨(S.rc0 h3.rc), rfl⟩ h106) ?_
      rintro e u ⟨B107, n108, d109, B110, n111, d112, rfl, rfl, rfl, T⟩
      refine ⟨_, rfl, ?_⟩
      clear hF; intro a hF
      replace S := S.call2 T; clear T
      refine op_val (v := .slice A8 x8.length c8) rfl rfl hF rfl (run_move rfl (hF.ev rfl)) ?_; clear hF; intro a hF
      obtain ⟨p113, h113, hM⟩ := bind_ex hM
      refine op_call rfl rfl hF rfl (run_call (vs := [.slice A8 x8.length c8]) rfl rfl co18 ⟨(hF.ev rfl), trivial⟩) (c_laws_toPollDeedS (x0 := x8) ⟨(S.rc0 h8.rc), rfl⟩ h113) ?_
      rintro e u ⟨B114, n115, d116, rfl, rfl, T⟩
      refine ⟨_, rfl, ?_⟩
      clear hF; intro a hF
      replace S := S.call1 T; clear T
      obtain ⟨p117, h117, hM⟩ := bind_ex hM
      refine op_call rfl rfl hF rfl (run_call (vs := [.agg #[.int .i64 p106.1, .slice B107 p106.2.1.length d109, .int .i64 p106.2.2.1, .slice B110 p106.2.2.2.1.length d112, .int .i64 p106.2.2.2.2.1, .int .i64 p106.2.2.2.2.2.1, .int .i64 p106.2.2.2.2.2.2.1, .int .i64 p106.2.2.2.2.2.2.2], .slice B114 p113.length d116]) rfl rfl co17 ⟨(hF.ev rfl), (hF.ev rfl), trivial⟩) (c_spec_PollRun (x0 := p106.1) (x1 := p106.2.1) (x2 := p106.2.2.1) (x3 := p106.2.2.2.1) (x4 := p106.2.2.2.2.1) (x5 := p106.2.2.2.2.2.1) (x6 := p106.2.2.2.2.2.2.1) (x7 := p106.2.2.2.2.2.2.2) (x8 := p113) ⟨(S.rc 1 rfl), rfl⟩ ⟨(S.rc 2 rfl), rfl⟩ ⟨(S.rc 0 rfl), rfl⟩ h117) ?_
      rintro e u ⟨B118, n119, d120, B121, n122, d123, rfl, rfl, rfl, T⟩
      refine ⟨_, rfl, ?_⟩
      clear hF; intro a hF
      replace S := S.call2 T; clear T
      refine op_val (v := .tuple #[.agg #[.int .i64 p117.1, .slice B118 p117.2.1.length d120, .int .i64 p117.2.2.1, .slice B121 p117.2.2.2.1.length d123, .int .i64 p117.2.2.2.2.1, .int .i64 p117.2.2.2.2.2.1, .int .i64 p117.2.2.2.2.2.2.1, .int .i64 p117.2.2.2.2.2.2.2.1], .int .i64 p117.2.2.2.2.2.2.2.2]) rfl rfl hF rfl (run_move rfl (hF.ev rfl)) ?_; clear hF; intro a hF
      refine op_val (v := .agg #[.int .i64 p117.1, .slice B118 p117.2.1.length d120, .int .i64 p117.2.2.1, .slice B121 p117.2.2.2.1.length d123, .int .i64 p117.2.2.2.2.1, .int .i64 p117.2.2.2.2.2.1, .int .i64 p117.2.2.2.2.2.2.1, .int .i64 p117.2.2.2.2.2.2.2.1]) rfl rfl hF rfl (run_extract rfl (hF.ev rfl) rfl) ?_; clear hF; intro a hF
      refine op_val (v := .int .i64 p117.2.2.2.2.2.2.2.2) rfl rfl hF rfl (run_extract rfl (hF.ev rfl) rfl) ?_; clear hF; intro a hF
      refine op_new (cs := #[.int .i64 0, .slice none 0 0, .int .i64 0, .slice none 0 0, .int .i64 0, .int .i64 0, .int .i64 0, .int .i64 0]) rfl rfl hF rfl S (run_allocZ rfl zr28) ?_; clear hF S; intro a g124 u hF S
      refine op_do rfl rfl (run_store (cs' := #[.int .i64 p117.1, .slice B118 p117.2.1.length d120, .int .i64 p117.2.2.1, .slice B121 p117.2.2.2.1.length d123, .int .i64 p117.2.2.2.2.1, .int .i64 p117.2.2.2.2.2.1, .int .i64 p117.2.2.2.2.2.2.1, .int .i64 p117.2.2.2.2.2.2.2.1]) rfl sz28 (hF.ev rfl) (hF.ev rfl) rfl rfl rfl (S.free 0 rfl) rfl rfl) ?_; replace S := S.put 0 rfl (#[.int .i64 p117.1, .slice B118 p117.2.1.length d120, .int .i64 p117.2.2.1, .slice B121 p117.2.2.2.1.length d123, .int .i64 p117.2.2.2.2.1, .int .i64 p117.2.2.2.2.2.1, .int .i64 p117.2.2.2.2.2.2.1, .int .i64 p117.2.2.2.2.2.2.2.1])
      generalize World.setRow _ _ _ = u at S ⊢
      refine op_val (v := .int .i64 p117.2.2.2.2.2.2.2.2) rfl rfl hF rfl (run_assign rfl (hF.ev rfl)) ?_; clear hF; intro a hF
      refine wpList_nil ?_
      refine wp_seq ?_
      refine wp_region_lit ?_
      refine op_val (v := .agg #[.int .i64 x0, .slice A1 x1.length c1, .int .i64 x2, .slice A3 x3.length c3, .int .i64 x4, .int .i64 x5, .int .i64 x6, .int .i64 x7]) rfl rfl hF rfl (run_loadN rfl ag24 (hF.ev rfl) rfl ((S.free 6 rfl).cells 0 #[.int .i64 x0, .slice A1 x1.length c1, .int .i64 x2, .slice A3 x3.length c3, .int .i64 x4, .int .i64 x5, .int .i64 x6, .int .i64 x7] rfl)) ?_; clear hF; intro a hF
      obtain ⟨p125, h125, hM⟩ := bind_ex hM
      refine op_call rfl rfl hF rfl (run_call (vs := [.agg #[.int .i64 x0, .slice A1 x1.length c1, .int .i64 x2, .slice A3 x3.length c3, .int .i64 x4, .int .i64 x5, .int .i64 x6, .int .i64 x7]]) rfl rfl co8 ⟨(hF.ev rfl), trivial⟩) (c_laws_toPoll (x0 := x0) (x1 := x1) (x2 := x2) (x3 := x3) (x4 := x4) (x5 := x5) (x6 := x6) (x7 := x7) ⟨(S.rc0 h1.rc), rfl⟩ ⟨(S.rc0 h3.rc), rfl⟩ h125) ?_
      rintro e u ⟨B126, n127, d128, B129, n130, d131, rfl, rfl, rfl, T⟩
      refine ⟨_, rfl, ?_⟩
      clear hF; intro a hF
      replace S := S.call2 T; clear T
      refine op_new (cs := #[.int .i64 0, .slice none 0 0, .int .i64 0, .slice none 0 0, .int .i64 0, .int .i64 0, .int .i64 0, .int .i64 0]) rfl rfl hF rfl S (run_allocZ rfl zr28) ?_; clear hF S; intro a g132 u hF S
      refine op_do rfl rfl (run_store (cs' := #[.int .i64 p125.1, .slice B126 p125.2.1.length d128, .int .i64 p125.2.2.1, .slice B129 p125.2.2.2.1.length d131, .int .i64 p125.2.2.2.2.1, .int .i64 p125.2.2.2.2.2.1, .int .i64 p125.2.2.2.2.2.2.1, .int .i64 p125.2.2.2.2.2.2.2]) rfl sz28 (hF.ev rfl) (hF.ev rfl) rfl rfl rfl (S.free 0 rfl) rfl rfl) ?_; replace S := S.put 0 rfl (#[.int .i64 p125.1, .slice B126 p125.2.1.length d128, .int .i64 p125.2.2.1, .slice B129 p125.2.2.2.1.length d131, .int .i64 p125.2.2.2.2.1, .int .i64 p125.2.2.2.2.2.1, .int .i64 p125.2.2.2.2.2.2.1, .int .i64 p125.2.2.2.2.2.2.2])
      generalize World.setRow _ _ _ = u at S ⊢
      refine wpList_nil ?_
      refine wp_seq ?_
      refine wp_region_lit ?_
      refine op_val (v := .slice A8 x8.length c8) rfl rfl hF rfl (run_move rfl (hF.ev rfl)) ?_; clear hF; intro a hF
      obtain ⟨p133, h133, hM⟩ := bind_ex hM
      refine op_call rfl rfl hF rfl (run_call (vs := [.slice A8 x8.length c8]) rfl rfl co18 ⟨(hF.ev rfl), trivial⟩) (c_laws_toPollDeedS (x0 := x8) ⟨(S.rc0 h8.rc), rfl⟩ h133) ?_
      rintro e u ⟨B134, n135, d136, rfl, rfl, T⟩
      refine ⟨_, rfl, ?_⟩
      clear hF; intro a hF
      replace S := S.call1 T; clear T
      refine op_val (v := .slice B134 p133.length d136) rfl rfl hF rfl (run_assign rfl (hF.ev rfl)) ?_; clear hF; intro a hF
      refine wpList_nil ?_
      refine wp_seq ?_
      refine wp_region_lit ?_
      refine op_val (v := .agg #[.int .i64 p125.1, .slice B126 p125.2.1.length d128, .int .i64 p125.2.2.1, .slice B129 p125.2.2.2.1.length d131, .int .i64 p125.2.2.2.2.1, .int .i64 p125.2.2.2.2.2.1, .int .i64 p125.2.2.2.2.2.2.1, .int .i64 p125.2.2.2.2.2.2.2]) rfl rfl hF rfl (run_loadN rfl ag28 (hF.ev rfl) rfl ((S.free 1 rfl).cells 0 #[.int .i64 p125.1, .slice B126 p125.2.1.length d128, .int .i64 p125.2.2.1, .slice B129 p125.2.2.2.1.length d131, .int .i64 p125.2.2.2.2.1, .int .i64 p125.2.2.2.2.2.1, .int .i64 p125.2.2.2.2.2.2.1, .int .i64 p125.2.2.2.2.2.2.2] rfl)) ?_; clear hF; intro a hF
      refine op_val (v := .slice B134 p133.length d136) rfl rfl hF rfl (run_move rfl (hF.ev rfl)) ?_; clear hF; intro a hF
      obtain ⟨p137, h137, hM⟩ := bind_ex hM
      refine op_call rfl rfl hF rfl (run_call (vs := [.agg #[.int .i64 p125.1, .slice B126 p125.2.1.length d128, .int .i64 p125.2.2.1, .slice B129 p125.2.2.2.1.length d131, .int .i64 p125.2.2.2.2.1, .int .i64 p125.2.2.2.2.2.1, .int .i64 p125.2.2.2.2.2.2.1, .int .i64 p125.2.2.2.2.2.2.2], .slice B134 p133.length d136]) rfl rfl co19 ⟨(hF.ev rfl), (hF.ev rfl), trivial⟩) (c_impl_PollRun (x0 := p125.1) (x1 := p125.2.1) (x2 := p125.2.2.1) (x3 := p125.2.2.2.1) (x4 := p125.2.2.2.2.1) (x5 := p125.2.2.2.2.2.1) (x6 := p125.2.2.2.2.2.2.1) (x7 := p125.2.2.2.2.2.2.2) (x8 := p133) ⟨(S.rc 2 rfl), rfl⟩ ⟨(S.rc 3 rfl), rfl⟩ ⟨(S.rc 0 rfl), rfl⟩ h137) ?_
      rintro e u ⟨B138, n139, d140, B141, n142, d143, rfl, rfl, rfl, T⟩
      refine ⟨_, rfl, ?_⟩
      clear hF; intro a hF
      replace S := S.call2 T; clear T
      refine op_val (v := .tuple #[.agg #[.int .i64 p137.1, .slice B138 p137.2.1.length d140, .int .i64 p137.2.2.1, .slice B141 p137.2.2.2.1.length d143, .int .i64 p137.2.2.2.2.1, .int .i64 p137.2.2.2.2.2.1, .int .i64 p137.2.2.2.2.2.2.1, .int .i64 p137.2.2.2.2.2.2.2.1], .int .i64 p137.2.2.2.2.2.2.2.2]) rfl rfl hF rfl (run_move rfl (hF.ev rfl)) ?_; clear hF; intro a hF
      refine op_val (v := .agg #[.int .i64 p137.1, .slice B138 p137.2.1.length d140, .int .i64 p137.2.2.1, .slice B141 p137.2.2.2.1.length d143, .int .i64 p137.2.2.2.2.1, .int .i64 p137.2.2.2.2.2.1, .int .i64 p137.2.2.2.2.2.2.1, .int .i64 p137.2.2.2.2.2.2.2.1]) rfl rfl hF rfl (run_extract rfl (hF.ev rfl) rfl) ?_; clear hF; intro a hF
      refine op_val (v := .int .i64 p137.2.2.2.2.2.2.2.2) rfl rfl hF rfl (run_extract rfl (hF.ev rfl) rfl) ?_; clear hF; intro a hF
      refine op_new (cs := #[.int .i64 0, .slice none 0 0, .int .i64 0, .slice none 0 0, .int .i64 0, .int .i64 0, .int .i64 0, .int .i64 0]) rfl rfl hF rfl S (run_allocZ rfl zr28) ?_; clear hF S; intro a g144 u hF S
      refine op_do rfl rfl (run_store (cs' := #[.int .i64 p137.1, .slice B138 p137.2.1.length d140, .int .i64 p137.2.2.1, .slice B141 p137.2.2.2.1.length d143, .int .i64 p137.2.2.2.2.1, .int .i64 p137.2.2.2.2.2.1, .int .i64 p137.2.2.2.2.2.2.1, .int .i64 p137.2.2.2.2.2.2.2.1]) rfl sz28 (hF.ev rfl) (hF.ev rfl) rfl rfl rfl (S.free 0 rfl) rfl rfl) ?_; replace S := S.put 0 rfl (#[.int .i64 p137.1, .slice B138 p137.2.1.length d140, .int .i64 p137.2.2.1, .slice B141 p137.2.2.2.1.length d143, .int .i64 p137.2.2.2.2.1, .int .i64 p137.2.2.2.2.2.1, .int .i64 p137.2.2.2.2.2.2.1, .int .i64 p137.2.2.2.2.2.2.2.1])
      generalize World.setRow _ _ _ = u at S ⊢
      refine op_val (v := .int .i64 p137.2.2.2.2.2.2.2.2) rfl rfl hF rfl (run_assign rfl (hF.ev rfl)) ?_; clear hF; intro a hF
      refine wpList_nil ?_
      refine wp_seq ?_
      refine wp_seq ?_
      refine wp_region_lit ?_
      refine op_val (v := .agg #[.int .i64 p137.1, .slice B138 p137.2.1.length d140, .int .i64 p137.2.2.1, .slice B141 p137.2.2.2.1.length d143, .int .i64 p137.2.2.2.2.1, .int .i64 p137.2.2.2.2.2.1, .int .i64 p137.2.2.2.2.2.2.1, .int .i64 p137.2.2.2.2.2.2.2.1]) rfl rfl hF rfl (run_loadN rfl ag28 (hF.ev rfl) rfl ((S.free 0 rfl).cells 0 #[.int .i64 p137.1, .slice B138 p137.2.1.length d140, .int .i64 p137.2.2.1, .slice B141 p137.2.2.2.1.length d143, .int .i64 p137.2.2.2.2.1, .int .i64 p137.2.2.2.2.2.1, .int .i64 p137.2.2.2.2.2.2.1, .int .i64 p137.2.2.2.2.2.2.2.1] rfl)) ?_; clear hF; intro a hF
      refine op_val (v := .agg #[.int .i64 p117.1, .slice B118 p117.2.1.length d120, .int .i64 p117.2.2.1, .slice B121 p117.2.2.2.1.length d123, .int .i64 p117.2.2.2.2.1, .int .i64 p117.2.2.2.2.2.1, .int .i64 p117.2.2.2.2.2.2.1, .int .i64 p117.2.2.2.2.2.2.2.1]) rfl rfl hF rfl (run_loadN rfl ag28 (hF.ev rfl) rfl ((S.free 7 rfl).cells 0 #[.int .i64 p117.1, .slice B118 p117.2.1.length d120, .int .i64 p117.2.2.1, .slice B121 p117.2.2.2.1.length d123, .int .i64 p117.2.2.2.2.1, .int .i64 p117.2.2.2.2.2.1, .int .i64 p117.2.2.2.2.2.2.1, .int .i64 p117.2.2.2.2.2.2.2.1] rfl)) ?_; clear hF; intro a hF
      obtain ⟨p145, h145, hM⟩ := bind_ex hM
      refine op_call rfl rfl hF rfl (run_call (vs := [.agg #[.int .i64 p137.1, .slice B138 p137.2.1.length d140, .int .i64 p137.2.2.1, .slice B141 p137.2.2.2.1.length d143, .int .i64 p137.2.2.2.2.1, .int .i64 p137.2.2.2.2.2.1, .int .i64 p137.2.2.2.2.2.2.1, .int .i64 p137.2.2.2.2.2.2.2.1], .agg #[.int .i64 p117.1, .slice B118 p117.2.1.length d120, .int .i64 p117.2.2.1, .slice B121 p117.2.2.2.1.length d123, .int .i64 p117.2.2.2.2.1, .int .i64 p117.2.2.2.2.2.1, .int .i64 p117.2.2.2.2.2.2.1, .int .i64 p117.2.2.2.2.2.2.2.1]]) rfl rfl co11 ⟨(hF.ev rfl), (hF.ev rfl), trivial⟩) (c_laws_eqPoll (x0 := p137.1) (x1 := p137.2.1) (x2 := p137.2.2.1) (x3 := p137.2.2.2.1) (x4 := p137.2.2.2.2.1) (x5 := p137.2.2.2.2.2.1) (x6 := p137.2.2.2.2.2.2.1) (x7 := p137.2.2.2.2.2.2.2.1) (x8 := p117.1) (x9 := p117.2.1) (x10 := p117.2.2.1) (x11 := p117.2.2.2.1) (x12 := p117.2.2.2.2.1) (x13 := p117.2.2.2.2.2.1) (x14 := p117.2.2.2.2.2.2.1) (x15 := p117.2.2.2.2.2.2.2.1) ⟨(S.rc 1 rfl), rfl⟩ ⟨(S.rc 2 rfl), rfl⟩ ⟨(S.rc 8 rfl), rfl⟩ ⟨(S.rc 9 rfl), rfl⟩ h145) ?_
      rintro e u ⟨rfl, T⟩
      refine ⟨_, rfl, ?_⟩
      clear hF; intro a hF
      replace S := S.call0 T; clear T
      refine op_val (v := .bool (!p145)) rfl rfl hF rfl (run_not rfl (hF.ev rfl)) ?_; clear hF; intro a hF
      refine op_val (v := .bool (!p145)) rfl rfl hF rfl (run_move rfl (hF.ev rfl)) ?_; clear hF; intro a hF
      refine op_gv (v := .int .i64 p137.2.2.2.2.2.2.2.2) rfl rfl hF rfl (yf (gw_yield hF rfl rfl rfl)) (fun hg => (run_move rfl (hF.ev rfl))) ?_; clear hF; intro a hF
      refine op_gv (v := .int .i64 p117.2.2.2.2.2.2.2.2) rfl rfl hF rfl (yf (gw_yield hF rfl rfl rfl)) (fun hg => (run_move rfl (hF.ev rfl))) ?_; clear hF; intro a hF
      refine op_gv (v := .bool (p137.2.2.2.2.2.2.2.2 != p117.2.2.2.2.2.2.2.2)) rfl rfl hF rfl (yf (gw_yield hF rfl rfl rfl)) (fun hg => (run_neq ((hF.ev rfl).trans (gv_t hg)) ((hF.ev rfl).trans (gv_t hg)) rfl)) ?_; clear hF; intro a hF
      refine op_val (v := .bool ((!p145) || (p137.2.2.2.2.2.2.2.2 != p117.2.2.2.2.2.2.2.2))) rfl rfl hF rfl (run_pick_or rfl (hF.ev rfl) rfl (fun hp => ((hF.ev rfl).trans (gv_t (not_t hp))))) ?_; clear hF; intro a hF
      refine wpList_nil ?_
      cases hc146 : ((!p145) || (p137.2.2.2.2.2.2.2.2 != p117.2.2.2.2.2.2.2.2))
      · replace hM := bif_f hc146 hM
        refine cond_f hF rfl hc146 ?_
        refine wp_skip ?_
        refine wp_seq ?_
        refine wp_seq ?_
        obtain ⟨p147, h147, hM⟩ := bind_ex hM
        obtain ⟨p154, h154, hM⟩ := bind_ex hM
        refine region_gw (D := [54, 55, 56, 57, 58]) (Lr := [.box g144 28 #[.int .i64 p137.1, .slice B138 p137.2.1.length d140, .int .i64 p137.2.2.1, .slice B141 p137.2.2.2.1.length d143, .int .i64 p137.2.2.2.2.1, .int .i64 p137.2.2.2.2.2.1, .int .i64 p137.2.2.2.2.2.2.1, .int .i64 p137.2.2.2.2.2.2.2.1], .row 3 1 (.slice B138 p137.2.1.length d140) p137.2.1.length (p137.2.1.flatMap eI), .row 3 1 (.slice B141 p137.2.2.2.1.length d143) p137.2.2.2.1.length (p137.2.2.2.1.flatMap eI), .row 32 2 (.slice B134 p133.length d136) p133.length (p133.flatMap ePollDeed), .box g132 28 #[.int .i64 p125.1, .slice B126 p125.2.1.length d128, .int .i64 p125.2.2.1, .slice B129 p125.2.2.2.1.length d131, .int .i64 p125.2.2.2.2.1, .int .i64 p125.2.2.2.2.2.1, .int .i64 p125.2.2.2.2.2.2.1, .int .i64 p125.2.2.2.2.2.2.2], .row 3 1 (.slice B126 p125.2.1.length d128) p125.2.1.length (p125.2.1.flatMap eI), .row 3 1 (.slice B129 p125.2.2.2.1.length d131) p125.2.2.2.1.length (p125.2.2.2.1.flatMap eI), .box g124 28 #[.int .i64 p117.1, .slice B118 p117.2.1.length d120, .int .i64 p117.2.2.1, .slice B121 p117.2.2.2.1.length d123, .int .i64 p117.2.2.2.2.1, .int .i64 p117.2.2.2.2.2.1, .int .i64 p117.2.2.2.2.2.2.1, .int .i64 p117.2.2.2.2.2.2.2.1], .row 3 1 (.slice B118 p117.2.1.length d120) p117.2.1.length (p117.2.1.flatMap eI), .row 3 1 (.slice B121 p117.2.2.2.1.length d123) p117.2.2.2.1.length (p117.2.2.2.1.flatMap eI), .row 32 2 (.slice B114 p113.length d116) p113.length (p113.flatMap ePollDeed), .row 3 1 (.slice B107 p106.2.1.length d109) p106.2.1.length (p106.2.1.flatMap eI), .row 3 1 (.slice B110 p106.2.2.2.1.length d112) p106.2.2.2.1.length (p106.2.2.2.1.flatMap eI), .box g101 24 #[.int .i64 x0, .slice A1 x1.length c1, .int .i64 x2, .slice A3 x3.length c3, .int .i64 x4, .int .i64 x5, .int .i64 x6, .int .i64 x7]]) (deps := (fun | 0 => [54] | 1 => [55] | 2 => [56] | 3 => [57] | 4 => [58] | _ => [])) (rd := (fun | 3 => [2] | _ => [])) (zr := (fun _ => []))
          (φ := fun i vs => match i, vs with | 0, [v54] => v54 = .agg #[.int .i64 p125.1, .slice B126 p125.2.1.length d128, .int .i64 p125.2.2.1, .slice B129 p125.2.2.2.1.length d131, .int .i64 p125.2.2.2.2.1, .int .i64 p125.2.2.2.2.2.1, .int .i64 p125.2.2.2.2.2.2.1, .int .i64 p125.2.2.2.2.2.2.2] | 1, [v55] => v55 = .agg #[.int .i64 x0, .slice A1 x1.length c1, .int .i64 x2, .slice A3 x3.length c3, .int .i64 x4, .int .i64 x5, .int .i64 x6, .int .i64 x7] | 2, [v56] => v56 = .agg #[.int .i64 p147.1, .slice (slA (vtup v56 1)) p147.2.1.length (slC (vtup v56 1)), .int .i64 p147.2.2.1, .slice (slA (vtup v56 3)) p147.2.2.2.1.length (slC (vtup v56 3)), .int .i64 p147.2.2.2.2.1, .int .i64 p147.2.2.2.2.2.1, .int .i64 p147.2.2.2.2.2.2.1, .int .i64 p147.2.2.2.2.2.2.2] | 3, [v57] => v57 = .bool p154 | 4, [v58] => v58 = .bool (!p154) | _, _ => True)
          (C := fun i vs => match i, vs with | 2, [v56] => [.row 3 1 (.slice (slA (vtup v56 1)) p147.2.1.length (slC (vtup v56 1))) p147.2.1.length (p147.2.1.flatMap eI), .row 3 1 (.slice (slA (vtup v56 3)) p147.2.2.2.1.length (slC (vtup v56 3))) p147.2.2.2.1.length (p147.2.2.2.1.flatMap eI)] | _, _ => [])
          (κ := (fun _ => none)) (Z := (fun _ => [])) mixed hF (by kernel_rfl) S ?_ ?_
        · refine ⟨?_, ?_, ?_, ?_, ?_, trivial⟩
          · intro a u X hB hu hp hr hz hl S
            replace S : St w u ([] ++ X) := S
            exact .inl ⟨rfl, .agg #[.int .i64 p125.1, .slice B126 p125.2.1.length d128, .int .i64 p125.2.2.1, .slice B129 p125.2.2.2.1.length d131, .int .i64 p125.2.2.2.2.1, .int .i64 p125.2.2.2.2.2.1, .int .i64 p125.2.2.2.2.2.2.1, .int .i64 p125.2.2.2.2.2.2.2], u, (run_loadN rfl ag28 (hF.evB hB rfl rfl) rfl ((gr_box S hl 4 rfl).cells 0 #[.int .i64 p125.1, .slice B126 p125.2.1.length d128, .int .i64 p125.2.2.1, .slice B129 p125.2.2.2.1.length d131, .int .i64 p125.2.2.2.2.1, .int .i64 p125.2.2.2.2.2.1, .int .i64 p125.2.2.2.2.2.2.1, .int .i64 p125.2.2.2.2.2.2.2] rfl)), rfl, S⟩
          · intro a u X hB hu hp hr hz hl S
            replace S : St w u ([] ++ X) := S
            exact .inl ⟨rfl, .agg #[.int .i64 x0, .slice A1 x1.length c1, .int .i64 x2, .slice A3 x3.length c3, .int .i64 x4, .int .i64 x5, .int .i64 x6, .int .i64 x7], u, (run_loadN rfl ag24 (hF.evB hB rfl rfl) rfl ((gr_box S hl 13 rfl).cells 0 #[.int .i64 x0, .slice A1 x1.length c1, .int .i64 x2, .slice A3 x3.length c3, .int .i64 x4, .int .i64 x5, .int .i64 x6, .int .i64 x7] rfl)), rfl, S⟩
          · intro a u X hB hu hp hr hz hl S
            replace S : St w u ([] ++ X) := S
            have e55 : sl a 55 = .agg #[.int .i64 x0, .slice A1 x1.length c1, .int .i64 x2, .slice A3 x3.length c3, .int .i64 x4, .int .i64 x5, .int .i64 x6, .int .i64 x7] := hp 1 rfl
            refine .inr (.inr (.inl ⟨rfl, _, _, (run_call (vs := [.agg #[.int .i64 x0, .slice A1 x1.length c1, .int .i64 x2, .slice A3 x3.length c3, .int .i64 x4, .int .i64 x5, .int .i64 x6, .int .i64 x7]]) rfl rfl co8 ⟨(ev_sl e55), trivial⟩), ?_⟩))
            refine Calls.mono (c_laws_toPoll (x0 := x0) (x1 := x1) (x2 := x2) (x3 := x3) (x4 := x4) (x5 := x5) (x6 := x6) (x7 := x7) ⟨(S.rc0 h1.rc), rfl⟩ ⟨(S.rc0 h3.rc), rfl⟩ h147) ?_
            rintro e w1 ⟨B148, n149, d150, B151, n152, d153, rfl, rfl, rfl, T⟩
            exact ⟨_, rfl, rfl, S.call2 T⟩
          · intro a u X hB hu hp hr hz hl S
            replace S : St w u ([] ++ X) := S
            have e54 : sl a 54 = .agg #[.int .i64 p125.1, .slice B126 p125.2.1.length d128, .int .i64 p125.2.2.1, .slice B129 p125.2.2.2.1.length d131, .int .i64 p125.2.2.2.2.1, .int .i64 p125.2.2.2.2.2.1, .int .i64 p125.2.2.2.2.2.2.1, .int .i64 p125.2.2.2.2.2.2.2] := hp 0 rfl
            have e56 : sl a 56 = .agg #[.int .i64 p147.1, .slice (slA (vtup (sl a 56) 1)) p147.2.1.length (slC (vtup (sl a 56) 1)), .int .i64 p147.2.2.1, .slice (slA (vtup (sl a 56) 3)) p147.2.2.2.1.length (slC (vtup (sl a 56) 3)), .int .i64 p147.2.2.2.2.1, .int .i64 p147.2.2.2.2.2.1, .int .i64 p147.2.2.2.2.2.2.1, .int .i64 p147.2.2.2.2.2.2.2] := hp 2 rfl
            refine .inr (.inr (.inl ⟨rfl, _, _, (run_call (vs := [.agg #[.int .i64 p125.1, .slice B126 p125.2.1.length d128, .int .i64 p125.2.2.1, .slice B129 p125.2.2.2.1.length d131, .int .i64 p125.2.2.2.2.1, .int .i64 p125.2.2.2.2.2.1, .int .i64 p125.2.2.2.2.2.2.1, .int .i64 p125.2.2.2.2.2.2.2], .agg #[.int .i64 p147.1, .slice (slA (vtup (sl a 56) 1)) p147.2.1.length (slC (vtup (sl a 56) 1)), .int .i64 p147.2.2.1, .slice (slA (vtup (sl a 56) 3)) p147.2.2.2.1.length (slC (vtup (sl a 56) 3)), .int .i64 p147.2.2.2.2.1, .int .i64 p147.2.2.2.2.2.1, .int .i64 p147.2.2.2.2.2.2.1, .int .i64 p147.2.2.2.2.2.2.2]]) rfl rfl co11 ⟨(ev_sl e54), (ev_sl e56), trivial⟩), ?_⟩))
            refine Calls.mono (c_laws_eqPoll (x0 := p125.1) (x1 := p125.2.1) (x2 := p125.2.2.1) (x3 := p125.2.2.2.1) (x4 := p125.2.2.2.2.1) (x5 := p125.2.2.2.2.2.1) (x6 := p125.2.2.2.2.2.2.1) (x7 := p125.2.2.2.2.2.2.2) (x8 := p147.1) (x9 := p147.2.1) (x10 := p147.2.2.1) (x11 := p147.2.2.2.1) (x12 := p147.2.2.2.2.1) (x13 := p147.2.2.2.2.2.1) (x14 := p147.2.2.2.2.2.2.1) (x15 := p147.2.2.2.2.2.2.2) ⟨(gr_rc S hl 5 rfl), rfl⟩ ⟨(gr_rc S hl 6 rfl), rfl⟩ ⟨(own_rc (show Ow _ _ _ _ _ _ from S.mem (List.mem_append_right _ (hr 2 (List.mem_of_getElem? (i := 0) rfl) _ (List.mem_of_getElem? (i := 0) rfl))))), rfl⟩ ⟨(own_rc (show Ow _ _ _ _ _ _ from S.mem (List.mem_append_right _ (hr 2 (List.mem_of_getElem? (i := 0) rfl) _ (List.mem_of_getElem? (i := 1) rfl))))), rfl⟩ h154) ?_
            rintro e w1 ⟨rfl, T⟩
            exact ⟨_, rfl, rfl, S.call0 T⟩
          · intro a u X hB hu hp hr hz hl S
            replace S : St w u ([] ++ X) := S
            have e57 : sl a 57 = .bool p154 := hp 3 rfl
            exact .inl ⟨rfl, .bool (!p154), u, (run_not rfl (ev_sl e57)), rfl, S⟩
        · intro a u hB hp S
          obtain ⟨q0, q1, q2, q3, q4, _⟩ := hp
          have e54 : sl a 54 = .agg #[.int .i64 p125.1, .slice B126 p125.2.1.length d128, .int .i64 p125.2.2.1, .slice B129 p125.2.2.2.1.length d131, .int .i64 p125.2.2.2.2.1, .int .i64 p125.2.2.2.2.2.1, .int .i64 p125.2.2.2.2.2.2.1, .int .i64 p125.2.2.2.2.2.2.2] := q0
          have e55 : sl a 55 = .agg #[.int .i64 x0, .slice A1 x1.length c1, .int .i64 x2, .slice A3 x3.length c3, .int .i64 x4, .int .i64 x5, .int .i64 x6, .int .i64 x7] := q1
          have e56 : sl a 56 = .agg #[.int .i64 p147.1, .slice (slA (vtup (sl a 56) 1)) p147.2.1.length (slC (vtup (sl a 56) 1)), .int .i64 p147.2.2.1, .slice (slA (vtup (sl a 56) 3)) p147.2.2.2.1.length (slC (vtup (sl a 56) 3)), .int .i64 p147.2.2.2.2.1, .int .i64 p147.2.2.2.2.2.1, .int .i64 p147.2.2.2.2.2.2.1, .int .i64 p147.2.2.2.2.2.2.2] := q2
          have e57 : sl a 57 = .bool p154 := q3
          have e58 : sl a 58 = .bool (!p154) := q4
          replace S : St w u [.row 3 1 (.slice (slA (vtup (sl a 56) 1)) p147.2.1.length (slC (vtup (sl a 56) 1))) p147.2.1.length (p147.2.1.flatMap eI), .row 3 1 (.slice (slA (vtup (sl a 56) 3)) p147.2.2.2.1.length (slC (vtup (sl a 56) 3))) p147.2.2.2.1.length (p147.2.2.2.1.flatMap eI), .box g144 28 #[.int .i64 p137.1, .slice B138 p137.2.1.length d140, .int .i64 p137.2.2.1, .slice B141 p137.2.2.2.1.length d143, .int .i64 p137.2.2.2.2.1, .int .i64 p137.2.2.2.2.2.1, .int .i64 p137.2.2.2.2.2.2.1, .int .i64 p137.2.2.2.2.2.2.2.1], .row 3 1 (.slice B138 p137.2.1.length d140) p137.2.1.length (p137.2.1.flatMap eI), .row 3 1 (.slice B141 p137.2.2.2.1.length d143) p137.2.2.2.1.length (p137.2.2.2.1.flatMap eI), .row 32 2 (.slice B134 p133.length d136) p133.length (p133.flatMap ePollDeed), .box g132 28 #[.int .i64 p125.1, .slice B126 p125.2.1.length d128, .int .i64 p125.2.2.1, .slice B129 p125.2.2.2.1.length d131, .int .i64 p125.2.2.2.2.1, .int .i64 p125.2.2.2.2.2.1, .int .i64 p125.2.2.2.2.2.2.1, .int .i64 p125.2.2.2.2.2.2.2], .row 3 1 (.slice B126 p125.2.1.length d128) p125.2.1.length (p125.2.1.flatMap eI), .row 3 1 (.slice B129 p125.2.2.2.1.length d131) p125.2.2.2.1.length (p125.2.2.2.1.flatMap eI), .box g124 28 #[.int .i64 p117.1, .slice B118 p117.2.1.length d120, .int .i64 p117.2.2.1, .slice B121 p117.2.2.2.1.length d123, .int .i64 p117.2.2.2.2.1, .int .i64 p117.2.2.2.2.2.1, .int .i64 p117.2.2.2.2.2.2.1, .int .i64 p117.2.2.2.2.2.2.2.1], .row 3 1 (.slice B118 p117.2.1.length d120) p117.2.1.length (p117.2.1.flatMap eI), .row 3 1 (.slice B121 p117.2.2.2.1.length d123) p117.2.2.2.1.length (p117.2.2.2.1.flatMap eI), .row 32 2 (.slice B114 p113.length d116) p113.length (p113.flatMap ePollDeed), .row 3 1 (.slice B107 p106.2.1.length d109) p106.2.1.length (p106.2.1.flatMap eI), .row 3 1 (.slice B110 p106.2.2.2.1.length d112) p106.2.2.2.1.length (p106.2.2.2.1.flatMap eI), .box g101 24 #[.int .i64 x0, .slice A1 x1.length c1, .int .i64 x2, .slice A3 x3.length c3, .int .i64 x4, .int .i64 x5, .int .i64 x6, .int .i64 x7]] := S
          clear q0 q1 q2 q3 q4
          generalize slA (vtup (sl a 56) 1) = B155 at *
          generalize slC (vtup (sl a 56) 1) = d156 at *
          generalize slA (vtup (sl a 56) 3) = B157 at *
          generalize slC (vtup (sl a 56) 3) = d158 at *
          have hF := hF.region hB [(54, .agg #[.int .i64 p125.1, .slice B126 p125.2.1.length d128, .int .i64 p125.2.2.1, .slice B129 p125.2.2.2.1.length d131, .int .i64 p125.2.2.2.2.1, .int .i64 p125.2.2.2.2.2.1, .int .i64 p125.2.2.2.2.2.2.1, .int .i64 p125.2.2.2.2.2.2.2]), (55, .agg #[.int .i64 x0, .slice A1 x1.length c1, .int .i64 x2, .slice A3 x3.length c3, .int .i64 x4, .int .i64 x5, .int .i64 x6, .int .i64 x7]), (56, .agg #[.int .i64 p147.1, .slice B155 p147.2.1.length d156, .int .i64 p147.2.2.1, .slice B157 p147.2.2.2.1.length d158, .int .i64 p147.2.2.2.2.1, .int .i64 p147.2.2.2.2.2.1, .int .i64 p147.2.2.2.2.2.2.1, .int .i64 p147.2.2.2.2.2.2.2]), (57, .bool p154), (58, .bool (!p154))] (allSl_mem ⟨e54, e55, e56, e57, e58, trivial⟩) rfl
          clear hB e54 e55 e56 e57 e58
          cases hc159 : (p154)
          · replace hM := bif_f hc159 hM
            refine cond_t hF rfl (not_t hc159) ?_
            refine wp_seq ?_
            refine wp_region_lit ?_
            refine op_val (v := .bool false) rfl rfl hF rfl (run_assign rfl rfl) ?_; clear hF; intro a hF
            refine wpList_nil ?_
            refine wp_ret ?_
            repeat with_reducible (first | refine then_ret ?_ | refine in_ret ?_ | refine in_nrm ?_)
            refine ret1_gw (.inl rfl) hF rfl (res_tmp (hF.ev rfl)) ?_
            obtain rfl := Option.some.inj hM
            exact ⟨rfl, S.sel [] rfl rfl⟩
          · replace hM := bif_t hc159 hM
            refine cond_f hF rfl (not_f hc159) ?_
            refine wp_skip ?_
            refine wp_seq ?_
            refine wp_seq ?_
            refine wp_region_lit ?_
            refine op_val (v := .slice B134 p133.length d136) rfl rfl hF rfl (run_move rfl (hF.ev rfl)) ?_; clear hF; intro a hF
            refine op_val (v := .slice A8 x8.length c8) rfl rfl hF rfl (run_move rfl (hF.ev rfl)) ?_; clear hF; intro a hF
            obtain ⟨p160, h160, hM⟩ := bind_ex hM
            refine op_call rfl rfl hF rfl (run_call (vs := [.slice A8 x8.length c8]) rfl rfl co18 ⟨(hF.ev rfl), trivial⟩) (c_laws_toPollDeedS (x0 := x8) ⟨(S.rc0 h8.rc), rfl⟩ h160) ?_
            rintro e u ⟨B161, n162, d163, rfl, rfl, T⟩
            refine ⟨_, rfl, ?_⟩
            clear hF; intro a hF
            replace S := S.call1 T; clear T
            obtain ⟨p164, h164, hM⟩ := bind_ex hM
            refine op_call rfl rfl hF rfl (run_call (vs := [.slice B134 p133.length d136, .slice B161 p160.length d163]) rfl rfl co20 ⟨(hF.ev rfl), (hF.ev rfl), trivial⟩) (c_laws_eqPollDeedS (x0 := p133) (x1 := p160) ⟨(S.rc 6 rfl), rfl⟩ ⟨(S.rc 0 rfl), rfl⟩ h164) ?_
            rintro e u ⟨rfl, T⟩
            refine ⟨_, rfl, ?_⟩
            clear hF; intro a hF
            replace S := S.call0 T; clear T
            refine op_val (v := .bool (!p164)) rfl rfl hF rfl (run_not rfl (hF.ev rfl)) ?_; clear hF; intro a hF
            refine wpList_nil ?_
            cases hc165 : (p164)
            · replace hM := bif_f hc165 hM
              refine cond_t hF rfl (not_t hc165) ?_
              refine wp_seq ?_
              refine wp_region_lit ?_
              refine op_val (v := .bool false) rfl rfl hF rfl (run_assign rfl rfl) ?_; clear hF; intro a hF
              refine wpList_nil ?_
              refine wp_ret ?_
              repeat with_reducible (first | refine then_ret ?_ | refine in_ret ?_ | refine in_nrm ?_)
              refine ret1_gw (.inl rfl) hF rfl (res_tmp (hF.ev rfl)) ?_
              obtain rfl := Option.some.inj hM
              exact ⟨rfl, S.sel [] rfl rfl⟩
            · replace hM := bif_t hc165 hM
              refine cond_f hF rfl (not_f hc165) ?_
              refine wp_skip ?_
              refine wp_seq ?_
              refine wp_region_lit ?_
              refine op_val (v := .int .i64 1) rfl rfl hF rfl (run_assign rfl rfl) ?_; clear hF; intro a hF
              refine wpList_nil ?_
              refine wp_seq ?_
              refine wp_region_lit ?_
              refine op_val (v := .agg #[.int .i64 p125.1, .slice B126 p125.2.1.length d128, .int .i64 p125.2.2.1, .slice B129 p125.2.2.2.1.length d131, .int .i64 p125.2.2.2.2.1, .int .i64 p125.2.2.2.2.2.1, .int .i64 p125.2.2.2.2.2.2.1, .int .i64 p125.2.2.2.2.2.2.2]) rfl rfl hF rfl (run_loadN rfl ag28 (hF.ev rfl) rfl ((S.free 7 rfl).cells 0 #[.int .i64 p125.1, .slice B126 p125.2.1.length d128, .int .i64 p125.2.2.1, .slice B129 p125.2.2.2.1.length d131, .int .i64 p125.2.2.2.2.1, .int .i64 p125.2.2.2.2.2.1, .int .i64 p125.2.2.2.2.2.2.1, .int .i64 p125.2.2.2.2.2.2.2] rfl)) ?_; clear hF; intro a hF
              refine op_val (v := .int .i64 1) rfl rfl hF rfl (run_move rfl (hF.ev rfl)) ?_; clear hF; intro a hF
              obtain ⟨p166, h166, hM⟩ := bind_ex hM
              refine op_call rfl rfl hF rfl (run_call (vs := [.agg #[.int .i64 p125.1, .slice B126 p125.2.1.length d128, .int .i64 p125.2.2.1, .slice B129 p125.2.2.2.1.length d131, .int .i64 p125.2.2.2.2.1, .int .i64 p125.2.2.2.2.2.1, .int .i64 p125.2.2.2.2.2.2.1, .int .i64 p125.2.2.2.2.2.2.2], .int .i64 1]) rfl rfl co12 ⟨(hF.ev rfl), (hF.ev rfl), trivial⟩) (c_laws_markPoll (x0 := p125.1) (x1 := p125.2.1) (x2 := p125.2.2.1) (x3 := p125.2.2.2.1) (x4 := p125.2.2.2.2.1) (x5 := p125.2.2.2.2.2.1) (x6 := p125.2.2.2.2.2.2.1) (x7 := p125.2.2.2.2.2.2.2) (x8 := 1) rfl rfl (show St w _ [.row 3 1 (.slice B126 p125.2.1.length d128) p125.2.1.length (p125.2.1.flatMap eI), .row 3 1 (.slice B129 p125.2.2.2.1.length d131) p125.2.2.2.1.length (p125.2.2.2.1.flatMap eI), .row 32 2 (.slice B161 p160.length d163) p160.length (p160.flatMap ePollDeed), .row 3 1 (.slice B155 p147.2.1.length d156) p147.2.1.length (p147.2.1.flatMap eI), .row 3 1 (.slice B157 p147.2.2.2.1.length d158) p147.2.2.2.1.length (p147.2.2.2.1.flatMap eI), .box g144 28 #[.int .i64 p137.1, .slice B138 p137.2.1.length d140, .int .i64 p137.2.2.1, .slice B141 p137.2.2.2.1.length d143, .int .i64 p137.2.2.2.2.1, .int .i64 p137.2.2.2.2.2.1, .int .i64 p137.2.2.2.2.2.2.1, .int .i64 p137.2.2.2.2.2.2.2.1], .row 3 1 (.slice B138 p137.2.1.length d140) p137.2.1.length (p137.2.1.flatMap eI), .row 3 1 (.slice B141 p137.2.2.2.1.length d143) p137.2.2.2.1.length (p137.2.2.2.1.flatMap eI), .row 32 2 (.slice B134 p133.length d136) p133.length (p133.flatMap ePollDeed), .box g132 28 #[.int .i64 p125.1, .slice B126 p125.2.1.length d128, .int .i64 p125.2.2.1, .slice B129 p125.2.2.2.1.length d131, .int .i64 p125.2.2.2.2.1, .int .i64 p125.2.2.2.2.2.1, .int .i64 p125.2.2.2.2.2.2.1, .int .i64 p125.2.2.2.2.2.2.2], .box g124 28 #[.int .i64 p117.1, .slice B118 p117.2.1.length d120, .int .i64 p117.2.2.1, .slice B121 p117.2.2.2.1.length d123, .int .i64 p117.2.2.2.2.1, .int .i64 p117.2.2.2.2.2.1, .int .i64 p117.2.2.2.2.2.2.1, .int .i64 p117.2.2.2.2.2.2.2.1], .row 3 1 (.slice B118 p117.2.1.length d120) p117.2.1.length (p117.2.1.flatMap eI), .row 3 1 (.slice B121 p117.2.2.2.1.length d123) p117.2.2.2.1.length (p117.2.2.2.1.flatMap eI), .row 32 2 (.slice B114 p113.length d116) p113.length (p113.flatMap ePollDeed), .row 3 1 (.slice B107 p106.2.1.length d109) p106.2.1.length (p106.2.1.flatMap eI), .row 3 1 (.slice B110 p106.2.2.2.1.length d112) p106.2.2.2.1.length (p106.2.2.2.1.flatMap eI), .box g101 24 #[.int .i64 x0, .slice A1 x1.length c1, .int .i64 x2, .slice A3 x3.length c3, .int .i64 x4, .int .i64 x5, .int .i64 x6, .int .i64 x7]] from S.sel [8, 9, 0, 1, 2, 3, 4, 5, 6, 7, 10, 11, 12, 13, 14, 15, 16] rfl rfl) h166) ?_
              rintro e u ⟨rfl, hn167, hn168, T⟩
              refine ⟨_, rfl, ?_⟩
              clear hF; intro a hF
              clear S; have S := T; clear T
              refine op_val (v := .int .i64 p166.1) rfl rfl hF rfl (run_assign rfl (hF.ev rfl)) ?_; clear hF; intro a hF
              refine wpList_nil ?_
              refine wp_seq ?_
              refine wp_region_lit ?_
              refine op_val (v := .slice B134 p133.length d136) rfl rfl hF rfl (run_move rfl (hF.ev rfl)) ?_; clear hF; intro a hF
              refine op_val (v := .int .i64 p166.1) rfl rfl hF rfl (run_move rfl (hF.ev rfl)) ?_; clear hF; intro a hF
              obtain ⟨p169, h169, hM⟩ := bind_ex hM
              refine op_call rfl rfl hF rfl (run_call (vs := [.slice B134 p133.length d136, .int .i64 p166.1]) rfl rfl co21 ⟨(hF.ev rfl), (hF.ev rfl), trivial⟩) (c_laws_markPollDeedS (x0 := p133) (x1 := p166.1) rfl (show St w _ [.row 32 2 (.slice B134 p133.length d136) p133.length (p133.flatMap ePollDeed), .row 3 1 (.slice B126 p125.2.1.length d128) p125.2.1.length (p166.2.1.flatMap eI), .row 3 1 (.slice B129 p125.2.2.2.1.length d131) p125.2.2.2.1.length (p166.2.2.flatMap eI), .row 32 2 (.slice B161 p160.length d163) p160.length (p160.flatMap ePollDeed), .row 3 1 (.slice B155 p147.2.1.length d156) p147.2.1.length (p147.2.1.flatMap eI), .row 3 1 (.slice B157 p147.2.2.2.1.length d158) p147.2.2.2.1.length (p147.2.2.2.1.flatMap eI), .box g144 28 #[.int .i64 p137.1, .slice B138 p137.2.1.length d140, .int .i64 p137.2.2.1, .slice B141 p137.2.2.2.1.length d143, .int .i64 p137.2.2.2.2.1, .int .i64 p137.2.2.2.2.2.1, .int .i64 p137.2.2.2.2.2.2.1, .int .i64 p137.2.2.2.2.2.2.2.1], .row 3 1 (.slice B138 p137.2.1.length d140) p137.2.1.length (p137.2.1.flatMap eI), .row 3 1 (.slice B141 p137.2.2.2.1.length d143) p137.2.2.2.1.length (p137.2.2.2.1.flatMap eI), .box g132 28 #[.int .i64 p125.1, .slice B126 p125.2.1.length d128, .int .i64 p125.2.2.1, .slice B129 p125.2.2.2.1.length d131, .int .i64 p125.2.2.2.2.1, .int .i64 p125.2.2.2.2.2.1, .int .i64 p125.2.2.2.2.2.2.1, .int .i64 p125.2.2.2.2.2.2.2], .box g124 28 #[.int .i64 p117.1, .slice B118 p117.2.1.length d120, .int .i64 p117.2.2.1, .slice B121 p117.2.2.2.1.length d123, .int .i64 p117.2.2.2.2.1, .int .i64 p117.2.2.2.2.2.1, .int .i64 p117.2.2.2.2.2.2.1, .int .i64 p117.2.2.2.2.2.2.2.1], .row 3 1 (.slice B118 p117.2.1.length d120) p117.2.1.length (p117.2.1.flatMap eI), .row 3 1 (.slice B121 p117.2.2.2.1.length d123) p117.2.2.2.1.length (p117.2.2.2.1.flatMap eI), .row 32 2 (.slice B114 p113.length d116) p113.length (p113.flatMap ePollDeed), .row 3 1 (.slice B107 p106.2.1.length d109) p106.2.1.length (p106.2.1.flatMap eI), .row 3 1 (.slice B110 p106.2.2.2.1.length d112) p106.2.2.2.1.length (p106.2.2.2.1.flatMap eI), .box g101 24 #[.int .i64 x0, .slice A1 x1.length c1, .int .i64 x2, .slice A3 x3.length c3, .int .i64 x4, .int .i64 x5, .int .i64 x6, .int .i64 x7]] from S.sel [8, 0, 1, 2, 3, 4, 5, 6, 7, 9, 10, 11, 12, 13, 14, 15, 16] rfl rfl) h169) ?_
              rintro e u ⟨rfl, hn170, T⟩
              refine ⟨_, rfl, ?_⟩
              clear hF; intro a hF
              clear S; have S := T; clear T
              refine op_val (v := .int .i64 p169.1) rfl rfl hF rfl (run_assign rfl (hF.ev rfl)) ?_; clear hF; intro a hF
              refine wpList_nil ?_
              refine wp_seq ?_
              refine wp_seq ?_
              refine wp_region_lit ?_
              refine op_val (v := .int .i64 p169.1) rfl rfl hF rfl (run_move rfl (hF.ev rfl)) ?_; clear hF; intro a hF
              refine op_val (v := .bool (ltB p169.1 0)) rfl rfl hF rfl (run_lss (hF.ev rfl) rfl rfl) ?_; clear hF; intro a hF
              refine op_val (v := .bool (ltB p169.1 0)) rfl rfl hF rfl (run_move rfl (hF.ev rfl)) ?_; clear hF; intro a hF
              refine op_gv (v := .agg #[.int .i64 p137.1, .slice B138 p137.2.1.length d140, .int .i64 p137.2.2.1, .slice B141 p137.2.2.2.1.length d143, .int .i64 p137.2.2.2.2.1, .int .i64 p137.2.2.2.2.2.1, .int .i64 p137.2.2.2.2.2.2.1, .int .i64 p137.2.2.2.2.2.2.2.1]) rfl rfl hF rfl (yf (gw_yield hF rfl rfl rfl)) (fun hg => (run_loadN rfl ag28 (hF.ev rfl) rfl ((S.free 6 rfl).cells 0 #[.int .i64 p137.1, .slice B138 p137.2.1.length d140, .int .i64 p137.2.2.1, .slice B141 p137.2.2.2.1.length d143, .int .i64 p137.2.2.2.2.1, .int .i64 p137.2.2.2.2.2.1, .int .i64 p137.2.2.2.2.2.2.1, .int .i64 p137.2.2.2.2.2.2.2.1] rfl))) ?_; clear hF; intro a hF
              refine op_gv (v := .agg #[.int .i64 p117.1, .slice B118 p117.2.1.length d120, .int .i64 p117.2.2.1, .slice B121 p117.2.2.2.1.length d123, .int .i64 p117.2.2.2.2.1, .int .i64 p117.2.2.2.2.2.1, .int .i64 p117.2.2.2.2.2.2.1, .int .i64 p117.2.2.2.2.2.2.2.1]) rfl rfl hF rfl (yf (gw_yield hF rfl rfl rfl)) (fun hg => (run_loadN rfl ag28 (hF.ev rfl) rfl ((S.free 10 rfl).cells 0 #[.int .i64 p117.1, .slice B118 p117.2.1.length d120, .int .i64 p117.2.2.1, .slice B121 p117.2.2.2.1.length d123, .int .i64 p117.2.2.2.2.1, .int .i64 p117.2.2.2.2.2.1, .int .i64 p117.2.2.2.2.2.2.1, .int .i64 p117.2.2.2.2.2.2.2.1] rfl))) ?_; clear hF; intro a hF
              obtain ⟨p171, h171, hM⟩ := bind_ex hM
              refine op_gcall (v := .bool p171) rfl rfl hF rfl S (yf (gw_yield hF rfl rfl rfl)) (fun hg => (run_call (vs := [.agg #[.int .i64 p137.1, .slice B138 p137.2.1.length d140, .int .i64 p137.2.2.1, .slice B141 p137.2.2.2.1.length d143, .int .i64 p137.2.2.2.2.1, .int .i64 p137.2.2.2.2.2.1, .int .i64 p137.2.2.2.2.2.2.1, .int .i64 p137.2.2.2.2.2.2.2.1], .agg #[.int .i64 p117.1, .slice B118 p117.2.1.length d120, .int .i64 p117.2.2.1, .slice B121 p117.2.2.2.1.length d123, .int .i64 p117.2.2.2.2.1, .int .i64 p117.2.2.2.2.2.1, .int .i64 p117.2.2.2.2.2.2.1, .int .i64 p117.2.2.2.2.2.2.2.1]]) rfl rfl co11 ⟨((hF.ev rfl).trans (gv_t hg)), ((hF.ev rfl).trans (gv_t hg)), trivial⟩)) (fun hg => c_laws_eqPoll (x0 := p137.1) (x1 := p137.2.1) (x2 := p137.2.2.1) (x3 := p137.2.2.2.1) (x4 := p137.2.2.2.2.1) (x5 := p137.2.2.2.2.2.1) (x6 := p137.2.2.2.2.2.2.1) (x7 := p137.2.2.2.2.2.2.2.1) (x8 := p117.1) (x9 := p117.2.1) (x10 := p117.2.2.1) (x11 := p117.2.2.2.1) (x12 := p117.2.2.2.2.1) (x13 := p117.2.2.2.2.2.1) (x14 := p117.2.2.2.2.2.2.1) (x15 := p117.2.2.2.2.2.2.2.1) ⟨(S.rc 7 rfl), rfl⟩ ⟨(S.rc 8 rfl), rfl⟩ ⟨(S.rc 11 rfl), rfl⟩ ⟨(S.rc 12 rfl), rfl⟩ (gb_t h171 hg)) ?_; clear hF S; intro a u hF S
              refine op_gv (v := .bool (!p171)) rfl rfl hF rfl (yf (gw_yield hF rfl rfl rfl)) (fun hg => (run_not rfl ((hF.ev rfl).trans (gv_t hg)))) ?_; clear hF; intro a hF
              refine op_val (v := .bool ((ltB p169.1 0) || (!p171))) rfl rfl hF rfl (run_pick_or rfl (hF.ev rfl) rfl (fun hp => ((hF.ev rfl).trans (gv_t (not_t hp))))) ?_; clear hF; intro a hF
              refine op_val (v := .bool ((ltB p169.1 0) || (!p171))) rfl rfl hF rfl (run_move rfl (hF.ev rfl)) ?_; clear hF; intro a hF
              refine op_gv (v := .int .i64 p137.2.2.2.2.2.2.2.2) rfl rfl hF rfl (yf (gw_yield hF rfl rfl rfl)) (fun hg => (run_move rfl (hF.ev rfl))) ?_; clear hF; intro a hF
              refine op_gv (v := .int .i64 p117.2.2.2.2.2.2.2.2) rfl rfl hF rfl (yf (gw_yield hF rfl rfl rfl)) (fun hg => (run_move rfl (hF.ev rfl))) ?_; clear hF; intro a hF
              refine op_gv (v := .bool (p137.2.2.2.2.2.2.2.2 != p117.2.2.2.2.2.2.2.2)) rfl rfl hF rfl (yf (gw_yield hF rfl rfl rfl)) (fun hg => (run_neq ((hF.ev rfl).trans (gv_t hg)) ((hF.ev rfl).trans (gv_t hg)) rfl)) ?_; clear hF; intro a hF
              refine op_val (v := .bool (((ltB p169.1 0) || (!p171)) || (p137.2.2.2.2.2.2.2.2 != p117.2.2.2.2.2.2.2.2))) rfl rfl hF rfl (run_pick_or rfl (hF.ev rfl) rfl (fun hp => ((hF.ev rfl).trans (gv_t (not_t hp))))) ?_; clear hF; intro a hF
              refine wpList_nil ?_
              cases hc172 : (((ltB p169.1 0) || (!p171)) || (p137.2.2.2.2.2.2.2.2 != p117.2.2.2.2.2.2.2.2))
              · replace hM := bif_f hc172 hM
                refine cond_f hF rfl hc172 ?_
                refine wp_skip ?_
                refine wp_seq ?_
                refine wp_region_lit ?_
                refine op_val (v := .int .i64 1) rfl rfl hF rfl (run_assign rfl rfl) ?_; clear hF; intro a hF
                refine wpList_nil ?_
                refine wp_seq ?_
                refine wp_region_lit ?_
                refine op_val (v := .agg #[.int .i64 p137.1, .slice B138 p137.2.1.length d140, .int .i64 p137.2.2.1, .slice B141 p137.2.2.2.1.length d143, .int .i64 p137.2.2.2.2.1, .int .i64 p137.2.2.2.2.2.1, .int .i64 p137.2.2.2.2.2.2.1, .int .i64 p137.2.2.2.2.2.2.2.1]) rfl rfl hF rfl (run_loadN rfl ag28 (hF.ev rfl) rfl ((S.free 6 rfl).cells 0 #[.int .i64 p137.1, .slice B138 p137.2.1.length d140, .int .i64 p137.2.2.1, .slice B141 p137.2.2.2.1.length d143, .int .i64 p137.2.2.2.2.1, .int .i64 p137.2.2.2.2.2.1, .int .i64 p137.2.2.2.2.2.2.1, .int .i64 p137.2.2.2.2.2.2.2.1] rfl)) ?_; clear hF; intro a hF
                refine op_val (v := .int .i64 1) rfl rfl hF rfl (run_move rfl (hF.ev rfl)) ?_; clear hF; intro a hF
                obtain ⟨p173, h173, hM⟩ := bind_ex hM
                refine op_call rfl rfl hF rfl (run_call (vs := [.agg #[.int .i64 p137.1, .slice B138 p137.2.1.length d140, .int .i64 p137.2.2.1, .slice B141 p137.2.2.2.1.length d143, .int .i64 p137.2.2.2.2.1, .int .i64 p137.2.2.2.2.2.1, .int .i64 p137.2.2.2.2.2.2.1, .int .i64 p137.2.2.2.2.2.2.2.1], .int .i64 1]) rfl rfl co12 ⟨(hF.ev rfl), (hF.ev rfl), trivial⟩) (c_laws_markPoll (x0 := p137.1) (x1 := p137.2.1) (x2 := p137.2.2.1) (x3 := p137.2.2.2.1) (x4 := p137.2.2.2.2.1) (x5 := p137.2.2.2.2.2.1) (x6 := p137.2.2.2.2.2.2.1) (x7 := p137.2.2.2.2.2.2.2.1) (x8 := 1) rfl rfl (show St w _ [.row 3 1 (.slice B138 p137.2.1.length d140) p137.2.1.length (p137.2.1.flatMap eI), .row 3 1 (.slice B141 p137.2.2.2.1.length d143) p137.2.2.2.1.length (p137.2.2.2.1.flatMap eI), .row 32 2 (.slice B134 p133.length d136) p133.length (p169.2.flatMap ePollDeed), .row 3 1 (.slice B126 p125.2.1.length d128) p125.2.1.length (p166.2.1.flatMap eI), .row 3 1 (.slice B129 p125.2.2.2.1.length d131) p125.2.2.2.1.length (p166.2.2.flatMap eI), .row 32 2 (.slice B161 p160.length d163) p160.length (p160.flatMap ePollDeed), .row 3 1 (.slice B155 p147.2.1.length d156) p147.2.1.length (p147.2.1.flatMap eI), .row 3 1 (.slice B157 p147.2.2.2.1.length d158) p147.2.2.2.1.length (p147.2.2.2.1.flatMap eI), .box g144 28 #[.int .i64 p137.1, .slice B138 p137.2.1.length d140, .int .i64 p137.2.2.1, .slice B141 p137.2.2.2.1.length d143, .int .i64 p137.2.2.2.2.1, .int .i64 p137.2.2.2.2.2.1, .int .i64 p137.2.2.2.2.2.2.1, .int .i64 p137.2.2.2.2.2.2.2.1], .box g132 28 #[.int .i64 p125.1, .slice B126 p125.2.1.length d128, .int .i64 p125.2.2.1, .slice B129 p125.2.2.2.1.length d131, .int .i64 p125.2.2.2.2.1, .int .i64 p125.2.2.2.2.2.1, .int .i64 p125.2.2.2.2.2.2.1, .int .i64 p125.2.2.2.2.2.2.2], .box g124 28 #[.int .i64 p117.1, .slice B118 p117.2.1.length d120, .int .i64 p117.2.2.1, .slice B121 p117.2.2.2.1.length d123, .int .i64 p117.2.2.2.2.1, .int .i64 p117.2.2.2.2.2.1, .int .i64 p117.2.2.2.2.2.2.1, .int .i64 p117.2.2.2.2.2.2.2.1], .row 3 1 (.slice B118 p117.2.1.length d120) p117.2.1.length (p117.2.1.flatMap eI), .row 3 1 (.slice B121 p117.2.2.2.1.length d123) p117.2.2.2.1.length (p117.2.2.2.1.flatMap eI), .row 32 2 (.slice B114 p113.length d116) p113.length (p113.flatMap ePollDeed), .row 3 1 (.slice B107 p106.2.1.length d109) p106.2.1.length (p106.2.1.flatMap eI), .row 3 1 (.slice B110 p106.2.2.2.1.length d112) p106.2.2.2.1.length (p106.2.2.2.1.flatMap eI), .box g101 24 #[.int .i64 x0, .slice A1 x1.length c1, .int .i64 x2, .slice A3 x3.length c3, .int .i64 x4, .int .i64 x5, .int .i64 x6, .int .i64 x7]] from S.sel [7, 8, 0, 1, 2, 3, 4, 5, 6, 9, 10, 11, 12, 13, 14, 15, 16] rfl rfl) h173) ?_
                rintro e u ⟨rfl, hn174, hn175, T⟩
                refine ⟨_, rfl, ?_⟩
                clear hF; intro a hF
                clear S; have S := T; clear T
                refine op_val (v := .int .i64 p173.1) rfl rfl hF rfl (run_assign rfl (hF.ev rfl)) ?_; clear hF; intro a hF
                refine wpList_nil ?_
                refine wp_seq ?_
                refine wp_region_lit ?_
                refine op_val (v := .int .i64 1) rfl rfl hF rfl (run_assign rfl rfl) ?_; clear hF; intro a hF
                refine wpList_nil ?_
                refine wp_seq ?_
                refine wp_region_lit ?_
                refine op_val (v := .agg #[.int .i64 p137.1, .slice B138 p137.2.1.length d140, .int .i64 p137.2.2.1, .slice B141 p137.2.2.2.1.length d143, .int .i64 p137.2.2.2.2.1, .int .i64 p137.2.2.2.2.2.1, .int .i64 p137.2.2.2.2.2.2.1, .int .i64 p137.2.2.2.2.2.2.2.1]) rfl rfl hF rfl (run_loadN rfl ag28 (hF.ev rfl) rfl ((S.free 8 rfl).cells 0 #[.int .i64 p137.1, .slice B138 p137.2.1.length d140, .int .i64 p137.2.2.1, .slice B141 p137.2.2.2.1.length d143, .int .i64 p137.2.2.2.2.1, .int .i64 p137.2.2.2.2.2.1, .int .i64 p137.2.2.2.2.2.2.1, .int .i64 p137.2.2.2.2.2.2.2.1] rfl)) ?_; clear hF; intro a hF
                refine op_val (v := .int .i64 1) rfl rfl hF rfl (run_move rfl (hF.ev rfl)) ?_; clear hF; intro a hF
                obtain ⟨p176, h176, hM⟩ := bind_ex hM
                refine op_call rfl rfl hF rfl (run_call (vs := [.agg #[.int .i64 p137.1, .slice B138 p137.2.1.length d140, .int .i64 p137.2.2.1, .slice B141 p137.2.2.2.1.length d143, .int .i64 p137.2.2.2.2.1, .int .i64 p137.2.2.2.2.2.1, .int .i64 p137.2.2.2.2.2.2.1, .int .i64 p137.2.2.2.2.2.2.2.1], .int .i64 1]) rfl rfl co13 ⟨(hF.ev rfl), (hF.ev rfl), trivial⟩) (c_laws_heldPoll (x0 := p137.1) (x1 := p173.2.1) (x2 := p137.2.2.1) (x3 := p173.2.2) (x4 := p137.2.2.2.2.1) (x5 := p137.2.2.2.2.2.1) (x6 := p137.2.2.2.2.2.2.1) (x7 := p137.2.2.2.2.2.2.2.1) (x8 := 1) ⟨(S.rc 0 rfl), hn174⟩ ⟨(S.rc 1 rfl), hn175⟩ h176) ?_
                rintro e u ⟨rfl, T⟩
                refine ⟨_, rfl, ?_⟩
                clear hF; intro a hF
                replace S := S.call0 T; clear T
                refine op_val (v := .int .i64 p176) rfl rfl hF rfl (run_assign rfl (hF.ev rfl)) ?_; clear hF; intro a hF
                refine wpList_nil ?_
                refine wp_seq ?_
                refine wp_seq ?_
                refine wp_region_lit ?_
                refine op_val (v := .int .i64 p176) rfl rfl hF rfl (run_move rfl (hF.ev rfl)) ?_; clear hF; intro a hF
                refine op_val (v := .bool (ltB p176 0)) rfl rfl hF rfl (run_lss (hF.ev rfl) rfl rfl) ?_; clear hF; intro a hF
                refine wpList_nil ?_
                cases hc177 : (ltB p176 0)
                · replace hM := bif_f hc177 hM
                  refine cond_f hF rfl hc177 ?_
                  refine wp_skip ?_
                  refine wp_seq ?_
                  refine wp_seq ?_
                  refine wp_region_lit ?_
                  refine op_val (v := .int .i64 p176) rfl rfl hF rfl (run_move rfl (hF.ev rfl)) ?_; clear hF; intro a hF
                  refine op_val (v := .int .i64 p173.1) rfl rfl hF rfl (run_move rfl (hF.ev rfl)) ?_; clear hF; intro a hF
                  refine op_val (v := .bool (p176 != p173.1)) rfl rfl hF rfl (run_neq (hF.ev rfl) (hF.ev rfl) rfl) ?_; clear hF; intro a hF
                  refine wpList_nil ?_
                  cases hc178 : (p176 != p173.1)
                  · replace hM := bif_f hc178 hM
                    refine cond_f hF rfl hc178 ?_
                    refine wp_skip ?_
                    refine wp_seq ?_
                    refine wp_region_lit ?_
                    refine op_val (v := .agg #[.int .i64 x0, .slice A1 x1.length c1, .int .i64 x2, .slice A3 x3.length c3, .int .i64 x4, .int .i64 x5, .int .i64 x6, .int .i64 x7]) rfl rfl hF rfl (run_loadN rfl ag24 (hF.ev rfl) rfl ((S.free 16 rfl).cells 0 #[.int .i64 x0, .slice A1 x1.length c1, .int .i64 x2, .slice A3 x3.length c3, .int .i64 x4, .int .i64 x5, .int .i64 x6, .int .i64 x7] rfl)) ?_; clear hF; intro a hF
                    obtain ⟨p179, h179, hM⟩ := bind_ex hM
                    refine op_call rfl rfl hF rfl (run_call (vs := [.agg #[.int .i64 x0, .slice A1 x1.length c1, .int .i64 x2, .slice A3 x3.length c3, .int .i64 x4, .int .i64 x5, .int .i64 x6, .int .i64 x7]]) rfl rfl co8 ⟨(hF.ev rfl), trivial⟩) (c_laws_toPoll (x0 := x0) (x1 := x1) (x2 := x2) (x3 := x3) (x4 := x4) (x5 := x5) (x6 := x6) (x7 := x7) ⟨(S.rc0 h1.rc), rfl⟩ ⟨(S.rc0 h3.rc), rfl⟩ h179) ?_
                    rintro e u ⟨B180, n181, d182, B183, n184, d185, rfl, rfl, rfl, T⟩
                    refine ⟨_, rfl, ?_⟩
                    clear hF; intro a hF
                    replace S := S.call2 T; clear T
                    refine op_val (v := .slice A8 x8.length c8) rfl rfl hF rfl (run_move rfl (hF.ev rfl)) ?_; clear hF; intro a hF
                    obtain ⟨p186, h186, hM⟩ := bind_ex hM
                    refine op_call rfl rfl hF rfl (run_call (vs := [.slice A8 x8.length c8]) rfl rfl co18 ⟨(hF.ev rfl), trivial⟩) (c_laws_toPollDeedS (x0 := x8) ⟨(S.rc0 h8.rc), rfl⟩ h186) ?_
                    rintro e u ⟨B187, n188, d189, rfl, rfl, T⟩
                    refine ⟨_, rfl, ?_⟩
                    clear hF; intro a hF
                    replace S := S.call1 T; clear T
                    obtain ⟨p190, h190, hM⟩ := bind_ex hM
                    refine op_call rfl rfl hF rfl (run_call (vs := [.agg #[.int .i64 p179.1, .slice B180 p179.2.1.length d182, .int .i64 p179.2.2.1, .slice B183 p179.2.2.2.1.length d185, .int .i64 p179.2.2.2.2.1, .int .i64 p179.2.2.2.2.2.1, .int .i64 p179.2.2.2.2.2.2.1, .int .i64 p179.2.2.2.2.2.2.2], .slice B187 p186.length d189]) rfl rfl co19 ⟨(hF.ev rfl), (hF.ev rfl), trivial⟩) (c_impl_PollRun (x0 := p179.1) (x1 := p179.2.1) (x2 := p179.2.2.1) (x3 := p179.2.2.2.1) (x4 := p179.2.2.2.2.1) (x5 := p179.2.2.2.2.2.1) (x6 := p179.2.2.2.2.2.2.1) (x7 := p179.2.2.2.2.2.2.2) (x8 := p186) ⟨(S.rc 1 rfl), rfl⟩ ⟨(S.rc 2 rfl), rfl⟩ ⟨(S.rc 0 rfl), rfl⟩ h190) ?_
                    rintro e u ⟨B191, n192, d193, B194, n195, d196, rfl, rfl, rfl, T⟩
                    refine ⟨_, rfl, ?_⟩
                    clear hF; intro a hF
                    replace S := S.call2 T; clear T
                    refine op_val (v := .tuple #[.agg #[.int .i64 p190.1, .slice B191 p190.2.1.length d193, .int .i64 p190.2.2.1, .slice B194 p190.2.2.2.1.length d196, .int .i64 p190.2.2.2.2.1, .int .i64 p190.2.2.2.2.2.1, .int .i64 p190.2.2.2.2.2.2.1, .int .i64 p190.2.2.2.2.2.2.2.1], .int .i64 p190.2.2.2.2.2.2.2.2]) rfl rfl hF rfl (run_move rfl (hF.ev rfl)) ?_; clear hF; intro a hF
                    refine op_val (v := .agg #[.int .i64 p190.1, .slice B191 p190.2.1.length d193, .int .i64 p190.2.2.1, .slice B194 p190.2.2.2.1.length d196, .int .i64 p190.2.2.2.2.1, .int .i64 p190.2.2.2.2.2.1, .int .i64 p190.2.2.2.2.2.2.1, .int .i64 p190.2.2.2.2.2.2.2.1]) rfl rfl hF rfl (run_extract rfl (hF.ev rfl) rfl) ?_; clear hF; intro a hF
                    refine op_val (v := .int .i64 p190.2.2.2.2.2.2.2.2) rfl rfl hF rfl (run_extract rfl (hF.ev rfl) rfl) ?_; clear hF; intro a hF
                    refine op_new (cs := #[.int .i64 0, .slice none 0 0, .int .i64 0, .slice none 0 0, .int .i64 0, .int .i64 0, .int .i64 0, .int .i64 0]) rfl rfl hF rfl S (run_allocZ rfl zr28) ?_; clear hF S; intro a g197 u hF S
                    refine op_do rfl rfl (run_store (cs' := #[.int .i64 p190.1, .slice B191 p190.2.1.length d193, .int .i64 p190.2.2.1, .slice B194 p190.2.2.2.1.length d196, .int .i64 p190.2.2.2.2.1, .int .i64 p190.2.2.2.2.2.1, .int .i64 p190.2.2.2.2.2.2.1, .int .i64 p190.2.2.2.2.2.2.2.1]) rfl sz28 (hF.ev rfl) (hF.ev rfl) rfl rfl rfl (S.free 0 rfl) rfl rfl) ?_; replace S := S.put 0 rfl (#[.int .i64 p190.1, .slice B191 p190.2.1.length d193, .int .i64 p190.2.2.1, .slice B194 p190.2.2.2.1.length d196, .int .i64 p190.2.2.2.2.1, .int .i64 p190.2.2.2.2.2.1, .int .i64 p190.2.2.2.2.2.2.1, .int .i64 p190.2.2.2.2.2.2.2.1])
                    generalize World.setRow _ _ _ = u at S ⊢
                    refine op_val (v := .int .i64 p190.2.2.2.2.2.2.2.2) rfl rfl hF rfl (run_assign rfl (hF.ev rfl)) ?_; clear hF; intro a hF
                    refine wpList_nil ?_
                    refine wp_seq ?_
                    refine wp_seq ?_
                    refine wp_region_lit ?_
                    refine op_val (v := .agg #[.int .i64 p190.1, .slice B191 p190.2.1.length d193, .int .i64 p190.2.2.1, .slice B194 p190.2.2.2.1.length d196, .int .i64 p190.2.2.2.2.1, .int .i64 p190.2.2.2.2.2.1, .int .i64 p190.2.2.2.2.2.2.1, .int .i64 p190.2.2.2.2.2.2.2.1]) rfl rfl hF rfl (run_loadN rfl ag28 (hF.ev rfl) rfl ((S.free 0 rfl).cells 0 #[.int .i64 p190.1, .slice B191 p190.2.1.length d193, .int .i64 p190.2.2.1, .slice B194 p190.2.2.2.1.length d196, .int .i64 p190.2.2.2.2.1, .int .i64 p190.2.2.2.2.2.1, .int .i64 p190.2.2.2.2.2.2.1, .int .i64 p190.2.2.2.2.2.2.2.1] rfl)) ?_; clear hF; intro a hF
                    refine op_val (v := .agg #[.int .i64 p117.1, .slice B118 p117.2.1.length d120, .int .i64 p117.2.2.1, .slice B121 p117.2.2.2.1.length d123, .int .i64 p117.2.2.2.2.1, .int .i64 p117.2.2.2.2.2.1, .int .i64 p117.2.2.2.2.2.2.1, .int .i64 p117.2.2.2.2.2.2.2.1]) rfl rfl hF rfl (run_loadN rfl ag28 (hF.ev rfl) rfl ((S.free 16 rfl).cells 0 #[.int .i64 p117.1, .slice B118 p117.2.1.length d120, .int .i64 p117.2.2.1, .slice B121 p117.2.2.2.1.length d123, .int .i64 p117.2.2.2.2.1, .int .i64 p117.2.2.2.2.2.1, .int .i64 p117.2.2.2.2.2.2.1, .int .i64 p117.2.2.2.2.2.2.2.1] rfl)) ?_; clear hF; intro a hF
                    obtain ⟨p198, h198, hM⟩ := bind_ex hM
                    refine op_call rfl rfl hF rfl (run_call (vs := [.agg #[.int .i64 p190.1, .slice B191 p190.2.1.length d193, .int .i64 p190.2.2.1, .slice B194 p190.2.2.2.1.length d196, .int .i64 p190.2.2.2.2.1, .int .i64 p190.2.2.2.2.2.1, .int .i64 p190.2.2.2.2.2.2.1, .int .i64 p190.2.2.2.2.2.2.2.1], .agg #[.int .i64 p117.1, .slice B118 p117.2.1.length d120, .int .i64 p117.2.2.1, .slice B121 p117.2.2.2.1.length d123, .int .i64 p117.2.2.2.2.1, .int .i64 p117.2.2.2.2.2.1, .int .i64 p117.2.2.2.2.2.2.1, .int .i64 p117.2.2.2.2.2.2.2.1]]) rfl rfl co11 ⟨(hF.ev rfl), (hF.ev rfl), trivial⟩) (c_laws_eqPoll (x0 := p190.1) (x1 := p190.2.1) (x2 := p190.2.2.1) (x3 := p190.2.2.2.1) (x4 := p190.2.2.2.2.1) (x5 := p190.2.2.2.2.2.1) (x6 := p190.2.2.2.2.2.2.1) (x7 := p190.2.2.2.2.2.2.2.1) (x8 := p117.1) (x9 := p117.2.1) (x10 := p117.2.2.1) (x11 := p117.2.2.2.1) (x12 := p117.2.2.2.2.1) (x13 := p117.2.2.2.2.2.1) (x14 := p117.2.2.2.2.2.2.1) (x15 := p117.2.2.2.2.2.2.2.1) ⟨(S.rc 1 rfl), rfl⟩ ⟨(S.rc 2 rfl), rfl⟩ ⟨(S.rc 17 rfl), rfl⟩ ⟨(S.rc 18 rfl), rfl⟩ h198) ?_
                    rintro e u ⟨rfl, T⟩
                    refine ⟨_, rfl, ?_⟩
                    clear hF; intro a hF
                    replace S := S.call0 T; clear T
                    refine op_val (v := .bool (!p198)) rfl rfl hF rfl (run_not rfl (hF.ev rfl)) ?_; clear hF; intro a hF
                    refine op_val (v := .bool (!p198)) rfl rfl hF rfl (run_move rfl (hF.ev rfl)) ?_; clear hF; intro a hF
                    refine op_gv (v := .int .i64 p190.2.2.2.2.2.2.2.2) rfl rfl hF rfl (yf (gw_yield hF rfl rfl rfl)) (fun hg => (run_move rfl (hF.ev rfl))) ?_; clear hF; intro a hF
                    refine op_gv (v := .int .i64 p117.2.2.2.2.2.2.2.2) rfl rfl hF rfl (yf (gw_yield hF rfl rfl rfl)) (fun hg => (run_move rfl (hF.ev rfl))) ?_; clear hF; intro a hF
                    refine op_gv (v := .bool (p190.2.2.2.2.2.2.2.2 != p117.2.2.2.2.2.2.2.2)) rfl rfl hF rfl (yf (gw_yield hF rfl rfl rfl)) (fun hg => (run_neq ((hF.ev rfl).trans (gv_t hg)) ((hF.ev rfl).trans (gv_t hg)) rfl)) ?_; clear hF; intro a hF
                    refine op_val (v := .bool ((!p198) || (p190.2.2.2.2.2.2.2.2 != p117.2.2.2.2.2.2.2.2))) rfl rfl hF rfl (run_pick_or rfl (hF.ev rfl) rfl (fun hp => ((hF.ev rfl).trans (gv_t (not_t hp))))) ?_; clear hF; intro a hF
                    refine wpList_nil ?_
                    cases hc199 : ((!p198) || (p190.2.2.2.2.2.2.2.2 != p117.2.2.2.2.2.2.2.2))
                    · replace hM := bif_f hc199 hM
                      refine cond_f hF rfl hc199 ?_
                      refine wp_skip ?_
                      refine wp_seq ?_
                      refine wp_region_lit ?_
                      refine op_val (v := .int .i64 1) rfl rfl hF rfl (run_assign rfl rfl) ?_; clear hF; intro a hF
                      refine wpList_nil ?_
                      refine wp_seq ?_
                      refine wp_region_lit ?_
                      refine op_val (v := .agg #[.int .i64 p137.1, .slice B138 p137.2.1.length d140, .int .i64 p137.2.2.1, .slice B141 p137.2.2.2.1.length d143, .int .i64 p137.2.2.2.2.1, .int .i64 p137.2.2.2.2.2.1, .int .i64 p137.2.2.2.2.2.2.1, .int .i64 p137.2.2.2.2.2.2.2.1]) rfl rfl hF rfl (run_loadN rfl ag28 (hF.ev rfl) rfl ((S.free 14 rfl).cells 0 #[.int .i64 p137.1, .slice B138 p137.2.1.length d140, .int .i64 p137.2.2.1, .slice B141 p137.2.2.2.1.length d143, .int .i64 p137.2.2.2.2.1, .int .i64 p137.2.2.2.2.2.1, .int .i64 p137.2.2.2.2.2.2.1, .int .i64 p137.2.2.2.2.2.2.2.1] rfl)) ?_; clear hF; intro a hF
                      refine op_val (v := .int .i64 1) rfl rfl hF rfl (run_move rfl (hF.ev rfl)) ?_; clear hF; intro a hF
                      obtain ⟨p200, h200, hM⟩ := bind_ex hM
                      refine op_call rfl rfl hF rfl (run_call (vs := [.agg #[.int .i64 p137.1, .slice B138 p137.2.1.length d140, .int .i64 p137.2.2.1, .slice B141 p137.2.2.2.1.length d143, .int .i64 p137.2.2.2.2.1, .int .i64 p137.2.2.2.2.2.1, .int .i64 p137.2.2.2.2.2.2.1, .int .i64 p137.2.2.2.2.2.2.2.1], .int .i64 1]) rfl rfl co13 ⟨(hF.ev rfl), (hF.ev rfl), trivial⟩) (c_laws_heldPoll (x0 := p137.1) (x1 := p173.2.1) (x2 := p137.2.2.1) (x3 := p173.2.2) (x4 := p137.2.2.2.2.1) (x5 := p137.2.2.2.2.2.1) (x6 := p137.2.2.2.2.2.2.1) (x7 := p137.2.2.2.2.2.2.2.1) (x8 := 1) ⟨(S.rc 6 rfl), hn174⟩ ⟨(S.rc 7 rfl), hn175⟩ h200) ?_
                      rintro e u ⟨rfl, T⟩
                      refine ⟨_, rfl, ?_⟩
                      clear hF; intro a hF
                      replace S := S.call0 T; clear T
                      refine op_val (v := .int .i64 p200) rfl rfl hF rfl (run_assign rfl (hF.ev rfl)) ?_; clear hF; intro a hF
                      refine wpList_nil ?_
                      refine wp_seq ?_
                      refine wp_seq ?_
                      refine wp_region_lit ?_
                      refine op_val (v := .int .i64 p200) rfl rfl hF rfl (run_move rfl (hF.ev rfl)) ?_; clear hF; intro a hF
                      refine op_val (v := .bool (ltB p200 0)) rfl rfl hF rfl (run_lss (hF.ev rfl) rfl rfl) ?_; clear hF; intro a hF
                      refine wpList_nil ?_
                      cases hc201 : (ltB p200 0)
                      · replace hM := bif_f hc201 hM
                        refine cond_f hF rfl hc201 ?_
                        refine wp_skip ?_
                        refine wp_seq ?_
                        refine wp_seq ?_
                        refine wp_region_lit ?_
                        refine op_val (v := .int .i64 p200) rfl rfl hF rfl (run_move rfl (hF.ev rfl)) ?_; clear hF; intro a hF
                        refine op_val (v := .int .i64 p173.1) rfl rfl hF rfl (run_move rfl (hF.ev rfl)) ?_; clear hF; intro a hF
                        refine op_val (v := .bool (p200 != p173.1)) rfl rfl hF rfl (run_neq (hF.ev rfl) (hF.ev rfl) rfl) ?_; clear hF; intro a hF
                        refine wpList_nil ?_
                        cases hc202 : (p200 != p173.1)
                        · replace hM := bif_f hc202 hM
                          refine cond_f hF rfl hc202 ?_
                          refine wp_skip ?_
                          refine wp_seq ?_
                          refine wp_region_lit ?_
                          refine op_val (v := .bool true) rfl rfl hF rfl (run_assign rfl rfl) ?_; clear hF; intro a hF
                          refine wpList_nil ?_
                          refine wp_ret ?_
                          repeat with_reducible (first | refine then_ret ?_ | refine in_ret ?_ | refine in_nrm ?_)
                          refine ret1_gw (.inl rfl) hF rfl (res_tmp (hF.ev rfl)) ?_
                          obtain rfl := Option.some.inj hM
                          exact ⟨rfl, S.sel [] rfl rfl⟩
                        · replace hM := bif_t hc202 hM
                          refine cond_t hF rfl hc202 ?_
                          refine wp_seq ?_
                          refine wp_region_lit ?_
                          refine op_val (v := .bool false) rfl rfl hF rfl (run_assign rfl rfl) ?_; clear hF; intro a hF
                          refine wpList_nil ?_
                          refine wp_ret ?_
                          repeat with_reducible (first | refine then_ret ?_ | refine in_ret ?_ | refine in_nrm ?_)
                          refine ret1_gw (.inl rfl) hF rfl (res_tmp (hF.ev rfl)) ?_
                          obtain rfl := Option.some.inj hM
                          exact ⟨rfl, S.sel [] rfl rfl⟩
                      · replace hM := bif_t hc201 hM
                        refine cond_t hF rfl hc201 ?_
                        refine wp_seq ?_
                        refine wp_region_lit ?_
                        refine op_val (v := .bool false) rfl rfl hF rfl (run_assign rfl rfl) ?_; clear hF; intro a hF
                        refine wpList_nil ?_
                        refine wp_ret ?_
                        repeat with_reducible (first | refine then_ret ?_ | refine in_ret ?_ | refine in_nrm ?_)
                        refine ret1_gw (.inl rfl) hF rfl (res_tmp (hF.ev rfl)) ?_
                        obtain rfl := Option.some.inj hM
                        exact ⟨rfl, S.sel [] rfl rfl⟩
                    · replace hM := bif_t hc199 hM
                      refine cond_t hF rfl hc199 ?_
                      refine wp_seq ?_
                      refine wp_region_lit ?_
                      refine op_val (v := .bool false) rfl rfl hF rfl (run_assign rfl rfl) ?_; clear hF; intro a hF
                      refine wpList_nil ?_
                      refine wp_ret ?_
                      repeat with_reducible (first | refine then_ret ?_ | refine in_ret ?_ | refine in_nrm ?_)
                      refine ret1_gw (.inl rfl) hF rfl (res_tmp (hF.ev rfl)) ?_
                      obtain rfl := Option.some.inj hM
                      exact ⟨rfl, S.sel [] rfl rfl⟩
                  · replace hM := bif_t hc178 hM
                    refine cond_t hF rfl hc178 ?_
                    refine wp_seq ?_
                    refine wp_region_lit ?_
                    refine op_val (v := .bool false) rfl rfl hF rfl (run_assign rfl rfl) ?_; clear hF; intro a hF
                    refine wpList_nil ?_
                    refine wp_ret ?_
                    repeat with_reducible (first | refine then_ret ?_ | refine in_ret ?_ | refine in_nrm ?_)
                    refine ret1_gw (.inl rfl) hF rfl (res_tmp (hF.ev rfl)) ?_
                    obtain rfl := Option.some.inj hM
                    exact ⟨rfl, S.sel [] rfl rfl⟩
                · replace hM := bif_t hc177 hM
                  refine cond_t hF rfl hc177 ?_
                  refine wp_seq ?_
                  refine wp_region_lit ?_
                  refine op_val (v := .bool false) rfl rfl hF rfl (run_assign rfl rfl) ?_; clear hF; intro a hF
                  refine wpList_nil ?_
                  refine wp_ret ?_
                  repeat with_reducible (first | refine then_ret ?_ | refine in_ret ?_ | refine in_nrm ?_)
                  refine ret1_gw (.inl rfl) hF rfl (res_tmp (hF.ev rfl)) ?_
                  obtain rfl := Option.some.inj hM
                  exact ⟨rfl, S.sel [] rfl rfl⟩
              · replace hM := bif_t hc172 hM
                refine cond_t hF rfl hc172 ?_
                refine wp_seq ?_
                refine wp_region_lit ?_
                refine op_val (v := .bool false) rfl rfl hF rfl (run_assign rfl rfl) ?_; clear hF; intro a hF
                refine wpList_nil ?_
                refine wp_ret ?_
                repeat with_reducible (first | refine then_ret ?_ | refine in_ret ?_ | refine in_nrm ?_)
                refine ret1_gw (.inl rfl) hF rfl (res_tmp (hF.ev rfl)) ?_
                obtain rfl := Option.some.inj hM
                exact ⟨rfl, S.sel [] rfl rfl⟩
      · replace hM := bif_t hc146 hM
        refine cond_t hF rfl hc146 ?_
        refine wp_seq ?_
        refine wp_region_lit ?_
        refine op_val (v := .bool false) rfl rfl hF rfl (run_assign rfl rfl) ?_; clear hF; intro a hF
        refine wpList_nil ?_
        refine wp_ret ?_
        repeat with_reducible (first | refine then_ret ?_ | refine in_ret ?_ | refine in_nrm ?_)
        refine ret1_gw (.inl rfl) hF rfl (res_tmp (hF.ev rfl)) ?_
        obtain rfl := Option.some.inj hM
        exact ⟨rfl, S.sel [] rfl rfl⟩
    · replace hM := bif_t hc105 hM
      refine cond_t hF rfl hc105 ?_
      refine wp_seq ?_
      refine wp_region_lit ?_
      refine op_val (v := .bool true) rfl rfl hF rfl (run_assign rfl rfl) ?_; clear hF; intro a hF
      refine wpList_nil ?_
      refine wp_ret ?_
      repeat with_reducible (first | refine then_ret ?_ | refine in_ret ?_ | refine in_nrm ?_)
      refine ret1_gw (.inl rfl) hF rfl (res_tmp (hF.ev rfl)) ?_
      obtain rfl := Option.some.inj hM
      exact ⟨rfl, S.sel [] rfl rfl⟩
  · replace hM := bif_t hc103 hM
    refine cond_t hF rfl hc103 ?_
    refine wp_seq ?_
    refine wp_region_lit ?_
    refine op_val (v := .bool true) rfl rfl hF rfl (run_assign rfl rfl) ?_; clear hF; intro a hF
    refine wpList_nil ?_
    refine wp_ret ?_
    repeat with_reducible (first | refine then_ret ?_ | refine in_ret ?_ | refine in_nrm ?_)
    refine ret1_gw (.inl rfl) hF rfl (res_tmp (hF.ev rfl)) ?_
    obtain rfl := Option.some.inj hM
    exact ⟨rfl, S.sel [] rfl rfl⟩

set_option maxHeartbeats 4000000 in
theorem c_spec_PollDrain {x0 : Int} {x1 : List Int} {x2 : Int} {x3 : List Int} {x4 : Int} {x5 : Int} {x6 : Int} {x7 : Int} {A1 : Option Addr} {n1 c1 : Nat} {A3 : Option Addr} {n3 c3 : Nat} {w : World} {r : Int × List Int × Int × List Int × Int × Int × Int × Int} (h1 : Rt w 1 eI A1 n1 c1 x1) (h3 : Rt w 1 eI A3 n3 c3 x3) (hM : m_spec_PollDrain x0 x1 x2 x3 x4 x5 x6 x7 = some r) :
    Calls Try.prog 14 #[.agg #[.int .i64 x0, .slice A1 n1 c1, .int .i64 x2, .slice A3 n3 c3, .int .i64 x4, .int .i64 x5, .int .i64 x6, .int .i64 x7]] w (fun e w' => ∃ (B0 : Option Addr) (N0 D0 : Nat) (B1 : Option Addr) (N1 D1 : Nat), e = .returned (.agg #[.int .i64 r.1, .slice B0 N0 D0, .int .i64 r.2.2.1, .slice B1 N1 D1, .int .i64 r.2.2.2.2.1, .int .i64 r.2.2.2.2.2.1, .int .i64 r.2.2.2.2.2.2.1, .int .i64 r.2.2.2.2.2.2.2]) ∧ N0 = r.2.1.length ∧ N1 = r.2.2.2.1.length ∧ St w w' [.row 3 1 (.slice B0 N0 D0) N0 (r.2.1.flatMap eI), .row 3 1 (.slice B1 N1 D1) N1 (r.2.2.2.1.flatMap eI)]) := by
  obtain rfl := h1.len
  obtain rfl := h3.len
  unfold m_spec_PollDrain at hM
  refine calls_gw Try.func14 Try.ntmps14 rfl [(0, .agg #[.int .i64 x0, .slice A1 x1.length c1, .int .i64 x2, .slice A3 x3.length c3, .int .i64 x4, .int .i64 x5, .int .i64 x6, .int .i64 x7])] ⟨rfl, trivial⟩ rfl ?_
  intro a hF
  have S := St.nil w
  refine wp_seq ?_
  refine wp_region_lit ?_
  refine op_new (cs := #[.int .i64 x0, .slice A1 x1.length c1, .int .i64 x2, .slice A3 x3.length c3, .int .i64 x4, .int .i64 x5, .int .i64 x6, .int .i64 x7]) rfl rfl hF rfl S (run_box rfl (hF.ev rfl) rfl) ?_; clear hF S; intro a g101 u hF S
  refine op_new (cs := #[.int .i64 0, .slice none 0 0, .int .i64 0, .slice none 0 0, .int .i64 0, .int .i64 0, .int .i64 0, .int .i64 0]) rfl rfl hF rfl S (run_allocZ rfl zr28) ?_; clear hF S; intro a g102 u hF S
  refine wpList_nil ?_
  refine wp_seq ?_
  refine wp_seq ?_
  refine wp_region_lit ?_
  refine op_val (v := .agg #[.int .i64 x0, .slice A1 x1.length c1, .int .i64 x2, .slice A3 x3.length c3, .int .i64 x4, .int .i64 x5, .int .i64 x6, .int .i64 x7]) rfl rfl hF rfl (run_loadN rfl ag28 (hF.ev rfl) rfl ((S.free 1 rfl).cells 0 #[.int .i64 x0, .slice A1 x1.length c1, .int .i64 x2, .slice A3 x3.length c3, .int .i64 x4, .int .i64 x5, .int .i64 x6, .int .i64 x7] rfl)) ?_; clear hF; intro a hF
  obtain ⟨p103, h103, hM⟩ := bind_ex hM
  refine op_call rfl rfl hF rfl (run_call (vs := [.agg #[.int .i64 x0, .slice A1 x1.length c1, .int .i64 x2, .slice A3 x3.length c3, .int .i64 x4, .int .i64 x5, .int .i64 x6, .int .i64 x7]]) rfl rfl co23 ⟨(hF.ev rfl), trivial⟩) (c_spec_PollValid (x0 := x0) (x1 := x1) (x2 := x2) (x3 := x3) (x4 := x4) (x5 := x5) (x6 := x6) (x7 := x7) ⟨(S.rc0 h1.rc), rfl⟩ ⟨(S.rc0 h3.rc), rfl⟩ h103) ?_
  rintro e u ⟨rfl, T⟩
  refine ⟨_, rfl, ?_⟩
  clear hF; intro a hF
  replace S := S.call0 T; clear T
  refine op_val (v := .bool (!p103)) rfl rfl hF rfl (run_not rfl (hF.ev rfl)) ?_; clear hF; intro a hF
  refine wpList_nil ?_
  cases hc104 : (p103)
  · replace hM := bif_f hc104 hM
    refine cond_t hF rfl (not_t hc104) ?_
    refine wp_seq ?_
    refine wp_region_lit ?_
    refine op_val (v := .agg #[.int .i64 0, .slice none 0 0, .int .i64 0, .slice none 0 0, .int .i64 0, .int .i64 0, .int .i64 0, .int .i64 0]) rfl rfl hF rfl (run_build (vs := []) rfl trivial (bd28 )) ?_; clear hF; intro a hF
    refine op_do rfl rfl (run_store (cs' := #[.int .i64 0, .slice none 0 0, .int .i64 0, .slice none 0 0, .int .i64 0, .int .i64 0, .int .i64 0, .int .i64 0]) rfl sz28 (hF.ev rfl) (hF.ev rfl) rfl rfl rfl (S.free 0 rfl) rfl rfl) ?_; replace S := S.put 0 rfl (#[.int .i64 0, .slice none 0 0, .int .i64 0, .slice none 0 0, .int .i64 0, .int .i64 0, .int .i64 0, .int .i64 0])
    generalize World.setRow _ _ _ = u at S ⊢
    refine wpList_nil ?_
    refine wp_ret ?_
    repeat with_reducible (first | refine then_ret ?_ | refine in_ret ?_ | refine in_nrm ?_)
    refine ret1_gw (.inl rfl) hF rfl (res_cell (hF.ev rfl) (res_loadN ag28 rfl (S.cells 0 rfl 0 #[.int .i64 0, .slice none 0 0, .int .i64 0, .slice none 0 0, .int .i64 0, .int .i64 0, .int .i64 0, .int .i64 0] rfl))) ?_
    obtain rfl := Option.some.inj hM
    replace S := S.nilrow 3 1
    replace S := S.nilrow 3 1
    exact ⟨none, 0, 0, none, 0, 0, rfl, rfl, rfl, S.sel [1, 0] rfl rfl⟩
  · replace hM := bif_t hc104 hM
    refine cond_f hF rfl (not_f hc104) ?_
    refine wp_skip ?_
    refine wp_seq ?_
    refine wp_region_lit ?_
    refine op_val (v := .agg #[.int .i64 x0, .slice A1 x1.length c1, .int .i64 x2, .slice A3 x3.length c3, .int .i64 x4, .int .i64 x5, .int .i64 x6, .int .i64 x7]) rfl rfl hF rfl (run_loadN rfl ag28 (hF.ev rfl) rfl ((S.free 1 rfl).cells 0 #[.int .i64 x0, .slice A1 x1.length c1, .int .i64 x2, .slice A3 x3.length c3, .int .i64 x4, .int .i64 x5, .int .i64 x6, .int .i64 x7] rfl)) ?_; clear hF; intro a hF
    obtain ⟨p105, h105, hM⟩ := bind_ex hM
    refine op_call rfl rfl hF rfl (run_call (vs := [.agg #[.int .i64 x0, .slice A1 x1.length c1, .int .i64 x2, .slice A3 x3.length c3, .int .i64 x4, .int .i64 x5, .int .i64 x6, .int .i64 x7]]) rfl rfl co24 ⟨(hF.ev rfl), trivial⟩) (c_spec_l27Copy (x0 := x0) (x1 := x1) (x2 := x2) (x3 := x3) (x4 := x4) (x5 := x5) (x6 := x6) (x7 := x7) ⟨(S.rc0 h1.rc), rfl⟩ ⟨(S.rc0 h3.rc), rfl⟩ h105) ?_
    rintro e u ⟨B106, n107, d108, B109, n110, d111, rfl, rfl, rfl, T⟩
    refine ⟨_, rfl, ?_⟩
    clear hF; intro a hF
    replace S := S.call2 T; clear T
    refine op_new (cs := #[.int .i64 0, .slice none 0 0, .int .i64 0, .slice none 0 0, .int .i64 0, .int .i64 0, .int .i64 0, .int .i64 0]) rfl rfl hF rfl S (run_allocZ rfl zr28) ?_; clear hF S; intro a g112 u hF S
    refine op_do rfl rfl (run_store (cs' := #[.int .i64 p105.1, .slice B106 p105.2.1.length d108, .int .i64 p105.2.2.1, .slice B109 p105.2.2.2.1.length d111, .int .i64 p105.2.2.2.2.1, .int .i64 p105.2.2.2.2.2.1, .int .i64 p105.2.2.2.2.2.2.1, .int .i64 p105.2.2.2.2.2.2.2]) rfl sz28 (hF.ev rfl) (hF.ev rfl) rfl rfl rfl (S.free 0 rfl) rfl rfl) ?_; replace S := S.put 0 rfl (#[.int .i64 p105.1, .slice B106 p105.2.1.length d108, .int .i64 p105.2.2.1, .slice B109 p105.2.2.2.1.length d111, .int .i64 p105.2.2.2.2.1, .int .i64 p105.2.2.2.2.2.1, .int .i64 p105.2.2.2.2.2.2.1, .int .i64 p105.2.2.2.2.2.2.2])
    generalize World.setRow _ _ _ = u at S ⊢
    refine wpList_nil ?_
    refine wp_seq ?_
    refine wp_seq ?_
    refine wp_region_lit ?_
    refine op_val (v := .int .i64 0) rfl rfl hF rfl (run_assign rfl rfl) ?_; clear hF; intro a hF
    refine wpList_nil ?_
    obtain ⟨o114, hM119, hM⟩ := bind_ex hM
    refine wp_cut (fun a u => ∃ (p113 : Int × List Int × Int × List Int × Int × Int × Int × Int) (B115 : Option Addr) (d116 : Nat) (B117 : Option Addr) (d118 : Nat), p113 = o114 ∧ Fr a 31 [(2, .pointer (some ⟨g102, 0, none⟩)), (3, .pointer (some ⟨g112, 0, none⟩))] ∧ St w u [.box g112 28 #[.int .i64 p113.1, .slice B115 p113.2.1.length d116, .int .i64 p113.2.2.1, .slice B117 p113.2.2.2.1.length d118, .int .i64 p113.2.2.2.2.1, .int .i64 p113.2.2.2.2.2.1, .int .i64 p113.2.2.2.2.2.2.1, .int .i64 p113.2.2.2.2.2.2.2], .box g102 28 #[.int .i64 0, .slice none 0 0, .int .i64 0, .slice none 0 0, .int .i64 0, .int .i64 0, .int .i64 0, .int .i64 0], .row 3 1 (.slice B115 p113.2.1.length d116) p113.2.1.length (p113.2.1.flatMap eI), .row 3 1 (.slice B117 p113.2.2.2.1.length d118) p113.2.2.2.1.length (p113.2.2.2.1.flatMap eI)]) ?_ ?_
    · have _ := trivial
      refine wp_block ?_
      refine loop_gw (fun m a u => ∃ (p120 : Int × Int × List Int × Int × List Int × Int × Int × Int × Int) (B121 : Option Addr) (d122 : Nat) (B123 : Option Addr) (d124 : Nat), m_spec_PollDrain_l1 x3 m p120 = some _ ∧ Fr a 31 [(1, .pointer (some ⟨g101, 0, none⟩)), (2, .pointer (some ⟨g102, 0, none⟩)), (3, .pointer (some ⟨g112, 0, none⟩)), (4, .int .i64 p120.1)] ∧ St w u [.box g112 28 #[.int .i64 p120.2.1, .slice B121 p120.2.2.1.length d122, .int .i64 p120.2.2.2.1, .slice B123 p120.2.2.2.2.1.length d124, .int .i64 p120.2.2.2.2.2.1, .int .i64 p120.2.2.2.2.2.2.1, .int .i64 p120.2.2.2.2.2.2.2.1, .int .i64 p120.2.2.2.2.2.2.2.2], .box g102 28 #[.int .i64 0, .slice none 0 0, .int .i64 0, .slice none 0 0, .int .i64 0, .int .i64 0, .int .i64 0, .int .i64 0], .box g101 28 #[.int .i64 x0, .slice A1 x1.length c1, .int .i64 x2, .slice A3 x3.length c3, .int .i64 x4, .int .i64 x5, .int .i64 x6, .int .i64 x7], .row 3 1 (.slice B121 p120.2.2.1.length d122) p120.2.2.1.length (p120.2.2.1.flatMap eI), .row 3 1 (.slice B123 p120.2.2.2.2.1.length d124) p120.2.2.2.2.1.length (p120.2.2.2.2.1.flatMap eI)]) FUEL ⟨(0, p105.1, p105.2.1, p105.2.2.1, p105.2.2.2.1, p105.2.2.2.2.1, p105.2.2.2.2.2.1, p105.2.2.2.2.2.2.1, p105.2.2.2.2.2.2.2), B106, d108, B109, d111, hM119, hF.keep _ ⟨rfl, rfl, rfl, rfl, trivial⟩, S.sel [0, 3, 4, 1, 2] rfl rfl⟩ ?_
      clear hF S hM119; rintro m a u ⟨p120, B121, d122, B123, d124, hM119, hF, S⟩
      rcases m with _ | f1
      · exact none_some hM119
      rw [m_spec_PollDrain_l1.eq_2] at hM119
      refine wp_seq ?_
      refine wp_seq ?_
      refine wp_region_lit ?_
      refine op_val (v := .int .i64 p120.1) rfl rfl hF rfl (run_move rfl (hF.ev rfl)) ?_; clear hF; intro a hF
      refine op_val (v := .pointer (some ⟨g101, 3, none⟩)) rfl rfl hF rfl (run_fieldAddr rfl fl28_3 (hF.ev rfl) rfl) ?_; clear hF; intro a hF
      refine op_val (v := .slice A3 x3.length c3) rfl rfl hF rfl (run_load1 rfl one22 (hF.ev rfl) ((S.free 2 rfl).cell rfl)) ?_; clear hF; intro a hF
      refine op_val (v := .int .i64 (x3.length : Int)) rfl rfl hF rfl (run_lenL rfl rfl Try.underlying22 (hF.ev rfl)) ?_; clear hF; intro a hF
      refine op_val (v := .bool (leB p120.1 (x3.length : Int))) rfl rfl hF rfl (run_leq (hF.ev rfl) (hF.ev rfl) rfl) ?_; clear hF; intro a hF
      refine wpList_nil ?_
      cases hc125 : (leB p120.1 (x3.length : Int))
      · replace hM119 := bif_f hc125 hM119
        refine cond_f hF rfl hc125 ?_
        refine wp_exit ?_
        repeat with_reducible (first | refine then_exit ?_ | refine in_hit ?_ | refine in_miss rfl ?_)
        obtain rfl := Option.some.inj hM119
        exact ⟨(p120.2.1, p120.2.2.1, p120.2.2.2.1, p120.2.2.2.2.1, p120.2.2.2.2.2.1, p120.2.2.2.2.2.2.1, p120.2.2.2.2.2.2.2.1, p120.2.2.2.2.2.2.2.2), B121, d122, B123, d124, rfl, hF.keep _ ⟨rfl, rfl, trivial⟩, S.sel [0, 1, 3, 4] rfl rfl⟩
      · replace hM119 := bif_t hc125 hM119
        refine cond_t hF rfl hc125 ?_
        refine wp_skip ?_
        refine wp_seq ?_
        refine wp_block ?_
        refine wp_seq ?_
        refine wp_region_lit ?_
        refine op_val (v := .agg #[.int .i64 p120.2.1, .slice B121 p120.2.2.1.length d122, .int .i64 p120.2.2.2.1, .slice B123 p120.2.2.2.2.1.length d124, .int .i64 p120.2.2.2.2.2.1, .int .i64 p120.2.2.2.2.2.2.1, .int .i64 p120.2.2.2.2.2.2.2.1, .int .i64 p120.2.2.2.2.2.2.2.2]) rfl rfl hF rfl (run_loadN rfl ag28 (hF.ev rfl) rfl ((S.free 0 rfl).cells 0 #[.int .i64 p120.2.1, .slice B121 p120.2.2.1.length d122, .int .i64 p120.2.2.2.1, .slice B123 p120.2.2.2.2.1.length d124, .int .i64 p120.2.2.2.2.2.1, .int .i64 p120.2.2.2.2.2.2.1, .int .i64 p120.2.2.2.2.2.2.2.1, .int .i64 p120.2.2.2.2.2.2.2.2] rfl)) ?_; clear hF; intro a hF
        refine op_val (v := .agg #[.int .i64 1, .int .i64 0]) rfl rfl hF rfl (run_build (vs := [(0, .int .i64 1)]) rfl ⟨⟨rfl, rfl⟩, trivial⟩ (bd32_0 rfl)) ?_; clear hF; intro a hF
        refine op_val (v := .agg #[.int .i64 2, .int .i64 0]) rfl rfl hF rfl (run_build (vs := [(0, .int .i64 2)]) rfl ⟨⟨rfl, rfl⟩, trivial⟩ (bd32_0 rfl)) ?_; clear hF; intro a hF
        refine op_val (v := .agg #[.int .i64 3, .int .i64 0]) rfl rfl hF rfl (run_build (vs := [(0, .int .i64 3)]) rfl ⟨⟨rfl, rfl⟩, trivial⟩ (bd32_0 rfl)) ?_; clear hF; intro a hF
        refine op_newrowL (ls := (([(1, 0), (2, 0), (3, 0)] : List (Int × Int)) : List (Int × Int))) (e := ePollDeed) rfl rfl hF rfl S (run_buildS (vs := [(0, .agg #[.int .i64 1, .int .i64 0]), (1, .agg #[.int .i64 2, .int .i64 0]), (2, .agg #[.int .i64 3, .int .i64 0])]) rfl ⟨⟨rfl, (hF.ev rfl)⟩, ⟨rfl, (hF.ev rfl)⟩, ⟨rfl, (hF.ev rfl)⟩, trivial⟩ (bs43_3_2_2_2 )) rfl ePollDeed_len (Nat.le_of_ble_eq_true rfl) ?_; clear hF S; intro a g126 u hF S
        obtain ⟨p127, h127, hM119⟩ := bind_ex hM119
        refine op_call rfl rfl hF rfl (run_call (vs := [.agg #[.int .i64 p120.2.1, .slice B121 p120.2.2.1.length d122, .int .i64 p120.2.2.2.1, .slice B123 p120.2.2.2.2.1.length d124, .int .i64 p120.2.2.2.2.2.1, .int .i64 p120.2.2.2.2.2.2.1, .int .i64 p120.2.2.2.2.2.2.2.1, .int .i64 p120.2.2.2.2.2.2.2.2], .slice (some ⟨g126, 0, none⟩) (([(1, 0), (2, 0), (3, 0)] : List (Int × Int)).length) (([(1, 0), (2, 0), (3, 0)] : List (Int × Int)).length)]) rfl rfl co17 ⟨(hF.ev rfl), (hF.ev rfl), trivial⟩) (c_spec_PollRun (x0 := p120.2.1) (x1 := p120.2.2.1) (x2 := p120.2.2.2.1) (x3 := p120.2.2.2.2.1) (x4 := p120.2.2.2.2.2.1) (x5 := p120.2.2.2.2.2.2.1) (x6 := p120.2.2.2.2.2.2.2.1) (x7 := p120.2.2.2.2.2.2.2.2) (x8 := ([(1, 0), (2, 0), (3, 0)] : List (Int × Int))) ⟨(S.rc 4 rfl), rfl⟩ ⟨(S.rc 5 rfl), rfl⟩ ⟨(S.rc 0 rfl), rfl⟩ h127) ?_
        rintro e u ⟨B128, n129, d130, B131, n132, d133, rfl, rfl, rfl, T⟩
        refine ⟨_, rfl, ?_⟩
        clear hF; intro a hF
        replace S := S.call2 T; clear T
        refine op_val (v := .tuple #[.agg #[.int .i64 p127.1, .slice B128 p127.2.1.length d130, .int .i64 p127.2.2.1, .slice B131 p127.2.2.2.1.length d133, .int .i64 p127.2.2.2.2.1, .int .i64 p127.2.2.2.2.2.1, .int .i64 p127.2.2.2.2.2.2.1, .int .i64 p127.2.2.2.2.2.2.2.1], .int .i64 p127.2.2.2.2.2.2.2.2]) rfl rfl hF rfl (run_move rfl (hF.ev rfl)) ?_; clear hF; intro a hF
        refine op_val (v := .agg #[.int .i64 p127.1, .slice B128 p127.2.1.length d130, .int .i64 p127.2.2.1, .slice B131 p127.2.2.2.1.length d133, .int .i64 p127.2.2.2.2.1, .int .i64 p127.2.2.2.2.2.1, .int .i64 p127.2.2.2.2.2.2.1, .int .i64 p127.2.2.2.2.2.2.2.1]) rfl rfl hF rfl (run_extract rfl (hF.ev rfl) rfl) ?_; clear hF; intro a hF
        refine op_val (v := .int .i64 p127.2.2.2.2.2.2.2.2) rfl rfl hF rfl (run_extract rfl (hF.ev rfl) rfl) ?_; clear hF; intro a hF
        refine op_new (cs := #[.int .i64 0, .slice none 0 0, .int .i64 0, .slice none 0 0, .int .i64 0, .int .i64 0, .int .i64 0, .int .i64 0]) rfl rfl hF rfl S (run_allocZ rfl zr28) ?_; clear hF S; intro a g134 u hF S
        refine op_do rfl rfl (run_store (cs' := #[.int .i64 p127.1, .slice B128 p127.2.1.length d130, .int .i64 p127.2.2.1, .slice B131 p127.2.2.2.1.length d133, .int .i64 p127.2.2.2.2.1, .int .i64 p127.2.2.2.2.2.1, .int .i64 p127.2.2.2.2.2.2.1, .int .i64 p127.2.2.2.2.2.2.2.1]) rfl sz28 (hF.ev rfl) (hF.ev rfl) rfl rfl rfl (S.free 0 rfl) rfl rfl) ?_; replace S := S.put 0 rfl (#[.int .i64 p127.1, .slice B128 p127.2.1.length d130, .int .i64 p127.2.2.1, .slice B131 p127.2.2.2.1.length d133, .int .i64 p127.2.2.2.2.1, .int .i64 p127.2.2.2.2.2.1, .int .i64 p127.2.2.2.2.2.2.1, .int .i64 p127.2.2.2.2.2.2.2.1])
        generalize World.setRow _ _ _ = u at S ⊢
        refine op_val (v := .int .i64 p127.2.2.2.2.2.2.2.2) rfl rfl hF rfl (run_assign rfl (hF.ev rfl)) ?_; clear hF; intro a hF
        refine wpList_nil ?_
        refine wp_region_lit ?_
        refine op_val (v := .agg #[.int .i64 p127.1, .slice B128 p127.2.1.length d130, .int .i64 p127.2.2.1, .slice B131 p127.2.2.2.1.length d133, .int .i64 p127.2.2.2.2.1, .int .i64 p127.2.2.2.2.2.1, .int .i64 p127.2.2.2.2.2.2.1, .int .i64 p127.2.2.2.2.2.2.2.1]) rfl rfl hF rfl (run_loadN rfl ag28 (hF.ev rfl) rfl ((S.free 0 rfl).cells 0 #[.int .i64 p127.1, .slice B128 p127.2.1.length d130, .int .i64 p127.2.2.1, .slice B131 p127.2.2.2.1.length d133, .int .i64 p127.2.2.2.2.1, .int .i64 p127.2.2.2.2.2.1, .int .i64 p127.2.2.2.2.2.2.1, .int .i64 p127.2.2.2.2.2.2.2.1] rfl)) ?_; clear hF; intro a hF
        refine op_do rfl rfl (run_store (cs' := #[.int .i64 p127.1, .slice B128 p127.2.1.length d130, .int .i64 p127.2.2.1, .slice B131 p127.2.2.2.1.length d133, .int .i64 p127.2.2.2.2.1, .int .i64 p127.2.2.2.2.2.1, .int .i64 p127.2.2.2.2.2.2.1, .int .i64 p127.2.2.2.2.2.2.2.1]) rfl sz28 (hF.ev rfl) (hF.ev rfl) rfl rfl rfl (S.free 4 rfl) rfl rfl) ?_; replace S := S.put 4 rfl (#[.int .i64 p127.1, .slice B128 p127.2.1.length d130, .int .i64 p127.2.2.1, .slice B131 p127.2.2.2.1.length d133, .int .i64 p127.2.2.2.2.1, .int .i64 p127.2.2.2.2.2.1, .int .i64 p127.2.2.2.2.2.2.1, .int .i64 p127.2.2.2.2.2.2.2.1])
        generalize World.setRow _ _ _ = u at S ⊢
        refine wpList_nil ?_
        refine wp_region_lit ?_
        refine op_val (v := .int .i64 p120.1) rfl rfl hF rfl (run_move rfl (hF.ev rfl)) ?_; clear hF; intro a hF
        refine op_val (v := .int .i64 (w64 (p120.1 + 1))) rfl rfl hF rfl (run_add (z := w64 (p120.1 + 1)) (hF.ev rfl) rfl rfl rfl) ?_; clear hF; intro a hF
        refine op_val (v := .int .i64 (w64 (p120.1 + 1))) rfl rfl hF rfl (run_assign rfl (hF.ev rfl)) ?_; clear hF; intro a hF
        refine wpList_nil ?_
        exact ⟨f1, Nat.lt_succ_self _, (w64 (p120.1 + 1), p127.1, p127.2.1, p127.2.2.1, p127.2.2.2.1, p127.2.2.2.2.1, p127.2.2.2.2.2.1, p127.2.2.2.2.2.2.1, p127.2.2.2.2.2.2.2.1), B128, d130, B131, d133, hM119, hF.keep _ ⟨rfl, rfl, rfl, rfl, trivial⟩, S.sel [4, 5, 6, 1, 2] rfl rfl⟩
    · rintro a u ⟨p113, B115, d116, B117, d118, rfl, hF, S⟩
      refine wp_seq ?_
      refine wp_region_lit ?_
      refine op_val (v := .agg #[.int .i64 p113.1, .slice B115 p113.2.1.length d116, .int .i64 p113.2.2.1, .slice B117 p113.2.2.2.1.length d118, .int .i64 p113.2.2.2.2.1, .int .i64 p113.2.2.2.2.2.1, .int .i64 p113.2.2.2.2.2.2.1, .int .i64 p113.2.2.2.2.2.2.2]) rfl rfl hF rfl (run_loadN rfl ag28 (hF.ev rfl) rfl ((S.free 0 rfl).cells 0 #[.int .i64 p113.1, .slice B115 p113.2.1.length d116, .int .i64 p113.2.2.1, .slice B117 p113.2.2.2.1.length d118, .int .i64 p113.2.2.2.2.1, .int .i64 p113.2.2.2.2.2.1, .int .i64 p113.2.2.2.2.2.2.1, .int .i64 p113.2.2.2.2.2.2.2] rfl)) ?_; clear hF; intro a hF
      refine op_do rfl rfl (run_store (cs' := #[.int .i64 p113.1, .slice B115 p113.2.1.length d116, .int .i64 p113.2.2.1, .slice B117 p113.2.2.2.1.length d118, .int .i64 p113.2.2.2.2.1, .int .i64 p113.2.2.2.2.2.1, .int .i64 p113.2.2.2.2.2.2.1, .int .i64 p113.2.2.2.2.2.2.2]) rfl sz28 (hF.ev rfl) (hF.ev rfl) rfl rfl rfl (S.free 1 rfl) rfl rfl) ?_; replace S := S.put 1 rfl (#[.int .i64 p113.1, .slice B115 p113.2.1.length d116, .int .i64 p113.2.2.1, .slice B117 p113.2.2.2.1.length d118, .int .i64 p113.2.2.2.2.1, .int .i64 p113.2.2.2.2.2.1, .int .i64 p113.2.2.2.2.2.2.1, .int .i64 p113.2.2.2.2.2.2.2])
      generalize World.setRow _ _ _ = u at S ⊢
      refine wpList_nil ?_
      refine wp_ret ?_
      repeat with_reducible (first | refine then_ret ?_ | refine in_ret ?_ | refine in_nrm ?_)
      refine ret1_gw (.inl rfl) hF rfl (res_cell (hF.ev rfl) (res_loadN ag28 rfl (S.cells 1 rfl 0 #[.int .i64 p113.1, .slice B115 p113.2.1.length d116, .int .i64 p113.2.2.1, .slice B117 p113.2.2.2.1.length d118, .int .i64 p113.2.2.2.2.1, .int .i64 p113.2.2.2.2.2.1, .int .i64 p113.2.2.2.2.2.2.1, .int .i64 p113.2.2.2.2.2.2.2] rfl))) ?_
      obtain rfl := Option.some.inj hM
      exact ⟨B115, p113.2.1.length, d116, B117, p113.2.2.2.1.length, d118, rfl, rfl, rfl, S.sel [2, 3] rfl rfl⟩

set_option maxHeartbeats 4000000 in
theorem c_impl_PollDrain {x0 : Int} {x1 : List Int} {x2 : Int} {x3 : List Int} {x4 : Int} {x5 : Int} {x6 : Int} {x7 : Int} {A1 : Option Addr} {n1 c1 : Nat} {A3 : Option Addr} {n3 c3 : Nat} {w : World} {r : Int × List Int × Int × List Int × Int × Int × Int × Int} (h1 : Rt w 1 eI A1 n1 c1 x1) (h3 : Rt w 1 eI A3 n3 c3 x3) (hM : m_impl_PollDrain x0 x1 x2 x3 x4 x5 x6 x7 = some r) :
    Calls Try.prog 15 #[.agg #[.int .i64 x0, .slice A1 n1 c1, .int .i64 x2, .slice A3 n3 c3, .int .i64 x4, .int .i64 x5, .int .i64 x6, .int .i64 x7]] w (fun e w' => ∃ (B0 : Option Addr) (N0 D0 : Nat) (B1 : Option Addr) (N1 D1 : Nat), e = .returned (.agg #[.int .i64 r.1, .slice B0 N0 D0, .int .i64 r.2.2.1, .slice B1 N1 D1, .int .i64 r.2.2.2.2.1, .int .i64 r.2.2.2.2.2.1, .int .i64 r.2.2.2.2.2.2.1, .int .i64 r.2.2.2.2.2.2.2]) ∧ N0 = r.2.1.length ∧ N1 = r.2.2.2.1.length ∧ St w w' [.row 3 1 (.slice B0 N0 D0) N0 (r.2.1.flatMap eI), .row 3 1 (.slice B1 N1 D1) N1 (r.2.2.2.1.flatMap eI)]) := by
  obtain rfl := h1.len
  obtain rfl := h3.len
  unfold m_impl_PollDrain at hM
  refine calls_gw Try.func15 Try.ntmps15 rfl [(0, .agg #[.int .i64 x0, .slice A1 x1.length c1, .int .i64 x2, .slice A3 x3.length c3, .int .i64 x4, .int .i64 x5, .int .i64 x6, .int .i64 x7])] ⟨rfl, trivial⟩ rfl ?_
  intro a hF
  have S := St.nil w
  refine wp_seq ?_
  refine wp_region_lit ?_
  refine op_new (cs := #[.int .i64 x0, .slice A1 x1.length c1, .int .i64 x2, .slice A3 x3.length c3, .int .i64 x4, .int .i64 x5, .int .i64 x6, .int .i64 x7]) rfl rfl hF rfl S (run_box rfl (hF.ev rfl) rfl) ?_; clear hF S; intro a g101 u hF S
  refine op_new (cs := #[.int .i64 0, .slice none 0 0, .int .i64 0, .slice none 0 0, .int .i64 0, .int .i64 0, .int .i64 0, .int .i64 0]) rfl rfl hF rfl S (run_allocZ rfl zr28) ?_; clear hF S; intro a g102 u hF S
  refine wpList_nil ?_
  refine wp_seq ?_
  refine wp_region_lit ?_
  refine op_val (v := .pointer (some ⟨g101, 3, none⟩)) rfl rfl hF rfl (run_fieldAddr rfl fl28_3 (hF.ev rfl) rfl) ?_; clear hF; intro a hF
  refine op_val (v := .slice A3 x3.length c3) rfl rfl hF rfl (run_load1 rfl one22 (hF.ev rfl) ((S.free 1 rfl).cell rfl)) ?_; clear hF; intro a hF
  refine op_val (v := .int .i64 (x3.length : Int)) rfl rfl hF rfl (run_lenL rfl rfl Try.underlying22 (hF.ev rfl)) ?_; clear hF; intro a hF
  refine op_val (v := .int .i64 (w64 ((x3.length : Int) + 1))) rfl rfl hF rfl (run_add (z := w64 ((x3.length : Int) + 1)) (hF.ev rfl) rfl rfl rfl) ?_; clear hF; intro a hF
  refine op_val (v := .int .i64 (w64 ((x3.length : Int) + 1))) rfl rfl hF rfl (run_assign rfl (hF.ev rfl)) ?_; clear hF; intro a hF
  refine wpList_nil ?_
  refine wp_seq ?_
  refine wp_seq ?_
  refine wp_region_lit ?_
  refine op_val (v := .agg #[.int .i64 x0, .slice A1 x1.length c1, .int .i64 x2, .slice A3 x3.length c3, .int .i64 x4, .int .i64 x5, .int .i64 x6, .int .i64 x7]) rfl rfl hF rfl (run_loadN rfl ag28 (hF.ev rfl) rfl ((S.free 1 rfl).cells 0 #[.int .i64 x0, .slice A1 x1.length c1, .int .i64 x2, .slice A3 x3.length c3, .int .i64 x4, .int .i64 x5, .int .i64 x6, .int .i64 x7] rfl)) ?_; clear hF; intro a hF
  obtain ⟨p103, h103, hM⟩ := bind_ex hM
  refine op_call rfl rfl hF rfl (run_call (vs := [.agg #[.int .i64 x0, .slice A1 x1.length c1, .int .i64 x2, .slice A3 x3.length c3, .int .i64 x4, .int .i64 x5, .int .i64 x6, .int .i64 x7]]) rfl rfl co28 ⟨(hF.ev rfl), trivial⟩) (c_impl_PollValid (x0 := x0) (x1 := x1) (x2 := x2) (x3 := x3) (x4 := x4) (x5 := x5) (x6 := x6) (x7 := x7) ⟨(S.rc0 h1.rc), rfl⟩ ⟨(S.rc0 h3.rc), rfl⟩ h103) ?_
  rintro e u ⟨rfl, T⟩
  refine ⟨_, rfl, ?_⟩
  clear hF; intro a hF
  replace S := S.call0 T; clear T
  refine op_val (v := .bool (!p103)) rfl rfl hF rfl (run_not rfl (hF.ev rfl)) ?_; clear hF; intro a hF
  refine wpList_nil ?_
  cases hc104 : (p103)
  · replace hM := bif_f hc104 hM
    refine cond_t hF rfl (not_t hc104) ?_
    refine wp_seq ?_
    refine wp_region_lit ?_
    refine op_val (v := .agg #[.int .i64 0, .slice none 0 0, .int .i64 0, .slice none 0 0, .int .i64 0, .int .i64 0, .int .i64 0, .int .i64 0]) rfl rfl hF rfl (run_build (vs := []) rfl trivial (bd28 )) ?_; clear hF; intro a hF
    refine op_do rfl rfl (run_store (cs' := #[.int .i64 0, .slice none 0 0, .int .i64 0, .slice none 0 0, .int .i64 0, .int .i64 0, .int .i64 0, .int .i64 0]) rfl sz28 (hF.ev rfl) (hF.ev rfl) rfl rfl rfl (S.free 0 rfl) rfl rfl) ?_; replace S := S.put 0 rfl (#[.int .i64 0, .slice none 0 0, .int .i64 0, .slice none 0 0, .int .i64 0, .int .i64 0, .int .i64 0, .int .i64 0])
    generalize World.setRow _ _ _ = u at S ⊢
    refine wpList_nil ?_
    refine wp_ret ?_
    repeat with_reducible (first | refine then_ret ?_ | refine in_ret ?_ | refine in_nrm ?_)
    refine ret1_gw (.inl rfl) hF rfl (res_cell (hF.ev rfl) (res_loadN ag28 rfl (S.cells 0 rfl 0 #[.int .i64 0, .slice none 0 0, .int .i64 0, .slice none 0 0, .int .i64 0, .int .i64 0, .int .i64 0, .int .i64 0] rfl))) ?_
    obtain rfl := Option.some.inj hM
    replace S := S.nilrow 3 1
    replace S := S.nilrow 3 1
    exact ⟨none, 0, 0, none, 0, 0, rfl, rfl, rfl, S.sel [1, 0] rfl rfl⟩
  · replace hM := bif_t hc104 hM
    refine cond_f hF rfl (not_f hc104) ?_
    refine wp_skip ?_
    refine wp_seq ?_
    refine wp_seq ?_
    refine wp_region_lit ?_
    refine op_val (v := .int .i64 (w64 ((x3.length : Int) + 1))) rfl rfl hF rfl (run_move rfl (hF.ev rfl)) ?_; clear hF; intro a hF
    refine op_val (v := .int .i64 0) rfl rfl hF rfl (run_move rfl rfl) ?_; clear hF; intro a hF
    refine wpList_nil ?_
    obtain ⟨o106, hM111, hM⟩ := bind_ex hM
    refine wp_cut (fun a u => ∃ (p105 : Int × List Int × Bool × Int × List Int × Bool × Int × Int × Int × Int) (B107 : Option Addr) (d108 : Nat) (B109 : Option Addr) (d110 : Nat), p105 = o106 ∧ Fr a 26 [(1, .pointer (some ⟨g101, 0, none⟩)), (2, .pointer (some ⟨g102, 0, none⟩))] ∧ St w u [.box g102 28 #[.int .i64 0, .slice none 0 0, .int .i64 0, .slice none 0 0, .int .i64 0, .int .i64 0, .int .i64 0, .int .i64 0], .box g101 28 #[.int .i64 p105.1, .slice B107 p105.2.1.length d108, .int .i64 p105.2.2.2.1, .slice B109 p105.2.2.2.2.1.length d110, .int .i64 p105.2.2.2.2.2.2.1, .int .i64 p105.2.2.2.2.2.2.2.1, .int .i64 p105.2.2.2.2.2.2.2.2.1, .int .i64 p105.2.2.2.2.2.2.2.2.2], mrow p105.2.2.1 w.heap.size 3 1 (.slice B107 p105.2.1.length d108) p105.2.1.length (p105.2.1.flatMap eI), mrow p105.2.2.2.2.2.1 w.heap.size 3 1 (.slice B109 p105.2.2.2.2.1.length d110) p105.2.2.2.2.1.length (p105.2.2.2.2.1.flatMap eI)]) ?_ ?_
    · have _ := trivial
      refine wp_block ?_
      replace S := S.addold h1.rc (by decide)
      replace S := S.addold h3.rc (by decide)
      refine loop_gw (fun m a u => ∃ (p112 : Int × Int × List Int × Bool × Int × List Int × Bool × Int × Int × Int × Int) (B113 : Option Addr) (d114 : Nat) (B115 : Option Addr) (d116 : Nat), m_impl_PollDrain_l1 x3 m p112 = some _ ∧ Fr a 26 [(1, .pointer (some ⟨g101, 0, none⟩)), (2, .pointer (some ⟨g102, 0, none⟩)), (12, .int .i64 (w64 ((x3.length : Int) + 1))), (13, .int .i64 p112.1)] ∧ St w u [.box g102 28 #[.int .i64 0, .slice none 0 0, .int .i64 0, .slice none 0 0, .int .i64 0, .int .i64 0, .int .i64 0, .int .i64 0], .box g101 28 #[.int .i64 p112.2.1, .slice B113 p112.2.2.1.length d114, .int .i64 p112.2.2.2.2.1, .slice B115 p112.2.2.2.2.2.1.length d116, .int .i64 p112.2.2.2.2.2.2.2.1, .int .i64 p112.2.2.2.2.2.2.2.2.1, .int .i64 p112.2.2.2.2.2.2.2.2.2.1, .int .i64 p112.2.2.2.2.2.2.2.2.2.2], mrow p112.2.2.2.1 w.heap.size 3 1 (.slice B113 p112.2.2.1.length d114) p112.2.2.1.length (p112.2.2.1.flatMap eI), mrow p112.2.2.2.2.2.2.1 w.heap.size 3 1 (.slice B115 p112.2.2.2.2.2.1.length d116) p112.2.2.2.2.2.1.length (p112.2.2.2.2.2.1.flatMap eI)]) FUEL ⟨(0, x0, x1, false, x2, x3, false, x4, x5, x6, x7), A1, c1, A3, c3, hM111, hF.keep _ ⟨rfl, rfl, rfl, rfl, trivial⟩, S.sel [2, 3, 1, 0] rfl rfl⟩ ?_
      clear hF S hM111; rintro m a u ⟨p112, B113, d114, B115, d116, hM111, hF, S⟩
      rcases m with _ | f1
      · exact none_some hM111
      rw [m_impl_PollDrain_l1.eq_2] at hM111
      refine wp_seq ?_
      refine wp_region_lit ?_
      refine op_val (v := .bool (ltB p112.1 (w64 ((x3.length : Int) + 1)))) rfl rfl hF rfl (run_lss (hF.ev rfl) (hF.ev rfl) rfl) ?_; clear hF; intro a hF
      refine wpList_nil ?_
      refine wp_seq ?_
      cases hc117 : (ltB p112.1 (w64 ((x3.length : Int) + 1)))
      · replace hM111 := bif_f hc117 hM111
        refine cond_f hF rfl hc117 ?_
        refine wp_exit ?_
        repeat with_reducible (first | refine then_exit ?_ | refine in_hit ?_ | refine in_miss rfl ?_)
        obtain rfl := Option.some.inj hM111
        exact ⟨(p112.2.1, p112.2.2.1, p112.2.2.2.1, p112.2.2.2.2.1, p112.2.2.2.2.2.1, p112.2.2.2.2.2.2.1, p112.2.2.2.2.2.2.2.1, p112.2.2.2.2.2.2.2.2.1, p112.2.2.2.2.2.2.2.2.2.1, p112.2.2.2.2.2.2.2.2.2.2), B113, d114, B115, d116, rfl, hF.keep _ ⟨rfl, rfl, trivial⟩, S.sel [0, 1, 2, 3] rfl rfl⟩
      · replace hM111 := bif_t hc117 hM111
        refine cond_t hF rfl hc117 ?_
        refine wp_skip ?_
        refine wp_seq ?_
        refine wp_block ?_
        refine wp_region_lit ?_
        refine op_val (v := .agg #[.int .i64 p112.2.1, .slice B113 p112.2.2.1.length d114, .int .i64 p112.2.2.2.2.1, .slice B115 p112.2.2.2.2.2.1.length d116, .int .i64 p112.2.2.2.2.2.2.2.1, .int .i64 p112.2.2.2.2.2.2.2.2.1, .int .i64 p112.2.2.2.2.2.2.2.2.2.1, .int .i64 p112.2.2.2.2.2.2.2.2.2.2]) rfl rfl hF rfl (run_loadN rfl ag28 (hF.ev rfl) rfl ((S.free 1 rfl).cells 0 #[.int .i64 p112.2.1, .slice B113 p112.2.2.1.length d114, .int .i64 p112.2.2.2.2.1, .slice B115 p112.2.2.2.2.2.1.length d116, .int .i64 p112.2.2.2.2.2.2.2.1, .int .i64 p112.2.2.2.2.2.2.2.2.1, .int .i64 p112.2.2.2.2.2.2.2.2.2.1, .int .i64 p112.2.2.2.2.2.2.2.2.2.2] rfl)) ?_; clear hF; intro a hF
        refine op_val (v := .agg #[.int .i64 1, .int .i64 0]) rfl rfl hF rfl (run_build (vs := [(0, .int .i64 1)]) rfl ⟨⟨rfl, rfl⟩, trivial⟩ (bd32_0 rfl)) ?_; clear hF; intro a hF
        refine op_val (v := .agg #[.int .i64 2, .int .i64 0]) rfl rfl hF rfl (run_build (vs := [(0, .int .i64 2)]) rfl ⟨⟨rfl, rfl⟩, trivial⟩ (bd32_0 rfl)) ?_; clear hF; intro a hF
        refine op_val (v := .agg #[.int .i64 3, .int .i64 0]) rfl rfl hF rfl (run_build (vs := [(0, .int .i64 3)]) rfl ⟨⟨rfl, rfl⟩, trivial⟩ (bd32_0 rfl)) ?_; clear hF; intro a hF
        refine op_newrowL (ls := (([(1, 0), (2, 0), (3, 0)] : List (Int × Int)) : List (Int × Int))) (e := ePollDeed) rfl rfl hF rfl S (run_buildS (vs := [(0, .agg #[.int .i64 1, .int .i64 0]), (1, .agg #[.int .i64 2, .int .i64 0]), (2, .agg #[.int .i64 3, .int .i64 0])]) rfl ⟨⟨rfl, (hF.ev rfl)⟩, ⟨rfl, (hF.ev rfl)⟩, ⟨rfl, (hF.ev rfl)⟩, trivial⟩ (bs43_3_2_2_2 )) rfl ePollDeed_len (Nat.le_of_ble_eq_true rfl) ?_; clear hF S; intro a g118 u hF S
        obtain ⟨p119, h119, hM111⟩ := bind_ex hM111
        refine op_call rfl rfl hF rfl (run_call (vs := [.agg #[.int .i64 p112.2.1, .slice B113 p112.2.2.1.length d114, .int .i64 p112.2.2.2.2.1, .slice B115 p112.2.2.2.2.2.1.length d116, .int .i64 p112.2.2.2.2.2.2.2.1, .int .i64 p112.2.2.2.2.2.2.2.2.1, .int .i64 p112.2.2.2.2.2.2.2.2.2.1, .int .i64 p112.2.2.2.2.2.2.2.2.2.2], .slice (some ⟨g118, 0, none⟩) (([(1, 0), (2, 0), (3, 0)] : List (Int × Int)).length) (([(1, 0), (2, 0), (3, 0)] : List (Int × Int)).length)]) rfl rfl co19 ⟨(hF.ev rfl), (hF.ev rfl), trivial⟩) (c_impl_PollRun (x0 := p112.2.1) (x1 := p112.2.2.1) (x2 := p112.2.2.2.2.1) (x3 := p112.2.2.2.2.2.1) (x4 := p112.2.2.2.2.2.2.2.1) (x5 := p112.2.2.2.2.2.2.2.2.1) (x6 := p112.2.2.2.2.2.2.2.2.2.1) (x7 := p112.2.2.2.2.2.2.2.2.2.2) (x8 := ([(1, 0), (2, 0), (3, 0)] : List (Int × Int))) ⟨(S.rcm 3 rfl), rfl⟩ ⟨(S.rcm 4 rfl), rfl⟩ ⟨(S.rc 0 rfl), rfl⟩ h119) ?_
        rintro e u ⟨B120, n121, d122, B123, n124, d125, rfl, rfl, rfl, T⟩
        refine ⟨_, rfl, ?_⟩
        clear hF; intro a hF
        replace S := S.call2 T; clear T
        refine op_val (v := .tuple #[.agg #[.int .i64 p119.1, .slice B120 p119.2.1.length d122, .int .i64 p119.2.2.1, .slice B123 p119.2.2.2.1.length d125, .int .i64 p119.2.2.2.2.1, .int .i64 p119.2.2.2.2.2.1, .int .i64 p119.2.2.2.2.2.2.1, .int .i64 p119.2.2.2.2.2.2.2.1], .int .i64 p119.2.2.2.2.2.2.2.2]) rfl rfl hF rfl (run_move rfl (hF.ev rfl)) ?_; clear hF; intro a hF
        refine op_val (v := .agg #[.int .i64 p119.1, .slice B120 p119.2.1.length d122, .int .i64 p119.2.2.1, .slice B123 p119.2.2.2.1.length d125, .int .i64 p119.2.2.2.2.1, .int .i64 p119.2.2.2.2.2.1, .int .i64 p119.2.2.2.2.2.2.1, .int .i64 p119.2.2.2.2.2.2.2.1]) rfl rfl hF rfl (run_extract rfl (hF.ev rfl) rfl) ?_; clear hF; intro a hF
        refine op_val (v := .int .i64 p119.2.2.2.2.2.2.2.2) rfl rfl hF rfl (run_extract rfl (hF.ev rfl) rfl) ?_; clear hF; intro a hF
        refine op_do rfl rfl (run_store (cs' := #[.int .i64 p119.1, .slice B120 p119.2.1.length d122, .int .i64 p119.2.2.1, .slice B123 p119.2.2.2.1.length d125, .int .i64 p119.2.2.2.2.1, .int .i64 p119.2.2.2.2.2.1, .int .i64 p119.2.2.2.2.2.2.1, .int .i64 p119.2.2.2.2.2.2.2.1]) rfl sz28 (hF.ev rfl) (hF.ev rfl) rfl rfl rfl (S.free 4 rfl) rfl rfl) ?_; replace S := S.put 4 rfl (#[.int .i64 p119.1, .slice B120 p119.2.1.length d122, .int .i64 p119.2.2.1, .slice B123 p119.2.2.2.1.length d125, .int .i64 p119.2.2.2.2.1, .int .i64 p119.2.2.2.2.2.1, .int .i64 p119.2.2.2.2.2.2.1, .int .i64 p119.2.2.2.2.2.2.2.1])
        generalize World.setRow _ _ _ = u at S ⊢
        refine wpList_nil ?_
        refine wp_region_lit ?_
        refine op_val (v := .int .i64 (w64 (p112.1 + 1))) rfl rfl hF rfl (run_add (z := w64 (p112.1 + 1)) (hF.ev rfl) rfl rfl rfl) ?_; clear hF; intro a hF
        refine op_val (v := .int .i64 (w64 (p112.1 + 1))) rfl rfl hF rfl (run_move rfl (hF.ev rfl)) ?_; clear hF; intro a hF
        refine wpList_nil ?_
        exact ⟨f1, Nat.lt_succ_self _, (w64 (p112.1 + 1), p119.1, p119.2.1, true, p119.2.2.1, p119.2.2.2.1, true, p119.2.2.2.2.1, p119.2.2.2.2.2.1, p119.2.2.2.2.2.2.1, p119.2.2.2.2.2.2.2.1), B120, d122, B123, d125, hM111, hF.keep _ ⟨rfl, rfl, rfl, rfl, trivial⟩, S.sel [3, 4, 0, 1] rfl rfl⟩
    · rintro a u ⟨p105, B107, d108, B109, d110, rfl, hF, S⟩
      refine wp_seq ?_
      refine wp_region_lit ?_
      refine op_val (v := .agg #[.int .i64 p105.1, .slice B107 p105.2.1.length d108, .int .i64 p105.2.2.2.1, .slice B109 p105.2.2.2.2.1.length d110, .int .i64 p105.2.2.2.2.2.2.1, .int .i64 p105.2.2.2.2.2.2.2.1, .int .i64 p105.2.2.2.2.2.2.2.2.1, .int .i64 p105.2.2.2.2.2.2.2.2.2]) rfl rfl hF rfl (run_loadN rfl ag28 (hF.ev rfl) rfl ((S.free 1 rfl).cells 0 #[.int .i64 p105.1, .slice B107 p105.2.1.length d108, .int .i64 p105.2.2.2.1, .slice B109 p105.2.2.2.2.1.length d110, .int .i64 p105.2.2.2.2.2.2.1, .int .i64 p105.2.2.2.2.2.2.2.1, .int .i64 p105.2.2.2.2.2.2.2.2.1, .int .i64 p105.2.2.2.2.2.2.2.2.2] rfl)) ?_; clear hF; intro a hF
      refine op_do rfl rfl (run_store (cs' := #[.int .i64 p105.1, .slice B107 p105.2.1.length d108, .int .i64 p105.2.2.2.1, .slice B109 p105.2.2.2.2.1.length d110, .int .i64 p105.2.2.2.2.2.2.1, .int .i64 p105.2.2.2.2.2.2.2.1, .int .i64 p105.2.2.2.2.2.2.2.2.1, .int .i64 p105.2.2.2.2.2.2.2.2.2]) rfl sz28 (hF.ev rfl) (hF.ev rfl) rfl rfl rfl (S.free 0 rfl) rfl rfl) ?_; replace S := S.put 0 rfl (#[.int .i64 p105.1, .slice B107 p105.2.1.length d108, .int .i64 p105.2.2.2.1, .slice B109 p105.2.2.2.2.1.length d110, .int .i64 p105.2.2.2.2.2.2.1, .int .i64 p105.2.2.2.2.2.2.2.1, .int .i64 p105.2.2.2.2.2.2.2.2.1, .int .i64 p105.2.2.2.2.2.2.2.2.2])
      generalize World.setRow _ _ _ = u at S ⊢
      refine wpList_nil ?_
      refine wp_ret ?_
      repeat with_reducible (first | refine then_ret ?_ | refine in_ret ?_ | refine in_nrm ?_)
      refine ret1_gw (.inl rfl) hF rfl (res_cell (hF.ev rfl) (res_loadN ag28 rfl (S.cells 0 rfl 0 #[.int .i64 p105.1, .slice B107 p105.2.1.length d108, .int .i64 p105.2.2.2.1, .slice B109 p105.2.2.2.2.1.length d110, .int .i64 p105.2.2.2.2.2.2.1, .int .i64 p105.2.2.2.2.2.2.2.1, .int .i64 p105.2.2.2.2.2.2.2.2.1, .int .i64 p105.2.2.2.2.2.2.2.2.2] rfl))) ?_
      obtain ⟨hk126, hM⟩ := chk_ex hM
      obtain ⟨hk127, hM⟩ := chk_ex hM
      obtain rfl := Option.some.inj hM
      replace S := S.mrow_t 2 rfl hk126
      replace S := S.mrow_t 3 rfl hk127
      exact ⟨B107, p105.2.1.length, d108, B109, p105.2.2.2.2.1.length, d110, rfl, rfl, rfl, S.sel [2, 3] rfl rfl⟩

set_option maxHeartbeats 4000000 in
theorem c_laws_FnExactPollDrain {x0 : Int} {x1 : List Int} {x2 : Int} {x3 : List Int} {x4 : Int} {x5 : Int} {x6 : Int} {x7 : Int} {A1 : Option Addr} {n1 c1 : Nat} {A3 : Option Addr} {n3 c3 : Nat} {w : World} {r : Bool} (h1 : Rt w 1 eI A1 n1 c1 x1) (h3 : Rt w 1 eI A3 n3 c3 x3) (hM : m_laws_FnExactPollDrain x0 x1 x2 x3 x4 x5 x6 x7 = some r) :
    Calls Try.prog 4 #[.agg #[.int .i64 x0, .slice A1 n1 c1, .int .i64 x2, .slice A3 n3 c3, .int .i64 x4, .int .i64 x5, .int .i64 x6, .int .i64 x7]] w (fun e w' => e = .returned (.bool r) ∧ St w w' []) := by
  obtain rfl := h1.len
  obtain rfl := h3.len
  unfold m_laws_FnExactPollDrain at hM
  refine calls_gw Try.func4 Try.ntmps4 rfl [(0, .agg #[.int .i64 x0, .slice A1 x1.length c1, .int .i64 x2, .slice A3 x3.length c3, .int .i64 x4, .int .i64 x5, .int .i64 x6, .int .i64 x7])] ⟨rfl, trivial⟩ rfl ?_
  intro a hF
  have S := St.nil w
  refine wp_seq ?_
  refine wp_region_lit ?_
  refine op_new (cs := #[.int .i64 x0, .slice A1 x1.length c1, .int .i64 x2, .slice A3 x3.length c3, .int .i64 x4, .int .i64 x5, .int .i64 x6, .int .i64 x7]) rfl rfl hF rfl S (run_box rfl (hF.ev rfl) rfl) ?_; clear hF S; intro a g101 u hF S
  refine op_val (v := .bool false) rfl rfl hF rfl (run_assign rfl rfl) ?_; clear hF; intro a hF
  refine wpList_nil ?_
  refine wp_seq ?_
  refine wp_region_lit ?_
  refine op_val (v := .int .i64 1048576) rfl rfl hF rfl (run_assign rfl rfl) ?_; clear hF; intro a hF
  refine wpList_nil ?_
  refine wp_seq ?_
  refine wp_region_lit ?_
  refine op_val (v := .agg #[.int .i64 x0, .slice A1 x1.length c1, .int .i64 x2, .slice A3 x3.length c3, .int .i64 x4, .int .i64 x5, .int .i64 x6, .int .i64 x7]) rfl rfl hF rfl (run_loadN rfl ag24 (hF.ev rfl) rfl ((S.free 0 rfl).cells 0 #[.int .i64 x0, .slice A1 x1.length c1, .int .i64 x2, .slice A3 x3.length c3, .int .i64 x4, .int .i64 x5, .int .i64 x6, .int .i64 x7] rfl)) ?_; clear hF; intro a hF
  refine op_val (v := .int .i64 1048576) rfl rfl hF rfl (run_move rfl (hF.ev rfl)) ?_; clear hF; intro a hF
  obtain ⟨p102, h102, hM⟩ := bind_ex hM
  refine op_call rfl rfl hF rfl (run_call (vs := [.agg #[.int .i64 x0, .slice A1 x1.length c1, .int .i64 x2, .slice A3 x3.length c3, .int .i64 x4, .int .i64 x5, .int .i64 x6, .int .i64 x7], .int .i64 1048576]) rfl rfl co6 ⟨(hF.ev rfl), (hF.ev rfl), trivial⟩) (c_laws_szPoll (x0 := x0) (x1 := x1) (x2 := x2) (x3 := x3) (x4 := x4) (x5 := x5) (x6 := x6) (x7 := x7) (x8 := 1048576) ⟨(S.rc0 h1.rc), rfl⟩ ⟨(S.rc0 h3.rc), rfl⟩ h102) ?_
  rintro e u ⟨rfl, T⟩
  refine ⟨_, rfl, ?_⟩
  clear hF; intro a hF
  replace S := S.call0 T; clear T
  refine op_val (v := .int .i64 p102) rfl rfl hF rfl (run_assign rfl (hF.ev rfl)) ?_; clear hF; intro a hF
  refine wpList_nil ?_
  refine wp_seq ?_
  refine wp_seq ?_
  refine wp_region_lit ?_
  refine op_val (v := .int .i64 p102) rfl rfl hF rfl (run_move rfl (hF.ev rfl)) ?_; clear hF; intro a hF
  refine op_val (v := .bool (ltB p102 0)) rfl rfl hF rfl (run_lss (hF.ev rfl) rfl rfl) ?_; clear hF; intro a hF
  refine wpList_nil ?_
  cases hc103 : (ltB p102 0)
  · replace hM := bif_f hc103 hM
    refine cond_f hF rfl hc103 ?_
    refine wp_skip ?_
    refine wp_seq ?_
    refine wp_region_lit ?_
    refine op_val (v := .agg #[.int .i64 x0, .slice A1 x1.length c1, .int .i64 x2, .slice A3 x3.length c3, .int .i64 x4, .int .i64 x5, .int .i64 x6, .int .i64 x7]) rfl rfl hF rfl (run_loadN rfl ag24 (hF.ev rfl) rfl ((S.free 0 rfl).cells 0 #[.int .i64 x0, .slice A1 x1.length c1, .int .i64 x2, .slice A3 x3.length c3, .int .i64 x4, .int .i64 x5, .int .i64 x6, .int .i64 x7] rfl)) ?_; clear hF; intro a hF
    obtain ⟨p104, h104, hM⟩ := bind_ex hM
    refine op_call rfl rfl hF rfl (run_call (vs := [.agg #[.int .i64 x0, .slice A1 x1.length c1, .int .i64 x2, .slice A3 x3.length c3, .int .i64 x4, .int .i64 x5, .int .i64 x6, .int .i64 x7]]) rfl rfl co8 ⟨(hF.ev rfl), trivial⟩) (c_laws_toPoll (x0 := x0) (x1 := x1) (x2 := x2) (x3 := x3) (x4 := x4) (x5 := x5) (x6 := x6) (x7 := x7) ⟨(S.rc0 h1.rc), rfl⟩ ⟨(S.rc0 h3.rc), rfl⟩ h104) ?_
    rintro e u ⟨B105, n106, d107, B108, n109, d110, rfl, rfl, rfl, T⟩
    refine ⟨_, rfl, ?_⟩
    clear hF; intro a hF
    replace S := S.call2 T; clear T
    obtain ⟨p111, h111, hM⟩ := bind_ex hM
    refine op_call rfl rfl hF rfl (run_call (vs := [.agg #[.int .i64 p104.1, .slice B105 p104.2.1.length d107, .int .i64 p104.2.2.1, .slice B108 p104.2.2.2.1.length d110, .int .i64 p104.2.2.2.2.1, .int .i64 p104.2.2.2.2.2.1, .int .i64 p104.2.2.2.2.2.2.1, .int .i64 p104.2.2.2.2.2.2.2]]) rfl rfl co14 ⟨(hF.ev rfl), trivial⟩) (c_spec_PollDrain (x0 := p104.1) (x1 := p104.2.1) (x2 := p104.2.2.1) (x3 := p104.2.2.2.1) (x4 := p104.2.2.2.2.1) (x5 := p104.2.2.2.2.2.1) (x6 := p104.2.2.2.2.2.2.1) (x7 := p104.2.2.2.2.2.2.2) ⟨(S.rc 0 rfl), rfl⟩ ⟨(S.rc 1 rfl), rfl⟩ h111) ?_
    rintro e u ⟨B112, n113, d114, B115, n116, d117, rfl, rfl, rfl, T⟩
    refine ⟨_, rfl, ?_⟩
    clear hF; intro a hF
    replace S := S.call2 T; clear T
    refine op_new (cs := #[.int .i64 0, .slice none 0 0, .int .i64 0, .slice none 0 0, .int .i64 0, .int .i64 0, .int .i64 0, .int .i64 0]) rfl rfl hF rfl S (run_allocZ rfl zr28) ?_; clear hF S; intro a g118 u hF S
    refine op_do rfl rfl (run_store (cs' := #[.int .i64 p111.1, .slice B112 p111.2.1.length d114, .int .i64 p111.2.2.1, .slice B115 p111.2.2.2.1.length d117, .int .i64 p111.2.2.2.2.1, .int .i64 p111.2.2.2.2.2.1, .int .i64 p111.2.2.2.2.2.2.1, .int .i64 p111.2.2.2.2.2.2.2]) rfl sz28 (hF.ev rfl) (hF.ev rfl) rfl rfl rfl (S.free 0 rfl) rfl rfl) ?_; replace S := S.put 0 rfl (#[.int .i64 p111.1, .slice B112 p111.2.1.length d114, .int .i64 p111.2.2.1, .slice B115 p111.2.2.2.1.length d117, .int .i64 p111.2.2.2.2.1, .int .i64 p111.2.2.2.2.2.1, .int .i64 p111.2.2.2.2.2.2.1, .int .i64 p111.2.2.2.2.2.2.2])
    generalize World.setRow _ _ _ = u at S ⊢
    refine wpList_nil ?_
    refine wp_seq ?_
    refine wp_region_lit ?_
    refine op_val (v := .agg #[.int .i64 x0, .slice A1 x1.length c1, .int .i64 x2, .slice A3 x3.length c3, .int .i64 x4, .int .i64 x5, .int .i64 x6, .int .i64 x7]) rfl rfl hF rfl (run_loadN rfl ag24 (hF.ev rfl) rfl ((S.free 5 rfl).cells 0 #[.int .i64 x0, .slice A1 x1.length c1, .int .i64 x2, .slice A3 x3.length c3, .int .i64 x4, .int .i64 x5, .int .i64 x6, .int .i64 x7] rfl)) ?_; clear hF; intro a hF
    obtain ⟨p119, h119, hM⟩ := bind_ex hM
    refine op_call rfl rfl hF rfl (run_call (vs := [.agg #[.int .i64 x0, .slice A1 x1.length c1, .int .i64 x2, .slice A3 x3.length c3, .int .i64 x4, .int .i64 x5, .int .i64 x6, .int .i64 x7]]) rfl rfl co8 ⟨(hF.ev rfl), trivial⟩) (c_laws_toPoll (x0 := x0) (x1 := x1) (x2 := x2) (x3 := x3) (x4 := x4) (x5 := x5) (x6 := x6) (x7 := x7) ⟨(S.rc0 h1.rc), rfl⟩ ⟨(S.rc0 h3.rc), rfl⟩ h119) ?_
    rintro e u ⟨B120, n121, d122, B123, n124, d125, rfl, rfl, rfl, T⟩
    refine ⟨_, rfl, ?_⟩
    clear hF; intro a hF
    replace S := S.call2 T; clear T
    refine op_new (cs := #[.int .i64 0, .slice none 0 0, .int .i64 0, .slice none 0 0, .int .i64 0, .int .i64 0, .int .i64 0, .int .i64 0]) rfl rfl hF rfl S (run_allocZ rfl zr28) ?_; clear hF S; intro a g126 u hF S
    refine op_do rfl rfl (run_store (cs' := #[.int .i64 p119.1, .slice B120 p119.2.1.length d122, .int .i64 p119.2.2.1, .slice B123 p119.2.2.2.1.length d125, .int .i64 p119.2.2.2.2.1, .int .i64 p119.2.2.2.2.2.1, .int .i64 p119.2.2.2.2.2.2.1, .int .i64 p119.2.2.2.2.2.2.2]) rfl sz28 (hF.ev rfl) (hF.ev rfl) rfl rfl rfl (S.free 0 rfl) rfl rfl) ?_; replace S := S.put 0 rfl (#[.int .i64 p119.1, .slice B120 p119.2.1.length d122, .int .i64 p119.2.2.1, .slice B123 p119.2.2.2.1.length d125, .int .i64 p119.2.2.2.2.1, .int .i64 p119.2.2.2.2.2.1, .int .i64 p119.2.2.2.2.2.2.1, .int .i64 p119.2.2.2.2.2.2.2])
    generalize World.setRow _ _ _ = u at S ⊢
    refine wpList_nil ?_
    refine wp_seq ?_
    refine wp_region_lit ?_
    refine op_val (v := .agg #[.int .i64 p119.1, .slice B120 p119.2.1.length d122, .int .i64 p119.2.2.1, .slice B123 p119.2.2.2.1.length d125, .int .i64 p119.2.2.2.2.1, .int .i64 p119.2.2.2.2.2.1, .int .i64 p119.2.2.2.2.2.2.1, .int .i64 p119.2.2.2.2.2.2.2]) rfl rfl hF rfl (run_loadN rfl ag28 (hF.ev rfl) rfl ((S.free 0 rfl).cells 0 #[.int .i64 p119.1, .slice B120 p119.2.1.length d122, .int .i64 p119.2.2.1, .slice B123 p119.2.2.2.1.length d125, .int .i64 p119.2.2.2.2.1, .int .i64 p119.2.2.2.2.2.1, .int .i64 p119.2.2.2.2.2.2.1, .int .i64 p119.2.2.2.2.2.2.2] rfl)) ?_; clear hF; intro a hF
    obtain ⟨p127, h127, hM⟩ := bind_ex hM
    refine op_call rfl rfl hF rfl (run_call (vs := [.agg #[.int .i64 p119.1, .slice B120 p119.2.1.length d122, .int .i64 p119.2.2.1, .slice B123 p119.2.2.2.1.length d125, .int .i64 p119.2.2.2.2.1, .int .i64 p119.2.2.2.2.2.1, .int .i64 p119.2.2.2.2.2.2.1, .int .i64 p119.2.2.2.2.2.2.2]]) rfl rfl co15 ⟨(hF.ev rfl), trivial⟩) (c_impl_PollDrain (x0 := p119.1) (x1 := p119.2.1) (x2 := p119.2.2.1) (x3 := p119.2.2.2.1) (x4 := p119.2.2.2.2.1) (x5 := p119.2.2.2.2.2.1) (x6 := p119.2.2.2.2.2.2.1) (x7 := p119.2.2.2.2.2.2.2) ⟨(S.rc 1 rfl), rfl⟩ ⟨(S.rc 2 rfl), rfl⟩ h127) ?_
    rintro e u ⟨B128, n129, d130, B131, n132, d133, rfl, rfl, rfl, T⟩
    refine ⟨_, rfl, ?_⟩
    clear hF; intro a hF
    replace S := S.call2 T; clear T
    refine op_new (cs := #[.int .i64 0, .slice none 0 0, .int .i64 0, .slice none 0 0, .int .i64 0, .int .i64 0, .int .i64 0, .int .i64 0]) rfl rfl hF rfl S (run_allocZ rfl zr28) ?_; clear hF S; intro a g134 u hF S
    refine op_do rfl rfl (run_store (cs' := #[.int .i64 p127.1, .slice B128 p127.2.1.length d130, .int .i64 p127.2.2.1, .slice B131 p127.2.2.2.1.length d133, .int .i64 p127.2.2.2.2.1, .int .i64 p127.2.2.2.2.2.1, .int .i64 p127.2.2.2.2.2.2.1, .int .i64 p127.2.2.2.2.2.2.2]) rfl sz28 (hF.ev rfl) (hF.ev rfl) rfl rfl rfl (S.free 0 rfl) rfl rfl) ?_; replace S := S.put 0 rfl (#[.int .i64 p127.1, .slice B128 p127.2.1.length d130, .int .i64 p127.2.2.1, .slice B131 p127.2.2.2.1.length d133, .int .i64 p127.2.2.2.2.1, .int .i64 p127.2.2.2.2.2.1, .int .i64 p127.2.2.2.2.2.2.1, .int .i64 p127.2.2.2.2.2.2.2])
    generalize World.setRow _ _ _ = u at S ⊢
    refine wpList_nil ?_
    refine wp_seq ?_
    refine wp_seq ?_
    refine wp_region_lit ?_
    refine op_val (v := .agg #[.int .i64 p127.1, .slice B128 p127.2.1.length d130, .int .i64 p127.2.2.1, .slice B131 p127.2.2.2.1.length d133, .int .i64 p127.2.2.2.2.1, .int .i64 p127.2.2.2.2.2.1, .int .i64 p127.2.2.2.2.2.2.1, .int .i64 p127.2.2.2.2.2.2.2]) rfl rfl hF rfl (run_loadN rfl ag28 (hF.ev rfl) rfl ((S.free 0 rfl).cells 0 #[.int .i64 p127.1, .slice B128 p127.2.1.length d130, .int .i64 p127.2.2.1, .slice B131 p127.2.2.2.1.length d133, .int .i64 p127.2.2.2.2.1, .int .i64 p127.2.2.2.2.2.1, .int .i64 p127.2.2.2.2.2.2.1, .int .i64 p127.2.2.2.2.2.2.2] rfl)) ?_; clear hF; intro a hF
    refine op_val (v := .agg #[.int .i64 p111.1, .slice B112 p111.2.1.length d114, .int .i64 p111.2.2.1, .slice B115 p111.2.2.2.1.length d117, .int .i64 p111.2.2.2.2.1, .int .i64 p111.2.2.2.2.2.1, .int .i64 p111.2.2.2.2.2.2.1, .int .i64 p111.2.2.2.2.2.2.2]) rfl rfl hF rfl (run_loadN rfl ag28 (hF.ev rfl) rfl ((S.free 6 rfl).cells 0 #[.int .i64 p111.1, .slice B112 p111.2.1.length d114, .int .i64 p111.2.2.1, .slice B115 p111.2.2.2.1.length d117, .int .i64 p111.2.2.2.2.1, .int .i64 p111.2.2.2.2.2.1, .int .i64 p111.2.2.2.2.2.2.1, .int .i64 p111.2.2.2.2.2.2.2] rfl)) ?_; clear hF; intro a hF
    obtain ⟨p135, h135, hM⟩ := bind_ex hM
    refine op_call rfl rfl hF rfl (run_call (vs := [.agg #[.int .i64 p127.1, .slice B128 p127.2.1.length d130, .int .i64 p127.2.2.1, .slice B131 p127.2.2.2.1.length d133, .int .i64 p127.2.2.2.2.1, .int .i64 p127.2.2.2.2.2.1, .int .i64 p127.2.2.2.2.2.2.1, .int .i64 p127.2.2.2.2.2.2.2], .agg #[.int .i64 p111.1, .slice B112 p111.2.1.length d114, .int .i64 p111.2.2.1, .slice B115 p111.2.2.2.1.length d117, .int .i64 p111.2.2.2.2.1, .int .i64 p111.2.2.2.2.2.1, .int .i64 p111.2.2.2.2.2.2.1, .int .i64 p111.2.2.2.2.2.2.2]]) rfl rfl co11 ⟨(hF.ev rfl), (hF.ev rfl), trivial⟩) (c_laws_eqPoll (x0 := p127.1) (x1 := p127.2.1) (x2 := p127.2.2.1) (x3 := p127.2.2.2.1) (x4 := p127.2.2.2.2.1) (x5 := p127.2.2.2.2.2.1) (x6 := p127.2.2.2.2.2.2.1) (x7 := p127.2.2.2.2.2.2.2) (x8 := p111.1) (x9 := p111.2.1) (x10 := p111.2.2.1) (x11 := p111.2.2.2.1) (x12 := p111.2.2.2.2.1) (x13 := p111.2.2.2.2.2.1) (x14 := p111.2.2.2.2.2.2.1) (x15 := p111.2.2.2.2.2.2.2) ⟨(S.rc 1 rfl), rfl⟩ ⟨(S.rc 2 rfl), rfl⟩ ⟨(S.rc 7 rfl), rfl⟩ ⟨(S.rc 8 rfl), rfl⟩ h135) ?_
    rintro e u ⟨rfl, T⟩
    refine ⟨_, rfl, ?_⟩
    clear hF; intro a hF
    replace S := S.call0 T; clear T
    refine op_val (v := .bool (!p135)) rfl rfl hF rfl (run_not rfl (hF.ev rfl)) ?_; clear hF; intro a hF
    refine wpList_nil ?_
    cases hc136 : (p135)
    · replace hM := bif_f hc136 hM
      refine cond_t hF rfl (not_t hc136) ?_
      refine wp_seq ?_
      refine wp_region_lit ?_
      refine op_val (v := .bool false) rfl rfl hF rfl (run_assign rfl rfl) ?_; clear hF; intro a hF
      refine wpList_nil ?_
      refine wp_ret ?_
      repeat with_reducible (first | refine then_ret ?_ | refine in_ret ?_ | refine in_nrm ?_)
      refine ret1_gw (.inl rfl) hF rfl (res_tmp (hF.ev rfl)) ?_
      obtain rfl := Option.some.inj hM
      exact ⟨rfl, S.sel [] rfl rfl⟩
    · replace hM := bif_t hc136 hM
      refine cond_f hF rfl (not_f hc136) ?_
      refine wp_skip ?_
      refine wp_seq ?_
      refine wp_seq ?_
      obtain ⟨p137, h137, hM⟩ := bind_ex hM
      obtain ⟨p144, h144, hM⟩ := bind_ex hM
      refine region_gw (D := [27, 28, 29, 30, 31]) (Lr := [.box g134 28 #[.int .i64 p127.1, .slice B128 p127.2.1.length d130, .int .i64 p127.2.2.1, .slice B131 p127.2.2.2.1.length d133, .int .i64 p127.2.2.2.2.1, .int .i64 p127.2.2.2.2.2.1, .int .i64 p127.2.2.2.2.2.2.1, .int .i64 p127.2.2.2.2.2.2.2], .row 3 1 (.slice B128 p127.2.1.length d130) p127.2.1.length (p127.2.1.flatMap eI), .row 3 1 (.slice B131 p127.2.2.2.1.length d133) p127.2.2.2.1.length (p127.2.2.2.1.flatMap eI), .box g126 28 #[.int .i64 p119.1, .slice B120 p119.2.1.length d122, .int .i64 p119.2.2.1, .slice B123 p119.2.2.2.1.length d125, .int .i64 p119.2.2.2.2.1, .int .i64 p119.2.2.2.2.2.1, .int .i64 p119.2.2.2.2.2.2.1, .int .i64 p119.2.2.2.2.2.2.2], .row 3 1 (.slice B120 p119.2.1.length d122) p119.2.1.length (p119.2.1.flatMap eI), .row 3 1 (.slice B123 p119.2.2.2.1.length d125) p119.2.2.2.1.length (p119.2.2.2.1.flatMap eI), .box g118 28 #[.int .i64 p111.1, .slice B112 p111.2.1.length d114, .int .i64 p111.2.2.1, .slice B115 p111.2.2.2.1.length d117, .int .i64 p111.2.2.2.2.1, .int .i64 p111.2.2.2.2.2.1, .int .i64 p111.2.2.2.2.2.2.1, .int .i64 p111.2.2.2.2.2.2.2], .row 3 1 (.slice B112 p111.2.1.length d114) p111.2.1.length (p111.2.1.flatMap eI), .row 3 1 (.slice B115 p111.2.2.2.1.length d117) p111.2.2.2.1.length (p111.2.2.2.1.flatMap eI), .row 3 1 (.slice B105 p104.2.1.length d107) p104.2.1.length (p104.2.1.flatMap eI), .row 3 1 (.slice B108 p104.2.2.2.1.length d110) p104.2.2.2.1.length (p104.2.2.2.1.flatMap eI), .box g101 24 #[.int .i64 x0, .slice A1 x1.length c1, .int .i64 x2, .slice A3 x3.length c3, .int .i64 x4, .int .i64 x5, .int .i64 x6, .int .i64 x7]]) (deps := (fun | 0 => [27] | 1 => [28] | 2 => [29] | 3 => [30] | 4 => [31] | _ => [])) (rd := (fun | 3 => [2] | _ => [])) (zr := (fun _ => []))
        (φ := fun i vs => match i, vs with | 0, [v27] => v27 = .agg #[.int .i64 p119.1, .slice B120 p119.2.1.length d122, .int .i64 p119.2.2.1, .slice B123 p119.2.2.2.1.length d125, .int .i64 p119.2.2.2.2.1, .int .i64 p119.2.2.2.2.2.1, .int .i64 p119.2.2.2.2.2.2.1, .int .i64 p119.2.2.2.2.2.2.2] | 1, [v28] => v28 = .agg #[.int .i64 x0, .slice A1 x1.length c1, .int .i64 x2, .slice A3 x3.length c3, .int .i64 x4, .int .i64 x5, .int .i64 x6, .int .i64 x7] | 2, [v29] => v29 = .agg #[.int .i64 p137.1, .slice (slA (vtup v29 1)) p137.2.1.length (slC (vtup v29 1)), .int .i64 p137.2.2.1, .slice (slA (vtup v29 3)) p137.2.2.2.1.length (slC (vtup v29 3)), .int .i64 p137.2.2.2.2.1, .int .i64 p137.2.2.2.2.2.1, .int .i64 p137.2.2.2.2.2.2.1, .int .i64 p137.2.2.2.2.2.2.2] | 3, [v30] => v30 = .bool p144 | 4, [v31] => v31 = .bool (!p144) | _, _ => True)
        (C := fun i vs => match i, vs with | 2, [v29] => [.row 3 1 (.slice (slA (vtup v29 1)) p137.2.1.length (slC (vtup v29 1))) p137.2.1.length (p137.2.1.flatMap eI), .row 3 1 (.slice (slA (vtup v29 3)) p137.2.2.2.1.length (slC (vtup v29 3))) p137.2.2.2.1.length (p137.2.2.2.1.flatMap eI)] | _, _ => [])
        (κ := (fun _ => none)) (Z := (fun _ => [])) mixed hF (by kernel_rfl) S ?_ ?_
      · refine ⟨?_, ?_, ?_, ?_, ?_, trivial⟩
        · intro a u X hB hu hp hr hz hl S
          replace S : St w u ([] ++ X) := S
          exact .inl ⟨rfl, .agg #[.int .i64 p119.1, .slice B120 p119.2.1.length d122, .int .i64 p119.2.2.1, .slice B123 p119.2.2.2.1.length d125, .int .i64 p119.2.2.2.2.1, .int .i64 p119.2.2.2.2.2.1, .int .i64 p119.2.2.2.2.2.2.1, .int .i64 p119.2.2.2.2.2.2.2], u, (run_loadN rfl ag28 (hF.evB hB rfl rfl) rfl ((gr_box S hl 3 rfl).cells 0 #[.int .i64 p119.1, .slice B120 p119.2.1.length d122, .int .i64 p119.2.2.1, .slice B123 p119.2.2.2.1.length d125, .int .i64 p119.2.2.2.2.1, .int .i64 p119.2.2.2.2.2.1, .int .i64 p119.2.2.2.2.2.2.1, .int .i64 p119.2.2.2.2.2.2.2] rfl)), rfl, S⟩
        · intro a u X hB hu hp hr hz hl S
          replace S : St w u ([] ++ X) := S
          exact .inl ⟨rfl, .agg #[.int .i64 x0, .slice A1 x1.length c1, .int .i64 x2, .slice A3 x3.length c3, .int .i64 x4, .int .i64 x5, .int .i64 x6, .int .i64 x7], u, (run_loadN rfl ag24 (hF.evB hB rfl rfl) rfl ((gr_box S hl 11 rfl).cells 0 #[.int .i64 x0, .slice A1 x1.length c1, .int .i64 x2, .slice A3 x3.length c3, .int .i64 x4, .int .i64 x5, .int .i64 x6, .int .i64 x7] rfl)), rfl, S⟩
        · intro a u X hB hu hp hr hz hl S
          replace S : St w u ([] ++ X) := S
          have e28 : sl a 28 = .agg #[.int .i64 x0, .slice A1 x1.length c1, .int .i64 x2, .slice A3 x3.length c3, .int .i64 x4, .int .i64 x5, .int .i64 x6, .int .i64 x7] := hp 1 rfl
          refine .inr (.inr (.inl ⟨rfl, _, _, (run_call (vs := [.agg #[.int .i64 x0, .slice A1 x1.length c1, .int .i64 x2, .slice A3 x3.length c3, .int .i64 x4, .int .i64 x5, .int .i64 x6, .int .i64 x7]]) rfl rfl co8 ⟨(ev_sl e28), trivial⟩), ?_⟩))
          refine Calls.mono (c_laws_toPoll (x0 := x0) (x1 := x1) (x2 := x2) (x3 := x3) (x4 := x4) (x5 := x5) (x6 := x6) (x7 := x7) ⟨(S.rc0 h1.rc), rfl⟩ ⟨(S.rc0 h3.rc), rfl⟩ h137) ?_
          rintro e w1 ⟨B138, n139, d140, B141, n142, d143, rfl, rfl, rfl, T⟩
          exact ⟨_, rfl, rfl, S.call2 T⟩
        · intro a u X hB hu hp hr hz hl S
          replace S : St w u ([] ++ X) := S
          have e27 : sl a 27 = .agg #[.int .i64 p119.1, .slice B120 p119.2.1.length d122, .int .i64 p119.2.2.1, .slice B123 p119.2.2.2.1.length d125, .int .i64 p119.2.2.2.2.1, .int .i64 p119.2.2.2.2.2.1, .int .i64 p119.2.2.2.2.2.2.1, .int .i64 p119.2.2.2.2.2.2.2] := hp 0 rfl
          have e29 : sl a 29 = .agg #[.int .i64 p137.1, .slice (slA (vtup (sl a 29) 1)) p137.2.1.length (slC (vtup (sl a 29) 1)), .int .i64 p137.2.2.1, .slice (slA (vtup (sl a 29) 3)) p137.2.2.2.1.length (slC (vtup (sl a 29) 3)), .int .i64 p137.2.2.2.2.1, .int .i64 p137.2.2.2.2.2.1, .int .i64 p137.2.2.2.2.2.2.1, .int .i64 p137.2.2.2.2.2.2.2] := hp 2 rfl
          refine .inr (.inr (.inl ⟨rfl, _, _, (run_call (vs := [.agg #[.int .i64 p119.1, .slice B120 p119.2.1.length d122, .int .i64 p119.2.2.1, .slice B123 p119.2.2.2.1.length d125, .int .i64 p119.2.2.2.2.1, .int .i64 p119.2.2.2.2.2.1, .int .i64 p119.2.2.2.2.2.2.1, .int .i64 p119.2.2.2.2.2.2.2], .agg #[.int .i64 p137.1, .slice (slA (vtup (sl a 29) 1)) p137.2.1.length (slC (vtup (sl a 29) 1)), .int .i64 p137.2.2.1, .slice (slA (vtup (sl a 29) 3)) p137.2.2.2.1.length (slC (vtup (sl a 29) 3)), .int .i64 p137.2.2.2.2.1, .int .i64 p137.2.2.2.2.2.1, .int .i64 p137.2.2.2.2.2.2.1, .int .i64 p137.2.2.2.2.2.2.2]]) rfl rfl co11 ⟨(ev_sl e27), (ev_sl e29), trivial⟩), ?_⟩))
          refine Calls.mono (c_laws_eqPoll (x0 := p119.1) (x1 := p119.2.1) (x2 := p119.2.2.1) (x3 := p119.2.2.2.1) (x4 := p119.2.2.2.2.1) (x5 := p119.2.2.2.2.2.1) (x6 := p119.2.2.2.2.2.2.1) (x7 := p119.2.2.2.2.2.2.2) (x8 := p137.1) (x9 := p137.2.1) (x10 := p137.2.2.1) (x11 := p137.2.2.2.1) (x12 := p137.2.2.2.2.1) (x13 := p137.2.2.2.2.2.1) (x14 := p137.2.2.2.2.2.2.1) (x15 := p137.2.2.2.2.2.2.2) ⟨(gr_rc S hl 4 rfl), rfl⟩ ⟨(gr_rc S hl 5 rfl), rfl⟩ ⟨(own_rc (show Ow _ _ _ _ _ _ from S.mem (List.mem_append_right _ (hr 2 (List.mem_of_getElem? (i := 0) rfl) _ (List.mem_of_getElem? (i := 0) rfl))))), rfl⟩ ⟨(own_rc (show Ow _ _ _ _ _ _ from S.mem (List.mem_append_right _ (hr 2 (List.mem_of_getElem? (i := 0) rfl) _ (List.mem_of_getElem? (i := 1) rfl))))), rfl⟩ h144) ?_
          rintro e w1 ⟨rfl, T⟩
          exact ⟨_, rfl, rfl, S.call0 T⟩
        · intro a u X hB hu hp hr hz hl S
          replace S : St w u ([] ++ X) := S
          have e30 : sl a 30 = .bool p144 := hp 3 rfl
          exact .inl ⟨rfl, .bool (!p144), u, (run_not rfl (ev_sl e30)), rfl, S⟩
      · intro a u hB hp S
        obtain ⟨q0, q1, q2, q3, q4, _⟩ := hp
        have e27 : sl a 27 = .agg #[.int .i64 p119.1, .slice B120 p119.2.1.length d122, .int .i64 p119.2.2.1, .slice B123 p119.2.2.2.1.length d125, .int .i64 p119.2.2.2.2.1, .int .i64 p119.2.2.2.2.2.1, .int .i64 p119.2.2.2.2.2.2.1, .int .i64 p119.2.2.2.2.2.2.2] := q0
        have e28 : sl a 28 = .agg #[.int .i64 x0, .slice A1 x1.length c1, .int .i64 x2, .slice A3 x3.length c3, .int .i64 x4, .int .i64 x5, .int .i64 x6, .int .i64 x7] := q1
        have e29 : sl a 29 = .agg #[.int .i64 p137.1, .slice (slA (vtup (sl a 29) 1)) p137.2.1.length (slC (vtup (sl a 29) 1)), .int .i64 p137.2.2.1, .slice (slA (vtup (sl a 29) 3)) p137.2.2.2.1.length (slC (vtup (sl a 29) 3)), .int .i64 p137.2.2.2.2.1, .int .i64 p137.2.2.2.2.2.1, .int .i64 p137.2.2.2.2.2.2.1, .int .i64 p137.2.2.2.2.2.2.2] := q2
        have e30 : sl a 30 = .bool p144 := q3
        have e31 : sl a 31 = .bool (!p144) := q4
        replace S : St w u [.row 3 1 (.slice (slA (vtup (sl a 29) 1)) p137.2.1.length (slC (vtup (sl a 29) 1))) p137.2.1.length (p137.2.1.flatMap eI), .row 3 1 (.slice (slA (vtup (sl a 29) 3)) p137.2.2.2.1.length (slC (vtup (sl a 29) 3))) p137.2.2.2.1.length (p137.2.2.2.1.flatMap eI), .box g134 28 #[.int .i64 p127.1, .slice B128 p127.2.1.length d130, .int .i64 p127.2.2.1, .slice B131 p127.2.2.2.1.length d133, .int .i64 p127.2.2.2.2.1, .int .i64 p127.2.2.2.2.2.1, .int .i64 p127.2.2.2.2.2.2.1, .int .i64 p127.2.2.2.2.2.2.2], .row 3 1 (.slice B128 p127.2.1.length d130) p127.2.1.length (p127.2.1.flatMap eI), .row 3 1 (.slice B131 p127.2.2.2.1.length d133) p127.2.2.2.1.length (p127.2.2.2.1.flatMap eI), .box g126 28 #[.int .i64 p119.1, .slice B120 p119.2.1.length d122, .int .i64 p119.2.2.1, .slice B123 p119.2.2.2.1.length d125, .int .i64 p119.2.2.2.2.1, .int .i64 p119.2.2.2.2.2.1, .int .i64 p119.2.2.2.2.2.2.1, .int .i64 p119.2.2.2.2.2.2.2], .row 3 1 (.slice B120 p119.2.1.length d122) p119.2.1.length (p119.2.1.flatMap eI), .row 3 1 (.slice B123 p119.2.2.2.1.length d125) p119.2.2.2.1.length (p119.2.2.2.1.flatMap eI), .box g118 28 #[.int .i64 p111.1, .slice B112 p111.2.1.length d114, .int .i64 p111.2.2.1, .slice B115 p111.2.2.2.1.length d117, .int .i64 p111.2.2.2.2.1, .int .i64 p111.2.2.2.2.2.1, .int .i64 p111.2.2.2.2.2.2.1, .int .i64 p111.2.2.2.2.2.2.2], .row 3 1 (.slice B112 p111.2.1.length d114) p111.2.1.length (p111.2.1.flatMap eI), .row 3 1 (.slice B115 p111.2.2.2.1.length d117) p111.2.2.2.1.length (p111.2.2.2.1.flatMap eI), .row 3 1 (.slice B105 p104.2.1.length d107) p104.2.1.length (p104.2.1.flatMap eI), .row 3 1 (.slice B108 p104.2.2.2.1.length d110) p104.2.2.2.1.length (p104.2.2.2.1.flatMap eI), .box g101 24 #[.int .i64 x0, .slice A1 x1.length c1, .int .i64 x2, .slice A3 x3.length c3, .int .i64 x4, .int .i64 x5, .int .i64 x6, .int .i64 x7]] := S
        clear q0 q1 q2 q3 q4
        generalize slA (vtup (sl a 29) 1) = B145 at *
        generalize slC (vtup (sl a 29) 1) = d146 at *
        generalize slA (vtup (sl a 29) 3) = B147 at *
        generalize slC (vtup (sl a 29) 3) = d148 at *
        have hF := hF.region hB [(27, .agg #[.int .i64 p119.1, .slice B120 p119.2.1.length d122, .int .i64 p119.2.2.1, .slice B123 p119.2.2.2.1.length d125, .int .i64 p119.2.2.2.2.1, .int .i64 p119.2.2.2.2.2.1, .int .i64 p119.2.2.2.2.2.2.1, .int .i64 p119.2.2.2.2.2.2.2]), (28, .agg #[.int .i64 x0, .slice A1 x1.length c1, .int .i64 x2, .slice A3 x3.length c3, .int .i64 x4, .int .i64 x5, .int .i64 x6, .int .i64 x7]), (29, .agg #[.int .i64 p137.1, .slice B145 p137.2.1.length d146, .int .i64 p137.2.2.1, .slice B147 p137.2.2.2.1.length d148, .int .i64 p137.2.2.2.2.1, .int .i64 p137.2.2.2.2.2.1, .int .i64 p137.2.2.2.2.2.2.1, .int .i64 p137.2.2.2.2.2.2.2]), (30, .bool p144), (31, .bool (!p144))] (allSl_mem ⟨e27, e28, e29, e30, e31, trivial⟩) rfl
        clear hB e27 e28 e29 e30 e31
        cases hc149 : (p144)
        · replace hM := bif_f hc149 hM
          refine cond_t hF rfl (not_t hc149) ?_
          refine wp_seq ?_
          refine wp_region_lit ?_
          refine op_val (v := .bool false) rfl rfl hF rfl (run_assign rfl rfl) ?_; clear hF; intro a hF
          refine wpList_nil ?_
          refine wp_ret ?_
          repeat with_reducible (first | refine then_ret ?_ | refine in_ret ?_ | refine in_nrm ?_)
          refine ret1_gw (.inl rfl) hF rfl (res_tmp (hF.ev rfl)) ?_
          obtain rfl := Option.some.inj hM
          exact ⟨rfl, S.sel [] rfl rfl⟩
        · replace hM := bif_t hc149 hM
          refine cond_f hF rfl (not_f hc149) ?_
          refine wp_skip ?_
          refine wp_seq ?_
          refine wp_region_lit ?_
          refine op_val (v := .int .i64 1) rfl rfl hF rfl (run_assign rfl rfl) ?_; clear hF; intro a hF
          refine wpList_nil ?_
          refine wp_seq ?_
          refine wp_region_lit ?_
          refine op_val (v := .agg #[.int .i64 p119.1, .slice B120 p119.2.1.length d122, .int .i64 p119.2.2.1, .slice B123 p119.2.2.2.1.length d125, .int .i64 p119.2.2.2.2.1, .int .i64 p119.2.2.2.2.2.1, .int .i64 p119.2.2.2.2.2.2.1, .int .i64 p119.2.2.2.2.2.2.2]) rfl rfl hF rfl (run_loadN rfl ag28 (hF.ev rfl) rfl ((S.free 5 rfl).cells 0 #[.int .i64 p119.1, .slice B120 p119.2.1.length d122, .int .i64 p119.2.2.1, .slice B123 p119.2.2.2.1.length d125, .int .i64 p119.2.2.2.2.1, .int .i64 p119.2.2.2.2.2.1, .int .i64 p119.2.2.2.2.2.2.1, .int .i64 p119.2.2.2.2.2.2.2] rfl)) ?_; clear hF; intro a hF
          refine op_val (v := .int .i64 1) rfl rfl hF rfl (run_move rfl (hF.ev rfl)) ?_; clear hF; intro a hF
          obtain ⟨p150, h150, hM⟩ := bind_ex hM
          refine op_call rfl rfl hF rfl (run_call (vs := [.agg #[.int .i64 p119.1, .slice B120 p119.2.1.length d122, .int .i64 p119.2.2.1, .slice B123 p119.2.2.2.1.length d125, .int .i64 p119.2.2.2.2.1, .int .i64 p119.2.2.2.2.2.1, .int .i64 p119.2.2.2.2.2.2.1, .int .i64 p119.2.2.2.2.2.2.2], .int .i64 1]) rfl rfl co12 ⟨(hF.ev rfl), (hF.ev rfl), trivial⟩) (c_laws_markPoll (x0 := p119.1) (x1 := p119.2.1) (x2 := p119.2.2.1) (x3 := p119.2.2.2.1) (x4 := p119.2.2.2.2.1) (x5 := p119.2.2.2.2.2.1) (x6 := p119.2.2.2.2.2.2.1) (x7 := p119.2.2.2.2.2.2.2) (x8 := 1) rfl rfl (show St w _ [.row 3 1 (.slice B120 p119.2.1.length d122) p119.2.1.length (p119.2.1.flatMap eI), .row 3 1 (.slice B123 p119.2.2.2.1.length d125) p119.2.2.2.1.length (p119.2.2.2.1.flatMap eI), .row 3 1 (.slice B145 p137.2.1.length d146) p137.2.1.length (p137.2.1.flatMap eI), .row 3 1 (.slice B147 p137.2.2.2.1.length d148) p137.2.2.2.1.length (p137.2.2.2.1.flatMap eI), .box g134 28 #[.int .i64 p127.1, .slice B128 p127.2.1.length d130, .int .i64 p127.2.2.1, .slice B131 p127.2.2.2.1.length d133, .int .i64 p127.2.2.2.2.1, .int .i64 p127.2.2.2.2.2.1, .int .i64 p127.2.2.2.2.2.2.1, .int .i64 p127.2.2.2.2.2.2.2], .row 3 1 (.slice B128 p127.2.1.length d130) p127.2.1.length (p127.2.1.flatMap eI), .row 3 1 (.slice B131 p127.2.2.2.1.length d133) p127.2.2.2.1.length (p127.2.2.2.1.flatMap eI), .box g126 28 #[.int .i64 p119.1, .slice B120 p119.2.1.length d122, .int .i64 p119.2.2.1, .slice B123 p119.2.2.2.1.length d125, .int .i64 p119.2.2.2.2.1, .int .i64 p119.2.2.2.2.2.1, .int .i64 p119.2.2.2.2.2.2.1, .int .i64 p119.2.2.2.2.2.2.2], .box g118 28 #[.int .i64 p111.1, .slice B112 p111.2.1.length d114, .int .i64 p111.2.2.1, .slice B115 p111.2.2.2.1.length d117, .int .i64 p111.2.2.2.2.1, .int .i64 p111.2.2.2.2.2.1, .int .i64 p111.2.2.2.2.2.2.1, .int .i64 p111.2.2.2.2.2.2.2], .row 3 1 (.slice B112 p111.2.1.length d114) p111.2.1.length (p111.2.1.flatMap eI), .row 3 1 (.slice B115 p111.2.2.2.1.length d117) p111.2.2.2.1.length (p111.2.2.2.1.flatMap eI), .row 3 1 (.slice B105 p104.2.1.length d107) p104.2.1.length (p104.2.1.flatMap eI), .row 3 1 (.slice B108 p104.2.2.2.1.length d110) p104.2.2.2.1.length (p104.2.2.2.1.flatMap eI), .box g101 24 #[.int .i64 x0, .slice A1 x1.length c1, .int .i64 x2, .slice A3 x3.length c3, .int .i64 x4, .int .i64 x5, .int .i64 x6, .int .i64 x7]] from S.sel [6, 7, 0, 1, 2, 3, 4, 5, 8, 9, 10, 11, 12, 13] rfl rfl) h150) ?_
          rintro e u ⟨rfl, hn151, hn152, T⟩
          refine ⟨_, rfl, ?_⟩
          clear hF; intro a hF
          clear S; have S := T; clear T
          refine op_val (v := .int .i64 p150.1) rfl rfl hF rfl (run_assign rfl (hF.ev rfl)) ?_; clear hF; intro a hF
          refine wpList_nil ?_
          refine wp_seq ?_
          refine wp_seq ?_
          refine wp_region_lit ?_
          refine op_val (v := .int .i64 p150.1) rfl rfl hF rfl (run_move rfl (hF.ev rfl)) ?_; clear hF; intro a hF
          refine op_val (v := .bool (ltB p150.1 0)) rfl rfl hF rfl (run_lss (hF.ev rfl) rfl rfl) ?_; clear hF; intro a hF
          refine op_val (v := .bool (ltB p150.1 0)) rfl rfl hF rfl (run_move rfl (hF.ev rfl)) ?_; clear hF; intro a hF
          refine op_gv (v := .agg #[.int .i64 p127.1, .slice B128 p127.2.1.length d130, .int .i64 p127.2.2.1, .slice B131 p127.2.2.2.1.length d133, .int .i64 p127.2.2.2.2.1, .int .i64 p127.2.2.2.2.2.1, .int .i64 p127.2.2.2.2.2.2.1, .int .i64 p127.2.2.2.2.2.2.2]) rfl rfl hF rfl (yf (gw_yield hF rfl rfl rfl)) (fun hg => (run_loadN rfl ag28 (hF.ev rfl) rfl ((S.free 4 rfl).cells 0 #[.int .i64 p127.1, .slice B128 p127.2.1.length d130, .int .i64 p127.2.2.1, .slice B131 p127.2.2.2.1.length d133, .int .i64 p127.2.2.2.2.1, .int .i64 p127.2.2.2.2.2.1, .int .i64 p127.2.2.2.2.2.2.1, .int .i64 p127.2.2.2.2.2.2.2] rfl))) ?_; clear hF; intro a hF
          refine op_gv (v := .agg #[.int .i64 p111.1, .slice B112 p111.2.1.length d114, .int .i64 p111.2.2.1, .slice B115 p111.2.2.2.1.length d117, .int .i64 p111.2.2.2.2.1, .int .i64 p111.2.2.2.2.2.1, .int .i64 p111.2.2.2.2.2.2.1, .int .i64 p111.2.2.2.2.2.2.2]) rfl rfl hF rfl (yf (gw_yield hF rfl rfl rfl)) (fun hg => (run_loadN rfl ag28 (hF.ev rfl) rfl ((S.free 8 rfl).cells 0 #[.int .i64 p111.1, .slice B112 p111.2.1.length d114, .int .i64 p111.2.2.1, .slice B115 p111.2.2.2.1.length d117, .int .i64 p111.2.2.2.2.1, .int .i64 p111.2.2.2.2.2.1, .int .i64 p111.2.2.2.2.2.2.1, .int .i64 p111.2.2.2.2.2.2.2] rfl))) ?_; clear hF; intro a hF
          obtain ⟨p153, h153, hM⟩ := bind_ex hM
          refine op_gcall (v := .bool p153) rfl rfl hF rfl S (yf (gw_yield hF rfl rfl rfl)) (fun hg => (run_call (vs := [.agg #[.int .i64 p127.1, .slice B128 p127.2.1.length d130, .int .i64 p127.2.2.1, .slice B131 p127.2.2.2.1.length d133, .int .i64 p127.2.2.2.2.1, .int .i64 p127.2.2.2.2.2.1, .int .i64 p127.2.2.2.2.2.2.1, .int .i64 p127.2.2.2.2.2.2.2], .agg #[.int .i64 p111.1, .slice B112 p111.2.1.length d114, .int .i64 p111.2.2.1, .slice B115 p111.2.2.2.1.length d117, .int .i64 p111.2.2.2.2.1, .int .i64 p111.2.2.2.2.2.1, .int .i64 p111.2.2.2.2.2.2.1, .int .i64 p111.2.2.2.2.2.2.2]]) rfl rfl co11 ⟨((hF.ev rfl).trans (gv_t hg)), ((hF.ev rfl).trans (gv_t hg)), trivial⟩)) (fun hg => c_laws_eqPoll (x0 := p127.1) (x1 := p127.2.1) (x2 := p127.2.2.1) (x3 := p127.2.2.2.1) (x4 := p127.2.2.2.2.1) (x5 := p127.2.2.2.2.2.1) (x6 := p127.2.2.2.2.2.2.1) (x7 := p127.2.2.2.2.2.2.2) (x8 := p111.1) (x9 := p111.2.1) (x10 := p111.2.2.1) (x11 := p111.2.2.2.1) (x12 := p111.2.2.2.2.1) (x13 := p111.2.2.2.2.2.1) (x14 := p111.2.2.2.2.2.2.1) (x15 := p111.2.2.2.2.2.2.2) ⟨(S.rc 5 rfl), rfl⟩ ⟨(S.rc 6 rfl), rfl⟩ ⟨(S.rc 9 rfl), rfl⟩ ⟨(S.rc 10 rfl), rfl⟩ (gb_t h153 hg)) ?_; clear hF S; intro a u hF S
          refine op_gv (v := .bool (!p153)) rfl rfl hF rfl (yf (gw_yield hF rfl rfl rfl)) (fun hg => (run_not rfl ((hF.ev rfl).trans (gv_t hg)))) ?_; clear hF; intro a hF
          refine op_val (v := .bool ((ltB p150.1 0) || (!p153))) rfl rfl hF rfl (run_pick_or rfl (hF.ev rfl) rfl (fun hp => ((hF.ev rfl).trans (gv_t (not_t hp))))) ?_; clear hF; intro a hF
          refine wpList_nil ?_
          cases hc154 : ((ltB p150.1 0) || (!p153))
          · replace hM := bif_f hc154 hM
            refine cond_f hF rfl hc154 ?_
            refine wp_skip ?_
            refine wp_seq ?_
            refine wp_region_lit ?_
            refine op_val (v := .int .i64 1) rfl rfl hF rfl (run_assign rfl rfl) ?_; clear hF; intro a hF
            refine wpList_nil ?_
            refine wp_seq ?_
            refine wp_region_lit ?_
            refine op_val (v := .agg #[.int .i64 p127.1, .slice B128 p127.2.1.length d130, .int .i64 p127.2.2.1, .slice B131 p127.2.2.2.1.length d133, .int .i64 p127.2.2.2.2.1, .int .i64 p127.2.2.2.2.2.1, .int .i64 p127.2.2.2.2.2.2.1, .int .i64 p127.2.2.2.2.2.2.2]) rfl rfl hF rfl (run_loadN rfl ag28 (hF.ev rfl) rfl ((S.free 4 rfl).cells 0 #[.int .i64 p127.1, .slice B128 p127.2.1.length d130, .int .i64 p127.2.2.1, .slice B131 p127.2.2.2.1.length d133, .int .i64 p127.2.2.2.2.1, .int .i64 p127.2.2.2.2.2.1, .int .i64 p127.2.2.2.2.2.2.1, .int .i64 p127.2.2.2.2.2.2.2] rfl)) ?_; clear hF; intro a hF
            refine op_val (v := .int .i64 1) rfl rfl hF rfl (run_move rfl (hF.ev rfl)) ?_; clear hF; intro a hF
            obtain ⟨p155, h155, hM⟩ := bind_ex hM
            refine op_call rfl rfl hF rfl (run_call (vs := [.agg #[.int .i64 p127.1, .slice B128 p127.2.1.length d130, .int .i64 p127.2.2.1, .slice B131 p127.2.2.2.1.length d133, .int .i64 p127.2.2.2.2.1, .int .i64 p127.2.2.2.2.2.1, .int .i64 p127.2.2.2.2.2.2.1, .int .i64 p127.2.2.2.2.2.2.2], .int .i64 1]) rfl rfl co12 ⟨(hF.ev rfl), (hF.ev rfl), trivial⟩) (c_laws_markPoll (x0 := p127.1) (x1 := p127.2.1) (x2 := p127.2.2.1) (x3 := p127.2.2.2.1) (x4 := p127.2.2.2.2.1) (x5 := p127.2.2.2.2.2.1) (x6 := p127.2.2.2.2.2.2.1) (x7 := p127.2.2.2.2.2.2.2) (x8 := 1) rfl rfl (show St w _ [.row 3 1 (.slice B128 p127.2.1.length d130) p127.2.1.length (p127.2.1.flatMap eI), .row 3 1 (.slice B131 p127.2.2.2.1.length d133) p127.2.2.2.1.length (p127.2.2.2.1.flatMap eI), .row 3 1 (.slice B120 p119.2.1.length d122) p119.2.1.length (p150.2.1.flatMap eI), .row 3 1 (.slice B123 p119.2.2.2.1.length d125) p119.2.2.2.1.length (p150.2.2.flatMap eI), .row 3 1 (.slice B145 p137.2.1.length d146) p137.2.1.length (p137.2.1.flatMap eI), .row 3 1 (.slice B147 p137.2.2.2.1.length d148) p137.2.2.2.1.length (p137.2.2.2.1.flatMap eI), .box g134 28 #[.int .i64 p127.1, .slice B128 p127.2.1.length d130, .int .i64 p127.2.2.1, .slice B131 p127.2.2.2.1.length d133, .int .i64 p127.2.2.2.2.1, .int .i64 p127.2.2.2.2.2.1, .int .i64 p127.2.2.2.2.2.2.1, .int .i64 p127.2.2.2.2.2.2.2], .box g126 28 #[.int .i64 p119.1, .slice B120 p119.2.1.length d122, .int .i64 p119.2.2.1, .slice B123 p119.2.2.2.1.length d125, .int .i64 p119.2.2.2.2.1, .int .i64 p119.2.2.2.2.2.1, .int .i64 p119.2.2.2.2.2.2.1, .int .i64 p119.2.2.2.2.2.2.2], .box g118 28 #[.int .i64 p111.1, .slice B112 p111.2.1.length d114, .int .i64 p111.2.2.1, .slice B115 p111.2.2.2.1.length d117, .int .i64 p111.2.2.2.2.1, .int .i64 p111.2.2.2.2.2.1, .int .i64 p111.2.2.2.2.2.2.1, .int .i64 p111.2.2.2.2.2.2.2], .row 3 1 (.slice B112 p111.2.1.length d114) p111.2.1.length (p111.2.1.flatMap eI), .row 3 1 (.slice B115 p111.2.2.2.1.length d117) p111.2.2.2.1.length (p111.2.2.2.1.flatMap eI), .row 3 1 (.slice B105 p104.2.1.length d107) p104.2.1.length (p104.2.1.flatMap eI), .row 3 1 (.slice B108 p104.2.2.2.1.length d110) p104.2.2.2.1.length (p104.2.2.2.1.flatMap eI), .box g101 24 #[.int .i64 x0, .slice A1 x1.length c1, .int .i64 x2, .slice A3 x3.length c3, .int .i64 x4, .int .i64 x5, .int .i64 x6, .int .i64 x7]] from S.sel [5, 6, 0, 1, 2, 3, 4, 7, 8, 9, 10, 11, 12, 13] rfl rfl) h155) ?_
            rintro e u ⟨rfl, hn156, hn157, T⟩
            refine ⟨_, rfl, ?_⟩
            clear hF; intro a hF
            clear S; have S := T; clear T
            refine op_val (v := .int .i64 p155.1) rfl rfl hF rfl (run_assign rfl (hF.ev rfl)) ?_; clear hF; intro a hF
            refine wpList_nil ?_
            refine wp_seq ?_
            refine wp_region_lit ?_
            refine op_val (v := .int .i64 1) rfl rfl hF rfl (run_assign rfl rfl) ?_; clear hF; intro a hF
            refine wpList_nil ?_
            refine wp_seq ?_
            refine wp_region_lit ?_
            refine op_val (v := .agg #[.int .i64 p127.1, .slice B128 p127.2.1.length d130, .int .i64 p127.2.2.1, .slice B131 p127.2.2.2.1.length d133, .int .i64 p127.2.2.2.2.1, .int .i64 p127.2.2.2.2.2.1, .int .i64 p127.2.2.2.2.2.2.1, .int .i64 p127.2.2.2.2.2.2.2]) rfl rfl hF rfl (run_loadN rfl ag28 (hF.ev rfl) rfl ((S.free 6 rfl).cells 0 #[.int .i64 p127.1, .slice B128 p127.2.1.length d130, .int .i64 p127.2.2.1, .slice B131 p127.2.2.2.1.length d133, .int .i64 p127.2.2.2.2.1, .int .i64 p127.2.2.2.2.2.1, .int .i64 p127.2.2.2.2.2.2.1, .int .i64 p127.2.2.2.2.2.2.2] rfl)) ?_; clear hF; intro a hF
            refine op_val (v := .int .i64 1) rfl rfl hF rfl (run_move rfl (hF.ev rfl)) ?_; clear hF; intro a hF
            obtain ⟨p158, h158, hM⟩ := bind_ex hM
            refine op_call rfl rfl hF rfl (run_call (vs := [.agg #[.int .i64 p127.1, .slice B128 p127.2.1.length d130, .int .i64 p127.2.2.1, .slice B131 p127.2.2.2.1.length d133, .int .i64 p127.2.2.2.2.1, .int .i64 p127.2.2.2.2.2.1, .int .i64 p127.2.2.2.2.2.2.1, .int .i64 p127.2.2.2.2.2.2.2], .int .i64 1]) rfl rfl co13 ⟨(hF.ev rfl), (hF.ev rfl), trivial⟩) (c_laws_heldPoll (x0 := p127.1) (x1 := p155.2.1) (x2 := p127.2.2.1) (x3 := p155.2.2) (x4 := p127.2.2.2.2.1) (x5 := p127.2.2.2.2.2.1) (x6 := p127.2.2.2.2.2.2.1) (x7 := p127.2.2.2.2.2.2.2) (x8 := 1) ⟨(S.rc 0 rfl), hn156⟩ ⟨(S.rc 1 rfl), hn157⟩ h158) ?_
            rintro e u ⟨rfl, T⟩
            refine ⟨_, rfl, ?_⟩
            clear hF; intro a hF
            replace S := S.call0 T; clear T
            refine op_val (v := .int .i64 p158) rfl rfl hF rfl (run_assign rfl (hF.ev rfl)) ?_; clear hF; intro a hF
            refine wpList_nil ?_
            refine wp_seq ?_
            refine wp_seq ?_
            refine wp_region_lit ?_
            refine op_val (v := .int .i64 p158) rfl rfl hF rfl (run_move rfl (hF.ev rfl)) ?_; clear hF; intro a hF
            refine op_val (v := .bool (ltB p158 0)) rfl rfl hF rfl (run_lss (hF.ev rfl) rfl rfl) ?_; clear hF; intro a hF
            refine wpList_nil ?_
            cases hc159 : (ltB p158 0)
            · replace hM := bif_f hc159 hM
              refine cond_f hF rfl hc159 ?_
              refine wp_skip ?_
              refine wp_seq ?_
              refine wp_seq ?_
              refine wp_region_lit ?_
              refine op_val (v := .int .i64 p158) rfl rfl hF rfl (run_move rfl (hF.ev rfl)) ?_; clear hF; intro a hF
              refine op_val (v := .int .i64 p155.1) rfl rfl hF rfl (run_move rfl (hF.ev rfl)) ?_; clear hF; intro a hF
              refine op_val (v := .bool (p158 != p155.1)) rfl rfl hF rfl (run_neq (hF.ev rfl) (hF.ev rfl) rfl) ?_; clear hF; intro a hF
              refine wpList_nil ?_
              cases hc160 : (p158 != p155.1)
              · replace hM := bif_f hc160 hM
                refine cond_f hF rfl hc160 ?_
                refine wp_skip ?_
                refine wp_seq ?_
                refine wp_region_lit ?_
                refine op_val (v := .agg #[.int .i64 x0, .slice A1 x1.length c1, .int .i64 x2, .slice A3 x3.length c3, .int .i64 x4, .int .i64 x5, .int .i64 x6, .int .i64 x7]) rfl rfl hF rfl (run_loadN rfl ag24 (hF.ev rfl) rfl ((S.free 13 rfl).cells 0 #[.int .i64 x0, .slice A1 x1.length c1, .int .i64 x2, .slice A3 x3.length c3, .int .i64 x4, .int .i64 x5, .int .i64 x6, .int .i64 x7] rfl)) ?_; clear hF; intro a hF
                obtain ⟨p161, h161, hM⟩ := bind_ex hM
                refine op_call rfl rfl hF rfl (run_call (vs := [.agg #[.int .i64 x0, .slice A1 x1.length c1, .int .i64 x2, .slice A3 x3.length c3, .int .i64 x4, .int .i64 x5, .int .i64 x6, .int .i64 x7]]) rfl rfl co8 ⟨(hF.ev rfl), trivial⟩) (c_laws_toPoll (x0 := x0) (x1 := x1) (x2 := x2) (x3 := x3) (x4 := x4) (x5 := x5) (x6 := x6) (x7 := x7) ⟨(S.rc0 h1.rc), rfl⟩ ⟨(S.rc0 h3.rc), rfl⟩ h161) ?_
                rintro e u ⟨B162, n163, d164, B165, n166, d167, rfl, rfl, rfl, T⟩
                refine ⟨_, rfl, ?_⟩
                clear hF; intro a hF
                replace S := S.call2 T; clear T
                obtain ⟨p168, h168, hM⟩ := bind_ex hM
                refine op_call rfl rfl hF rfl (run_call (vs := [.agg #[.int .i64 p161.1, .slice B162 p161.2.1.length d164, .int .i64 p161.2.2.1, .slice B165 p161.2.2.2.1.length d167, .int .i64 p161.2.2.2.2.1, .int .i64 p161.2.2.2.2.2.1, .int .i64 p161.2.2.2.2.2.2.1, .int .i64 p161.2.2.2.2.2.2.2]]) rfl rfl co15 ⟨(hF.ev rfl), trivial⟩) (c_impl_PollDrain (x0 := p161.1) (x1 := p161.2.1) (x2 := p161.2.2.1) (x3 := p161.2.2.2.1) (x4 := p161.2.2.2.2.1) (x5 := p161.2.2.2.2.2.1) (x6 := p161.2.2.2.2.2.2.1) (x7 := p161.2.2.2.2.2.2.2) ⟨(S.rc 0 rfl), rfl⟩ ⟨(S.rc 1 rfl), rfl⟩ h168) ?_
                rintro e u ⟨B169, n170, d171, B172, n173, d174, rfl, rfl, rfl, T⟩
                refine ⟨_, rfl, ?_⟩
                clear hF; intro a hF
                replace S := S.call2 T; clear T
                refine op_new (cs := #[.int .i64 0, .slice none 0 0, .int .i64 0, .slice none 0 0, .int .i64 0, .int .i64 0, .int .i64 0, .int .i64 0]) rfl rfl hF rfl S (run_allocZ rfl zr28) ?_; clear hF S; intro a g175 u hF S
                refine op_do rfl rfl (run_store (cs' := #[.int .i64 p168.1, .slice B169 p168.2.1.length d171, .int .i64 p168.2.2.1, .slice B172 p168.2.2.2.1.length d174, .int .i64 p168.2.2.2.2.1, .int .i64 p168.2.2.2.2.2.1, .int .i64 p168.2.2.2.2.2.2.1, .int .i64 p168.2.2.2.2.2.2.2]) rfl sz28 (hF.ev rfl) (hF.ev rfl) rfl rfl rfl (S.free 0 rfl) rfl rfl) ?_; replace S := S.put 0 rfl (#[.int .i64 p168.1, .slice B169 p168.2.1.length d171, .int .i64 p168.2.2.1, .slice B172 p168.2.2.2.1.length d174, .int .i64 p168.2.2.2.2.1, .int .i64 p168.2.2.2.2.2.1, .int .i64 p168.2.2.2.2.2.2.1, .int .i64 p168.2.2.2.2.2.2.2])
                generalize World.setRow _ _ _ = u at S ⊢
                refine wpList_nil ?_
                refine wp_seq ?_
                refine wp_seq ?_
                refine wp_region_lit ?_
                refine op_val (v := .agg #[.int .i64 p168.1, .slice B169 p168.2.1.length d171, .int .i64 p168.2.2.1, .slice B172 p168.2.2.2.1.length d174, .int .i64 p168.2.2.2.2.1, .int .i64 p168.2.2.2.2.2.1, .int .i64 p168.2.2.2.2.2.2.1, .int .i64 p168.2.2.2.2.2.2.2]) rfl rfl hF rfl (run_loadN rfl ag28 (hF.ev rfl) rfl ((S.free 0 rfl).cells 0 #[.int .i64 p168.1, .slice B169 p168.2.1.length d171, .int .i64 p168.2.2.1, .slice B172 p168.2.2.2.1.length d174, .int .i64 p168.2.2.2.2.1, .int .i64 p168.2.2.2.2.2.1, .int .i64 p168.2.2.2.2.2.2.1, .int .i64 p168.2.2.2.2.2.2.2] rfl)) ?_; clear hF; intro a hF
                refine op_val (v := .agg #[.int .i64 p111.1, .slice B112 p111.2.1.length d114, .int .i64 p111.2.2.1, .slice B115 p111.2.2.2.1.length d117, .int .i64 p111.2.2.2.2.1, .int .i64 p111.2.2.2.2.2.1, .int .i64 p111.2.2.2.2.2.2.1, .int .i64 p111.2.2.2.2.2.2.2]) rfl rfl hF rfl (run_loadN rfl ag28 (hF.ev rfl) rfl ((S.free 13 rfl).cells 0 #[.int .i64 p111.1, .slice B112 p111.2.1.length d114, .int .i64 p111.2.2.1, .slice B115 p111.2.2.2.1.length d117, .int .i64 p111.2.2.2.2.1, .int .i64 p111.2.2.2.2.2.1, .int .i64 p111.2.2.2.2.2.2.1, .int .i64 p111.2.2.2.2.2.2.2] rfl)) ?_; clear hF; intro a hF
                obtain ⟨p176, h176, hM⟩ := bind_ex hM
                refine op_call rfl rfl hF rfl (run_call (vs := [.agg #[.int .i64 p168.1, .slice B169 p168.2.1.length d171, .int .i64 p168.2.2.1, .slice B172 p168.2.2.2.1.length d174, .int .i64 p168.2.2.2.2.1, .int .i64 p168.2.2.2.2.2.1, .int .i64 p168.2.2.2.2.2.2.1, .int .i64 p168.2.2.2.2.2.2.2], .agg #[.int .i64 p111.1, .slice B112 p111.2.1.length d114, .int .i64 p111.2.2.1, .slice B115 p111.2.2.2.1.length d117, .int .i64 p111.2.2.2.2.1, .int .i64 p111.2.2.2.2.2.1, .int .i64 p111.2.2.2.2.2.2.1, .int .i64 p111.2.2.2.2.2.2.2]]) rfl rfl co11 ⟨(hF.ev rfl), (hF.ev rfl), trivial⟩) (c_laws_eqPoll (x0 := p168.1) (x1 := p168.2.1) (x2 := p168.2.2.1) (x3 := p168.2.2.2.1) (x4 := p168.2.2.2.2.1) (x5 := p168.2.2.2.2.2.1) (x6 := p168.2.2.2.2.2.2.1) (x7 := p168.2.2.2.2.2.2.2) (x8 := p111.1) (x9 := p111.2.1) (x10 := p111.2.2.1) (x11 := p111.2.2.2.1) (x12 := p111.2.2.2.2.1) (x13 := p111.2.2.2.2.2.1) (x14 := p111.2.2.2.2.2.2.1) (x15 := p111.2.2.2.2.2.2.2) ⟨(S.rc 1 rfl), rfl⟩ ⟨(S.rc 2 rfl), rfl⟩ ⟨(S.rc 14 rfl), rfl⟩ ⟨(S.rc 15 rfl), rfl⟩ h176) ?_
                rintro e u ⟨rfl, T⟩
                refine ⟨_, rfl, ?_⟩
                clear hF; intro a hF
                replace S := S.call0 T; clear T
                refine op_val (v := .bool (!p176)) rfl rfl hF rfl (run_not rfl (hF.ev rfl)) ?_; clear hF; intro a hF
                refine wpList_nil ?_
                cases hc177 : (p176)
                · replace hM := bif_f hc177 hM
                  refine cond_t hF rfl (not_t hc177) ?_
                  refine wp_seq ?_
                  refine wp_region_lit ?_
                  refine op_val (v := .bool false) rfl rfl hF rfl (run_assign rfl rfl) ?_; clear hF; intro a hF
                  refine wpList_nil ?_
                  refine wp_ret ?_
                  repeat with_reducible (first | refine then_ret ?_ | refine in_ret ?_ | refine in_nrm ?_)
                  refine ret1_gw (.inl rfl) hF rfl (res_tmp (hF.ev rfl)) ?_
                  obtain rfl := Option.some.inj hM
                  exact ⟨rfl, S.sel [] rfl rfl⟩
                · replace hM := bif_t hc177 hM
                  refine cond_f hF rfl (not_f hc177) ?_
                  refine wp_skip ?_
                  refine wp_seq ?_
                  refine wp_region_lit ?_
                  refine op_val (v := .int .i64 1) rfl rfl hF rfl (run_assign rfl rfl) ?_; clear hF; intro a hF
                  refine wpList_nil ?_
                  refine wp_seq ?_
                  refine wp_region_lit ?_
                  refine op_val (v := .agg #[.int .i64 p127.1, .slice B128 p127.2.1.length d130, .int .i64 p127.2.2.1, .slice B131 p127.2.2.2.1.length d133, .int .i64 p127.2.2.2.2.1, .int .i64 p127.2.2.2.2.2.1, .int .i64 p127.2.2.2.2.2.2.1, .int .i64 p127.2.2.2.2.2.2.2]) rfl rfl hF rfl (run_loadN rfl ag28 (hF.ev rfl) rfl ((S.free 11 rfl).cells 0 #[.int .i64 p127.1, .slice B128 p127.2.1.length d130, .int .i64 p127.2.2.1, .slice B131 p127.2.2.2.1.length d133, .int .i64 p127.2.2.2.2.1, .int .i64 p127.2.2.2.2.2.1, .int .i64 p127.2.2.2.2.2.2.1, .int .i64 p127.2.2.2.2.2.2.2] rfl)) ?_; clear hF; intro a hF
                  refine op_val (v := .int .i64 1) rfl rfl hF rfl (run_move rfl (hF.ev rfl)) ?_; clear hF; intro a hF
                  obtain ⟨p178, h178, hM⟩ := bind_ex hM
                  refine op_call rfl rfl hF rfl (run_call (vs := [.agg #[.int .i64 p127.1, .slice B128 p127.2.1.length d130, .int .i64 p127.2.2.1, .slice B131 p127.2.2.2.1.length d133, .int .i64 p127.2.2.2.2.1, .int .i64 p127.2.2.2.2.2.1, .int .i64 p127.2.2.2.2.2.2.1, .int .i64 p127.2.2.2.2.2.2.2], .int .i64 1]) rfl rfl co13 ⟨(hF.ev rfl), (hF.ev rfl), trivial⟩) (c_laws_heldPoll (x0 := p127.1) (x1 := p155.2.1) (x2 := p127.2.2.1) (x3 := p155.2.2) (x4 := p127.2.2.2.2.1) (x5 := p127.2.2.2.2.2.1) (x6 := p127.2.2.2.2.2.2.1) (x7 := p127.2.2.2.2.2.2.2) (x8 := 1) ⟨(S.rc 5 rfl), hn156⟩ ⟨(S.rc 6 rfl), hn157⟩ h178) ?_
                  rintro e u ⟨rfl, T⟩
                  refine ⟨_, rfl, ?_⟩
                  clear hF; intro a hF
                  replace S := S.call0 T; clear T
                  refine op_val (v := .int .i64 p178) rfl rfl hF rfl (run_assign rfl (hF.ev rfl)) ?_; clear hF; intro a hF
                  refine wpList_nil ?_
                  refine wp_seq ?_
                  refine wp_seq ?_
                  refine wp_region_lit ?_
                  refine op_val (v := .int .i64 p178) rfl rfl hF rfl (run_move rfl (hF.ev rfl)) ?_; clear hF; intro a hF
                  refine op_val (v := .bool (ltB p178 0)) rfl rfl hF rfl (run_lss (hF.ev rfl) rfl rfl) ?_; clear hF; intro a hF
                  refine wpList_nil ?_
                  cases hc179 : (ltB p178 0)
                  · replace hM := bif_f hc179 hM
                    refine cond_f hF rfl hc179 ?_
                    refine wp_skip ?_
                    refine wp_seq ?_
                    refine wp_seq ?_
                    refine wp_region_lit ?_
                    refine op_val (v := .int .i64 p178) rfl rfl hF rfl (run_move rfl (hF.ev rfl)) ?_; clear hF; intro a hF
                    refine op_val (v := .int .i64 p155.1) rfl rfl hF rfl (run_move rfl (hF.ev rfl)) ?_; clear hF; intro a hF
                    refine op_val (v := .bool (p178 != p155.1)) rfl rfl hF rfl (run_neq (hF.ev rfl) (hF.ev rfl) rfl) ?_; clear hF; intro a hF
                    refine wpList_nil ?_
                    cases hc180 : (p178 != p155.1)
                    · replace hM := bif_f hc180 hM
                      refine cond_f hF rfl hc180 ?_
                      refine wp_skip ?_
                      refine wp_seq ?_
                      refine wp_region_lit ?_
                      refine op_val (v := .bool true) rfl rfl hF rfl (run_assign rfl rfl) ?_; clear hF; intro a hF
                      refine wpList_nil ?_
                      refine wp_ret ?_
                      repeat with_reducible (first | refine then_ret ?_ | refine in_ret ?_ | refine in_nrm ?_)
                      refine ret1_gw (.inl rfl) hF rfl (res_tmp (hF.ev rfl)) ?_
                      obtain rfl := Option.some.inj hM
                      exact ⟨rfl, S.sel [] rfl rfl⟩
                    · replace hM := bif_t hc180 hM
                      refine cond_t hF rfl hc180 ?_
                      refine wp_seq ?_
                      refine wp_region_lit ?_
                      refine op_val (v := .bool false) rfl rfl hF rfl (run_assign rfl rfl) ?_; clear hF; intro a hF
                      refine wpList_nil ?_
                      refine wp_ret ?_
                      repeat with_reducible (first | refine then_ret ?_ | refine in_ret ?_ | refine in_nrm ?_)
                      refine ret1_gw (.inl rfl) hF rfl (res_tmp (hF.ev rfl)) ?_
                      obtain rfl := Option.some.inj hM
                      exact ⟨rfl, S.sel [] rfl rfl⟩
                  · replace hM := bif_t hc179 hM
                    refine cond_t hF rfl hc179 ?_
                    refine wp_seq ?_
                    refine wp_region_lit ?_
                    refine op_val (v := .bool false) rfl rfl hF rfl (run_assign rfl rfl) ?_; clear hF; intro a hF
                    refine wpList_nil ?_
                    refine wp_ret ?_
                    repeat with_reducible (first | refine then_ret ?_ | refine in_ret ?_ | refine in_nrm ?_)
                    refine ret1_gw (.inl rfl) hF rfl (res_tmp (hF.ev rfl)) ?_
                    obtain rfl := Option.some.inj hM
                    exact ⟨rfl, S.sel [] rfl rfl⟩
              · replace hM := bif_t hc160 hM
                refine cond_t hF rfl hc160 ?_
                refine wp_seq ?_
                refine wp_region_lit ?_
                refine op_val (v := .bool false) rfl rfl hF rfl (run_assign rfl rfl) ?_; clear hF; intro a hF
                refine wpList_nil ?_
                refine wp_ret ?_
                repeat with_reducible (first | refine then_ret ?_ | refine in_ret ?_ | refine in_nrm ?_)
                refine ret1_gw (.inl rfl) hF rfl (res_tmp (hF.ev rfl)) ?_
                obtain rfl := Option.some.inj hM
                exact ⟨rfl, S.sel [] rfl rfl⟩
            · replace hM := bif_t hc159 hM
              refine cond_t hF rfl hc159 ?_
              refine wp_seq ?_
              refine wp_region_lit ?_
              refine op_val (v := .bool false) rfl rfl hF rfl (run_assign rfl rfl) ?_; clear hF; intro a hF
              refine wpList_nil ?_
              refine wp_ret ?_
              repeat with_reducible (first | refine then_ret ?_ | refine in_ret ?_ | refine in_nrm ?_)
              refine ret1_gw (.inl rfl) hF rfl (res_tmp (hF.ev rfl)) ?_
              obtain rfl := Option.some.inj hM
              exact ⟨rfl, S.sel [] rfl rfl⟩
          · replace hM := bif_t hc154 hM
            refine cond_t hF rfl hc154 ?_
            refine wp_seq ?_
            refine wp_region_lit ?_
            refine op_val (v := .bool false) rfl rfl hF rfl (run_assign rfl rfl) ?_; clear hF; intro a hF
            refine wpList_nil ?_
            refine wp_ret ?_
            repeat with_reducible (first | refine then_ret ?_ | refine in_ret ?_ | refine in_nrm ?_)
            refine ret1_gw (.inl rfl) hF rfl (res_tmp (hF.ev rfl)) ?_
            obtain rfl := Option.some.inj hM
            exact ⟨rfl, S.sel [] rfl rfl⟩
  · replace hM := bif_t hc103 hM
    refine cond_t hF rfl hc103 ?_
    refine wp_seq ?_
    refine wp_region_lit ?_
    refine op_val (v := .bool true) rfl rfl hF rfl (run_assign rfl rfl) ?_; clear hF; intro a hF
    refine wpList_nil ?_
    refine wp_ret ?_
    repeat with_reducible (first | refine then_ret ?_ | refine in_ret ?_ | refine in_nrm ?_)
    refine ret1_gw (.inl rfl) hF rfl (res_tmp (hF.ev rfl)) ?_
    obtain rfl := Option.some.inj hM
    exact ⟨rfl, S.sel [] rfl rfl⟩

end Go.Proofs.Ytceghkdjpkegaaa
