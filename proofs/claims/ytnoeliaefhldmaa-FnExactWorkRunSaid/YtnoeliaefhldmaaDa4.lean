/- Calls return what the models say. -/
import Derived.Test.YtnoeliaefhldmaaDa3
namespace Go.Proofs.Ytnoeliaefhldmaa
open Go.ChangeShapes Go.WideShapes Go.ChangeAt Go.RowKit
set_option linter.unusedVariables false
set_option linter.unusedSimpArgs false

set_option maxHeartbeats 4000000 in
theorem c_laws_FnExactWorkRun {x0 : List Bool} {x1 : List Bool} {x2 : List (Int × Int)} {x3 : List (Int × Int × Int)} {A0 : Option Addr} {n0 c0 : Nat} {A1 : Option Addr} {n1 c1 : Nat} {A2 : Option Addr} {n2 c2 : Nat} {A3 : Option Addr} {n3 c3 : Nat} {w : World} {r : Bool} (h0 : Rt w 1 eB A0 n0 c0 x0) (h1 : Rt w 1 eB A1 n1 c1 x1) (h2 : Rt w 2 eLPermit A2 n2 c2 x2) (h3 : Rt w 3 eLWorkDeed A3 n3 c3 x3) (hM : m_laws_FnExactWorkRun x0 x1 x2 x3 = some r) :
    Calls Try.prog 4 #[.agg #[.slice A0 n0 c0, .slice A1 n1 c1, .slice A2 n2 c2], .slice A3 n3 c3] w (fun e w' => e = .returned (.bool r) ∧ St w w' []) := by
  obtain rfl := h0.len
  obtain rfl := h1.len
  obtain rfl := h2.len
  obtain rfl := h3.len
  unfold m_laws_FnExactWorkRun at hM
  refine calls_gw Try.func4 Try.ntmps4 rfl [(0, .agg #[.slice A0 x0.length c0, .slice A1 x1.length c1, .slice A2 x2.length c2]), (1, .slice A3 x3.length c3)] ⟨rfl, rfl, trivial⟩ rfl ?_
  intro a hF
  have S := St.nil w
  refine wp_seq ?_
  refine wp_region_lit ?_
  refine op_new (cs := #[.slice A0 x0.length c0, .slice A1 x1.length c1, .slice A2 x2.length c2]) rfl rfl hF rfl S (run_box rfl (hF.ev rfl) rfl) ?_; clear hF S; intro a g101 u hF S
  refine op_val (v := .bool false) rfl rfl hF rfl (run_assign rfl rfl) ?_; clear hF; intro a hF
  refine wpList_nil ?_
  refine wp_seq ?_
  refine wp_region_lit ?_
  refine op_val (v := .int .i64 1048576) rfl rfl hF rfl (run_assign rfl rfl) ?_; clear hF; intro a hF
  refine wpList_nil ?_
  refine wp_seq ?_
  refine wp_region_lit ?_
  refine op_val (v := .agg #[.slice A0 x0.length c0, .slice A1 x1.length c1, .slice A2 x2.length c2]) rfl rfl hF rfl (run_loadN rfl ag25 (hF.ev rfl) rfl ((S.free 0 rfl).cells 0 #[.slice A0 x0.length c0, .slice A1 x1.length c1, .slice A2 x2.length c2] rfl)) ?_; clear hF; intro a hF
  refine op_val (v := .int .i64 1048576) rfl rfl hF rfl (run_move rfl (hF.ev rfl)) ?_; clear hF; intro a hF
  obtain ⟨p102, h102, hM⟩ := bind_ex hM
  refine op_call rfl rfl hF rfl (run_call (vs := [.agg #[.slice A0 x0.length c0, .slice A1 x1.length c1, .slice A2 x2.length c2], .int .i64 1048576]) rfl rfl co5 ⟨(hF.ev rfl), (hF.ev rfl), trivial⟩) (c_laws_szWork (x0 := x0) (x1 := x1) (x2 := x2) (x3 := 1048576) ⟨(S.rc0 h0.rc), rfl⟩ ⟨(S.rc0 h1.rc), rfl⟩ ⟨(S.rc0 h2.rc), rfl⟩ h102) ?_
  rintro e u ⟨rfl, T⟩
  refine ⟨_, rfl, ?_⟩
  clear hF; intro a hF
  replace S := S.call0 T; clear T
  refine op_val (v := .int .i64 p102) rfl rfl hF rfl (run_assign rfl (hF.ev rfl)) ?_; clear hF; intro a hF
  refine wpList_nil ?_
  refine wp_seq ?_
  refine wp_seq ?_
  refine wp_region_lit ?_
  refine op_val (v := .int .i64 p102) rfl rfl hF rfl (run_move rfl (hF.ev rfl)) ?_; clear hF; intro a hF
  refine op_val (v := .bool (ltB p102 0)) rfl rfl hF rfl (run_lss (hF.ev rfl) rfl rfl) ?_; clear hF; intro a hF
  refine wpList_nil ?_
  cases hc103 : (ltB p102 0)
  · replace hM := bif_f hc103 hM
    refine cond_f hF rfl hc103 ?_
    refine wp_skip ?_
    refine wp_seq ?_
    refine wp_region_lit ?_
    refine op_val (v := .slice A3 x3.length c3) rfl rfl hF rfl (run_move rfl (hF.ev rfl)) ?_; clear hF; intro a hF
    refine op_val (v := .int .i64 p102) rfl rfl hF rfl (run_move rfl (hF.ev rfl)) ?_; clear hF; intro a hF
    obtain ⟨p104, h104, hM⟩ := bind_ex hM
    refine op_call rfl rfl hF rfl (run_call (vs := [.slice A3 x3.length c3, .int .i64 p102]) rfl rfl co13 ⟨(hF.ev rfl), (hF.ev rfl), trivial⟩) (c_laws_szWorkDeedS (x0 := x3) (x1 := p102) ⟨(S.rc0 h3.rc), rfl⟩ h104) ?_
    rintro e u ⟨rfl, T⟩
    refine ⟨_, rfl, ?_⟩
    clear hF; intro a hF
    replace S := S.call0 T; clear T
    refine op_val (v := .int .i64 p104) rfl rfl hF rfl (run_assign rfl (hF.ev rfl)) ?_; clear hF; intro a hF
    refine wpList_nil ?_
    refine wp_seq ?_
    refine wp_seq ?_
    refine wp_region_lit ?_
    refine op_val (v := .int .i64 p104) rfl rfl hF rfl (run_move rfl (hF.ev rfl)) ?_; clear hF; intro a hF
    refine op_val (v := .bool (ltB p104 0)) rfl rfl hF rfl (run_lss (hF.ev rfl) rfl rfl) ?_; clear hF; intro a hF
    refine wpList_nil ?_
    cases hc105 : (ltB p104 0)
    · replace hM := bif_f hc105 hM
      refine cond_f hF rfl hc105 ?_
      refine wp_skip ?_
      refine wp_seq ?_
      refine wp_region_lit ?_
      refine op_val (v := .agg #[.slice A0 x0.length c0, .slice A1 x1.length c1, .slice A2 x2.length c2]) rfl rfl hF rfl (run_loadN rfl ag25 (hF.ev rfl) rfl ((S.free 0 rfl).cells 0 #[.slice A0 x0.length c0, .slice A1 x1.length c1, .slice A2 x2.length c2] rfl)) ?_; clear hF; intro a hF
      obtain ⟨p106, h106, hM⟩ := bind_ex hM
      refine op_call rfl rfl hF rfl (run_call (vs := [.agg #[.slice A0 x0.length c0, .slice A1 x1.length c1, .slice A2 x2.length c2]]) rfl rfl co7 ⟨(hF.ev rfl), trivial⟩) (c_laws_toWork (x0 := x0) (x1 := x1) (x2 := x2) ⟨(S.rc0 h0.rc), rfl⟩ ⟨(S.rc0 h1.rc), rfl⟩ ⟨(S.rc0 h2.rc), rfl⟩ h106) ?_
      rintro e u ⟨B107, n108, d109, B110, n111, d112, B113, n114, d115, rfl, rfl, rfl, rfl, T⟩
      refine ⟨_, rfl, ?_⟩
      clear hF; intro a hF
      replace S := S.call3 T; clear T
      refine op_val (v := .slice A3 x3.length c3) rfl rfl hF rfl (run_move rfl (hF.ev rfl)) ?_; clear hF; intro a hF
      obtain ⟨p116, h116, hM⟩ := bind_ex hM
      refine op_call rfl rfl hF rfl (run_call (vs := [.slice A3 x3.length c3]) rfl rfl co15 ⟨(hF.ev rfl), trivial⟩) (c_laws_toWorkDeedS (x0 := x3) ⟨(S.rc0 h3.rc), rfl⟩ h116) ?_
      rintro e u ⟨B117, n118, d119, rfl, rfl, T⟩
      refine ⟨_, rfl, ?_⟩
      clear hF; intro a hF
      replace S := S.call1 T; clear T
      obtain ⟨p120, h120, hM⟩ := bind_ex hM
      refine op_call rfl rfl hF rfl (run_call (vs := [.agg #[.slice B107 p106.1.length d109, .slice B110 p106.2.1.length d112, .slice B113 p106.2.2.length d115], .slice B117 p116.length d119]) rfl rfl co14 ⟨(hF.ev rfl), (hF.ev rfl), trivial⟩) (c_spec_WorkRun (x0 := p106.1) (x1 := p106.2.1) (x2 := p106.2.2) (x3 := p116) ⟨(S.rc 1 rfl), rfl⟩ ⟨(S.rc 2 rfl), rfl⟩ ⟨(S.rc 3 rfl), rfl⟩ ⟨(S.rc 0 rfl), rfl⟩ h120) ?_
      rintro e u ⟨B121, n122, d123, B124, n125, d126, B127, n128, d129, rfl, rfl, rfl, rfl, T⟩
      refine ⟨_, rfl, ?_⟩
      clear hF; intro a hF
      replace S := S.call3 T; clear T
      refine op_val (v := .tuple #[.agg #[.slice B121 p120.1.length d123, .slice B124 p120.2.1.length d126, .slice B127 p120.2.2.1.length d129], .int .i64 p120.2.2.2]) rfl rfl hF rfl (run_move rfl (hF.ev rfl)) ?_; clear hF; intro a hF
      refine op_val (v := .agg #[.slice B121 p120.1.length d123, .slice B124 p120.2.1.length d126, .slice B127 p120.2.2.1.length d129]) rfl rfl hF rfl (run_extract rfl (hF.ev rfl) rfl) ?_; clear hF; intro a hF
      refine op_val (v := .int .i64 p120.2.2.2) rfl rfl hF rfl (run_extract rfl (hF.ev rfl) rfl) ?_; clear hF; intro a hF
      refine op_new (cs := #[.slice none 0 0, .slice none 0 0, .slice none 0 0]) rfl rfl hF rfl S (run_allocZ rfl zr31) ?_; clear hF S; intro a g130 u hF S
      refine op_do rfl rfl (run_store (cs' := #[.slice B121 p120.1.length d123, .slice B124 p120.2.1.length d126, .slice B127 p120.2.2.1.length d129]) rfl sz31 (hF.ev rfl) (hF.ev rfl) rfl rfl rfl (S.free 0 rfl) rfl rfl) ?_; replace S := S.put 0 rfl (#[.slice B121 p120.1.length d123, .slice B124 p120.2.1.length d126, .slice B127 p120.2.2.1.length d129])
      generalize World.setRow _ _ _ = u at S ⊢
      refine op_val (v := .int .i64 p120.2.2.2) rfl rfl hF rfl (run_assign rfl (hF.ev rfl)) ?_; clear hF; intro a hF
      refine wpList_nil ?_
      refine wp_seq ?_
      refine wp_region_lit ?_
      refine op_val (v := .agg #[.slice A0 x0.length c0, .slice A1 x1.length c1, .slice A2 x2.length c2]) rfl rfl hF rfl (run_loadN rfl ag25 (hF.ev rfl) rfl ((S.free 8 rfl).cells 0 #[.slice A0 x0.length c0, .slice A1 x1.length c1, .slice A2 x2.length c2] rfl)) ?_; clear hF; intro a hF
      obtain ⟨p131, h131, hM⟩ := bind_ex hM
      refine op_call rfl rfl hF rfl (run_call (vs := [.agg #[.slice A0 x0.length c0, .slice A1 x1.length c1, .slice A2 x2.length c2]]) rfl rfl co7 ⟨(hF.ev rfl), trivial⟩) (c_laws_toWork (x0 := x0) (x1 := x1) (x2 := x2) ⟨(S.rc0 h0.rc), rfl⟩ ⟨(S.rc0 h1.rc), rfl⟩ ⟨(S.rc0 h2.rc), rfl⟩ h131) ?_
      rintro e u ⟨B132, n133, d134, B135, n136, d137, B138, n139, d140, rfl, rfl, rfl, rfl, T⟩
      refine ⟨_, rfl, ?_⟩
      clear hF; intro a hF
      replace S := S.call3 T; clear T
      refine op_new (cs := #[.slice none 0 0, .slice none 0 0, .slice none 0 0]) rfl rfl hF rfl S (run_allocZ rfl zr31) ?_; clear hF S; intro a g141 u hF S
      refine op_do rfl rfl (run_store (cs' := #[.slice B132 p131.1.length d134, .slice B135 p131.2.1.length d137, .slice B138 p131.2.2.length d140]) rfl sz31 (hF.ev rfl) (hF.ev rfl) rfl rfl rfl (S.free 0 rfl) rfl rfl) ?_; replace S := S.put 0 rfl (#[.slice B132 p131.1.length d134, .slice B135 p131.2.1.length d137, .slice B138 p131.2.2.length d140])
      generalize World.setRow _ _ _ = u at S ⊢
      refine wpList_nil ?_
      refine wp_seq ?_
      refine wp_region_lit ?_
      refine op_val (v := .slice A3 x3.length c3) rfl rfl hF rfl (run_move rfl (hF.ev rfl)) ?_; clear hF; intro a hF
      obtain ⟨p142, h142, hM⟩ := bind_ex hM
      refine op_call rfl rfl hF rfl (run_call (vs := [.slice A3 x3.length c3]) rfl rfl co15 ⟨(hF.ev rfl), trivial⟩) (c_laws_toWorkDeedS (x0 := x3) ⟨(S.rc0 h3.rc), rfl⟩ h142) ?_
      rintro e u ⟨B143, n144, d145, rfl, rfl, T⟩
      refine ⟨_, rfl, ?_⟩
      clear hF; intro a hF
      replace S := S.call1 T; clear T
      refine op_val (v := .slice B143 p142.length d145) rfl rfl hF rfl (run_assign rfl (hF.ev rfl)) ?_; clear hF; intro a hF
      refine wpList_nil ?_
      refine wp_seq ?_
      refine wp_region_lit ?_
      refine op_val (v := .agg #[.slice B132 p131.1.length d134, .slice B135 p131.2.1.length d137, .slice B138 p131.2.2.length d140]) rfl rfl hF rfl (run_loadN rfl ag31 (hF.ev rfl) rfl ((S.free 1 rfl).cells 0 #[.slice B132 p131.1.length d134, .slice B135 p131.2.1.length d137, .slice B138 p131.2.2.length d140] rfl)) ?_; clear hF; intro a hF
      refine op_val (v := .slice B143 p142.length d145) rfl rfl hF rfl (run_move rfl (hF.ev rfl)) ?_; clear hF; intro a hF
      obtain ⟨p146, h146, hM⟩ := bind_ex hM
      refine op_call rfl rfl hF rfl (run_call (vs := [.agg #[.slice B132 p131.1.length d134, .slice B135 p131.2.1.length d137, .slice B138 p131.2.2.length d140], .slice B143 p142.length d145]) rfl rfl co16 ⟨(hF.ev rfl), (hF.ev rfl), trivial⟩) (c_impl_WorkRun (x0 := p131.1) (x1 := p131.2.1) (x2 := p131.2.2) (x3 := p142) ⟨(S.rc 2 rfl), rfl⟩ ⟨(S.rc 3 rfl), rfl⟩ ⟨(S.rc 4 rfl), rfl⟩ ⟨(S.rc 0 rfl), rfl⟩ h146) ?_
      rintro e u ⟨B147, n148, d149, B150, n151, d152, B153, n154, d155, rfl, rfl, rfl, rfl, T⟩
      refine ⟨_, rfl, ?_⟩
      clear hF; intro a hF
      replace S := S.call3 T; clear T
      refine op_val (v := .tuple #[.agg #[.slice B147 p146.1.length d149, .slice B150 p146.2.1.length d152, .slice B153 p146.2.2.1.length d155], .int .i64 p146.2.2.2]) rfl rfl hF rfl (run_move rfl (hF.ev rfl)) ?_; clear hF; intro a hF
      refine op_val (v := .agg #[.slice B147 p146.1.length d149, .slice B150 p146.2.1.length d152, .slice B153 p146.2.2.1.length d155]) rfl rfl hF rfl (run_extract rfl (hF.ev rfl) rfl) ?_; clear hF; intro a hF
      refine op_val (v := .int .i64 p146.2.2.2) rfl rfl hF rfl (run_extract rfl (hF.ev rfl) rfl) ?_; clear hF; intro a hF
      refine op_new (cs := #[.slice none 0 0, .slice none 0 0, .slice none 0 0]) rfl rfl hF rfl S (run_allocZ rfl zr31) ?_; clear hF S; intro a g156 u hF S
      refine op_do rfl rfl (run_store (cs' := #[.slice B147 p146.1.length d149, .slice B150 p146.2.1.length d152, .slice B153 p146.2.2.1.length d155]) rfl sz31 (hF.ev rfl) (hF.ev rfl) rfl rfl rfl (S.free 0 rfl) rfl rfl) ?_; replace S := S.put 0 rfl (#[.slice B147 p146.1.length d149, .slice B150 p146.2.1.length d152, .slice B153 p146.2.2.1.length d155])
      generalize World.setRow _ _ _ = u at S ⊢
      refine op_val (v := .int .i64 p146.2.2.2) rfl rfl hF rfl (run_assign rfl (hF.ev rfl)) ?_; clear hF; intro a hF
      refine wpList_nil ?_
      refine wp_seq ?_
      refine wp_seq ?_
      refine wp_region_lit ?_
      refine op_val (v := .agg #[.slice B147 p146.1.length d149, .slice B150 p146.2.1.length d152, .slice B153 p146.2.2.1.length d155]) rfl rfl hF rfl (run_loadN rfl ag31 (hF.ev rfl) rfl ((S.free 0 rfl).cells 0 #[.slice B147 p146.1.length d149, .slice B150 p146.2.1.length d152, .slice B153 p146.2.2.1.length d155] rfl)) ?_; clear hF; intro a hF
      refine op_val (v := .agg #[.slice B121 p120.1.length d123, .slice B124 p120.2.1.length d126, .slice B127 p120.2.2.1.length d129]) rfl rfl hF rfl (run_loadN rfl ag31 (hF.ev rfl) rfl ((S.free 9 rfl).cells 0 #[.slice B121 p120.1.length d123, .slice B124 p120.2.1.length d126, .slice B127 p120.2.2.1.length d129] rfl)) ?_; clear hF; intro a hF
      obtain ⟨p157, h157, hM⟩ := bind_ex hM
      refine op_call rfl rfl hF rfl (run_call (vs := [.agg #[.slice B147 p146.1.length d149, .slice B150 p146.2.1.length d152, .slice B153 p146.2.2.1.length d155], .agg #[.slice B121 p120.1.length d123, .slice B124 p120.2.1.length d126, .slice B127 p120.2.2.1.length d129]]) rfl rfl co10 ⟨(hF.ev rfl), (hF.ev rfl), trivial⟩) (c_laws_eqWork (x0 := p146.1) (x1 := p146.2.1) (x2 := p146.2.2.1) (x3 := p120.1) (x4 := p120.2.1) (x5 := p120.2.2.1) ⟨(S.rc 1 rfl), rfl⟩ ⟨(S.rc 2 rfl), rfl⟩ ⟨(S.rc 3 rfl), rfl⟩ ⟨(S.rc 10 rfl), rfl⟩ ⟨(S.rc 11 rfl), rfl⟩ ⟨(S.rc 12 rfl), rfl⟩ h157) ?_
      rintro e u ⟨rfl, T⟩
      refine ⟨_, rfl, ?_⟩
      clear hF; intro a hF
      replace S := S.call0 T; clear T
      refine op_val (v := .bool (!p157)) rfl rfl hF rfl (run_not rfl (hF.ev rfl)) ?_; clear hF; intro a hF
      refine op_val (v := .bool (!p157)) rfl rfl hF rfl (run_move rfl (hF.ev rfl)) ?_; clear hF; intro a hF
      refine op_gv (v := .int .i64 p146.2.2.2) rfl rfl hF rfl (yf (gw_yield hF rfl rfl rfl)) (fun hg => (run_move rfl (hF.ev rfl))) ?_; clear hF; intro a hF
      refine op_gv (v := .int .i64 p120.2.2.2) rfl rfl hF rfl (yf (gw_yield hF rfl rfl rfl)) (fun hg => (run_move rfl (hF.ev rfl))) ?_; clear hF; intro a hF
      refine op_gv (v := .bool (p146.2.2.2 != p120.2.2.2)) rfl rfl hF rfl (yf (gw_yield hF rfl rfl rfl)) (fun hg => (run_neq ((hF.ev rfl).trans (gv_t hg)) ((hF.ev rfl).trans (gv_t hg)) rfl)) ?_; clear hF; intro a hF
      refine op_val (v := .bool ((!p157) || (p146.2.2.2 != p120.2.2.2))) rfl rfl hF rfl (run_pick_or rfl (hF.ev rfl) rfl (fun hp => ((hF.ev rfl).trans (gv_t (not_t hp))))) ?_; clear hF; intro a hF
      refine wpList_nil ?_
      cases hc158 : ((!p157) || (p146.2.2.2 != p120.2.2.2))
      · replace hM := bif_f hc158 hM
        refine cond_f hF rfl hc158 ?_
        refine wp_skip ?_
        refine wp_seq ?_
        refine wp_seq ?_
        obtain ⟨p159, h159, hM⟩ := bind_ex hM
        obtain ⟨p169, h169, hM⟩ := bind_ex hM
        refine region_gw (D := [54, 55, 56, 57, 58]) (Lr := [.box g156 31 #[.slice B147 p146.1.length d149, .slice B150 p146.2.1.length d152, .slice B153 p146.2.2.1.length d155], .row 4 1 (.slice B147 p146.1.length d149) p146.1.length (p146.1.flatMap eB), .row 4 1 (.slice B150 p146.2.1.length d152) p146.2.1.length (p146.2.1.flatMap eB), .row 56 2 (.slice B153 p146.2.2.1.length d155) p146.2.2.1.length (p146.2.2.1.flatMap ePermit), .row 35 3 (.slice B143 p142.length d145) p142.length (p142.flatMap eWorkDeed), .box g141 31 #[.slice B132 p131.1.length d134, .slice B135 p131.2.1.length d137, .slice B138 p131.2.2.length d140], .row 4 1 (.slice B132 p131.1.length d134) p131.1.length (p131.1.flatMap eB), .row 4 1 (.slice B135 p131.2.1.length d137) p131.2.1.length (p131.2.1.flatMap eB), .row 56 2 (.slice B138 p131.2.2.length d140) p131.2.2.length (p131.2.2.flatMap ePermit), .box g130 31 #[.slice B121 p120.1.length d123, .slice B124 p120.2.1.length d126, .slice B127 p120.2.2.1.length d129], .row 4 1 (.slice B121 p120.1.length d123) p120.1.length (p120.1.flatMap eB), .row 4 1 (.slice B124 p120.2.1.length d126) p120.2.1.length (p120.2.1.flatMap eB), .row 56 2 (.slice B127 p120.2.2.1.length d129) p120.2.2.1.length (p120.2.2.1.flatMap ePermit), .row 35 3 (.slice B117 p116.length d119) p116.length (p116.flatMap eWorkDeed), .row 4 1 (.slice B107 p106.1.length d109) p106.1.length (p106.1.flatMap eB), .row 4 1 (.slice B110 p106.2.1.length d112) p106.2.1.length (p106.2.1.flatMap eB), .row 56 2 (.slice B113 p106.2.2.length d115) p106.2.2.length (p106.2.2.flatMap ePermit), .box g101 25 #[.slice A0 x0.length c0, .slice A1 x1.length c1, .slice A2 x2.length c2]]) (deps := (fun | 0 => [54] | 1 => [55] | 2 => [56] | 3 => [57] | 4 => [58] | _ => [])) (rd := (fun | 3 => [2] | _ => [])) (zr := (fun _ => []))
          (φ := fun i vs => match i, vs with | 0, [v54] => v54 = .agg #[.slice B132 p131.1.length d134, .slice B135 p131.2.1.length d137, .slice B138 p131.2.2.length d140] | 1, [v55] => v55 = .agg #[.slice A0 x0.length c0, .slice A1 x1.length c1, .slice A2 x2.length c2] | 2, [v56] => v56 = .agg #[.slice (slA (vtup v56 0)) p159.1.length (slC (vtup v56 0)), .slice (slA (vtup v56 1)) p159.2.1.length (slC (vtup v56 1)), .slice (slA (vtup v56 2)) p159.2.2.length (slC (vtup v56 2))] | 3, [v57] => v57 = .bool p169 | 4, [v58] => v58 = .bool (!p169) | _, _ => True)
          (C := fun i vs => match i, vs with | 2, [v56] => [.row 4 1 (.slice (slA (vtup v56 0)) p159.1.length (slC (vtup v56 0))) p159.1.length (p159.1.flatMap eB), .row 4 1 (.slice (slA (vtup v56 1)) p159.2.1.length (slC (vtup v56 1))) p159.2.1.length (p159.2.1.flatMap eB), .row 56 2 (.slice (slA (vtup v56 2)) p159.2.2.length (slC (vtup v56 2))) p159.2.2.length (p159.2.2.flatMap ePermit)] | _, _ => [])
          (κ := (fun _ => none)) (Z := (fun _ => [])) mixed hF (by kernel_rfl) S ?_ ?_
        · refine ⟨?_, ?_, ?_, ?_, ?_, trivial⟩
          · intro a u X hB hu hp hr hz hl S
            replace S : St w u ([] ++ X) := S
            exact .inl ⟨rfl, .agg #[.slice B132 p131.1.length d134, .slice B135 p131.2.1.length d137, .slice B138 p131.2.2.length d140], u, (run_loadN rfl ag31 (hF.evB hB rfl rfl) rfl ((gr_box S hl 5 rfl).cells 0 #[.slice B132 p131.1.length d134, .slice B135 p131.2.1.length d137, .slice B138 p131.2.2.length d140] rfl)), rfl, S⟩
          · intro a u X hB hu hp hr hz hl S
            replace S : St w u ([] ++ X) := S
            exact .inl ⟨rfl, .agg #[.slice A0 x0.length c0, .slice A1 x1.length c1, .slice A2 x2.length c2], u, (run_loadN rfl ag25 (hF.evB hB rfl rfl) rfl ((gr_box S hl 17 rfl).cells 0 #[.slice A0 x0.length c0, .slice A1 x1.length c1, .slice A2 x2.length c2] rfl)), rfl, S⟩
          · intro a u X hB hu hp hr hz hl S
            replace S : St w u ([] ++ X) := S
            have e55 : sl a 55 = .agg #[.slice A0 x0.length c0, .slice A1 x1.length c1, .slice A2 x2.length c2] := hp 1 rfl
            refine .inr (.inr (.inl ⟨rfl, _, _, (run_call (vs := [.agg #[.slice A0 x0.length c0, .slice A1 x1.length c1, .slice A2 x2.length c2]]) rfl rfl co7 ⟨(ev_sl e55), trivial⟩), ?_⟩))
            refine Calls.mono (c_laws_toWork (x0 := x0) (x1 := x1) (x2 := x2) ⟨(S.rc0 h0.rc), rfl⟩ ⟨(S.rc0 h1.rc), rfl⟩ ⟨(S.rc0 h2.rc), rfl⟩ h159) ?_
            rintro e w1 ⟨B160, n161, d162, B163, n164, d165, B166, n167, d168, rfl, rfl, rfl, rfl, T⟩
            exact ⟨_, rfl, rfl, S.call3 T⟩
          · intro a u X hB hu hp hr hz hl S
            replace S : St w u ([] ++ X) := S
            have e54 : sl a 54 = .agg #[.slice B132 p131.1.length d134, .slice B135 p131.2.1.length d137, .slice B138 p131.2.2.length d140] := hp 0 rfl
            have e56 : sl a 56 = .agg #[.slice (slA (vtup (sl a 56) 0)) p159.1.length (slC (vtup (sl a 56) 0)), .slice (slA (vtup (sl a 56) 1)) p159.2.1.length (slC (vtup (sl a 56) 1)), .slice (slA (vtup (sl a 56) 2)) p159.2.2.length (slC (vtup (sl a 56) 2))] := hp 2 rfl
            refine .inr (.inr (.inl ⟨rfl, _, _, (run_call (vs := [.agg #[.slice B132 p131.1.length d134, .slice B135 p131.2.1.length d137, .slice B138 p131.2.2.length d140], .agg #[.slice (slA (vtup (sl a 56) 0)) p159.1.length (slC (vtup (sl a 56) 0)), .slice (slA (vtup (sl a 56) 1)) p159.2.1.length (slC (vtup (sl a 56) 1)), .slice (slA (vtup (sl a 56) 2)) p159.2.2.length (slC (vtup (sl a 56) 2))]]) rfl rfl co10 ⟨(ev_sl e54), (ev_sl e56), trivial⟩), ?_⟩))
            refine Calls.mono (c_laws_eqWork (x0 := p131.1) (x1 := p131.2.1) (x2 := p131.2.2) (x3 := p159.1) (x4 := p159.2.1) (x5 := p159.2.2) ⟨(gr_rc S hl 6 rfl), rfl⟩ ⟨(gr_rc S hl 7 rfl), rfl⟩ ⟨(gr_rc S hl 8 rfl), rfl⟩ ⟨(own_rc (show World.ownsRow _ 0 _ _ _ _ _ from S.mem (List.mem_append_right _ (hr 2 (List.mem_of_getElem? (i := 0) rfl) _ (List.mem_of_getElem? (i := 0) rfl))))), rfl⟩ ⟨(own_rc (show World.ownsRow _ 0 _ _ _ _ _ from S.mem (List.mem_append_right _ (hr 2 (List.mem_of_getElem? (i := 0) rfl) _ (List.mem_of_getElem? (i := 1) rfl))))), rfl⟩ ⟨(own_rc (show World.ownsRow _ 0 _ _ _ _ _ from S.mem (List.mem_append_right _ (hr 2 (List.mem_of_getElem? (i := 0) rfl) _ (List.mem_of_getElem? (i := 2) rfl))))), rfl⟩ h169) ?_
            rintro e w1 ⟨rfl, T⟩
            exact ⟨_, rfl, rfl, S.call0 T⟩
          · intro a u X hB hu hp hr hz hl S
            replace S : St w u ([] ++ X) := S
            have e57 : sl a 57 = .bool p169 := hp 3 rfl
            exact .inl ⟨rfl, .bool (!p169), u, (run_not rfl (ev_sl e57)), rfl, S⟩
        · intro a u hB hp S
          obtain ⟨q0, q1, q2, q3, q4, _⟩ := hp
          have e54 : sl a 54 = .agg #[.slice B132 p131.1.length d134, .slice B135 p131.2.1.length d137, .slice B138 p131.2.2.length d140] := q0
          have e55 : sl a 55 = .agg #[.slice A0 x0.length c0, .slice A1 x1.length c1, .slice A2 x2.length c2] := q1
          have e56 : sl a 56 = .agg #[.slice (slA (vtup (sl a 56) 0)) p159.1.length (slC (vtup (sl a 56) 0)), .slice (slA (vtup (sl a 56) 1)) p159.2.1.length (slC (vtup (sl a 56) 1)), .slice (slA (vtup (sl a 56) 2)) p159.2.2.length (slC (vtup (sl a 56) 2))] := q2
          have e57 : sl a 57 = .bool p169 := q3
          have e58 : sl a 58 = .bool (!p169) := q4
          replace S : St w u [.row 4 1 (.slice (slA (vtup (sl a 56) 0)) p159.1.length (slC (vtup (sl a 56) 0))) p159.1.length (p159.1.flatMap eB), .row 4 1 (.slice (slA (vtup (sl a 56) 1)) p159.2.1.length (slC (vtup (sl a 56) 1))) p159.2.1.length (p159.2.1.flatMap eB), .row 56 2 (.slice (slA (vtup (sl a 56) 2)) p159.2.2.length (slC (vtup (sl a 56) 2))) p159.2.2.length (p159.2.2.flatMap ePermit), .box g156 31 #[.slice B147 p146.1.length d149, .slice B150 p146.2.1.length d152, .slice B153 p146.2.2.1.length d155], .row 4 1 (.slice B147 p146.1.length d149) p146.1.length (p146.1.flatMap eB), .row 4 1 (.slice B150 p146.2.1.length d152) p146.2.1.length (p146.2.1.flatMap eB), .row 56 2 (.slice B153 p146.2.2.1.length d155) p146.2.2.1.length (p146.2.2.1.flatMap ePermit), .row 35 3 (.slice B143 p142.length d145) p142.length (p142.flatMap eWorkDeed), .box g141 31 #[.slice B132 p131.1.length d134, .slice B135 p131.2.1.length d137, .slice B138 p131.2.2.length d140], .row 4 1 (.slice B132 p131.1.length d134) p131.1.length (p131.1.flatMap eB), .row 4 1 (.slice B135 p131.2.1.length d137) p131.2.1.length (p131.2.1.flatMap eB), .row 56 2 (.slice B138 p131.2.2.length d140) p131.2.2.length (p131.2.2.flatMap ePermit), .box g130 31 #[.slice B121 p120.1.length d123, .slice B124 p120.2.1.length d126, .slice B127 p120.2.2.1.length d129], .row 4 1 (.slice B121 p120.1.length d123) p120.1.length (p120.1.flatMap eB), .row 4 1 (.slice B124 p120.2.1.length d126) p120.2.1.length (p120.2.1.flatMap eB), .row 56 2 (.slice B127 p120.2.2.1.length d129) p120.2.2.1.length (p120.2.2.1.flatMap ePermit), .row 35 3 (.slice B117 p116.length d119) p116.length (p116.flatMap eWorkDeed), .row 4 1 (.slice B107 p106.1.length d109) p106.1.length (p106.1.flatMap eB), .row 4 1 (.slice B110 p106.2.1.length d112) p106.2.1.length (p106.2.1.flatMap eB), .row 56 2 (.slice B113 p106.2.2.length d115) p106.2.2.length (p106.2.2.flatMap ePermit), .box g101 25 #[.slice A0 x0.length c0, .slice A1 x1.length c1, .slice A2 x2.length c2]] := S
          clear q0 q1 q2 q3 q4
          generalize slA (vtup (sl a 56) 0) = B170 at *
          generalize slC (vtup (sl a 56) 0) = d171 at *
          generalize slA (vtup (sl a 56) 1) = B172 at *
          generalize slC (vtup (sl a 56) 1) = d173 at *
          generalize slA (vtup (sl a 56) 2) = B174 at *
          generalize slC (vtup (sl a 56) 2) = d175 at *
          have hF := hF.region hB [(54, .agg #[.slice B132 p131.1.length d134, .slice B135 p131.2.1.length d137, .slice B138 p131.2.2.length d140]), (55, .agg #[.slice A0 x0.length c0, .slice A1 x1.length c1, .slice A2 x2.length c2]), (56, .agg #[.slice B170 p159.1.length d171, .slice B172 p159.2.1.length d173, .slice B174 p159.2.2.length d175]), (57, .bool p169), (58, .bool (!p169))] (allSl_mem ⟨e54, e55, e56, e57, e58, trivial⟩) rfl
          clear hB e54 e55 e56 e57 e58
          cases hc176 : (p169)
          · replace hM := bif_f hc176 hM
            refine cond_t hF rfl (not_t hc176) ?_
            refine wp_seq ?_
            refine wp_region_lit ?_
            refine op_val (v := .bool false) rfl rfl hF rfl (run_assign rfl rfl) ?_; clear hF; intro a hF
            refine wpList_nil ?_
            refine wp_ret ?_
            repeat with_reducible (first | refine then_ret ?_ | refine in_ret ?_ | refine in_nrm ?_)
            refine ret1_gw (.inl rfl) hF rfl (res_tmp (hF.ev rfl)) ?_
            obtain rfl := Option.some.inj hM
            exact ⟨rfl, S.sel [] rfl rfl⟩
          · replace hM := bif_t hc176 hM
            refine cond_f hF rfl (not_f hc176) ?_
            refine wp_skip ?_
            refine wp_seq ?_
            refine wp_seq ?_
            refine wp_region_lit ?_
            refine op_val (v := .slice B143 p142.length d145) rfl rfl hF rfl (run_move rfl (hF.ev rfl)) ?_; clear hF; intro a hF
            refine op_val (v := .slice A3 x3.length c3) rfl rfl hF rfl (run_move rfl (hF.ev rfl)) ?_; clear hF; intro a hF
            obtain ⟨p177, h177, hM⟩ := bind_ex hM
            refine op_call rfl rfl hF rfl (run_call (vs := [.slice A3 x3.length c3]) rfl rfl co15 ⟨(hF.ev rfl), trivial⟩) (c_laws_toWorkDeedS (x0 := x3) ⟨(S.rc0 h3.rc), rfl⟩ h177) ?_
            rintro e u ⟨B178, n179, d180, rfl, rfl, T⟩
            refine ⟨_, rfl, ?_⟩
            clear hF; intro a hF
            replace S := S.call1 T; clear T
            obtain ⟨p181, h181, hM⟩ := bind_ex hM
            refine op_call rfl rfl hF rfl (run_call (vs := [.slice B143 p142.length d145, .slice B178 p177.length d180]) rfl rfl co17 ⟨(hF.ev rfl), (hF.ev rfl), trivial⟩) (c_laws_eqWorkDeedS (x0 := p142) (x1 := p177) ⟨(S.rc 8 rfl), rfl⟩ ⟨(S.rc 0 rfl), rfl⟩ h181) ?_
            rintro e u ⟨rfl, T⟩
            refine ⟨_, rfl, ?_⟩
            clear hF; intro a hF
            replace S := S.call0 T; clear T
            refine op_val (v := .bool (!p181)) rfl rfl hF rfl (run_not rfl (hF.ev rfl)) ?_; clear hF; intro a hF
            refine wpList_nil ?_
            cases hc182 : (p181)
            · replace hM := bif_f hc182 hM
              refine cond_t hF rfl (not_t hc182) ?_
              refine wp_seq ?_
              refine wp_region_lit ?_
              refine op_val (v := .bool false) rfl rfl hF rfl (run_assign rfl rfl) ?_; clear hF; intro a hF
              refine wpList_nil ?_
              refine wp_ret ?_
              repeat with_reducible (first | refine then_ret ?_ | refine in_ret ?_ | refine in_nrm ?_)
              refine ret1_gw (.inl rfl) hF rfl (res_tmp (hF.ev rfl)) ?_
              obtain rfl := Option.some.inj hM
              exact ⟨rfl, S.sel [] rfl rfl⟩
            · replace hM := bif_t hc182 hM
              refine cond_f hF rfl (not_f hc182) ?_
              refine wp_skip ?_
              refine wp_seq ?_
              refine wp_region_lit ?_
              refine op_val (v := .int .i64 1) rfl rfl hF rfl (run_assign rfl rfl) ?_; clear hF; intro a hF
              refine wpList_nil ?_
              refine wp_seq ?_
              refine wp_region_lit ?_
              refine op_val (v := .agg #[.slice B132 p131.1.length d134, .slice B135 p131.2.1.length d137, .slice B138 p131.2.2.length d140]) rfl rfl hF rfl (run_loadN rfl ag31 (hF.ev rfl) rfl ((S.free 9 rfl).cells 0 #[.slice B132 p131.1.length d134, .slice B135 p131.2.1.length d137, .slice B138 p131.2.2.length d140] rfl)) ?_; clear hF; intro a hF
              refine op_val (v := .int .i64 1) rfl rfl hF rfl (run_move rfl (hF.ev rfl)) ?_; clear hF; intro a hF
              obtain ⟨p183, h183, hM⟩ := bind_ex hM
              refine op_call rfl rfl hF rfl (run_call (vs := [.agg #[.slice B132 p131.1.length d134, .slice B135 p131.2.1.length d137, .slice B138 p131.2.2.length d140], .int .i64 1]) rfl rfl co11 ⟨(hF.ev rfl), (hF.ev rfl), trivial⟩) (c_laws_markWork (x0 := p131.1) (x1 := p131.2.1) (x2 := p131.2.2) (x3 := 1) rfl rfl rfl (show St w _ [.row 4 1 (.slice B132 p131.1.length d134) p131.1.length (p131.1.flatMap eB), .row 4 1 (.slice B135 p131.2.1.length d137) p131.2.1.length (p131.2.1.flatMap eB), .row 56 2 (.slice B138 p131.2.2.length d140) p131.2.2.length (p131.2.2.flatMap ePermit), .row 35 3 (.slice B178 p177.length d180) p177.length (p177.flatMap eWorkDeed), .row 4 1 (.slice B170 p159.1.length d171) p159.1.length (p159.1.flatMap eB), .row 4 1 (.slice B172 p159.2.1.length d173) p159.2.1.length (p159.2.1.flatMap eB), .row 56 2 (.slice B174 p159.2.2.length d175) p159.2.2.length (p159.2.2.flatMap ePermit), .box g156 31 #[.slice B147 p146.1.length d149, .slice B150 p146.2.1.length d152, .slice B153 p146.2.2.1.length d155], .row 4 1 (.slice B147 p146.1.length d149) p146.1.length (p146.1.flatMap eB), .row 4 1 (.slice B150 p146.2.1.length d152) p146.2.1.length (p146.2.1.flatMap eB), .row 56 2 (.slice B153 p146.2.2.1.length d155) p146.2.2.1.length (p146.2.2.1.flatMap ePermit), .row 35 3 (.slice B143 p142.length d145) p142.length (p142.flatMap eWorkDeed), .box g141 31 #[.slice B132 p131.1.length d134, .slice B135 p131.2.1.length d137, .slice B138 p131.2.2.length d140], .box g130 31 #[.slice B121 p120.1.length d123, .slice B124 p120.2.1.length d126, .slice B127 p120.2.2.1.length d129], .row 4 1 (.slice B121 p120.1.length d123) p120.1.length (p120.1.flatMap eB), .row 4 1 (.slice B124 p120.2.1.length d126) p120.2.1.length (p120.2.1.flatMap eB), .row 56 2 (.slice B127 p120.2.2.1.length d129) p120.2.2.1.length (p120.2.2.1.flatMap ePermit), .row 35 3 (.slice B117 p116.length d119) p116.length (p116.flatMap eWorkDeed), .row 4 1 (.slice B107 p106.1.length d109) p106.1.length (p106.1.flatMap eB), .row 4 1 (.slice B110 p106.2.1.length d112) p106.2.1.length (p106.2.1.flatMap eB), .row 56 2 (.slice B113 p106.2.2.length d115) p106.2.2.length (p106.2.2.flatMap ePermit), .box g101 25 #[.slice A0 x0.length c0, .slice A1 x1.length c1, .slice A2 x2.length c2]] from S.sel [10, 11, 12, 0, 1, 2, 3, 4, 5, 6, 7, 8, 9, 13, 14, 15, 16, 17, 18, 19, 20, 21] rfl rfl) h183) ?_
              rintro e u ⟨rfl, hn184, hn185, hn186, T⟩
              refine ⟨_, rfl, ?_⟩
              clear hF; intro a hF
              clear S; have S := T; clear T
              refine op_val (v := .int .i64 p183.1) rfl rfl hF rfl (run_assign rfl (hF.ev rfl)) ?_; clear hF; intro a hF
              refine wpList_nil ?_
              refine wp_seq ?_
              refine wp_region_lit ?_
              refine op_val (v := .slice B143 p142.length d145) rfl rfl hF rfl (run_move rfl (hF.ev rfl)) ?_; clear hF; intro a hF
              refine op_val (v := .int .i64 p183.1) rfl rfl hF rfl (run_move rfl (hF.ev rfl)) ?_; clear hF; intro a hF
              obtain ⟨p187, h187, hM⟩ := bind_ex hM
              refine op_call rfl rfl hF rfl (run_call (vs := [.slice B143 p142.length d145, .int .i64 p183.1]) rfl rfl co18 ⟨(hF.ev rfl), (hF.ev rfl), trivial⟩) (c_laws_markWorkDeedS (x0 := p142) (x1 := p183.1) rfl (show St w _ [.row 35 3 (.slice B143 p142.length d145) p142.length (p142.flatMap eWorkDeed), .row 4 1 (.slice B132 p131.1.length d134) p131.1.length (p183.2.1.flatMap eB), .row 4 1 (.slice B135 p131.2.1.length d137) p131.2.1.length (p183.2.2.1.flatMap eB), .row 56 2 (.slice B138 p131.2.2.length d140) p131.2.2.length (p183.2.2.2.flatMap ePermit), .row 35 3 (.slice B178 p177.length d180) p177.length (p177.flatMap eWorkDeed), .row 4 1 (.slice B170 p159.1.length d171) p159.1.length (p159.1.flatMap eB), .row 4 1 (.slice B172 p159.2.1.length d173) p159.2.1.length (p159.2.1.flatMap eB), .row 56 2 (.slice B174 p159.2.2.length d175) p159.2.2.length (p159.2.2.flatMap ePermit), .box g156 31 #[.slice B147 p146.1.length d149, .slice B150 p146.2.1.length d152, .slice B153 p146.2.2.1.length d155], .row 4 1 (.slice B147 p146.1.length d149) p146.1.length (p146.1.flatMap eB), .row 4 1 (.slice B150 p146.2.1.length d152) p146.2.1.length (p146.2.1.flatMap eB), .row 56 2 (.slice B153 p146.2.2.1.length d155) p146.2.2.1.length (p146.2.2.1.flatMap ePermit), .box g141 31 #[.slice B132 p131.1.length d134, .slice B135 p131.2.1.length d137, .slice B138 p131.2.2.length d140], .box g130 31 #[.slice B121 p120.1.length d123, .slice B124 p120.2.1.length d126, .slice B127 p120.2.2.1.length d129], .row 4 1 (.slice B121 p120.1.length d123) p120.1.length (p120.1.flatMap eB), .row 4 1 (.slice B124 p120.2.1.length d126) p120.2.1.length (p120.2.1.flatMap eB), .row 56 2 (.slice B127 p120.2.2.1.length d129) p120.2.2.1.length (p120.2.2.1.flatMap ePermit), .row 35 3 (.slice B117 p116.length d119) p116.length (p116.flatMap eWorkDeed), .row 4 1 (.slice B107 p106.1.length d109) p106.1.length (p106.1.flatMap eB), .row 4 1 (.slice B110 p106.2.1.length d112) p106.2.1.length (p106.2.1.flatMap eB), .row 56 2 (.slice B113 p106.2.2.length d115) p106.2.2.length (p106.2.2.flatMap ePermit), .box g101 25 #[.slice A0 x0.length c0, .slice A1 x1.length c1, .slice A2 x2.length c2]] from S.sel [11, 0, 1, 2, 3, 4, 5, 6, 7, 8, 9, 10, 12, 13, 14, 15, 16, 17, 18, 19, 20, 21] rfl rfl) h187) ?_
              rintro e u ⟨rfl, hn188, T⟩
              refine ⟨_, rfl, ?_⟩
              clear hF; intro a hF
              clear S; have S := T; clear T
              refine op_val (v := .int .i64 p187.1) rfl rfl hF rfl (run_assign rfl (hF.ev rfl)) ?_; clear hF; intro a hF
              refine wpList_nil ?_
              refine wp_seq ?_
              refine wp_seq ?_
              refine wp_region_lit ?_
              refine op_val (v := .int .i64 p187.1) rfl rfl hF rfl (run_move rfl (hF.ev rfl)) ?_; clear hF; intro a hF
              refine op_val (v := .bool (ltB p187.1 0)) rfl rfl hF rfl (run_lss (hF.ev rfl) rfl rfl) ?_; clear hF; intro a hF
              refine op_val (v := .bool (ltB p187.1 0)) rfl rfl hF rfl (run_move rfl (hF.ev rfl)) ?_; clear hF; intro a hF
              refine op_gv (v := .agg #[.slice B147 p146.1.length d149, .slice B150 p146.2.1.length d152, .slice B153 p146.2.2.1.length d155]) rfl rfl hF rfl (yf (gw_yield hF rfl rfl rfl)) (fun hg => (run_loadN rfl ag31 (hF.ev rfl) rfl ((S.free 8 rfl).cells 0 #[.slice B147 p146.1.length d149, .slice B150 p146.2.1.length d152, .slice B153 p146.2.2.1.length d155] rfl))) ?_; clear hF; intro a hF
              refine op_gv (v := .agg #[.slice B121 p120.1.length d123, .slice B124 p120.2.1.length d126, .slice B127 p120.2.2.1.length d129]) rfl rfl hF rfl (yf (gw_yield hF rfl rfl rfl)) (fun hg => (run_loadN rfl ag31 (hF.ev rfl) rfl ((S.free 13 rfl).cells 0 #[.slice B121 p120.1.length d123, .slice B124 p120.2.1.length d126, .slice B127 p120.2.2.1.length d129] rfl))) ?_; clear hF; intro a hF
              obtain ⟨p189, h189, hM⟩ := bind_ex hM
              refine op_gcall (v := .bool p189) rfl rfl hF rfl S (yf (gw_yield hF rfl rfl rfl)) (fun hg => (run_call (vs := [.agg #[.slice B147 p146.1.length d149, .slice B150 p146.2.1.length d152, .slice B153 p146.2.2.1.length d155], .agg #[.slice B121 p120.1.length d123, .slice B124 p120.2.1.length d126, .slice B127 p120.2.2.1.length d129]]) rfl rfl co10 ⟨((hF.ev rfl).trans (gv_t hg)), ((hF.ev rfl).trans (gv_t hg)), trivial⟩)) (fun hg => c_laws_eqWork (x0 := p146.1) (x1 := p146.2.1) (x2 := p146.2.2.1) (x3 := p120.1) (x4 := p120.2.1) (x5 := p120.2.2.1) ⟨(S.rc 9 rfl), rfl⟩ ⟨(S.rc 10 rfl), rfl⟩ ⟨(S.rc 11 rfl), rfl⟩ ⟨(S.rc 14 rfl), rfl⟩ ⟨(S.rc 15 rfl), rfl⟩ ⟨(S.rc 16 rfl), rfl⟩ (gb_t h189 hg)) ?_; clear hF S; intro a u hF S
              refine op_gv (v := .bool (!p189)) rfl rfl hF rfl (yf (gw_yield hF rfl rfl rfl)) (fun hg => (run_not rfl ((hF.ev rfl).trans (gv_t hg)))) ?_; clear hF; intro a hF
              refine op_val (v := .bool ((ltB p187.1 0) || (!p189))) rfl rfl hF rfl (run_pick_or rfl (hF.ev rfl) rfl (fun hp => ((hF.ev rfl).trans (gv_t (not_t hp))))) ?_; clear hF; intro a hF
              refine op_val (v := .bool ((ltB p187.1 0) || (!p189))) rfl rfl hF rfl (run_move rfl (hF.ev rfl)) ?_; clear hF; intro a hF
              refine op_gv (v := .int .i64 p146.2.2.2) rfl rfl hF rfl (yf (gw_yield hF rfl rfl rfl)) (fun hg => (run_move rfl (hF.ev rfl))) ?_; clear hF; intro a hF
              refine op_gv (v := .int .i64 p120.2.2.2) rfl rfl hF rfl (yf (gw_yield hF rfl rfl rfl)) (fun hg => (run_move rfl (hF.ev rfl))) ?_; clear hF; intro a hF
              refine op_gv (v := .bool (p146.2.2.2 != p120.2.2.2)) rfl rfl hF rfl (yf (gw_yield hF rfl rfl rfl)) (fun hg => (run_neq ((hF.ev rfl).trans (gv_t hg)) ((hF.ev rfl).trans (gv_t hg)) rfl)) ?_; clear hF; intro a hF
              refine op_val (v := .bool (((ltB p187.1 0) || (!p189)) || (p146.2.2.2 != p120.2.2.2))) rfl rfl hF rfl (run_pick_or rfl (hF.ev rfl) rfl (fun hp => ((hF.ev rfl).trans (gv_t (not_t hp))))) ?_; clear hF; intro a hF
              refine wpList_nil ?_
              cases hc190 : (((ltB p187.1 0) || (!p189)) || (p146.2.2.2 != p120.2.2.2))
              · replace hM := bif_f hc190 hM
                refine cond_f hF rfl hc190 ?_
                refine wp_skip ?_
                refine wp_seq ?_
                refine wp_region_lit ?_
                refine op_val (v := .int .i64 1) rfl rfl hF rfl (run_assign rfl rfl) ?_; clear hF; intro a hF
                refine wpList_nil ?_
                refine wp_seq ?_
                refine wp_region_lit ?_
                refine op_val (v := .agg #[.slice B147 p146.1.length d149, .slice B150 p146.2.1.length d152, .slice B153 p146.2.2.1.length d155]) rfl rfl hF rfl (run_loadN rfl ag31 (hF.ev rfl) rfl ((S.free 8 rfl).cells 0 #[.slice B147 p146.1.length d149, .slice B150 p146.2.1.length d152, .slice B153 p146.2.2.1.length d155] rfl)) ?_; clear hF; intro a hF
                refine op_val (v := .int .i64 1) rfl rfl hF rfl (run_move rfl (hF.ev rfl)) ?_; clear hF; intro a hF
                obtain ⟨p191, h191, hM⟩ := bind_ex hM
                refine op_call rfl rfl hF rfl (run_call (vs := [.agg #[.slice B147 p146.1.length d149, .slice B150 p146.2.1.length d152, .slice B153 p146.2.2.1.length d155], .int .i64 1]) rfl rfl co11 ⟨(hF.ev rfl), (hF.ev rfl), trivial⟩) (c_laws_markWork (x0 := p146.1) (x1 := p146.2.1) (x2 := p146.2.2.1) (x3 := 1) rfl rfl rfl (show St w _ [.row 4 1 (.slice B147 p146.1.length d149) p146.1.length (p146.1.flatMap eB), .row 4 1 (.slice B150 p146.2.1.length d152) p146.2.1.length (p146.2.1.flatMap eB), .row 56 2 (.slice B153 p146.2.2.1.length d155) p146.2.2.1.length (p146.2.2.1.flatMap ePermit), .row 35 3 (.slice B143 p142.length d145) p142.length (p187.2.flatMap eWorkDeed), .row 4 1 (.slice B132 p131.1.length d134) p131.1.length (p183.2.1.flatMap eB), .row 4 1 (.slice B135 p131.2.1.length d137) p131.2.1.length (p183.2.2.1.flatMap eB), .row 56 2 (.slice B138 p131.2.2.length d140) p131.2.2.length (p183.2.2.2.flatMap ePermit), .row 35 3 (.slice B178 p177.length d180) p177.length (p177.flatMap eWorkDeed), .row 4 1 (.slice B170 p159.1.length d171) p159.1.length (p159.1.flatMap eB), .row 4 1 (.slice B172 p159.2.1.length d173) p159.2.1.length (p159.2.1.flatMap eB), .row 56 2 (.slice B174 p159.2.2.length d175) p159.2.2.length (p159.2.2.flatMap ePermit), .box g156 31 #[.slice B147 p146.1.length d149, .slice B150 p146.2.1.length d152, .slice B153 p146.2.2.1.length d155], .box g141 31 #[.slice B132 p131.1.length d134, .slice B135 p131.2.1.length d137, .slice B138 p131.2.2.length d140], .box g130 31 #[.slice B121 p120.1.length d123, .slice B124 p120.2.1.length d126, .slice B127 p120.2.2.1.length d129], .row 4 1 (.slice B121 p120.1.length d123) p120.1.length (p120.1.flatMap eB), .row 4 1 (.slice B124 p120.2.1.length d126) p120.2.1.length (p120.2.1.flatMap eB), .row 56 2 (.slice B127 p120.2.2.1.length d129) p120.2.2.1.length (p120.2.2.1.flatMap ePermit), .row 35 3 (.slice B117 p116.length d119) p116.length (p116.flatMap eWorkDeed), .row 4 1 (.slice B107 p106.1.length d109) p106.1.length (p106.1.flatMap eB), .row 4 1 (.slice B110 p106.2.1.length d112) p106.2.1.length (p106.2.1.flatMap eB), .row 56 2 (.slice B113 p106.2.2.length d115) p106.2.2.length (p106.2.2.flatMap ePermit), .box g101 25 #[.slice A0 x0.length c0, .slice A1 x1.length c1, .slice A2 x2.length c2]] from S.sel [9, 10, 11, 0, 1, 2, 3, 4, 5, 6, 7, 8, 12, 13, 14, 15, 16, 17, 18, 19, 20, 21] rfl rfl) h191) ?_
                rintro e u ⟨rfl, hn192, hn193, hn194, T⟩
                refine ⟨_, rfl, ?_⟩
                clear hF; intro a hF
                clear S; have S := T; clear T
                refine op_val (v := .int .i64 p191.1) rfl rfl hF rfl (run_assign rfl (hF.ev rfl)) ?_; clear hF; intro a hF
                refine wpList_nil ?_
                refine wp_seq ?_
                refine wp_region_lit ?_
                refine op_val (v := .int .i64 1) rfl rfl hF rfl (run_assign rfl rfl) ?_; clear hF; intro a hF
                refine wpList_nil ?_
                refine wp_seq ?_
                refine wp_region_lit ?_
                refine op_val (v := .agg #[.slice B147 p146.1.length d149, .slice B150 p146.2.1.length d152, .slice B153 p146.2.2.1.length d155]) rfl rfl hF rfl (run_loadN rfl ag31 (hF.ev rfl) rfl ((S.free 11 rfl).cells 0 #[.slice B147 p146.1.length d149, .slice B150 p146.2.1.length d152, .slice B153 p146.2.2.1.length d155] rfl)) ?_; clear hF; intro a hF
                refine op_val (v := .int .i64 1) rfl rfl hF rfl (run_move rfl (hF.ev rfl)) ?_; clear hF; intro a hF
                obtain ⟨p195, h195, hM⟩ := bind_ex hM
                refine op_call rfl rfl hF rfl (run_call (vs := [.agg #[.slice B147 p146.1.length d149, .slice B150 p146.2.1.length d152, .slice B153 p146.2.2.1.length d155], .int .i64 1]) rfl rfl co12 ⟨(hF.ev rfl), (hF.ev rfl), trivial⟩) (c_laws_heldWork (x0 := p191.2.1) (x1 := p191.2.2.1) (x2 := p191.2.2.2) (x3 := 1) ⟨(S.rc 0 rfl), hn192⟩ ⟨(S.rc 1 rfl), hn193⟩ ⟨(S.rc 2 rfl), hn194⟩ h195) ?_
                rintro e u ⟨rfl, T⟩
                refine ⟨_, rfl, ?_⟩
                clear hF; intro a hF
                replace S := S.call0 T; clear T
                refine op_val (v := .int .i64 p195) rfl rfl hF rfl (run_assign rfl (hF.ev rfl)) ?_; clear hF; intro a hF
                refine wpList_nil ?_
                refine wp_seq ?_
                refine wp_seq ?_
                refine wp_region_lit ?_
                refine op_val (v := .int .i64 p195) rfl rfl hF rfl (run_move rfl (hF.ev rfl)) ?_; clear hF; intro a hF
                refine op_val (v := .bool (ltB p195 0)) rfl rfl hF rfl (run_lss (hF.ev rfl) rfl rfl) ?_; clear hF; intro a hF
                refine wpList_nil ?_
                cases hc196 : (ltB p195 0)
                · replace hM := bif_f hc196 hM
                  refine cond_f hF rfl hc196 ?_
                  refine wp_skip ?_
                  refine wp_seq ?_
                  refine wp_seq ?_
                  refine wp_region_lit ?_
                  refine op_val (v := .int .i64 p195) rfl rfl hF rfl (run_move rfl (hF.ev rfl)) ?_; clear hF; intro a hF
                  refine op_val (v := .int .i64 p191.1) rfl rfl hF rfl (run_move rfl (hF.ev rfl)) ?_; clear hF; intro a hF
                  refine op_val (v := .bool (p195 != p191.1)) rfl rfl hF rfl (run_neq (hF.ev rfl) (hF.ev rfl) rfl) ?_; clear hF; intro a hF
                  refine wpList_nil ?_
                  cases hc197 : (p195 != p191.1)
                  · replace hM := bif_f hc197 hM
                    refine cond_f hF rfl hc197 ?_
                    refine wp_skip ?_
                    refine wp_seq ?_
                    refine wp_region_lit ?_
                    refine op_val (v := .agg #[.slice A0 x0.length c0, .slice A1 x1.length c1, .slice A2 x2.length c2]) rfl rfl hF rfl (run_loadN rfl ag25 (hF.ev rfl) rfl ((S.free 21 rfl).cells 0 #[.slice A0 x0.length c0, .slice A1 x1.length c1, .slice A2 x2.length c2] rfl)) ?_; clear hF; intro a hF
                    obtain ⟨p198, h198, hM⟩ := bind_ex hM
                    refine op_call rfl rfl hF rfl (run_call (vs := [.agg #[.slice A0 x0.length c0, .slice A1 x1.length c1, .slice A2 x2.length c2]]) rfl rfl co7 ⟨(hF.ev rfl), trivial⟩) (c_laws_toWork (x0 := x0) (x1 := x1) (x2 := x2) ⟨(S.rc0 h0.rc), rfl⟩ ⟨(S.rc0 h1.rc), rfl⟩ ⟨(S.rc0 h2.rc), rfl⟩ h198) ?_
                    rintro e u ⟨B199, n200, d201, B202, n203, d204, B205, n206, d207, rfl, rfl, rfl, rfl, T⟩
                    refine ⟨_, rfl, ?_⟩
                    clear hF; intro a hF
                    replace S := S.call3 T; clear T
                    refine op_val (v := .slice A3 x3.length c3) rfl rfl hF rfl (run_move rfl (hF.ev rfl)) ?_; clear hF; intro a hF
                    obtain ⟨p208, h208, hM⟩ := bind_ex hM
                    refine op_call rfl rfl hF rfl (run_call (vs := [.slice A3 x3.length c3]) rfl rfl co15 ⟨(hF.ev rfl), trivial⟩) (c_laws_toWorkDeedS (x0 := x3) ⟨(S.rc0 h3.rc), rfl⟩ h208) ?_
                    rintro e u ⟨B209, n210, d211, rfl, rfl, T⟩
                    refine ⟨_, rfl, ?_⟩
                    clear hF; intro a hF
                    replace S := S.call1 T; clear T
                    obtain ⟨p212, h212, hM⟩ := bind_ex hM
                    refine op_call rfl rfl hF rfl (run_call (vs := [.agg #[.slice B199 p198.1.length d201, .slice B202 p198.2.1.length d204, .slice B205 p198.2.2.length d207], .slice B209 p208.length d211]) rfl rfl co16 ⟨(hF.ev rfl), (hF.ev rfl), trivial⟩) (c_impl_WorkRun (x0 := p198.1) (x1 := p198.2.1) (x2 := p198.2.2) (x3 := p208) ⟨(S.rc 1 rfl), rfl⟩ ⟨(S.rc 2 rfl), rfl⟩ ⟨(S.rc 3 rfl), rfl⟩ ⟨(S.rc 0 rfl), rfl⟩ h212) ?_
                    rintro e u ⟨B213, n214, d215, B216, n217, d218, B219, n220, d221, rfl, rfl, rfl, rfl, T⟩
                    refine ⟨_, rfl, ?_⟩
                    clear hF; intro a hF
                    replace S := S.call3 T; clear T
                    refine op_val (v := .tuple #[.agg #[.slice B213 p212.1.length d215, .slice B216 p212.2.1.length d218, .slice B219 p212.2.2.1.length d221], .int .i64 p212.2.2.2]) rfl rfl hF rfl (run_move rfl (hF.ev rfl)) ?_; clear hF; intro a hF
                    refine op_val (v := .agg #[.slice B213 p212.1.length d215, .slice B216 p212.2.1.length d218, .slice B219 p212.2.2.1.length d221]) rfl rfl hF rfl (run_extract rfl (hF.ev rfl) rfl) ?_; clear hF; intro a hF
                    refine op_val (v := .int .i64 p212.2.2.2) rfl rfl hF rfl (run_extract rfl (hF.ev rfl) rfl) ?_; clear hF; intro a hF
                    refine op_new (cs := #[.slice none 0 0, .slice none 0 0, .slice none 0 0]) rfl rfl hF rfl S (run_allocZ rfl zr31) ?_; clear hF S; intro a g222 u hF S
                    refine op_do rfl rfl (run_store (cs' := #[.slice B213 p212.1.length d215, .slice B216 p212.2.1.length d218, .slice B219 p212.2.2.1.length d221]) rfl sz31 (hF.ev rfl) (hF.ev rfl) rfl rfl rfl (S.free 0 rfl) rfl rfl) ?_; replace S := S.put 0 rfl (#[.slice B213 p212.1.length d215, .slice B216 p212.2.1.length d218, .slice B219 p212.2.2.1.length d221])
                    generalize World.setRow _ _ _ = u at S ⊢
                    refine op_val (v := .int .i64 p212.2.2.2) rfl rfl hF rfl (run_assign rfl (hF.ev rfl)) ?_; clear hF; intro a hF
                    refine wpList_nil ?_
                    refine wp_seq ?_
                    refine wp_seq ?_
                    refine wp_region_lit ?_
                    refine op_val (v := .agg #[.slice B213 p212.1.length d215, .slice B216 p212.2.1.length d218, .slice B219 p212.2.2.1.length d221]) rfl rfl hF rfl (run_loadN rfl ag31 (hF.ev rfl) rfl ((S.free 0 rfl).cells 0 #[.slice B213 p212.1.length d215, .slice B216 p212.2.1.length d218, .slice B219 p212.2.2.1.length d221] rfl)) ?_; clear hF; intro a hF
                    refine op_val (v := .agg #[.slice B121 p120.1.length d123, .slice B124 p120.2.1.length d126, .slice B127 p120.2.2.1.length d129]) rfl rfl hF rfl (run_loadN rfl ag31 (hF.ev rfl) rfl ((S.free 21 rfl).cells 0 #[.slice B121 p120.1.length d123, .slice B124 p120.2.1.length d126, .slice B127 p120.2.2.1.length d129] rfl)) ?_; clear hF; intro a hF
                    obtain ⟨p223, h223, hM⟩ := bind_ex hM
                    refine op_call rfl rfl hF rfl (run_call (vs := [.agg #[.slice B213 p212.1.length d215, .slice B216 p212.2.1.length d218, .slice B219 p212.2.2.1.length d221], .agg #[.slice B121 p120.1.length d123, .slice B124 p120.2.1.length d126, .slice B127 p120.2.2.1.length d129]]) rfl rfl co10 ⟨(hF.ev rfl), (hF.ev rfl), trivial⟩) (c_laws_eqWork (x0 := p212.1) (x1 := p212.2.1) (x2 := p212.2.2.1) (x3 := p120.1) (x4 := p120.2.1) (x5 := p120.2.2.1) ⟨(S.rc 1 rfl), rfl⟩ ⟨(S.rc 2 rfl), rfl⟩ ⟨(S.rc 3 rfl), rfl⟩ ⟨(S.rc 22 rfl), rfl⟩ ⟨(S.rc 23 rfl), rfl⟩ ⟨(S.rc 24 rfl), rfl⟩ h223) ?_
                    rintro e u ⟨rfl, T⟩
                    refine ⟨_, rfl, ?_⟩
                    clear hF; intro a hF
                    replace S := S.call0 T; clear T
                    refine op_val (v := .bool (!p223)) rfl rfl hF rfl (run_not rfl (hF.ev rfl)) ?_; clear hF; intro a hF
                    refine op_val (v := .bool (!p223)) rfl rfl hF rfl (run_move rfl (hF.ev rfl)) ?_; clear hF; intro a hF
                    refine op_gv (v := .int .i64 p212.2.2.2) rfl rfl hF rfl (yf (gw_yield hF rfl rfl rfl)) (fun hg => (run_move rfl (hF.ev rfl))) ?_; clear hF; intro a hF
                    refine op_gv (v := .int .i64 p120.2.2.2) rfl rfl hF rfl (yf (gw_yield hF rfl rfl rfl)) (fun hg => (run_move rfl (hF.ev rfl))) ?_; clear hF; intro a hF
                    refine op_gv (v := .bool (p212.2.2.2 != p120.2.2.2)) rfl rfl hF rfl (yf (gw_yield hF rfl rfl rfl)) (fun hg => (run_neq ((hF.ev rfl).trans (gv_t hg)) ((hF.ev rfl).trans (gv_t hg)) rfl)) ?_; clear hF; intro a hF
                    refine op_val (v := .bool ((!p223) || (p212.2.2.2 != p120.2.2.2))) rfl rfl hF rfl (run_pick_or rfl (hF.ev rfl) rfl (fun hp => ((hF.ev rfl).trans (gv_t (not_t hp))))) ?_; clear hF; intro a hF
                    refine wpList_nil ?_
                    cases hc224 : ((!p223) || (p212.2.2.2 != p120.2.2.2))
                    · replace hM := bif_f hc224 hM
                      refine cond_f hF rfl hc224 ?_
                      refine wp_skip ?_
                      refine wp_seq ?_
                      refine wp_region_lit ?_
                      refine op_val (v := .int .i64 1) rfl rfl hF rfl (run_assign rfl rfl) ?_; clear hF; intro a hF
                      refine wpList_nil ?_
                      refine wp_seq ?_
                      refine wp_region_lit ?_
                      refine op_val (v := .agg #[.slice B147 p146.1.length d149, .slice B150 p146.2.1.length d152, .slice B153 p146.2.2.1.length d155]) rfl rfl hF rfl (run_loadN rfl ag31 (hF.ev rfl) rfl ((S.free 19 rfl).cells 0 #[.slice B147 p146.1.length d149, .slice B150 p146.2.1.length d152, .slice B153 p146.2.2.1.length d155] rfl)) ?_; clear hF; intro a hF
                      refine op_val (v := .int .i64 1) rfl rfl hF rfl (run_move rfl (hF.ev rfl)) ?_; clear hF; intro a hF
                      obtain ⟨p225, h225, hM⟩ := bind_ex hM
                      refine op_call rfl rfl hF rfl (run_call (vs := [.agg #[.slice B147 p146.1.length d149, .slice B150 p146.2.1.length d152, .slice B153 p146.2.2.1.length d155], .int .i64 1]) rfl rfl co12 ⟨(hF.ev rfl), (hF.ev rfl), trivial⟩) (c_laws_heldWork (x0 := p191.2.1) (x1 := p191.2.2.1) (x2 := p191.2.2.2) (x3 := 1) ⟨(S.rc 8 rfl), hn192⟩ ⟨(S.rc 9 rfl), hn193⟩ ⟨(S.rc 10 rfl), hn194⟩ h225) ?_
                      rintro e u ⟨rfl, T⟩
                      refine ⟨_, rfl, ?_⟩
                      clear hF; intro a hF
                      replace S := S.call0 T; clear T
                      refine op_val (v := .int .i64 p225) rfl rfl hF rfl (run_assign rfl (hF.ev rfl)) ?_; clear hF; intro a hF
                      refine wpList_nil ?_
                      refine wp_seq ?_
                      refine wp_seq ?_
                      refine wp_region_lit ?_
                      refine op_val (v := .int .i64 p225) rfl rfl hF rfl (run_move rfl (hF.ev rfl)) ?_; clear hF; intro a hF
                      refine op_val (v := .bool (ltB p225 0)) rfl rfl hF rfl (run_lss (hF.ev rfl) rfl rfl) ?_; clear hF; intro a hF
                      refine wpList_nil ?_
                      cases hc226 : (ltB p225 0)
                      · replace hM := bif_f hc226 hM
                        refine cond_f hF rfl hc226 ?_
                        refine wp_skip ?_
                        refine wp_seq ?_
                        refine wp_seq ?_
                        refine wp_region_lit ?_
                        refine op_val (v := .int .i64 p225) rfl rfl hF rfl (run_move rfl (hF.ev rfl)) ?_; clear hF; intro a hF
                        refine op_val (v := .int .i64 p191.1) rfl rfl hF rfl (run_move rfl (hF.ev rfl)) ?_; clear hF; intro a hF
                        refine op_val (v := .bool (p225 != p191.1)) rfl rfl hF rfl (run_neq (hF.ev rfl) (hF.ev rfl) rfl) ?_; clear hF; intro a hF
                        refine wpList_nil ?_
                        cases hc227 : (p225 != p191.1)
                        · replace hM := bif_f hc227 hM
                          refine cond_f hF rfl hc227 ?_
                          refine wp_skip ?_
                          refine wp_seq ?_
                          refine wp_region_lit ?_
                          refine op_val (v := .bool true) rfl rfl hF rfl (run_assign rfl rfl) ?_; clear hF; intro a hF
                          refine wpList_nil ?_
                          refine wp_ret ?_
                          repeat with_reducible (first | refine then_ret ?_ | refine in_ret ?_ | refine in_nrm ?_)
                          refine ret1_gw (.inl rfl) hF rfl (res_tmp (hF.ev rfl)) ?_
                          obtain rfl := Option.some.inj hM
                          exact ⟨rfl, S.sel [] rfl rfl⟩
                        · replace hM := bif_t hc227 hM
                          refine cond_t hF rfl hc227 ?_
                          refine wp_seq ?_
                          refine wp_region_lit ?_
                          refine op_val (v := .bool false) rfl rfl hF rfl (run_assign rfl rfl) ?_; clear hF; intro a hF
                          refine wpList_nil ?_
                          refine wp_ret ?_
                          repeat with_reducible (first | refine then_ret ?_ | refine in_ret ?_ | refine in_nrm ?_)
                          refine ret1_gw (.inl rfl) hF rfl (res_tmp (hF.ev rfl)) ?_
                          obtain rfl := Option.some.inj hM
                          exact ⟨rfl, S.sel [] rfl rfl⟩
                      · replace hM := bif_t hc226 hM
                        refine cond_t hF rfl hc226 ?_
                        refine wp_seq ?_
                        refine wp_region_lit ?_
                        refine op_val (v := .bool false) rfl rfl hF rfl (run_assign rfl rfl) ?_; clear hF; intro a hF
                        refine wpList_nil ?_
                        refine wp_ret ?_
                        repeat with_reducible (first | refine then_ret ?_ | refine in_ret ?_ | refine in_nrm ?_)
                        refine ret1_gw (.inl rfl) hF rfl (res_tmp (hF.ev rfl)) ?_
                        obtain rfl := Option.some.inj hM
                        exact ⟨rfl, S.sel [] rfl rfl⟩
                    · replace hM := bif_t hc224 hM
                      refine cond_t hF rfl hc224 ?_
                      refine wp_seq ?_
                      refine wp_region_lit ?_
                      refine op_val (v := .bool false) rfl rfl hF rfl (run_assign rfl rfl) ?_; clear hF; intro a hF
                      refine wpList_nil ?_
                      refine wp_ret ?_
                      repeat with_reducible (first | refine then_ret ?_ | refine in_ret ?_ | refine in_nrm ?_)
                      refine ret1_gw (.inl rfl) hF rfl (res_tmp (hF.ev rfl)) ?_
                      obtain rfl := Option.some.inj hM
                      exact ⟨rfl, S.sel [] rfl rfl⟩
                  · replace hM := bif_t hc197 hM
                    refine cond_t hF rfl hc197 ?_
                    refine wp_seq ?_
                    refine wp_region_lit ?_
                    refine op_val (v := .bool false) rfl rfl hF rfl (run_assign rfl rfl) ?_; clear hF; intro a hF
                    refine wpList_nil ?_
                    refine wp_ret ?_
                    repeat with_reducible (first | refine then_ret ?_ | refine in_ret ?_ | refine in_nrm ?_)
                    refine ret1_gw (.inl rfl) hF rfl (res_tmp (hF.ev rfl)) ?_
                    obtain rfl := Option.some.inj hM
                    exact ⟨rfl, S.sel [] rfl rfl⟩
                · replace hM := bif_t hc196 hM
                  refine cond_t hF rfl hc196 ?_
                  refine wp_seq ?_
                  refine wp_region_lit ?_
                  refine op_val (v := .bool false) rfl rfl hF rfl (run_assign rfl rfl) ?_; clear hF; intro a hF
                  refine wpList_nil ?_
                  refine wp_ret ?_
                  repeat with_reducible (first | refine then_ret ?_ | refine in_ret ?_ | refine in_nrm ?_)
                  refine ret1_gw (.inl rfl) hF rfl (res_tmp (hF.ev rfl)) ?_
                  obtain rfl := Option.some.inj hM
                  exact ⟨rfl, S.sel [] rfl rfl⟩
              · replace hM := bif_t hc190 hM
                refine cond_t hF rfl hc190 ?_
                refine wp_seq ?_
                refine wp_region_lit ?_
                refine op_val (v := .bool false) rfl rfl hF rfl (run_assign rfl rfl) ?_; clear hF; intro a hF
                refine wpList_nil ?_
                refine wp_ret ?_
                repeat with_reducible (first | refine then_ret ?_ | refine in_ret ?_ | refine in_nrm ?_)
                refine ret1_gw (.inl rfl) hF rfl (res_tmp (hF.ev rfl)) ?_
                obtain rfl := Option.some.inj hM
                exact ⟨rfl, S.sel [] rfl rfl⟩
      · replace hM := bif_t hc158 hM
        refine cond_t hF rfl hc158 ?_
        refine wp_seq ?_
        refine wp_region_lit ?_
        refine op_val (v := .bool false) rfl rfl hF rfl (run_assign rfl rfl) ?_; clear hF; intro a hF
        refine wpList_nil ?_
        refine wp_ret ?_
        repeat with_reducible (first | refine then_ret ?_ | refine in_ret ?_ | refine in_nrm ?_)
        refine ret1_gw (.inl rfl) hF rfl (res_tmp (hF.ev rfl)) ?_
        obtain rfl := Option.some.inj hM
        exact ⟨rfl, S.sel [] rfl rfl⟩
    · replace hM := bif_t hc105 hM
      refine cond_t hF rfl hc105 ?_
      refine wp_seq ?_
      refine wp_region_lit ?_
      refine op_val (v := .bool true) rfl rfl hF rfl (run_assign rfl rfl) ?_; clear hF; intro a hF
      refine wpList_nil ?_
      refine wp_ret ?_
      repeat with_reducible (first | refine then_ret ?_ | refine in_ret ?_ | refine in_nrm ?_)
      refine ret1_gw (.inl rfl) hF rfl (res_tmp (hF.ev rfl)) ?_
      obtain rfl := Option.some.inj hM
      exact ⟨rfl, S.sel [] rfl rfl⟩
  · replace hM := bif_t hc103 hM
    refine cond_t hF rfl hc103 ?_
    refine wp_seq ?_
    refine wp_region_lit ?_
    refine op_val (v := .bool true) rfl rfl hF rfl (run_assign rfl rfl) ?_; clear hF; intro a hF
    refine wpList_nil ?_
    refine wp_ret ?_
    repeat with_reducible (first | refine then_ret ?_ | refine in_ret ?_ | refine in_nrm ?_)
    refine ret1_gw (.inl rfl) hF rfl (res_tmp (hF.ev rfl)) ?_
    obtain rfl := Option.some.inj hM
    exact ⟨rfl, S.sel [] rfl rfl⟩

end Go.Proofs.Ytnoeliaefhldmaa
