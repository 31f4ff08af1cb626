/- Calls return what the models say. -/
import Derived.Test.YtnoeliaefhldmaaDoorDa3
namespace Go.Proofs.YtnoeliaefhldmaaDoor
open Go.ChangeShapes Go.WideShapes Go.ChangeAt Go.RowKit
set_option linter.unusedVariables false
set_option linter.unusedSimpArgs false

set_option maxHeartbeats 4000000 in
theorem c_impl_WorkRun {x0 : List Bool} {x1 : List Bool} {x2 : List (Int × Int)} {x3 : List (Int × Int × Int)} {A0 : Option Addr} {n0 c0 : Nat} {A1 : Option Addr} {n1 c1 : Nat} {A2 : Option Addr} {n2 c2 : Nat} {A3 : Option Addr} {n3 c3 : Nat} {w : World} {r : List Bool × List Bool × List (Int × Int) × Int} (h0 : Rt w 1 eB A0 n0 c0 x0) (h1 : Rt w 1 eB A1 n1 c1 x1) (h2 : Rt w 2 ePermit A2 n2 c2 x2) (h3 : Rt w 3 eWorkDeed A3 n3 c3 x3) (hM : m_impl_WorkRun x0 x1 x2 x3 = some r) :
    Calls Tryd.prog 19 #[.agg #[.slice A0 n0 c0, .slice A1 n1 c1, .slice A2 n2 c2], .slice A3 n3 c3] w (fun e w' => ∃ (B0 : Option Addr) (N0 D0 : Nat) (B1 : Option Addr) (N1 D1 : Nat) (B2 : Option Addr) (N2 D2 : Nat), e = .returned (.tuple #[.agg #[.slice B0 N0 D0, .slice B1 N1 D1, .slice B2 N2 D2], .int .i64 r.2.2.2]) ∧ N0 = r.1.length ∧ N1 = r.2.1.length ∧ N2 = r.2.2.1.length ∧ St w w' [.row 4 1 (.slice B0 N0 D0) N0 (r.1.flatMap eB), .row 4 1 (.slice B1 N1 D1) N1 (r.2.1.flatMap eB), .row 48 2 (.slice B2 N2 D2) N2 (r.2.2.1.flatMap ePermit)]) := by
  obtain rfl := h0.len
  obtain rfl := h1.len
  obtain rfl := h2.len
  obtain rfl := h3.len
  unfold m_impl_WorkRun at hM
  refine calls_gw Tryd.func19 Tryd.ntmps19 rfl [(0, .agg #[.slice A0 x0.length c0, .slice A1 x1.length c1, .slice A2 x2.length c2]), (1, .slice A3 x3.length c3)] ⟨rfl, rfl, trivial⟩ rfl ?_
  intro a hF
  have S := St.nil w
  refine wp_seq ?_
  refine wp_region_lit ?_
  refine op_new (cs := #[.slice A0 x0.length c0, .slice A1 x1.length c1, .slice A2 x2.length c2]) rfl rfl hF rfl S (run_box rfl (hF.ev rfl) rfl) ?_; clear hF S; intro a g101 u hF S
  refine op_new (cs := #[.slice none 0 0, .slice none 0 0, .slice none 0 0]) rfl rfl hF rfl S (run_allocZ rfl zr26) ?_; clear hF S; intro a g102 u hF S
  refine op_val (v := .int .i64 0) rfl rfl hF rfl (run_assign rfl rfl) ?_; clear hF; intro a hF
  refine wpList_nil ?_
  refine wp_seq ?_
  refine wp_seq ?_
  refine wp_region_lit ?_
  refine op_val (v := .agg #[.slice A0 x0.length c0, .slice A1 x1.length c1, .slice A2 x2.length c2]) rfl rfl hF rfl (run_loadN rfl ag26 (hF.ev rfl) rfl ((S.free 1 rfl).cells 0 #[.slice A0 x0.length c0, .slice A1 x1.length c1, .slice A2 x2.length c2] rfl)) ?_; clear hF; intro a hF
  obtain ⟨p103, h103, hM⟩ := bind_ex hM
  refine op_call rfl rfl hF rfl (run_call (vs := [.agg #[.slice A0 x0.length c0, .slice A1 x1.length c1, .slice A2 x2.length c2]]) rfl rfl co17 ⟨(hF.ev rfl), trivial⟩) (c_impl_WorkValid (x0 := x0) (x1 := x1) (x2 := x2) ⟨(S.rc0 h0.rc), rfl⟩ ⟨(S.rc0 h1.rc), rfl⟩ ⟨(S.rc0 h2.rc), rfl⟩ h103) ?_
  rintro e u ⟨rfl, T⟩
  refine ⟨_, rfl, ?_⟩
  clear hF; intro a hF
  replace S := S.call0 T; clear T
  refine op_val (v := .bool (!p103)) rfl rfl hF rfl (run_not rfl (hF.ev rfl)) ?_; clear hF; intro a hF
  refine wpList_nil ?_
  cases hc104 : (p103)
  · replace hM := bif_f hc104 hM
    refine cond_t hF rfl (not_t hc104) ?_
    refine wp_seq ?_
    refine wp_region_lit ?_
    refine op_val (v := .agg #[.slice none 0 0, .slice none 0 0, .slice none 0 0]) rfl rfl hF rfl (run_build (vs := []) rfl trivial (bd26 )) ?_; clear hF; intro a hF
    refine op_do rfl rfl (run_store (cs' := #[.slice none 0 0, .slice none 0 0, .slice none 0 0]) rfl sz26 (hF.ev rfl) (hF.ev rfl) rfl rfl rfl (S.free 0 rfl) rfl rfl) ?_; replace S := S.put 0 rfl (#[.slice none 0 0, .slice none 0 0, .slice none 0 0])
    generalize World.setRow _ _ _ = u at S ⊢
    refine op_val (v := .int .i64 0) rfl rfl hF rfl (run_assign rfl rfl) ?_; clear hF; intro a hF
    refine wpList_nil ?_
    refine wp_ret ?_
    repeat with_reducible (first | refine then_ret ?_ | refine in_ret ?_ | refine in_nrm ?_)
    refine ret2_gw (.inl rfl) hF rfl (res_cell (hF.ev rfl) (res_loadN ag26 rfl (S.cells 0 rfl 0 #[.slice none 0 0, .slice none 0 0, .slice none 0 0] rfl))) (res_tmp (hF.ev rfl)) ?_
    obtain rfl := Option.some.inj hM
    replace S := S.nilrow 4 1
    replace S := S.nilrow 4 1
    replace S := S.nilrow 48 2
    exact ⟨none, 0, 0, none, 0, 0, none, 0, 0, rfl, rfl, rfl, rfl, S.sel [2, 1, 0] rfl rfl⟩
  · replace hM := bif_t hc104 hM
    refine cond_f hF rfl (not_f hc104) ?_
    refine wp_skip ?_
    refine wp_seq ?_
    refine wp_region_lit ?_
    refine op_val (v := .agg #[.slice A0 x0.length c0, .slice A1 x1.length c1, .slice A2 x2.length c2]) rfl rfl hF rfl (run_loadN rfl ag26 (hF.ev rfl) rfl ((S.free 1 rfl).cells 0 #[.slice A0 x0.length c0, .slice A1 x1.length c1, .slice A2 x2.length c2] rfl)) ?_; clear hF; intro a hF
    obtain ⟨p105, h105, hM⟩ := bind_ex hM
    refine op_call rfl rfl hF rfl (run_call (vs := [.agg #[.slice A0 x0.length c0, .slice A1 x1.length c1, .slice A2 x2.length c2]]) rfl rfl co30 ⟨(hF.ev rfl), trivial⟩) (c_impl_Work_clone (x0 := x0) (x1 := x1) (x2 := x2) ⟨(S.rc0 h0.rc), rfl⟩ ⟨(S.rc0 h1.rc), rfl⟩ ⟨(S.rc0 h2.rc), rfl⟩ h105) ?_
    rintro e u ⟨B106, n107, d108, B109, n110, d111, B112, n113, d114, rfl, rfl, rfl, rfl, T⟩
    refine ⟨_, rfl, ?_⟩
    clear hF; intro a hF
    replace S := S.call3 T; clear T
    refine op_new (cs := #[.slice none 0 0, .slice none 0 0, .slice none 0 0]) rfl rfl hF rfl S (run_allocZ rfl zr26) ?_; clear hF S; intro a g115 u hF S
    refine op_do rfl rfl (run_store (cs' := #[.slice B106 p105.1.length d108, .slice B109 p105.2.1.length d111, .slice B112 p105.2.2.length d114]) rfl sz26 (hF.ev rfl) (hF.ev rfl) rfl rfl rfl (S.free 0 rfl) rfl rfl) ?_; replace S := S.put 0 rfl (#[.slice B106 p105.1.length d108, .slice B109 p105.2.1.length d111, .slice B112 p105.2.2.length d114])
    generalize World.setRow _ _ _ = u at S ⊢
    refine op_val (v := .int .i64 0) rfl rfl hF rfl (run_assign rfl rfl) ?_; clear hF; intro a hF
    refine wpList_nil ?_
    refine wp_seq ?_
    refine wp_seq ?_
    refine wp_region_lit ?_
    refine op_val (v := .slice A3 x3.length c3) rfl rfl hF rfl (run_move rfl (hF.ev rfl)) ?_; clear hF; intro a hF
    refine op_val (v := .int .i64 (x3.length : Int)) rfl rfl hF rfl (run_lenL rfl rfl Tryd.underlying43 (hF.ev rfl)) ?_; clear hF; intro a hF
    refine op_val (v := .int .i64 0) rfl rfl hF rfl (run_move rfl rfl) ?_; clear hF; intro a hF
    refine wpList_nil ?_
    obtain ⟨o117, hM124, hM⟩ := bind_ex hM
    refine wp_cut (fun a u => ∃ (p116 : Int × List Bool × List Bool × List (Int × Int)) (B118 : Option Addr) (d119 : Nat) (B120 : Option Addr) (d121 : Nat) (B122 : Option Addr) (d123 : Nat), p116 = o117 ∧ Fr a 37 [(4, .pointer (some ⟨g102, 0, none⟩)), (5, .int .i64 0), (6, .pointer (some ⟨g115, 0, none⟩)), (7, .int .i64 p116.1)] ∧ St w u [.box g115 26 #[.slice B118 p116.2.1.length d119, .slice B120 p116.2.2.1.length d121, .slice B122 p116.2.2.2.length d123], .box g102 26 #[.slice none 0 0, .slice none 0 0, .slice none 0 0], .row 4 1 (.slice B118 p116.2.1.length d119) p116.2.1.length (p116.2.1.flatMap eB), .row 4 1 (.slice B120 p116.2.2.1.length d121) p116.2.2.1.length (p116.2.2.1.flatMap eB), .row 48 2 (.slice B122 p116.2.2.2.length d123) p116.2.2.2.length (p116.2.2.2.flatMap ePermit)]) ?_ ?_
    · have _ := trivial
      refine wp_block ?_
      refine loop_gw (fun m a u => ∃ (p125 : Int × Int × List Bool × List Bool × List (Int × Int)) (B126 : Option Addr) (d127 : Nat) (B128 : Option Addr) (d129 : Nat) (B130 : Option Addr) (d131 : Nat), m_impl_WorkRun_l1 x3 m p125 = some _ ∧ Fr a 37 [(4, .pointer (some ⟨g102, 0, none⟩)), (5, .int .i64 0), (6, .pointer (some ⟨g115, 0, none⟩)), (7, .int .i64 p125.1), (18, .slice A3 x3.length c3), (19, .int .i64 (x3.length : Int)), (20, .int .i64 p125.2.1)] ∧ St w u [.box g115 26 #[.slice B126 p125.2.2.1.length d127, .slice B128 p125.2.2.2.1.length d129, .slice B130 p125.2.2.2.2.length d131], .box g102 26 #[.slice none 0 0, .slice none 0 0, .slice none 0 0], .row 4 1 (.slice B126 p125.2.2.1.length d127) p125.2.2.1.length (p125.2.2.1.flatMap eB), .row 4 1 (.slice B128 p125.2.2.2.1.length d129) p125.2.2.2.1.length (p125.2.2.2.1.flatMap eB), .row 48 2 (.slice B130 p125.2.2.2.2.length d131) p125.2.2.2.2.length (p125.2.2.2.2.flatMap ePermit)]) FUEL ⟨(0, 0, p105.1, p105.2.1, p105.2.2), B106, d108, B109, d111, B112, d114, hM124, hF.keep _ ⟨rfl, rfl, rfl, rfl, rfl, rfl, rfl, trivial⟩, S.sel [0, 4, 1, 2, 3] rfl rfl⟩ ?_
      clear hF S hM124; rintro m a u ⟨p125, B126, d127, B128, d129, B130, d131, hM124, hF, S⟩
      rcases m with _ | f1
      · exact none_some hM124
      rw [m_impl_WorkRun_l1.eq_2] at hM124
      refine wp_seq ?_
      refine wp_region_lit ?_
      refine op_val (v := .bool (ltB p125.2.1 (x3.length : Int))) rfl rfl hF rfl (run_lss (hF.ev rfl) (hF.ev rfl) rfl) ?_; clear hF; intro a hF
      refine wpList_nil ?_
      refine wp_seq ?_
      cases hc132 : (ltB p125.2.1 (x3.length : Int))
      · replace hM124 := bif_f hc132 hM124
        refine cond_f hF rfl hc132 ?_
        refine wp_exit ?_
        repeat with_reducible (first | refine then_exit ?_ | refine in_hit ?_ | refine in_miss rfl ?_)
        obtain rfl := Option.some.inj hM124
        exact ⟨(p125.1, p125.2.2.1, p125.2.2.2.1, p125.2.2.2.2), B126, d127, B128, d129, B130, d131, rfl, hF.keep _ ⟨rfl, rfl, rfl, rfl, trivial⟩, S.sel [0, 1, 2, 3, 4] rfl rfl⟩
      · replace hM124 := bif_t hc132 hM124
        refine cond_t hF rfl hc132 ?_
        refine wp_skip ?_
        refine wp_seq ?_
        refine wp_block ?_
        refine wp_seq ?_
        refine wp_region_lit ?_
        obtain ⟨hk133, hM124⟩ := chk_ex hM124
        replace hk133 := ixB_t hk133
        refine op_val (v := .pointer (some ⟨adB A3, adO A3 + p125.2.1.toNat * 3, none⟩)) rfl rfl hF rfl (run_indexAddr (b := adB A3) (off := adO A3) rfl Tryd.underlying43 sz35 ((hF.ev rfl).trans (congrArg (fun A => Value.slice A x3.length c3) ((S.rc0 h3.rc).rd.ad (ix_pos hk133)))) (hF.ev rfl) hk133.1 hk133.2 (k' := adO A3 + p125.2.1.toNat * 3) rfl) ?_; clear hF; intro a hF
        refine op_val (v := .agg #[.int .i64 ((x3.getD p125.2.1.toNat ((0, 0, 0) : Int × Int × Int)).1), .int .i64 ((x3.getD p125.2.1.toNat ((0, 0, 0) : Int × Int × Int)).2.1), .int .i64 ((x3.getD p125.2.1.toNat ((0, 0, 0) : Int × Int × Int)).2.2)]) rfl rfl hF rfl (run_loadN (cs := #[.int .i64 ((x3.getD p125.2.1.toNat ((0, 0, 0) : Int × Int × Int)).1), .int .i64 ((x3.getD p125.2.1.toNat ((0, 0, 0) : Int × Int × Int)).2.1), .int .i64 ((x3.getD p125.2.1.toNat ((0, 0, 0) : Int × Int × Int)).2.2)]) rfl ag35 (hF.ev rfl) rfl (rd_elN (l := x3) (S.rc0 h3.rc).rd rfl eWorkDeed_len ((0, 0, 0) : Int × Int × Int) (ix_ltn hk133 rfl) rfl)) ?_; clear hF; intro a hF
        refine op_new (cs := #[.int .i64 0, .int .i64 0, .int .i64 0]) rfl rfl hF rfl S (run_allocZ rfl zr35) ?_; clear hF S; intro a g134 u hF S
        refine op_do rfl rfl (run_store (cs' := #[.int .i64 ((x3.getD p125.2.1.toNat ((0, 0, 0) : Int × Int × Int)).1), .int .i64 ((x3.getD p125.2.1.toNat ((0, 0, 0) : Int × Int × Int)).2.1), .int .i64 ((x3.getD p125.2.1.toNat ((0, 0, 0) : Int × Int × Int)).2.2)]) rfl sz35 (hF.ev rfl) (hF.ev rfl) rfl rfl rfl (S.free 0 rfl) rfl rfl) ?_; replace S := S.put 0 rfl (#[.int .i64 ((x3.getD p125.2.1.toNat ((0, 0, 0) : Int × Int × Int)).1), .int .i64 ((x3.getD p125.2.1.toNat ((0, 0, 0) : Int × Int × Int)).2.1), .int .i64 ((x3.getD p125.2.1.toNat ((0, 0, 0) : Int × Int × Int)).2.2)])
        generalize World.setRow _ _ _ = u at S ⊢
        refine wpList_nil ?_
        refine wp_seq ?_
        refine wp_region_lit ?_
        refine op_val (v := .agg #[.slice B126 p125.2.2.1.length d127, .slice B128 p125.2.2.2.1.length d129, .slice B130 p125.2.2.2.2.length d131]) rfl rfl hF rfl (run_loadN rfl ag26 (hF.ev rfl) rfl ((S.free 1 rfl).cells 0 #[.slice B126 p125.2.2.1.length d127, .slice B128 p125.2.2.2.1.length d129, .slice B130 p125.2.2.2.2.length d131] rfl)) ?_; clear hF; intro a hF
        refine op_val (v := .agg #[.int .i64 ((x3.getD p125.2.1.toNat ((0, 0, 0) : Int × Int × Int)).1), .int .i64 ((x3.getD p125.2.1.toNat ((0, 0, 0) : Int × Int × Int)).2.1), .int .i64 ((x3.getD p125.2.1.toNat ((0, 0, 0) : Int × Int × Int)).2.2)]) rfl rfl hF rfl (run_loadN rfl ag35 (hF.ev rfl) rfl ((S.free 0 rfl).cells 0 #[.int .i64 ((x3.getD p125.2.1.toNat ((0, 0, 0) : Int × Int × Int)).1), .int .i64 ((x3.getD p125.2.1.toNat ((0, 0, 0) : Int × Int × Int)).2.1), .int .i64 ((x3.getD p125.2.1.toNat ((0, 0, 0) : Int × Int × Int)).2.2)] rfl)) ?_; clear hF; intro a hF
        obtain ⟨p135, h135, hM124⟩ := bind_ex hM124
        refine op_call rfl rfl hF rfl (run_call (vs := [.agg #[.slice B126 p125.2.2.1.length d127, .slice B128 p125.2.2.2.1.length d129, .slice B130 p125.2.2.2.2.length d131], .agg #[.int .i64 ((x3.getD p125.2.1.toNat ((0, 0, 0) : Int × Int × Int)).1), .int .i64 ((x3.getD p125.2.1.toNat ((0, 0, 0) : Int × Int × Int)).2.1), .int .i64 ((x3.getD p125.2.1.toNat ((0, 0, 0) : Int × Int × Int)).2.2)]]) rfl rfl co11 ⟨(hF.ev rfl), (hF.ev rfl), trivial⟩) (c_impl_WorkDo (x0 := p125.2.2.1) (x1 := p125.2.2.2.1) (x2 := p125.2.2.2.2) (x3 := (x3.getD p125.2.1.toNat ((0, 0, 0) : Int × Int × Int)).1) (x4 := (x3.getD p125.2.1.toNat ((0, 0, 0) : Int × Int × Int)).2.1) (x5 := (x3.getD p125.2.1.toNat ((0, 0, 0) : Int × Int × Int)).2.2) ⟨(S.rc 3 rfl), rfl⟩ ⟨(S.rc 4 rfl), rfl⟩ ⟨(S.rc 5 rfl), rfl⟩ h135) ?_
        rintro e u ⟨B136, n137, d138, B139, n140, d141, B142, n143, d144, rfl, rfl, rfl, rfl, T⟩
        refine ⟨_, rfl, ?_⟩
        clear hF; intro a hF
        replace S := S.call3 T; clear T
        refine op_val (v := .tuple #[.agg #[.slice B136 p135.1.length d138, .slice B139 p135.2.1.length d141, .slice B142 p135.2.2.1.length d144], .bool p135.2.2.2]) rfl rfl hF rfl (run_move rfl (hF.ev rfl)) ?_; clear hF; intro a hF
        refine op_val (v := .agg #[.slice B136 p135.1.length d138, .slice B139 p135.2.1.length d141, .slice B142 p135.2.2.1.length d144]) rfl rfl hF rfl (run_extract rfl (hF.ev rfl) rfl) ?_; clear hF; intro a hF
        refine op_val (v := .bool p135.2.2.2) rfl rfl hF rfl (run_extract rfl (hF.ev rfl) rfl) ?_; clear hF; intro a hF
        refine op_new (cs := #[.slice none 0 0, .slice none 0 0, .slice none 0 0]) rfl rfl hF rfl S (run_allocZ rfl zr26) ?_; clear hF S; intro a g145 u hF S
        refine op_do rfl rfl (run_store (cs' := #[.slice B136 p135.1.length d138, .slice B139 p135.2.1.length d141, .slice B142 p135.2.2.1.length d144]) rfl sz26 (hF.ev rfl) (hF.ev rfl) rfl rfl rfl (S.free 0 rfl) rfl rfl) ?_; replace S := S.put 0 rfl (#[.slice B136 p135.1.length d138, .slice B139 p135.2.1.length d141, .slice B142 p135.2.2.1.length d144])
        generalize World.setRow _ _ _ = u at S ⊢
        refine op_val (v := .bool p135.2.2.2) rfl rfl hF rfl (run_assign rfl (hF.ev rfl)) ?_; clear hF; intro a hF
        refine wpList_nil ?_
        refine wp_seq ?_
        refine wp_region_lit ?_
        refine op_val (v := .bool p135.2.2.2) rfl rfl hF rfl (run_move rfl (hF.ev rfl)) ?_; clear hF; intro a hF
        refine wpList_nil ?_
        obtain ⟨o147, hM154, hM124⟩ := bind_ex hM124
        refine wp_cut (fun a u => ∃ (p146 : Int × List Bool × List Bool × List (Int × Int)) (B148 : Option Addr) (d149 : Nat) (B150 : Option Addr) (d151 : Nat) (B152 : Option Addr) (d153 : Nat), p146 = o147 ∧ Fr a 37 [(4, .pointer (some ⟨g102, 0, none⟩)), (5, .int .i64 0), (6, .pointer (some ⟨g115, 0, none⟩)), (7, .int .i64 p146.1), (18, .slice A3 x3.length c3), (19, .int .i64 (x3.length : Int)), (20, .int .i64 p125.2.1)] ∧ St w u [.box g115 26 #[.slice B148 p146.2.1.length d149, .slice B150 p146.2.2.1.length d151, .slice B152 p146.2.2.2.length d153], .box g102 26 #[.slice none 0 0, .slice none 0 0, .slice none 0 0], .row 4 1 (.slice B148 p146.2.1.length d149) p146.2.1.length (p146.2.1.flatMap eB), .row 4 1 (.slice B150 p146.2.2.1.length d151) p146.2.2.1.length (p146.2.2.1.flatMap eB), .row 48 2 (.slice B152 p146.2.2.2.length d153) p146.2.2.2.length (p146.2.2.2.flatMap ePermit)]) ?_ ?_
        · have _ := trivial
          cases hc155 : (p135.2.2.2)
          · replace hM154 := bif_f hc155 hM154
            refine cond_f hF rfl hc155 ?_
            refine wp_skip ?_
            obtain rfl := Option.some.inj hM154
            exact ⟨(p125.1, p125.2.2.1, p125.2.2.2.1, p125.2.2.2.2), B126, d127, B128, d129, B130, d131, rfl, hF.keep _ ⟨rfl, rfl, rfl, rfl, rfl, rfl, rfl, trivial⟩, S.sel [5, 6, 7, 8, 9] rfl rfl⟩
          · replace hM154 := bif_t hc155 hM154
            refine cond_t hF rfl hc155 ?_
            refine wp_seq ?_
            refine wp_region_lit ?_
            refine op_val (v := .agg #[.slice B136 p135.1.length d138, .slice B139 p135.2.1.length d141, .slice B142 p135.2.2.1.length d144]) rfl rfl hF rfl (run_loadN rfl ag26 (hF.ev rfl) rfl ((S.free 0 rfl).cells 0 #[.slice B136 p135.1.length d138, .slice B139 p135.2.1.length d141, .slice B142 p135.2.2.1.length d144] rfl)) ?_; clear hF; intro a hF
            refine op_do rfl rfl (run_store (cs' := #[.slice B136 p135.1.length d138, .slice B139 p135.2.1.length d141, .slice B142 p135.2.2.1.length d144]) rfl sz26 (hF.ev rfl) (hF.ev rfl) rfl rfl rfl (S.free 5 rfl) rfl rfl) ?_; replace S := S.put 5 rfl (#[.slice B136 p135.1.length d138, .slice B139 p135.2.1.length d141, .slice B142 p135.2.2.1.length d144])
            generalize World.setRow _ _ _ = u at S ⊢
            refine wpList_nil ?_
            refine wp_region_lit ?_
            refine op_val (v := .int .i64 p125.1) rfl rfl hF rfl (run_move rfl (hF.ev rfl)) ?_; clear hF; intro a hF
            refine op_val (v := .int .i64 (w64 (p125.1 + 1))) rfl rfl hF rfl (run_add (z := w64 (p125.1 + 1)) (hF.ev rfl) rfl rfl rfl) ?_; clear hF; intro a hF
            refine op_val (v := .int .i64 (w64 (p125.1 + 1))) rfl rfl hF rfl (run_assign rfl (hF.ev rfl)) ?_; clear hF; intro a hF
            refine wpList_nil ?_
            obtain rfl := Option.some.inj hM154
            exact ⟨(w64 (p125.1 + 1), p135.1, p135.2.1, p135.2.2.1), B136, d138, B139, d141, B142, d144, rfl, hF.keep _ ⟨rfl, rfl, rfl, rfl, rfl, rfl, rfl, trivial⟩, S.sel [5, 6, 1, 2, 3] rfl rfl⟩
        · rintro a u ⟨p146, B148, d149, B150, d151, B152, d153, rfl, hF, S⟩
          refine wp_region_lit ?_
          refine op_val (v := .int .i64 (w64 (p125.2.1 + 1))) rfl rfl hF rfl (run_add (z := w64 (p125.2.1 + 1)) (hF.ev rfl) rfl rfl rfl) ?_; clear hF; intro a hF
          refine op_val (v := .int .i64 (w64 (p125.2.1 + 1))) rfl rfl hF rfl (run_move rfl (hF.ev rfl)) ?_; clear hF; intro a hF
          refine wpList_nil ?_
          exact ⟨f1, Nat.lt_succ_self _, (p146.1, w64 (p125.2.1 + 1), p146.2.1, p146.2.2.1, p146.2.2.2), B148, d149, B150, d151, B152, d153, hM124, hF.keep _ ⟨rfl, rfl, rfl, rfl, rfl, rfl, rfl, trivial⟩, S.sel [0, 1, 2, 3, 4] rfl rfl⟩
    · rintro a u ⟨p116, B118, d119, B120, d121, B122, d123, rfl, hF, S⟩
      refine wp_seq ?_
      refine wp_region_lit ?_
      refine op_val (v := .agg #[.slice B118 p116.2.1.length d119, .slice B120 p116.2.2.1.length d121, .slice B122 p116.2.2.2.length d123]) rfl rfl hF rfl (run_loadN rfl ag26 (hF.ev rfl) rfl ((S.free 0 rfl).cells 0 #[.slice B118 p116.2.1.length d119, .slice B120 p116.2.2.1.length d121, .slice B122 p116.2.2.2.length d123] rfl)) ?_; clear hF; intro a hF
      refine op_val (v := .int .i64 p116.1) rfl rfl hF rfl (run_move rfl (hF.ev rfl)) ?_; clear hF; intro a hF
      refine op_do rfl rfl (run_store (cs' := #[.slice B118 p116.2.1.length d119, .slice B120 p116.2.2.1.length d121, .slice B122 p116.2.2.2.length d123]) rfl sz26 (hF.ev rfl) (hF.ev rfl) rfl rfl rfl (S.free 1 rfl) rfl rfl) ?_; replace S := S.put 1 rfl (#[.slice B118 p116.2.1.length d119, .slice B120 p116.2.2.1.length d121, .slice B122 p116.2.2.2.length d123])
      generalize World.setRow _ _ _ = u at S ⊢
      refine op_val (v := .int .i64 p116.1) rfl rfl hF rfl (run_assign rfl (hF.ev rfl)) ?_; clear hF; intro a hF
      refine wpList_nil ?_
      refine wp_ret ?_
      repeat with_reducible (first | refine then_ret ?_ | refine in_ret ?_ | refine in_nrm ?_)
      refine ret2_gw (.inl rfl) hF rfl (res_cell (hF.ev rfl) (res_loadN ag26 rfl (S.cells 1 rfl 0 #[.slice B118 p116.2.1.length d119, .slice B120 p116.2.2.1.length d121, .slice B122 p116.2.2.2.length d123] rfl))) (res_tmp (hF.ev rfl)) ?_
      obtain rfl := Option.some.inj hM
      exact ⟨B118, p116.2.1.length, d119, B120, p116.2.2.1.length, d121, B122, p116.2.2.2.length, d123, rfl, rfl, rfl, rfl, S.sel [2, 3, 4] rfl rfl⟩

set_option maxHeartbeats 4000000 in
theorem c_spec_DrawWorkClose {x0 : List Int} {A0 : Option Addr} {n0 c0 : Nat} {w : World} {r : List Bool × List Bool × List (Int × Int)} (h0 : Rt w 1 eU A0 n0 c0 x0) (hM : m_spec_DrawWorkClose x0 = some r) :
    Calls Tryd.prog 22 #[.slice A0 n0 c0] w (fun e w' => ∃ (B0 : Option Addr) (N0 D0 : Nat) (B1 : Option Addr) (N1 D1 : Nat) (B2 : Option Addr) (N2 D2 : Nat), e = .returned (.agg #[.slice B0 N0 D0, .slice B1 N1 D1, .slice B2 N2 D2]) ∧ N0 = r.1.length ∧ N1 = r.2.1.length ∧ N2 = r.2.2.length ∧ St w w' [.row 4 1 (.slice B0 N0 D0) N0 (r.1.flatMap eB), .row 4 1 (.slice B1 N1 D1) N1 (r.2.1.flatMap eB), .row 48 2 (.slice B2 N2 D2) N2 (r.2.2.flatMap ePermit)]) := by
  obtain rfl := h0.len
  unfold m_spec_DrawWorkClose at hM
  refine calls_gw Tryd.func22 Tryd.ntmps22 rfl [(0, .slice A0 x0.length c0)] ⟨rfl, trivial⟩ rfl ?_
  intro a hF
  have S := St.nil w
  refine wp_seq ?_
  refine wp_region_lit ?_
  refine op_new (cs := #[.slice none 0 0, .slice none 0 0, .slice none 0 0]) rfl rfl hF rfl S (run_allocZ rfl zr26) ?_; clear hF S; intro a g101 u hF S
  refine wpList_nil ?_
  refine wp_seq ?_
  refine wp_region_lit ?_
  refine op_val (v := .slice A0 x0.length c0) rfl rfl hF rfl (run_move rfl (hF.ev rfl)) ?_; clear hF; intro a hF
  refine op_call rfl rfl hF rfl (run_call (vs := [.slice A0 x0.length c0]) rfl rfl co27 ⟨(hF.ev rfl), trivial⟩) (c_spec_l20Open ⟨(S.rc0 h0.rc), rfl⟩) ?_
  rintro e u ⟨g102, rfl, T⟩
  refine ⟨_, rfl, ?_⟩
  clear hF; intro a hF
  replace S := S.call1 T; clear T
  obtain ⟨p103, h103, hM⟩ := bind_ex hM
  refine op_call rfl rfl hF rfl (run_call (vs := [.pointer (some ⟨g102, 0, none⟩), .int .i64 9]) rfl rfl co28 ⟨(hF.ev rfl), rfl, trivial⟩) (c_spec_l20Work (x0 := x0.take 2000) (x1 := 0) (x2 := 9) ⟨(op_rc h0.rc rfl), rfl⟩ (show St w _ [.box g102 78 #[.slice (opA c0 x0.length A0) ((x0.take 2000).length) c0, .int .i64 0], .box g101 26 #[.slice none 0 0, .slice none 0 0, .slice none 0 0]] from S.sel [0, 1] rfl rfl) h103) ?_
  rintro e u ⟨B104, n105, d106, B107, n108, d109, B110, n111, d112, rfl, rfl, rfl, rfl, T⟩
  refine ⟨_, rfl, ?_⟩
  clear hF; intro a hF
  clear S; have S := T; clear T
  refine op_do rfl rfl (run_store (cs' := #[.slice B104 p103.1.length d106, .slice B107 p103.2.1.length d109, .slice B110 p103.2.2.1.length d112]) rfl sz26 (hF.ev rfl) (hF.ev rfl) rfl rfl rfl (S.free 4 rfl) rfl rfl) ?_; replace S := S.put 4 rfl (#[.slice B104 p103.1.length d106, .slice B107 p103.2.1.length d109, .slice B110 p103.2.2.1.length d112])
  generalize World.setRow _ _ _ = u at S ⊢
  refine wpList_nil ?_
  refine wp_ret ?_
  repeat with_reducible (first | refine then_ret ?_ | refine in_ret ?_ | refine in_nrm ?_)
  refine ret1_gw (.inl rfl) hF rfl (res_cell (hF.ev rfl) (res_loadN ag26 rfl (S.cells 4 rfl 0 #[.slice B104 p103.1.length d106, .slice B107 p103.2.1.length d109, .slice B110 p103.2.2.1.length d112] rfl))) ?_
  obtain rfl := Option.some.inj hM
  exact ⟨B104, p103.1.length, d106, B107, p103.2.1.length, d109, B110, p103.2.2.1.length, d112, rfl, rfl, rfl, rfl, S.sel [0, 1, 2] rfl rfl⟩

set_option maxHeartbeats 4000000 in
theorem c_impl_Work_returns {x0 : List Bool} {x1 : List Bool} {x2 : List (Int × Int)} {A0 : Option Addr} {n0 c0 : Nat} {A1 : Option Addr} {n1 c1 : Nat} {A2 : Option Addr} {n2 c2 : Nat} {w : World} {r : List (Int × Int × Int)} (h0 : Rt w 1 eB A0 n0 c0 x0) (h1 : Rt w 1 eB A1 n1 c1 x1) (h2 : Rt w 2 ePermit A2 n2 c2 x2) (hM : m_impl_Work_returns x0 x1 x2 = some r) :
    Calls Tryd.prog 44 #[.agg #[.slice A0 n0 c0, .slice A1 n1 c1, .slice A2 n2 c2]] w (fun e w' => ∃ (B0 : Option Addr) (N0 D0 : Nat), e = .returned (.slice B0 N0 D0) ∧ N0 = r.length ∧ St w w' [.row 35 3 (.slice B0 N0 D0) N0 (r.flatMap eWorkDeed)]) := by
  obtain rfl := h0.len
  obtain rfl := h1.len
  obtain rfl := h2.len
  unfold m_impl_Work_returns at hM
  refine calls_gw Tryd.func44 Tryd.ntmps44 rfl [(0, .agg #[.slice A0 x0.length c0, .slice A1 x1.length c1, .slice A2 x2.length c2])] ⟨rfl, trivial⟩ rfl ?_
  intro a hF
  have S := St.nil w
  refine wp_seq ?_
  refine wp_region_lit ?_
  refine op_new (cs := #[.slice A0 x0.length c0, .slice A1 x1.length c1, .slice A2 x2.length c2]) rfl rfl hF rfl S (run_box rfl (hF.ev rfl) rfl) ?_; clear hF S; intro a g101 u hF S
  refine op_val (v := .slice none 0 0) rfl rfl hF rfl (run_assign rfl rfl) ?_; clear hF; intro a hF
  refine wpList_nil ?_
  refine wp_seq ?_
  refine wp_region_lit ?_
  refine op_val (v := .slice none 0 0) rfl rfl hF rfl (run_assign rfl rfl) ?_; clear hF; intro a hF
  refine wpList_nil ?_
  refine wp_seq ?_
  refine wp_seq ?_
  refine wp_region_lit ?_
  refine op_val (v := .pointer (some ⟨g101, 2, none⟩)) rfl rfl hF rfl (run_fieldAddr rfl fl26_2 (hF.ev rfl) rfl) ?_; clear hF; intro a hF
  refine op_val (v := .slice A2 x2.length c2) rfl rfl hF rfl (run_load1 rfl one24 (hF.ev rfl) ((S.free 0 rfl).cell rfl)) ?_; clear hF; intro a hF
  refine op_val (v := .int .i64 (x2.length : Int)) rfl rfl hF rfl (run_lenL rfl rfl Tryd.underlying24 (hF.ev rfl)) ?_; clear hF; intro a hF
  refine op_val (v := .int .i64 0) rfl rfl hF rfl (run_move rfl rfl) ?_; clear hF; intro a hF
  refine wpList_nil ?_
  obtain ⟨o103, hM106, hM⟩ := bind_ex hM
  refine wp_cut (fun a u => ∃ (p102 : List (Int × Int × Int)) (B104 : Option Addr) (d105 : Nat), p102 = o103 ∧ Fr a 23 [(2, .slice none 0 0), (3, .slice B104 p102.length d105)] ∧ St w u [.row 35 3 (.slice B104 p102.length d105) p102.length (p102.flatMap eWorkDeed)]) ?_ ?_
  · have _ := trivial
    refine wp_block ?_
    replace S := S.nilrow 35 3
    refine loop_gw (fun m a u => ∃ (p107 : List (Int × Int × Int) × Int) (B108 : Option Addr) (d109 : Nat), m_impl_Work_returns_l1 x2 m p107 = some _ ∧ Fr a 23 [(2, .slice none 0 0), (3, .slice B108 p107.1.length d109), (7, .slice A2 x2.length c2), (8, .int .i64 (x2.length : Int)), (9, .int .i64 p107.2)] ∧ St w u [.row 35 3 (.slice B108 p107.1.length d109) p107.1.length (p107.1.flatMap eWorkDeed)]) FUEL ⟨(([] : List (Int × Int × Int)), 0), none, 0, hM106, hF.keep _ ⟨rfl, rfl, rfl, rfl, rfl, trivial⟩, S.sel [0] rfl rfl⟩ ?_
    clear hF S hM106; rintro m a u ⟨p107, B108, d109, hM106, hF, S⟩
    rcases m with _ | f1
    · exact none_some hM106
    rw [m_impl_Work_returns_l1.eq_2] at hM106
    refine wp_seq ?_
    refine wp_region_lit ?_
    refine op_val (v := .bool (ltB p107.2 (x2.length : Int))) rfl rfl hF rfl (run_lss (hF.ev rfl) (hF.ev rfl) rfl) ?_; clear hF; intro a hF
    refine wpList_nil ?_
    refine wp_seq ?_
    cases hc110 : (ltB p107.2 (x2.length : Int))
    · replace hM106 := bif_f hc110 hM106
      refine cond_f hF rfl hc110 ?_
      refine wp_exit ?_
      repeat with_reducible (first | refine then_exit ?_ | refine in_hit ?_ | refine in_miss rfl ?_)
      obtain rfl := Option.some.inj hM106
      exact ⟨p107.1, B108, d109, rfl, hF.keep _ ⟨rfl, rfl, trivial⟩, S.sel [0] rfl rfl⟩
    · replace hM106 := bif_t hc110 hM106
      refine cond_t hF rfl hc110 ?_
      refine wp_skip ?_
      refine wp_seq ?_
      refine wp_block ?_
      refine wp_seq ?_
      refine wp_region_lit ?_
      obtain ⟨hk111, hM106⟩ := chk_ex hM106
      replace hk111 := ixB_t hk111
      refine op_val (v := .pointer (some ⟨adB A2, adO A2 + p107.2.toNat * 2, none⟩)) rfl rfl hF rfl (run_indexAddr (b := adB A2) (off := adO A2) rfl Tryd.underlying24 sz48 ((hF.ev rfl).trans (congrArg (fun A => Value.slice A x2.length c2) ((S.rc0 h2.rc).rd.ad (ix_pos hk111)))) (hF.ev rfl) hk111.1 hk111.2 (k' := adO A2 + p107.2.toNat * 2) rfl) ?_; clear hF; intro a hF
      refine op_val (v := .agg #[.int .i64 ((x2.getD p107.2.toNat ((0, 0) : Int × Int)).1), .int .i64 ((x2.getD p107.2.toNat ((0, 0) : Int × Int)).2)]) rfl rfl hF rfl (run_loadN (cs := #[.int .i64 ((x2.getD p107.2.toNat ((0, 0) : Int × Int)).1), .int .i64 ((x2.getD p107.2.toNat ((0, 0) : Int × Int)).2)]) rfl ag48 (hF.ev rfl) rfl (rd_elN (l := x2) (S.rc0 h2.rc).rd rfl ePermit_len ((0, 0) : Int × Int) (ix_ltn hk111 rfl) rfl)) ?_; clear hF; intro a hF
      refine op_new (cs := #[.int .i64 0, .int .i64 0]) rfl rfl hF rfl S (run_allocZ rfl zr48) ?_; clear hF S; intro a g112 u hF S
      refine op_do rfl rfl (run_store (cs' := #[.int .i64 ((x2.getD p107.2.toNat ((0, 0) : Int × Int)).1), .int .i64 ((x2.getD p107.2.toNat ((0, 0) : Int × Int)).2)]) rfl sz48 (hF.ev rfl) (hF.ev rfl) rfl rfl rfl (S.free 0 rfl) rfl rfl) ?_; replace S := S.put 0 rfl (#[.int .i64 ((x2.getD p107.2.toNat ((0, 0) : Int × Int)).1), .int .i64 ((x2.getD p107.2.toNat ((0, 0) : Int × Int)).2)])
      generalize World.setRow _ _ _ = u at S ⊢
      refine wpList_nil ?_
      refine wp_region_lit ?_
      refine op_val (v := .slice B108 p107.1.length d109) rfl rfl hF rfl (run_move rfl (hF.ev rfl)) ?_; clear hF; intro a hF
      refine op_val (v := .pointer (some ⟨g112, 1, none⟩)) rfl rfl hF rfl (run_fieldAddr rfl fl48_1 (hF.ev rfl) rfl) ?_; clear hF; intro a hF
      refine op_val (v := .int .i64 ((x2.getD p107.2.toNat ((0, 0) : Int × Int)).2)) rfl rfl hF rfl (run_load1 rfl one3 (hF.ev rfl) ((S.free 0 rfl).cell rfl)) ?_; clear hF; intro a hF
      refine op_val (v := .pointer (some ⟨g112, 0, none⟩)) rfl rfl hF rfl (run_fieldAddr rfl fl48_0 (hF.ev rfl) rfl) ?_; clear hF; intro a hF
      refine op_val (v := .int .i64 ((x2.getD p107.2.toNat ((0, 0) : Int × Int)).1)) rfl rfl hF rfl (run_load1 rfl one3 (hF.ev rfl) ((S.free 0 rfl).cell rfl)) ?_; clear hF; intro a hF
      refine op_val (v := .agg #[.int .i64 5, .int .i64 ((x2.getD p107.2.toNat ((0, 0) : Int × Int)).2), .int .i64 ((x2.getD p107.2.toNat ((0, 0) : Int × Int)).1)]) rfl rfl hF rfl (run_build (vs := [(0, .int .i64 5), (1, .int .i64 ((x2.getD p107.2.toNat ((0, 0) : Int × Int)).2)), (2, .int .i64 ((x2.getD p107.2.toNat ((0, 0) : Int × Int)).1))]) rfl ⟨⟨rfl, rfl⟩, ⟨rfl, (hF.ev rfl)⟩, ⟨rfl, (hF.ev rfl)⟩, trivial⟩ (bd35_0_1_2 rfl rfl rfl)) ?_; clear hF; intro a hF
      refine op_newrowL (ls := (([(5, (x2.getD p107.2.toNat ((0, 0) : Int × Int)).2, (x2.getD p107.2.toNat ((0, 0) : Int × Int)).1)] : List (Int × Int × Int)) : List (Int × Int × Int))) (e := eWorkDeed) rfl rfl hF rfl S (run_buildS (vs := [(0, .agg #[.int .i64 5, .int .i64 ((x2.getD p107.2.toNat ((0, 0) : Int × Int)).2), .int .i64 ((x2.getD p107.2.toNat ((0, 0) : Int × Int)).1)])]) rfl ⟨⟨rfl, (hF.ev rfl)⟩, trivial⟩ (bs43_1_3 )) rfl eWorkDeed_len (Nat.le_of_ble_eq_true rfl) ?_; clear hF S; intro a g113 u hF S
      obtain ⟨hk116, hM106⟩ := chk_ex hM106
      replace hk116 := apB_t hk116
      refine op_appendL (lx := p107.1) (ly := ([(5, (x2.getD p107.2.toNat ((0, 0) : Int × Int)).2, (x2.getD p107.2.toNat ((0, 0) : Int × Int)).1)] : List (Int × Int × Int))) rfl rfl hF rfl S rfl (hF.ev rfl) (hF.ev rfl) (i := 2) rfl rfl Tryd.underlying43 inf35 rfl (by decide) (S.rc 0 rfl).rd rfl eWorkDeed_one hk116 (by decide) ?_; clear hF S; intro a B114 d115 u hF S
      refine op_val (v := .slice B114 ((p107.1 ++ ([(5, (x2.getD p107.2.toNat ((0, 0) : Int × Int)).2, (x2.getD p107.2.toNat ((0, 0) : Int × Int)).1)] : List (Int × Int × Int))).length) d115) rfl rfl hF rfl (run_assign rfl (hF.ev rfl)) ?_; clear hF; intro a hF
      refine wpList_nil ?_
      refine wp_region_lit ?_
      refine op_val (v := .int .i64 (w64 (p107.2 + 1))) rfl rfl hF rfl (run_add (z := w64 (p107.2 + 1)) (hF.ev rfl) rfl rfl rfl) ?_; clear hF; intro a hF
      refine op_val (v := .int .i64 (w64 (p107.2 + 1))) rfl rfl hF rfl (run_move rfl (hF.ev rfl)) ?_; clear hF; intro a hF
      refine wpList_nil ?_
      exact ⟨f1, Nat.lt_succ_self _, (p107.1 ++ ([(5, (x2.getD p107.2.toNat ((0, 0) : Int × Int)).2, (x2.getD p107.2.toNat ((0, 0) : Int × Int)).1)] : List (Int × Int × Int)), w64 (p107.2 + 1)), B114, d115, hM106, hF.keep _ ⟨rfl, rfl, rfl, rfl, rfl, trivial⟩, S.sel [2] rfl rfl⟩
  · rintro a u ⟨p102, B104, d105, rfl, hF, S⟩
    refine wp_seq ?_
    refine wp_region_lit ?_
    refine op_val (v := .slice B104 p102.length d105) rfl rfl hF rfl (run_move rfl (hF.ev rfl)) ?_; clear hF; intro a hF
    refine op_val (v := .slice B104 p102.length d105) rfl rfl hF rfl (run_assign rfl (hF.ev rfl)) ?_; clear hF; intro a hF
    refine wpList_nil ?_
    refine wp_ret ?_
    repeat with_reducible (first | refine then_ret ?_ | refine in_ret ?_ | refine in_nrm ?_)
    refine ret1_gw (.inl rfl) hF rfl (res_tmp (hF.ev rfl)) ?_
    obtain rfl := Option.some.inj hM
    exact ⟨B104, p102.length, d105, rfl, rfl, S.sel [0] rfl rfl⟩

set_option maxHeartbeats 4000000 in
theorem c_impl_deedsFor {x0 : Int} {x1 : List Bool} {x2 : Bool} {A1 : Option Addr} {n1 c1 : Nat} {w : World} {r : List (Int × Int × Int)} (h1 : Rt w 1 eB A1 n1 c1 x1) (hM : m_impl_deedsFor x0 x1 x2 = some r) :
    Calls Tryd.prog 45 #[.int .i64 x0, .slice A1 n1 c1, .bool x2] w (fun e w' => ∃ (B0 : Option Addr) (N0 D0 : Nat), e = .returned (.slice B0 N0 D0) ∧ N0 = r.length ∧ St w w' [.row 35 3 (.slice B0 N0 D0) N0 (r.flatMap eWorkDeed)]) := by
  obtain rfl := h1.len
  unfold m_impl_deedsFor at hM
  refine calls_gw Tryd.func45 Tryd.ntmps45 rfl [(0, .int .i64 x0), (1, .slice A1 x1.length c1), (2, .bool x2)] ⟨rfl, rfl, rfl, trivial⟩ rfl ?_
  intro a hF
  have S := St.nil w
  refine wp_seq ?_
  refine wp_region_lit ?_
  refine op_val (v := .slice none 0 0) rfl rfl hF rfl (run_assign rfl rfl) ?_; clear hF; intro a hF
  refine wpList_nil ?_
  refine wp_seq ?_
  refine wp_region_lit ?_
  refine op_val (v := .slice none 0 0) rfl rfl hF rfl (run_assign rfl rfl) ?_; clear hF; intro a hF
  refine wpList_nil ?_
  refine wp_seq ?_
  refine wp_seq ?_
  refine wp_region_lit ?_
  refine op_val (v := .slice A1 x1.length c1) rfl rfl hF rfl (run_move rfl (hF.ev rfl)) ?_; clear hF; intro a hF
  refine op_val (v := .int .i64 (x1.length : Int)) rfl rfl hF rfl (run_lenL rfl rfl Tryd.underlying23 (hF.ev rfl)) ?_; clear hF; intro a hF
  refine op_val (v := .int .i64 0) rfl rfl hF rfl (run_move rfl rfl) ?_; clear hF; intro a hF
  refine wpList_nil ?_
  obtain ⟨o102, hM105, hM⟩ := bind_ex hM
  refine wp_cut (fun a u => ∃ (p101 : List (Int × Int × Int)) (B103 : Option Addr) (d104 : Nat), p101 = o102 ∧ Fr a 28 [(6, .slice none 0 0), (7, .slice B103 p101.length d104)] ∧ St w u [.row 35 3 (.slice B103 p101.length d104) p101.length (p101.flatMap eWorkDeed)]) ?_ ?_
  · have _ := trivial
    refine wp_block ?_
    replace S := S.nilrow 35 3
    refine loop_gw (fun m a u => ∃ (p106 : List (Int × Int × Int) × Int) (B107 : Option Addr) (d108 : Nat), m_impl_deedsFor_l1 x0 x1 x2 m p106 = some _ ∧ Fr a 28 [(0, .int .i64 x0), (2, .bool x2), (6, .slice none 0 0), (7, .slice B107 p106.1.length d108), (10, .slice A1 x1.length c1), (11, .int .i64 (x1.length : Int)), (12, .int .i64 p106.2)] ∧ St w u [.row 35 3 (.slice B107 p106.1.length d108) p106.1.length (p106.1.flatMap eWorkDeed)]) FUEL ⟨(([] : List (Int × Int × Int)), 0), none, 0, hM105, hF.keep _ ⟨rfl, rfl, rfl, rfl, rfl, rfl, rfl, trivial⟩, S.sel [0] rfl rfl⟩ ?_
    clear hF S hM105; rintro m a u ⟨p106, B107, d108, hM105, hF, S⟩
    rcases m with _ | f1
    · exact none_some hM105
    rw [m_impl_deedsFor_l1.eq_2] at hM105
    refine wp_seq ?_
    refine wp_region_lit ?_
    refine op_val (v := .bool (ltB p106.2 (x1.length : Int))) rfl rfl hF rfl (run_lss (hF.ev rfl) (hF.ev rfl) rfl) ?_; clear hF; intro a hF
    refine wpList_nil ?_
    refine wp_seq ?_
    cases hc109 : (ltB p106.2 (x1.length : Int))
    · replace hM105 := bif_f hc109 hM105
      refine cond_f hF rfl hc109 ?_
      refine wp_exit ?_
      repeat with_reducible (first | refine then_exit ?_ | refine in_hit ?_ | refine in_miss rfl ?_)
      obtain rfl := Option.some.inj hM105
      exact ⟨p106.1, B107, d108, rfl, hF.keep _ ⟨rfl, rfl, trivial⟩, S.sel [0] rfl rfl⟩
    · replace hM105 := bif_t hc109 hM105
      refine cond_t hF rfl hc109 ?_
      refine wp_skip ?_
      refine wp_seq ?_
      refine wp_block ?_
      refine wp_seq ?_
      refine wp_region_lit ?_
      refine op_val (v := .int .i64 p106.2) rfl rfl hF rfl (run_move rfl (hF.ev rfl)) ?_; clear hF; intro a hF
      obtain ⟨hk110, hM105⟩ := chk_ex hM105
      replace hk110 := ixB_t hk110
      refine op_val (v := .pointer (some ⟨adB A1, adO A1 + p106.2.toNat * 1, none⟩)) rfl rfl hF rfl (run_indexAddr (b := adB A1) (off := adO A1) rfl Tryd.underlying23 sz4 ((hF.ev rfl).trans (congrArg (fun A => Value.slice A x1.length c1) ((S.rc0 h1.rc).rd.ad (ix_pos hk110)))) (hF.ev rfl) hk110.1 hk110.2 (k' := adO A1 + p106.2.toNat * 1) rfl) ?_; clear hF; intro a hF
      refine op_val (v := .bool (x1.getD p106.2.toNat false)) rfl rfl hF rfl (run_load1 rfl one4 (hF.ev rfl) (rd_el0 (l := x1) (S.rc0 h1.rc).rd rfl eB_len false (ix_ltn hk110 rfl) rfl)) ?_; clear hF; intro a hF
      refine op_val (v := .int .i64 p106.2) rfl rfl hF rfl (run_assign rfl (hF.ev rfl)) ?_; clear hF; intro a hF
      refine op_val (v := .bool (x1.getD p106.2.toNat false)) rfl rfl hF rfl (run_assign rfl (hF.ev rfl)) ?_; clear hF; intro a hF
      refine wpList_nil ?_
      refine wp_seq ?_
      refine wp_region_lit ?_
      refine op_val (v := .bool (x1.getD p106.2.toNat false)) rfl rfl hF rfl (run_move rfl (hF.ev rfl)) ?_; clear hF; intro a hF
      refine op_val (v := .bool x2) rfl rfl hF rfl (run_move rfl (hF.ev rfl)) ?_; clear hF; intro a hF
      refine op_val (v := .bool ((x1.getD p106.2.toNat false) == x2)) rfl rfl hF rfl (run_eqlB (hF.ev rfl) (hF.ev rfl) Tryd.underlying4 rfl) ?_; clear hF; intro a hF
      refine wpList_nil ?_
      obtain ⟨o112, hM115, hM105⟩ := bind_ex hM105
      refine wp_cut (fun a u => ∃ (p111 : List (Int × Int × Int)) (B113 : Option Addr) (d114 : Nat), p111 = o112 ∧ Fr a 28 [(0, .int .i64 x0), (2, .bool x2), (6, .slice none 0 0), (7, .slice B113 p111.length d114), (10, .slice A1 x1.length c1), (11, .int .i64 (x1.length : Int)), (12, .int .i64 p106.2)] ∧ St w u [.row 35 3 (.slice B113 p111.length d114) p111.length (p111.flatMap eWorkDeed)]) ?_ ?_
      · have _ := trivial
        cases hc116 : ((x1.getD p106.2.toNat false) == x2)
        · replace hM115 := bif_f hc116 hM115
          refine cond_f hF rfl hc116 ?_
          refine wp_skip ?_
          obtain rfl := Option.some.inj hM115
          exact ⟨p106.1, B107, d108, rfl, hF.keep _ ⟨rfl, rfl, rfl, rfl, rfl, rfl, rfl, trivial⟩, S.sel [0] rfl rfl⟩
        · replace hM115 := bif_t hc116 hM115
          refine cond_t hF rfl hc116 ?_
          refine wp_region_lit ?_
          refine op_val (v := .slice B107 p106.1.length d108) rfl rfl hF rfl (run_move rfl (hF.ev rfl)) ?_; clear hF; intro a hF
          refine op_val (v := .int .i64 x0) rfl rfl hF rfl (run_move rfl (hF.ev rfl)) ?_; clear hF; intro a hF
          refine op_val (v := .int .i64 p106.2) rfl rfl hF rfl (run_move rfl (hF.ev rfl)) ?_; clear hF; intro a hF
          refine op_val (v := .agg #[.int .i64 x0, .int .i64 p106.2, .int .i64 0]) rfl rfl hF rfl (run_build (vs := [(0, .int .i64 x0), (1, .int .i64 p106.2)]) rfl ⟨⟨rfl, (hF.ev rfl)⟩, ⟨rfl, (hF.ev rfl)⟩, trivial⟩ (bd35_0_1 rfl rfl)) ?_; clear hF; intro a hF
          refine op_newrowL (ls := (([(x0, p106.2, 0)] : List (Int × Int × Int)) : List (Int × Int × Int))) (e := eWorkDeed) rfl rfl hF rfl S (run_buildS (vs := [(0, .agg #[.int .i64 x0, .int .i64 p106.2, .int .i64 0])]) rfl ⟨⟨rfl, (hF.ev rfl)⟩, trivial⟩ (bs43_1_3 )) rfl eWorkDeed_len (Nat.le_of_ble_eq_true rfl) ?_; clear hF S; intro a g117 u hF S
          obtain ⟨hk120, hM115⟩ := chk_ex hM115
          replace hk120 := apB_t hk120
          refine op_appendL (lx := p106.1) (ly := ([(x0, p106.2, 0)] : List (Int × Int × Int))) rfl rfl hF rfl S rfl (hF.ev rfl) (hF.ev rfl) (i := 1) rfl rfl Tryd.underlying43 inf35 rfl (by decide) (S.rc 0 rfl).rd rfl eWorkDeed_one hk120 (by decide) ?_; clear hF S; intro a B118 d119 u hF S
          refine op_val (v := .slice B118 ((p106.1 ++ ([(x0, p106.2, 0)] : List (Int × Int × Int))).length) d119) rfl rfl hF rfl (run_assign rfl (hF.ev rfl)) ?_; clear hF; intro a hF
          refine wpList_nil ?_
          obtain rfl := Option.some.inj hM115
          exact ⟨p106.1 ++ ([(x0, p106.2, 0)] : List (Int × Int × Int)), B118, d119, rfl, hF.keep _ ⟨rfl, rfl, rfl, rfl, rfl, rfl, rfl, trivial⟩, S.sel [1] rfl rfl⟩
      · rintro a u ⟨p111, B113, d114, rfl, hF, S⟩
        refine wp_region_lit ?_
        refine op_val (v := .int .i64 (w64 (p106.2 + 1))) rfl rfl hF rfl (run_add (z := w64 (p106.2 + 1)) (hF.ev rfl) rfl rfl rfl) ?_; clear hF; intro a hF
        refine op_val (v := .int .i64 (w64 (p106.2 + 1))) rfl rfl hF rfl (run_move rfl (hF.ev rfl)) ?_; clear hF; intro a hF
        refine wpList_nil ?_
        exact ⟨f1, Nat.lt_succ_self _, (p111, w64 (p106.2 + 1)), B113, d114, hM105, hF.keep _ ⟨rfl, rfl, rfl, rfl, rfl, rfl, rfl, trivial⟩, S.sel [0] rfl rfl⟩
  · rintro a u ⟨p101, B103, d104, rfl, hF, S⟩
    refine wp_seq ?_
    refine wp_region_lit ?_
    refine op_val (v := .slice B103 p101.length d104) rfl rfl hF rfl (run_move rfl (hF.ev rfl)) ?_; clear hF; intro a hF
    refine op_val (v := .slice B103 p101.length d104) rfl rfl hF rfl (run_assign rfl (hF.ev rfl)) ?_; clear hF; intro a hF
    refine wpList_nil ?_
    refine wp_ret ?_
    repeat with_reducible (first | refine then_ret ?_ | refine in_ret ?_ | refine in_nrm ?_)
    refine ret1_gw (.inl rfl) hF rfl (res_tmp (hF.ev rfl)) ?_
    obtain rfl := Option.some.inj hM
    exact ⟨B103, p101.length, d104, rfl, rfl, S.sel [0] rfl rfl⟩

set_option maxHeartbeats 4000000 in
theorem c_impl_WorkClose {x0 : List Bool} {x1 : List Bool} {x2 : List (Int × Int)} {A0 : Option Addr} {n0 c0 : Nat} {A1 : Option Addr} {n1 c1 : Nat} {A2 : Option Addr} {n2 c2 : Nat} {w : World} {r : List (Int × Int × Int)} (h0 : Rt w 1 eB A0 n0 c0 x0) (h1 : Rt w 1 eB A1 n1 c1 x1) (h2 : Rt w 2 ePermit A2 n2 c2 x2) (hM : m_impl_WorkClose x0 x1 x2 = some r) :
    Calls Tryd.prog 23 #[.agg #[.slice A0 n0 c0, .slice A1 n1 c1, .slice A2 n2 c2]] w (fun e w' => ∃ (B0 : Option Addr) (N0 D0 : Nat), e = .returned (.slice B0 N0 D0) ∧ N0 = r.length ∧ St w w' [.row 35 3 (.slice B0 N0 D0) N0 (r.flatMap eWorkDeed)]) := by
  obtain rfl := h0.len
  obtain rfl := h1.len
  obtain rfl := h2.len
  unfold m_impl_WorkClose at hM
  refine calls_gw Tryd.func23 Tryd.ntmps23 rfl [(0, .agg #[.slice A0 x0.length c0, .slice A1 x1.length c1, .slice A2 x2.length c2])] ⟨rfl, trivial⟩ rfl ?_
  intro a hF
  have S := St.nil w
  refine wp_seq ?_
  refine wp_region_lit ?_
  refine op_new (cs := #[.slice A0 x0.length c0, .slice A1 x1.length c1, .slice A2 x2.length c2]) rfl rfl hF rfl S (run_box rfl (hF.ev rfl) rfl) ?_; clear hF S; intro a g101 u hF S
  refine op_val (v := .slice none 0 0) rfl rfl hF rfl (run_assign rfl rfl) ?_; clear hF; intro a hF
  refine wpList_nil ?_
  refine wp_seq ?_
  refine wp_seq ?_
  refine wp_region_lit ?_
  refine op_val (v := .agg #[.slice A0 x0.length c0, .slice A1 x1.length c1, .slice A2 x2.length c2]) rfl rfl hF rfl (run_loadN rfl ag26 (hF.ev rfl) rfl ((S.free 0 rfl).cells 0 #[.slice A0 x0.length c0, .slice A1 x1.length c1, .slice A2 x2.length c2] rfl)) ?_; clear hF; intro a hF
  obtain ⟨p102, h102, hM⟩ := bind_ex hM
  refine op_call rfl rfl hF rfl (run_call (vs := [.agg #[.slice A0 x0.length c0, .slice A1 x1.length c1, .slice A2 x2.length c2]]) rfl rfl co17 ⟨(hF.ev rfl), trivial⟩) (c_impl_WorkValid (x0 := x0) (x1 := x1) (x2 := x2) ⟨(S.rc0 h0.rc), rfl⟩ ⟨(S.rc0 h1.rc), rfl⟩ ⟨(S.rc0 h2.rc), rfl⟩ h102) ?_
  rintro e u ⟨rfl, T⟩
  refine ⟨_, rfl, ?_⟩
  clear hF; intro a hF
  replace S := S.call0 T; clear T
  refine op_val (v := .bool (!p102)) rfl rfl hF rfl (run_not rfl (hF.ev rfl)) ?_; clear hF; intro a hF
  refine wpList_nil ?_
  cases hc103 : (p102)
  · replace hM := bif_f hc103 hM
    refine cond_t hF rfl (not_t hc103) ?_
    refine wp_seq ?_
    refine wp_region_lit ?_
    refine op_val (v := .slice none 0 0) rfl rfl hF rfl (run_assign rfl rfl) ?_; clear hF; intro a hF
    refine wpList_nil ?_
    refine wp_ret ?_
    repeat with_reducible (first | refine then_ret ?_ | refine in_ret ?_ | refine in_nrm ?_)
    refine ret1_gw (.inl rfl) hF rfl (res_tmp (hF.ev rfl)) ?_
    obtain rfl := Option.some.inj hM
    replace S := S.nilrow 35 3
    exact ⟨none, 0, 0, rfl, rfl, S.sel [0] rfl rfl⟩
  · replace hM := bif_t hc103 hM
    refine cond_f hF rfl (not_f hc103) ?_
    refine wp_skip ?_
    refine wp_seq ?_
    refine wp_region_lit ?_
    refine op_val (v := .agg #[.slice A0 x0.length c0, .slice A1 x1.length c1, .slice A2 x2.length c2]) rfl rfl hF rfl (run_loadN rfl ag26 (hF.ev rfl) rfl ((S.free 0 rfl).cells 0 #[.slice A0 x0.length c0, .slice A1 x1.length c1, .slice A2 x2.length c2] rfl)) ?_; clear hF; intro a hF
    obtain ⟨p104, h104, hM⟩ := bind_ex hM
    refine op_call rfl rfl hF rfl (run_call (vs := [.agg #[.slice A0 x0.length c0, .slice A1 x1.length c1, .slice A2 x2.length c2]]) rfl rfl co44 ⟨(hF.ev rfl), trivial⟩) (c_impl_Work_returns (x0 := x0) (x1 := x1) (x2 := x2) ⟨(S.rc0 h0.rc), rfl⟩ ⟨(S.rc0 h1.rc), rfl⟩ ⟨(S.rc0 h2.rc), rfl⟩ h104) ?_
    rintro e u ⟨B105, n106, d107, rfl, rfl, T⟩
    refine ⟨_, rfl, ?_⟩
    clear hF; intro a hF
    replace S := S.call1 T; clear T
    refine op_val (v := .slice B105 p104.length d107) rfl rfl hF rfl (run_assign rfl (hF.ev rfl)) ?_; clear hF; intro a hF
    refine wpList_nil ?_
    refine wp_seq ?_
    refine wp_region_lit ?_
    refine op_val (v := .slice B105 p104.length d107) rfl rfl hF rfl (run_move rfl (hF.ev rfl)) ?_; clear hF; intro a hF
    refine op_val (v := .pointer (some ⟨g101, 1, none⟩)) rfl rfl hF rfl (run_fieldAddr rfl fl26_1 (hF.ev rfl) rfl) ?_; clear hF; intro a hF
    refine op_val (v := .slice A1 x1.length c1) rfl rfl hF rfl (run_load1 rfl one23 (hF.ev rfl) ((S.free 1 rfl).cell rfl)) ?_; clear hF; intro a hF
    obtain ⟨p108, h108, hM⟩ := bind_ex hM
    refine op_call rfl rfl hF rfl (run_call (vs := [.int .i64 3, .slice A1 x1.length c1, .bool true]) rfl rfl co45 ⟨rfl, (hF.ev rfl), rfl, trivial⟩) (c_impl_deedsFor (x0 := 3) (x1 := x1) (x2 := true) ⟨(S.rc0 h1.rc), rfl⟩ h108) ?_
    rintro e u ⟨B109, n110, d111, rfl, rfl, T⟩
    refine ⟨_, rfl, ?_⟩
    clear hF; intro a hF
    replace S := S.call1 T; clear T
    obtain ⟨hk114, hM⟩ := chk_ex hM
    replace hk114 := apB_t hk114
    refine op_appendL (lx := p104) (ly := p108) rfl rfl hF rfl S rfl (hF.ev rfl) (hF.ev rfl) (i := 1) rfl rfl Tryd.underlying43 inf35 rfl (by decide) (S.rc 0 rfl).rd rfl eWorkDeed_one hk114 (by decide) ?_; clear hF S; intro a B112 d113 u hF S
    refine op_val (v := .slice B112 ((p104 ++ p108).length) d113) rfl rfl hF rfl (run_assign rfl (hF.ev rfl)) ?_; clear hF; intro a hF
    refine wpList_nil ?_
    refine wp_seq ?_
    refine wp_region_lit ?_
    refine op_val (v := .slice B112 ((p104 ++ p108).length) d113) rfl rfl hF rfl (run_move rfl (hF.ev rfl)) ?_; clear hF; intro a hF
    refine op_val (v := .pointer (some ⟨g101, 0, none⟩)) rfl rfl hF rfl (run_fieldAddr rfl fl26_0 (hF.ev rfl) rfl) ?_; clear hF; intro a hF
    refine op_val (v := .slice A0 x0.length c0) rfl rfl hF rfl (run_load1 rfl one23 (hF.ev rfl) ((S.free 2 rfl).cell rfl)) ?_; clear hF; intro a hF
    obtain ⟨p115, h115, hM⟩ := bind_ex hM
    refine op_call rfl rfl hF rfl (run_call (vs := [.int .i64 0, .slice A0 x0.length c0, .bool false]) rfl rfl co45 ⟨rfl, (hF.ev rfl), rfl, trivial⟩) (c_impl_deedsFor (x0 := 0) (x1 := x0) (x2 := false) ⟨(S.rc0 h0.rc), rfl⟩ h115) ?_
    rintro e u ⟨B116, n117, d118, rfl, rfl, T⟩
    refine ⟨_, rfl, ?_⟩
    clear hF; intro a hF
    replace S := S.call1 T; clear T
    obtain ⟨hk121, hM⟩ := chk_ex hM
    replace hk121 := apB_t hk121
    refine op_appendL (lx := p104 ++ p108) (ly := p115) rfl rfl hF rfl S rfl (hF.ev rfl) (hF.ev rfl) (i := 2) rfl rfl Tryd.underlying43 inf35 rfl (by decide) (S.rc 0 rfl).rd rfl eWorkDeed_one hk121 (by decide) ?_; clear hF S; intro a B119 d120 u hF S
    refine op_val (v := .slice B119 (((p104 ++ p108) ++ p115).length) d120) rfl rfl hF rfl (run_assign rfl (hF.ev rfl)) ?_; clear hF; intro a hF
    refine wpList_nil ?_
    refine wp_ret ?_
    repeat with_reducible (first | refine then_ret ?_ | refine in_ret ?_ | refine in_nrm ?_)
    refine ret1_gw (.inl rfl) hF rfl (res_tmp (hF.ev rfl)) ?_
    obtain rfl := Option.some.inj hM
    exact ⟨B119, (((p104 ++ p108) ++ p115).length), d120, rfl, rfl, S.sel [2] rfl rfl⟩

set_option maxHeartbeats 4000000 in
theorem c_spec_WorkClose {x0 : List Bool} {x1 : List Bool} {x2 : List (Int × Int)} {A0 : Option Addr} {n0 c0 : Nat} {A1 : Option Addr} {n1 c1 : Nat} {A2 : Option Addr} {n2 c2 : Nat} {w : World} {r : List (Int × Int × Int)} (h0 : Rt w 1 eB A0 n0 c0 x0) (h1 : Rt w 1 eB A1 n1 c1 x1) (h2 : Rt w 2 ePermit A2 n2 c2 x2) (hM : m_spec_WorkClose x0 x1 x2 = some r) :
    Calls Tryd.prog 25 #[.agg #[.slice A0 n0 c0, .slice A1 n1 c1, .slice A2 n2 c2]] w (fun e w' => ∃ (B0 : Option Addr) (N0 D0 : Nat), e = .returned (.slice B0 N0 D0) ∧ N0 = r.length ∧ St w w' [.row 35 3 (.slice B0 N0 D0) N0 (r.flatMap eWorkDeed)]) := by
  obtain rfl := h0.len
  obtain rfl := h1.len
  obtain rfl := h2.len
  unfold m_spec_WorkClose at hM
  refine calls_gw Tryd.func25 Tryd.ntmps25 rfl [(0, .agg #[.slice A0 x0.length c0, .slice A1 x1.length c1, .slice A2 x2.length c2])] ⟨rfl, trivial⟩ rfl ?_
  intro a hF
  have S := St.nil w
  refine wp_seq ?_
  refine wp_region_lit ?_
  refine op_new (cs := #[.slice A0 x0.length c0, .slice A1 x1.length c1, .slice A2 x2.length c2]) rfl rfl hF rfl S (run_box rfl (hF.ev rfl) rfl) ?_; clear hF S; intro a g101 u hF S
  refine op_val (v := .slice none 0 0) rfl rfl hF rfl (run_assign rfl rfl) ?_; clear hF; intro a hF
  refine wpList_nil ?_
  refine wp_seq ?_
  refine wp_region_lit ?_
  refine op_newrow (cs := #[]) (size := 3) rfl rfl hF rfl S (run_buildSlice0 rfl Tryd.underlying43 (congrArg Option.isSome sz35)) rfl (Nat.zero_le _) ?_; clear hF S; intro a g102 u hF S
  refine op_val (v := .slice (some ⟨g102, 0, none⟩) 0 0) rfl rfl hF rfl (run_assign rfl (hF.ev rfl)) ?_; clear hF; intro a hF
  refine wpList_nil ?_
  refine wp_seq ?_
  refine wp_seq ?_
  refine wp_region_lit ?_
  refine op_val (v := .agg #[.slice A0 x0.length c0, .slice A1 x1.length c1, .slice A2 x2.length c2]) rfl rfl hF rfl (run_loadN rfl ag26 (hF.ev rfl) rfl ((S.free 1 rfl).cells 0 #[.slice A0 x0.length c0, .slice A1 x1.length c1, .slice A2 x2.length c2] rfl)) ?_; clear hF; intro a hF
  obtain ⟨p103, h103, hM⟩ := bind_ex hM
  refine op_call rfl rfl hF rfl (run_call (vs := [.agg #[.slice A0 x0.length c0, .slice A1 x1.length c1, .slice A2 x2.length c2]]) rfl rfl co21 ⟨(hF.ev rfl), trivial⟩) (c_spec_WorkValid (x0 := x0) (x1 := x1) (x2 := x2) ⟨(S.rc0 h0.rc), rfl⟩ ⟨(S.rc0 h1.rc), rfl⟩ ⟨(S.rc0 h2.rc), rfl⟩ h103) ?_
  rintro e u ⟨rfl, T⟩
  refine ⟨_, rfl, ?_⟩
  clear hF; intro a hF
  replace S := S.call0 T; clear T
  refine op_val (v := .bool (!p103)) rfl rfl hF rfl (run_not rfl (hF.ev rfl)) ?_; clear hF; intro a hF
  refine wpList_nil ?_
  cases hc104 : (p103)
  · replace hM := bif_f hc104 hM
    refine cond_t hF rfl (not_t hc104) ?_
    refine wp_seq ?_
    refine wp_region_lit ?_
    refine op_val (v := .slice (some ⟨g102, 0, none⟩) 0 0) rfl rfl hF rfl (run_move rfl (hF.ev rfl)) ?_; clear hF; intro a hF
    refine op_val (v := .slice (some ⟨g102, 0, none⟩) 0 0) rfl rfl hF rfl (run_assign rfl (hF.ev rfl)) ?_; clear hF; intro a hF
    refine wpList_nil ?_
    refine wp_ret ?_
    repeat with_reducible (first | refine then_ret ?_ | refine in_ret ?_ | refine in_nrm ?_)
    refine ret1_gw (.inl rfl) hF rfl (res_tmp (hF.ev rfl)) ?_
    obtain rfl := Option.some.inj hM
    exact ⟨(some ⟨g102, 0, none⟩), 0, 0, rfl, rfl, S.sel [0] rfl rfl⟩
  · replace hM := bif_t hc104 hM
    refine cond_f hF rfl (not_f hc104) ?_
    refine wp_skip ?_
    refine wp_seq ?_
    refine wp_seq ?_
    refine wp_region_lit ?_
    refine op_val (v := .int .i64 0) rfl rfl hF rfl (run_assign rfl rfl) ?_; clear hF; intro a hF
    refine wpList_nil ?_
    obtain ⟨o106, hM109, hM⟩ := bind_ex hM
    refine wp_cut (fun a u => ∃ (p105 : List (Int × Int × Int)) (B107 : Option Addr) (d108 : Nat), p105 = o106 ∧ Fr a 71 [(1, .pointer (some ⟨g101, 0, none⟩)), (2, .slice none 0 0), (3, .slice B107 p105.length d108)] ∧ St w u [.box g101 26 #[.slice A0 x0.length c0, .slice A1 x1.length c1, .slice A2 x2.length c2], .row 35 3 (.slice B107 p105.length d108) p105.length (p105.flatMap eWorkDeed)]) ?_ ?_
    · have _ := trivial
      refine wp_block ?_
      refine loop_gw (fun m a u => ∃ (p110 : List (Int × Int × Int) × Int) (B111 : Option Addr) (d112 : Nat), m_spec_WorkClose_l1 x2 m p110 = some _ ∧ Fr a 71 [(1, .pointer (some ⟨g101, 0, none⟩)), (2, .slice none 0 0), (3, .slice B111 p110.1.length d112), (4, .int .i64 p110.2)] ∧ St w u [.box g101 26 #[.slice A0 x0.length c0, .slice A1 x1.length c1, .slice A2 x2.length c2], .row 35 3 (.slice B111 p110.1.length d112) p110.1.length (p110.1.flatMap eWorkDeed)]) FUEL ⟨(([] : List (Int × Int × Int)), 0), (some ⟨g102, 0, none⟩), 0, hM109, hF.keep _ ⟨rfl, rfl, rfl, rfl, trivial⟩, S.sel [1, 0] rfl rfl⟩ ?_
      clear hF S hM109; rintro m a u ⟨p110, B111, d112, hM109, hF, S⟩
      rcases m with _ | f1
      · exact none_some hM109
      rw [m_spec_WorkClose_l1.eq_2] at hM109
      refine wp_seq ?_
      refine wp_seq ?_
      refine wp_region_lit ?_
      refine op_val (v := .int .i64 p110.2) rfl rfl hF rfl (run_move rfl (hF.ev rfl)) ?_; clear hF; intro a hF
      refine op_val (v := .pointer (some ⟨g101, 2, none⟩)) rfl rfl hF rfl (run_fieldAddr rfl fl26_2 (hF.ev rfl) rfl) ?_; clear hF; intro a hF
      refine op_val (v := .slice A2 x2.length c2) rfl rfl hF rfl (run_load1 rfl one24 (hF.ev rfl) ((S.free 0 rfl).cell rfl)) ?_; clear hF; intro a hF
      refine op_val (v := .int .i64 (x2.length : Int)) rfl rfl hF rfl (run_lenL rfl rfl Tryd.underlying24 (hF.ev rfl)) ?_; clear hF; intro a hF
      refine op_val (v := .bool (ltB p110.2 (x2.length : Int))) rfl rfl hF rfl (run_lss (hF.ev rfl) (hF.ev rfl) rfl) ?_; clear hF; intro a hF
      refine wpList_nil ?_
      cases hc113 : (ltB p110.2 (x2.length : Int))
      · replace hM109 := bif_f hc113 hM109
        refine cond_f hF rfl hc113 ?_
        refine wp_exit ?_
        repeat with_reducible (first | refine then_exit ?_ | refine in_hit ?_ | refine in_miss rfl ?_)
        obtain rfl := Option.some.inj hM109
        exact ⟨p110.1, B111, d112, rfl, hF.keep _ ⟨rfl, rfl, rfl, trivial⟩, S.sel [0, 1] rfl rfl⟩
      · replace hM109 := bif_t hc113 hM109
        refine cond_t hF rfl hc113 ?_
        refine wp_skip ?_
        refine wp_seq ?_
        refine wp_block ?_
        obtain ⟨hk114, hM109⟩ := chk_ex hM109
        replace hk114 := ixB_t hk114
        obtain ⟨hk115, hM109⟩ := chk_ex hM109
        replace hk115 := ixB_t hk115
        obtain ⟨hk116, hM109⟩ := chk_ex hM109
        replace hk116 := apB_t hk116
        refine region_gw (D := [19, 20, 21, 22, 23, 24, 25, 26, 27, 28, 29, 30, 31, 32, 33, 34, 3]) (Lr := [.box g101 26 #[.slice A0 x0.length c0, .slice A1 x1.length c1, .slice A2 x2.length c2]]) (deps := (fun | 0 => [19] | 1 => [20] | 2 => [21] | 3 => [22] | 4 => [23] | 5 => [24] | 6 => [25] | 7 => [26] | 8 => [27] | 9 => [28] | 10 => [29] | 11 => [30] | 12 => [31] | 13 => [32] | 14 => [33] | 15 => [34] | 16 => [3, 34] | _ => [])) (rd := (fun | 15 => [14] | _ => [])) (zr := (fun _ => []))
          (φ := fun i vs => match i, vs with | 0, [v19] => v19 = .slice B111 p110.1.length d112 | 1, [v20] => v20 = .pointer (some ⟨g101, 2, none⟩) | 2, [v21] => v21 = .slice A2 x2.length c2 | 3, [v22] => v22 = .int .i64 p110.2 | 4, [v23] => v23 = .pointer (some ⟨adB A2, adO A2 + p110.2.toNat * 2, none⟩) | 5, [v24] => v24 = .pointer (some ⟨adB A2, adO A2 + p110.2.toNat * 2 + 1, none⟩) | 6, [v25] => v25 = .int .i64 ((x2.getD p110.2.toNat ((0, 0) : Int × Int)).2) | 7, [v26] => v26 = .pointer (some ⟨g101, 2, none⟩) | 8, [v27] => v27 = .slice A2 x2.length c2 | 9, [v28] => v28 = .int .i64 p110.2 | 10, [v29] => v29 = .pointer (some ⟨adB A2, adO A2 + p110.2.toNat * 2, none⟩) | 11, [v30] => v30 = .pointer (some ⟨adB A2, adO A2 + p110.2.toNat * 2, none⟩) | 12, [v31] => v31 = .int .i64 ((x2.getD p110.2.toNat ((0, 0) : Int × Int)).1) | 13, [v32] => v32 = .agg #[.int .i64 5, .int .i64 ((x2.getD p110.2.toNat ((0, 0) : Int × Int)).2), .int .i64 ((x2.getD p110.2.toNat ((0, 0) : Int × Int)).1)] | 14, [v33] => v33 = .slice (slA v33) ((([(5, (x2.getD p110.2.toNat ((0, 0) : Int × Int)).2, (x2.getD p110.2.toNat ((0, 0) : Int × Int)).1)] : List (Int × Int × Int)) : List (Int × Int × Int)).length) ((([(5, (x2.getD p110.2.toNat ((0, 0) : Int × Int)).2, (x2.getD p110.2.toNat ((0, 0) : Int × Int)).1)] : List (Int × Int × Int)) : List (Int × Int × Int)).length) | 15, [v34] => v34 = .slice (slA v34) ((p110.1 ++ ([(5, (x2.getD p110.2.toNat ((0, 0) : Int × Int)).2, (x2.getD p110.2.toNat ((0, 0) : Int × Int)).1)] : List (Int × Int × Int))).length) (slC v34) | 16, [v3, v34] => v3 = .slice (slA v34) ((p110.1 ++ ([(5, (x2.getD p110.2.toNat ((0, 0) : Int × Int)).2, (x2.getD p110.2.toNat ((0, 0) : Int × Int)).1)] : List (Int × Int × Int))).length) (slC v34) | _, _ => True)
          (C := fun i vs => match i, vs with | 14, [v33] => [.row 35 3 (.slice (slA v33) ((([(5, (x2.getD p110.2.toNat ((0, 0) : Int × Int)).2, (x2.getD p110.2.toNat ((0, 0) : Int × Int)).1)] : List (Int × Int × Int)) : List (Int × Int × Int)).length) ((([(5, (x2.getD p110.2.toNat ((0, 0) : Int × Int)).2, (x2.getD p110.2.toNat ((0, 0) : Int × Int)).1)] : List (Int × Int × Int)) : List (Int × Int × Int)).length)) ((([(5, (x2.getD p110.2.toNat ((0, 0) : Int × Int)).2, (x2.getD p110.2.toNat ((0, 0) : Int × Int)).1)] : List (Int × Int × Int)) : List (Int × Int × Int)).length) (([(5, (x2.getD p110.2.toNat ((0, 0) : Int × Int)).2, (x2.getD p110.2.toNat ((0, 0) : Int × Int)).1)] : List (Int × Int × Int)).flatMap eWorkDeed)] | 15, [v34] => [.row 35 3 (.slice (slA v34) ((p110.1 ++ ([(5, (x2.getD p110.2.toNat ((0, 0) : Int × Int)).2, (x2.getD p110.2.toNat ((0, 0) : Int × Int)).1)] : List (Int × Int × Int))).length) (slC v34)) ((p110.1 ++ ([(5, (x2.getD p110.2.toNat ((0, 0) : Int × Int)).2, (x2.getD p110.2.toNat ((0, 0) : Int × Int)).1)] : List (Int × Int × Int))).length) ((p110.1 ++ ([(5, (x2.getD p110.2.toNat ((0, 0) : Int × Int)).2, (x2.getD p110.2.toNat ((0, 0) : Int × Int)).1)] : List (Int × Int × Int))).flatMap eWorkDeed)] | _, _ => [])
          (κ := (fun _ => none)) (Z := (fun | 15 => [.row 35 3 (.slice B111 p110.1.length d112) p110.1.length (p110.1.flatMap eWorkDeed)] | _ => [])) mixed hF (by kernel_rfl) (show St w _ [.row 35 3 (.slice B111 p110.1.length d112) p110.1.length (p110.1.flatMap eWorkDeed), .box g101 26 #[.slice A0 x0.length c0, .slice A1 x1.length c1, .slice A2 x2.length c2]] from S.sel [1, 0] rfl rfl) ?_ ?_
        · refine ⟨?_, ?_, ?_, ?_, ?_, ?_, ?_, ?_, ?_, ?_, ?_, ?_, ?_, ?_, ?_, ?_, ?_, trivial⟩
          · intro a u X hB hu hp hr hz hl S
            replace S : St w u ([] ++ X) := S
            exact .inl ⟨rfl, .slice B111 p110.1.length d112, u, (run_move rfl (hF.evU (hu 16 3 rfl rfl) rfl)), rfl, S⟩
          · intro a u X hB hu hp hr hz hl S
            replace S : St w u ([] ++ X) := S
            exact .inl ⟨rfl, .pointer (some ⟨g101, 2, none⟩), u, (run_fieldAddr rfl fl26_2 (hF.evB hB rfl rfl) rfl), rfl, S⟩
          · intro a u X hB hu hp hr hz hl S
            replace S : St w u ([] ++ X) := S
            have e20 : sl a 20 = .pointer (some ⟨g101, 2, none⟩) := hp 1 rfl
            exact .inl ⟨rfl, .slice A2 x2.length c2, u, (run_load1 rfl one24 (ev_sl e20) ((gr_box S hl 0 rfl).cell rfl)), rfl, S⟩
          · intro a u X hB hu hp hr hz hl S
            replace S : St w u ([] ++ X) := S
            exact .inl ⟨rfl, .int .i64 p110.2, u, (run_move rfl (hF.evB hB rfl rfl)), rfl, S⟩
          · intro a u X hB hu hp hr hz hl S
            replace S : St w u ([] ++ X) := S
            have e21 : sl a 21 = .slice A2 x2.length c2 := hp 2 rfl
            have e22 : sl a 22 = .int .i64 p110.2 := hp 3 rfl
            exact .inl ⟨rfl, .pointer (some ⟨adB A2, adO A2 + p110.2.toNat * 2, none⟩), u, (run_indexAddr (b := adB A2) (off := adO A2) rfl Tryd.underlying24 sz48 ((ev_sl e21).trans (congrArg (fun A => Value.slice A x2.length c2) ((S.rc0 h2.rc).rd.ad (ix_pos hk114)))) (ev_sl e22) hk114.1 hk114.2 (k' := adO A2 + p110.2.toNat * 2) rfl), rfl, S⟩
          · intro a u X hB hu hp hr hz hl S
            replace S : St w u ([] ++ X) := S
            have e23 : sl a 23 = .pointer (some ⟨adB A2, adO A2 + p110.2.toNat * 2, none⟩) := hp 4 rfl
            exact .inl ⟨rfl, .pointer (some ⟨adB A2, adO A2 + p110.2.toNat * 2 + 1, none⟩), u, (run_fieldAddr rfl fl48_1 (ev_sl e23) rfl), rfl, S⟩
          · intro a u X hB hu hp hr hz hl S
            replace S : St w u ([] ++ X) := S
            have e24 : sl a 24 = .pointer (some ⟨adB A2, adO A2 + p110.2.toNat * 2 + 1, none⟩) := hp 5 rfl
            exact .inl ⟨rfl, .int .i64 ((x2.getD p110.2.toNat ((0, 0) : Int × Int)).2), u, (run_load1 rfl one3 (ev_sl e24) (rd_el (l := x2) (S.rc0 h2.rc).rd rfl ePermit_len ((0, 0) : Int × Int) (ix_ltn hk114 rfl) rfl)), rfl, S⟩
          · intro a u X hB hu hp hr hz hl S
            replace S : St w u ([] ++ X) := S
            exact .inl ⟨rfl, .pointer (some ⟨g101, 2, none⟩), u, (run_fieldAddr rfl fl26_2 (hF.evB hB rfl rfl) rfl), rfl, S⟩
          · intro a u X hB hu hp hr hz hl S
            replace S : St w u ([] ++ X) := S
            have e26 : sl a 26 = .pointer (some ⟨g101, 2, none⟩) := hp 7 rfl
            exact .inl ⟨rfl, .slice A2 x2.length c2, u, (run_load1 rfl one24 (ev_sl e26) ((gr_box S hl 0 rfl).cell rfl)), rfl, S⟩
          · intro a u X hB hu hp hr hz hl S
            replace S : St w u ([] ++ X) := S
            exact .inl ⟨rfl, .int .i64 p110.2, u, (run_move rfl (hF.evB hB rfl rfl)), rfl, S⟩
          · intro a u X hB hu hp hr hz hl S
            replace S : St w u ([] ++ X) := S
            have e27 : sl a 27 = .slice A2 x2.length c2 := hp 8 rfl
            have e28 : sl a 28 = .int .i64 p110.2 := hp 9 rfl
            exact .inl ⟨rfl, .pointer (some ⟨adB A2, adO A2 + p110.2.toNat * 2, none⟩), u, (run_indexAddr (b := adB A2) (off := adO A2) rfl Tryd.underlying24 sz48 ((ev_sl e27).trans (congrArg (fun A => Value.slice A x2.length c2) ((S.rc0 h2.rc).rd.ad (ix_pos hk115)))) (ev_sl e28) hk115.1 hk115.2 (k' := adO A2 + p110.2.toNat * 2) rfl), rfl, S⟩
          · intro a u X hB hu hp hr hz hl S
            replace S : St w u ([] ++ X) := S
            have e29 : sl a 29 = .pointer (some ⟨adB A2, adO A2 + p110.2.toNat * 2, none⟩) := hp 10 rfl
            exact .inl ⟨rfl, .pointer (some ⟨adB A2, adO A2 + p110.2.toNat * 2, none⟩), u, (run_fieldAddr rfl fl48_0 (ev_sl e29) rfl), rfl, S⟩
          · intro a u X hB hu hp hr hz hl S
            replace S : St w u ([] ++ X) := S
            have e30 : sl a 30 = .pointer (some ⟨adB A2, adO A2 + p110.2.toNat * 2, none⟩) := hp 11 rfl
            exact .inl ⟨rfl, .int .i64 ((x2.getD p110.2.toNat ((0, 0) : Int × Int)).1), u, (run_load1 rfl one3 (ev_sl e30) (rd_el0 (l := x2) (S.rc0 h2.rc).rd rfl ePermit_len ((0, 0) : Int × Int) (ix_ltn hk115 rfl) rfl)), rfl, S⟩
          · intro a u X hB hu hp hr hz hl S
            replace S : St w u ([] ++ X) := S
            have e25 : sl a 25 = .int .i64 ((x2.getD p110.2.toNat ((0, 0) : Int × Int)).2) := hp 6 rfl
            have e31 : sl a 31 = .int .i64 ((x2.getD p110.2.toNat ((0, 0) : Int × Int)).1) := hp 12 rfl
            exact .inl ⟨rfl, .agg #[.int .i64 5, .int .i64 ((x2.getD p110.2.toNat ((0, 0) : Int × Int)).2), .int .i64 ((x2.getD p110.2.toNat ((0, 0) : Int × Int)).1)], u, (run_build (vs := [(0, .int .i64 5), (1, .int .i64 ((x2.getD p110.2.toNat ((0, 0) : Int × Int)).2)), (2, .int .i64 ((x2.getD p110.2.toNat ((0, 0) : Int × Int)).1))]) rfl ⟨⟨rfl, (ev_const _ _)⟩, ⟨rfl, (ev_sl e25)⟩, ⟨rfl, (ev_sl e31)⟩, trivial⟩ (bd35_0_1_2 rfl rfl rfl)), rfl, S⟩
          · intro a u X hB hu hp hr hz hl S
            replace S : St w u ([] ++ X) := S
            have e32 : sl a 32 = .agg #[.int .i64 5, .int .i64 ((x2.getD p110.2.toNat ((0, 0) : Int × Int)).2), .int .i64 ((x2.getD p110.2.toNat ((0, 0) : Int × Int)).1)] := hp 13 rfl
            exact .inl ⟨rfl, _, _, run_buildS (vs := [(0, .agg #[.int .i64 5, .int .i64 ((x2.getD p110.2.toNat ((0, 0) : Int × Int)).2), .int .i64 ((x2.getD p110.2.toNat ((0, 0) : Int × Int)).1)])]) rfl ⟨⟨rfl, (ev_sl e32)⟩, trivial⟩ (bs43_1_3 ), rfl, S.newrowL (e := eWorkDeed) (ls := ([(5, (x2.getD p110.2.toNat ((0, 0) : Int × Int)).2, (x2.getD p110.2.toNat ((0, 0) : Int × Int)).1)] : List (Int × Int × Int))) rfl eWorkDeed_len (Nat.le_of_ble_eq_true rfl)⟩
          · intro a u X hB hu hp hr hz hl S
            replace S : St w u ([.row 35 3 (.slice B111 p110.1.length d112) p110.1.length (p110.1.flatMap eWorkDeed)] ++ X) := S
            have e19 : sl a 19 = .slice B111 p110.1.length d112 := hp 0 rfl
            have e33 : sl a 33 = .slice (slA (sl a 33)) ((([(5, (x2.getD p110.2.toNat ((0, 0) : Int × Int)).2, (x2.getD p110.2.toNat ((0, 0) : Int × Int)).1)] : List (Int × Int × Int)) : List (Int × Int × Int)).length) ((([(5, (x2.getD p110.2.toNat ((0, 0) : Int × Int)).2, (x2.getD p110.2.toNat ((0, 0) : Int × Int)).1)] : List (Int × Int × Int)) : List (Int × Int × Int)).length) := hp 14 rfl
            obtain ⟨B, d, w', hrun, S'⟩ := S.appendL (i := 0) (P := Tryd.prog) (ty := 43) (lx := p110.1) (ly := ([(5, (x2.getD p110.2.toNat ((0, 0) : Int × Int)).2, (x2.getD p110.2.toNat ((0, 0) : Int × Int)).1)] : List (Int × Int × Int))) (c' := ((([(5, (x2.getD p110.2.toNat ((0, 0) : Int × Int)).2, (x2.getD p110.2.toNat ((0, 0) : Int × Int)).1)] : List (Int × Int × Int)) : List (Int × Int × Int)).length)) rfl rfl Tryd.underlying43 inf35 rfl (by decide) (own_rc (show World.ownsRow _ 0 _ _ _ _ _ from S.mem (List.mem_append_right _ (hr 14 (List.mem_of_getElem? (i := 0) rfl) _ (List.mem_of_getElem? (i := 0) rfl))))).rd rfl eWorkDeed_one hk116 (by decide)
            exact .inl ⟨rfl, _, w', run_append rfl (ev_sl e19) (ev_sl e33) hrun, rfl, S'⟩
          · intro a u X hB hu hp hr hz hl S
            replace S : St w u ([] ++ X) := S
            have e34 : sl a 34 = .slice (slA (sl a 34)) ((p110.1 ++ ([(5, (x2.getD p110.2.toNat ((0, 0) : Int × Int)).2, (x2.getD p110.2.toNat ((0, 0) : Int × Int)).1)] : List (Int × Int × Int))).length) (slC (sl a 34)) := hp 15 rfl
            exact .inl ⟨rfl, .slice (slA (sl a 34)) ((p110.1 ++ ([(5, (x2.getD p110.2.toNat ((0, 0) : Int × Int)).2, (x2.getD p110.2.toNat ((0, 0) : Int × Int)).1)] : List (Int × Int × Int))).length) (slC (sl a 34)), u, (run_assign rfl (ev_sl e34)), rfl, S⟩
        · intro a u hB hp S
          obtain ⟨q0, q1, q2, q3, q4, q5, q6, q7, q8, q9, q10, q11, q12, q13, q14, q15, q16, _⟩ := hp
          have e19 : sl a 19 = .slice B111 p110.1.length d112 := q0
          have e20 : sl a 20 = .pointer (some ⟨g101, 2, none⟩) := q1
          have e21 : sl a 21 = .slice A2 x2.length c2 := q2
          have e22 : sl a 22 = .int .i64 p110.2 := q3
          have e23 : sl a 23 = .pointer (some ⟨adB A2, adO A2 + p110.2.toNat * 2, none⟩) := q4
          have e24 : sl a 24 = .pointer (some ⟨adB A2, adO A2 + p110.2.toNat * 2 + 1, none⟩) := q5
          have e25 : sl a 25 = .int .i64 ((x2.getD p110.2.toNat ((0, 0) : Int × Int)).2) := q6
          have e26 : sl a 26 = .pointer (some ⟨g101, 2, none⟩) := q7
          have e27 : sl a 27 = .slice A2 x2.length c2 := q8
          have e28 : sl a 28 = .int .i64 p110.2 := q9
          have e29 : sl a 29 = .pointer (some ⟨adB A2, adO A2 + p110.2.toNat * 2, none⟩) := q10
          have e30 : sl a 30 = .pointer (some ⟨adB A2, adO A2 + p110.2.toNat * 2, none⟩) := q11
          have e31 : sl a 31 = .int .i64 ((x2.getD p110.2.toNat ((0, 0) : Int × Int)).1) := q12
          have e32 : sl a 32 = .agg #[.int .i64 5, .int .i64 ((x2.getD p110.2.toNat ((0, 0) : Int × Int)).2), .int .i64 ((x2.getD p110.2.toNat ((0, 0) : Int × Int)).1)] := q13
          have e33 : sl a 33 = .slice (slA (sl a 33)) ((([(5, (x2.getD p110.2.toNat ((0, 0) : Int × Int)).2, (x2.getD p110.2.toNat ((0, 0) : Int × Int)).1)] : List (Int × Int × Int)) : List (Int × Int × Int)).length) ((([(5, (x2.getD p110.2.toNat ((0, 0) : Int × Int)).2, (x2.getD p110.2.toNat ((0, 0) : Int × Int)).1)] : List (Int × Int × Int)) : List (Int × Int × Int)).length) := q14
          have e34 : sl a 34 = .slice (slA (sl a 34)) ((p110.1 ++ ([(5, (x2.getD p110.2.toNat ((0, 0) : Int × Int)).2, (x2.getD p110.2.toNat ((0, 0) : Int × Int)).1)] : List (Int × Int × Int))).length) (slC (sl a 34)) := q15
          have e3 : sl a 3 = .slice (slA (sl a 34)) ((p110.1 ++ ([(5, (x2.getD p110.2.toNat ((0, 0) : Int × Int)).2, (x2.getD p110.2.toNat ((0, 0) : Int × Int)).1)] : List (Int × Int × Int))).length) (slC (sl a 34)) := q16
          replace S : St w u [.row 35 3 (.slice (slA (sl a 33)) ((([(5, (x2.getD p110.2.toNat ((0, 0) : Int × Int)).2, (x2.getD p110.2.toNat ((0, 0) : Int × Int)).1)] : List (Int × Int × Int)) : List (Int × Int × Int)).length) ((([(5, (x2.getD p110.2.toNat ((0, 0) : Int × Int)).2, (x2.getD p110.2.toNat ((0, 0) : Int × Int)).1)] : List (Int × Int × Int)) : List (Int × Int × Int)).length)) ((([(5, (x2.getD p110.2.toNat ((0, 0) : Int × Int)).2, (x2.getD p110.2.toNat ((0, 0) : Int × Int)).1)] : List (Int × Int × Int)) : List (Int × Int × Int)).length) (([(5, (x2.getD p110.2.toNat ((0, 0) : Int × Int)).2, (x2.getD p110.2.toNat ((0, 0) : Int × Int)).1)] : List (Int × Int × Int)).flatMap eWorkDeed), .row 35 3 (.slice (slA (sl a 34)) ((p110.1 ++ ([(5, (x2.getD p110.2.toNat ((0, 0) : Int × Int)).2, (x2.getD p110.2.toNat ((0, 0) : Int × Int)).1)] : List (Int × Int × Int))).length) (slC (sl a 34))) ((p110.1 ++ ([(5, (x2.getD p110.2.toNat ((0, 0) : Int × Int)).2, (x2.getD p110.2.toNat ((0, 0) : Int × Int)).1)] : List (Int × Int × Int))).length) ((p110.1 ++ ([(5, (x2.getD p110.2.toNat ((0, 0) : Int × Int)).2, (x2.getD p110.2.toNat ((0, 0) : Int × Int)).1)] : List (Int × Int × Int))).flatMap eWorkDeed), .box g101 26 #[.slice A0 x0.length c0, .slice A1 x1.length c1, .slice A2 x2.length c2]] := S
          clear q0 q1 q2 q3 q4 q5 q6 q7 q8 q9 q10 q11 q12 q13 q14 q15 q16
          generalize slA (sl a 33) = B117 at *
          generalize slA (sl a 34) = B118 at *
          generalize slC (sl a 34) = d119 at *
          have hF := hF.region hB [(19, .slice B111 p110.1.length d112), (20, .pointer (some ⟨g101, 2, none⟩)), (21, .slice A2 x2.length c2), (22, .int .i64 p110.2), (23, .pointer (some ⟨adB A2, adO A2 + p110.2.toNat * 2, none⟩)), (24, .pointer (some ⟨adB A2, adO A2 + p110.2.toNat * 2 + 1, none⟩)), (25, .int .i64 ((x2.getD p110.2.toNat ((0, 0) : Int × Int)).2)), (26, .pointer (some ⟨g101, 2, none⟩)), (27, .slice A2 x2.length c2), (28, .int .i64 p110.2), (29, .pointer (some ⟨adB A2, adO A2 + p110.2.toNat * 2, none⟩)), (30, .pointer (some ⟨adB A2, adO A2 + p110.2.toNat * 2, none⟩)), (31, .int .i64 ((x2.getD p110.2.toNat ((0, 0) : Int × Int)).1)), (32, .agg #[.int .i64 5, .int .i64 ((x2.getD p110.2.toNat ((0, 0) : Int × Int)).2), .int .i64 ((x2.getD p110.2.toNat ((0, 0) : Int × Int)).1)]), (33, .slice B117 ((([(5, (x2.getD p110.2.toNat ((0, 0) : Int × Int)).2, (x2.getD p110.2.toNat ((0, 0) : Int × Int)).1)] : List (Int × Int × Int)) : List (Int × Int × Int)).length) ((([(5, (x2.getD p110.2.toNat ((0, 0) : Int × Int)).2, (x2.getD p110.2.toNat ((0, 0) : Int × Int)).1)] : List (Int × Int × Int)) : List (Int × Int × Int)).length)), (34, .slice B118 ((p110.1 ++ ([(5, (x2.getD p110.2.toNat ((0, 0) : Int × Int)).2, (x2.getD p110.2.toNat ((0, 0) : Int × Int)).1)] : List (Int × Int × Int))).length) d119), (3, .slice B118 ((p110.1 ++ ([(5, (x2.getD p110.2.toNat ((0, 0) : Int × Int)).2, (x2.getD p110.2.toNat ((0, 0) : Int × Int)).1)] : List (Int × Int × Int))).length) d119)] (allSl_mem ⟨e19, e20, e21, e22, e23, e24, e25, e26, e27, e28, e29, e30, e31, e32, e33, e34, e3, trivial⟩) rfl
          clear hB e19 e20 e21 e22 e23 e24 e25 e26 e27 e28 e29 e30 e31 e32 e33 e34 e3
          refine wp_region_lit ?_
          refine op_val (v := .int .i64 p110.2) rfl rfl hF rfl (run_move rfl (hF.ev rfl)) ?_; clear hF; intro a hF
          refine op_val (v := .int .i64 (w64 (p110.2 + 1))) rfl rfl hF rfl (run_add (z := w64 (p110.2 + 1)) (hF.ev rfl) rfl rfl rfl) ?_; clear hF; intro a hF
          refine op_val (v := .int .i64 (w64 (p110.2 + 1))) rfl rfl hF rfl (run_assign rfl (hF.ev rfl)) ?_; clear hF; intro a hF
          refine wpList_nil ?_
          exact ⟨f1, Nat.lt_succ_self _, (p110.1 ++ ([(5, (x2.getD p110.2.toNat ((0, 0) : Int × Int)).2, (x2.getD p110.2.toNat ((0, 0) : Int × Int)).1)] : List (Int × Int × Int)), w64 (p110.2 + 1)), B118, d119, hM109, hF.keep _ ⟨rfl, rfl, rfl, rfl, trivial⟩, S.sel [2, 1] rfl rfl⟩
    · rintro a u ⟨p105, B107, d108, rfl, hF, S⟩
      refine wp_seq ?_
      refine wp_seq ?_
      refine wp_region_lit ?_
      refine op_val (v := .int .i64 0) rfl rfl hF rfl (run_assign rfl rfl) ?_; clear hF; intro a hF
      refine wpList_nil ?_
      obtain ⟨o121, hM124, hM⟩ := bind_ex hM
      refine wp_cut (fun a u => ∃ (p120 : List (Int × Int × Int)) (B122 : Option Addr) (d123 : Nat), p120 = o121 ∧ Fr a 71 [(1, .pointer (some ⟨g101, 0, none⟩)), (2, .slice none 0 0), (3, .slice B122 p120.length d123)] ∧ St w u [.box g101 26 #[.slice A0 x0.length c0, .slice A1 x1.length c1, .slice A2 x2.length c2], .row 35 3 (.slice B122 p120.length d123) p120.length (p120.flatMap eWorkDeed)]) ?_ ?_
      · have _ := trivial
        refine wp_block ?_
        refine loop_gw (fun m a u => ∃ (p125 : List (Int × Int × Int) × Int) (B126 : Option Addr) (d127 : Nat), m_spec_WorkClose_l2 x0 x1 m p125 = some _ ∧ Fr a 71 [(1, .pointer (some ⟨g101, 0, none⟩)), (2, .slice none 0 0), (3, .slice B126 p125.1.length d127), (5, .int .i64 p125.2)] ∧ St w u [.box g101 26 #[.slice A0 x0.length c0, .slice A1 x1.length c1, .slice A2 x2.length c2], .row 35 3 (.slice B126 p125.1.length d127) p125.1.length (p125.1.flatMap eWorkDeed)]) FUEL ⟨(p105, 0), B107, d108, hM124, hF.keep _ ⟨rfl, rfl, rfl, rfl, trivial⟩, S.sel [0, 1] rfl rfl⟩ ?_
        clear hF S hM124; rintro m a u ⟨p125, B126, d127, hM124, hF, S⟩
        rcases m with _ | f2
        · exact none_some hM124
        rw [m_spec_WorkClose_l2.eq_2] at hM124
        refine wp_seq ?_
        refine wp_seq ?_
        refine wp_region_lit ?_
        refine op_val (v := .int .i64 p125.2) rfl rfl hF rfl (run_move rfl (hF.ev rfl)) ?_; clear hF; intro a hF
        refine op_val (v := .pointer (some ⟨g101, 0, none⟩)) rfl rfl hF rfl (run_fieldAddr rfl fl26_0 (hF.ev rfl) rfl) ?_; clear hF; intro a hF
        refine op_val (v := .slice A0 x0.length c0) rfl rfl hF rfl (run_load1 rfl one23 (hF.ev rfl) ((S.free 0 rfl).cell rfl)) ?_; clear hF; intro a hF
        refine op_val (v := .int .i64 (x0.length : Int)) rfl rfl hF rfl (run_lenL rfl rfl Tryd.underlying23 (hF.ev rfl)) ?_; clear hF; intro a hF
        refine op_val (v := .bool (ltB p125.2 (x0.length : Int))) rfl rfl hF rfl (run_lss (hF.ev rfl) (hF.ev rfl) rfl) ?_; clear hF; intro a hF
        refine wpList_nil ?_
        cases hc128 : (ltB p125.2 (x0.length : Int))
        · replace hM124 := bif_f hc128 hM124
          refine cond_f hF rfl hc128 ?_
          refine wp_exit ?_
          repeat with_reducible (first | refine then_exit ?_ | refine in_hit ?_ | refine in_miss rfl ?_)
          obtain rfl := Option.some.inj hM124
          exact ⟨p125.1, B126, d127, rfl, hF.keep _ ⟨rfl, rfl, rfl, trivial⟩, S.sel [0, 1] rfl rfl⟩
        · replace hM124 := bif_t hc128 hM124
          refine cond_t hF rfl hc128 ?_
          refine wp_skip ?_
          refine wp_seq ?_
          refine wp_block ?_
          refine wp_seq ?_
          refine wp_region_lit ?_
          refine op_val (v := .pointer (some ⟨g101, 1, none⟩)) rfl rfl hF rfl (run_fieldAddr rfl fl26_1 (hF.ev rfl) rfl) ?_; clear hF; intro a hF
          refine op_val (v := .slice A1 x1.length c1) rfl rfl hF rfl (run_load1 rfl one23 (hF.ev rfl) ((S.free 0 rfl).cell rfl)) ?_; clear hF; intro a hF
          refine op_val (v := .int .i64 p125.2) rfl rfl hF rfl (run_move rfl (hF.ev rfl)) ?_; clear hF; intro a hF
          obtain ⟨hk129, hM124⟩ := chk_ex hM124
          replace hk129 := ixB_t hk129
          refine op_val (v := .pointer (some ⟨adB A1, adO A1 + p125.2.toNat * 1, none⟩)) rfl rfl hF rfl (run_indexAddr (b := adB A1) (off := adO A1) rfl Tryd.underlying23 sz4 ((hF.ev rfl).trans (congrArg (fun A => Value.slice A x1.length c1) ((S.rc0 h1.rc).rd.ad (ix_pos hk129)))) (hF.ev rfl) hk129.1 hk129.2 (k' := adO A1 + p125.2.toNat * 1) rfl) ?_; clear hF; intro a hF
          refine op_val (v := .bool (x1.getD p125.2.toNat false)) rfl rfl hF rfl (run_load1 rfl one4 (hF.ev rfl) (rd_el0 (l := x1) (S.rc0 h1.rc).rd rfl eB_len false (ix_ltn hk129 rfl) rfl)) ?_; clear hF; intro a hF
          refine wpList_nil ?_
          obtain ⟨o131, hM134, hM124⟩ := bind_ex hM124
          refine wp_cut (fun a u => ∃ (p130 : List (Int × Int × Int)) (B132 : Option Addr) (d133 : Nat), p130 = o131 ∧ Fr a 71 [(1, .pointer (some ⟨g101, 0, none⟩)), (2, .slice none 0 0), (3, .slice B132 p130.length d133), (5, .int .i64 p125.2)] ∧ St w u [.box g101 26 #[.slice A0 x0.length c0, .slice A1 x1.length c1, .slice A2 x2.length c2], .row 35 3 (.slice B132 p130.length d133) p130.length (p130.flatMap eWorkDeed)]) ?_ ?_
          · have _ := trivial
            cases hc135 : (x1.getD p125.2.toNat false)
            · replace hM134 := bif_f hc135 hM134
              refine cond_f hF rfl hc135 ?_
              refine wp_skip ?_
              obtain rfl := Option.some.inj hM134
              exact ⟨p125.1, B126, d127, rfl, hF.keep _ ⟨rfl, rfl, rfl, rfl, trivial⟩, S.sel [0, 1] rfl rfl⟩
            · replace hM134 := bif_t hc135 hM134
              refine cond_t hF rfl hc135 ?_
              refine wp_region_lit ?_
              refine op_val (v := .slice B126 p125.1.length d127) rfl rfl hF rfl (run_move rfl (hF.ev rfl)) ?_; clear hF; intro a hF
              refine op_val (v := .int .i64 p125.2) rfl rfl hF rfl (run_move rfl (hF.ev rfl)) ?_; clear hF; intro a hF
              refine op_val (v := .agg #[.int .i64 3, .int .i64 p125.2, .int .i64 0]) rfl rfl hF rfl (run_build (vs := [(0, .int .i64 3), (1, .int .i64 p125.2)]) rfl ⟨⟨rfl, rfl⟩, ⟨rfl, (hF.ev rfl)⟩, trivial⟩ (bd35_0_1 rfl rfl)) ?_; clear hF; intro a hF
              refine op_newrowL (ls := (([(3, p125.2, 0)] : List (Int × Int × Int)) : List (Int × Int × Int))) (e := eWorkDeed) rfl rfl hF rfl S (run_buildS (vs := [(0, .agg #[.int .i64 3, .int .i64 p125.2, .int .i64 0])]) rfl ⟨⟨rfl, (hF.ev rfl)⟩, trivial⟩ (bs43_1_3 )) rfl eWorkDeed_len (Nat.le_of_ble_eq_true rfl) ?_; clear hF S; intro a g136 u hF S
              obtain ⟨hk139, hM134⟩ := chk_ex hM134
              replace hk139 := apB_t hk139
              refine op_appendL (lx := p125.1) (ly := ([(3, p125.2, 0)] : List (Int × Int × Int))) rfl rfl hF rfl S rfl (hF.ev rfl) (hF.ev rfl) (i := 2) rfl rfl Tryd.underlying43 inf35 rfl (by decide) (S.rc 0 rfl).rd rfl eWorkDeed_one hk139 (by decide) ?_; clear hF S; intro a B137 d138 u hF S
              refine op_val (v := .slice B137 ((p125.1 ++ ([(3, p125.2, 0)] : List (Int × Int × Int))).length) d138) rfl rfl hF rfl (run_assign rfl (hF.ev rfl)) ?_; clear hF; intro a hF
              refine wpList_nil ?_
              obtain rfl := Option.some.inj hM134
              exact ⟨p125.1 ++ ([(3, p125.2, 0)] : List (Int × Int × Int)), B137, d138, rfl, hF.keep _ ⟨rfl, rfl, rfl, rfl, trivial⟩, S.sel [1, 2] rfl rfl⟩
          · rintro a u ⟨p130, B132, d133, rfl, hF, S⟩
            refine wp_region_lit ?_
            refine op_val (v := .int .i64 p125.2) rfl rfl hF rfl (run_move rfl (hF.ev rfl)) ?_; clear hF; intro a hF
            refine op_val (v := .int .i64 (w64 (p125.2 + 1))) rfl rfl hF rfl (run_add (z := w64 (p125.2 + 1)) (hF.ev rfl) rfl rfl rfl) ?_; clear hF; intro a hF
            refine op_val (v := .int .i64 (w64 (p125.2 + 1))) rfl rfl hF rfl (run_assign rfl (hF.ev rfl)) ?_; clear hF; intro a hF
            refine wpList_nil ?_
            exact ⟨f2, Nat.lt_succ_self _, (p130, w64 (p125.2 + 1)), B132, d133, hM124, hF.keep _ ⟨rfl, rfl, rfl, rfl, trivial⟩, S.sel [0, 1] rfl rfl⟩
      · rintro a u ⟨p120, B122, d123, rfl, hF, S⟩
        refine wp_seq ?_
        refine wp_seq ?_
        refine wp_region_lit ?_
        refine op_val (v := .int .i64 0) rfl rfl hF rfl (run_assign rfl rfl) ?_; clear hF; intro a hF
        refine wpList_nil ?_
        obtain ⟨o141, hM144, hM⟩ := bind_ex hM
        refine wp_cut (fun a u => ∃ (p140 : List (Int × Int × Int)) (B142 : Option Addr) (d143 : Nat), p140 = o141 ∧ Fr a 71 [(2, .slice none 0 0), (3, .slice B142 p140.length d143)] ∧ St w u [.row 35 3 (.slice B142 p140.length d143) p140.length (p140.flatMap eWorkDeed)]) ?_ ?_
        · have _ := trivial
          refine wp_block ?_
          refine loop_gw (fun m a u => ∃ (p145 : List (Int × Int × Int) × Int) (B146 : Option Addr) (d147 : Nat), m_spec_WorkClose_l3 x0 m p145 = some _ ∧ Fr a 71 [(1, .pointer (some ⟨g101, 0, none⟩)), (2, .slice none 0 0), (3, .slice B146 p145.1.length d147), (6, .int .i64 p145.2)] ∧ St w u [.box g101 26 #[.slice A0 x0.length c0, .slice A1 x1.length c1, .slice A2 x2.length c2], .row 35 3 (.slice B146 p145.1.length d147) p145.1.length (p145.1.flatMap eWorkDeed)]) FUEL ⟨(p120, 0), B122, d123, hM144, hF.keep _ ⟨rfl, rfl, rfl, rfl, trivial⟩, S.sel [0, 1] rfl rfl⟩ ?_
          clear hF S hM144; rintro m a u ⟨p145, B146, d147, hM144, hF, S⟩
          rcases m with _ | f3
          · exact none_some hM144
          rw [m_spec_WorkClose_l3.eq_2] at hM144
          refine wp_seq ?_
          refine wp_seq ?_
          refine wp_region_lit ?_
          refine op_val (v := .int .i64 p145.2) rfl rfl hF rfl (run_move rfl (hF.ev rfl)) ?_; clear hF; intro a hF
          refine op_val (v := .pointer (some ⟨g101, 0, none⟩)) rfl rfl hF rfl (run_fieldAddr rfl fl26_0 (hF.ev rfl) rfl) ?_; clear hF; intro a hF
          refine op_val (v := .slice A0 x0.length c0) rfl rfl hF rfl (run_load1 rfl one23 (hF.ev rfl) ((S.free 0 rfl).cell rfl)) ?_; clear hF; intro a hF
          refine op_val (v := .int .i64 (x0.length : Int)) rfl rfl hF rfl (run_lenL rfl rfl Tryd.underlying23 (hF.ev rfl)) ?_; clear hF; intro a hF
          refine op_val (v := .bool (ltB p145.2 (x0.length : Int))) rfl rfl hF rfl (run_lss (hF.ev rfl) (hF.ev rfl) rfl) ?_; clear hF; intro a hF
          refine wpList_nil ?_
          cases hc148 : (ltB p145.2 (x0.length : Int))
          · replace hM144 := bif_f hc148 hM144
            refine cond_f hF rfl hc148 ?_
            refine wp_exit ?_
            repeat with_reducible (first | refine then_exit ?_ | refine in_hit ?_ | refine in_miss rfl ?_)
            obtain rfl := Option.some.inj hM144
            exact ⟨p145.1, B146, d147, rfl, hF.keep _ ⟨rfl, rfl, trivial⟩, S.sel [1] rfl rfl⟩
          · replace hM144 := bif_t hc148 hM144
            refine cond_t hF rfl hc148 ?_
            refine wp_skip ?_
            refine wp_seq ?_
            refine wp_block ?_
            refine wp_seq ?_
            refine wp_region_lit ?_
            refine op_val (v := .pointer (some ⟨g101, 0, none⟩)) rfl rfl hF rfl (run_fieldAddr rfl fl26_0 (hF.ev rfl) rfl) ?_; clear hF; intro a hF
            refine op_val (v := .slice A0 x0.length c0) rfl rfl hF rfl (run_load1 rfl one23 (hF.ev rfl) ((S.free 0 rfl).cell rfl)) ?_; clear hF; intro a hF
            refine op_val (v := .int .i64 p145.2) rfl rfl hF rfl (run_move rfl (hF.ev rfl)) ?_; clear hF; intro a hF
            obtain ⟨hk149, hM144⟩ := chk_ex hM144
            replace hk149 := ixB_t hk149
            refine op_val (v := .pointer (some ⟨adB A0, adO A0 + p145.2.toNat * 1, none⟩)) rfl rfl hF rfl (run_indexAddr (b := adB A0) (off := adO A0) rfl Tryd.underlying23 sz4 ((hF.ev rfl).trans (congrArg (fun A => Value.slice A x0.length c0) ((S.rc0 h0.rc).rd.ad (ix_pos hk149)))) (hF.ev rfl) hk149.1 hk149.2 (k' := adO A0 + p145.2.toNat * 1) rfl) ?_; clear hF; intro a hF
            refine op_val (v := .bool (x0.getD p145.2.toNat false)) rfl rfl hF rfl (run_load1 rfl one4 (hF.ev rfl) (rd_el0 (l := x0) (S.rc0 h0.rc).rd rfl eB_len false (ix_ltn hk149 rfl) rfl)) ?_; clear hF; intro a hF
            refine op_val (v := .bool (!(x0.getD p145.2.toNat false))) rfl rfl hF rfl (run_not rfl (hF.ev rfl)) ?_; clear hF; intro a hF
            refine wpList_nil ?_
            obtain ⟨o151, hM154, hM144⟩ := bind_ex hM144
            refine wp_cut (fun a u => ∃ (p150 : List (Int × Int × Int)) (B152 : Option Addr) (d153 : Nat), p150 = o151 ∧ Fr a 71 [(1, .pointer (some ⟨g101, 0, none⟩)), (2, .slice none 0 0), (3, .slice B152 p150.length d153), (6, .int .i64 p145.2)] ∧ St w u [.box g101 26 #[.slice A0 x0.length c0, .slice A1 x1.length c1, .slice A2 x2.length c2], .row 35 3 (.slice B152 p150.length d153) p150.length (p150.flatMap eWorkDeed)]) ?_ ?_
            · have _ := trivial
              cases hc155 : (x0.getD p145.2.toNat false)
              · replace hM154 := bif_f hc155 hM154
                refine cond_t hF rfl (not_t hc155) ?_
                refine wp_region_lit ?_
                refine op_val (v := .slice B146 p145.1.length d147) rfl rfl hF rfl (run_move rfl (hF.ev rfl)) ?_; clear hF; intro a hF
                refine op_val (v := .int .i64 p145.2) rfl rfl hF rfl (run_move rfl (hF.ev rfl)) ?_; clear hF; intro a hF
                refine op_val (v := .agg #[.int .i64 0, .int .i64 p145.2, .int .i64 0]) rfl rfl hF rfl (run_build (vs := [(0, .int .i64 0), (1, .int .i64 p145.2)]) rfl ⟨⟨rfl, rfl⟩, ⟨rfl, (hF.ev rfl)⟩, trivial⟩ (bd35_0_1 rfl rfl)) ?_; clear hF; intro a hF
                refine op_newrowL (ls := (([(0, p145.2, 0)] : List (Int × Int × Int)) : List (Int × Int × Int))) (e := eWorkDeed) rfl rfl hF rfl S (run_buildS (vs := [(0, .agg #[.int .i64 0, .int .i64 p145.2, .int .i64 0])]) rfl ⟨⟨rfl, (hF.ev rfl)⟩, trivial⟩ (bs43_1_3 )) rfl eWorkDeed_len (Nat.le_of_ble_eq_true rfl) ?_; clear hF S; intro a g156 u hF S
                obtain ⟨hk159, hM154⟩ := chk_ex hM154
                replace hk159 := apB_t hk159
                refine op_appendL (lx := p145.1) (ly := ([(0, p145.2, 0)] : List (Int × Int × Int))) rfl rfl hF rfl S rfl (hF.ev rfl) (hF.ev rfl) (i := 2) rfl rfl Tryd.underlying43 inf35 rfl (by decide) (S.rc 0 rfl).rd rfl eWorkDeed_one hk159 (by decide) ?_; clear hF S; intro a B157 d158 u hF S
                refine op_val (v := .slice B157 ((p145.1 ++ ([(0, p145.2, 0)] : List (Int × Int × Int))).length) d158) rfl rfl hF rfl (run_assign rfl (hF.ev rfl)) ?_; clear hF; intro a hF
                refine wpList_nil ?_
                obtain rfl := Option.some.inj hM154
                exact ⟨p145.1 ++ ([(0, p145.2, 0)] : List (Int × Int × Int)), B157, d158, rfl, hF.keep _ ⟨rfl, rfl, rfl, rfl, trivial⟩, S.sel [1, 2] rfl rfl⟩
              · replace hM154 := bif_t hc155 hM154
                refine cond_f hF rfl (not_f hc155) ?_
                refine wp_skip ?_
                obtain rfl := Option.some.inj hM154
                exact ⟨p145.1, B146, d147, rfl, hF.keep _ ⟨rfl, rfl, rfl, rfl, trivial⟩, S.sel [0, 1] rfl rfl⟩
            · rintro a u ⟨p150, B152, d153, rfl, hF, S⟩
              refine wp_region_lit ?_
              refine op_val (v := .int .i64 p145.2) rfl rfl hF rfl (run_move rfl (hF.ev rfl)) ?_; clear hF; intro a hF
              refine op_val (v := .int .i64 (w64 (p145.2 + 1))) rfl rfl hF rfl (run_add (z := w64 (p145.2 + 1)) (hF.ev rfl) rfl rfl rfl) ?_; clear hF; intro a hF
              refine op_val (v := .int .i64 (w64 (p145.2 + 1))) rfl rfl hF rfl (run_assign rfl (hF.ev rfl)) ?_; clear hF; intro a hF
              refine wpList_nil ?_
              exact ⟨f3, Nat.lt_succ_self _, (p150, w64 (p145.2 + 1)), B152, d153, hM144, hF.keep _ ⟨rfl, rfl, rfl, rfl, trivial⟩, S.sel [0, 1] rfl rfl⟩
        · rintro a u ⟨p140, B142, d143, rfl, hF, S⟩
          refine wp_seq ?_
          refine wp_region_lit ?_
          refine op_val (v := .slice B142 p140.length d143) rfl rfl hF rfl (run_move rfl (hF.ev rfl)) ?_; clear hF; intro a hF
          refine op_val (v := .slice B142 p140.length d143) rfl rfl hF rfl (run_assign rfl (hF.ev rfl)) ?_; clear hF; intro a hF
          refine wpList_nil ?_
          refine wp_ret ?_
          repeat with_reducible (first | refine then_ret ?_ | refine in_ret ?_ | refine in_nrm ?_)
          refine ret1_gw (.inl rfl) hF rfl (res_tmp (hF.ev rfl)) ?_
          obtain rfl := Option.some.inj hM
          exact ⟨B142, p140.length, d143, rfl, rfl, S.sel [0] rfl rfl⟩

set_option maxHeartbeats 4000000 in
theorem c_laws_sameDeeds {x0 : List (Int × Int × Int)} {x1 : List (Int × Int × Int)} {A0 : Option Addr} {n0 c0 : Nat} {A1 : Option Addr} {n1 c1 : Nat} {w : World} {r : Bool} (h0 : Rt w 3 eWorkDeed A0 n0 c0 x0) (h1 : Rt w 3 eWorkDeed A1 n1 c1 x1) (hM : m_laws_sameDeeds x0 x1 = some r) :
    Calls Tryd.prog 24 #[.slice A0 n0 c0, .slice A1 n1 c1] w (fun e w' => e = .returned (.bool r) ∧ St w w' []) := by
  obtain rfl := h0.len
  obtain rfl := h1.len
  unfold m_laws_sameDeeds at hM
  refine calls_gw Tryd.func24 Tryd.ntmps24 rfl [(0, .slice A0 x0.length c0), (1, .slice A1 x1.length c1)] ⟨rfl, rfl, trivial⟩ rfl ?_
  intro a hF
  have S := St.nil w
  refine wp_seq ?_
  refine wp_region_lit ?_
  refine op_val (v := .bool false) rfl rfl hF rfl (run_assign rfl rfl) ?_; clear hF; intro a hF
  refine wpList_nil ?_
  refine wp_seq ?_
  refine wp_seq ?_
  refine wp_region_lit ?_
  refine op_val (v := .slice A0 x0.length c0) rfl rfl hF rfl (run_move rfl (hF.ev rfl)) ?_; clear hF; intro a hF
  refine op_val (v := .int .i64 (x0.length : Int)) rfl rfl hF rfl (run_lenL rfl rfl Tryd.underlying43 (hF.ev rfl)) ?_; clear hF; intro a hF
  refine op_val (v := .slice A1 x1.length c1) rfl rfl hF rfl (run_move rfl (hF.ev rfl)) ?_; clear hF; intro a hF
  refine op_val (v := .int .i64 (x1.length : Int)) rfl rfl hF rfl (run_lenL rfl rfl Tryd.underlying43 (hF.ev rfl)) ?_; clear hF; intro a hF
  refine op_val (v := .bool ((x0.length : Int) != (x1.length : Int))) rfl rfl hF rfl (run_neq (hF.ev rfl) (hF.ev rfl) rfl) ?_; clear hF; intro a hF
  refine wpList_nil ?_
  cases hc101 : ((x0.length : Int) != (x1.length : Int))
  · replace hM := bif_f hc101 hM
    refine cond_f hF rfl hc101 ?_
    refine wp_skip ?_
    refine wp_seq ?_
    refine wp_seq ?_
    refine wp_region_lit ?_
    refine op_val (v := .int .i64 0) rfl rfl hF rfl (run_assign rfl rfl) ?_; clear hF; intro a hF
    refine wpList_nil ?_
    obtain ⟨o103, hM104, hM⟩ := bind_ex hM
    refine wp_cut (fun a u => ∃ (p102 : Unit), (Sum.inl p102) = o103 ∧ Fr a 26 [(4, .bool false)] ∧ St w u []) ?_ ?_
    · have _ := trivial
      refine wp_block ?_
      refine loop_gw (fun m a u => ∃ (p105 : Int), m_laws_sameDeeds_l1 x0 x1 m p105 = some _ ∧ Fr a 26 [(0, .slice A0 x0.length c0), (1, .slice A1 x1.length c1), (4, .bool false), (5, .int .i64 p105)] ∧ St w u []) FUEL ⟨0, hM104, hF.keep _ ⟨rfl, rfl, rfl, rfl, trivial⟩, S.sel [] rfl rfl⟩ ?_
      clear hF S hM104; rintro m a u ⟨p105, hM104, hF, S⟩
      rcases m with _ | f1
      · exact none_some hM104
      rw [m_laws_sameDeeds_l1.eq_2] at hM104
      refine wp_seq ?_
      refine wp_seq ?_
      refine wp_region_lit ?_
      refine op_val (v := .int .i64 p105) rfl rfl hF rfl (run_move rfl (hF.ev rfl)) ?_; clear hF; intro a hF
      refine op_val (v := .slice A0 x0.length c0) rfl rfl hF rfl (run_move rfl (hF.ev rfl)) ?_; clear hF; intro a hF
      refine op_val (v := .int .i64 (x0.length : Int)) rfl rfl hF rfl (run_lenL rfl rfl Tryd.underlying43 (hF.ev rfl)) ?_; clear hF; intro a hF
      refine op_val (v := .bool (ltB p105 (x0.length : Int))) rfl rfl hF rfl (run_lss (hF.ev rfl) (hF.ev rfl) rfl) ?_; clear hF; intro a hF
      refine wpList_nil ?_
      cases hc106 : (ltB p105 (x0.length : Int))
      · replace hM104 := bif_f hc106 hM104
        refine cond_f hF rfl hc106 ?_
        refine wp_exit ?_
        repeat with_reducible (first | refine then_exit ?_ | refine in_hit ?_ | refine in_miss rfl ?_)
        obtain rfl := Option.some.inj hM104
        exact ⟨(), rfl, hF.keep _ ⟨rfl, trivial⟩, S.sel [] rfl rfl⟩
      · replace hM104 := bif_t hc106 hM104
        refine cond_t hF rfl hc106 ?_
        refine wp_skip ?_
        refine wp_seq ?_
        refine wp_block ?_
        refine wp_seq ?_
        obtain ⟨hk107, hM104⟩ := chk_ex hM104
        replace hk107 := ixB_t hk107
        obtain ⟨hk108, hM104⟩ := chk_ex hM104
        replace hk108 := ixB_t hk108
        refine region_gw (D := [17, 18, 19, 20, 21, 22, 23, 24, 25]) (Lr := []) (deps := (fun | 0 => [17] | 1 => [18] | 2 => [19] | 3 => [20] | 4 => [21] | 5 => [22] | 6 => [23] | 7 => [24] | 8 => [25] | _ => [])) (rd := (fun _ => [])) (zr := (fun _ => []))
          (φ := fun i vs => match i, vs with | 0, [v17] => v17 = .slice A0 x0.length c0 | 1, [v18] => v18 = .int .i64 p105 | 2, [v19] => v19 = .pointer (some ⟨adB A0, adO A0 + p105.toNat * 3, none⟩) | 3, [v20] => v20 = .agg #[.int .i64 ((x0.getD p105.toNat ((0, 0, 0) : Int × Int × Int)).1), .int .i64 ((x0.getD p105.toNat ((0, 0, 0) : Int × Int × Int)).2.1), .int .i64 ((x0.getD p105.toNat ((0, 0, 0) : Int × Int × Int)).2.2)] | 4, [v21] => v21 = .slice A1 x1.length c1 | 5, [v22] => v22 = .int .i64 p105 | 6, [v23] => v23 = .pointer (some ⟨adB A1, adO A1 + p105.toNat * 3, none⟩) | 7, [v24] => v24 = .agg #[.int .i64 ((x1.getD p105.toNat ((0, 0, 0) : Int × Int × Int)).1), .int .i64 ((x1.getD p105.toNat ((0, 0, 0) : Int × Int × Int)).2.1), .int .i64 ((x1.getD p105.toNat ((0, 0, 0) : Int × Int × Int)).2.2)] | 8, [v25] => v25 = .bool (!((((x0.getD p105.toNat ((0, 0, 0) : Int × Int × Int)).1) == ((x1.getD p105.toNat ((0, 0, 0) : Int × Int × Int)).1)) && (((x0.getD p105.toNat ((0, 0, 0) : Int × Int × Int)).2.1) == ((x1.getD p105.toNat ((0, 0, 0) : Int × Int × Int)).2.1)) && (((x0.getD p105.toNat ((0, 0, 0) : Int × Int × Int)).2.2) == ((x1.getD p105.toNat ((0, 0, 0) : Int × Int × Int)).2.2)))) | _, _ => True)
          (C := fun _ _ => [])
          (κ := (fun _ => none)) (Z := (fun _ => [])) mixed hF (by kernel_rfl) S ?_ ?_
        · refine ⟨?_, ?_, ?_, ?_, ?_, ?_, ?_, ?_, ?_, trivial⟩
          · intro a u X hB hu hp hr hz hl S
            replace S : St w u ([] ++ X) := S
            exact .inl ⟨rfl, .slice A0 x0.length c0, u, (run_move rfl (hF.evB hB rfl rfl)), rfl, S⟩
          · intro a u X hB hu hp hr hz hl S
            replace S : St w u ([] ++ X) := S
            exact .inl ⟨rfl, .int .i64 p105, u, (run_move rfl (hF.evB hB rfl rfl)), rfl, S⟩
          · intro a u X hB hu hp hr hz hl S
            replace S : St w u ([] ++ X) := S
            have e17 : sl a 17 = .slice A0 x0.length c0 := hp 0 rfl
            have e18 : sl a 18 = .int .i64 p105 := hp 1 rfl
            exact .inl ⟨rfl, .pointer (some ⟨adB A0, adO A0 + p105.toNat * 3, none⟩), u, (run_indexAddr (b := adB A0) (off := adO A0) rfl Tryd.underlying43 sz35 ((ev_sl e17).trans (congrArg (fun A => Value.slice A x0.length c0) ((S.rc0 h0.rc).rd.ad (ix_pos hk107)))) (ev_sl e18) hk107.1 hk107.2 (k' := adO A0 + p105.toNat * 3) rfl), rfl, S⟩
          · intro a u X hB hu hp hr hz hl S
            replace S : St w u ([] ++ X) := S
            have e19 : sl a 19 = .pointer (some ⟨adB A0, adO A0 + p105.toNat * 3, none⟩) := hp 2 rfl
            exact .inl ⟨rfl, .agg #[.int .i64 ((x0.getD p105.toNat ((0, 0, 0) : Int × Int × Int)).1), .int .i64 ((x0.getD p105.toNat ((0, 0, 0) : Int × Int × Int)).2.1), .int .i64 ((x0.getD p105.toNat ((0, 0, 0) : Int × Int × Int)).2.2)], u, (run_loadN (cs := #[.int .i64 ((x0.getD p105.toNat ((0, 0, 0) : Int × Int × Int)).1), .int .i64 ((x0.getD p105.toNat ((0, 0, 0) : Int × Int × Int)).2.1), .int .i64 ((x0.getD p105.toNat ((0, 0, 0) : Int × Int × Int)).2.2)]) rfl ag35 (ev_sl e19) rfl (rd_elN (l := x0) (S.rc0 h0.rc).rd rfl eWorkDeed_len ((0, 0, 0) : Int × Int × Int) (ix_ltn hk107 rfl) rfl)), rfl, S⟩
          · intro a u X hB hu hp hr hz hl S
            replace S : St w u ([] ++ X) := S
            exact .inl ⟨rfl, .slice A1 x1.length c1, u, (run_move rfl (hF.evB hB rfl rfl)), rfl, S⟩
          · intro a u X hB hu hp hr hz hl S
            replace S : St w u ([] ++ X) := S
            exact .inl ⟨rfl, .int .i64 p105, u, (run_move rfl (hF.evB hB rfl rfl)), rfl, S⟩
          · intro a u X hB hu hp hr hz hl S
            replace S : St w u ([] ++ X) := S
            have e21 : sl a 21 = .slice A1 x1.length c1 := hp 4 rfl
            have e22 : sl a 22 = .int .i64 p105 := hp 5 rfl
            exact .inl ⟨rfl, .pointer (some ⟨adB A1, adO A1 + p105.toNat * 3, none⟩), u, (run_indexAddr (b := adB A1) (off := adO A1) rfl Tryd.underlying43 sz35 ((ev_sl e21).trans (congrArg (fun A => Value.slice A x1.length c1) ((S.rc0 h1.rc).rd.ad (ix_pos hk108)))) (ev_sl e22) hk108.1 hk108.2 (k' := adO A1 + p105.toNat * 3) rfl), rfl, S⟩
          · intro a u X hB hu hp hr hz hl S
            replace S : St w u ([] ++ X) := S
            have e23 : sl a 23 = .pointer (some ⟨adB A1, adO A1 + p105.toNat * 3, none⟩) := hp 6 rfl
            exact .inl ⟨rfl, .agg #[.int .i64 ((x1.getD p105.toNat ((0, 0, 0) : Int × Int × Int)).1), .int .i64 ((x1.getD p105.toNat ((0, 0, 0) : Int × Int × Int)).2.1), .int .i64 ((x1.getD p105.toNat ((0, 0, 0) : Int × Int × Int)).2.2)], u, (run_loadN (cs := #[.int .i64 ((x1.getD p105.toNat ((0, 0, 0) : Int × Int × Int)).1), .int .i64 ((x1.getD p105.toNat ((0, 0, 0) : Int × Int × Int)).2.1), .int .i64 ((x1.getD p105.toNat ((0, 0, 0) : Int × Int × Int)).2.2)]) rfl ag35 (ev_sl e23) rfl (rd_elN (l := x1) (S.rc0 h1.rc).rd rfl eWorkDeed_len ((0, 0, 0) : Int × Int × Int) (ix_ltn hk108 rfl) rfl)), rfl, S⟩
          · intro a u X hB hu hp hr hz hl S
            replace S : St w u ([] ++ X) := S
            have e20 : sl a 20 = .agg #[.int .i64 ((x0.getD p105.toNat ((0, 0, 0) : Int × Int × Int)).1), .int .i64 ((x0.getD p105.toNat ((0, 0, 0) : Int × Int × Int)).2.1), .int .i64 ((x0.getD p105.toNat ((0, 0, 0) : Int × Int × Int)).2.2)] := hp 3 rfl
            have e24 : sl a 24 = .agg #[.int .i64 ((x1.getD p105.toNat ((0, 0, 0) : Int × Int × Int)).1), .int .i64 ((x1.getD p105.toNat ((0, 0, 0) : Int × Int × Int)).2.1), .int .i64 ((x1.getD p105.toNat ((0, 0, 0) : Int × Int × Int)).2.2)] := hp 7 rfl
            exact .inl ⟨rfl, .bool (!((((x0.getD p105.toNat ((0, 0, 0) : Int × Int × Int)).1) == ((x1.getD p105.toNat ((0, 0, 0) : Int × Int × Int)).1)) && (((x0.getD p105.toNat ((0, 0, 0) : Int × Int × Int)).2.1) == ((x1.getD p105.toNat ((0, 0, 0) : Int × Int × Int)).2.1)) && (((x0.getD p105.toNat ((0, 0, 0) : Int × Int × Int)).2.2) == ((x1.getD p105.toNat ((0, 0, 0) : Int × Int × Int)).2.2)))), u, (run_neqA (ev_sl e20) (ev_sl e24) rfl eg35 eq35), rfl, S⟩
        · intro a u hB hp S
          obtain ⟨q0, q1, q2, q3, q4, q5, q6, q7, q8, _⟩ := hp
          have e17 : sl a 17 = .slice A0 x0.length c0 := q0
          have e18 : sl a 18 = .int .i64 p105 := q1
          have e19 : sl a 19 = .pointer (some ⟨adB A0, adO A0 + p105.toNat * 3, none⟩) := q2
          have e20 : sl a 20 = .agg #[.int .i64 ((x0.getD p105.toNat ((0, 0, 0) : Int × Int × Int)).1), .int .i64 ((x0.getD p105.toNat ((0, 0, 0) : Int × Int × Int)).2.1), .int .i64 ((x0.getD p105.toNat ((0, 0, 0) : Int × Int × Int)).2.2)] := q3
          have e21 : sl a 21 = .slice A1 x1.length c1 := q4
          have e22 : sl a 22 = .int .i64 p105 := q5
          have e23 : sl a 23 = .pointer (some ⟨adB A1, adO A1 + p105.toNat * 3, none⟩) := q6
          have e24 : sl a 24 = .agg #[.int .i64 ((x1.getD p105.toNat ((0, 0, 0) : Int × Int × Int)).1), .int .i64 ((x1.getD p105.toNat ((0, 0, 0) : Int × Int × Int)).2.1), .int .i64 ((x1.getD p105.toNat ((0, 0, 0) : Int × Int × Int)).2.2)] := q7
          have e25 : sl a 25 = .bool (!((((x0.getD p105.toNat ((0, 0, 0) : Int × Int × Int)).1) == ((x1.getD p105.toNat ((0, 0, 0) : Int × Int × Int)).1)) && (((x0.getD p105.toNat ((0, 0, 0) : Int × Int × Int)).2.1) == ((x1.getD p105.toNat ((0, 0, 0) : Int × Int × Int)).2.1)) && (((x0.getD p105.toNat ((0, 0, 0) : Int × Int × Int)).2.2) == ((x1.getD p105.toNat ((0, 0, 0) : Int × Int × Int)).2.2)))) := q8
          replace S : St w u [] := S
          clear q0 q1 q2 q3 q4 q5 q6 q7 q8
          have hF := hF.region hB [(17, .slice A0 x0.length c0), (18, .int .i64 p105), (19, .pointer (some ⟨adB A0, adO A0 + p105.toNat * 3, none⟩)), (20, .agg #[.int .i64 ((x0.getD p105.toNat ((0, 0, 0) : Int × Int × Int)).1), .int .i64 ((x0.getD p105.toNat ((0, 0, 0) : Int × Int × Int)).2.1), .int .i64 ((x0.getD p105.toNat ((0, 0, 0) : Int × Int × Int)).2.2)]), (21, .slice A1 x1.length c1), (22, .int .i64 p105), (23, .pointer (some ⟨adB A1, adO A1 + p105.toNat * 3, none⟩)), (24, .agg #[.int .i64 ((x1.getD p105.toNat ((0, 0, 0) : Int × Int × Int)).1), .int .i64 ((x1.getD p105.toNat ((0, 0, 0) : Int × Int × Int)).2.1), .int .i64 ((x1.getD p105.toNat ((0, 0, 0) : Int × Int × Int)).2.2)]), (25, .bool (!((((x0.getD p105.toNat ((0, 0, 0) : Int × Int × Int)).1) == ((x1.getD p105.toNat ((0, 0, 0) : Int × Int × Int)).1)) && (((x0.getD p105.toNat ((0, 0, 0) : Int × Int × Int)).2.1) == ((x1.getD p105.toNat ((0, 0, 0) : Int × Int × Int)).2.1)) && (((x0.getD p105.toNat ((0, 0, 0) : Int × Int × Int)).2.2) == ((x1.getD p105.toNat ((0, 0, 0) : Int × Int × Int)).2.2)))))] (allSl_mem ⟨e17, e18, e19, e20, e21, e22, e23, e24, e25, trivial⟩) rfl
          clear hB e17 e18 e19 e20 e21 e22 e23 e24 e25
          cases hc109 : ((((x0.getD p105.toNat ((0, 0, 0) : Int × Int × Int)).1) == ((x1.getD p105.toNat ((0, 0, 0) : Int × Int × Int)).1)) && (((x0.getD p105.toNat ((0, 0, 0) : Int × Int × Int)).2.1) == ((x1.getD p105.toNat ((0, 0, 0) : Int × Int × Int)).2.1)) && (((x0.getD p105.toNat ((0, 0, 0) : Int × Int × Int)).2.2) == ((x1.getD p105.toNat ((0, 0, 0) : Int × Int × Int)).2.2)))
          · replace hM104 := bif_f hc109 hM104
            refine cond_t hF rfl (not_t hc109) ?_
            refine wp_seq ?_
            refine wp_region_lit ?_
            refine op_val (v := .bool false) rfl rfl hF rfl (run_assign rfl rfl) ?_; clear hF; intro a hF
            refine wpList_nil ?_
            refine wp_ret ?_
            repeat with_reducible (first | refine then_ret ?_ | refine in_ret ?_ | refine in_nrm ?_)
            refine ret1_gw (.inl rfl) hF rfl (res_tmp (hF.ev rfl)) ?_
            obtain rfl := Option.some.inj hM104
            obtain rfl := Option.some.inj hM
            exact ⟨rfl, S.sel [] rfl rfl⟩
          · replace hM104 := bif_t hc109 hM104
            refine cond_f hF rfl (not_f hc109) ?_
            refine wp_skip ?_
            refine wp_region_lit ?_
            refine op_val (v := .int .i64 p105) rfl rfl hF rfl (run_move rfl (hF.ev rfl)) ?_; clear hF; intro a hF
            refine op_val (v := .int .i64 (w64 (p105 + 1))) rfl rfl hF rfl (run_add (z := w64 (p105 + 1)) (hF.ev rfl) rfl rfl rfl) ?_; clear hF; intro a hF
            refine op_val (v := .int .i64 (w64 (p105 + 1))) rfl rfl hF rfl (run_assign rfl (hF.ev rfl)) ?_; clear hF; intro a hF
            refine wpList_nil ?_
            exact ⟨f1, Nat.lt_succ_self _, w64 (p105 + 1), hM104, hF.keep _ ⟨rfl, rfl, rfl, rfl, trivial⟩, S.sel [] rfl rfl⟩
    · rintro a u ⟨p102, rfl, hF, S⟩
      replace hM := elim_l hM
      refine wp_seq ?_
      refine wp_region_lit ?_
      refine op_val (v := .bool true) rfl rfl hF rfl (run_assign rfl rfl) ?_; clear hF; intro a hF
      refine wpList_nil ?_
      refine wp_ret ?_
      repeat with_reducible (first | refine then_ret ?_ | refine in_ret ?_ | refine in_nrm ?_)
      refine ret1_gw (.inl rfl) hF rfl (res_tmp (hF.ev rfl)) ?_
      obtain rfl := Option.some.inj hM
      exact ⟨rfl, S.sel [] rfl rfl⟩
  · replace hM := bif_t hc101 hM
    refine cond_t hF rfl hc101 ?_
    refine wp_seq ?_
    refine wp_region_lit ?_
    refine op_val (v := .bool false) rfl rfl hF rfl (run_assign rfl rfl) ?_; clear hF; intro a hF
    refine wpList_nil ?_
    refine wp_ret ?_
    repeat with_reducible (first | refine then_ret ?_ | refine in_ret ?_ | refine in_nrm ?_)
    refine ret1_gw (.inl rfl) hF rfl (res_tmp (hF.ev rfl)) ?_
    obtain rfl := Option.some.inj hM
    exact ⟨rfl, S.sel [] rfl rfl⟩

set_option maxHeartbeats 4000000 in
theorem c_laws_count {x0 : List Bool} {A0 : Option Addr} {n0 c0 : Nat} {w : World} {r : Int} (h0 : Rt w 1 eB A0 n0 c0 x0) (hM : m_laws_count x0 = some r) :
    Calls Tryd.prog 26 #[.slice A0 n0 c0] w (fun e w' => e = .returned (.int .i64 r) ∧ St w w' []) := by
  obtain rfl := h0.len
  unfold m_laws_count at hM
  refine calls_gw Tryd.func26 Tryd.ntmps26 rfl [(0, .slice A0 x0.length c0)] ⟨rfl, trivial⟩ rfl ?_
  intro a hF
  have S := St.nil w
  refine wp_seq ?_
  refine wp_region_lit ?_
  refine op_val (v := .int .i64 0) rfl rfl hF rfl (run_assign rfl rfl) ?_; clear hF; intro a hF
  refine wpList_nil ?_
  refine wp_seq ?_
  refine wp_region_lit ?_
  refine op_val (v := .int .i64 0) rfl rfl hF rfl (run_assign rfl rfl) ?_; clear hF; intro a hF
  refine wpList_nil ?_
  refine wp_seq ?_
  refine wp_seq ?_
  refine wp_region_lit ?_
  refine op_val (v := .int .i64 0) rfl rfl hF rfl (run_assign rfl rfl) ?_; clear hF; intro a hF
  refine wpList_nil ?_
  obtain ⟨o102, hM103, hM⟩ := bind_ex hM
  refine wp_cut (fun a u => ∃ (p101 : Int), p101 = o102 ∧ Fr a 18 [(2, .int .i64 0), (3, .int .i64 p101)] ∧ St w u []) ?_ ?_
  · have _ := trivial
    refine wp_block ?_
    refine loop_gw (fun m a u => ∃ (p104 : Int × Int), m_laws_count_l1 x0 m p104 = some _ ∧ Fr a 18 [(0, .slice A0 x0.length c0), (2, .int .i64 0), (3, .int .i64 p104.1), (4, .int .i64 p104.2)] ∧ St w u []) FUEL ⟨(0, 0), hM103, hF.keep _ ⟨rfl, rfl, rfl, rfl, trivial⟩, S.sel [] rfl rfl⟩ ?_
    clear hF S hM103; rintro m a u ⟨p104, hM103, hF, S⟩
    rcases m with _ | f1
    · exact none_some hM103
    rw [m_laws_count_l1.eq_2] at hM103
    refine wp_seq ?_
    refine wp_seq ?_
    refine wp_region_lit ?_
    refine op_val (v := .int .i64 p104.2) rfl rfl hF rfl (run_move rfl (hF.ev rfl)) ?_; clear hF; intro a hF
    refine op_val (v := .slice A0 x0.length c0) rfl rfl hF rfl (run_move rfl (hF.ev rfl)) ?_; clear hF; intro a hF
    refine op_val (v := .int .i64 (x0.length : Int)) rfl rfl hF rfl (run_lenL rfl rfl Tryd.underlying23 (hF.ev rfl)) ?_; clear hF; intro a hF
    refine op_val (v := .bool (ltB p104.2 (x0.length : Int))) rfl rfl hF rfl (run_lss (hF.ev rfl) (hF.ev rfl) rfl) ?_; clear hF; intro a hF
    refine wpList_nil ?_
    cases hc105 : (ltB p104.2 (x0.length : Int))
    · replace hM103 := bif_f hc105 hM103
      refine cond_f hF rfl hc105 ?_
      refine wp_exit ?_
      repeat with_reducible (first | refine then_exit ?_ | refine in_hit ?_ | refine in_miss rfl ?_)
      obtain rfl := Option.some.inj hM103
      exact ⟨p104.1, rfl, hF.keep _ ⟨rfl, rfl, trivial⟩, S.sel [] rfl rfl⟩
    · replace hM103 := bif_t hc105 hM103
      refine cond_t hF rfl hc105 ?_
      refine wp_skip ?_
      refine wp_seq ?_
      refine wp_block ?_
      refine wp_seq ?_
      refine wp_region_lit ?_
      refine op_val (v := .slice A0 x0.length c0) rfl rfl hF rfl (run_move rfl (hF.ev rfl)) ?_; clear hF; intro a hF
      refine op_val (v := .int .i64 p104.2) rfl rfl hF rfl (run_move rfl (hF.ev rfl)) ?_; clear hF; intro a hF
      obtain ⟨hk106, hM103⟩ := chk_ex hM103
      replace hk106 := ixB_t hk106
      refine op_val (v := .pointer (some ⟨adB A0, adO A0 + p104.2.toNat * 1, none⟩)) rfl rfl hF rfl (run_indexAddr (b := adB A0) (off := adO A0) rfl Tryd.underlying23 sz4 ((hF.ev rfl).trans (congrArg (fun A => Value.slice A x0.length c0) ((S.rc0 h0.rc).rd.ad (ix_pos hk106)))) (hF.ev rfl) hk106.1 hk106.2 (k' := adO A0 + p104.2.toNat * 1) rfl) ?_; clear hF; intro a hF
      refine op_val (v := .bool (x0.getD p104.2.toNat false)) rfl rfl hF rfl (run_load1 rfl one4 (hF.ev rfl) (rd_el0 (l := x0) (S.rc0 h0.rc).rd rfl eB_len false (ix_ltn hk106 rfl) rfl)) ?_; clear hF; intro a hF
      refine wpList_nil ?_
      obtain ⟨o108, hM109, hM103⟩ := bind_ex hM103
      refine wp_cut (fun a u => ∃ (p107 : Int), p107 = o108 ∧ Fr a 18 [(0, .slice A0 x0.length c0), (2, .int .i64 0), (3, .int .i64 p107), (4, .int .i64 p104.2)] ∧ St w u []) ?_ ?_
      · have _ := trivial
        cases hc110 : (x0.getD p104.2.toNat false)
        · replace hM109 := bif_f hc110 hM109
          refine cond_f hF rfl hc110 ?_
          refine wp_skip ?_
          obtain rfl := Option.some.inj hM109
          exact ⟨p104.1, rfl, hF.keep _ ⟨rfl, rfl, rfl, rfl, trivial⟩, S.sel [] rfl rfl⟩
        · replace hM109 := bif_t hc110 hM109
          refine cond_t hF rfl hc110 ?_
          refine wp_region_lit ?_
          refine op_val (v := .int .i64 p104.1) rfl rfl hF rfl (run_move rfl (hF.ev rfl)) ?_; clear hF; intro a hF
          refine op_val (v := .int .i64 (w64 (p104.1 + 1))) rfl rfl hF rfl (run_add (z := w64 (p104.1 + 1)) (hF.ev rfl) rfl rfl rfl) ?_; clear hF; intro a hF
          refine op_val (v := .int .i64 (w64 (p104.1 + 1))) rfl rfl hF rfl (run_assign rfl (hF.ev rfl)) ?_; clear hF; intro a hF
          refine wpList_nil ?_
          obtain rfl := Option.some.inj hM109
          exact ⟨w64 (p104.1 + 1), rfl, hF.keep _ ⟨rfl, rfl, rfl, rfl, trivial⟩, S.sel [] rfl rfl⟩
      · rintro a u ⟨p107, rfl, hF, S⟩
        refine wp_region_lit ?_
        refine op_val (v := .int .i64 p104.2) rfl rfl hF rfl (run_move rfl (hF.ev rfl)) ?_; clear hF; intro a hF
        refine op_val (v := .int .i64 (w64 (p104.2 + 1))) rfl rfl hF rfl (run_add (z := w64 (p104.2 + 1)) (hF.ev rfl) rfl rfl rfl) ?_; clear hF; intro a hF
        refine op_val (v := .int .i64 (w64 (p104.2 + 1))) rfl rfl hF rfl (run_assign rfl (hF.ev rfl)) ?_; clear hF; intro a hF
        refine wpList_nil ?_
        exact ⟨f1, Nat.lt_succ_self _, (p107, w64 (p104.2 + 1)), hM103, hF.keep _ ⟨rfl, rfl, rfl, rfl, trivial⟩, S.sel [] rfl rfl⟩
  · rintro a u ⟨p101, rfl, hF, S⟩
    refine wp_seq ?_
    refine wp_region_lit ?_
    refine op_val (v := .int .i64 p101) rfl rfl hF rfl (run_move rfl (hF.ev rfl)) ?_; clear hF; intro a hF
    refine op_val (v := .int .i64 p101) rfl rfl hF rfl (run_assign rfl (hF.ev rfl)) ?_; clear hF; intro a hF
    refine wpList_nil ?_
    refine wp_ret ?_
    repeat with_reducible (first | refine then_ret ?_ | refine in_ret ?_ | refine in_nrm ?_)
    refine ret1_gw (.inl rfl) hF rfl (res_tmp (hF.ev rfl)) ?_
    obtain rfl := Option.some.inj hM
    exact ⟨rfl, S.sel [] rfl rfl⟩

set_option maxHeartbeats 4000000 in
theorem c_laws_FnWorkClose {x0 : List Int} {A0 : Option Addr} {n0 c0 : Nat} {w : World} {r : Bool} (h0 : Rt w 1 eU A0 n0 c0 x0) (hM : m_laws_FnWorkClose x0 = some r) :
    Calls Tryd.prog 6 #[.slice A0 n0 c0] w (fun e w' => e = .returned (.bool r) ∧ St w w' []) := by
  obtain rfl := h0.len
  unfold m_laws_FnWorkClose at hM
  refine calls_gw Tryd.func6 Tryd.ntmps6 rfl [(0, .slice A0 x0.length c0)] ⟨rfl, trivial⟩ rfl ?_
  intro a hF
  have S := St.nil w
  refine wp_seq ?_
  refine wp_region_lit ?_
  refine op_val (v := .bool false) rfl rfl hF rfl (run_assign rfl rfl) ?_; clear hF; intro a hF
  refine wpList_nil ?_
  refine wp_seq ?_
  refine wp_seq ?_
  refine wp_region_lit ?_
  refine op_val (v := .slice A0 x0.length c0) rfl rfl hF rfl (run_move rfl (hF.ev rfl)) ?_; clear hF; intro a hF
  refine op_val (v := .int .i64 (x0.length : Int)) rfl rfl hF rfl (run_lenL rfl rfl Tryd.underlying22 (hF.ev rfl)) ?_; clear hF; intro a hF
  refine op_val (v := .bool (ltB 1048576 (x0.length : Int))) rfl rfl hF rfl (run_gtr (hF.ev rfl) rfl rfl) ?_; clear hF; intro a hF
  refine wpList_nil ?_
  cases hc101 : (ltB 1048576 (x0.length : Int))
  · replace hM := bif_f hc101 hM
    refine cond_f hF rfl hc101 ?_
    refine wp_skip ?_
    refine wp_seq ?_
    refine wp_region_lit ?_
    refine op_val (v := .slice A0 x0.length c0) rfl rfl hF rfl (run_move rfl (hF.ev rfl)) ?_; clear hF; intro a hF
    obtain ⟨p102, h102, hM⟩ := bind_ex hM
    refine op_call rfl rfl hF rfl (run_call (vs := [.slice A0 x0.length c0]) rfl rfl co22 ⟨(hF.ev rfl), trivial⟩) (c_spec_DrawWorkClose (x0 := x0) ⟨(S.rc0 h0.rc), rfl⟩ h102) ?_
    rintro e u ⟨B103, n104, d105, B106, n107, d108, B109, n110, d111, rfl, rfl, rfl, rfl, T⟩
    refine ⟨_, rfl, ?_⟩
    clear hF; intro a hF
    replace S := S.call3 T; clear T
    refine op_new (cs := #[.slice none 0 0, .slice none 0 0, .slice none 0 0]) rfl rfl hF rfl S (run_allocZ rfl zr26) ?_; clear hF S; intro a g112 u hF S
    refine op_do rfl rfl (run_store (cs' := #[.slice B103 p102.1.length d105, .slice B106 p102.2.1.length d108, .slice B109 p102.2.2.length d111]) rfl sz26 (hF.ev rfl) (hF.ev rfl) rfl rfl rfl (S.free 0 rfl) rfl rfl) ?_; replace S := S.put 0 rfl (#[.slice B103 p102.1.length d105, .slice B106 p102.2.1.length d108, .slice B109 p102.2.2.length d111])
    generalize World.setRow _ _ _ = u at S ⊢
    refine wpList_nil ?_
    refine wp_seq ?_
    refine wp_region_lit ?_
    refine op_val (v := .agg #[.slice B103 p102.1.length d105, .slice B106 p102.2.1.length d108, .slice B109 p102.2.2.length d111]) rfl rfl hF rfl (run_loadN rfl ag26 (hF.ev rfl) rfl ((S.free 0 rfl).cells 0 #[.slice B103 p102.1.length d105, .slice B106 p102.2.1.length d108, .slice B109 p102.2.2.length d111] rfl)) ?_; clear hF; intro a hF
    obtain ⟨p113, h113, hM⟩ := bind_ex hM
    refine op_call rfl rfl hF rfl (run_call (vs := [.agg #[.slice B103 p102.1.length d105, .slice B106 p102.2.1.length d108, .slice B109 p102.2.2.length d111]]) rfl rfl co23 ⟨(hF.ev rfl), trivial⟩) (c_impl_WorkClose (x0 := p102.1) (x1 := p102.2.1) (x2 := p102.2.2) ⟨(S.rc 1 rfl), rfl⟩ ⟨(S.rc 2 rfl), rfl⟩ ⟨(S.rc 3 rfl), rfl⟩ h113) ?_
    rintro e u ⟨B114, n115, d116, rfl, rfl, T⟩
    refine ⟨_, rfl, ?_⟩
    clear hF; intro a hF
    replace S := S.call1 T; clear T
    refine op_val (v := .slice B114 p113.length d116) rfl rfl hF rfl (run_assign rfl (hF.ev rfl)) ?_; clear hF; intro a hF
    refine wpList_nil ?_
    refine wp_seq ?_
    refine wp_seq ?_
    refine wp_region_lit ?_
    refine op_val (v := .slice B114 p113.length d116) rfl rfl hF rfl (run_move rfl (hF.ev rfl)) ?_; clear hF; intro a hF
    refine op_val (v := .agg #[.slice B103 p102.1.length d105, .slice B106 p102.2.1.length d108, .slice B109 p102.2.2.length d111]) rfl rfl hF rfl (run_loadN rfl ag26 (hF.ev rfl) rfl ((S.free 1 rfl).cells 0 #[.slice B103 p102.1.length d105, .slice B106 p102.2.1.length d108, .slice B109 p102.2.2.length d111] rfl)) ?_; clear hF; intro a hF
    obtain ⟨p117, h117, hM⟩ := bind_ex hM
    refine op_call rfl rfl hF rfl (run_call (vs := [.agg #[.slice B103 p102.1.length d105, .slice B106 p102.2.1.length d108, .slice B109 p102.2.2.length d111]]) rfl rfl co25 ⟨(hF.ev rfl), trivial⟩) (c_spec_WorkClose (x0 := p102.1) (x1 := p102.2.1) (x2 := p102.2.2) ⟨(S.rc 2 rfl), rfl⟩ ⟨(S.rc 3 rfl), rfl⟩ ⟨(S.rc 4 rfl), rfl⟩ h117) ?_
    rintro e u ⟨B118, n119, d120, rfl, rfl, T⟩
    refine ⟨_, rfl, ?_⟩
    clear hF; intro a hF
    replace S := S.call1 T; clear T
    obtain ⟨p121, h121, hM⟩ := bind_ex hM
    refine op_call rfl rfl hF rfl (run_call (vs := [.slice B114 p113.length d116, .slice B118 p117.length d120]) rfl rfl co24 ⟨(hF.ev rfl), (hF.ev rfl), trivial⟩) (c_laws_sameDeeds (x0 := p113) (x1 := p117) ⟨(S.rc 1 rfl), rfl⟩ ⟨(S.rc 0 rfl), rfl⟩ h121) ?_
    rintro e u ⟨rfl, T⟩
    refine ⟨_, rfl, ?_⟩
    clear hF; intro a hF
    replace S := S.call0 T; clear T
    refine op_val (v := .bool (!p121)) rfl rfl hF rfl (run_not rfl (hF.ev rfl)) ?_; clear hF; intro a hF
    refine wpList_nil ?_
    cases hc122 : (p121)
    · replace hM := bif_f hc122 hM
      refine cond_t hF rfl (not_t hc122) ?_
      refine wp_seq ?_
      refine wp_region_lit ?_
      refine op_val (v := .bool false) rfl rfl hF rfl (run_assign rfl rfl) ?_; clear hF; intro a hF
      refine wpList_nil ?_
      refine wp_ret ?_
      repeat with_reducible (first | refine then_ret ?_ | refine in_ret ?_ | refine in_nrm ?_)
      refine ret1_gw (.inl rfl) hF rfl (res_tmp (hF.ev rfl)) ?_
      obtain rfl := Option.some.inj hM
      exact ⟨rfl, S.sel [] rfl rfl⟩
    · replace hM := bif_t hc122 hM
      refine cond_f hF rfl (not_f hc122) ?_
      refine wp_skip ?_
      refine wp_seq ?_
      refine wp_seq ?_
      refine wp_region_lit ?_
      refine op_val (v := .agg #[.slice B103 p102.1.length d105, .slice B106 p102.2.1.length d108, .slice B109 p102.2.2.length d111]) rfl rfl hF rfl (run_loadN rfl ag26 (hF.ev rfl) rfl ((S.free 2 rfl).cells 0 #[.slice B103 p102.1.length d105, .slice B106 p102.2.1.length d108, .slice B109 p102.2.2.length d111] rfl)) ?_; clear hF; intro a hF
      obtain ⟨p123, h123, hM⟩ := bind_ex hM
      refine op_call rfl rfl hF rfl (run_call (vs := [.agg #[.slice B103 p102.1.length d105, .slice B106 p102.2.1.length d108, .slice B109 p102.2.2.length d111]]) rfl rfl co21 ⟨(hF.ev rfl), trivial⟩) (c_spec_WorkValid (x0 := p102.1) (x1 := p102.2.1) (x2 := p102.2.2) ⟨(S.rc 3 rfl), rfl⟩ ⟨(S.rc 4 rfl), rfl⟩ ⟨(S.rc 5 rfl), rfl⟩ h123) ?_
      rintro e u ⟨rfl, T⟩
      refine ⟨_, rfl, ?_⟩
      clear hF; intro a hF
      replace S := S.call0 T; clear T
      refine op_val (v := .bool (!p123)) rfl rfl hF rfl (run_not rfl (hF.ev rfl)) ?_; clear hF; intro a hF
      refine wpList_nil ?_
      cases hc124 : (p123)
      · replace hM := bif_f hc124 hM
        refine cond_t hF rfl (not_t hc124) ?_
        refine wp_seq ?_
        refine wp_region_lit ?_
        refine op_val (v := .slice B114 p113.length d116) rfl rfl hF rfl (run_move rfl (hF.ev rfl)) ?_; clear hF; intro a hF
        refine op_val (v := .int .i64 (p113.length : Int)) rfl rfl hF rfl (run_lenL rfl rfl Tryd.underlying43 (hF.ev rfl)) ?_; clear hF; intro a hF
        refine op_val (v := .bool ((p113.length : Int) == 0)) rfl rfl hF rfl (run_eql (hF.ev rfl) rfl rfl) ?_; clear hF; intro a hF
        refine op_val (v := .bool ((p113.length : Int) == 0)) rfl rfl hF rfl (run_move rfl (hF.ev rfl)) ?_; clear hF; intro a hF
        obtain ⟨p125, h125, hM⟩ := bind_ex hM
        refine op_gcall (v := .bool p125) rfl rfl hF rfl S (yt (gw_yield hF rfl rfl rfl)) (fun hg => (run_call (vs := []) rfl rfl co13 trivial)) (fun hg => c_laws_alive   (gb_t h125 hg)) ?_; clear hF S; intro a u hF S
        refine op_val (v := .bool (((p113.length : Int) == 0) && p125)) rfl rfl hF rfl (run_pick_and rfl (hF.ev rfl) (fun hp => ((hF.ev rfl).trans (gv_t hp))) rfl) ?_; clear hF; intro a hF
        refine op_val (v := .bool (((p113.length : Int) == 0) && p125)) rfl rfl hF rfl (run_assign rfl (hF.ev rfl)) ?_; clear hF; intro a hF
        refine wpList_nil ?_
        refine wp_ret ?_
        repeat with_reducible (first | refine then_ret ?_ | refine in_ret ?_ | refine in_nrm ?_)
        refine ret1_gw (.inl rfl) hF rfl (res_tmp (hF.ev rfl)) ?_
        obtain rfl := Option.some.inj hM
        exact ⟨rfl, S.sel [] rfl rfl⟩
      · replace hM := bif_t hc124 hM
        refine cond_f hF rfl (not_f hc124) ?_
        refine wp_skip ?_
        refine wp_seq ?_
        refine wp_region_lit ?_
        refine op_val (v := .agg #[.slice B103 p102.1.length d105, .slice B106 p102.2.1.length d108, .slice B109 p102.2.2.length d111]) rfl rfl hF rfl (run_loadN rfl ag26 (hF.ev rfl) rfl ((S.free 2 rfl).cells 0 #[.slice B103 p102.1.length d105, .slice B106 p102.2.1.length d108, .slice B109 p102.2.2.length d111] rfl)) ?_; clear hF; intro a hF
        refine op_val (v := .slice B114 p113.length d116) rfl rfl hF rfl (run_move rfl (hF.ev rfl)) ?_; clear hF; intro a hF
        obtain ⟨p126, h126, hM⟩ := bind_ex hM
        refine op_call rfl rfl hF rfl (run_call (vs := [.agg #[.slice B103 p102.1.length d105, .slice B106 p102.2.1.length d108, .slice B109 p102.2.2.length d111], .slice B114 p113.length d116]) rfl rfl co19 ⟨(hF.ev rfl), (hF.ev rfl), trivial⟩) (c_impl_WorkRun (x0 := p102.1) (x1 := p102.2.1) (x2 := p102.2.2) (x3 := p113) ⟨(S.rc 3 rfl), rfl⟩ ⟨(S.rc 4 rfl), rfl⟩ ⟨(S.rc 5 rfl), rfl⟩ ⟨(S.rc 1 rfl), rfl⟩ h126) ?_
        rintro e u ⟨B127, n128, d129, B130, n131, d132, B133, n134, d135, rfl, rfl, rfl, rfl, T⟩
        refine ⟨_, rfl, ?_⟩
        clear hF; intro a hF
        replace S := S.call3 T; clear T
        refine op_val (v := .tuple #[.agg #[.slice B127 p126.1.length d129, .slice B130 p126.2.1.length d132, .slice B133 p126.2.2.1.length d135], .int .i64 p126.2.2.2]) rfl rfl hF rfl (run_move rfl (hF.ev rfl)) ?_; clear hF; intro a hF
        refine op_val (v := .agg #[.slice B127 p126.1.length d129, .slice B130 p126.2.1.length d132, .slice B133 p126.2.2.1.length d135]) rfl rfl hF rfl (run_extract rfl (hF.ev rfl) rfl) ?_; clear hF; intro a hF
        refine op_val (v := .int .i64 p126.2.2.2) rfl rfl hF rfl (run_extract rfl (hF.ev rfl) rfl) ?_; clear hF; intro a hF
        refine op_new (cs := #[.slice none 0 0, .slice none 0 0, .slice none 0 0]) rfl rfl hF rfl S (run_allocZ rfl zr26) ?_; clear hF S; intro a g136 u hF S
        refine op_do rfl rfl (run_store (cs' := #[.slice B127 p126.1.length d129, .slice B130 p126.2.1.length d132, .slice B133 p126.2.2.1.length d135]) rfl sz26 (hF.ev rfl) (hF.ev rfl) rfl rfl rfl (S.free 0 rfl) rfl rfl) ?_; replace S := S.put 0 rfl (#[.slice B127 p126.1.length d129, .slice B130 p126.2.1.length d132, .slice B133 p126.2.2.1.length d135])
        generalize World.setRow _ _ _ = u at S ⊢
        refine op_val (v := .int .i64 p126.2.2.2) rfl rfl hF rfl (run_assign rfl (hF.ev rfl)) ?_; clear hF; intro a hF
        refine wpList_nil ?_
        refine wp_seq ?_
        obtain ⟨p137, h137, hM⟩ := bind_ex hM
        obtain ⟨p138, h138, hM⟩ := bind_ex hM
        refine region_gw (D := [34, 35, 36, 37, 38, 39, 40, 41, 42, 43, 44, 45, 46, 47, 48, 49, 50, 51, 52, 53, 54, 55, 56, 57, 58, 59, 60, 61, 62, 63, 64, 65, 66, 67, 2]) (Lr := [.box g136 26 #[.slice B127 p126.1.length d129, .slice B130 p126.2.1.length d132, .slice B133 p126.2.2.1.length d135], .row 4 1 (.slice B127 p126.1.length d129) p126.1.length (p126.1.flatMap eB), .row 4 1 (.slice B130 p126.2.1.length d132) p126.2.1.length (p126.2.1.flatMap eB), .row 48 2 (.slice B133 p126.2.2.1.length d135) p126.2.2.1.length (p126.2.2.1.flatMap ePermit), .row 35 3 (.slice B118 p117.length d120) p117.length (p117.flatMap eWorkDeed), .row 35 3 (.slice B114 p113.length d116) p113.length (p113.flatMap eWorkDeed), .box g112 26 #[.slice B103 p102.1.length d105, .slice B106 p102.2.1.length d108, .slice B109 p102.2.2.length d111], .row 4 1 (.slice B103 p102.1.length d105) p102.1.length (p102.1.flatMap eB), .row 4 1 (.slice B106 p102.2.1.length d108) p102.2.1.length (p102.2.1.flatMap eB), .row 48 2 (.slice B109 p102.2.2.length d111) p102.2.2.length (p102.2.2.flatMap ePermit)]) (deps := (fun | 0 => [34] | 1 => [35] | 2 => [36] | 3 => [37] | 4 => [38] | 5 => [39] | 6 => [40] | 7 => [41] | 8 => [42] | 9 => [43] | 10 => [44] | 11 => [45] | 12 => [46] | 13 => [47] | 14 => [48] | 15 => [49] | 16 => [50] | 17 => [51] | 18 => [52] | 19 => [53] | 20 => [54] | 21 => [55] | 22 => [56] | 23 => [57] | 24 => [58] | 25 => [59] | 26 => [60] | 27 => [61] | 28 => [62] | 29 => [63] | 30 => [64] | 31 => [65] | 32 => [66] | 33 => [67] | 34 => [2] | _ => [])) (rd := (fun _ => [])) (zr := (fun _ => []))
          (φ := fun i vs => match i, vs with | 0, [v34] => v34 = .int .i64 p126.2.2.2 | 1, [v35] => v35 = .slice B114 p113.length d116 | 2, [v36] => v36 = .int .i64 (p113.length : Int) | 3, [v37] => v37 = .bool (p126.2.2.2 == (p113.length : Int)) | 4, [v38] => v38 = .bool (p126.2.2.2 == (p113.length : Int)) | 5, [v39] => v39 = gv (p126.2.2.2 == (p113.length : Int)) (.pointer (some ⟨g136, 0, none⟩)) | 6, [v40] => v40 = gv (p126.2.2.2 == (p113.length : Int)) (.slice B127 p126.1.length d129) | 7, [v41] => v41 = gv (p126.2.2.2 == (p113.length : Int)) (.int .i64 (p126.1.length : Int)) | 8, [v42] => v42 = gv (p126.2.2.2 == (p113.length : Int)) (.pointer (some ⟨g112, 0, none⟩)) | 9, [v43] => v43 = gv (p126.2.2.2 == (p113.length : Int)) (.slice B103 p102.1.length d105) | 10, [v44] => v44 = gv (p126.2.2.2 == (p113.length : Int)) (.int .i64 (p102.1.length : Int)) | 11, [v45] => v45 = gv (p126.2.2.2 == (p113.length : Int)) (.bool ((p126.1.length : Int) == (p102.1.length : Int))) | 12, [v46] => v46 = .bool ((p126.2.2.2 == (p113.length : Int)) && ((p126.1.length : Int) == (p102.1.length : Int))) | 13, [v47] => v47 = .bool ((p126.2.2.2 == (p113.length : Int)) && ((p126.1.length : Int) == (p102.1.length : Int))) | 14, [v48] => v48 = gv ((p126.2.2.2 == (p113.length : Int)) && ((p126.1.length : Int) == (p102.1.length : Int))) (.pointer (some ⟨g136, 0, none⟩)) | 15, [v49] => v49 = gv ((p126.2.2.2 == (p113.length : Int)) && ((p126.1.length : Int) == (p102.1.length : Int))) (.slice B127 p126.1.length d129) | 16, [v50] => v50 = gv ((p126.2.2.2 == (p113.length : Int)) && ((p126.1.length : Int) == (p102.1.length : Int))) (.int .i64 p137) | 17, [v51] => v51 = gv ((p126.2.2.2 == (p113.length : Int)) && ((p126.1.length : Int) == (p102.1.length : Int))) (.pointer (some ⟨g112, 0, none⟩)) | 18, [v52] => v52 = gv ((p126.2.2.2 == (p113.length : Int)) && ((p126.1.length : Int) == (p102.1.length : Int))) (.slice B103 p102.1.length d105) | 19, [v53] => v53 = gv ((p126.2.2.2 == (p113.length : Int)) && ((p126.1.length : Int) == (p102.1.length : Int))) (.int .i64 (p102.1.length : Int)) | 20, [v54] => v54 = gv ((p126.2.2.2 == (p113.length : Int)) && ((p126.1.length : Int) == (p102.1.length : Int))) (.bool (p137 == (p102.1.length : Int))) | 21, [v55] => v55 = .bool (((p126.2.2.2 == (p113.length : Int)) && ((p126.1.length : Int) == (p102.1.length : Int))) && (p137 == (p102.1.length : Int))) | 22, [v56] => v56 = .bool (((p126.2.2.2 == (p113.length : Int)) && ((p126.1.length : Int) == (p102.1.length : Int))) && (p137 == (p102.1.length : Int))) | 23, [v57] => v57 = gv (((p126.2.2.2 == (p113.length : Int)) && ((p126.1.length : Int) == (p102.1.length : Int))) && (p137 == (p102.1.length : Int))) (.pointer (some ⟨g136, 1, none⟩)) | 24, [v58] => v58 = gv (((p126.2.2.2 == (p113.length : Int)) && ((p126.1.length : Int) == (p102.1.length : Int))) && (p137 == (p102.1.length : Int))) (.slice B130 p126.2.1.length d132) | 25, [v59] => v59 = gv (((p126.2.2.2 == (p113.length : Int)) && ((p126.1.length : Int) == (p102.1.length : Int))) && (p137 == (p102.1.length : Int))) (.int .i64 p138) | 26, [v60] => v60 = gv (((p126.2.2.2 == (p113.length : Int)) && ((p126.1.length : Int) == (p102.1.length : Int))) && (p137 == (p102.1.length : Int))) (.bool (p138 == 0)) | 27, [v61] => v61 = .bool ((((p126.2.2.2 == (p113.length : Int)) && ((p126.1.length : Int) == (p102.1.length : Int))) && (p137 == (p102.1.length : Int))) && (p138 == 0)) | 28, [v62] => v62 = .bool ((((p126.2.2.2 == (p113.length : Int)) && ((p126.1.length : Int) == (p102.1.length : Int))) && (p137 == (p102.1.length : Int))) && (p138 == 0)) | 29, [v63] => v63 = gv ((((p126.2.2.2 == (p113.length : Int)) && ((p126.1.length : Int) == (p102.1.length : Int))) && (p137 == (p102.1.length : Int))) && (p138 == 0)) (.pointer (some ⟨g136, 2, none⟩)) | 30, [v64] => v64 = gv ((((p126.2.2.2 == (p113.length : Int)) && ((p126.1.length : Int) == (p102.1.length : Int))) && (p137 == (p102.1.length : Int))) && (p138 == 0)) (.slice B133 p126.2.2.1.length d135) | 31, [v65] => v65 = gv ((((p126.2.2.2 == (p113.length : Int)) && ((p126.1.length : Int) == (p102.1.length : Int))) && (p137 == (p102.1.length : Int))) && (p138 == 0)) (.int .i64 (p126.2.2.1.length : Int)) | 32, [v66] => v66 = gv ((((p126.2.2.2 == (p113.length : Int)) && ((p126.1.length : Int) == (p102.1.length : Int))) && (p137 == (p102.1.length : Int))) && (p138 == 0)) (.bool ((p126.2.2.1.length : Int) == 0)) | 33, [v67] => v67 = .bool (((((p126.2.2.2 == (p113.length : Int)) && ((p126.1.length : Int) == (p102.1.length : Int))) && (p137 == (p102.1.length : Int))) && (p138 == 0)) && ((p126.2.2.1.length : Int) == 0)) | 34, [v2] => v2 = .bool (((((p126.2.2.2 == (p113.length : Int)) && ((p126.1.length : Int) == (p102.1.length : Int))) && (p137 == (p102.1.length : Int))) && (p138 == 0)) && ((p126.2.2.1.length : Int) == 0)) | _, _ => True)
          (C := fun _ _ => [])
          (κ := (fun _ => none)) (Z := (fun _ => [])) mixed hF (by kernel_rfl) S ?_ ?_
        · refine ⟨?_, ?_, ?_, ?_, ?_, ?_, ?_, ?_, ?_, ?_, ?_, ?_, ?_, ?_, ?_, ?_, ?_, ?_, ?_, ?_, ?_, ?_, ?_, ?_, ?_, ?_, ?_, ?_, ?_, ?_, ?_, ?_, ?_, ?_, ?_, trivial⟩
          · intro a u X hB hu hp hr hz hl S
            replace S : St w u ([] ++ X) := S
            exact .inl ⟨rfl, .int .i64 p126.2.2.2, u, (run_move rfl (hF.evB hB rfl rfl)), rfl, S⟩
          · intro a u X hB hu hp hr hz hl S
            replace S : St w u ([] ++ X) := S
            exact .inl ⟨rfl, .slice B114 p113.length d116, u, (run_move rfl (hF.evB hB rfl rfl)), rfl, S⟩
          · intro a u X hB hu hp hr hz hl S
            replace S : St w u ([] ++ X) := S
            have e35 : sl a 35 = .slice B114 p113.length d116 := hp 1 rfl
            exact .inl ⟨rfl, .int .i64 (p113.length : Int), u, (run_lenL rfl rfl Tryd.underlying43 (ev_sl e35)), rfl, S⟩
          · intro a u X hB hu hp hr hz hl S
            replace S : St w u ([] ++ X) := S
            have e34 : sl a 34 = .int .i64 p126.2.2.2 := hp 0 rfl
            have e36 : sl a 36 = .int .i64 (p113.length : Int) := hp 2 rfl
            exact .inl ⟨rfl, .bool (p126.2.2.2 == (p113.length : Int)), u, (run_eql (ev_sl e34) (ev_sl e36) rfl), rfl, S⟩
          · intro a u X hB hu hp hr hz hl S
            replace S : St w u ([] ++ X) := S
            have e37 : sl a 37 = .bool (p126.2.2.2 == (p113.length : Int)) := hp 3 rfl
            exact .inl ⟨rfl, .bool (p126.2.2.2 == (p113.length : Int)), u, (run_move rfl (ev_sl e37)), rfl, S⟩
          · intro a u X hB hu hp hr hz hl S
            replace S : St w u ([] ++ X) := S
            have e38 : sl a 38 = .bool (p126.2.2.2 == (p113.length : Int)) := hp 4 rfl
            rcases (Bool.eq_false_or_eq_true (p126.2.2.2 == (p113.length : Int))).symm with hg | hg
            · exact .inr (.inr (.inr ⟨gr_eg rfl (yt (gr_yield rfl rfl e38)) hg, (gv_f hg).symm, S⟩))
            · exact .inl ⟨gr_eg rfl (yt (gr_yield rfl rfl e38)) hg, .pointer (some ⟨g136, 0, none⟩), u, (run_fieldAddr rfl fl26_0 (hF.evB hB rfl rfl) rfl), (gv_t hg).symm, S⟩
          · intro a u X hB hu hp hr hz hl S
            replace S : St w u ([] ++ X) := S
            have e38 : sl a 38 = .bool (p126.2.2.2 == (p113.length : Int)) := hp 4 rfl
            have e39 : sl a 39 = gv (p126.2.2.2 == (p113.length : Int)) (.pointer (some ⟨g136, 0, none⟩)) := hp 5 rfl
            rcases (Bool.eq_false_or_eq_true (p126.2.2.2 == (p113.length : Int))).symm with hg | hg
            · exact .inr (.inr (.inr ⟨gr_eg rfl (yt (gr_yield rfl rfl e38)) hg, (gv_f hg).symm, S⟩))
            · exact .inl ⟨gr_eg rfl (yt (gr_yield rfl rfl e38)) hg, .slice B127 p126.1.length d129, u, (run_load1 rfl one23 ((ev_sl e39).trans (gv_t hg)) ((gr_box S hl 0 rfl).cell rfl)), (gv_t hg).symm, S⟩
          · intro a u X hB hu hp hr hz hl S
            replace S : St w u ([] ++ X) := S
            have e38 : sl a 38 = .bool (p126.2.2.2 == (p113.length : Int)) := hp 4 rfl
            have e40 : sl a 40 = gv (p126.2.2.2 == (p113.length : Int)) (.slice B127 p126.1.length d129) := hp 6 rfl
            rcases (Bool.eq_false_or_eq_true (p126.2.2.2 == (p113.length : Int))).symm with hg | hg
            · exact .inr (.inr (.inr ⟨gr_eg rfl (yt (gr_yield rfl rfl e38)) hg, (gv_f hg).symm, S⟩))
            · exact .inl ⟨gr_eg rfl (yt (gr_yield rfl rfl e38)) hg, .int .i64 (p126.1.length : Int), u, (run_lenL rfl rfl Tryd.underlying23 ((ev_sl e40).trans (gv_t hg))), (gv_t hg).symm, S⟩
          · intro a u X hB hu hp hr hz hl S
            replace S : St w u ([] ++ X) := S
            have e38 : sl a 38 = .bool (p126.2.2.2 == (p113.length : Int)) := hp 4 rfl
            rcases (Bool.eq_false_or_eq_true (p126.2.2.2 == (p113.length : Int))).symm with hg | hg
            · exact .inr (.inr (.inr ⟨gr_eg rfl (yt (gr_yield rfl rfl e38)) hg, (gv_f hg).symm, S⟩))
            · exact .inl ⟨gr_eg rfl (yt (gr_yield rfl rfl e38)) hg, .pointer (some ⟨g112, 0, none⟩), u, (run_fieldAddr rfl fl26_0 (hF.evB hB rfl rfl) rfl), (gv_t hg).symm, S⟩
          · intro a u X hB hu hp hr hz hl S
            replace S : St w u ([] ++ X) := S
            have e38 : sl a 38 = .bool (p126.2.2.2 == (p113.length : Int)) := hp 4 rfl
            have e42 : sl a 42 = gv (p126.2.2.2 == (p113.length : Int)) (.pointer (some ⟨g112, 0, none⟩)) := hp 8 rfl
            rcases (Bool.eq_false_or_eq_true (p126.2.2.2 == (p113.length : Int))).symm with hg | hg
            · exact .inr (.inr (.inr ⟨gr_eg rfl (yt (gr_yield rfl rfl e38)) hg, (gv_f hg).symm, S⟩))
            · exact .inl ⟨gr_eg rfl (yt (gr_yield rfl rfl e38)) hg, .slice B103 p102.1.length d105, u, (run_load1 rfl one23 ((ev_sl e42).trans (gv_t hg)) ((gr_box S hl 6 rfl).cell rfl)), (gv_t hg).symm, S⟩
          · intro a u X hB hu hp hr hz hl S
            replace S : St w u ([] ++ X) := S
            have e38 : sl a 38 = .bool (p126.2.2.2 == (p113.length : Int)) := hp 4 rfl
            have e43 : sl a 43 = gv (p126.2.2.2 == (p113.length : Int)) (.slice B103 p102.1.length d105) := hp 9 rfl
            rcases (Bool.eq_false_or_eq_true (p126.2.2.2 == (p113.length : Int))).symm with hg | hg
            · exact .inr (.inr (.inr ⟨gr_eg rfl (yt (gr_yield rfl rfl e38)) hg, (gv_f hg).symm, S⟩))
            · exact .inl ⟨gr_eg rfl (yt (gr_yield rfl rfl e38)) hg, .int .i64 (p102.1.length : Int), u, (run_lenL rfl rfl Tryd.underlying23 ((ev_sl e43).trans (gv_t hg))), (gv_t hg).symm, S⟩
          · intro a u X hB hu hp hr hz hl S
            replace S : St w u ([] ++ X) := S
            have e38 : sl a 38 = .bool (p126.2.2.2 == (p113.length : Int)) := hp 4 rfl
            have e41 : sl a 41 = gv (p126.2.2.2 == (p113.length : Int)) (.int .i64 (p126.1.length : Int)) := hp 7 rfl
            have e44 : sl a 44 = gv (p126.2.2.2 == (p113.length : Int)) (.int .i64 (p102.1.length : Int)) := hp 10 rfl
            rcases (Bool.eq_false_or_eq_true (p126.2.2.2 == (p113.length : Int))).symm with hg | hg
            · exact .inr (.inr (.inr ⟨gr_eg rfl (yt (gr_yield rfl rfl e38)) hg, (gv_f hg).symm, S⟩))
            · exact .inl ⟨gr_eg rfl (yt (gr_yield rfl rfl e38)) hg, .bool ((p126.1.length : Int) == (p102.1.length : Int)), u, (run_eql ((ev_sl e41).trans (gv_t hg)) ((ev_sl e44).trans (gv_t hg)) rfl), (gv_t hg).symm, S⟩
          · intro a u X hB hu hp hr hz hl S
            replace S : St w u ([] ++ X) := S
            have e38 : sl a 38 = .bool (p126.2.2.2 == (p113.length : Int)) := hp 4 rfl
            have e45 : sl a 45 = gv (p126.2.2.2 == (p113.length : Int)) (.bool ((p126.1.length : Int) == (p102.1.length : Int))) := hp 11 rfl
            exact .inl ⟨rfl, .bool ((p126.2.2.2 == (p113.length : Int)) && ((p126.1.length : Int) == (p102.1.length : Int))), u, (run_pick_and rfl (ev_sl e38) (fun hp => ((ev_sl e45).trans (gv_t hp))) (ev_const _ _)), rfl, S⟩
          · intro a u X hB hu hp hr hz hl S
            replace S : St w u ([] ++ X) := S
            have e46 : sl a 46 = .bool ((p126.2.2.2 == (p113.length : Int)) && ((p126.1.length : Int) == (p102.1.length : Int))) := hp 12 rfl
            exact .inl ⟨rfl, .bool ((p126.2.2.2 == (p113.length : Int)) && ((p126.1.length : Int) == (p102.1.length : Int))), u, (run_move rfl (ev_sl e46)), rfl, S⟩
          · intro a u X hB hu hp hr hz hl S
            replace S : St w u ([] ++ X) := S
            have e47 : sl a 47 = .bool ((p126.2.2.2 == (p113.length : Int)) && ((p126.1.length : Int) == (p102.1.length : Int))) := hp 13 rfl
            rcases (Bool.eq_false_or_eq_true ((p126.2.2.2 == (p113.length : Int)) && ((p126.1.length : Int) == (p102.1.length : Int)))).symm with hg | hg
            · exact .inr (.inr (.inr ⟨gr_eg rfl (yt (gr_yield rfl rfl e47)) hg, (gv_f hg).symm, S⟩))
            · exact .inl ⟨gr_eg rfl (yt (gr_yield rfl rfl e47)) hg, .pointer (some ⟨g136, 0, none⟩), u, (run_fieldAddr rfl fl26_0 (hF.evB hB rfl rfl) rfl), (gv_t hg).symm, S⟩
          · intro a u X hB hu hp hr hz hl S
            replace S : St w u ([] ++ X) := S
            have e47 : sl a 47 = .bool ((p126.2.2.2 == (p113.length : Int)) && ((p126.1.length : Int) == (p102.1.length : Int))) := hp 13 rfl
            have e48 : sl a 48 = gv ((p126.2.2.2 == (p113.length : Int)) && ((p126.1.length : Int) == (p102.1.length : Int))) (.pointer (some ⟨g136, 0, none⟩)) := hp 14 rfl
            rcases (Bool.eq_false_or_eq_true ((p126.2.2.2 == (p113.length : Int)) && ((p126.1.length : Int) == (p102.1.length : Int)))).symm with hg | hg
            · exact .inr (.inr (.inr ⟨gr_eg rfl (yt (gr_yield rfl rfl e47)) hg, (gv_f hg).symm, S⟩))
            · exact .inl ⟨gr_eg rfl (yt (gr_yield rfl rfl e47)) hg, .slice B127 p126.1.length d129, u, (run_load1 rfl one23 ((ev_sl e48).trans (gv_t hg)) ((gr_box S hl 0 rfl).cell rfl)), (gv_t hg).symm, S⟩
          · intro a u X hB hu hp hr hz hl S
            replace S : St w u ([] ++ X) := S
            have e47 : sl a 47 = .bool ((p126.2.2.2 == (p113.length : Int)) && ((p126.1.length : Int) == (p102.1.length : Int))) := hp 13 rfl
            have e49 : sl a 49 = gv ((p126.2.2.2 == (p113.length : Int)) && ((p126.1.length : Int) == (p102.1.length : Int))) (.slice B127 p126.1.length d129) := hp 15 rfl
            rcases (Bool.eq_false_or_eq_true ((p126.2.2.2 == (p113.length : Int)) && ((p126.1.length : Int) == (p102.1.length : Int)))).symm with hg | hg
            · exact .inr (.inr (.inr ⟨gr_eg rfl (yt (gr_yield rfl rfl e47)) hg, (gv_f hg).symm, S⟩))
            · refine .inr (.inr (.inl ⟨gr_eg rfl (yt (gr_yield rfl rfl e47)) hg, _, _, (run_call (vs := [.slice B127 p126.1.length d129]) rfl rfl co26 ⟨((ev_sl e49).trans (gv_t hg)), trivial⟩), ?_⟩))
              refine Calls.mono (c_laws_count (x0 := p126.1) ⟨(gr_rc S hl 1 rfl), rfl⟩ (gb_t h137 hg)) ?_
              rintro e w1 ⟨rfl, T⟩
              exact ⟨_, rfl, (gv_t hg).symm, S.call0 T⟩
          · intro a u X hB hu hp hr hz hl S
            replace S : St w u ([] ++ X) := S
            have e47 : sl a 47 = .bool ((p126.2.2.2 == (p113.length : Int)) && ((p126.1.length : Int) == (p102.1.length : Int))) := hp 13 rfl
            rcases (Bool.eq_false_or_eq_true ((p126.2.2.2 == (p113.length : Int)) && ((p126.1.length : Int) == (p102.1.length : Int)))).symm with hg | hg
            · exact .inr (.inr (.inr ⟨gr_eg rfl (yt (gr_yield rfl rfl e47)) hg, (gv_f hg).symm, S⟩))
            · exact .inl ⟨gr_eg rfl (yt (gr_yield rfl rfl e47)) hg, .pointer (some ⟨g112, 0, none⟩), u, (run_fieldAddr rfl fl26_0 (hF.evB hB rfl rfl) rfl), (gv_t hg).symm, S⟩
          · intro a u X hB hu hp hr hz hl S
            replace S : St w u ([] ++ X) := S
            have e47 : sl a 47 = .bool ((p126.2.2.2 == (p113.length : Int)) && ((p126.1.length : Int) == (p102.1.length : Int))) := hp 13 rfl
            have e51 : sl a 51 = gv ((p126.2.2.2 == (p113.length : Int)) && ((p126.1.length : Int) == (p102.1.length : Int))) (.pointer (some ⟨g112, 0, none⟩)) := hp 17 rfl
            rcases (Bool.eq_false_or_eq_true ((p126.2.2.2 == (p113.length : Int)) && ((p126.1.length : Int) == (p102.1.length : Int)))).symm with hg | hg
            · exact .inr (.inr (.inr ⟨gr_eg rfl (yt (gr_yield rfl rfl e47)) hg, (gv_f hg).symm, S⟩))
            · exact .inl ⟨gr_eg rfl (yt (gr_yield rfl rfl e47)) hg, .slice B103 p102.1.length d105, u, (run_load1 rfl one23 ((ev_sl e51).trans (gv_t hg)) ((gr_box S hl 6 rfl).cell rfl)), (gv_t hg).symm, S⟩
          · intro a u X hB hu hp hr hz hl S
            replace S : St w u ([] ++ X) := S
            have e47 : sl a 47 = .bool ((p126.2.2.2 == (p113.length : Int)) && ((p126.1.length : Int) == (p102.1.length : Int))) := hp 13 rfl
            have e52 : sl a 52 = gv ((p126.2.2.2 == (p113.length : Int)) && ((p126.1.length : Int) == (p102.1.length : Int))) (.slice B103 p102.1.length d105) := hp 18 rfl
            rcases (Bool.eq_false_or_eq_true ((p126.2.2.2 == (p113.length : Int)) && ((p126.1.length : Int) == (p102.1.length : Int)))).symm with hg | hg
            · exact .inr (.inr (.inr ⟨gr_eg rfl (yt (gr_yield rfl rfl e47)) hg, (gv_f hg).symm, S⟩))
            · exact .inl ⟨gr_eg rfl (yt (gr_yield rfl rfl e47)) hg, .int .i64 (p102.1.length : Int), u, (run_lenL rfl rfl Tryd.underlying23 ((ev_sl e52).trans (gv_t hg))), (gv_t hg).symm, S⟩
          · intro a u X hB hu hp hr hz hl S
            replace S : St w u ([] ++ X) := S
            have e47 : sl a 47 = .bool ((p126.2.2.2 == (p113.length : Int)) && ((p126.1.length : Int) == (p102.1.length : Int))) := hp 13 rfl
            have e50 : sl a 50 = gv ((p126.2.2.2 == (p113.length : Int)) && ((p126.1.length : Int) == (p102.1.length : Int))) (.int .i64 p137) := hp 16 rfl
            have e53 : sl a 53 = gv ((p126.2.2.2 == (p113.length : Int)) && ((p126.1.length : Int) == (p102.1.length : Int))) (.int .i64 (p102.1.length : Int)) := hp 19 rfl
            rcases (Bool.eq_false_or_eq_true ((p126.2.2.2 == (p113.length : Int)) && ((p126.1.length : Int) == (p102.1.length : Int)))).symm with hg | hg
            · exact .inr (.inr (.inr ⟨gr_eg rfl (yt (gr_yield rfl rfl e47)) hg, (gv_f hg).symm, S⟩))
            · exact .inl ⟨gr_eg rfl (yt (gr_yield rfl rfl e47)) hg, .bool (p137 == (p102.1.length : Int)), u, (run_eql ((ev_sl e50).trans (gv_t hg)) ((ev_sl e53).trans (gv_t hg)) rfl), (gv_t hg).symm, S⟩
          · intro a u X hB hu hp hr hz hl S
            replace S : St w u ([] ++ X) := S
            have e47 : sl a 47 = .bool ((p126.2.2.2 == (p113.length : Int)) && ((p126.1.length : Int) == (p102.1.length : Int))) := hp 13 rfl
            have e54 : sl a 54 = gv ((p126.2.2.2 == (p113.length : Int)) && ((p126.1.length : Int) == (p102.1.length : Int))) (.bool (p137 == (p102.1.length : Int))) := hp 20 rfl
            exact .inl ⟨rfl, .bool (((p126.2.2.2 == (p113.length : Int)) && ((p126.1.length : Int) == (p102.1.length : Int))) && (p137 == (p102.1.length : Int))), u, (run_pick_and rfl (ev_sl e47) (fun hp => ((ev_sl e54).trans (gv_t hp))) (ev_const _ _)), rfl, S⟩
          · intro a u X hB hu hp hr hz hl S
            replace S : St w u ([] ++ X) := S
            have e55 : sl a 55 = .bool (((p126.2.2.2 == (p113.length : Int)) && ((p126.1.length : Int) == (p102.1.length : Int))) && (p137 == (p102.1.length : Int))) := hp 21 rfl
            exact .inl ⟨rfl, .bool (((p126.2.2.2 == (p113.length : Int)) && ((p126.1.length : Int) == (p102.1.length : Int))) && (p137 == (p102.1.length : Int))), u, (run_move rfl (ev_sl e55)), rfl, S⟩
          · intro a u X hB hu hp hr hz hl S
            replace S : St w u ([] ++ X) := S
            have e56 : sl a 56 = .bool (((p126.2.2.2 == (p113.length : Int)) && ((p126.1.length : Int) == (p102.1.length : Int))) && (p137 == (p102.1.length : Int))) := hp 22 rfl
            rcases (Bool.eq_false_or_eq_true (((p126.2.2.2 == (p113.length : Int)) && ((p126.1.length : Int) == (p102.1.length : Int))) && (p137 == (p102.1.length : Int)))).symm with hg | hg
            · exact .inr (.inr (.inr ⟨gr_eg rfl (yt (gr_yield rfl rfl e56)) hg, (gv_f hg).symm, S⟩))
            · exact .inl ⟨gr_eg rfl (yt (gr_yield rfl rfl e56)) hg, .pointer (some ⟨g136, 1, none⟩), u, (run_fieldAddr rfl fl26_1 (hF.evB hB rfl rfl) rfl), (gv_t hg).symm, S⟩
          · intro a u X hB hu hp hr hz hl S
            replace S : St w u ([] ++ X) := S
            have e56 : sl a 56 = .bool (((p126.2.2.2 == (p113.length : Int)) && ((p126.1.length : Int) == (p102.1.length : Int))) && (p137 == (p102.1.length : Int))) := hp 22 rfl
            have e57 : sl a 57 = gv (((p126.2.2.2 == (p113.length : Int)) && ((p126.1.length : Int) == (p102.1.length : Int))) && (p137 == (p102.1.length : Int))) (.pointer (some ⟨g136, 1, none⟩)) := hp 23 rfl
            rcases (Bool.eq_false_or_eq_true (((p126.2.2.2 == (p113.length : Int)) && ((p126.1.length : Int) == (p102.1.length : Int))) && (p137 == (p102.1.length : Int)))).symm with hg | hg
            · exact .inr (.inr (.inr ⟨gr_eg rfl (yt (gr_yield rfl rfl e56)) hg, (gv_f hg).symm, S⟩))
            · exact .inl ⟨gr_eg rfl (yt (gr_yield rfl rfl e56)) hg, .slice B130 p126.2.1.length d132, u, (run_load1 rfl one23 ((ev_sl e57).trans (gv_t hg)) ((gr_box S hl 0 rfl).cell rfl)), (gv_t hg).symm, S⟩
          · intro a u X hB hu hp hr hz hl S
            replace S : St w u ([] ++ X) := S
            have e56 : sl a 56 = .bool (((p126.2.2.2 == (p113.length : Int)) && ((p126.1.length : Int) == (p102.1.length : Int))) && (p137 == (p102.1.length : Int))) := hp 22 rfl
            have e58 : sl a 58 = gv (((p126.2.2.2 == (p113.length : Int)) && ((p126.1.length : Int) == (p102.1.length : Int))) && (p137 == (p102.1.length : Int))) (.slice B130 p126.2.1.length d132) := hp 24 rfl
            rcases (Bool.eq_false_or_eq_true (((p126.2.2.2 == (p113.length : Int)) && ((p126.1.length : Int) == (p102.1.length : Int))) && (p137 == (p102.1.length : Int)))).symm with hg | hg
            · exact .inr (.inr (.inr ⟨gr_eg rfl (yt (gr_yield rfl rfl e56)) hg, (gv_f hg).symm, S⟩))
            · refine .inr (.inr (.inl ⟨gr_eg rfl (yt (gr_yield rfl rfl e56)) hg, _, _, (run_call (vs := [.slice B130 p126.2.1.length d132]) rfl rfl co26 ⟨((ev_sl e58).trans (gv_t hg)), trivial⟩), ?_⟩))
              refine Calls.mono (c_laws_count (x0 := p126.2.1) ⟨(gr_rc S hl 2 rfl), rfl⟩ (gb_t h138 hg)) ?_
              rintro e w1 ⟨rfl, T⟩
              exact ⟨_, rfl, (gv_t hg).symm, S.call0 T⟩
          · intro a u X hB hu hp hr hz hl S
            replace S : St w u ([] ++ X) := S
            have e56 : sl a 56 = .bool (((p126.2.2.2 == (p113.length : Int)) && ((p126.1.length : Int) == (p102.1.length : Int))) && (p137 == (p102.1.length : Int))) := hp 22 rfl
            have e59 : sl a 59 = gv (((p126.2.2.2 == (p113.length : Int)) && ((p126.1.length : Int) == (p102.1.length : Int))) && (p137 == (p102.1.length : Int))) (.int .i64 p138) := hp 25 rfl
            rcases (Bool.eq_false_or_eq_true (((p126.2.2.2 == (p113.length : Int)) && ((p126.1.length : Int) == (p102.1.length : Int))) && (p137 == (p102.1.length : Int)))).symm with hg | hg
            · exact .inr (.inr (.inr ⟨gr_eg rfl (yt (gr_yield rfl rfl e56)) hg, (gv_f hg).symm, S⟩))
            · exact .inl ⟨gr_eg rfl (yt (gr_yield rfl rfl e56)) hg, .bool (p138 == 0), u, (run_eql ((ev_sl e59).trans (gv_t hg)) (ev_const _ _) rfl), (gv_t hg).symm, S⟩
          · intro a u X hB hu hp hr hz hl S
            replace S : St w u ([] ++ X) := S
            have e56 : sl a 56 = .bool (((p126.2.2.2 == (p113.length : Int)) && ((p126.1.length : Int) == (p102.1.length : Int))) && (p137 == (p102.1.length : Int))) := hp 22 rfl
            have e60 : sl a 60 = gv (((p126.2.2.2 == (p113.length : Int)) && ((p126.1.length : Int) == (p102.1.length : Int))) && (p137 == (p102.1.length : Int))) (.bool (p138 == 0)) := hp 26 rfl
            exact .inl ⟨rfl, .bool ((((p126.2.2.2 == (p113.length : Int)) && ((p126.1.length : Int) == (p102.1.length : Int))) && (p137 == (p102.1.length : Int))) && (p138 == 0)), u, (run_pick_and rfl (ev_sl e56) (fun hp => ((ev_sl e60).trans (gv_t hp))) (ev_const _ _)), rfl, S⟩
          · intro a u X hB hu hp hr hz hl S
            replace S : St w u ([] ++ X) := S
            have e61 : sl a 61 = .bool ((((p126.2.2.2 == (p113.length : Int)) && ((p126.1.length : Int) == (p102.1.length : Int))) && (p137 == (p102.1.length : Int))) && (p138 == 0)) := hp 27 rfl
            exact .inl ⟨rfl, .bool ((((p126.2.2.2 == (p113.length : Int)) && ((p126.1.length : Int) == (p102.1.length : Int))) && (p137 == (p102.1.length : Int))) && (p138 == 0)), u, (run_move rfl (ev_sl e61)), rfl, S⟩
          · intro a u X hB hu hp hr hz hl S
            replace S : St w u ([] ++ X) := S
            have e62 : sl a 62 = .bool ((((p126.2.2.2 == (p113.length : Int)) && ((p126.1.length : Int) == (p102.1.length : Int))) && (p137 == (p102.1.length : Int))) && (p138 == 0)) := hp 28 rfl
            rcases (Bool.eq_false_or_eq_true ((((p126.2.2.2 == (p113.length : Int)) && ((p126.1.length : Int) == (p102.1.length : Int))) && (p137 == (p102.1.length : Int))) && (p138 == 0))).symm with hg | hg
            · exact .inr (.inr (.inr ⟨gr_eg rfl (yt (gr_yield rfl rfl e62)) hg, (gv_f hg).symm, S⟩))
            · exact .inl ⟨gr_eg rfl (yt (gr_yield rfl rfl e62)) hg, .pointer (some ⟨g136, 2, none⟩), u, (run_fieldAddr rfl fl26_2 (hF.evB hB rfl rfl) rfl), (gv_t hg).symm, S⟩
          · intro a u X hB hu hp hr hz hl S
            replace S : St w u ([] ++ X) := S
            have e62 : sl a 62 = .bool ((((p126.2.2.2 == (p113.length : Int)) && ((p126.1.length : Int) == (p102.1.length : Int))) && (p137 == (p102.1.length : Int))) && (p138 == 0)) := hp 28 rfl
            have e63 : sl a 63 = gv ((((p126.2.2.2 == (p113.length : Int)) && ((p126.1.length : Int) == (p102.1.length : Int))) && (p137 == (p102.1.length : Int))) && (p138 == 0)) (.pointer (some ⟨g136, 2, none⟩)) := hp 29 rfl
            rcases (Bool.eq_false_or_eq_true ((((p126.2.2.2 == (p113.length : Int)) && ((p126.1.length : Int) == (p102.1.length : Int))) && (p137 == (p102.1.length : Int))) && (p138 == 0))).symm with hg | hg
            · exact .inr (.inr (.inr ⟨gr_eg rfl (yt (gr_yield rfl rfl e62)) hg, (gv_f hg).symm, S⟩))
            · exact .inl ⟨gr_eg rfl (yt (gr_yield rfl rfl e62)) hg, .slice B133 p126.2.2.1.length d135, u, (run_load1 rfl one24 ((ev_sl e63).trans (gv_t hg)) ((gr_box S hl 0 rfl).cell rfl)), (gv_t hg).symm, S⟩
          · intro a u X hB hu hp hr hz hl S
            replace S : St w u ([] ++ X) := S
            have e62 : sl a 62 = .bool ((((p126.2.2.2 == (p113.length : Int)) && ((p126.1.length : Int) == (p102.1.length : Int))) && (p137 == (p102.1.length : Int))) && (p138 == 0)) := hp 28 rfl
            have e64 : sl a 64 = gv ((((p126.2.2.2 == (p113.length : Int)) && ((p126.1.length : Int) == (p102.1.length : Int))) && (p137 == (p102.1.length : Int))) && (p138 == 0)) (.slice B133 p126.2.2.1.length d135) := hp 30 rfl
            rcases (Bool.eq_false_or_eq_true ((((p126.2.2.2 == (p113.length : Int)) && ((p126.1.length : Int) == (p102.1.length : Int))) && (p137 == (p102.1.length : Int))) && (p138 == 0))).symm with hg | hg
            · exact .inr (.inr (.inr ⟨gr_eg rfl (yt (gr_yield rfl rfl e62)) hg, (gv_f hg).symm, S⟩))
            · exact .inl ⟨gr_eg rfl (yt (gr_yield rfl rfl e62)) hg, .int .i64 (p126.2.2.1.length : Int), u, (run_lenL rfl rfl Tryd.underlying24 ((ev_sl e64).trans (gv_t hg))), (gv_t hg).symm, S⟩
          · intro a u X hB hu hp hr hz hl S
            replace S : St w u ([] ++ X) := S
            have e62 : sl a 62 = .bool ((((p126.2.2.2 == (p113.length : Int)) && ((p126.1.length : Int) == (p102.1.length : Int))) && (p137 == (p102.1.length : Int))) && (p138 == 0)) := hp 28 rfl
            have e65 : sl a 65 = gv ((((p126.2.2.2 == (p113.length : Int)) && ((p126.1.length : Int) == (p102.1.length : Int))) && (p137 == (p102.1.length : Int))) && (p138 == 0)) (.int .i64 (p126.2.2.1.length : Int)) := hp 31 rfl
            rcases (Bool.eq_false_or_eq_true ((((p126.2.2.2 == (p113.length : Int)) && ((p126.1.length : Int) == (p102.1.length : Int))) && (p137 == (p102.1.length : Int))) && (p138 == 0))).symm with hg | hg
            · exact .inr (.inr (.inr ⟨gr_eg rfl (yt (gr_yield rfl rfl e62)) hg, (gv_f hg).symm, S⟩))
            · exact .inl ⟨gr_eg rfl (yt (gr_yield rfl rfl e62)) hg, .bool ((p126.2.2.1.length : Int) == 0), u, (run_eql ((ev_sl e65).trans (gv_t hg)) (ev_const _ _) rfl), (gv_t hg).symm, S⟩
          · intro a u X hB hu hp hr hz hl S
            replace S : St w u ([] ++ X) := S
            have e62 : sl a 62 = .bool ((((p126.2.2.2 == (p113.length : Int)) && ((p126.1.length : Int) == (p102.1.length : Int))) && (p137 == (p102.1.length : Int))) && (p138 == 0)) := hp 28 rfl
            have e66 : sl a 66 = gv ((((p126.2.2.2 == (p113.length : Int)) && ((p126.1.length : Int) == (p102.1.length : Int))) && (p137 == (p102.1.length : Int))) && (p138 == 0)) (.bool ((p126.2.2.1.length : Int) == 0)) := hp 32 rfl
            exact .inl ⟨rfl, .bool (((((p126.2.2.2 == (p113.length : Int)) && ((p126.1.length : Int) == (p102.1.length : Int))) && (p137 == (p102.1.length : Int))) && (p138 == 0)) && ((p126.2.2.1.length : Int) == 0)), u, (run_pick_and rfl (ev_sl e62) (fun hp => ((ev_sl e66).trans (gv_t hp))) (ev_const _ _)), rfl, S⟩
          · intro a u X hB hu hp hr hz hl S
            replace S : St w u ([] ++ X) := S
            have e67 : sl a 67 = .bool (((((p126.2.2.2 == (p113.length : Int)) && ((p126.1.length : Int) == (p102.1.length : Int))) && (p137 == (p102.1.length : Int))) && (p138 == 0)) && ((p126.2.2.1.length : Int) == 0)) := hp 33 rfl
            exact .inl ⟨rfl, .bool (((((p126.2.2.2 == (p113.length : Int)) && ((p126.1.length : Int) == (p102.1.length : Int))) && (p137 == (p102.1.length : Int))) && (p138 == 0)) && ((p126.2.2.1.length : Int) == 0)), u, (run_assign rfl (ev_sl e67)), rfl, S⟩
        · intro a u hB hp S
          obtain ⟨q0, q1, q2, q3, q4, q5, q6, q7, q8, q9, q10, q11, q12, q13, q14, q15, q16, q17, q18, q19, q20, q21, q22, q23, q24, q25, q26, q27, q28, q29, q30, q31, q32, q33, q34, _⟩ := hp
          have e34 : sl a 34 = .int .i64 p126.2.2.2 := q0
          have e35 : sl a 35 = .slice B114 p113.length d116 := q1
          have e36 : sl a 36 = .int .i64 (p113.length : Int) := q2
          have e37 : sl a 37 = .bool (p126.2.2.2 == (p113.length : Int)) := q3
          have e38 : sl a 38 = .bool (p126.2.2.2 == (p113.length : Int)) := q4
          have e39 : sl a 39 = gv (p126.2.2.2 == (p113.length : Int)) (.pointer (some ⟨g136, 0, none⟩)) := q5
          have e40 : sl a 40 = gv (p126.2.2.2 == (p113.length : Int)) (.slice B127 p126.1.length d129) := q6
          have e41 : sl a 41 = gv (p126.2.2.2 == (p113.length : Int)) (.int .i64 (p126.1.length : Int)) := q7
          have e42 : sl a 42 = gv (p126.2.2.2 == (p113.length : Int)) (.pointer (some ⟨g112, 0, none⟩)) := q8
          have e43 : sl a 43 = gv (p126.2.2.2 == (p113.length : Int)) (.slice B103 p102.1.length d105) := q9
          have e44 : sl a 44 = gv (p126.2.2.2 == (p113.length : Int)) (.int .i64 (p102.1.length : Int)) := q10
          have e45 : sl a 45 = gv (p126.2.2.2 == (p113.length : Int)) (.bool ((p126.1.length : Int) == (p102.1.length : Int))) := q11
          have e46 : sl a 46 = .bool ((p126.2.2.2 == (p113.length : Int)) && ((p126.1.length : Int) == (p102.1.length : Int))) := q12
          have e47 : sl a 47 = .bool ((p126.2.2.2 == (p113.length : Int)) && ((p126.1.length : Int) == (p102.1.length : Int))) := q13
          have e48 : sl a 48 = gv ((p126.2.2.2 == (p113.length : Int)) && ((p126.1.length : Int) == (p102.1.length : Int))) (.pointer (some ⟨g136, 0, none⟩)) := q14
          have e49 : sl a 49 = gv ((p126.2.2.2 == (p113.length : Int)) && ((p126.1.length : Int) == (p102.1.length : Int))) (.slice B127 p126.1.length d129) := q15
          have e50 : sl a 50 = gv ((p126.2.2.2 == (p113.length : Int)) && ((p126.1.length : Int) == (p102.1.length : Int))) (.int .i64 p137) := q16
          have e51 : sl a 51 = gv ((p126.2.2.2 == (p113.length : Int)) && ((p126.1.length : Int) == (p102.1.length : Int))) (.pointer (some ⟨g112, 0, none⟩)) := q17
          have e52 : sl a 52 = gv ((p126.2.2.2 == (p113.length : Int)) && ((p126.1.length : Int) == (p102.1.length : Int))) (.slice B103 p102.1.length d105) := q18
          have e53 : sl a 53 = gv ((p126.2.2.2 == (p113.length : Int)) && ((p126.1.length : Int) == (p102.1.length : Int))) (.int .i64 (p102.1.length : Int)) := q19
          have e54 : sl a 54 = gv ((p126.2.2.2 == (p113.length : Int)) && ((p126.1.length : Int) == (p102.1.length : Int))) (.bool (p137 == (p102.1.length : Int))) := q20
          have e55 : sl a 55 = .bool (((p126.2.2.2 == (p113.length : Int)) && ((p126.1.length : Int) == (p102.1.length : Int))) && (p137 == (p102.1.length : Int))) := q21
          have e56 : sl a 56 = .bool (((p126.2.2.2 == (p113.length : Int)) && ((p126.1.length : Int) == (p102.1.length : Int))) && (p137 == (p102.1.length : Int))) := q22
          have e57 : sl a 57 = gv (((p126.2.2.2 == (p113.length : Int)) && ((p126.1.length : Int) == (p102.1.length : Int))) && (p137 == (p102.1.length : Int))) (.pointer (some ⟨g136, 1, none⟩)) := q23
          have e58 : sl a 58 = gv (((p126.2.2.2 == (p113.length : Int)) && ((p126.1.length : Int) == (p102.1.length : Int))) && (p137 == (p102.1.length : Int))) (.slice B130 p126.2.1.length d132) := q24
          have e59 : sl a 59 = gv (((p126.2.2.2 == (p113.length : Int)) && ((p126.1.length : Int) == (p102.1.length : Int))) && (p137 == (p102.1.length : Int))) (.int .i64 p138) := q25
          have e60 : sl a 60 = gv (((p126.2.2.2 == (p113.length : Int)) && ((p126.1.length : Int) == (p102.1.length : Int))) && (p137 == (p102.1.length : Int))) (.bool (p138 == 0)) := q26
          have e61 : sl a 61 = .bool ((((p126.2.2.2 == (p113.length : Int)) && ((p126.1.length : Int) == (p102.1.length : Int))) && (p137 == (p102.1.length : Int))) && (p138 == 0)) := q27
          have e62 : sl a 62 = .bool ((((p126.2.2.2 == (p113.length : Int)) && ((p126.1.length : Int) == (p102.1.length : Int))) && (p137 == (p102.1.length : Int))) && (p138 == 0)) := q28
          have e63 : sl a 63 = gv ((((p126.2.2.2 == (p113.length : Int)) && ((p126.1.length : Int) == (p102.1.length : Int))) && (p137 == (p102.1.length : Int))) && (p138 == 0)) (.pointer (some ⟨g136, 2, none⟩)) := q29
          have e64 : sl a 64 = gv ((((p126.2.2.2 == (p113.length : Int)) && ((p126.1.length : Int) == (p102.1.length : Int))) && (p137 == (p102.1.length : Int))) && (p138 == 0)) (.slice B133 p126.2.2.1.length d135) := q30
          have e65 : sl a 65 = gv ((((p126.2.2.2 == (p113.length : Int)) && ((p126.1.length : Int) == (p102.1.length : Int))) && (p137 == (p102.1.length : Int))) && (p138 == 0)) (.int .i64 (p126.2.2.1.length : Int)) := q31
          have e66 : sl a 66 = gv ((((p126.2.2.2 == (p113.length : Int)) && ((p126.1.length : Int) == (p102.1.length : Int))) && (p137 == (p102.1.length : Int))) && (p138 == 0)) (.bool ((p126.2.2.1.length : Int) == 0)) := q32
          have e67 : sl a 67 = .bool (((((p126.2.2.2 == (p113.length : Int)) && ((p126.1.length : Int) == (p102.1.length : Int))) && (p137 == (p102.1.length : Int))) && (p138 == 0)) && ((p126.2.2.1.length : Int) == 0)) := q33
          have e2 : sl a 2 = .bool (((((p126.2.2.2 == (p113.length : Int)) && ((p126.1.length : Int) == (p102.1.length : Int))) && (p137 == (p102.1.length : Int))) && (p138 == 0)) && ((p126.2.2.1.length : Int) == 0)) := q34
          replace S : St w u [.box g136 26 #[.slice B127 p126.1.length d129, .slice B130 p126.2.1.length d132, .slice B133 p126.2.2.1.length d135], .row 4 1 (.slice B127 p126.1.length d129) p126.1.length (p126.1.flatMap eB), .row 4 1 (.slice B130 p126.2.1.length d132) p126.2.1.length (p126.2.1.flatMap eB), .row 48 2 (.slice B133 p126.2.2.1.length d135) p126.2.2.1.length (p126.2.2.1.flatMap ePermit), .row 35 3 (.slice B118 p117.length d120) p117.length (p117.flatMap eWorkDeed), .row 35 3 (.slice B114 p113.length d116) p113.length (p113.flatMap eWorkDeed), .box g112 26 #[.slice B103 p102.1.length d105, .slice B106 p102.2.1.length d108, .slice B109 p102.2.2.length d111], .row 4 1 (.slice B103 p102.1.length d105) p102.1.length (p102.1.flatMap eB), .row 4 1 (.slice B106 p102.2.1.length d108) p102.2.1.length (p102.2.1.flatMap eB), .row 48 2 (.slice B109 p102.2.2.length d111) p102.2.2.length (p102.2.2.flatMap ePermit)] := S
          clear q0 q1 q2 q3 q4 q5 q6 q7 q8 q9 q10 q11 q12 q13 q14 q15 q16 q17 q18 q19 q20 q21 q22 q23 q24 q25 q26 q27 q28 q29 q30 q31 q32 q33 q34
          have hF := hF.region hB [(34, .int .i64 p126.2.2.2), (35, .slice B114 p113.length d116), (36, .int .i64 (p113.length : Int)), (37, .bool (p126.2.2.2 == (p113.length : Int))), (38, .bool (p126.2.2.2 == (p113.length : Int))), (39, gv (p126.2.2.2 == (p113.length : Int)) (.pointer (some ⟨g136, 0, none⟩))), (40, gv (p126.2.2.2 == (p113.length : Int)) (.slice B127 p126.1.length d129)), (41, gv (p126.2.2.2 == (p113.length : Int)) (.int .i64 (p126.1.length : Int))), (42, gv (p126.2.2.2 == (p113.length : Int)) (.pointer (some ⟨g112, 0, none⟩))), (43, gv (p126.2.2.2 == (p113.length : Int)) (.slice B103 p102.1.length d105)), (44, gv (p126.2.2.2 == (p113.length : Int)) (.int .i64 (p102.1.length : Int))), (45, gv (p126.2.2.2 == (p113.length : Int)) (.bool ((p126.1.length : Int) == (p102.1.length : Int)))), (46, .bool ((p126.2.2.2 == (p113.length : Int)) && ((p126.1.length : Int) == (p102.1.length : Int)))), (47, .bool ((p126.2.2.2 == (p113.length : Int)) && ((p126.1.length : Int) == (p102.1.length : Int)))), (48, gv ((p126.2.2.2 == (p113.length : Int)) && ((p126.1.length : Int) == (p102.1.length : Int))) (.pointer (some ⟨g136, 0, none⟩))), (49, gv ((p126.2.2.2 == (p113.length : Int)) && ((p126.1.length : Int) == (p102.1.length : Int))) (.slice B127 p126.1.length d129)), (50, gv ((p126.2.2.2 == (p113.length : Int)) && ((p126.1.length : Int) == (p102.1.length : Int))) (.int .i64 p137)), (51, gv ((p126.2.2.2 == (p113.length : Int)) && ((p126.1.length : Int) == (p102.1.length : Int))) (.pointer (some ⟨g112, 0, none⟩))), (52, gv ((p126.2.2.2 == (p113.length : Int)) && ((p126.1.length : Int) == (p102.1.length : Int))) (.slice B103 p102.1.length d105)), (53, gv ((p126.2.2.2 == (p113.length : Int)) && ((p126.1.length : Int) == (p102.1.length : Int))) (.int .i64 (p102.1.length : Int))), (54, gv ((p126.2.2.2 == (p113.length : Int)) && ((p126.1.length : Int) == (p102.1.length : Int))) (.bool (p137 == (p102.1.length : Int)))), (55, .bool (((p126.2.2.2 == (p113.length : Int)) && ((p126.1.length : Int) == (p102.1.length : Int))) && (p137 == (p102.1.length : Int)))), (56, .bool (((p126.2.2.2 == (p113.length : Int)) && ((p126.1.length : Int) == (p102.1.length : Int))) && (p137 == (p102.1.length : Int)))), (57, gv (((p126.2.2.2 == (p113.length : Int)) && ((p126.1.length : Int) == (p102.1.length : Int))) && (p137 == (p102.1.length : Int))) (.pointer (some ⟨g136, 1, none⟩))), (58, gv (((p126.2.2.2 == (p113.length : Int)) && ((p126.1.length : Int) == (p102.1.length : Int))) && (p137 == (p102.1.length : Int))) (.slice B130 p126.2.1.length d132)), (59, gv (((p126.2.2.2 == (p113.length : Int)) && ((p126.1.length : Int) == (p102.1.length : Int))) && (p137 == (p102.1.length : Int))) (.int .i64 p138)), (60, gv (((p126.2.2.2 == (p113.length : Int)) && ((p126.1.length : Int) == (p102.1.length : Int))) && (p137 == (p102.1.length : Int))) (.bool (p138 == 0))), (61, .bool ((((p126.2.2.2 == (p113.length : Int)) && ((p126.1.length : Int) == (p102.1.length : Int))) && (p137 == (p102.1.length : Int))) && (p138 == 0))), (62, .bool ((((p126.2.2.2 == (p113.length : Int)) && ((p126.1.length : Int) == (p102.1.length : Int))) && (p137 == (p102.1.length : Int))) && (p138 == 0))), (63, gv ((((p126.2.2.2 == (p113.length : Int)) && ((p126.1.length : Int) == (p102.1.length : Int))) && (p137 == (p102.1.length : Int))) && (p138 == 0)) (.pointer (some ⟨g136, 2, none⟩))), (64, gv ((((p126.2.2.2 == (p113.length : Int)) && ((p126.1.length : Int) == (p102.1.length : Int))) && (p137 == (p102.1.length : Int))) && (p138 == 0)) (.slice B133 p126.2.2.1.length d135)), (65, gv ((((p126.2.2.2 == (p113.length : Int)) && ((p126.1.length : Int) == (p102.1.length : Int))) && (p137 == (p102.1.length : Int))) && (p138 == 0)) (.int .i64 (p126.2.2.1.length : Int))), (66, gv ((((p126.2.2.2 == (p113.length : Int)) && ((p126.1.length : Int) == (p102.1.length : Int))) && (p137 == (p102.1.length : Int))) && (p138 == 0)) (.bool ((p126.2.2.1.length : Int) == 0))), (67, .bool (((((p126.2.2.2 == (p113.length : Int)) && ((p126.1.length : Int) == (p102.1.length : Int))) && (p137 == (p102.1.length : Int))) && (p138 == 0)) && ((p126.2.2.1.length : Int) == 0))), (2, .bool (((((p126.2.2.2 == (p113.length : Int)) && ((p126.1.length : Int) == (p102.1.length : Int))) && (p137 == (p102.1.length : Int))) && (p138 == 0)) && ((p126.2.2.1.length : Int) == 0)))] (allSl_mem ⟨e34, e35, e36, e37, e38, e39, e40, e41, e42, e43, e44, e45, e46, e47, e48, e49, e50, e51, e52, e53, e54, e55, e56, e57, e58, e59, e60, e61, e62, e63, e64, e65, e66, e67, e2, trivial⟩) rfl
          clear hB e34 e35 e36 e37 e38 e39 e40 e41 e42 e43 e44 e45 e46 e47 e48 e49 e50 e51 e52 e53 e54 e55 e56 e57 e58 e59 e60 e61 e62 e63 e64 e65 e66 e67 e2
          refine wp_ret ?_
          repeat with_reducible (first | refine then_ret ?_ | refine in_ret ?_ | refine in_nrm ?_)
          refine ret1_gw (.inl rfl) hF rfl (res_tmp (hF.ev rfl)) ?_
          obtain rfl := Option.some.inj hM
          exact ⟨rfl, S.sel [] rfl rfl⟩
  · replace hM := bif_t hc101 hM
    refine cond_t hF rfl hc101 ?_
    refine wp_seq ?_
    refine wp_region_lit ?_
    refine op_val (v := .bool true) rfl rfl hF rfl (run_assign rfl rfl) ?_; clear hF; intro a hF
    refine wpList_nil ?_
    refine wp_ret ?_
    repeat with_reducible (first | refine then_ret ?_ | refine in_ret ?_ | refine in_nrm ?_)
    refine ret1_gw (.inl rfl) hF rfl (res_tmp (hF.ev rfl)) ?_
    obtain rfl := Option.some.inj hM
    exact ⟨rfl, S.sel [] rfl rfl⟩

end Go.Proofs.YtnoeliaefhldmaaDoor
