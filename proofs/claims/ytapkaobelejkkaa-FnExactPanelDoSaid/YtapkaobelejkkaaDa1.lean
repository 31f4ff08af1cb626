/- Calls return what the models say. -/
import Derived.Test.YtapkaobelejkkaaDaT
namespace Go.Proofs.Ytapkaobelejkkaa
open Go.ChangeShapes Go.WideShapes Go.ChangeAt Go.RowKit
set_option linter.unusedVariables false
set_option linter.unusedSimpArgs false

set_option maxHeartbeats 4000000 in
theorem c_laws_szBoolS {x0 : List Bool} {x1 : Int} {A0 : Option Addr} {n0 c0 : Nat} {w : World} {r : Int} (h0 : Rt w 1 eB A0 n0 c0 x0) (hM : m_laws_szBoolS x0 x1 = some r) :
    Calls Try.prog 28 #[.slice A0 n0 c0, .int .i64 x1] w (fun e w' => e = .returned (.int .i64 r) ∧ St w w' []) := by
  obtain rfl := h0.len
  unfold m_laws_szBoolS at hM
  refine calls_gw Try.func28 Try.ntmps28 rfl [(0, .slice A0 x0.length c0), (1, .int .i64 x1)] ⟨rfl, rfl, trivial⟩ rfl ?_
  intro a hF
  have S := St.nil w
  refine wp_seq ?_
  refine wp_region_lit ?_
  refine op_val (v := .int .i64 0) rfl rfl hF rfl (run_assign rfl rfl) ?_; clear hF; intro a hF
  refine wpList_nil ?_
  refine wp_seq ?_
  refine wp_region_lit ?_
  refine op_val (v := .int .i64 x1) rfl rfl hF rfl (run_move rfl (hF.ev rfl)) ?_; clear hF; intro a hF
  refine op_val (v := .slice A0 x0.length c0) rfl rfl hF rfl (run_move rfl (hF.ev rfl)) ?_; clear hF; intro a hF
  refine op_val (v := .int .i64 (x0.length : Int)) rfl rfl hF rfl (run_lenL rfl rfl Try.underlying22 (hF.ev rfl)) ?_; clear hF; intro a hF
  refine op_val (v := .int .i64 (w64 (x1 - (x0.length : Int)))) rfl rfl hF rfl (run_sub (z := w64 (x1 - (x0.length : Int))) (hF.ev rfl) (hF.ev rfl) rfl rfl) ?_; clear hF; intro a hF
  refine op_val (v := .int .i64 (w64 (x1 - (x0.length : Int)))) rfl rfl hF rfl (run_assign rfl (hF.ev rfl)) ?_; clear hF; intro a hF
  refine wpList_nil ?_
  refine wp_seq ?_
  refine wp_seq ?_
  refine wp_region_lit ?_
  refine op_val (v := .int .i64 (w64 (x1 - (x0.length : Int)))) rfl rfl hF rfl (run_move rfl (hF.ev rfl)) ?_; clear hF; intro a hF
  refine op_val (v := .bool (ltB (w64 (x1 - (x0.length : Int))) 0)) rfl rfl hF rfl (run_lss (hF.ev rfl) rfl rfl) ?_; clear hF; intro a hF
  refine wpList_nil ?_
  cases hc101 : (ltB (w64 (x1 - (x0.length : Int))) 0)
  · replace hM := bif_f hc101 hM
    refine cond_f hF rfl hc101 ?_
    refine wp_skip ?_
    refine wp_seq ?_
    refine wp_region_lit ?_
    refine op_val (v := .int .i64 (w64 (x1 - (x0.length : Int)))) rfl rfl hF rfl (run_move rfl (hF.ev rfl)) ?_; clear hF; intro a hF
    refine op_val (v := .int .i64 (w64 (x1 - (x0.length : Int)))) rfl rfl hF rfl (run_assign rfl (hF.ev rfl)) ?_; clear hF; intro a hF
    refine wpList_nil ?_
    refine wp_ret ?_
    repeat with_reducible (first | refine then_ret ?_ | refine in_ret ?_ | refine in_nrm ?_)
    refine ret1_gw (.inl rfl) hF rfl (res_tmp (hF.ev rfl)) ?_
    obtain rfl := Option.some.inj hM
    exact ⟨rfl, S.sel [] rfl rfl⟩
  · replace hM := bif_t hc101 hM
    refine cond_t hF rfl hc101 ?_
    refine wp_seq ?_
    refine wp_region_lit ?_
    refine op_val (v := .int .i64 (-1)) rfl rfl hF rfl (run_assign rfl rfl) ?_; clear hF; intro a hF
    refine wpList_nil ?_
    refine wp_ret ?_
    repeat with_reducible (first | refine then_ret ?_ | refine in_ret ?_ | refine in_nrm ?_)
    refine ret1_gw (.inl rfl) hF rfl (res_tmp (hF.ev rfl)) ?_
    obtain rfl := Option.some.inj hM
    exact ⟨rfl, S.sel [] rfl rfl⟩

set_option maxHeartbeats 4000000 in
theorem c_laws_szPanel {x0 : List Bool} {x1 : Int} {x2 : Int} {x3 : Bool} {x4 : Int} {x5 : Int} {A0 : Option Addr} {n0 c0 : Nat} {w : World} {r : Int} (h0 : Rt w 1 eB A0 n0 c0 x0) (hM : m_laws_szPanel x0 x1 x2 x3 x4 x5 = some r) :
    Calls Try.prog 6 #[.agg #[.slice A0 n0 c0, .int .i64 x1, .int .i64 x2, .bool x3, .int .i64 x4], .int .i64 x5] w (fun e w' => e = .returned (.int .i64 r) ∧ St w w' []) := by
  obtain rfl := h0.len
  unfold m_laws_szPanel at hM
  refine calls_gw Try.func6 Try.ntmps6 rfl [(0, .agg #[.slice A0 x0.length c0, .int .i64 x1, .int .i64 x2, .bool x3, .int .i64 x4]), (1, .int .i64 x5)] ⟨rfl, rfl, trivial⟩ rfl ?_
  intro a hF
  have S := St.nil w
  refine wp_seq ?_
  refine wp_region_lit ?_
  refine op_new (cs := #[.slice A0 x0.length c0, .int .i64 x1, .int .i64 x2, .bool x3, .int .i64 x4]) rfl rfl hF rfl S (run_box rfl (hF.ev rfl) rfl) ?_; clear hF S; intro a g101 u hF S
  refine op_val (v := .int .i64 0) rfl rfl hF rfl (run_assign rfl rfl) ?_; clear hF; intro a hF
  refine wpList_nil ?_
  refine wp_seq ?_
  refine wp_region_lit ?_
  refine op_val (v := .pointer (some ⟨g101, 0, none⟩)) rfl rfl hF rfl (run_fieldAddr rfl fl24_0 (hF.ev rfl) rfl) ?_; clear hF; intro a hF
  refine op_val (v := .slice A0 x0.length c0) rfl rfl hF rfl (run_load1 rfl one22 (hF.ev rfl) ((S.free 0 rfl).cell rfl)) ?_; clear hF; intro a hF
  refine op_val (v := .int .i64 x5) rfl rfl hF rfl (run_move rfl (hF.ev rfl)) ?_; clear hF; intro a hF
  obtain ⟨p102, h102, hM⟩ := bind_ex hM
  refine op_call rfl rfl hF rfl (run_call (vs := [.slice A0 x0.length c0, .int .i64 x5]) rfl rfl co28 ⟨(hF.ev rfl), (hF.ev rfl), trivial⟩) (c_laws_szBoolS (x0 := x0) (x1 := x5) ⟨(S.rc0 h0.rc), rfl⟩ h102) ?_
  rintro e u ⟨rfl, T⟩
  refine ⟨_, rfl, ?_⟩
  clear hF; intro a hF
  replace S := S.call0 T; clear T
  refine op_val (v := .int .i64 p102) rfl rfl hF rfl (run_assign rfl (hF.ev rfl)) ?_; clear hF; intro a hF
  refine wpList_nil ?_
  refine wp_seq ?_
  refine wp_seq ?_
  refine wp_region_lit ?_
  refine op_val (v := .int .i64 p102) rfl rfl hF rfl (run_move rfl (hF.ev rfl)) ?_; clear hF; intro a hF
  refine op_val (v := .bool (ltB p102 0)) rfl rfl hF rfl (run_lss (hF.ev rfl) rfl rfl) ?_; clear hF; intro a hF
  refine wpList_nil ?_
  cases hc103 : (ltB p102 0)
  · replace hM := bif_f hc103 hM
    refine cond_f hF rfl hc103 ?_
    refine wp_skip ?_
    refine wp_seq ?_
    refine wp_region_lit ?_
    refine op_val (v := .int .i64 p102) rfl rfl hF rfl (run_move rfl (hF.ev rfl)) ?_; clear hF; intro a hF
    refine op_val (v := .int .i64 p102) rfl rfl hF rfl (run_assign rfl (hF.ev rfl)) ?_; clear hF; intro a hF
    refine wpList_nil ?_
    refine wp_ret ?_
    repeat with_reducible (first | refine then_ret ?_ | refine in_ret ?_ | refine in_nrm ?_)
    refine ret1_gw (.inl rfl) hF rfl (res_tmp (hF.ev rfl)) ?_
    obtain rfl := Option.some.inj hM
    exact ⟨rfl, S.sel [] rfl rfl⟩
  · replace hM := bif_t hc103 hM
    refine cond_t hF rfl hc103 ?_
    refine wp_seq ?_
    refine wp_region_lit ?_
    refine op_val (v := .int .i64 (-1)) rfl rfl hF rfl (run_assign rfl rfl) ?_; clear hF; intro a hF
    refine wpList_nil ?_
    refine wp_ret ?_
    repeat with_reducible (first | refine then_ret ?_ | refine in_ret ?_ | refine in_nrm ?_)
    refine ret1_gw (.inl rfl) hF rfl (res_tmp (hF.ev rfl)) ?_
    obtain rfl := Option.some.inj hM
    exact ⟨rfl, S.sel [] rfl rfl⟩

set_option maxHeartbeats 4000000 in
theorem c_laws_toBoolS {x0 : List Bool} {A0 : Option Addr} {n0 c0 : Nat} {w : World} {r : List Bool} (h0 : Rt w 1 eB A0 n0 c0 x0) (hM : m_laws_toBoolS x0 = some r) :
    Calls Try.prog 33 #[.slice A0 n0 c0] w (fun e w' => ∃ (B0 : Option Addr) (N0 D0 : Nat), e = .returned (.slice B0 N0 D0) ∧ N0 = r.length ∧ St w w' [.row 4 1 (.slice B0 N0 D0) N0 (r.flatMap eB)]) := by
  obtain rfl := h0.len
  unfold m_laws_toBoolS at hM
  refine calls_gw Try.func33 Try.ntmps33 rfl [(0, .slice A0 x0.length c0)] ⟨rfl, trivial⟩ rfl ?_
  intro a hF
  have S := St.nil w
  refine wp_seq ?_
  refine wp_region_lit ?_
  refine op_val (v := .slice none 0 0) rfl rfl hF rfl (run_assign rfl rfl) ?_; clear hF; intro a hF
  refine wpList_nil ?_
  refine wp_seq ?_
  refine wp_region_lit ?_
  refine op_val (v := .slice A0 x0.length c0) rfl rfl hF rfl (run_move rfl (hF.ev rfl)) ?_; clear hF; intro a hF
  refine op_val (v := .int .i64 (x0.length : Int)) rfl rfl hF rfl (run_lenL rfl rfl Try.underlying22 (hF.ev rfl)) ?_; clear hF; intro a hF
  obtain ⟨hk102, hM⟩ := chk_ex hM
  replace hk102 := mkB_t hk102
  refine op_newrowL (m := x0.length) (ls := List.replicate x0.length false) (e := eB) rfl rfl hF rfl S (run_makeL rfl (hF.ev rfl) (hF.ev rfl) Try.underlying22 inf4 eB_len rfl (by decide) hk102) List.length_replicate eB_len (by rw [List.length_replicate]; omega) ?_; clear hF S; intro a g101 u hF S
  refine op_val (v := .slice (some ⟨g101, 0, none⟩) x0.length x0.length) rfl rfl hF rfl (run_assign rfl (hF.ev rfl)) ?_; clear hF; intro a hF
  refine wpList_nil ?_
  refine wp_seq ?_
  refine wp_seq ?_
  refine wp_region_lit ?_
  refine op_val (v := .int .i64 0) rfl rfl hF rfl (run_assign rfl rfl) ?_; clear hF; intro a hF
  refine wpList_nil ?_
  obtain ⟨o104, hM106, hM⟩ := bind_ex hM
  refine wp_cut (fun a u => ∃ (p103 : List Bool), p103 = o104 ∧ x0.length = p103.length ∧ Fr a 22 [(2, .slice none 0 0), (3, .slice (some ⟨g101, 0, none⟩) x0.length x0.length)] ∧ St w u [.row 4 1 (.slice (some ⟨g101, 0, none⟩) x0.length x0.length) x0.length (p103.flatMap eB)]) ?_ ?_
  · have _ := trivial
    refine wp_block ?_
    refine loop_gw (fun m a u => ∃ (p107 : List Bool × Int), m_laws_toBoolS_l1 x0 m p107 = some _ ∧ x0.length = p107.1.length ∧ Fr a 22 [(0, .slice A0 x0.length c0), (2, .slice none 0 0), (3, .slice (some ⟨g101, 0, none⟩) x0.length x0.length), (4, .int .i64 p107.2)] ∧ St w u [.row 4 1 (.slice (some ⟨g101, 0, none⟩) x0.length x0.length) x0.length (p107.1.flatMap eB)]) FUEL ⟨(List.replicate x0.length false, 0), hM106, List.length_replicate.symm, hF.keep _ ⟨rfl, rfl, rfl, rfl, trivial⟩, S.sel [0] rfl rfl⟩ ?_
    clear hF S hM106; rintro m a u ⟨p107, hM106, hn108, hF, S⟩
    rcases m with _ | f1
    · exact none_some hM106
    rw [m_laws_toBoolS_l1.eq_2] at hM106
    refine wp_seq ?_
    refine wp_seq ?_
    refine wp_region_lit ?_
    refine op_val (v := .int .i64 p107.2) rfl rfl hF rfl (run_move rfl (hF.ev rfl)) ?_; clear hF; intro a hF
    refine op_val (v := .slice A0 x0.length c0) rfl rfl hF rfl (run_move rfl (hF.ev rfl)) ?_; clear hF; intro a hF
    refine op_val (v := .int .i64 (x0.length : Int)) rfl rfl hF rfl (run_lenL rfl rfl Try.underlying22 (hF.ev rfl)) ?_; clear hF; intro a hF
    refine op_val (v := .bool (ltB p107.2 (x0.length : Int))) rfl rfl hF rfl (run_lss (hF.ev rfl) (hF.ev rfl) rfl) ?_; clear hF; intro a hF
    refine wpList_nil ?_
    cases hc109 : (ltB p107.2 (x0.length : Int))
    · replace hM106 := bif_f hc109 hM106
      refine cond_f hF rfl hc109 ?_
      refine wp_exit ?_
      repeat with_reducible (first | refine then_exit ?_ | refine in_hit ?_ | refine in_miss rfl ?_)
      obtain rfl := Option.some.inj hM106
      exact ⟨p107.1, rfl, hn108, hF.keep _ ⟨rfl, rfl, trivial⟩, S.sel [0] rfl rfl⟩
    · replace hM106 := bif_t hc109 hM106
      refine cond_t hF rfl hc109 ?_
      refine wp_skip ?_
      refine wp_seq ?_
      refine wp_block ?_
      refine wp_region_lit ?_
      refine op_val (v := .slice (some ⟨g101, 0, none⟩) x0.length x0.length) rfl rfl hF rfl (run_move rfl (hF.ev rfl)) ?_; clear hF; intro a hF
      refine op_val (v := .int .i64 p107.2) rfl rfl hF rfl (run_move rfl (hF.ev rfl)) ?_; clear hF; intro a hF
      refine op_val (v := .slice A0 x0.length c0) rfl rfl hF rfl (run_move rfl (hF.ev rfl)) ?_; clear hF; intro a hF
      refine op_val (v := .int .i64 p107.2) rfl rfl hF rfl (run_move rfl (hF.ev rfl)) ?_; clear hF; intro a hF
      obtain ⟨hk110, hM106⟩ := chk_ex hM106
      replace hk110 := ixB_t hk110
      refine op_val (v := .pointer (some ⟨adB A0, adO A0 + p107.2.toNat * 1, none⟩)) rfl rfl hF rfl (run_indexAddr (b := adB A0) (off := adO A0) rfl Try.underlying22 sz4 ((hF.ev rfl).trans (congrArg (fun A => Value.slice A x0.length c0) ((S.rc0 h0.rc).rd.ad (ix_pos hk110)))) (hF.ev rfl) hk110.1 hk110.2 (k' := adO A0 + p107.2.toNat * 1) rfl) ?_; clear hF; intro a hF
      refine op_val (v := .bool (x0.getD p107.2.toNat false)) rfl rfl hF rfl (run_load1 rfl one4 (hF.ev rfl) (rd_el0 (l := x0) (S.rc0 h0.rc).rd rfl eB_len false (ix_ltn hk110 rfl) rfl)) ?_; clear hF; intro a hF
      obtain ⟨hk111, hM106⟩ := chk_ex hM106
      replace hk111 := ixB_t hk111
      refine op_val (v := .pointer (some ⟨adB (some ⟨g101, 0, none⟩), adO (some ⟨g101, 0, none⟩) + p107.2.toNat * 1, none⟩)) rfl rfl hF rfl (run_indexAddr (b := adB (some ⟨g101, 0, none⟩)) (off := adO (some ⟨g101, 0, none⟩)) rfl Try.underlying22 sz4 ((hF.ev rfl).trans (congrArg (fun A => Value.slice A x0.length x0.length) ((S.rc 0 rfl).rd.ad (ix_pos hk111)))) (hF.ev rfl) hk111.1 hk111.2 (k' := adO (some ⟨g101, 0, none⟩) + p107.2.toNat * 1) rfl) ?_; clear hF; intro a hF
      obtain ⟨w', hrun, S'⟩ := run_storeElN (P := Try.prog) (ρ := a.eval) (y0 := (x0.getD p107.2.toNat false)) (off := 0) S 4 (.tmp 20) (.tmp 19) (i := 0) sz4 (hF.ev rfl) (hF.ev rfl) rfl rfl rfl rfl hn108 eB_len false (ix_ltn hk111 hn108) rfl rfl
      refine op_do rfl rfl (hrun _ rfl) ?_; clear hrun S; have S := S'; clear S'; generalize w' = u at S ⊢
      refine wpList_nil ?_
      refine wp_region_lit ?_
      refine op_val (v := .int .i64 p107.2) rfl rfl hF rfl (run_move rfl (hF.ev rfl)) ?_; clear hF; intro a hF
      refine op_val (v := .int .i64 (w64 (p107.2 + 1))) rfl rfl hF rfl (run_add (z := w64 (p107.2 + 1)) (hF.ev rfl) rfl rfl rfl) ?_; clear hF; intro a hF
      refine op_val (v := .int .i64 (w64 (p107.2 + 1))) rfl rfl hF rfl (run_assign rfl (hF.ev rfl)) ?_; clear hF; intro a hF
      refine wpList_nil ?_
      exact ⟨f1, Nat.lt_succ_self _, (p107.1.set p107.2.toNat (x0.getD p107.2.toNat false), w64 (p107.2 + 1)), hM106, (len_set hn108), hF.keep _ ⟨rfl, rfl, rfl, rfl, trivial⟩, S.sel [0] rfl rfl⟩
  · rintro a u ⟨p103, rfl, hn105, hF, S⟩
    refine wp_seq ?_
    refine wp_region_lit ?_
    refine op_val (v := .slice (some ⟨g101, 0, none⟩) x0.length x0.length) rfl rfl hF rfl (run_move rfl (hF.ev rfl)) ?_; clear hF; intro a hF
    refine op_val (v := .slice (some ⟨g101, 0, none⟩) x0.length x0.length) rfl rfl hF rfl (run_assign rfl (hF.ev rfl)) ?_; clear hF; intro a hF
    refine wpList_nil ?_
    refine wp_ret ?_
    repeat with_reducible (first | refine then_ret ?_ | refine in_ret ?_ | refine in_nrm ?_)
    refine ret1_gw (.inl rfl) hF rfl (res_tmp (hF.ev rfl)) ?_
    obtain rfl := Option.some.inj hM
    exact ⟨(some ⟨g101, 0, none⟩), x0.length, x0.length, rfl, hn105, S.sel [0] rfl rfl⟩

set_option maxHeartbeats 4000000 in
theorem c_laws_toPanel {x0 : List Bool} {x1 : Int} {x2 : Int} {x3 : Bool} {x4 : Int} {A0 : Option Addr} {n0 c0 : Nat} {w : World} {r : List Bool × Int × Int × Bool × Int} (h0 : Rt w 1 eB A0 n0 c0 x0) (hM : m_laws_toPanel x0 x1 x2 x3 x4 = some r) :
    Calls Try.prog 8 #[.agg #[.slice A0 n0 c0, .int .i64 x1, .int .i64 x2, .bool x3, .int .i64 x4]] w (fun e w' => ∃ (B0 : Option Addr) (N0 D0 : Nat), e = .returned (.agg #[.slice B0 N0 D0, .int .i64 r.2.1, .int .i64 r.2.2.1, .bool r.2.2.2.1, .int .i64 r.2.2.2.2]) ∧ N0 = r.1.length ∧ St w w' [.row 4 1 (.slice B0 N0 D0) N0 (r.1.flatMap eB)]) := by
  obtain rfl := h0.len
  unfold m_laws_toPanel at hM
  refine calls_gw Try.func8 Try.ntmps8 rfl [(0, .agg #[.slice A0 x0.length c0, .int .i64 x1, .int .i64 x2, .bool x3, .int .i64 x4])] ⟨rfl, trivial⟩ rfl ?_
  intro a hF
  have S := St.nil w
  refine wp_seq ?_
  refine wp_region_lit ?_
  refine op_new (cs := #[.slice A0 x0.length c0, .int .i64 x1, .int .i64 x2, .bool x3, .int .i64 x4]) rfl rfl hF rfl S (run_box rfl (hF.ev rfl) rfl) ?_; clear hF S; intro a g101 u hF S
  refine op_new (cs := #[.slice none 0 0, .int .i64 0, .int .i64 0, .bool false, .int .i64 0]) rfl rfl hF rfl S (run_allocZ rfl zr28) ?_; clear hF S; intro a g102 u hF S
  refine wpList_nil ?_
  refine wp_seq ?_
  refine wp_region_lit ?_
  refine op_new (cs := #[.slice none 0 0, .int .i64 0, .int .i64 0, .bool false, .int .i64 0]) rfl rfl hF rfl S (run_allocZ rfl zr28) ?_; clear hF S; intro a g103 u hF S
  refine wpList_nil ?_
  refine wp_seq ?_
  refine wp_region_lit ?_
  refine op_val (v := .pointer (some ⟨g101, 0, none⟩)) rfl rfl hF rfl (run_fieldAddr rfl fl24_0 (hF.ev rfl) rfl) ?_; clear hF; intro a hF
  refine op_val (v := .slice A0 x0.length c0) rfl rfl hF rfl (run_load1 rfl one22 (hF.ev rfl) ((S.free 2 rfl).cell rfl)) ?_; clear hF; intro a hF
  obtain ⟨p104, h104, hM⟩ := bind_ex hM
  refine op_call rfl rfl hF rfl (run_call (vs := [.slice A0 x0.length c0]) rfl rfl co33 ⟨(hF.ev rfl), trivial⟩) (c_laws_toBoolS (x0 := x0) ⟨(S.rc0 h0.rc), rfl⟩ h104) ?_
  rintro e u ⟨B105, n106, d107, rfl, rfl, T⟩
  refine ⟨_, rfl, ?_⟩
  clear hF; intro a hF
  replace S := S.call1 T; clear T
  refine op_val (v := .pointer (some ⟨g103, 0, none⟩)) rfl rfl hF rfl (run_fieldAddr rfl fl28_0 (hF.ev rfl) rfl) ?_; clear hF; intro a hF
  refine op_do rfl rfl (run_store (cs' := #[.slice B105 p104.length d107, .int .i64 0, .int .i64 0, .bool false, .int .i64 0]) rfl sz22 (hF.ev rfl) (hF.ev rfl) rfl rfl rfl (S.free 1 rfl) rfl rfl) ?_; replace S := S.put 1 rfl (#[.slice B105 p104.length d107, .int .i64 0, .int .i64 0, .bool false, .int .i64 0])
  generalize World.setRow _ _ _ = u at S ⊢
  refine wpList_nil ?_
  refine wp_seq ?_
  refine wp_region_lit ?_
  refine op_val (v := .pointer (some ⟨g101, 1, none⟩)) rfl rfl hF rfl (run_fieldAddr rfl fl24_1 (hF.ev rfl) rfl) ?_; clear hF; intro a hF
  refine op_val (v := .int .i64 x1) rfl rfl hF rfl (run_load1 rfl one3 (hF.ev rfl) ((S.free 3 rfl).cell rfl)) ?_; clear hF; intro a hF
  refine op_val (v := .pointer (some ⟨g103, 1, none⟩)) rfl rfl hF rfl (run_fieldAddr rfl fl28_1 (hF.ev rfl) rfl) ?_; clear hF; intro a hF
  refine op_do rfl rfl (run_store (cs' := #[.slice B105 p104.length d107, .int .i64 x1, .int .i64 0, .bool false, .int .i64 0]) rfl sz3 (hF.ev rfl) (hF.ev rfl) rfl rfl rfl (S.free 1 rfl) rfl rfl) ?_; replace S := S.put 1 rfl (#[.slice B105 p104.length d107, .int .i64 x1, .int .i64 0, .bool false, .int .i64 0])
  generalize World.setRow _ _ _ = u at S ⊢
  refine wpList_nil ?_
  refine wp_seq ?_
  refine wp_region_lit ?_
  refine op_val (v := .pointer (some ⟨g101, 2, none⟩)) rfl rfl hF rfl (run_fieldAddr rfl fl24_2 (hF.ev rfl) rfl) ?_; clear hF; intro a hF
  refine op_val (v := .int .i64 x2) rfl rfl hF rfl (run_load1 rfl one3 (hF.ev rfl) ((S.free 3 rfl).cell rfl)) ?_; clear hF; intro a hF
  refine op_val (v := .pointer (some ⟨g103, 2, none⟩)) rfl rfl hF rfl (run_fieldAddr rfl fl28_2 (hF.ev rfl) rfl) ?_; clear hF; intro a hF
  refine op_do rfl rfl (run_store (cs' := #[.slice B105 p104.length d107, .int .i64 x1, .int .i64 x2, .bool false, .int .i64 0]) rfl sz3 (hF.ev rfl) (hF.ev rfl) rfl rfl rfl (S.free 1 rfl) rfl rfl) ?_; replace S := S.put 1 rfl (#[.slice B105 p104.length d107, .int .i64 x1, .int .i64 x2, .bool false, .int .i64 0])
  generalize World.setRow _ _ _ = u at S ⊢
  refine wpList_nil ?_
  refine wp_seq ?_
  refine wp_region_lit ?_
  refine op_val (v := .pointer (some ⟨g101, 3, none⟩)) rfl rfl hF rfl (run_fieldAddr rfl fl24_3 (hF.ev rfl) rfl) ?_; clear hF; intro a hF
  refine op_val (v := .bool x3) rfl rfl hF rfl (run_load1 rfl one4 (hF.ev rfl) ((S.free 3 rfl).cell rfl)) ?_; clear hF; intro a hF
  refine op_val (v := .pointer (some ⟨g103, 3, none⟩)) rfl rfl hF rfl (run_fieldAddr rfl fl28_3 (hF.ev rfl) rfl) ?_; clear hF; intro a hF
  refine op_do rfl rfl (run_store (cs' := #[.slice B105 p104.length d107, .int .i64 x1, .int .i64 x2, .bool x3, .int .i64 0]) rfl sz4 (hF.ev rfl) (hF.ev rfl) rfl rfl rfl (S.free 1 rfl) rfl rfl) ?_; replace S := S.put 1 rfl (#[.slice B105 p104.length d107, .int .i64 x1, .int .i64 x2, .bool x3, .int .i64 0])
  generalize World.setRow _ _ _ = u at S ⊢
  refine wpList_nil ?_
  refine wp_seq ?_
  refine wp_region_lit ?_
  refine op_val (v := .pointer (some ⟨g101, 4, none⟩)) rfl rfl hF rfl (run_fieldAddr rfl fl24_4 (hF.ev rfl) rfl) ?_; clear hF; intro a hF
  refine op_val (v := .int .i64 x4) rfl rfl hF rfl (run_load1 rfl one3 (hF.ev rfl) ((S.free 3 rfl).cell rfl)) ?_; clear hF; intro a hF
  refine op_val (v := .pointer (some ⟨g103, 4, none⟩)) rfl rfl hF rfl (run_fieldAddr rfl fl28_4 (hF.ev rfl) rfl) ?_; clear hF; intro a hF
  refine op_do rfl rfl (run_store (cs' := #[.slice B105 p104.length d107, .int .i64 x1, .int .i64 x2, .bool x3, .int .i64 x4]) rfl sz3 (hF.ev rfl) (hF.ev rfl) rfl rfl rfl (S.free 1 rfl) rfl rfl) ?_; replace S := S.put 1 rfl (#[.slice B105 p104.length d107, .int .i64 x1, .int .i64 x2, .bool x3, .int .i64 x4])
  generalize World.setRow _ _ _ = u at S ⊢
  refine wpList_nil ?_
  refine wp_seq ?_
  refine wp_region_lit ?_
  refine op_val (v := .agg #[.slice B105 p104.length d107, .int .i64 x1, .int .i64 x2, .bool x3, .int .i64 x4]) rfl rfl hF rfl (run_loadN rfl ag28 (hF.ev rfl) rfl ((S.free 1 rfl).cells 0 #[.slice B105 p104.length d107, .int .i64 x1, .int .i64 x2, .bool x3, .int .i64 x4] rfl)) ?_; clear hF; intro a hF
  refine op_do rfl rfl (run_store (cs' := #[.slice B105 p104.length d107, .int .i64 x1, .int .i64 x2, .bool x3, .int .i64 x4]) rfl sz28 (hF.ev rfl) (hF.ev rfl) rfl rfl rfl (S.free 2 rfl) rfl rfl) ?_; replace S := S.put 2 rfl (#[.slice B105 p104.length d107, .int .i64 x1, .int .i64 x2, .bool x3, .int .i64 x4])
  generalize World.setRow _ _ _ = u at S ⊢
  refine wpList_nil ?_
  refine wp_ret ?_
  repeat with_reducible (first | refine then_ret ?_ | refine in_ret ?_ | refine in_nrm ?_)
  refine ret1_gw (.inl rfl) hF rfl (res_cell (hF.ev rfl) (res_loadN ag28 rfl (S.cells 2 rfl 0 #[.slice B105 p104.length d107, .int .i64 x1, .int .i64 x2, .bool x3, .int .i64 x4] rfl))) ?_
  obtain rfl := Option.some.inj hM
  exact ⟨B105, p104.length, d107, rfl, rfl, S.sel [0] rfl rfl⟩

set_option maxHeartbeats 4000000 in
theorem c_laws_toCommand {x0 : Int} {x1 : Int} {x2 : Int} {x3 : Bool} {w : World} {r : Int × Int × Int × Bool}  (hM : m_laws_toCommand x0 x1 x2 x3 = some r) :
    Calls Try.prog 9 #[.agg #[.int .i64 x0, .int .i64 x1, .int .i64 x2, .bool x3]] w (fun e w' => e = .returned (.agg #[.int .i64 r.1, .int .i64 r.2.1, .int .i64 r.2.2.1, .bool r.2.2.2]) ∧ St w w' []) := by
  unfold m_laws_toCommand at hM
  refine calls_gw Try.func9 Try.ntmps9 rfl [(0, .agg #[.int .i64 x0, .int .i64 x1, .int .i64 x2, .bool x3])] ⟨rfl, trivial⟩ rfl ?_
  intro a hF
  have S := St.nil w
  refine wp_seq ?_
  refine wp_region_lit ?_
  refine op_new (cs := #[.int .i64 x0, .int .i64 x1, .int .i64 x2, .bool x3]) rfl rfl hF rfl S (run_box rfl (hF.ev rfl) rfl) ?_; clear hF S; intro a g101 u hF S
  refine op_new (cs := #[.int .i64 0, .int .i64 0, .int .i64 0, .bool false]) rfl rfl hF rfl S (run_allocZ rfl zr32) ?_; clear hF S; intro a g102 u hF S
  refine wpList_nil ?_
  refine wp_seq ?_
  refine wp_region_lit ?_
  refine op_new (cs := #[.int .i64 0, .int .i64 0, .int .i64 0, .bool false]) rfl rfl hF rfl S (run_allocZ rfl zr32) ?_; clear hF S; intro a g103 u hF S
  refine wpList_nil ?_
  refine wp_seq ?_
  refine wp_region_lit ?_
  refine op_val (v := .pointer (some ⟨g101, 0, none⟩)) rfl rfl hF rfl (run_fieldAddr rfl fl26_0 (hF.ev rfl) rfl) ?_; clear hF; intro a hF
  refine op_val (v := .int .i64 x0) rfl rfl hF rfl (run_load1 rfl one3 (hF.ev rfl) ((S.free 2 rfl).cell rfl)) ?_; clear hF; intro a hF
  refine op_val (v := .pointer (some ⟨g103, 0, none⟩)) rfl rfl hF rfl (run_fieldAddr rfl fl32_0 (hF.ev rfl) rfl) ?_; clear hF; intro a hF
  refine op_do rfl rfl (run_store (cs' := #[.int .i64 x0, .int .i64 0, .int .i64 0, .bool false]) rfl sz3 (hF.ev rfl) (hF.ev rfl) rfl rfl rfl (S.free 0 rfl) rfl rfl) ?_; replace S := S.put 0 rfl (#[.int .i64 x0, .int .i64 0, .int .i64 0, .bool false])
  generalize World.setRow _ _ _ = u at S ⊢
  refine wpList_nil ?_
  refine wp_seq ?_
  refine wp_region_lit ?_
  refine op_val (v := .pointer (some ⟨g101, 1, none⟩)) rfl rfl hF rfl (run_fieldAddr rfl fl26_1 (hF.ev rfl) rfl) ?_; clear hF; intro a hF
  refine op_val (v := .int .i64 x1) rfl rfl hF rfl (run_load1 rfl one3 (hF.ev rfl) ((S.free 2 rfl).cell rfl)) ?_; clear hF; intro a hF
  refine op_val (v := .pointer (some ⟨g103, 1, none⟩)) rfl rfl hF rfl (run_fieldAddr rfl fl32_1 (hF.ev rfl) rfl) ?_; clear hF; intro a hF
  refine op_do rfl rfl (run_store (cs' := #[.int .i64 x0, .int .i64 x1, .int .i64 0, .bool false]) rfl sz3 (hF.ev rfl) (hF.ev rfl) rfl rfl rfl (S.free 0 rfl) rfl rfl) ?_; replace S := S.put 0 rfl (#[.int .i64 x0, .int .i64 x1, .int .i64 0, .bool false])
  generalize World.setRow _ _ _ = u at S ⊢
  refine wpList_nil ?_
  refine wp_seq ?_
  refine wp_region_lit ?_
  refine op_val (v := .pointer (some ⟨g101, 2, none⟩)) rfl rfl hF rfl (run_fieldAddr rfl fl26_2 (hF.ev rfl) rfl) ?_; clear hF; intro a hF
  refine op_val (v := .int .i64 x2) rfl rfl hF rfl (run_load1 rfl one3 (hF.ev rfl) ((S.free 2 rfl).cell rfl)) ?_; clear hF; intro a hF
  refine op_val (v := .pointer (some ⟨g103, 2, none⟩)) rfl rfl hF rfl (run_fieldAddr rfl fl32_2 (hF.ev rfl) rfl) ?_; clear hF; intro a hF
  refine op_do rfl rfl (run_store (cs' := #[.int .i64 x0, .int .i64 x1, .int .i64 x2, .bool false]) rfl sz3 (hF.ev rfl) (hF.ev rfl) rfl rfl rfl (S.free 0 rfl) rfl rfl) ?_; replace S := S.put 0 rfl (#[.int .i64 x0, .int .i64 x1, .int .i64 x2, .bool false])
  generalize World.setRow _ _ _ = u at S ⊢
  refine wpList_nil ?_
  refine wp_seq ?_
  refine wp_region_lit ?_
  refine op_val (v := .pointer (some ⟨g101, 3, none⟩)) rfl rfl hF rfl (run_fieldAddr rfl fl26_3 (hF.ev rfl) rfl) ?_; clear hF; intro a hF
  refine op_val (v := .bool x3) rfl rfl hF rfl (run_load1 rfl one4 (hF.ev rfl) ((S.free 2 rfl).cell rfl)) ?_; clear hF; intro a hF
  refine op_val (v := .pointer (some ⟨g103, 3, none⟩)) rfl rfl hF rfl (run_fieldAddr rfl fl32_3 (hF.ev rfl) rfl) ?_; clear hF; intro a hF
  refine op_do rfl rfl (run_store (cs' := #[.int .i64 x0, .int .i64 x1, .int .i64 x2, .bool x3]) rfl sz4 (hF.ev rfl) (hF.ev rfl) rfl rfl rfl (S.free 0 rfl) rfl rfl) ?_; replace S := S.put 0 rfl (#[.int .i64 x0, .int .i64 x1, .int .i64 x2, .bool x3])
  generalize World.setRow _ _ _ = u at S ⊢
  refine wpList_nil ?_
  refine wp_seq ?_
  refine wp_region_lit ?_
  refine op_val (v := .agg #[.int .i64 x0, .int .i64 x1, .int .i64 x2, .bool x3]) rfl rfl hF rfl (run_loadN rfl ag32 (hF.ev rfl) rfl ((S.free 0 rfl).cells 0 #[.int .i64 x0, .int .i64 x1, .int .i64 x2, .bool x3] rfl)) ?_; clear hF; intro a hF
  refine op_do rfl rfl (run_store (cs' := #[.int .i64 x0, .int .i64 x1, .int .i64 x2, .bool x3]) rfl sz32 (hF.ev rfl) (hF.ev rfl) rfl rfl rfl (S.free 1 rfl) rfl rfl) ?_; replace S := S.put 1 rfl (#[.int .i64 x0, .int .i64 x1, .int .i64 x2, .bool x3])
  generalize World.setRow _ _ _ = u at S ⊢
  refine wpList_nil ?_
  refine wp_ret ?_
  repeat with_reducible (first | refine then_ret ?_ | refine in_ret ?_ | refine in_nrm ?_)
  refine ret1_gw (.inl rfl) hF rfl (res_cell (hF.ev rfl) (res_loadN ag32 rfl (S.cells 1 rfl 0 #[.int .i64 x0, .int .i64 x1, .int .i64 x2, .bool x3] rfl))) ?_
  obtain rfl := Option.some.inj hM
  exact ⟨rfl, S.sel [] rfl rfl⟩

set_option maxHeartbeats 4000000 in
theorem c_spec_l1In {x0 : Int} {x1 : Int} {x2 : Int} {w : World} {r : Bool}  (hM : m_spec_l1In x0 x1 x2 = some r) :
    Calls Try.prog 31 #[.int .i64 x0, .int .i64 x1, .int .i64 x2] w (fun e w' => e = .returned (.bool r) ∧ St w w' []) := by
  unfold m_spec_l1In at hM
  refine calls_gw Try.func31 Try.ntmps31 rfl [(0, .int .i64 x0), (1, .int .i64 x1), (2, .int .i64 x2)] ⟨rfl, rfl, rfl, trivial⟩ rfl ?_
  intro a hF
  have S := St.nil w
  refine wp_seq ?_
  refine wp_region_lit ?_
  refine op_val (v := .bool false) rfl rfl hF rfl (run_assign rfl rfl) ?_; clear hF; intro a hF
  refine wpList_nil ?_
  refine wp_seq ?_
  refine wp_region_lit ?_
  refine op_val (v := .int .i64 x0) rfl rfl hF rfl (run_move rfl (hF.ev rfl)) ?_; clear hF; intro a hF
  refine op_val (v := .int .i64 x1) rfl rfl hF rfl (run_move rfl (hF.ev rfl)) ?_; clear hF; intro a hF
  refine op_val (v := .bool (leB x1 x0)) rfl rfl hF rfl (run_geq (hF.ev rfl) (hF.ev rfl) rfl) ?_; clear hF; intro a hF
  refine op_val (v := .bool (leB x1 x0)) rfl rfl hF rfl (run_move rfl (hF.ev rfl)) ?_; clear hF; intro a hF
  refine op_gv (v := .int .i64 x0) rfl rfl hF rfl (yt (gw_yield hF rfl rfl rfl)) (fun hg => (run_move rfl (hF.ev rfl))) ?_; clear hF; intro a hF
  refine op_gv (v := .int .i64 x2) rfl rfl hF rfl (yt (gw_yield hF rfl rfl rfl)) (fun hg => (run_move rfl (hF.ev rfl))) ?_; clear hF; intro a hF
  refine op_gv (v := .bool (leB x0 x2)) rfl rfl hF rfl (yt (gw_yield hF rfl rfl rfl)) (fun hg => (run_leq ((hF.ev rfl).trans (gv_t hg)) ((hF.ev rfl).trans (gv_t hg)) rfl)) ?_; clear hF; intro a hF
  refine op_val (v := .bool ((leB x1 x0) && (leB x0 x2))) rfl rfl hF rfl (run_pick_and rfl (hF.ev rfl) (fun hp => ((hF.ev rfl).trans (gv_t hp))) rfl) ?_; clear hF; intro a hF
  refine op_val (v := .bool ((leB x1 x0) && (leB x0 x2))) rfl rfl hF rfl (run_assign rfl (hF.ev rfl)) ?_; clear hF; intro a hF
  refine wpList_nil ?_
  refine wp_ret ?_
  repeat with_reducible (first | refine then_ret ?_ | refine in_ret ?_ | refine in_nrm ?_)
  refine ret1_gw (.inl rfl) hF rfl (res_tmp (hF.ev rfl)) ?_
  obtain rfl := Option.some.inj hM
  exact ⟨rfl, S.sel [] rfl rfl⟩

set_option maxHeartbeats 4000000 in
theorem c_spec_PanelValid {x0 : List Bool} {x1 : Int} {x2 : Int} {x3 : Bool} {x4 : Int} {A0 : Option Addr} {n0 c0 : Nat} {w : World} {r : Bool} (h0 : Rt w 1 eB A0 n0 c0 x0) (hM : m_spec_PanelValid x0 x1 x2 x3 x4 = some r) :
    Calls Try.prog 29 #[.agg #[.slice A0 n0 c0, .int .i64 x1, .int .i64 x2, .bool x3, .int .i64 x4]] w (fun e w' => e = .returned (.bool r) ∧ St w w' []) := by
  obtain rfl := h0.len
  unfold m_spec_PanelValid at hM
  refine calls_gw Try.func29 Try.ntmps29 rfl [(0, .agg #[.slice A0 x0.length c0, .int .i64 x1, .int .i64 x2, .bool x3, .int .i64 x4])] ⟨rfl, trivial⟩ rfl ?_
  intro a hF
  have S := St.nil w
  refine wp_seq ?_
  refine wp_region_lit ?_
  refine op_new (cs := #[.slice A0 x0.length c0, .int .i64 x1, .int .i64 x2, .bool x3, .int .i64 x4]) rfl rfl hF rfl S (run_box rfl (hF.ev rfl) rfl) ?_; clear hF S; intro a g101 u hF S
  refine op_val (v := .bool false) rfl rfl hF rfl (run_assign rfl rfl) ?_; clear hF; intro a hF
  refine wpList_nil ?_
  refine wp_seq ?_
  refine wp_seq ?_
  refine wp_region_lit ?_
  refine op_val (v := .pointer (some ⟨g101, 0, none⟩)) rfl rfl hF rfl (run_fieldAddr rfl fl28_0 (hF.ev rfl) rfl) ?_; clear hF; intro a hF
  refine op_val (v := .slice A0 x0.length c0) rfl rfl hF rfl (run_load1 rfl one22 (hF.ev rfl) ((S.free 0 rfl).cell rfl)) ?_; clear hF; intro a hF
  refine op_val (v := .int .i64 (x0.length : Int)) rfl rfl hF rfl (run_lenL rfl rfl Try.underlying22 (hF.ev rfl)) ?_; clear hF; intro a hF
  obtain ⟨p102, h102, hM⟩ := bind_ex hM
  refine op_call rfl rfl hF rfl (run_call (vs := [.int .i64 (x0.length : Int), .int .i64 1, .int .i64 10]) rfl rfl co31 ⟨(hF.ev rfl), rfl, rfl, trivial⟩) (c_spec_l1In (x0 := (x0.length : Int)) (x1 := 1) (x2 := 10)  h102) ?_
  rintro e u ⟨rfl, T⟩
  refine ⟨_, rfl, ?_⟩
  clear hF; intro a hF
  replace S := S.call0 T; clear T
  refine op_val (v := .bool (!p102)) rfl rfl hF rfl (run_not rfl (hF.ev rfl)) ?_; clear hF; intro a hF
  refine wpList_nil ?_
  cases hc103 : (p102)
  · replace hM := bif_f hc103 hM
    refine cond_t hF rfl (not_t hc103) ?_
    refine wp_seq ?_
    refine wp_region_lit ?_
    refine op_val (v := .bool false) rfl rfl hF rfl (run_assign rfl rfl) ?_; clear hF; intro a hF
    refine wpList_nil ?_
    refine wp_ret ?_
    repeat with_reducible (first | refine then_ret ?_ | refine in_ret ?_ | refine in_nrm ?_)
    refine ret1_gw (.inl rfl) hF rfl (res_tmp (hF.ev rfl)) ?_
    obtain rfl := Option.some.inj hM
    exact ⟨rfl, S.sel [] rfl rfl⟩
  · replace hM := bif_t hc103 hM
    refine cond_f hF rfl (not_f hc103) ?_
    refine wp_skip ?_
    refine wp_seq ?_
    refine wp_seq ?_
    refine wp_region_lit ?_
    refine op_val (v := .pointer (some ⟨g101, 1, none⟩)) rfl rfl hF rfl (run_fieldAddr rfl fl28_1 (hF.ev rfl) rfl) ?_; clear hF; intro a hF
    refine op_val (v := .int .i64 x1) rfl rfl hF rfl (run_load1 rfl one3 (hF.ev rfl) ((S.free 0 rfl).cell rfl)) ?_; clear hF; intro a hF
    refine op_val (v := .bool (x1 == (-1))) rfl rfl hF rfl (run_eql (hF.ev rfl) rfl rfl) ?_; clear hF; intro a hF
    refine wpList_nil ?_
    cases hc104 : (x1 == (-1))
    · replace hM := bif_f hc104 hM
      refine cond_f hF rfl hc104 ?_
      refine wp_skip ?_
      refine wp_seq ?_
      obtain ⟨p105, h105, hM⟩ := bind_ex hM
      obtain ⟨p106, h106, hM⟩ := bind_ex hM
      obtain ⟨hk107, hM⟩ := chk_ex hM
      replace hk107 := fun hg => ixB_t (imp_t hk107 hg)
      obtain ⟨p108, h108, hM⟩ := bind_ex hM
      refine region_gw (D := [24, 25, 26, 27, 28, 29, 30, 31, 32, 33, 34, 35, 36, 37, 38, 39, 40, 41, 42, 43, 44, 45, 46, 47, 48, 49, 50, 51, 2]) (Lr := [.box g101 28 #[.slice A0 x0.length c0, .int .i64 x1, .int .i64 x2, .bool x3, .int .i64 x4]]) (deps := (fun | 0 => [24] | 1 => [25] | 2 => [26] | 3 => [27] | 4 => [28] | 5 => [29] | 6 => [30] | 7 => [31] | 8 => [32] | 9 => [33] | 10 => [34] | 11 => [35] | 12 => [36] | 13 => [37] | 14 => [38] | 15 => [39] | 16 => [40] | 17 => [41] | 18 => [42] | 19 => [43] | 20 => [44] | 21 => [45] | 22 => [46] | 23 => [47] | 24 => [48] | 25 => [49] | 26 => [50] | 27 => [51] | 28 => [2] | _ => [])) (rd := (fun _ => [])) (zr := (fun _ => []))
        (φ := fun i vs => match i, vs with | 0, [v24] => v24 = .pointer (some ⟨g101, 1, none⟩) | 1, [v25] => v25 = .int .i64 x1 | 2, [v26] => v26 = .bool p105 | 3, [v27] => v27 = .bool p105 | 4, [v28] => v28 = gv p105 (.pointer (some ⟨g101, 2, none⟩)) | 5, [v29] => v29 = gv p105 (.int .i64 x2) | 6, [v30] => v30 = gv p105 (.pointer (some ⟨g101, 0, none⟩)) | 7, [v31] => v31 = gv p105 (.slice A0 x0.length c0) | 8, [v32] => v32 = gv p105 (.int .i64 (x0.length : Int)) | 9, [v33] => v33 = gv p105 (.int .i64 (w64 ((x0.length : Int) - 1))) | 10, [v34] => v34 = gv p105 (.bool p106) | 11, [v35] => v35 = .bool (p105 && p106) | 12, [v36] => v36 = .bool (p105 && p106) | 13, [v37] => v37 = gv (p105 && p106) (.pointer (some ⟨g101, 0, none⟩)) | 14, [v38] => v38 = gv (p105 && p106) (.slice A0 x0.length c0) | 15, [v39] => v39 = gv (p105 && p106) (.pointer (some ⟨g101, 2, none⟩)) | 16, [v40] => v40 = gv (p105 && p106) (.int .i64 x2) | 17, [v41] => v41 = gv (p105 && p106) (.pointer (some ⟨adB A0, adO A0 + x2.toNat * 1, none⟩)) | 18, [v42] => v42 = gv (p105 && p106) (.bool (x0.getD x2.toNat false)) | 19, [v43] => v43 = gv (p105 && p106) (.pointer (some ⟨g101, 3, none⟩)) | 20, [v44] => v44 = gv (p105 && p106) (.bool x3) | 21, [v45] => v45 = gv (p105 && p106) (.bool ((x0.getD x2.toNat false) != x3)) | 22, [v46] => v46 = .bool ((p105 && p106) && ((x0.getD x2.toNat false) != x3)) | 23, [v47] => v47 = .bool ((p105 && p106) && ((x0.getD x2.toNat false) != x3)) | 24, [v48] => v48 = gv ((p105 && p106) && ((x0.getD x2.toNat false) != x3)) (.pointer (some ⟨g101, 4, none⟩)) | 25, [v49] => v49 = gv ((p105 && p106) && ((x0.getD x2.toNat false) != x3)) (.int .i64 x4) | 26, [v50] => v50 = gv ((p105 && p106) && ((x0.getD x2.toNat false) != x3)) (.bool p108) | 27, [v51] => v51 = .bool (((p105 && p106) && ((x0.getD x2.toNat false) != x3)) && p108) | 28, [v2] => v2 = .bool (((p105 && p106) && ((x0.getD x2.toNat false) != x3)) && p108) | _, _ => True)
        (C := fun _ _ => [])
        (κ := (fun _ => none)) (Z := (fun _ => [])) mixed hF (by kernel_rfl) S ?_ ?_
      · refine ⟨?_, ?_, ?_, ?_, ?_, ?_, ?_, ?_, ?_, ?_, ?_, ?_, ?_, ?_, ?_, ?_, ?_, ?_, ?_, ?_, ?_, ?_, ?_, ?_, ?_, ?_, ?_, ?_, ?_, trivial⟩
        · intro a u X hB hu hp hr hz hl S
          replace S : St w u ([] ++ X) := S
          exact .inl ⟨rfl, .pointer (some ⟨g101, 1, none⟩), u, (run_fieldAddr rfl fl28_1 (hF.evB hB rfl rfl) rfl), rfl, S⟩
        · intro a u X hB hu hp hr hz hl S
          replace S : St w u ([] ++ X) := S
          have e24 : sl a 24 = .pointer (some ⟨g101, 1, none⟩) := hp 0 rfl
          exact .inl ⟨rfl, .int .i64 x1, u, (run_load1 rfl one3 (ev_sl e24) ((gr_box S hl 0 rfl).cell rfl)), rfl, S⟩
        · intro a u X hB hu hp hr hz hl S
          replace S : St w u ([] ++ X) := S
          have e25 : sl a 25 = .int .i64 x1 := hp 1 rfl
          refine .inr (.inr (.inl ⟨rfl, _, _, (run_call (vs := [.int .i64 x1, .int .i64 0, .int .i64 9]) rfl rfl co31 ⟨(ev_sl e25), (ev_const _ _), (ev_const _ _), trivial⟩), ?_⟩))
          refine Calls.mono (c_spec_l1In (x0 := x1) (x1 := 0) (x2 := 9)  h105) ?_
          rintro e w1 ⟨rfl, T⟩
          exact ⟨_, rfl, rfl, S.call0 T⟩
        · intro a u X hB hu hp hr hz hl S
          replace S : St w u ([] ++ X) := S
          have e26 : sl a 26 = .bool p105 := hp 2 rfl
          exact .inl ⟨rfl, .bool p105, u, (run_move rfl (ev_sl e26)), rfl, S⟩
        · intro a u X hB hu hp hr hz hl S
          replace S : St w u ([] ++ X) := S
          have e27 : sl a 27 = .bool p105 := hp 3 rfl
          rcases (Bool.eq_false_or_eq_true (p105)).symm with hg | hg
          · exact .inr (.inr (.inr ⟨gr_eg rfl (yt (gr_yield rfl rfl e27)) hg, (gv_f hg).symm, S⟩))
          · exact .inl ⟨gr_eg rfl (yt (gr_yield rfl rfl e27)) hg, .pointer (some ⟨g101, 2, none⟩), u, (run_fieldAddr rfl fl28_2 (hF.evB hB rfl rfl) rfl), (gv_t hg).symm, S⟩
        · intro a u X hB hu hp hr hz hl S
          replace S : St w u ([] ++ X) := S
          have e27 : sl a 27 = .bool p105 := hp 3 rfl
          have e28 : sl a 28 = gv p105 (.pointer (some ⟨g101, 2, none⟩)) := hp 4 rfl
          rcases (Bool.eq_false_or_eq_true (p105)).symm with hg | hg
          · exact .inr (.inr (.inr ⟨gr_eg rfl (yt (gr_yield rfl rfl e27)) hg, (gv_f hg).symm, S⟩))
          · exact .inl ⟨gr_eg rfl (yt (gr_yield rfl rfl e27)) hg, .int .i64 x2, u, (run_load1 rfl one3 ((ev_sl e28).trans (gv_t hg)) ((gr_box S hl 0 rfl).cell rfl)), (gv_t hg).symm, S⟩
        · intro a u X hB hu hp hr hz hl S
          replace S : St w u ([] ++ X) := S
          have e27 : sl a 27 = .bool p105 := hp 3 rfl
          rcases (Bool.eq_false_or_eq_true (p105)).symm with hg | hg
          · exact .inr (.inr (.inr ⟨gr_eg rfl (yt (gr_yield rfl rfl e27)) hg, (gv_f hg).symm, S⟩))
          · exact .inl ⟨gr_eg rfl (yt (gr_yield rfl rfl e27)) hg, .pointer (some ⟨g101, 0, none⟩), u, (run_fieldAddr rfl fl28_0 (hF.evB hB rfl rfl) rfl), (gv_t hg).symm, S⟩
        · intro a u X hB hu hp hr hz hl S
          replace S : St w u ([] ++ X) := S
          have e27 : sl a 27 = .bool p105 := hp 3 rfl
          have e30 : sl a 30 = gv p105 (.pointer (some ⟨g101, 0, none⟩)) := hp 6 rfl
          rcases (Bool.eq_false_or_eq_true (p105)).symm with hg | hg
          · exact .inr (.inr (.inr ⟨gr_eg rfl (yt (gr_yield rfl rfl e27)) hg, (gv_f hg).symm, S⟩))
          · exact .inl ⟨gr_eg rfl (yt (gr_yield rfl rfl e27)) hg, .slice A0 x0.length c0, u, (run_load1 rfl one22 ((ev_sl e30).trans (gv_t hg)) ((gr_box S hl 0 rfl).cell rfl)), (gv_t hg).symm, S⟩
        · intro a u X hB hu hp hr hz hl S
          replace S : St w u ([] ++ X) := S
          have e27 : sl a 27 = .bool p105 := hp 3 rfl
          have e31 : sl a 31 = gv p105 (.slice A0 x0.length c0) := hp 7 rfl
          rcases (Bool.eq_false_or_eq_true (p105)).symm with hg | hg
          · exact .inr (.inr (.inr ⟨gr_eg rfl (yt (gr_yield rfl rfl e27)) hg, (gv_f hg).symm, S⟩))
          · exact .inl ⟨gr_eg rfl (yt (gr_yield rfl rfl e27)) hg, .int .i64 (x0.length : Int), u, (run_lenL rfl rfl Try.underlying22 ((ev_sl e31).trans (gv_t hg))), (gv_t hg).symm, S⟩
        · intro a u X hB hu hp hr hz hl S
          replace S : St w u ([] ++ X) := S
          have e27 : sl a 27 = .bool p105 := hp 3 rfl
          have e32 : sl a 32 = gv p105 (.int .i64 (x0.length : Int)) := hp 8 rfl
          rcases (Bool.eq_false_or_eq_true (p105)).symm with hg | hg
          · exact .inr (.inr (.inr ⟨gr_eg rfl (yt (gr_yield rfl rfl e27)) hg, (gv_f hg).symm, S⟩))
          · exact .inl ⟨gr_eg rfl (yt (gr_yield rfl rfl e27)) hg, .int .i64 (w64 ((x0.length : Int) - 1)), u, (run_sub (z := w64 ((x0.length : Int) - 1)) ((ev_sl e32).trans (gv_t hg)) (ev_const _ _) rfl rfl), (gv_t hg).symm, S⟩
        · intro a u X hB hu hp hr hz hl S
          replace S : St w u ([] ++ X) := S
          have e27 : sl a 27 = .bool p105 := hp 3 rfl
          have e29 : sl a 29 = gv p105 (.int .i64 x2) := hp 5 rfl
          have e33 : sl a 33 = gv p105 (.int .i64 (w64 ((x0.length : Int) - 1))) := hp 9 rfl
          rcases (Bool.eq_false_or_eq_true (p105)).symm with hg | hg
          · exact .inr (.inr (.inr ⟨gr_eg rfl (yt (gr_yield rfl rfl e27)) hg, (gv_f hg).symm, S⟩))
          · refine .inr (.inr (.inl ⟨gr_eg rfl (yt (gr_yield rfl rfl e27)) hg, _, _, (run_call (vs := [.int .i64 x2, .int .i64 0, .int .i64 (w64 ((x0.length : Int) - 1))]) rfl rfl co31 ⟨((ev_sl e29).trans (gv_t hg)), (ev_const _ _), ((ev_sl e33).trans (gv_t hg)), trivial⟩), ?_⟩))
            refine Calls.mono (c_spec_l1In (x0 := x2) (x1 := 0) (x2 := w64 ((x0.length : Int) - 1))  (gb_t h106 hg)) ?_
            rintro e w1 ⟨rfl, T⟩
            exact ⟨_, rfl, (gv_t hg).symm, S.call0 T⟩
        · intro a u X hB hu hp hr hz hl S
          replace S : St w u ([] ++ X) := S
          have e27 : sl a 27 = .bool p105 := hp 3 rfl
          have e34 : sl a 34 = gv p105 (.bool p106) := hp 10 rfl
          exact .inl ⟨rfl, .bool (p105 && p106), u, (run_pick_and rfl (ev_sl e27) (fun hp => ((ev_sl e34).trans (gv_t hp))) (ev_const _ _)), rfl, S⟩
        · intro a u X hB hu hp hr hz hl S
          replace S : St w u ([] ++ X) := S
          have e35 : sl a 35 = .bool (p105 && p106) := hp 11 rfl
          exact .inl ⟨rfl, .bool (p105 && p106), u, (run_move rfl (ev_sl e35)), rfl, S⟩
        · intro a u X hB hu hp hr hz hl S
          replace S : St w u ([] ++ X) := S
          have e36 : sl a 36 = .bool (p105 && p106) := hp 12 rfl
          rcases (Bool.eq_false_or_eq_true (p105 && p106)).symm with hg | hg
          · exact .inr (.inr (.inr ⟨gr_eg rfl (yt (gr_yield rfl rfl e36)) hg, (gv_f hg).symm, S⟩))
          · exact .inl ⟨gr_eg rfl (yt (gr_yield rfl rfl e36)) hg, .pointer (some ⟨g101, 0, none⟩), u, (run_fieldAddr rfl fl28_0 (hF.evB hB rfl rfl) rfl), (gv_t hg).symm, S⟩
        · intro a u X hB hu hp hr hz hl S
          replace S : St w u ([] ++ X) := S
          have e36 : sl a 36 = .bool (p105 && p106) := hp 12 rfl
          have e37 : sl a 37 = gv (p105 && p106) (.pointer (some ⟨g101, 0, none⟩)) := hp 13 rfl
          rcases (Bool.eq_false_or_eq_true (p105 && p106)).symm with hg | hg
          · exact .inr (.inr (.inr ⟨gr_eg rfl (yt (gr_yield rfl rfl e36)) hg, (gv_f hg).symm, S⟩))
          · exact .inl ⟨gr_eg rfl (yt (gr_yield rfl rfl e36)) hg, .slice A0 x0.length c0, u, (run_load1 rfl one22 ((ev_sl e37).trans (gv_t hg)) ((gr_box S hl 0 rfl).cell rfl)), (gv_t hg).symm, S⟩
        · intro a u X hB hu hp hr hz hl S
          replace S : St w u ([] ++ X) := S
          have e36 : sl a 36 = .bool (p105 && p106) := hp 12 rfl
          rcases (Bool.eq_false_or_eq_true (p105 && p106)).symm with hg | hg
          · exact .inr (.inr (.inr ⟨gr_eg rfl (yt (gr_yield rfl rfl e36)) hg, (gv_f hg).symm, S⟩))
          · exact .inl ⟨gr_eg rfl (yt (gr_yield rfl rfl e36)) hg, .pointer (some ⟨g101, 2, none⟩), u, (run_fieldAddr rfl fl28_2 (hF.evB hB rfl rfl) rfl), (gv_t hg).symm, S⟩
        · intro a u X hB hu hp hr hz hl S
          replace S : St w u ([] ++ X) := S
          have e36 : sl a 36 = .bool (p105 && p106) := hp 12 rfl
          have e39 : sl a 39 = gv (p105 && p106) (.pointer (some ⟨g101, 2, none⟩)) := hp 15 rfl
          rcases (Bool.eq_false_or_eq_true (p105 && p106)).symm with hg | hg
          · exact .inr (.inr (.inr ⟨gr_eg rfl (yt (gr_yield rfl rfl e36)) hg, (gv_f hg).symm, S⟩))
          · exact .inl ⟨gr_eg rfl (yt (gr_yield rfl rfl e36)) hg, .int .i64 x2, u, (run_load1 rfl one3 ((ev_sl e39).trans (gv_t hg)) ((gr_box S hl 0 rfl).cell rfl)), (gv_t hg).symm, S⟩
        · intro a u X hB hu hp hr hz hl S
          replace S : St w u ([] ++ X) := S
          have e36 : sl a 36 = .bool (p105 && p106) := hp 12 rfl
          have e38 : sl a 38 = gv (p105 && p106) (.slice A0 x0.length c0) := hp 14 rfl
          have e40 : sl a 40 = gv (p105 && p106) (.int .i64 x2) := hp 16 rfl
          rcases (Bool.eq_false_or_eq_true (p105 && p106)).symm with hg | hg
          · exact .inr (.inr (.inr ⟨gr_eg rfl (yt (gr_yield rfl rfl e36)) hg, (gv_f hg).symm, S⟩))
          · exact .inl ⟨gr_eg rfl (yt (gr_yield rfl rfl e36)) hg, .pointer (some ⟨adB A0, adO A0 + x2.toNat * 1, none⟩), u, (run_indexAddr (b := adB A0) (off := adO A0) rfl Try.underlying22 sz4 (((ev_sl e38).trans (gv_t hg)).trans (congrArg (fun A => Value.slice A x0.length c0) ((S.rc0 h0.rc).rd.ad (ix_pos (hk107 hg))))) ((ev_sl e40).trans (gv_t hg)) (hk107 hg).1 (hk107 hg).2 (k' := adO A0 + x2.toNat * 1) rfl), (gv_t hg).symm, S⟩
        · intro a u X hB hu hp hr hz hl S
          replace S : St w u ([] ++ X) := S
          have e36 : sl a 36 = .bool (p105 && p106) := hp 12 rfl
          have e41 : sl a 41 = gv (p105 && p106) (.pointer (some ⟨adB A0, adO A0 + x2.toNat * 1, none⟩)) := hp 17 rfl
          rcases (Bool.eq_false_or_eq_true (p105 && p106)).symm with hg | hg
          · exact .inr (.inr (.inr ⟨gr_eg rfl (yt (gr_yield rfl rfl e36)) hg, (gv_f hg).symm, S⟩))
          · exact .inl ⟨gr_eg rfl (yt (gr_yield rfl rfl e36)) hg, .bool (x0.getD x2.toNat false), u, (run_load1 rfl one4 ((ev_sl e41).trans (gv_t hg)) (rd_el0 (l := x0) (S.rc0 h0.rc).rd rfl eB_len false (ix_ltn (hk107 hg) rfl) rfl)), (gv_t hg).symm, S⟩
        · intro a u X hB hu hp hr hz hl S
          replace S : St w u ([] ++ X) := S
          have e36 : sl a 36 = .bool (p105 && p106) := hp 12 rfl
          rcases (Bool.eq_false_or_eq_true (p105 && p106)).symm with hg | hg
          · exact .inr (.inr (.inr ⟨gr_eg rfl (yt (gr_yield rfl rfl e36)) hg, (gv_f hg).symm, S⟩))
          · exact .inl ⟨gr_eg rfl (yt (gr_yield rfl rfl e36)) hg, .pointer (some ⟨g101, 3, none⟩), u, (run_fieldAddr rfl fl28_3 (hF.evB hB rfl rfl) rfl), (gv_t hg).symm, S⟩
        · intro a u X hB hu hp hr hz hl S
          replace S : St w u ([] ++ X) := S
          have e36 : sl a 36 = .bool (p105 && p106) := hp 12 rfl
          have e43 : sl a 43 = gv (p105 && p106) (.pointer (some ⟨g101, 3, none⟩)) := hp 19 rfl
          rcases (Bool.eq_false_or_eq_true (p105 && p106)).symm with hg | hg
          · exact .inr (.inr (.inr ⟨gr_eg rfl (yt (gr_yield rfl rfl e36)) hg, (gv_f hg).symm, S⟩))
          · exact .inl ⟨gr_eg rfl (yt (gr_yield rfl rfl e36)) hg, .bool x3, u, (run_load1 rfl one4 ((ev_sl e43).trans (gv_t hg)) ((gr_box S hl 0 rfl).cell rfl)), (gv_t hg).symm, S⟩
        · intro a u X hB hu hp hr hz hl S
          replace S : St w u ([] ++ X) := S
          have e36 : sl a 36 = .bool (p105 && p106) := hp 12 rfl
          have e42 : sl a 42 = gv (p105 && p106) (.bool (x0.getD x2.toNat false)) := hp 18 rfl
          have e44 : sl a 44 = gv (p105 && p106) (.bool x3) := hp 20 rfl
          rcases (Bool.eq_false_or_eq_true (p105 && p106)).symm with hg | hg
          · exact .inr (.inr (.inr ⟨gr_eg rfl (yt (gr_yield rfl rfl e36)) hg, (gv_f hg).symm, S⟩))
          · exact .inl ⟨gr_eg rfl (yt (gr_yield rfl rfl e36)) hg, .bool ((x0.getD x2.toNat false) != x3), u, (run_neqB ((ev_sl e42).trans (gv_t hg)) ((ev_sl e44).trans (gv_t hg)) Try.underlying4 rfl), (gv_t hg).symm, S⟩
        · intro a u X hB hu hp hr hz hl S
          replace S : St w u ([] ++ X) := S
          have e36 : sl a 36 = .bool (p105 && p106) := hp 12 rfl
          have e45 : sl a 45 = gv (p105 && p106) (.bool ((x0.getD x2.toNat false) != x3)) := hp 21 rfl
          exact .inl ⟨rfl, .bool ((p105 && p106) && ((x0.getD x2.toNat false) != x3)), u, (run_pick_and rfl (ev_sl e36) (fun hp => ((ev_sl e45).trans (gv_t hp))) (ev_const _ _)), rfl, S⟩
        · intro a u X hB hu hp hr hz hl S
          replace S : St w u ([] ++ X) := S
          have e46 : sl a 46 = .bool ((p105 && p106) && ((x0.getD x2.toNat false) != x3)) := hp 22 rfl
          exact .inl ⟨rfl, .bool ((p105 && p106) && ((x0.getD x2.toNat false) != x3)), u, (run_move rfl (ev_sl e46)), rfl, S⟩
        · intro a u X hB hu hp hr hz hl S
          replace S : St w u ([] ++ X) := S
          have e47 : sl a 47 = .bool ((p105 && p106) && ((x0.getD x2.toNat false) != x3)) := hp 23 rfl
          rcases (Bool.eq_false_or_eq_true ((p105 && p106) && ((x0.getD x2.toNat false) != x3))).symm with hg | hg
          · exact .inr (.inr (.inr ⟨gr_eg rfl (yt (gr_yield rfl rfl e47)) hg, (gv_f hg).symm, S⟩))
          · exact .inl ⟨gr_eg rfl (yt (gr_yield rfl rfl e47)) hg, .pointer (some ⟨g101, 4, none⟩), u, (run_fieldAddr rfl fl28_4 (hF.evB hB rfl rfl) rfl), (gv_t hg).symm, S⟩
        · intro a u X hB hu hp hr hz hl S
          replace S : St w u ([] ++ X) := S
          have e47 : sl a 47 = .bool ((p105 && p106) && ((x0.getD x2.toNat false) != x3)) := hp 23 rfl
          have e48 : sl a 48 = gv ((p105 && p106) && ((x0.getD x2.toNat false) != x3)) (.pointer (some ⟨g101, 4, none⟩)) := hp 24 rfl
          rcases (Bool.eq_false_or_eq_true ((p105 && p106) && ((x0.getD x2.toNat false) != x3))).symm with hg | hg
          · exact .inr (.inr (.inr ⟨gr_eg rfl (yt (gr_yield rfl rfl e47)) hg, (gv_f hg).symm, S⟩))
          · exact .inl ⟨gr_eg rfl (yt (gr_yield rfl rfl e47)) hg, .int .i64 x4, u, (run_load1 rfl one3 ((ev_sl e48).trans (gv_t hg)) ((gr_box S hl 0 rfl).cell rfl)), (gv_t hg).symm, S⟩
        · intro a u X hB hu hp hr hz hl S
          replace S : St w u ([] ++ X) := S
          have e47 : sl a 47 = .bool ((p105 && p106) && ((x0.getD x2.toNat false) != x3)) := hp 23 rfl
          have e49 : sl a 49 = gv ((p105 && p106) && ((x0.getD x2.toNat false) != x3)) (.int .i64 x4) := hp 25 rfl
          rcases (Bool.eq_false_or_eq_true ((p105 && p106) && ((x0.getD x2.toNat false) != x3))).symm with hg | hg
          · exact .inr (.inr (.inr ⟨gr_eg rfl (yt (gr_yield rfl rfl e47)) hg, (gv_f hg).symm, S⟩))
          · refine .inr (.inr (.inl ⟨gr_eg rfl (yt (gr_yield rfl rfl e47)) hg, _, _, (run_call (vs := [.int .i64 x4, .int .i64 1, .int .i64 3]) rfl rfl co31 ⟨((ev_sl e49).trans (gv_t hg)), (ev_const _ _), (ev_const _ _), trivial⟩), ?_⟩))
            refine Calls.mono (c_spec_l1In (x0 := x4) (x1 := 1) (x2 := 3)  (gb_t h108 hg)) ?_
            rintro e w1 ⟨rfl, T⟩
            exact ⟨_, rfl, (gv_t hg).symm, S.call0 T⟩
        · intro a u X hB hu hp hr hz hl S
          replace S : St w u ([] ++ X) := S
          have e47 : sl a 47 = .bool ((p105 && p106) && ((x0.getD x2.toNat false) != x3)) := hp 23 rfl
          have e50 : sl a 50 = gv ((p105 && p106) && ((x0.getD x2.toNat false) != x3)) (.bool p108) := hp 26 rfl
          exact .inl ⟨rfl, .bool (((p105 && p106) && ((x0.getD x2.toNat false) != x3)) && p108), u, (run_pick_and rfl (ev_sl e47) (fun hp => ((ev_sl e50).trans (gv_t hp))) (ev_const _ _)), rfl, S⟩
        · intro a u X hB hu hp hr hz hl S
          replace S : St w u ([] ++ X) := S
          have e51 : sl a 51 = .bool (((p105 && p106) && ((x0.getD x2.toNat false) != x3)) && p108) := hp 27 rfl
          exact .inl ⟨rfl, .bool (((p105 && p106) && ((x0.getD x2.toNat false) != x3)) && p108), u, (run_assign rfl (ev_sl e51)), rfl, S⟩
      · intro a u hB hp S
        obtain ⟨q0, q1, q2, q3, q4, q5, q6, q7, q8, q9, q10, q11, q12, q13, q14, q15, q16, q17, q18, q19, q20, q21, q22, q23, q24, q25, q26, q27, q28, _⟩ := hp
        have e24 : sl a 24 = .pointer (some ⟨g101, 1, none⟩) := q0
        have e25 : sl a 25 = .int .i64 x1 := q1
        have e26 : sl a 26 = .bool p105 := q2
        have e27 : sl a 27 = .bool p105 := q3
        have e28 : sl a 28 = gv p105 (.pointer (some ⟨g101, 2, none⟩)) := q4
        have e29 : sl a 29 = gv p105 (.int .i64 x2) := q5
        have e30 : sl a 30 = gv p105 (.pointer (some ⟨g101, 0, none⟩)) := q6
        have e31 : sl a 31 = gv p105 (.slice A0 x0.length c0) := q7
        have e32 : sl a 32 = gv p105 (.int .i64 (x0.length : Int)) := q8
        have e33 : sl a 33 = gv p105 (.int .i64 (w64 ((x0.length : Int) - 1))) := q9
        have e34 : sl a 34 = gv p105 (.bool p106) := q10
        have e35 : sl a 35 = .bool (p105 && p106) := q11
        have e36 : sl a 36 = .bool (p105 && p106) := q12
        have e37 : sl a 37 = gv (p105 && p106) (.pointer (some ⟨g101, 0, none⟩)) := q13
        have e38 : sl a 38 = gv (p105 && p106) (.slice A0 x0.length c0) := q14
        have e39 : sl a 39 = gv (p105 && p106) (.pointer (some ⟨g101, 2, none⟩)) := q15
        have e40 : sl a 40 = gv (p105 && p106) (.int .i64 x2) := q16
        have e41 : sl a 41 = gv (p105 && p106) (.pointer (some ⟨adB A0, adO A0 + x2.toNat * 1, none⟩)) := q17
        have e42 : sl a 42 = gv (p105 && p106) (.bool (x0.getD x2.toNat false)) := q18
        have e43 : sl a 43 = gv (p105 && p106) (.pointer (some ⟨g101, 3, none⟩)) := q19
        have e44 : sl a 44 = gv (p105 && p106) (.bool x3) := q20
        have e45 : sl a 45 = gv (p105 && p106) (.bool ((x0.getD x2.toNat false) != x3)) := q21
        have e46 : sl a 46 = .bool ((p105 && p106) && ((x0.getD x2.toNat false) != x3)) := q22
        have e47 : sl a 47 = .bool ((p105 && p106) && ((x0.getD x2.toNat false) != x3)) := q23
        have e48 : sl a 48 = gv ((p105 && p106) && ((x0.getD x2.toNat false) != x3)) (.pointer (some ⟨g101, 4, none⟩)) := q24
        have e49 : sl a 49 = gv ((p105 && p106) && ((x0.getD x2.toNat false) != x3)) (.int .i64 x4) := q25
        have e50 : sl a 50 = gv ((p105 && p106) && ((x0.getD x2.toNat false) != x3)) (.bool p108) := q26
        have e51 : sl a 51 = .bool (((p105 && p106) && ((x0.getD x2.toNat false) != x3)) && p108) := q27
        have e2 : sl a 2 = .bool (((p105 && p106) && ((x0.getD x2.toNat false) != x3)) && p108) := q28
        replace S : St w u [.box g101 28 #[.slice A0 x0.length c0, .int .i64 x1, .int .i64 x2, .bool x3, .int .i64 x4]] := S
        clear q0 q1 q2 q3 q4 q5 q6 q7 q8 q9 q10 q11 q12 q13 q14 q15 q16 q17 q18 q19 q20 q21 q22 q23 q24 q25 q26 q27 q28
        have hF := hF.region hB [(24, .pointer (some ⟨g101, 1, none⟩)), (25, .int .i64 x1), (26, .bool p105), (27, .bool p105), (28, gv p105 (.pointer (some ⟨g101, 2, none⟩))), (29, gv p105 (.int .i64 x2)), (30, gv p105 (.pointer (some ⟨g101, 0, none⟩))), (31, gv p105 (.slice A0 x0.length c0)), (32, gv p105 (.int .i64 (x0.length : Int))), (33, gv p105 (.int .i64 (w64 ((x0.length : Int) - 1)))), (34, gv p105 (.bool p106)), (35, .bool (p105 && p106)), (36, .bool (p105 && p106)), (37, gv (p105 && p106) (.pointer (some ⟨g101, 0, none⟩))), (38, gv (p105 && p106) (.slice A0 x0.length c0)), (39, gv (p105 && p106) (.pointer (some ⟨g101, 2, none⟩))), (40, gv (p105 && p106) (.int .i64 x2)), (41, gv (p105 && p106) (.pointer (some ⟨adB A0, adO A0 + x2.toNat * 1, none⟩))), (42, gv (p105 && p106) (.bool (x0.getD x2.toNat false))), (43, gv (p105 && p106) (.pointer (some ⟨g101, 3, none⟩))), (44, gv (p105 && p106) (.bool x3)), (45, gv (p105 && p106) (.bool ((x0.getD x2.toNat false) != x3))), (46, .bool ((p105 && p106) && ((x0.getD x2.toNat false) != x3))), (47, .bool ((p105 && p106) && ((x0.getD x2.toNat false) != x3))), (48, gv ((p105 && p106) && ((x0.getD x2.toNat false) != x3)) (.pointer (some ⟨g101, 4, none⟩))), (49, gv ((p105 && p106) && ((x0.getD x2.toNat false) != x3)) (.int .i64 x4)), (50, gv ((p105 && p106) && ((x0.getD x2.toNat false) != x3)) (.bool p108)), (51, .bool (((p105 && p106) && ((x0.getD x2.toNat false) != x3)) && p108)), (2, .bool (((p105 && p106) && ((x0.getD x2.toNat false) != x3)) && p108))] (allSl_mem ⟨e24, e25, e26, e27, e28, e29, e30, e31, e32, e33, e34, e35, e36, e37, e38, e39, e40, e41, e42, e43, e44, e45, e46, e47, e48, e49, e50, e51, e2, trivial⟩) rfl
        clear hB e24 e25 e26 e27 e28 e29 e30 e31 e32 e33 e34 e35 e36 e37 e38 e39 e40 e41 e42 e43 e44 e45 e46 e47 e48 e49 e50 e51 e2
        refine wp_ret ?_
        repeat with_reducible (first | refine then_ret ?_ | refine in_ret ?_ | refine in_nrm ?_)
        refine ret1_gw (.inl rfl) hF rfl (res_tmp (hF.ev rfl)) ?_
        obtain rfl := Option.some.inj hM
        exact ⟨rfl, S.sel [] rfl rfl⟩
    · replace hM := bif_t hc104 hM
      refine cond_t hF rfl hc104 ?_
      refine wp_seq ?_
      refine wp_region_lit ?_
      refine op_val (v := .pointer (some ⟨g101, 2, none⟩)) rfl rfl hF rfl (run_fieldAddr rfl fl28_2 (hF.ev rfl) rfl) ?_; clear hF; intro a hF
      refine op_val (v := .int .i64 x2) rfl rfl hF rfl (run_load1 rfl one3 (hF.ev rfl) ((S.free 0 rfl).cell rfl)) ?_; clear hF; intro a hF
      refine op_val (v := .bool (x2 == 0)) rfl rfl hF rfl (run_eql (hF.ev rfl) rfl rfl) ?_; clear hF; intro a hF
      refine op_val (v := .bool (x2 == 0)) rfl rfl hF rfl (run_move rfl (hF.ev rfl)) ?_; clear hF; intro a hF
      refine op_gv (v := .pointer (some ⟨g101, 3, none⟩)) rfl rfl hF rfl (yt (gw_yield hF rfl rfl rfl)) (fun hg => (run_fieldAddr rfl fl28_3 (hF.ev rfl) rfl)) ?_; clear hF; intro a hF
      refine op_gv (v := .bool x3) rfl rfl hF rfl (yt (gw_yield hF rfl rfl rfl)) (fun hg => (run_load1 rfl one4 ((hF.ev rfl).trans (gv_t hg)) ((S.free 0 rfl).cell rfl))) ?_; clear hF; intro a hF
      refine op_gv (v := .bool (!x3)) rfl rfl hF rfl (yt (gw_yield hF rfl rfl rfl)) (fun hg => (run_not rfl ((hF.ev rfl).trans (gv_t hg)))) ?_; clear hF; intro a hF
      refine op_val (v := .bool ((x2 == 0) && (!x3))) rfl rfl hF rfl (run_pick_and rfl (hF.ev rfl) (fun hp => ((hF.ev rfl).trans (gv_t hp))) rfl) ?_; clear hF; intro a hF
      refine op_val (v := .bool ((x2 == 0) && (!x3))) rfl rfl hF rfl (run_move rfl (hF.ev rfl)) ?_; clear hF; intro a hF
      refine op_gv (v := .pointer (some ⟨g101, 4, none⟩)) rfl rfl hF rfl (yt (gw_yield hF rfl rfl rfl)) (fun hg => (run_fieldAddr rfl fl28_4 (hF.ev rfl) rfl)) ?_; clear hF; intro a hF
      refine op_gv (v := .int .i64 x4) rfl rfl hF rfl (yt (gw_yield hF rfl rfl rfl)) (fun hg => (run_load1 rfl one3 ((hF.ev rfl).trans (gv_t hg)) ((S.free 0 rfl).cell rfl))) ?_; clear hF; intro a hF
      refine op_gv (v := .bool (x4 == 0)) rfl rfl hF rfl (yt (gw_yield hF rfl rfl rfl)) (fun hg => (run_eql ((hF.ev rfl).trans (gv_t hg)) rfl rfl)) ?_; clear hF; intro a hF
      refine op_val (v := .bool (((x2 == 0) && (!x3)) && (x4 == 0))) rfl rfl hF rfl (run_pick_and rfl (hF.ev rfl) (fun hp => ((hF.ev rfl).trans (gv_t hp))) rfl) ?_; clear hF; intro a hF
      refine op_val (v := .bool (((x2 == 0) && (!x3)) && (x4 == 0))) rfl rfl hF rfl (run_assign rfl (hF.ev rfl)) ?_; clear hF; intro a hF
      refine wpList_nil ?_
      refine wp_ret ?_
      repeat with_reducible (first | refine then_ret ?_ | refine in_ret ?_ | refine in_nrm ?_)
      refine ret1_gw (.inl rfl) hF rfl (res_tmp (hF.ev rfl)) ?_
      obtain rfl := Option.some.inj hM
      exact ⟨rfl, S.sel [] rfl rfl⟩

set_option maxHeartbeats 4000000 in
theorem c_spec_l2Copy {x0 : List Bool} {A0 : Option Addr} {n0 c0 : Nat} {w : World} {r : List Bool} (h0 : Rt w 1 eB A0 n0 c0 x0) (hM : m_spec_l2Copy x0 = some r) :
    Calls Try.prog 39 #[.slice A0 n0 c0] w (fun e w' => ∃ (B0 : Option Addr) (N0 D0 : Nat), e = .returned (.slice B0 N0 D0) ∧ N0 = r.length ∧ St w w' [.row 4 1 (.slice B0 N0 D0) N0 (r.flatMap eB)]) := by
  obtain rfl := h0.len
  unfold m_spec_l2Copy at hM
  refine calls_gw Try.func39 Try.ntmps39 rfl [(0, .slice A0 x0.length c0)] ⟨rfl, trivial⟩ rfl ?_
  intro a hF
  have S := St.nil w
  refine wp_seq ?_
  refine wp_region_lit ?_
  refine op_val (v := .slice none 0 0) rfl rfl hF rfl (run_assign rfl rfl) ?_; clear hF; intro a hF
  refine wpList_nil ?_
  refine wp_seq ?_
  refine wp_region_lit ?_
  refine op_newrow (cs := #[]) (size := 1) rfl rfl hF rfl S (run_buildSlice0 rfl Try.underlying22 rfl) rfl (Nat.zero_le _) ?_; clear hF S; intro a g101 u hF S
  refine op_val (v := .slice A0 x0.length c0) rfl rfl hF rfl (run_move rfl (hF.ev rfl)) ?_; clear hF; intro a hF
  obtain ⟨hk104, hM⟩ := chk_ex hM
  replace hk104 := apB_t hk104
  refine op_appendL (lx := []) (ly := x0) rfl rfl hF rfl S rfl (hF.ev rfl) (hF.ev rfl) (i := 0) rfl rfl Try.underlying22 inf4 rfl (by decide) (S.rc0 h0.rc).rd rfl eB_one hk104 (by decide) ?_; clear hF S; intro a B102 d103 u hF S
  refine op_val (v := .slice B102 (([] ++ x0).length) d103) rfl rfl hF rfl (run_assign rfl (hF.ev rfl)) ?_; clear hF; intro a hF
  refine wpList_nil ?_
  refine wp_ret ?_
  repeat with_reducible (first | refine then_ret ?_ | refine in_ret ?_ | refine in_nrm ?_)
  refine ret1_gw (.inl rfl) hF rfl (res_tmp (hF.ev rfl)) ?_
  obtain rfl := Option.some.inj hM
  exact ⟨B102, (([] ++ x0).length), d103, rfl, rfl, S.sel [0] rfl rfl⟩

set_option maxHeartbeats 4000000 in
theorem c_spec_l29Copy {x0 : List Bool} {x1 : Int} {x2 : Int} {x3 : Bool} {x4 : Int} {A0 : Option Addr} {n0 c0 : Nat} {w : World} {r : List Bool × Int × Int × Bool × Int} (h0 : Rt w 1 eB A0 n0 c0 x0) (hM : m_spec_l29Copy x0 x1 x2 x3 x4 = some r) :
    Calls Try.prog 30 #[.agg #[.slice A0 n0 c0, .int .i64 x1, .int .i64 x2, .bool x3, .int .i64 x4]] w (fun e w' => ∃ (B0 : Option Addr) (N0 D0 : Nat), e = .returned (.agg #[.slice B0 N0 D0, .int .i64 r.2.1, .int .i64 r.2.2.1, .bool r.2.2.2.1, .int .i64 r.2.2.2.2]) ∧ N0 = r.1.length ∧ St w w' [.row 4 1 (.slice B0 N0 D0) N0 (r.1.flatMap eB)]) := by
  obtain rfl := h0.len
  unfold m_spec_l29Copy at hM
  refine calls_gw Try.func30 Try.ntmps30 rfl [(0, .agg #[.slice A0 x0.length c0, .int .i64 x1, .int .i64 x2, .bool x3, .int .i64 x4])] ⟨rfl, trivial⟩ rfl ?_
  intro a hF
  have S := St.nil w
  refine wp_seq ?_
  refine wp_region_lit ?_
  refine op_new (cs := #[.slice A0 x0.length c0, .int .i64 x1, .int .i64 x2, .bool x3, .int .i64 x4]) rfl rfl hF rfl S (run_box rfl (hF.ev rfl) rfl) ?_; clear hF S; intro a g101 u hF S
  refine op_new (cs := #[.slice none 0 0, .int .i64 0, .int .i64 0, .bool false, .int .i64 0]) rfl rfl hF rfl S (run_allocZ rfl zr28) ?_; clear hF S; intro a g102 u hF S
  refine wpList_nil ?_
  refine wp_seq ?_
  refine wp_region_lit ?_
  refine op_val (v := .agg #[.slice A0 x0.length c0, .int .i64 x1, .int .i64 x2, .bool x3, .int .i64 x4]) rfl rfl hF rfl (run_loadN rfl ag28 (hF.ev rfl) rfl ((S.free 1 rfl).cells 0 #[.slice A0 x0.length c0, .int .i64 x1, .int .i64 x2, .bool x3, .int .i64 x4] rfl)) ?_; clear hF; intro a hF
  refine op_new (cs := #[.slice none 0 0, .int .i64 0, .int .i64 0, .bool false, .int .i64 0]) rfl rfl hF rfl S (run_allocZ rfl zr28) ?_; clear hF S; intro a g103 u hF S
  refine op_do rfl rfl (run_store (cs' := #[.slice A0 x0.length c0, .int .i64 x1, .int .i64 x2, .bool x3, .int .i64 x4]) rfl sz28 (hF.ev rfl) (hF.ev rfl) rfl rfl rfl (S.free 0 rfl) rfl rfl) ?_; replace S := S.put 0 rfl (#[.slice A0 x0.length c0, .int .i64 x1, .int .i64 x2, .bool x3, .int .i64 x4])
  generalize World.setRow _ _ _ = u at S ⊢
  refine wpList_nil ?_
  refine wp_seq ?_
  refine wp_region_lit ?_
  refine op_val (v := .pointer (some ⟨g101, 0, none⟩)) rfl rfl hF rfl (run_fieldAddr rfl fl28_0 (hF.ev rfl) rfl) ?_; clear hF; intro a hF
  refine op_val (v := .slice A0 x0.length c0) rfl rfl hF rfl (run_load1 rfl one22 (hF.ev rfl) ((S.free 2 rfl).cell rfl)) ?_; clear hF; intro a hF
  obtain ⟨p104, h104, hM⟩ := bind_ex hM
  refine op_call rfl rfl hF rfl (run_call (vs := [.slice A0 x0.length c0]) rfl rfl co39 ⟨(hF.ev rfl), trivial⟩) (c_spec_l2Copy (x0 := x0) ⟨(S.rc0 h0.rc), rfl⟩ h104) ?_
  rintro e u ⟨B105, n106, d107, rfl, rfl, T⟩
  refine ⟨_, rfl, ?_⟩
  clear hF; intro a hF
  replace S := S.call1 T; clear T
  refine op_val (v := .pointer (some ⟨g103, 0, none⟩)) rfl rfl hF rfl (run_fieldAddr rfl fl28_0 (hF.ev rfl) rfl) ?_; clear hF; intro a hF
  refine op_do rfl rfl (run_store (cs' := #[.slice B105 p104.length d107, .int .i64 x1, .int .i64 x2, .bool x3, .int .i64 x4]) rfl sz22 (hF.ev rfl) (hF.ev rfl) rfl rfl rfl (S.free 1 rfl) rfl rfl) ?_; replace S := S.put 1 rfl (#[.slice B105 p104.length d107, .int .i64 x1, .int .i64 x2, .bool x3, .int .i64 x4])
  generalize World.setRow _ _ _ = u at S ⊢
  refine wpList_nil ?_
  refine wp_seq ?_
  refine wp_region_lit ?_
  refine op_val (v := .agg #[.slice B105 p104.length d107, .int .i64 x1, .int .i64 x2, .bool x3, .int .i64 x4]) rfl rfl hF rfl (run_loadN rfl ag28 (hF.ev rfl) rfl ((S.free 1 rfl).cells 0 #[.slice B105 p104.length d107, .int .i64 x1, .int .i64 x2, .bool x3, .int .i64 x4] rfl)) ?_; clear hF; intro a hF
  refine op_do rfl rfl (run_store (cs' := #[.slice B105 p104.length d107, .int .i64 x1, .int .i64 x2, .bool x3, .int .i64 x4]) rfl sz28 (hF.ev rfl) (hF.ev rfl) rfl rfl rfl (S.free 2 rfl) rfl rfl) ?_; replace S := S.put 2 rfl (#[.slice B105 p104.length d107, .int .i64 x1, .int .i64 x2, .bool x3, .int .i64 x4])
  generalize World.setRow _ _ _ = u at S ⊢
  refine wpList_nil ?_
  refine wp_ret ?_
  repeat with_reducible (first | refine then_ret ?_ | refine in_ret ?_ | refine in_nrm ?_)
  refine ret1_gw (.inl rfl) hF rfl (res_cell (hF.ev rfl) (res_loadN ag28 rfl (S.cells 2 rfl 0 #[.slice B105 p104.length d107, .int .i64 x1, .int .i64 x2, .bool x3, .int .i64 x4] rfl))) ?_
  obtain rfl := Option.some.inj hM
  exact ⟨B105, p104.length, d107, rfl, rfl, S.sel [0] rfl rfl⟩

set_option maxHeartbeats 4000000 in
theorem c_spec_l29Clear {x0 : List Bool} {x1 : Int} {x2 : Int} {x3 : Bool} {x4 : Int} {A0 : Option Addr} {n0 c0 : Nat} {w : World} {r : List Bool × Int × Int × Bool × Int} (h0 : Rt w 1 eB A0 n0 c0 x0) (hM : m_spec_l29Clear x0 x1 x2 x3 x4 = some r) :
    Calls Try.prog 32 #[.agg #[.slice A0 n0 c0, .int .i64 x1, .int .i64 x2, .bool x3, .int .i64 x4]] w (fun e w' => ∃ (B0 : Option Addr) (N0 D0 : Nat), e = .returned (.agg #[.slice B0 N0 D0, .int .i64 r.2.1, .int .i64 r.2.2.1, .bool r.2.2.2.1, .int .i64 r.2.2.2.2]) ∧ N0 = r.1.length ∧ St w w' [.row 4 1 (.slice B0 N0 D0) N0 (r.1.flatMap eB)]) := by
  obtain rfl := h0.len
  unfold m_spec_l29Clear at hM
  refine calls_gw Try.func32 Try.ntmps32 rfl [(0, .agg #[.slice A0 x0.length c0, .int .i64 x1, .int .i64 x2, .bool x3, .int .i64 x4])] ⟨rfl, trivial⟩ rfl ?_
  intro a hF
  have S := St.nil w
  refine wp_seq ?_
  refine wp_region_lit ?_
  refine op_new (cs := #[.slice A0 x0.length c0, .int .i64 x1, .int .i64 x2, .bool x3, .int .i64 x4]) rfl rfl hF rfl S (run_box rfl (hF.ev rfl) rfl) ?_; clear hF S; intro a g101 u hF S
  refine op_new (cs := #[.slice none 0 0, .int .i64 0, .int .i64 0, .bool false, .int .i64 0]) rfl rfl hF rfl S (run_allocZ rfl zr28) ?_; clear hF S; intro a g102 u hF S
  refine wpList_nil ?_
  refine wp_seq ?_
  refine wp_region_lit ?_
  refine op_val (v := .pointer (some ⟨g101, 0, none⟩)) rfl rfl hF rfl (run_fieldAddr rfl fl28_0 (hF.ev rfl) rfl) ?_; clear hF; intro a hF
  refine op_val (v := .slice A0 x0.length c0) rfl rfl hF rfl (run_load1 rfl one22 (hF.ev rfl) ((S.free 1 rfl).cell rfl)) ?_; clear hF; intro a hF
  obtain ⟨p103, h103, hM⟩ := bind_ex hM
  refine op_call rfl rfl hF rfl (run_call (vs := [.slice A0 x0.length c0]) rfl rfl co39 ⟨(hF.ev rfl), trivial⟩) (c_spec_l2Copy (x0 := x0) ⟨(S.rc0 h0.rc), rfl⟩ h103) ?_
  rintro e u ⟨B104, n105, d106, rfl, rfl, T⟩
  refine ⟨_, rfl, ?_⟩
  clear hF; intro a hF
  replace S := S.call1 T; clear T
  refine op_val (v := .agg #[.slice B104 p103.length d106, .int .i64 (-1), .int .i64 0, .bool false, .int .i64 0]) rfl rfl hF rfl (run_build (vs := [(0, .slice B104 p103.length d106), (1, .int .i64 (-1))]) rfl ⟨⟨rfl, (hF.ev rfl)⟩, ⟨rfl, rfl⟩, trivial⟩ (bd28_0_1 rfl rfl)) ?_; clear hF; intro a hF
  refine op_do rfl rfl (run_store (cs' := #[.slice B104 p103.length d106, .int .i64 (-1), .int .i64 0, .bool false, .int .i64 0]) rfl sz28 (hF.ev rfl) (hF.ev rfl) rfl rfl rfl (S.free 1 rfl) rfl rfl) ?_; replace S := S.put 1 rfl (#[.slice B104 p103.length d106, .int .i64 (-1), .int .i64 0, .bool false, .int .i64 0])
  generalize World.setRow _ _ _ = u at S ⊢
  refine wpList_nil ?_
  refine wp_ret ?_
  repeat with_reducible (first | refine then_ret ?_ | refine in_ret ?_ | refine in_nrm ?_)
  refine ret1_gw (.inl rfl) hF rfl (res_cell (hF.ev rfl) (res_loadN ag28 rfl (S.cells 1 rfl 0 #[.slice B104 p103.length d106, .int .i64 (-1), .int .i64 0, .bool false, .int .i64 0] rfl))) ?_
  obtain rfl := Option.some.inj hM
  exact ⟨B104, p103.length, d106, rfl, rfl, S.sel [0] rfl rfl⟩

set_option maxHeartbeats 4000000 in
theorem c_spec_PanelDo {x0 : List Bool} {x1 : Int} {x2 : Int} {x3 : Bool} {x4 : Int} {x5 : Int} {x6 : Int} {x7 : Int} {x8 : Bool} {A0 : Option Addr} {n0 c0 : Nat} {w : World} {r : List Bool × Int × Int × Bool × Int × Bool} (h0 : Rt w 1 eB A0 n0 c0 x0) (hM : m_spec_PanelDo x0 x1 x2 x3 x4 x5 x6 x7 x8 = some r) :
    Calls Try.prog 7 #[.agg #[.slice A0 n0 c0, .int .i64 x1, .int .i64 x2, .bool x3, .int .i64 x4], .agg #[.int .i64 x5, .int .i64 x6, .int .i64 x7, .bool x8]] w (fun e w' => ∃ (B0 : Option Addr) (N0 D0 : Nat), e = .returned (.tuple #[.agg #[.slice B0 N0 D0, .int .i64 r.2.1, .int .i64 r.2.2.1, .bool r.2.2.2.1, .int .i64 r.2.2.2.2.1], .bool r.2.2.2.2.2]) ∧ N0 = r.1.length ∧ St w w' [.row 4 1 (.slice B0 N0 D0) N0 (r.1.flatMap eB)]) := by
  obtain rfl := h0.len
  unfold m_spec_PanelDo at hM
  refine calls_gw Try.func7 Try.ntmps7 rfl [(0, .agg #[.slice A0 x0.length c0, .int .i64 x1, .int .i64 x2, .bool x3, .int .i64 x4]), (1, .agg #[.int .i64 x5, .int .i64 x6, .int .i64 x7, .bool x8])] ⟨rfl, rfl, trivial⟩ rfl ?_
  intro a hF
  have S := St.nil w
  refine wp_seq ?_
  refine wp_region_lit ?_
  refine op_new (cs := #[.slice A0 x0.length c0, .int .i64 x1, .int .i64 x2, .bool x3, .int .i64 x4]) rfl rfl hF rfl S (run_box rfl (hF.ev rfl) rfl) ?_; clear hF S; intro a g101 u hF S
  refine op_new (cs := #[.int .i64 x5, .int .i64 x6, .int .i64 x7, .bool x8]) rfl rfl hF rfl S (run_box rfl (hF.ev rfl) rfl) ?_; clear hF S; intro a g102 u hF S
  refine op_new (cs := #[.slice none 0 0, .int .i64 0, .int .i64 0, .bool false, .int .i64 0]) rfl rfl hF rfl S (run_allocZ rfl zr28) ?_; clear hF S; intro a g103 u hF S
  refine op_val (v := .bool false) rfl rfl hF rfl (run_assign rfl rfl) ?_; clear hF; intro a hF
  refine wpList_nil ?_
  refine wp_seq ?_
  refine wp_seq ?_
  refine wp_region_lit ?_
  refine op_val (v := .agg #[.slice A0 x0.length c0, .int .i64 x1, .int .i64 x2, .bool x3, .int .i64 x4]) rfl rfl hF rfl (run_loadN rfl ag28 (hF.ev rfl) rfl ((S.free 2 rfl).cells 0 #[.slice A0 x0.length c0, .int .i64 x1, .int .i64 x2, .bool x3, .int .i64 x4] rfl)) ?_; clear hF; intro a hF
  obtain ⟨p104, h104, hM⟩ := bind_ex hM
  refine op_call rfl rfl hF rfl (run_call (vs := [.agg #[.slice A0 x0.length c0, .int .i64 x1, .int .i64 x2, .bool x3, .int .i64 x4]]) rfl rfl co29 ⟨(hF.ev rfl), trivial⟩) (c_spec_PanelValid (x0 := x0) (x1 := x1) (x2 := x2) (x3 := x3) (x4 := x4) ⟨(S.rc0 h0.rc), rfl⟩ h104) ?_
  rintro e u ⟨rfl, T⟩
  refine ⟨_, rfl, ?_⟩
  clear hF; intro a hF
  replace S := S.call0 T; clear T
  refine op_val (v := .bool (!p104)) rfl rfl hF rfl (run_not rfl (hF.ev rfl)) ?_; clear hF; intro a hF
  refine wpList_nil ?_
  cases hc105 : (p104)
  · replace hM := bif_f hc105 hM
    refine cond_t hF rfl (not_t hc105) ?_
    refine wp_seq ?_
    refine wp_region_lit ?_
    refine op_val (v := .agg #[.slice none 0 0, .int .i64 0, .int .i64 0, .bool false, .int .i64 0]) rfl rfl hF rfl (run_build (vs := []) rfl trivial (bd28 )) ?_; clear hF; intro a hF
    refine op_do rfl rfl (run_store (cs' := #[.slice none 0 0, .int .i64 0, .int .i64 0, .bool false, .int .i64 0]) rfl sz28 (hF.ev rfl) (hF.ev rfl) rfl rfl rfl (S.free 0 rfl) rfl rfl) ?_; replace S := S.put 0 rfl (#[.slice none 0 0, .int .i64 0, .int .i64 0, .bool false, .int .i64 0])
    generalize World.setRow _ _ _ = u at S ⊢
    refine op_val (v := .bool false) rfl rfl hF rfl (run_assign rfl rfl) ?_; clear hF; intro a hF
    refine wpList_nil ?_
    refine wp_ret ?_
    repeat with_reducible (first | refine then_ret ?_ | refine in_ret ?_ | refine in_nrm ?_)
    refine ret2_gw (.inl rfl) hF rfl (res_cell (hF.ev rfl) (res_loadN ag28 rfl (S.cells 0 rfl 0 #[.slice none 0 0, .int .i64 0, .int .i64 0, .bool false, .int .i64 0] rfl))) (res_tmp (hF.ev rfl)) ?_
    obtain rfl := Option.some.inj hM
    replace S := S.nilrow 4 1
    exact ⟨none, 0, 0, rfl, rfl, S.sel [0] rfl rfl⟩
  · replace hM := bif_t hc105 hM
    refine cond_f hF rfl (not_f hc105) ?_
    refine wp_skip ?_
    refine wp_seq ?_
    refine wp_region_lit ?_
    refine op_val (v := .agg #[.slice A0 x0.length c0, .int .i64 x1, .int .i64 x2, .bool x3, .int .i64 x4]) rfl rfl hF rfl (run_loadN rfl ag28 (hF.ev rfl) rfl ((S.free 2 rfl).cells 0 #[.slice A0 x0.length c0, .int .i64 x1, .int .i64 x2, .bool x3, .int .i64 x4] rfl)) ?_; clear hF; intro a hF
    obtain ⟨p106, h106, hM⟩ := bind_ex hM
    refine op_call rfl rfl hF rfl (run_call (vs := [.agg #[.slice A0 x0.length c0, .int .i64 x1, .int .i64 x2, .bool x3, .int .i64 x4]]) rfl rfl co30 ⟨(hF.ev rfl), trivial⟩) (c_spec_l29Copy (x0 := x0) (x1 := x1) (x2 := x2) (x3 := x3) (x4 := x4) ⟨(S.rc0 h0.rc), rfl⟩ h106) ?_
    rintro e u ⟨B107, n108, d109, rfl, rfl, T⟩
    refine ⟨_, rfl, ?_⟩
    clear hF; intro a hF
    replace S := S.call1 T; clear T
    refine op_new (cs := #[.slice none 0 0, .int .i64 0, .int .i64 0, .bool false, .int .i64 0]) rfl rfl hF rfl S (run_allocZ rfl zr28) ?_; clear hF S; intro a g110 u hF S
    refine op_do rfl rfl (run_store (cs' := #[.slice B107 p106.1.length d109, .int .i64 p106.2.1, .int .i64 p106.2.2.1, .bool p106.2.2.2.1, .int .i64 p106.2.2.2.2]) rfl sz28 (hF.ev rfl) (hF.ev rfl) rfl rfl rfl (S.free 0 rfl) rfl rfl) ?_; replace S := S.put 0 rfl (#[.slice B107 p106.1.length d109, .int .i64 p106.2.1, .int .i64 p106.2.2.1, .bool p106.2.2.2.1, .int .i64 p106.2.2.2.2])
    generalize World.setRow _ _ _ = u at S ⊢
    refine wpList_nil ?_
    refine wp_seq ?_
    refine wp_block ?_
    refine wp_seq ?_
    obtain ⟨p111, h111, hM⟩ := bind_ex hM
    obtain ⟨p112, h112, hM⟩ := bind_ex hM
    obtain ⟨hk113, hM⟩ := chk_ex hM
    replace hk113 := fun hg => ixB_t (imp_t hk113 hg)
    refine region_gw (D := [15, 16, 17, 18, 19, 20, 21, 22, 23, 24, 25, 26, 27, 28, 29, 30, 31, 32, 33, 34, 35, 36, 37, 38, 39, 40, 41, 42, 43, 44, 45, 46, 47, 14]) (Lr := [.box g110 28 #[.slice B107 p106.1.length d109, .int .i64 p106.2.1, .int .i64 p106.2.2.1, .bool p106.2.2.2.1, .int .i64 p106.2.2.2.2], .row 4 1 (.slice B107 p106.1.length d109) p106.1.length (p106.1.flatMap eB), .box g103 28 #[.slice none 0 0, .int .i64 0, .int .i64 0, .bool false, .int .i64 0], .box g102 32 #[.int .i64 x5, .int .i64 x6, .int .i64 x7, .bool x8], .box g101 28 #[.slice A0 x0.length c0, .int .i64 x1, .int .i64 x2, .bool x3, .int .i64 x4]]) (deps := (fun | 0 => [15] | 1 => [16] | 2 => [17] | 3 => [18] | 4 => [19] | 5 => [20] | 6 => [21] | 7 => [22] | 8 => [23] | 9 => [24] | 10 => [25] | 11 => [26] | 12 => [27] | 13 => [28] | 14 => [29] | 15 => [30] | 16 => [31] | 17 => [32] | 18 => [33] | 19 => [34] | 20 => [35] | 21 => [36] | 22 => [37] | 23 => [38] | 24 => [39] | 25 => [40] | 26 => [41] | 27 => [42] | 28 => [43] | 29 => [44] | 30 => [45] | 31 => [46] | 32 => [47] | 33 => [14] | _ => [])) (rd := (fun _ => [])) (zr := (fun _ => []))
      (φ := fun i vs => match i, vs with | 0, [v15] => v15 = .pointer (some ⟨g102, 0, none⟩) | 1, [v16] => v16 = .int .i64 x5 | 2, [v17] => v17 = .bool (x5 == 0) | 3, [v18] => v18 = .bool (x5 == 0) | 4, [v19] => v19 = gv (x5 == 0) (.pointer (some ⟨g101, 1, none⟩)) | 5, [v20] => v20 = gv (x5 == 0) (.int .i64 x1) | 6, [v21] => v21 = gv (x5 == 0) (.bool (x1 == (-1))) | 7, [v22] => v22 = .bool ((x5 == 0) && (x1 == (-1))) | 8, [v23] => v23 = .bool ((x5 == 0) && (x1 == (-1))) | 9, [v24] => v24 = gv ((x5 == 0) && (x1 == (-1))) (.pointer (some ⟨g102, 1, none⟩)) | 10, [v25] => v25 = gv ((x5 == 0) && (x1 == (-1))) (.int .i64 x6) | 11, [v26] => v26 = gv ((x5 == 0) && (x1 == (-1))) (.bool p111) | 12, [v27] => v27 = .bool (((x5 == 0) && (x1 == (-1))) && p111) | 13, [v28] => v28 = .bool (((x5 == 0) && (x1 == (-1))) && p111) | 14, [v29] => v29 = gv (((x5 == 0) && (x1 == (-1))) && p111) (.pointer (some ⟨g102, 2, none⟩)) | 15, [v30] => v30 = gv (((x5 == 0) && (x1 == (-1))) && p111) (.int .i64 x7) | 16, [v31] => v31 = gv (((x5 == 0) && (x1 == (-1))) && p111) (.pointer (some ⟨g101, 0, none⟩)) | 17, [v32] => v32 = gv (((x5 == 0) && (x1 == (-1))) && p111) (.slice A0 x0.length c0) | 18, [v33] => v33 = gv (((x5 == 0) && (x1 == (-1))) && p111) (.int .i64 (x0.length : Int)) | 19, [v34] => v34 = gv (((x5 == 0) && (x1 == (-1))) && p111) (.int .i64 (w64 ((x0.length : Int) - 1))) | 20, [v35] => v35 = gv (((x5 == 0) && (x1 == (-1))) && p111) (.bool p112) | 21, [v36] => v36 = .bool ((((x5 == 0) && (x1 == (-1))) && p111) && p112) | 22, [v37] => v37 = .bool ((((x5 == 0) && (x1 == (-1))) && p111) && p112) | 23, [v38] => v38 = gv ((((x5 == 0) && (x1 == (-1))) && p111) && p112) (.pointer (some ⟨g101, 0, none⟩)) | 24, [v39] => v39 = gv ((((x5 == 0) && (x1 == (-1))) && p111) && p112) (.slice A0 x0.length c0) | 25, [v40] => v40 = gv ((((x5 == 0) && (x1 == (-1))) && p111) && p112) (.pointer (some ⟨g102, 2, none⟩)) | 26, [v41] => v41 = gv ((((x5 == 0) && (x1 == (-1))) && p111) && p112) (.int .i64 x7) | 27, [v42] => v42 = gv ((((x5 == 0) && (x1 == (-1))) && p111) && p112) (.pointer (some ⟨adB A0, adO A0 + x7.toNat * 1, none⟩)) | 28, [v43] => v43 = gv ((((x5 == 0) && (x1 == (-1))) && p111) && p112) (.bool (x0.getD x7.toNat false)) | 29, [v44] => v44 = gv ((((x5 == 0) && (x1 == (-1))) && p111) && p112) (.pointer (some ⟨g102, 3, none⟩)) | 30, [v45] => v45 = gv ((((x5 == 0) && (x1 == (-1))) && p111) && p112) (.bool x8) | 31, [v46] => v46 = gv ((((x5 == 0) && (x1 == (-1))) && p111) && p112) (.bool ((x0.getD x7.toNat false) != x8)) | 32, [v47] => v47 = .bool (((((x5 == 0) && (x1 == (-1))) && p111) && p112) && ((x0.getD x7.toNat false) != x8)) | 33, [v14] => v14 = .bool (((((x5 == 0) && (x1 == (-1))) && p111) && p112) && ((x0.getD x7.toNat false) != x8)) | _, _ => True)
      (C := fun _ _ => [])
      (κ := (fun _ => none)) (Z := (fun _ => [])) mixed hF (by kernel_rfl) S ?_ ?_
    · refine ⟨?_, ?_, ?_, ?_, ?_, ?_, ?_, ?_, ?_, ?_, ?_, ?_, ?_, ?_, ?_, ?_, ?_, ?_, ?_, ?_, ?_, ?_, ?_, ?_, ?_, ?_, ?_, ?_, ?_, ?_, ?_, ?_, ?_, ?_, trivial⟩
      · intro a u X hB hu hp hr hz hl S
        replace S : St w u ([] ++ X) := S
        exact .inl ⟨rfl, .pointer (some ⟨g102, 0, none⟩), u, (run_fieldAddr rfl fl32_0 (hF.evB hB rfl rfl) rfl), rfl, S⟩
      · intro a u X hB hu hp hr hz hl S
        replace S : St w u ([] ++ X) := S
        have e15 : sl a 15 = .pointer (some ⟨g102, 0, none⟩) := hp 0 rfl
        exact .inl ⟨rfl, .int .i64 x5, u, (run_load1 rfl one3 (ev_sl e15) ((gr_box S hl 3 rfl).cell rfl)), rfl, S⟩
      · intro a u X hB hu hp hr hz hl S
        replace S : St w u ([] ++ X) := S
        have e16 : sl a 16 = .int .i64 x5 := hp 1 rfl
        exact .inl ⟨rfl, .bool (x5 == 0), u, (run_eql (ev_sl e16) (ev_const _ _) rfl), rfl, S⟩
      · intro a u X hB hu hp hr hz hl S
        replace S : St w u ([] ++ X) := S
        have e17 : sl a 17 = .bool (x5 == 0) := hp 2 rfl
        exact .inl ⟨rfl, .bool (x5 == 0), u, (run_move rfl (ev_sl e17)), rfl, S⟩
      · intro a u X hB hu hp hr hz hl S
        replace S : St w u ([] ++ X) := S
        have e18 : sl a 18 = .bool (x5 == 0) := hp 3 rfl
        rcases (Bool.eq_false_or_eq_true (x5 == 0)).symm with hg | hg
        · exact .inr (.inr (.inr ⟨gr_eg rfl (yt (gr_yield rfl rfl e18)) hg, (gv_f hg).symm, S⟩))
        · exact .inl ⟨gr_eg rfl (yt (gr_yield rfl rfl e18)) hg, .pointer (some ⟨g101, 1, none⟩), u, (run_fieldAddr rfl fl28_1 (hF.evB hB rfl rfl) rfl), (gv_t hg).symm, S⟩
      · intro a u X hB hu hp hr hz hl S
        replace S : St w u ([] ++ X) := S
        have e18 : sl a 18 = .bool (x5 == 0) := hp 3 rfl
        have e19 : sl a 19 = gv (x5 == 0) (.pointer (some ⟨g101, 1, none⟩)) := hp 4 rfl
        rcases (Bool.eq_false_or_eq_true (x5 == 0)).symm with hg | hg
        · exact .inr (.inr (.inr ⟨gr_eg rfl (yt (gr_yield rfl rfl e18)) hg, (gv_f hg).symm, S⟩))
        · exact .inl ⟨gr_eg rfl (yt (gr_yield rfl rfl e18)) hg, .int .i64 x1, u, (run_load1 rfl one3 ((ev_sl e19).trans (gv_t hg)) ((gr_box S hl 4 rfl).cell rfl)), (gv_t hg).symm, S⟩
      · intro a u X hB hu hp hr hz hl S
        replace S : St w u ([] ++ X) := S
        have e18 : sl a 18 = .bool (x5 == 0) := hp 3 rfl
        have e20 : sl a 20 = gv (x5 == 0) (.int .i64 x1) := hp 5 rfl
        rcases (Bool.eq_false_or_eq_true (x5 == 0)).symm with hg | hg
        · exact .inr (.inr (.inr ⟨gr_eg rfl (yt (gr_yield rfl rfl e18)) hg, (gv_f hg).symm, S⟩))
        · exact .inl ⟨gr_eg rfl (yt (gr_yield rfl rfl e18)) hg, .bool (x1 == (-1)), u, (run_eql ((ev_sl e20).trans (gv_t hg)) (ev_const _ _) rfl), (gv_t hg).symm, S⟩
      · intro a u X hB hu hp hr hz hl S
        replace S : St w u ([] ++ X) := S
        have e18 : sl a 18 = .bool (x5 == 0) := hp 3 rfl
        have e21 : sl a 21 = gv (x5 == 0) (.bool (x1 == (-1))) := hp 6 rfl
        exact .inl ⟨rfl, .bool ((x5 == 0) && (x1 == (-1))), u, (run_pick_and rfl (ev_sl e18) (fun hp => ((ev_sl e21).trans (gv_t hp))) (ev_const _ _)), rfl, S⟩
      · intro a u X hB hu hp hr hz hl S
        replace S : St w u ([] ++ X) := S
        have e22 : sl a 22 = .bool ((x5 == 0) && (x1 == (-1))) := hp 7 rfl
        exact .inl ⟨rfl, .bool ((x5 == 0) && (x1 == (-1))), u, (run_move rfl (ev_sl e22)), rfl, S⟩
      · intro a u X hB hu hp hr hz hl S
        replace S : St w u ([] ++ X) := S
        have e23 : sl a 23 = .bool ((x5 == 0) && (x1 == (-1))) := hp 8 rfl
        rcases (Bool.eq_false_or_eq_true ((x5 == 0) && (x1 == (-1)))).symm with hg | hg
        · exact .inr (.inr (.inr ⟨gr_eg rfl (yt (gr_yield rfl rfl e23)) hg, (gv_f hg).symm, S⟩))
        · exact .inl ⟨gr_eg rfl (yt (gr_yield rfl rfl e23)) hg, .pointer (some ⟨g102, 1, none⟩), u, (run_fieldAddr rfl fl32_1 (hF.evB hB rfl rfl) rfl), (gv_t hg).symm, S⟩
      · intro a u X hB hu hp hr hz hl S
        replace S : St w u ([] ++ X) := S
        have e23 : sl a 23 = .bool ((x5 == 0) && (x1 == (-1))) := hp 8 rfl
        have e24 : sl a 24 = gv ((x5 == 0) && (x1 == (-1))) (.pointer (some ⟨g102, 1, none⟩)) := hp 9 rfl
        rcases (Bool.eq_false_or_eq_true ((x5 == 0) && (x1 == (-1)))).symm with hg | hg
        · exact .inr (.inr (.inr ⟨gr_eg rfl (yt (gr_yield rfl rfl e23)) hg, (gv_f hg).symm, S⟩))
        · exact .inl ⟨gr_eg rfl (yt (gr_yield rfl rfl e23)) hg, .int .i64 x6, u, (run_load1 rfl one3 ((ev_sl e24).trans (gv_t hg)) ((gr_box S hl 3 rfl).cell rfl)), (gv_t hg).symm, S⟩
      · intro a u X hB hu hp hr hz hl S
        replace S : St w u ([] ++ X) := S
        have e23 : sl a 23 = .bool ((x5 == 0) && (x1 == (-1))) := hp 8 rfl
        have e25 : sl a 25 = gv ((x5 == 0) && (x1 == (-1))) (.int .i64 x6) := hp 10 rfl
        rcases (Bool.eq_false_or_eq_true ((x5 == 0) && (x1 == (-1)))).symm with hg | hg
        · exact .inr (.inr (.inr ⟨gr_eg rfl (yt (gr_yield rfl rfl e23)) hg, (gv_f hg).symm, S⟩))
        · refine .inr (.inr (.inl ⟨gr_eg rfl (yt (gr_yield rfl rfl e23)) hg, _, _, (run_call (vs := [.int .i64 x6, .int .i64 0, .int .i64 9]) rfl rfl co31 ⟨((ev_sl e25).trans (gv_t hg)), (ev_const _ _), (ev_const _ _), trivial⟩), ?_⟩))
          refine Calls.mono (c_spec_l1In (x0 := x6) (x1 := 0) (x2 := 9)  (gb_t h111 hg)) ?_
          rintro e w1 ⟨rfl, T⟩
          exact ⟨_, rfl, (gv_t hg).symm, S.call0 T⟩
      · intro a u X hB hu hp hr hz hl S
        replace S : St w u ([] ++ X) := S
        have e23 : sl a 23 = .bool ((x5 == 0) && (x1 == (-1))) := hp 8 rfl
        have e26 : sl a 26 = gv ((x5 == 0) && (x1 == (-1))) (.bool p111) := hp 11 rfl
        exact .inl ⟨rfl, .bool (((x5 == 0) && (x1 == (-1))) && p111), u, (run_pick_and rfl (ev_sl e23) (fun hp => ((ev_sl e26).trans (gv_t hp))) (ev_const _ _)), rfl, S⟩
      · intro a u X hB hu hp hr hz hl S
        replace S : St w u ([] ++ X) := S
        have e27 : sl a 27 = .bool (((x5 == 0) && (x1 == (-1))) && p111) := hp 12 rfl
        exact .inl ⟨rfl, .bool (((x5 == 0) && (x1 == (-1))) && p111), u, (run_move rfl (ev_sl e27)), rfl, S⟩
      · intro a u X hB hu hp hr hz hl S
        replace S : St w u ([] ++ X) := S
        have e28 : sl a 28 = .bool (((x5 == 0) && (x1 == (-1))) && p111) := hp 13 rfl
        rcases (Bool.eq_false_or_eq_true (((x5 == 0) && (x1 == (-1))) && p111)).symm with hg | hg
        · exact .inr (.inr (.inr ⟨gr_eg rfl (yt (gr_yield rfl rfl e28)) hg, (gv_f hg).symm, S⟩))
        · exact .inl ⟨gr_eg rfl (yt (gr_yield rfl rfl e28)) hg, .pointer (some ⟨g102, 2, none⟩), u, (run_fieldAddr rfl fl32_2 (hF.evB hB rfl rfl) rfl), (gv_t hg).symm, S⟩
      · intro a u X hB hu hp hr hz hl S
        replace S : St w u ([] ++ X) := S
        have e28 : sl a 28 = .bool (((x5 == 0) && (x1 == (-1))) && p111) := hp 13 rfl
        have e29 : sl a 29 = gv (((x5 == 0) && (x1 == (-1))) && p111) (.pointer (some ⟨g102, 2, none⟩)) := hp 14 rfl
        rcases (Bool.eq_false_or_eq_true (((x5 == 0) && (x1 == (-1))) && p111)).symm with hg | hg
        · exact .inr (.inr (.inr ⟨gr_eg rfl (yt (gr_yield rfl rfl e28)) hg, (gv_f hg).symm, S⟩))
        · exact .inl ⟨gr_eg rfl (yt (gr_yield rfl rfl e28)) hg, .int .i64 x7, u, (run_load1 rfl one3 ((ev_sl e29).trans (gv_t hg)) ((gr_box S hl 3 rfl).cell rfl)), (gv_t hg).symm, S⟩
      · intro a u X hB hu hp hr hz hl S
        replace S : St w u ([] ++ X) := S
        have e28 : sl a 28 = .bool (((x5 == 0) && (x1 == (-1))) && p111) := hp 13 rfl
        rcases (Bool.eq_false_or_eq_true (((x5 == 0) && (x1 == (-1))) && p111)).symm with hg | hg
        · exact .inr (.inr (.inr ⟨gr_eg rfl (yt (gr_yield rfl rfl e28)) hg, (gv_f hg).symm, S⟩))
        · exact .inl ⟨gr_eg rfl (yt (gr_yield rfl rfl e28)) hg, .pointer (some ⟨g101, 0, none⟩), u, (run_fieldAddr rfl fl28_0 (hF.evB hB rfl rfl) rfl), (gv_t hg).symm, S⟩
      · intro a u X hB hu hp hr hz hl S
        replace S : St w u ([] ++ X) := S
        have e28 : sl a 28 = .bool (((x5 == 0) && (x1 == (-1))) && p111) := hp 13 rfl
        have e31 : sl a 31 = gv (((x5 == 0) && (x1 == (-1))) && p111) (.pointer (some ⟨g101, 0, none⟩)) := hp 16 rfl
        rcases (Bool.eq_false_or_eq_true (((x5 == 0) && (x1 == (-1))) && p111)).symm with hg | hg
        · exact .inr (.inr (.inr ⟨gr_eg rfl (yt (gr_yield rfl rfl e28)) hg, (gv_f hg).symm, S⟩))
        · exact .inl ⟨gr_eg rfl (yt (gr_yield rfl rfl e28)) hg, .slice A0 x0.length c0, u, (run_load1 rfl one22 ((ev_sl e31).trans (gv_t hg)) ((gr_box S hl 4 rfl).cell rfl)), (gv_t hg).symm, S⟩
      · intro a u X hB hu hp hr hz hl S
        replace S : St w u ([] ++ X) := S
        have e28 : sl a 28 = .bool (((x5 == 0) && (x1 == (-1))) && p111) := hp 13 rfl
        have e32 : sl a 32 = gv (((x5 == 0) && (x1 == (-1))) && p111) (.slice A0 x0.length c0) := hp 17 rfl
        rcases (Bool.eq_false_or_eq_true (((x5 == 0) && (x1 == (-1))) && p111)).symm with hg | hg
        · exact .inr (.inr (.inr ⟨gr_eg rfl (yt (gr_yield rfl rfl e28)) hg, (gv_f hg).symm, S⟩))
        · exact .inl ⟨gr_eg rfl (yt (gr_yield rfl rfl e28)) hg, .int .i64 (x0.length : Int), u, (run_lenL rfl rfl Try.underlying22 ((ev_sl e32).trans (gv_t hg))), (gv_t hg).symm, S⟩
      · intro a u X hB hu hp hr hz hl S
        replace S : St w u ([] ++ X) := S
        have e28 : sl a 28 = .bool (((x5 == 0) && (x1 == (-1))) && p111) := hp 13 rfl
        have e33 : sl a 33 = gv (((x5 == 0) && (x1 == (-1))) && p111) (.int .i64 (x0.length : Int)) := hp 18 rfl
        rcases (Bool.eq_false_or_eq_true (((x5 == 0) && (x1 == (-1))) && p111)).symm with hg | hg
        · exact .inr (.inr (.inr ⟨gr_eg rfl (yt (gr_yield rfl rfl e28)) hg, (gv_f hg).symm, S⟩))
        · exact .inl ⟨gr_eg rfl (yt (gr_yield rfl rfl e28)) hg, .int .i64 (w64 ((x0.length : Int) - 1)), u, (run_sub (z := w64 ((x0.length : Int) - 1)) ((ev_sl e33).trans (gv_t hg)) (ev_const _ _) rfl rfl), (gv_t hg).symm, S⟩
      · intro a u X hB hu hp hr hz hl S
        replace S : St w u ([] ++ X) := S
        have e28 : sl a 28 = .bool (((x5 == 0) && (x1 == (-1))) && p111) := hp 13 rfl
        have e30 : sl a 30 = gv (((x5 == 0) && (x1 == (-1))) && p111) (.int .i64 x7) := hp 15 rfl
        have e34 : sl a 34 = gv (((x5 == 0) && (x1 == (-1))) && p111) (.int .i64 (w64 ((x0.length : Int) - 1))) := hp 19 rfl
        rcases (Bool.eq_false_or_eq_true (((x5 == 0) && (x1 == (-1))) && p111)).symm with hg | hg
        · exact .inr (.inr (.inr ⟨gr_eg rfl (yt (gr_yield rfl rfl e28)) hg, (gv_f hg).symm, S⟩))
        · refine .inr (.inr (.inl ⟨gr_eg rfl (yt (gr_yield rfl rfl e28)) hg, _, _, (run_call (vs := [.int .i64 x7, .int .i64 0, .int .i64 (w64 ((x0.length : Int) - 1))]) rfl rfl co31 ⟨((ev_sl e30).trans (gv_t hg)), (ev_const _ _), ((ev_sl e34).trans (gv_t hg)), trivial⟩), ?_⟩))
          refine Calls.mono (c_spec_l1In (x0 := x7) (x1 := 0) (x2 := w64 ((x0.length : Int) - 1))  (gb_t h112 hg)) ?_
          rintro e w1 ⟨rfl, T⟩
          exact ⟨_, rfl, (gv_t hg).symm, S.call0 T⟩
      · intro a u X hB hu hp hr hz hl S
        replace S : St w u ([] ++ X) := S
        have e28 : sl a 28 = .bool (((x5 == 0) && (x1 == (-1))) && p111) := hp 13 rfl
        have e35 : sl a 35 = gv (((x5 == 0) && (x1 == (-1))) && p111) (.bool p112) := hp 20 rfl
        exact .inl ⟨rfl, .bool ((((x5 == 0) && (x1 == (-1))) && p111) && p112), u, (run_pick_and rfl (ev_sl e28) (fun hp => ((ev_sl e35).trans (gv_t hp))) (ev_const _ _)), rfl, S⟩
      · intro a u X hB hu hp hr hz hl S
        replace S : St w u ([] ++ X) := S
        have e36 : sl a 36 = .bool ((((x5 == 0) && (x1 == (-1))) && p111) && p112) := hp 21 rfl
        exact .inl ⟨rfl, .bool ((((x5 == 0) && (x1 == (-1))) && p111) && p112), u, (run_move rfl (ev_sl e36)), rfl, S⟩
      · intro a u X hB hu hp hr hz hl S
        replace S : St w u ([] ++ X) := S
        have e37 : sl a 37 = .bool ((((x5 == 0) && (x1 == (-1))) && p111) && p112) := hp 22 rfl
        rcases (Bool.eq_false_or_eq_true ((((x5 == 0) && (x1 == (-1))) && p111) && p112)).symm with hg | hg
        · exact .inr (.inr (.inr ⟨gr_eg rfl (yt (gr_yield rfl rfl e37)) hg, (gv_f hg).symm, S⟩))
        · exact .inl ⟨gr_eg rfl (yt (gr_yield rfl rfl e37)) hg, .pointer (some ⟨g101, 0, none⟩), u, (run_fieldAddr rfl fl28_0 (hF.evB hB rfl rfl) rfl), (gv_t hg).symm, S⟩
      · intro a u X hB hu hp hr hz hl S
        replace S : St w u ([] ++ X) := S
        have e37 : sl a 37 = .bool ((((x5 == 0) && (x1 == (-1))) && p111) && p112) := hp 22 rfl
        have e38 : sl a 38 = gv ((((x5 == 0) && (x1 == (-1))) && p111) && p112) (.pointer (some ⟨g101, 0, none⟩)) := hp 23 rfl
        rcases (Bool.eq_false_or_eq_true ((((x5 == 0) && (x1 == (-1))) && p111) && p112)).symm with hg | hg
        · exact .inr (.inr (.inr ⟨gr_eg rfl (yt (gr_yield rfl rfl e37)) hg, (gv_f hg).symm, S⟩))
        · exact .inl ⟨gr_eg rfl (yt (gr_yield rfl rfl e37)) hg, .slice A0 x0.length c0, u, (run_load1 rfl one22 ((ev_sl e38).trans (gv_t hg)) ((gr_box S hl 4 rfl).cell rfl)), (gv_t hg).symm, S⟩
      · intro a u X hB hu hp hr hz hl S
        replace S : St w u ([] ++ X) := S
        have e37 : sl a 37 = .bool ((((x5 == 0) && (x1 == (-1))) && p111) && p112) := hp 22 rfl
        rcases (Bool.eq_false_or_eq_true ((((x5 == 0) && (x1 == (-1))) && p111) && p112)).symm with hg | hg
        · exact .inr (.inr (.inr ⟨gr_eg rfl (yt (gr_yield rfl rfl e37)) hg, (gv_f hg).symm, S⟩))
        · exact .inl ⟨gr_eg rfl (yt (gr_yield rfl rfl e37)) hg, .pointer (some ⟨g102, 2, none⟩), u, (run_fieldAddr rfl fl32_2 (hF.evB hB rfl rfl) rfl), (gv_t hg).symm, S⟩
      · intro a u X hB hu hp hr hz hl S
        replace S : St w u ([] ++ X) := S
        have e37 : sl a 37 = .bool ((((x5 == 0) && (x1 == (-1))) && p111) && p112) := hp 22 rfl
        have e40 : sl a 40 = gv ((((x5 == 0) && (x1 == (-1))) && p111) && p112) (.pointer (some ⟨g102, 2, none⟩)) := hp 25 rfl
        rcases (Bool.eq_false_or_eq_true ((((x5 == 0) && (x1 == (-1))) && p111) && p112)).symm with hg | hg
        · exact .inr (.inr (.inr ⟨gr_eg rfl (yt (gr_yield rfl rfl e37)) hg, (gv_f hg).symm, S⟩))
        · exact .inl ⟨gr_eg rfl (yt (gr_yield rfl rfl e37)) hg, .int .i64 x7, u, (run_load1 rfl one3 ((ev_sl e40).trans (gv_t hg)) ((gr_box S hl 3 rfl).cell rfl)), (gv_t hg).symm, S⟩
      · intro a u X hB hu hp hr hz hl S
        replace S : St w u ([] ++ X) := S
        have e37 : sl a 37 = .bool ((((x5 == 0) && (x1 == (-1))) && p111) && p112) := hp 22 rfl
        have e39 : sl a 39 = gv ((((x5 == 0) && (x1 == (-1))) && p111) && p112) (.slice A0 x0.length c0) := hp 24 rfl
        have e41 : sl a 41 = gv ((((x5 == 0) && (x1 == (-1))) && p111) && p112) (.int .i64 x7) := hp 26 rfl
        rcases (Bool.eq_false_or_eq_true ((((x5 == 0) && (x1 == (-1))) && p111) && p112)).symm with hg | hg
        · exact .inr (.inr (.inr ⟨gr_eg rfl (yt (gr_yield rfl rfl e37)) hg, (gv_f hg).symm, S⟩))
        · exact .inl ⟨gr_eg rfl (yt (gr_yield rfl rfl e37)) hg, .pointer (some ⟨adB A0, adO A0 + x7.toNat * 1, none⟩), u, (run_indexAddr (b := adB A0) (off := adO A0) rfl Try.underlying22 sz4 (((ev_sl e39).trans (gv_t hg)).trans (congrArg (fun A => Value.slice A x0.length c0) ((S.rc0 h0.rc).rd.ad (ix_pos (hk113 hg))))) ((ev_sl e41).trans (gv_t hg)) (hk113 hg).1 (hk113 hg).2 (k' := adO A0 + x7.toNat * 1) rfl), (gv_t hg).symm, S⟩
      · intro a u X hB hu hp hr hz hl S
        replace S : St w u ([] ++ X) := S
        have e37 : sl a 37 = .bool ((((x5 == 0) && (x1 == (-1))) && p111) && p112) := hp 22 rfl
        have e42 : sl a 42 = gv ((((x5 == 0) && (x1 == (-1))) && p111) && p112) (.pointer (some ⟨adB A0, adO A0 + x7.toNat * 1, none⟩)) := hp 27 rfl
        rcases (Bool.eq_false_or_eq_true ((((x5 == 0) && (x1 == (-1))) && p111) && p112)).symm with hg | hg
        · exact .inr (.inr (.inr ⟨gr_eg rfl (yt (gr_yield rfl rfl e37)) hg, (gv_f hg).symm, S⟩))
        · exact .inl ⟨gr_eg rfl (yt (gr_yield rfl rfl e37)) hg, .bool (x0.getD x7.toNat false), u, (run_load1 rfl one4 ((ev_sl e42).trans (gv_t hg)) (rd_el0 (l := x0) (S.rc0 h0.rc).rd rfl eB_len false (ix_ltn (hk113 hg) rfl) rfl)), (gv_t hg).symm, S⟩
      · intro a u X hB hu hp hr hz hl S
        replace S : St w u ([] ++ X) := S
        have e37 : sl a 37 = .bool ((((x5 == 0) && (x1 == (-1))) && p111) && p112) := hp 22 rfl
        rcases (Bool.eq_false_or_eq_true ((((x5 == 0) && (x1 == (-1))) && p111) && p112)).symm with hg | hg
        · exact .inr (.inr (.inr ⟨gr_eg rfl (yt (gr_yield rfl rfl e37)) hg, (gv_f hg).symm, S⟩))
        · exact .inl ⟨gr_eg rfl (yt (gr_yield rfl rfl e37)) hg, .pointer (some ⟨g102, 3, none⟩), u, (run_fieldAddr rfl fl32_3 (hF.evB hB rfl rfl) rfl), (gv_t hg).symm, S⟩
      · intro a u X hB hu hp hr hz hl S
        replace S : St w u ([] ++ X) := S
        have e37 : sl a 37 = .bool ((((x5 == 0) && (x1 == (-1))) && p111) && p112) := hp 22 rfl
        have e44 : sl a 44 = gv ((((x5 == 0) && (x1 == (-1))) && p111) && p112) (.pointer (some ⟨g102, 3, none⟩)) := hp 29 rfl
        rcases (Bool.eq_false_or_eq_true ((((x5 == 0) && (x1 == (-1))) && p111) && p112)).symm with hg | hg
        · exact .inr (.inr (.inr ⟨gr_eg rfl (yt (gr_yield rfl rfl e37)) hg, (gv_f hg).symm, S⟩))
        · exact .inl ⟨gr_eg rfl (yt (gr_yield rfl rfl e37)) hg, .bool x8, u, (run_load1 rfl one4 ((ev_sl e44).trans (gv_t hg)) ((gr_box S hl 3 rfl).cell rfl)), (gv_t hg).symm, S⟩
      · intro a u X hB hu hp hr hz hl S
        replace S : St w u ([] ++ X) := S
        have e37 : sl a 37 = .bool ((((x5 == 0) && (x1 == (-1))) && p111) && p112) := hp 22 rfl
        have e43 : sl a 43 = gv ((((x5 == 0) && (x1 == (-1))) && p111) && p112) (.bool (x0.getD x7.toNat false)) := hp 28 rfl
        have e45 : sl a 45 = gv ((((x5 == 0) && (x1 == (-1))) && p111) && p112) (.bool x8) := hp 30 rfl
        rcases (Bool.eq_false_or_eq_true ((((x5 == 0) && (x1 == (-1))) && p111) && p112)).symm with hg | hg
        · exact .inr (.inr (.inr ⟨gr_eg rfl (yt (gr_yield rfl rfl e37)) hg, (gv_f hg).symm, S⟩))
        · exact .inl ⟨gr_eg rfl (yt (gr_yield rfl rfl e37)) hg, .bool ((x0.getD x7.toNat false) != x8), u, (run_neqB ((ev_sl e43).trans (gv_t hg)) ((ev_sl e45).trans (gv_t hg)) Try.underlying4 rfl), (gv_t hg).symm, S⟩
      · intro a u X hB hu hp hr hz hl S
        replace S : St w u ([] ++ X) := S
        have e37 : sl a 37 = .bool ((((x5 == 0) && (x1 == (-1))) && p111) && p112) := hp 22 rfl
        have e46 : sl a 46 = gv ((((x5 == 0) && (x1 == (-1))) && p111) && p112) (.bool ((x0.getD x7.toNat false) != x8)) := hp 31 rfl
        exact .inl ⟨rfl, .bool (((((x5 == 0) && (x1 == (-1))) && p111) && p112) && ((x0.getD x7.toNat false) != x8)), u, (run_pick_and rfl (ev_sl e37) (fun hp => ((ev_sl e46).trans (gv_t hp))) (ev_const _ _)), rfl, S⟩
      · intro a u X hB hu hp hr hz hl S
        replace S : St w u ([] ++ X) := S
        have e47 : sl a 47 = .bool (((((x5 == 0) && (x1 == (-1))) && p111) && p112) && ((x0.getD x7.toNat false) != x8)) := hp 32 rfl
        exact .inl ⟨rfl, .bool (((((x5 == 0) && (x1 == (-1))) && p111) && p112) && ((x0.getD x7.toNat false) != x8)), u, (run_assign rfl (ev_sl e47)), rfl, S⟩
    · intro a u hB hp S
      obtain ⟨q0, q1, q2, q3, q4, q5, q6, q7, q8, q9, q10, q11, q12, q13, q14, q15, q16, q17, q18, q19, q20, q21, q22, q23, q24, q25, q26, q27, q28, q29, q30, q31, q32, q33, _⟩ := hp
      have e15 : sl a 15 = .pointer (some ⟨g102, 0, none⟩) := q0
      have e16 : sl a 16 = .int .i64 x5 := q1
      have e17 : sl a 17 = .bool (x5 == 0) := q2
      have e18 : sl a 18 = .bool (x5 == 0) := q3
      have e19 : sl a 19 = gv (x5 == 0) (.pointer (some ⟨g101, 1, none⟩)) := q4
      have e20 : sl a 20 = gv (x5 == 0) (.int .i64 x1) := q5
      have e21 : sl a 21 = gv (x5 == 0) (.bool (x1 == (-1))) := q6
      have e22 : sl a 22 = .bool ((x5 == 0) && (x1 == (-1))) := q7
      have e23 : sl a 23 = .bool ((x5 == 0) && (x1 == (-1))) := q8
      have e24 : sl a 24 = gv ((x5 == 0) && (x1 == (-1))) (.pointer (some ⟨g102, 1, none⟩)) := q9
      have e25 : sl a 25 = gv ((x5 == 0) && (x1 == (-1))) (.int .i64 x6) := q10
      have e26 : sl a 26 = gv ((x5 == 0) && (x1 == (-1))) (.bool p111) := q11
      have e27 : sl a 27 = .bool (((x5 == 0) && (x1 == (-1))) && p111) := q12
      have e28 : sl a 28 = .bool (((x5 == 0) && (x1 == (-1))) && p111) := q13
      have e29 : sl a 29 = gv (((x5 == 0) && (x1 == (-1))) && p111) (.pointer (some ⟨g102, 2, none⟩)) := q14
      have e30 : sl a 30 = gv (((x5 == 0) && (x1 == (-1))) && p111) (.int .i64 x7) := q15
      have e31 : sl a 31 = gv (((x5 == 0) && (x1 == (-1))) && p111) (.pointer (some ⟨g101, 0, none⟩)) := q16
      have e32 : sl a 32 = gv (((x5 == 0) && (x1 == (-1))) && p111) (.slice A0 x0.length c0) := q17
      have e33 : sl a 33 = gv (((x5 == 0) && (x1 == (-1))) && p111) (.int .i64 (x0.length : Int)) := q18
      have e34 : sl a 34 = gv (((x5 == 0) && (x1 == (-1))) && p111) (.int .i64 (w64 ((x0.length : Int) - 1))) := q19
      have e35 : sl a 35 = gv (((x5 == 0) && (x1 == (-1))) && p111) (.bool p112) := q20
      have e36 : sl a 36 = .bool ((((x5 == 0) && (x1 == (-1))) && p111) && p112) := q21
      have e37 : sl a 37 = .bool ((((x5 == 0) && (x1 == (-1))) && p111) && p112) := q22
      have e38 : sl a 38 = gv ((((x5 == 0) && (x1 == (-1))) && p111) && p112) (.pointer (some ⟨g101, 0, none⟩)) := q23
      have e39 : sl a 39 = gv ((((x5 == 0) && (x1 == (-1))) && p111) && p112) (.slice A0 x0.length c0) := q24
      have e40 : sl a 40 = gv ((((x5 == 0) && (x1 == (-1))) && p111) && p112) (.pointer (some ⟨g102, 2, none⟩)) := q25
      have e41 : sl a 41 = gv ((((x5 == 0) && (x1 == (-1))) && p111) && p112) (.int .i64 x7) := q26
      have e42 : sl a 42 = gv ((((x5 == 0) && (x1 == (-1))) && p111) && p112) (.pointer (some ⟨adB A0, adO A0 + x7.toNat * 1, none⟩)) := q27
      have e43 : sl a 43 = gv ((((x5 == 0) && (x1 == (-1))) && p111) && p112) (.bool (x0.getD x7.toNat false)) := q28
      have e44 : sl a 44 = gv ((((x5 == 0) && (x1 == (-1))) && p111) && p112) (.pointer (some ⟨g102, 3, none⟩)) := q29
      have e45 : sl a 45 = gv ((((x5 == 0) && (x1 == (-1))) && p111) && p112) (.bool x8) := q30
      have e46 : sl a 46 = gv ((((x5 == 0) && (x1 == (-1))) && p111) && p112) (.bool ((x0.getD x7.toNat false) != x8)) := q31
      have e47 : sl a 47 = .bool (((((x5 == 0) && (x1 == (-1))) && p111) && p112) && ((x0.getD x7.toNat false) != x8)) := q32
      have e14 : sl a 14 = .bool (((((x5 == 0) && (x1 == (-1))) && p111) && p112) && ((x0.getD x7.toNat false) != x8)) := q33
      replace S : St w u [.box g110 28 #[.slice B107 p106.1.length d109, .int .i64 p106.2.1, .int .i64 p106.2.2.1, .bool p106.2.2.2.1, .int .i64 p106.2.2.2.2], .row 4 1 (.slice B107 p106.1.length d109) p106.1.length (p106.1.flatMap eB), .box g103 28 #[.slice none 0 0, .int .i64 0, .int .i64 0, .bool false, .int .i64 0], .box g102 32 #[.int .i64 x5, .int .i64 x6, .int .i64 x7, .bool x8], .box g101 28 #[.slice A0 x0.length c0, .int .i64 x1, .int .i64 x2, .bool x3, .int .i64 x4]] := S
      clear q0 q1 q2 q3 q4 q5 q6 q7 q8 q9 q10 q11 q12 q13 q14 q15 q16 q17 q18 q19 q20 q21 q22 q23 q24 q25 q26 q27 q28 q29 q30 q31 q32 q33
      have hF := hF.region hB [(15, .pointer (some ⟨g102, 0, none⟩)), (16, .int .i64 x5), (17, .bool (x5 == 0)), (18, .bool (x5 == 0)), (19, gv (x5 == 0) (.pointer (some ⟨g101, 1, none⟩))), (20, gv (x5 == 0) (.int .i64 x1)), (21, gv (x5 == 0) (.bool (x1 == (-1)))), (22, .bool ((x5 == 0) && (x1 == (-1)))), (23, .bool ((x5 == 0) && (x1 == (-1)))), (24, gv ((x5 == 0) && (x1 == (-1))) (.pointer (some ⟨g102, 1, none⟩))), (25, gv ((x5 == 0) && (x1 == (-1))) (.int .i64 x6)), (26, gv ((x5 == 0) && (x1 == (-1))) (.bool p111)), (27, .bool (((x5 == 0) && (x1 == (-1))) && p111)), (28, .bool (((x5 == 0) && (x1 == (-1))) && p111)), (29, gv (((x5 == 0) && (x1 == (-1))) && p111) (.pointer (some ⟨g102, 2, none⟩))), (30, gv (((x5 == 0) && (x1 == (-1))) && p111) (.int .i64 x7)), (31, gv (((x5 == 0) && (x1 == (-1))) && p111) (.pointer (some ⟨g101, 0, none⟩))), (32, gv (((x5 == 0) && (x1 == (-1))) && p111) (.slice A0 x0.length c0)), (33, gv (((x5 == 0) && (x1 == (-1))) && p111) (.int .i64 (x0.length : Int))), (34, gv (((x5 == 0) && (x1 == (-1))) && p111) (.int .i64 (w64 ((x0.length : Int) - 1)))), (35, gv (((x5 == 0) && (x1 == (-1))) && p111) (.bool p112)), (36, .bool ((((x5 == 0) && (x1 == (-1))) && p111) && p112)), (37, .bool ((((x5 == 0) && (x1 == (-1))) && p111) && p112)), (38, gv ((((x5 == 0) && (x1 == (-1))) && p111) && p112) (.pointer (some ⟨g101, 0, none⟩))), (39, gv ((((x5 == 0) && (x1 == (-1))) && p111) && p112) (.slice A0 x0.length c0)), (40, gv ((((x5 == 0) && (x1 == (-1))) && p111) && p112) (.pointer (some ⟨g102, 2, none⟩))), (41, gv ((((x5 == 0) && (x1 == (-1))) && p111) && p112) (.int .i64 x7)), (42, gv ((((x5 == 0) && (x1 == (-1))) && p111) && p112) (.pointer (some ⟨adB A0, adO A0 + x7.toNat * 1, none⟩))), (43, gv ((((x5 == 0) && (x1 == (-1))) && p111) && p112) (.bool (x0.getD x7.toNat false))), (44, gv ((((x5 == 0) && (x1 == (-1))) && p111) && p112) (.pointer (some ⟨g102, 3, none⟩))), (45, gv ((((x5 == 0) && (x1 == (-1))) && p111) && p112) (.bool x8)), (46, gv ((((x5 == 0) && (x1 == (-1))) && p111) && p112) (.bool ((x0.getD x7.toNat false) != x8))), (47, .bool (((((x5 == 0) && (x1 == (-1))) && p111) && p112) && ((x0.getD x7.toNat false) != x8))), (14, .bool (((((x5 == 0) && (x1 == (-1))) && p111) && p112) && ((x0.getD x7.toNat false) != x8)))] (allSl_mem ⟨e15, e16, e17, e18, e19, e20, e21, e22, e23, e24, e25, e26, e27, e28, e29, e30, e31, e32, e33, e34, e35, e36, e37, e38, e39, e40, e41, e42, e43, e44, e45, e46, e47, e14, trivial⟩) rfl
      clear hB e15 e16 e17 e18 e19 e20 e21 e22 e23 e24 e25 e26 e27 e28 e29 e30 e31 e32 e33 e34 e35 e36 e37 e38 e39 e40 e41 e42 e43 e44 e45 e46 e47 e14
      obtain ⟨o115, hM118, hM⟩ := bind_ex hM
      refine wp_cut (fun a u => ∃ (p114 : List Bool × Int × Int × Bool × Int) (B116 : Option Addr) (d117 : Nat), (Sum.inl p114) = o115 ∧ Fr a 135 [(4, .pointer (some ⟨g103, 0, none⟩)), (5, .bool false), (6, .pointer (some ⟨g110, 0, none⟩))] ∧ St w u [.box g110 28 #[.slice B116 p114.1.length d117, .int .i64 p114.2.1, .int .i64 p114.2.2.1, .bool p114.2.2.2.1, .int .i64 p114.2.2.2.2], .box g103 28 #[.slice none 0 0, .int .i64 0, .int .i64 0, .bool false, .int .i64 0], .box g102 32 #[.int .i64 x5, .int .i64 x6, .int .i64 x7, .bool x8], .box g101 28 #[.slice A0 x0.length c0, .int .i64 x1, .int .i64 x2, .bool x3, .int .i64 x4], .row 4 1 (.slice B116 p114.1.length d117) p114.1.length (p114.1.flatMap eB)]) ?_ ?_
      · have _ := trivial
        cases hc119 : (((((x5 == 0) && (x1 == (-1))) && p111) && p112) && ((x0.getD x7.toNat false) != x8))
        · replace hM118 := bif_f hc119 hM118
          refine cond_f hF rfl hc119 ?_
          refine wp_seq ?_
          refine wp_region_lit ?_
          refine op_val (v := .pointer (some ⟨g102, 0, none⟩)) rfl rfl hF rfl (run_fieldAddr rfl fl32_0 (hF.ev rfl) rfl) ?_; clear hF; intro a hF
          refine op_val (v := .int .i64 x5) rfl rfl hF rfl (run_load1 rfl one3 (hF.ev rfl) ((S.free 3 rfl).cell rfl)) ?_; clear hF; intro a hF
          refine op_val (v := .bool (x5 == 1)) rfl rfl hF rfl (run_eql (hF.ev rfl) rfl rfl) ?_; clear hF; intro a hF
          refine op_val (v := .bool (x5 == 1)) rfl rfl hF rfl (run_move rfl (hF.ev rfl)) ?_; clear hF; intro a hF
          refine op_gv (v := .pointer (some ⟨g101, 1, none⟩)) rfl rfl hF rfl (yt (gw_yield hF rfl rfl rfl)) (fun hg => (run_fieldAddr rfl fl28_1 (hF.ev rfl) rfl)) ?_; clear hF; intro a hF
          refine op_gv (v := .int .i64 x1) rfl rfl hF rfl (yt (gw_yield hF rfl rfl rfl)) (fun hg => (run_load1 rfl one3 ((hF.ev rfl).trans (gv_t hg)) ((S.free 4 rfl).cell rfl))) ?_; clear hF; intro a hF
          refine op_gv (v := .bool (leB 0 x1)) rfl rfl hF rfl (yt (gw_yield hF rfl rfl rfl)) (fun hg => (run_geq ((hF.ev rfl).trans (gv_t hg)) rfl rfl)) ?_; clear hF; intro a hF
          refine op_val (v := .bool ((x5 == 1) && (leB 0 x1))) rfl rfl hF rfl (run_pick_and rfl (hF.ev rfl) (fun hp => ((hF.ev rfl).trans (gv_t hp))) rfl) ?_; clear hF; intro a hF
          refine op_val (v := .bool ((x5 == 1) && (leB 0 x1))) rfl rfl hF rfl (run_move rfl (hF.ev rfl)) ?_; clear hF; intro a hF
          refine op_gv (v := .pointer (some ⟨g102, 1, none⟩)) rfl rfl hF rfl (yt (gw_yield hF rfl rfl rfl)) (fun hg => (run_fieldAddr rfl fl32_1 (hF.ev rfl) rfl)) ?_; clear hF; intro a hF
          refine op_gv (v := .int .i64 x6) rfl rfl hF rfl (yt (gw_yield hF rfl rfl rfl)) (fun hg => (run_load1 rfl one3 ((hF.ev rfl).trans (gv_t hg)) ((S.free 3 rfl).cell rfl))) ?_; clear hF; intro a hF
          refine op_gv (v := .pointer (some ⟨g101, 1, none⟩)) rfl rfl hF rfl (yt (gw_yield hF rfl rfl rfl)) (fun hg => (run_fieldAddr rfl fl28_1 (hF.ev rfl) rfl)) ?_; clear hF; intro a hF
          refine op_gv (v := .int .i64 x1) rfl rfl hF rfl (yt (gw_yield hF rfl rfl rfl)) (fun hg => (run_load1 rfl one3 ((hF.ev rfl).trans (gv_t hg)) ((S.free 4 rfl).cell rfl))) ?_; clear hF; intro a hF
          refine op_gv (v := .bool (x6 == x1)) rfl rfl hF rfl (yt (gw_yield hF rfl rfl rfl)) (fun hg => (run_eql ((hF.ev rfl).trans (gv_t hg)) ((hF.ev rfl).trans (gv_t hg)) rfl)) ?_; clear hF; intro a hF
          refine op_val (v := .bool (((x5 == 1) && (leB 0 x1)) && (x6 == x1))) rfl rfl hF rfl (run_pick_and rfl (hF.ev rfl) (fun hp => ((hF.ev rfl).trans (gv_t hp))) rfl) ?_; clear hF; intro a hF
          refine op_val (v := .bool (((x5 == 1) && (leB 0 x1)) && (x6 == x1))) rfl rfl hF rfl (run_move rfl (hF.ev rfl)) ?_; clear hF; intro a hF
          refine op_gv (v := .pointer (some ⟨g102, 2, none⟩)) rfl rfl hF rfl (yt (gw_yield hF rfl rfl rfl)) (fun hg => (run_fieldAddr rfl fl32_2 (hF.ev rfl) rfl)) ?_; clear hF; intro a hF
          refine op_gv (v := .int .i64 x7) rfl rfl hF rfl (yt (gw_yield hF rfl rfl rfl)) (fun hg => (run_load1 rfl one3 ((hF.ev rfl).trans (gv_t hg)) ((S.free 3 rfl).cell rfl))) ?_; clear hF; intro a hF
          refine op_gv (v := .pointer (some ⟨g101, 2, none⟩)) rfl rfl hF rfl (yt (gw_yield hF rfl rfl rfl)) (fun hg => (run_fieldAddr rfl fl28_2 (hF.ev rfl) rfl)) ?_; clear hF; intro a hF
          refine op_gv (v := .int .i64 x2) rfl rfl hF rfl (yt (gw_yield hF rfl rfl rfl)) (fun hg => (run_load1 rfl one3 ((hF.ev rfl).trans (gv_t hg)) ((S.free 4 rfl).cell rfl))) ?_; clear hF; intro a hF
          refine op_gv (v := .bool (x7 == x2)) rfl rfl hF rfl (yt (gw_yield hF rfl rfl rfl)) (fun hg => (run_eql ((hF.ev rfl).trans (gv_t hg)) ((hF.ev rfl).trans (gv_t hg)) rfl)) ?_; clear hF; intro a hF
          refine op_val (v := .bool ((((x5 == 1) && (leB 0 x1)) && (x6 == x1)) && (x7 == x2))) rfl rfl hF rfl (run_pick_and rfl (hF.ev rfl) (fun hp => ((hF.ev rfl).trans (gv_t hp))) rfl) ?_; clear hF; intro a hF
          refine op_val (v := .bool ((((x5 == 1) && (leB 0 x1)) && (x6 == x1)) && (x7 == x2))) rfl rfl hF rfl (run_move rfl (hF.ev rfl)) ?_; clear hF; intro a hF
          refine op_gv (v := .pointer (some ⟨g102, 3, none⟩)) rfl rfl hF rfl (yt (gw_yield hF rfl rfl rfl)) (fun hg => (run_fieldAddr rfl fl32_3 (hF.ev rfl) rfl)) ?_; clear hF; intro a hF
          refine op_gv (v := .bool x8) rfl rfl hF rfl (yt (gw_yield hF rfl rfl rfl)) (fun hg => (run_load1 rfl one4 ((hF.ev rfl).trans (gv_t hg)) ((S.free 3 rfl).cell rfl))) ?_; clear hF; intro a hF
          refine op_gv (v := .pointer (some ⟨g101, 3, none⟩)) rfl rfl hF rfl (yt (gw_yield hF rfl rfl rfl)) (fun hg => (run_fieldAddr rfl fl28_3 (hF.ev rfl) rfl)) ?_; clear hF; intro a hF
          refine op_gv (v := .bool x3) rfl rfl hF rfl (yt (gw_yield hF rfl rfl rfl)) (fun hg => (run_load1 rfl one4 ((hF.ev rfl).trans (gv_t hg)) ((S.free 4 rfl).cell rfl))) ?_; clear hF; intro a hF
          refine op_gv (v := .bool (x8 == x3)) rfl rfl hF rfl (yt (gw_yield hF rfl rfl rfl)) (fun hg => (run_eqlB ((hF.ev rfl).trans (gv_t hg)) ((hF.ev rfl).trans (gv_t hg)) Try.underlying4 rfl)) ?_; clear hF; intro a hF
          refine op_val (v := .bool (((((x5 == 1) && (leB 0 x1)) && (x6 == x1)) && (x7 == x2)) && (x8 == x3))) rfl rfl hF rfl (run_pick_and rfl (hF.ev rfl) (fun hp => ((hF.ev rfl).trans (gv_t hp))) rfl) ?_; clear hF; intro a hF
          refine op_val (v := .bool (((((x5 == 1) && (leB 0 x1)) && (x6 == x1)) && (x7 == x2)) && (x8 == x3))) rfl rfl hF rfl (run_assign rfl (hF.ev rfl)) ?_; clear hF; intro a hF
          refine wpList_nil ?_
          obtain ⟨o121, hM124, hM118⟩ := bind_ex hM118
          refine wp_cut (fun a u => ∃ (p120 : List Bool × Int × Int × Bool × Int) (B122 : Option Addr) (d123 : Nat), (Sum.inl p120) = o121 ∧ Fr a 135 [(4, .pointer (some ⟨g103, 0, none⟩)), (5, .bool false), (6, .pointer (some ⟨g110, 0, none⟩))] ∧ St w u [.box g110 28 #[.slice B122 p120.1.length d123, .int .i64 p120.2.1, .int .i64 p120.2.2.1, .bool p120.2.2.2.1, .int .i64 p120.2.2.2.2], .box g103 28 #[.slice none 0 0, .int .i64 0, .int .i64 0, .bool false, .int .i64 0], .box g102 32 #[.int .i64 x5, .int .i64 x6, .int .i64 x7, .bool x8], .box g101 28 #[.slice A0 x0.length c0, .int .i64 x1, .int .i64 x2, .bool x3, .int .i64 x4], .row 4 1 (.slice B122 p120.1.length d123) p120.1.length (p120.1.flatMap eB)]) ?_ ?_
          · have _ := trivial
            cases hc125 : (((((x5 == 1) && (leB 0 x1)) && (x6 == x1)) && (x7 == x2)) && (x8 == x3))
            · replace hM124 := bif_f hc125 hM124
              refine cond_f hF rfl hc125 ?_
              refine wp_seq ?_
              refine wp_region_lit ?_
              refine op_val (v := .pointer (some ⟨g102, 0, none⟩)) rfl rfl hF rfl (run_fieldAddr rfl fl32_0 (hF.ev rfl) rfl) ?_; clear hF; intro a hF
              refine op_val (v := .int .i64 x5) rfl rfl hF rfl (run_load1 rfl one3 (hF.ev rfl) ((S.free 3 rfl).cell rfl)) ?_; clear hF; intro a hF
              refine op_val (v := .bool (x5 == 2)) rfl rfl hF rfl (run_eql (hF.ev rfl) rfl rfl) ?_; clear hF; intro a hF
              refine op_val (v := .bool (x5 == 2)) rfl rfl hF rfl (run_move rfl (hF.ev rfl)) ?_; clear hF; intro a hF
              refine op_gv (v := .pointer (some ⟨g101, 1, none⟩)) rfl rfl hF rfl (yt (gw_yield hF rfl rfl rfl)) (fun hg => (run_fieldAddr rfl fl28_1 (hF.ev rfl) rfl)) ?_; clear hF; intro a hF
              refine op_gv (v := .int .i64 x1) rfl rfl hF rfl (yt (gw_yield hF rfl rfl rfl)) (fun hg => (run_load1 rfl one3 ((hF.ev rfl).trans (gv_t hg)) ((S.free 4 rfl).cell rfl))) ?_; clear hF; intro a hF
              refine op_gv (v := .bool (leB 0 x1)) rfl rfl hF rfl (yt (gw_yield hF rfl rfl rfl)) (fun hg => (run_geq ((hF.ev rfl).trans (gv_t hg)) rfl rfl)) ?_; clear hF; intro a hF
              refine op_val (v := .bool ((x5 == 2) && (leB 0 x1))) rfl rfl hF rfl (run_pick_and rfl (hF.ev rfl) (fun hp => ((hF.ev rfl).trans (gv_t hp))) rfl) ?_; clear hF; intro a hF
              refine op_val (v := .bool ((x5 == 2) && (leB 0 x1))) rfl rfl hF rfl (run_move rfl (hF.ev rfl)) ?_; clear hF; intro a hF
              refine op_gv (v := .pointer (some ⟨g102, 1, none⟩)) rfl rfl hF rfl (yt (gw_yield hF rfl rfl rfl)) (fun hg => (run_fieldAddr rfl fl32_1 (hF.ev rfl) rfl)) ?_; clear hF; intro a hF
              refine op_gv (v := .int .i64 x6) rfl rfl hF rfl (yt (gw_yield hF rfl rfl rfl)) (fun hg => (run_load1 rfl one3 ((hF.ev rfl).trans (gv_t hg)) ((S.free 3 rfl).cell rfl))) ?_; clear hF; intro a hF
              refine op_gv (v := .pointer (some ⟨g101, 1, none⟩)) rfl rfl hF rfl (yt (gw_yield hF rfl rfl rfl)) (fun hg => (run_fieldAddr rfl fl28_1 (hF.ev rfl) rfl)) ?_; clear hF; intro a hF
              refine op_gv (v := .int .i64 x1) rfl rfl hF rfl (yt (gw_yield hF rfl rfl rfl)) (fun hg => (run_load1 rfl one3 ((hF.ev rfl).trans (gv_t hg)) ((S.free 4 rfl).cell rfl))) ?_; clear hF; intro a hF
              refine op_gv (v := .bool (x6 == x1)) rfl rfl hF rfl (yt (gw_yield hF rfl rfl rfl)) (fun hg => (run_eql ((hF.ev rfl).trans (gv_t hg)) ((hF.ev rfl).trans (gv_t hg)) rfl)) ?_; clear hF; intro a hF
              refine op_val (v := .bool (((x5 == 2) && (leB 0 x1)) && (x6 == x1))) rfl rfl hF rfl (run_pick_and rfl (hF.ev rfl) (fun hp => ((hF.ev rfl).trans (gv_t hp))) rfl) ?_; clear hF; intro a hF
              refine op_val (v := .bool (((x5 == 2) && (leB 0 x1)) && (x6 == x1))) rfl rfl hF rfl (run_assign rfl (hF.ev rfl)) ?_; clear hF; intro a hF
              refine wpList_nil ?_
              obtain ⟨o127, hM130, hM124⟩ := bind_ex hM124
              refine wp_cut (fun a u => ∃ (p126 : List Bool × Int × Int × Bool × Int) (B128 : Option Addr) (d129 : Nat), (Sum.inl p126) = o127 ∧ Fr a 135 [(4, .pointer (some ⟨g103, 0, none⟩)), (5, .bool false), (6, .pointer (some ⟨g110, 0, none⟩))] ∧ St w u [.box g110 28 #[.slice B128 p126.1.length d129, .int .i64 p126.2.1, .int .i64 p126.2.2.1, .bool p126.2.2.2.1, .int .i64 p126.2.2.2.2], .box g103 28 #[.slice none 0 0, .int .i64 0, .int .i64 0, .bool false, .int .i64 0], .box g102 32 #[.int .i64 x5, .int .i64 x6, .int .i64 x7, .bool x8], .box g101 28 #[.slice A0 x0.length c0, .int .i64 x1, .int .i64 x2, .bool x3, .int .i64 x4], .row 4 1 (.slice B128 p126.1.length d129) p126.1.length (p126.1.flatMap eB)]) ?_ ?_
              · have _ := trivial
                cases hc131 : (((x5 == 2) && (leB 0 x1)) && (x6 == x1))
                · replace hM130 := bif_f hc131 hM130
                  refine cond_f hF rfl hc131 ?_
                  refine wp_seq ?_
                  refine wp_region_lit ?_
                  refine op_val (v := .pointer (some ⟨g102, 0, none⟩)) rfl rfl hF rfl (run_fieldAddr rfl fl32_0 (hF.ev rfl) rfl) ?_; clear hF; intro a hF
                  refine op_val (v := .int .i64 x5) rfl rfl hF rfl (run_load1 rfl one3 (hF.ev rfl) ((S.free 3 rfl).cell rfl)) ?_; clear hF; intro a hF
                  refine op_val (v := .bool (x5 == 3)) rfl rfl hF rfl (run_eql (hF.ev rfl) rfl rfl) ?_; clear hF; intro a hF
                  refine op_val (v := .bool (x5 == 3)) rfl rfl hF rfl (run_move rfl (hF.ev rfl)) ?_; clear hF; intro a hF
                  refine op_gv (v := .pointer (some ⟨g101, 4, none⟩)) rfl rfl hF rfl (yt (gw_yield hF rfl rfl rfl)) (fun hg => (run_fieldAddr rfl fl28_4 (hF.ev rfl) rfl)) ?_; clear hF; intro a hF
                  refine op_gv (v := .int .i64 x4) rfl rfl hF rfl (yt (gw_yield hF rfl rfl rfl)) (fun hg => (run_load1 rfl one3 ((hF.ev rfl).trans (gv_t hg)) ((S.free 4 rfl).cell rfl))) ?_; clear hF; intro a hF
                  refine op_gv (v := .bool (ltB 1 x4)) rfl rfl hF rfl (yt (gw_yield hF rfl rfl rfl)) (fun hg => (run_gtr ((hF.ev rfl).trans (gv_t hg)) rfl rfl)) ?_; clear hF; intro a hF
                  refine op_val (v := .bool ((x5 == 3) && (ltB 1 x4))) rfl rfl hF rfl (run_pick_and rfl (hF.ev rfl) (fun hp => ((hF.ev rfl).trans (gv_t hp))) rfl) ?_; clear hF; intro a hF
                  refine op_val (v := .bool ((x5 == 3) && (ltB 1 x4))) rfl rfl hF rfl (run_assign rfl (hF.ev rfl)) ?_; clear hF; intro a hF
                  refine wpList_nil ?_
                  obtain ⟨o133, hM136, hM130⟩ := bind_ex hM130
                  refine wp_cut (fun a u => ∃ (p132 : List Bool × Int × Int × Bool × Int) (B134 : Option Addr) (d135 : Nat), (Sum.inl p132) = o133 ∧ Fr a 135 [(4, .pointer (some ⟨g103, 0, none⟩)), (5, .bool false), (6, .pointer (some ⟨g110, 0, none⟩))] ∧ St w u [.box g110 28 #[.slice B134 p132.1.length d135, .int .i64 p132.2.1, .int .i64 p132.2.2.1, .bool p132.2.2.2.1, .int .i64 p132.2.2.2.2], .box g103 28 #[.slice none 0 0, .int .i64 0, .int .i64 0, .bool false, .int .i64 0], .box g102 32 #[.int .i64 x5, .int .i64 x6, .int .i64 x7, .bool x8], .box g101 28 #[.slice A0 x0.length c0, .int .i64 x1, .int .i64 x2, .bool x3, .int .i64 x4], .row 4 1 (.slice B134 p132.1.length d135) p132.1.length (p132.1.flatMap eB)]) ?_ ?_
                  · have _ := trivial
                    cases hc137 : ((x5 == 3) && (ltB 1 x4))
                    · replace hM136 := bif_f hc137 hM136
                      refine cond_f hF rfl hc137 ?_
                      refine wp_seq ?_
                      refine wp_region_lit ?_
                      refine op_val (v := .pointer (some ⟨g102, 0, none⟩)) rfl rfl hF rfl (run_fieldAddr rfl fl32_0 (hF.ev rfl) rfl) ?_; clear hF; intro a hF
                      refine op_val (v := .int .i64 x5) rfl rfl hF rfl (run_load1 rfl one3 (hF.ev rfl) ((S.free 3 rfl).cell rfl)) ?_; clear hF; intro a hF
                      refine op_val (v := .bool (x5 == 3)) rfl rfl hF rfl (run_eql (hF.ev rfl) rfl rfl) ?_; clear hF; intro a hF
                      refine op_val (v := .bool (x5 == 3)) rfl rfl hF rfl (run_assign rfl (hF.ev rfl)) ?_; clear hF; intro a hF
                      refine wpList_nil ?_
                      cases hc138 : (x5 == 3)
                      · replace hM136 := bif_f hc138 hM136
                        refine cond_f hF rfl hc138 ?_
                        refine wp_seq ?_
                        refine wp_region_lit ?_
                        refine op_val (v := .agg #[.slice B107 p106.1.length d109, .int .i64 p106.2.1, .int .i64 p106.2.2.1, .bool p106.2.2.2.1, .int .i64 p106.2.2.2.2]) rfl rfl hF rfl (run_loadN rfl ag28 (hF.ev rfl) rfl ((S.free 0 rfl).cells 0 #[.slice B107 p106.1.length d109, .int .i64 p106.2.1, .int .i64 p106.2.2.1, .bool p106.2.2.2.1, .int .i64 p106.2.2.2.2] rfl)) ?_; clear hF; intro a hF
                        refine op_do rfl rfl (run_store (cs' := #[.slice B107 p106.1.length d109, .int .i64 p106.2.1, .int .i64 p106.2.2.1, .bool p106.2.2.2.1, .int .i64 p106.2.2.2.2]) rfl sz28 (hF.ev rfl) (hF.ev rfl) rfl rfl rfl (S.free 2 rfl) rfl rfl) ?_; replace S := S.put 2 rfl (#[.slice B107 p106.1.length d109, .int .i64 p106.2.1, .int .i64 p106.2.2.1, .bool p106.2.2.2.1, .int .i64 p106.2.2.2.2])
                        generalize World.setRow _ _ _ = u at S ⊢
                        refine op_val (v := .bool false) rfl rfl hF rfl (run_assign rfl rfl) ?_; clear hF; intro a hF
                        refine wpList_nil ?_
                        refine wp_ret ?_
                        repeat with_reducible (first | refine then_ret ?_ | refine in_ret ?_ | refine in_nrm ?_)
                        refine ret2_gw (.inl rfl) hF rfl (res_cell (hF.ev rfl) (res_loadN ag28 rfl (S.cells 2 rfl 0 #[.slice B107 p106.1.length d109, .int .i64 p106.2.1, .int .i64 p106.2.2.1, .bool p106.2.2.2.1, .int .i64 p106.2.2.2.2] rfl))) (res_tmp (hF.ev rfl)) ?_
                        obtain rfl := Option.some.inj hM136
                        obtain rfl := Option.some.inj hM130
                        obtain rfl := Option.some.inj hM124
                        obtain rfl := Option.some.inj hM118
                        obtain rfl := Option.some.inj hM
                        exact ⟨B107, p106.1.length, d109, rfl, rfl, S.sel [1] rfl rfl⟩
                      · replace hM136 := bif_t hc138 hM136
                        refine cond_t hF rfl hc138 ?_
                        refine wp_region_lit ?_
                        refine op_val (v := .agg #[.slice A0 x0.length c0, .int .i64 x1, .int .i64 x2, .bool x3, .int .i64 x4]) rfl rfl hF rfl (run_loadN rfl ag28 (hF.ev rfl) rfl ((S.free 4 rfl).cells 0 #[.slice A0 x0.length c0, .int .i64 x1, .int .i64 x2, .bool x3, .int .i64 x4] rfl)) ?_; clear hF; intro a hF
                        obtain ⟨p139, h139, hM136⟩ := bind_ex hM136
                        refine op_call rfl rfl hF rfl (run_call (vs := [.agg #[.slice A0 x0.length c0, .int .i64 x1, .int .i64 x2, .bool x3, .int .i64 x4]]) rfl rfl co32 ⟨(hF.ev rfl), trivial⟩) (c_spec_l29Clear (x0 := x0) (x1 := x1) (x2 := x2) (x3 := x3) (x4 := x4) ⟨(S.rc0 h0.rc), rfl⟩ h139) ?_
                        rintro e u ⟨B140, n141, d142, rfl, rfl, T⟩
                        refine ⟨_, rfl, ?_⟩
                        clear hF; intro a hF
                        replace S := S.call1 T; clear T
                        refine op_do rfl rfl (run_store (cs' := #[.slice B140 p139.1.length d142, .int .i64 p139.2.1, .int .i64 p139.2.2.1, .bool p139.2.2.2.1, .int .i64 p139.2.2.2.2]) rfl sz28 (hF.ev rfl) (hF.ev rfl) rfl rfl rfl (S.free 1 rfl) rfl rfl) ?_; replace S := S.put 1 rfl (#[.slice B140 p139.1.length d142, .int .i64 p139.2.1, .int .i64 p139.2.2.1, .bool p139.2.2.2.1, .int .i64 p139.2.2.2.2])
                        generalize World.setRow _ _ _ = u at S ⊢
                        refine wpList_nil ?_
                        obtain rfl := Option.some.inj hM136
                        exact ⟨(p139.1, p139.2.1, p139.2.2.1, p139.2.2.2.1, p139.2.2.2.2), B140, d142, rfl, hF.keep _ ⟨rfl, rfl, rfl, trivial⟩, S.sel [1, 3, 4, 5, 0] rfl rfl⟩
                    · replace hM136 := bif_t hc137 hM136
                      refine cond_t hF rfl hc137 ?_
                      refine wp_region_lit ?_
                      refine op_val (v := .pointer (some ⟨g101, 4, none⟩)) rfl rfl hF rfl (run_fieldAddr rfl fl28_4 (hF.ev rfl) rfl) ?_; clear hF; intro a hF
                      refine op_val (v := .int .i64 x4) rfl rfl hF rfl (run_load1 rfl one3 (hF.ev rfl) ((S.free 4 rfl).cell rfl)) ?_; clear hF; intro a hF
                      refine op_val (v := .int .i64 (w64 (x4 - 1))) rfl rfl hF rfl (run_sub (z := w64 (x4 - 1)) (hF.ev rfl) rfl rfl rfl) ?_; clear hF; intro a hF
                      refine op_val (v := .pointer (some ⟨g110, 4, none⟩)) rfl rfl hF rfl (run_fieldAddr rfl fl28_4 (hF.ev rfl) rfl) ?_; clear hF; intro a hF
                      refine op_do rfl rfl (run_store (cs' := #[.slice B107 p106.1.length d109, .int .i64 p106.2.1, .int .i64 p106.2.2.1, .bool p106.2.2.2.1, .int .i64 (w64 (x4 - 1))]) rfl sz3 (hF.ev rfl) (hF.ev rfl) rfl rfl rfl (S.free 0 rfl) rfl rfl) ?_; replace S := S.put 0 rfl (#[.slice B107 p106.1.length d109, .int .i64 p106.2.1, .int .i64 p106.2.2.1, .bool p106.2.2.2.1, .int .i64 (w64 (x4 - 1))])
                      generalize World.setRow _ _ _ = u at S ⊢
                      refine wpList_nil ?_
                      obtain rfl := Option.some.inj hM136
                      exact ⟨(p106.1, p106.2.1, p106.2.2.1, p106.2.2.2.1, w64 (x4 - 1)), B107, d109, rfl, hF.keep _ ⟨rfl, rfl, rfl, trivial⟩, S.sel [0, 2, 3, 4, 1] rfl rfl⟩
                  · rintro a u ⟨p132, B134, d135, rfl, hF, S⟩
                    replace hM130 := elim_l hM130
                    obtain rfl := Option.some.inj hM130
                    exact ⟨(p132.1, p132.2.1, p132.2.2.1, p132.2.2.2.1, p132.2.2.2.2), B134, d135, rfl, hF.keep _ ⟨rfl, rfl, rfl, trivial⟩, S.sel [0, 1, 2, 3, 4] rfl rfl⟩
                · replace hM130 := bif_t hc131 hM130
                  refine cond_t hF rfl hc131 ?_
                  refine wp_region_lit ?_
                  refine op_val (v := .agg #[.slice A0 x0.length c0, .int .i64 x1, .int .i64 x2, .bool x3, .int .i64 x4]) rfl rfl hF rfl (run_loadN rfl ag28 (hF.ev rfl) rfl ((S.free 4 rfl).cells 0 #[.slice A0 x0.length c0, .int .i64 x1, .int .i64 x2, .bool x3, .int .i64 x4] rfl)) ?_; clear hF; intro a hF
                  obtain ⟨p143, h143, hM130⟩ := bind_ex hM130
                  refine op_call rfl rfl hF rfl (run_call (vs := [.agg #[.slice A0 x0.length c0, .int .i64 x1, .int .i64 x2, .bool x3, .int .i64 x4]]) rfl rfl co32 ⟨(hF.ev rfl), trivial⟩) (c_spec_l29Clear (x0 := x0) (x1 := x1) (x2 := x2) (x3 := x3) (x4 := x4) ⟨(S.rc0 h0.rc), rfl⟩ h143) ?_
                  rintro e u ⟨B144, n145, d146, rfl, rfl, T⟩
                  refine ⟨_, rfl, ?_⟩
                  clear hF; intro a hF
                  replace S := S.call1 T; clear T
                  refine op_do rfl rfl (run_store (cs' := #[.slice B144 p143.1.length d146, .int .i64 p143.2.1, .int .i64 p143.2.2.1, .bool p143.2.2.2.1, .int .i64 p143.2.2.2.2]) rfl sz28 (hF.ev rfl) (hF.ev rfl) rfl rfl rfl (S.free 1 rfl) rfl rfl) ?_; replace S := S.put 1 rfl (#[.slice B144 p143.1.length d146, .int .i64 p143.2.1, .int .i64 p143.2.2.1, .bool p143.2.2.2.1, .int .i64 p143.2.2.2.2])
                  generalize World.setRow _ _ _ = u at S ⊢
                  refine wpList_nil ?_
                  obtain rfl := Option.some.inj hM130
                  exact ⟨(p143.1, p143.2.1, p143.2.2.1, p143.2.2.2.1, p143.2.2.2.2), B144, d146, rfl, hF.keep _ ⟨rfl, rfl, rfl, trivial⟩, S.sel [1, 3, 4, 5, 0] rfl rfl⟩
              · rintro a u ⟨p126, B128, d129, rfl, hF, S⟩
                replace hM124 := elim_l hM124
                obtain rfl := Option.some.inj hM124
                exact ⟨(p126.1, p126.2.1, p126.2.2.1, p126.2.2.2.1, p126.2.2.2.2), B128, d129, rfl, hF.keep _ ⟨rfl, rfl, rfl, trivial⟩, S.sel [0, 1, 2, 3, 4] rfl rfl⟩
            · replace hM124 := bif_t hc125 hM124
              refine cond_t hF rfl hc125 ?_
              refine wp_seq ?_
              refine wp_region_lit ?_
              refine op_val (v := .agg #[.slice A0 x0.length c0, .int .i64 x1, .int .i64 x2, .bool x3, .int .i64 x4]) rfl rfl hF rfl (run_loadN rfl ag28 (hF.ev rfl) rfl ((S.free 4 rfl).cells 0 #[.slice A0 x0.length c0, .int .i64 x1, .int .i64 x2, .bool x3, .int .i64 x4] rfl)) ?_; clear hF; intro a hF
              obtain ⟨p147, h147, hM124⟩ := bind_ex hM124
              refine op_call rfl rfl hF rfl (run_call (vs := [.agg #[.slice A0 x0.length c0, .int .i64 x1, .int .i64 x2, .bool x3, .int .i64 x4]]) rfl rfl co32 ⟨(hF.ev rfl), trivial⟩) (c_spec_l29Clear (x0 := x0) (x1 := x1) (x2 := x2) (x3 := x3) (x4 := x4) ⟨(S.rc0 h0.rc), rfl⟩ h147) ?_
              rintro e u ⟨B148, n149, d150, rfl, rfl, T⟩
              refine ⟨_, rfl, ?_⟩
              clear hF; intro a hF
              replace S := S.call1 T; clear T
              refine op_do rfl rfl (run_store (cs' := #[.slice B148 p147.1.length d150, .int .i64 p147.2.1, .int .i64 p147.2.2.1, .bool p147.2.2.2.1, .int .i64 p147.2.2.2.2]) rfl sz28 (hF.ev rfl) (hF.ev rfl) rfl rfl rfl (S.free 1 rfl) rfl rfl) ?_; replace S := S.put 1 rfl (#[.slice B148 p147.1.length d150, .int .i64 p147.2.1, .int .i64 p147.2.2.1, .bool p147.2.2.2.1, .int .i64 p147.2.2.2.2])
              generalize World.setRow _ _ _ = u at S ⊢
              refine wpList_nil ?_
              refine wp_region_lit ?_
              refine op_val (v := .pointer (some ⟨g110, 0, none⟩)) rfl rfl hF rfl (run_fieldAddr rfl fl28_0 (hF.ev rfl) rfl) ?_; clear hF; intro a hF
              refine op_val (v := .slice B148 p147.1.length d150) rfl rfl hF rfl (run_load1 rfl one22 (hF.ev rfl) ((S.free 1 rfl).cell rfl)) ?_; clear hF; intro a hF
              refine op_val (v := .pointer (some ⟨g101, 2, none⟩)) rfl rfl hF rfl (run_fieldAddr rfl fl28_2 (hF.ev rfl) rfl) ?_; clear hF; intro a hF
              refine op_val (v := .int .i64 x2) rfl rfl hF rfl (run_load1 rfl one3 (hF.ev rfl) ((S.free 5 rfl).cell rfl)) ?_; clear hF; intro a hF
              refine op_val (v := .pointer (some ⟨g101, 3, none⟩)) rfl rfl hF rfl (run_fieldAddr rfl fl28_3 (hF.ev rfl) rfl) ?_; clear hF; intro a hF
              refine op_val (v := .bool x3) rfl rfl hF rfl (run_load1 rfl one4 (hF.ev rfl) ((S.free 5 rfl).cell rfl)) ?_; clear hF; intro a hF
              obtain ⟨hk151, hM124⟩ := chk_ex hM124
              replace hk151 := ixB_t hk151
              refine op_val (v := .pointer (some ⟨adB B148, adO B148 + x2.toNat * 1, none⟩)) rfl rfl hF rfl (run_indexAddr (b := adB B148) (off := adO B148) rfl Try.underlying22 sz4 ((hF.ev rfl).trans (congrArg (fun A => Value.slice A p147.1.length d150) ((S.rc 0 rfl).rd.ad (ix_pos hk151)))) (hF.ev rfl) hk151.1 hk151.2 (k' := adO B148 + x2.toNat * 1) rfl) ?_; clear hF; intro a hF
              obtain ⟨w', hrun, S'⟩ := run_storeElN (P := Try.prog) (ρ := a.eval) (y0 := x3) (off := 0) S 4 (.tmp 96) (.tmp 95) (i := 0) sz4 (hF.ev rfl) (hF.ev rfl) rfl rfl rfl rfl rfl eB_len false (ix_ltn hk151 rfl) rfl rfl
              refine op_do rfl rfl (hrun _ rfl) ?_; clear hrun S; have S := S'; clear S'; generalize w' = u at S ⊢
              refine wpList_nil ?_
              obtain rfl := Option.some.inj hM124
              rw [show p147.1.length = (p147.1.set x2.toNat x3).length from (len_set rfl)] at hF S
              exact ⟨(p147.1.set x2.toNat x3, p147.2.1, p147.2.2.1, p147.2.2.2.1, p147.2.2.2.2), B148, d150, rfl, hF.keep _ ⟨rfl, rfl, rfl, trivial⟩, S.sel [1, 3, 4, 5, 0] rfl rfl⟩
          · rintro a u ⟨p120, B122, d123, rfl, hF, S⟩
            replace hM118 := elim_l hM118
            obtain rfl := Option.some.inj hM118
            exact ⟨(p120.1, p120.2.1, p120.2.2.1, p120.2.2.2.1, p120.2.2.2.2), B122, d123, rfl, hF.keep _ ⟨rfl, rfl, rfl, trivial⟩, S.sel [0, 1, 2, 3, 4] rfl rfl⟩
        · replace hM118 := bif_t hc119 hM118
          refine cond_t hF rfl hc119 ?_
          refine wp_seq ?_
          refine wp_region_lit ?_
          refine op_val (v := .pointer (some ⟨g102, 1, none⟩)) rfl rfl hF rfl (run_fieldAddr rfl fl32_1 (hF.ev rfl) rfl) ?_; clear hF; intro a hF
          refine op_val (v := .int .i64 x6) rfl rfl hF rfl (run_load1 rfl one3 (hF.ev rfl) ((S.free 3 rfl).cell rfl)) ?_; clear hF; intro a hF
          refine op_val (v := .pointer (some ⟨g110, 1, none⟩)) rfl rfl hF rfl (run_fieldAddr rfl fl28_1 (hF.ev rfl) rfl) ?_; clear hF; intro a hF
          refine op_do rfl rfl (run_store (cs' := #[.slice B107 p106.1.length d109, .int .i64 x6, .int .i64 p106.2.2.1, .bool p106.2.2.2.1, .int .i64 p106.2.2.2.2]) rfl sz3 (hF.ev rfl) (hF.ev rfl) rfl rfl rfl (S.free 0 rfl) rfl rfl) ?_; replace S := S.put 0 rfl (#[.slice B107 p106.1.length d109, .int .i64 x6, .int .i64 p106.2.2.1, .bool p106.2.2.2.1, .int .i64 p106.2.2.2.2])
          generalize World.setRow _ _ _ = u at S ⊢
          refine wpList_nil ?_
          refine wp_seq ?_
          refine wp_region_lit ?_
          refine op_val (v := .pointer (some ⟨g102, 2, none⟩)) rfl rfl hF rfl (run_fieldAddr rfl fl32_2 (hF.ev rfl) rfl) ?_; clear hF; intro a hF
          refine op_val (v := .int .i64 x7) rfl rfl hF rfl (run_load1 rfl one3 (hF.ev rfl) ((S.free 3 rfl).cell rfl)) ?_; clear hF; intro a hF
          refine op_val (v := .pointer (some ⟨g110, 2, none⟩)) rfl rfl hF rfl (run_fieldAddr rfl fl28_2 (hF.ev rfl) rfl) ?_; clear hF; intro a hF
          refine op_do rfl rfl (run_store (cs' := #[.slice B107 p106.1.length d109, .int .i64 x6, .int .i64 x7, .bool p106.2.2.2.1, .int .i64 p106.2.2.2.2]) rfl sz3 (hF.ev rfl) (hF.ev rfl) rfl rfl rfl (S.free 0 rfl) rfl rfl) ?_; replace S := S.put 0 rfl (#[.slice B107 p106.1.length d109, .int .i64 x6, .int .i64 x7, .bool p106.2.2.2.1, .int .i64 p106.2.2.2.2])
          generalize World.setRow _ _ _ = u at S ⊢
          refine wpList_nil ?_
          refine wp_seq ?_
          refine wp_region_lit ?_
          refine op_val (v := .pointer (some ⟨g102, 3, none⟩)) rfl rfl hF rfl (run_fieldAddr rfl fl32_3 (hF.ev rfl) rfl) ?_; clear hF; intro a hF
          refine op_val (v := .bool x8) rfl rfl hF rfl (run_load1 rfl one4 (hF.ev rfl) ((S.free 3 rfl).cell rfl)) ?_; clear hF; intro a hF
          refine op_val (v := .pointer (some ⟨g110, 3, none⟩)) rfl rfl hF rfl (run_fieldAddr rfl fl28_3 (hF.ev rfl) rfl) ?_; clear hF; intro a hF
          refine op_do rfl rfl (run_store (cs' := #[.slice B107 p106.1.length d109, .int .i64 x6, .int .i64 x7, .bool x8, .int .i64 p106.2.2.2.2]) rfl sz4 (hF.ev rfl) (hF.ev rfl) rfl rfl rfl (S.free 0 rfl) rfl rfl) ?_; replace S := S.put 0 rfl (#[.slice B107 p106.1.length d109, .int .i64 x6, .int .i64 x7, .bool x8, .int .i64 p106.2.2.2.2])
          generalize World.setRow _ _ _ = u at S ⊢
          refine wpList_nil ?_
          refine wp_region_lit ?_
          refine op_val (v := .pointer (some ⟨g110, 4, none⟩)) rfl rfl hF rfl (run_fieldAddr rfl fl28_4 (hF.ev rfl) rfl) ?_; clear hF; intro a hF
          refine op_do rfl rfl (run_store (cs' := #[.slice B107 p106.1.length d109, .int .i64 x6, .int .i64 x7, .bool x8, .int .i64 3]) rfl sz3 (hF.ev rfl) rfl rfl rfl rfl (S.free 0 rfl) rfl rfl) ?_; replace S := S.put 0 rfl (#[.slice B107 p106.1.length d109, .int .i64 x6, .int .i64 x7, .bool x8, .int .i64 3])
          generalize World.setRow _ _ _ = u at S ⊢
          refine wpList_nil ?_
          obtain rfl := Option.some.inj hM118
          exact ⟨(p106.1, x6, x7, x8, 3), B107, d109, rfl, hF.keep _ ⟨rfl, rfl, rfl, trivial⟩, S.sel [0, 2, 3, 4, 1] rfl rfl⟩
      · rintro a u ⟨p114, B116, d117, rfl, hF, S⟩
        replace hM := elim_l hM
        refine wp_seq ?_
        refine wp_region_lit ?_
        refine op_val (v := .agg #[.slice B116 p114.1.length d117, .int .i64 p114.2.1, .int .i64 p114.2.2.1, .bool p114.2.2.2.1, .int .i64 p114.2.2.2.2]) rfl rfl hF rfl (run_loadN rfl ag28 (hF.ev rfl) rfl ((S.free 0 rfl).cells 0 #[.slice B116 p114.1.length d117, .int .i64 p114.2.1, .int .i64 p114.2.2.1, .bool p114.2.2.2.1, .int .i64 p114.2.2.2.2] rfl)) ?_; clear hF; intro a hF
        refine op_do rfl rfl (run_store (cs' := #[.slice B116 p114.1.length d117, .int .i64 p114.2.1, .int .i64 p114.2.2.1, .bool p114.2.2.2.1, .int .i64 p114.2.2.2.2]) rfl sz28 (hF.ev rfl) (hF.ev rfl) rfl rfl rfl (S.free 1 rfl) rfl rfl) ?_; replace S := S.put 1 rfl (#[.slice B116 p114.1.length d117, .int .i64 p114.2.1, .int .i64 p114.2.2.1, .bool p114.2.2.2.1, .int .i64 p114.2.2.2.2])
        generalize World.setRow _ _ _ = u at S ⊢
        refine op_val (v := .bool true) rfl rfl hF rfl (run_assign rfl rfl) ?_; clear hF; intro a hF
        refine wpList_nil ?_
        refine wp_ret ?_
        repeat with_reducible (first | refine then_ret ?_ | refine in_ret ?_ | refine in_nrm ?_)
        refine ret2_gw (.inl rfl) hF rfl (res_cell (hF.ev rfl) (res_loadN ag28 rfl (S.cells 1 rfl 0 #[.slice B116 p114.1.length d117, .int .i64 p114.2.1, .int .i64 p114.2.2.1, .bool p114.2.2.2.1, .int .i64 p114.2.2.2.2] rfl))) (res_tmp (hF.ev rfl)) ?_
        obtain rfl := Option.some.inj hM
        exact ⟨B116, p114.1.length, d117, rfl, rfl, S.sel [4] rfl rfl⟩

set_option maxHeartbeats 4000000 in
theorem c_impl_PanelValid {x0 : List Bool} {x1 : Int} {x2 : Int} {x3 : Bool} {x4 : Int} {A0 : Option Addr} {n0 c0 : Nat} {w : World} {r : Bool} (h0 : Rt w 1 eB A0 n0 c0 x0) (hM : m_impl_PanelValid x0 x1 x2 x3 x4 = some r) :
    Calls Try.prog 34 #[.agg #[.slice A0 n0 c0, .int .i64 x1, .int .i64 x2, .bool x3, .int .i64 x4]] w (fun e w' => e = .returned (.bool r) ∧ St w w' []) := by
  obtain rfl := h0.len
  unfold m_impl_PanelValid at hM
  refine calls_gw Try.func34 Try.ntmps34 rfl [(0, .agg #[.slice A0 x0.length c0, .int .i64 x1, .int .i64 x2, .bool x3, .int .i64 x4])] ⟨rfl, trivial⟩ rfl ?_
  intro a hF
  have S := St.nil w
  refine wp_seq ?_
  refine wp_region_lit ?_
  refine op_new (cs := #[.slice A0 x0.length c0, .int .i64 x1, .int .i64 x2, .bool x3, .int .i64 x4]) rfl rfl hF rfl S (run_box rfl (hF.ev rfl) rfl) ?_; clear hF S; intro a g101 u hF S
  refine op_val (v := .bool false) rfl rfl hF rfl (run_assign rfl rfl) ?_; clear hF; intro a hF
  refine wpList_nil ?_
  refine wp_seq ?_
  refine wp_seq ?_
  refine wp_region_lit ?_
  refine op_val (v := .pointer (some ⟨g101, 0, none⟩)) rfl rfl hF rfl (run_fieldAddr rfl fl28_0 (hF.ev rfl) rfl) ?_; clear hF; intro a hF
  refine op_val (v := .slice A0 x0.length c0) rfl rfl hF rfl (run_load1 rfl one22 (hF.ev rfl) ((S.free 0 rfl).cell rfl)) ?_; clear hF; intro a hF
  refine op_val (v := .int .i64 (x0.length : Int)) rfl rfl hF rfl (run_lenL rfl rfl Try.underlying22 (hF.ev rfl)) ?_; clear hF; intro a hF
  refine op_val (v := .bool (ltB (x0.length : Int) 1)) rfl rfl hF rfl (run_lss (hF.ev rfl) rfl rfl) ?_; clear hF; intro a hF
  refine op_val (v := .bool (ltB (x0.length : Int) 1)) rfl rfl hF rfl (run_move rfl (hF.ev rfl)) ?_; clear hF; intro a hF
  refine op_gv (v := .pointer (some ⟨g101, 0, none⟩)) rfl rfl hF rfl (yf (gw_yield hF rfl rfl rfl)) (fun hg => (run_fieldAddr rfl fl28_0 (hF.ev rfl) rfl)) ?_; clear hF; intro a hF
  refine op_gv (v := .slice A0 x0.length c0) rfl rfl hF rfl (yf (gw_yield hF rfl rfl rfl)) (fun hg => (run_load1 rfl one22 ((hF.ev rfl).trans (gv_t hg)) ((S.free 0 rfl).cell rfl))) ?_; clear hF; intro a hF
  refine op_gv (v := .int .i64 (x0.length : Int)) rfl rfl hF rfl (yf (gw_yield hF rfl rfl rfl)) (fun hg => (run_lenL rfl rfl Try.underlying22 ((hF.ev rfl).trans (gv_t hg)))) ?_; clear hF; intro a hF
  refine op_gv (v := .bool (ltB 10 (x0.length : Int))) rfl rfl hF rfl (yf (gw_yield hF rfl rfl rfl)) (fun hg => (run_gtr ((hF.ev rfl).trans (gv_t hg)) rfl rfl)) ?_; clear hF; intro a hF
  refine op_val (v := .bool ((ltB (x0.length : Int) 1) || (ltB 10 (x0.length : Int)))) rfl rfl hF rfl (run_pick_or rfl (hF.ev rfl) rfl (fun hp => ((hF.ev rfl).trans (gv_t (not_t hp))))) ?_; clear hF; intro a hF
  refine wpList_nil ?_
  cases hc102 : ((ltB (x0.length : Int) 1) || (ltB 10 (x0.length : Int)))
  · replace hM := bif_f hc102 hM
    refine cond_f hF rfl hc102 ?_
    refine wp_skip ?_
    refine wp_seq ?_
    refine wp_seq ?_
    refine wp_region_lit ?_
    refine op_val (v := .pointer (some ⟨g101, 1, none⟩)) rfl rfl hF rfl (run_fieldAddr rfl fl28_1 (hF.ev rfl) rfl) ?_; clear hF; intro a hF
    refine op_val (v := .int .i64 x1) rfl rfl hF rfl (run_load1 rfl one3 (hF.ev rfl) ((S.free 0 rfl).cell rfl)) ?_; clear hF; intro a hF
    refine op_val (v := .bool (x1 == (-1))) rfl rfl hF rfl (run_eql (hF.ev rfl) rfl rfl) ?_; clear hF; intro a hF
    refine wpList_nil ?_
    cases hc103 : (x1 == (-1))
    · replace hM := bif_f hc103 hM
      refine cond_f hF rfl hc103 ?_
      refine wp_skip ?_
      refine wp_seq ?_
      obtain ⟨hk104, hM⟩ := chk_ex hM
      replace hk104 := fun hg => ixB_t (imp_t hk104 hg)
      refine region_gw (D := [29, 30, 31, 32, 33, 34, 35, 36, 37, 38, 39, 40, 41, 42, 43, 44, 45, 46, 47, 48, 49, 50, 51, 52, 53, 54, 55, 56, 57, 58, 59, 60, 61, 62, 63, 64, 65, 66, 67, 68, 69, 70, 2]) (Lr := [.box g101 28 #[.slice A0 x0.length c0, .int .i64 x1, .int .i64 x2, .bool x3, .int .i64 x4]]) (deps := (fun | 0 => [29] | 1 => [30] | 2 => [31] | 3 => [32] | 4 => [33] | 5 => [34] | 6 => [35] | 7 => [36] | 8 => [37] | 9 => [38] | 10 => [39] | 11 => [40] | 12 => [41] | 13 => [42] | 14 => [43] | 15 => [44] | 16 => [45] | 17 => [46] | 18 => [47] | 19 => [48] | 20 => [49] | 21 => [50] | 22 => [51] | 23 => [52] | 24 => [53] | 25 => [54] | 26 => [55] | 27 => [56] | 28 => [57] | 29 => [58] | 30 => [59] | 31 => [60] | 32 => [61] | 33 => [62] | 34 => [63] | 35 => [64] | 36 => [65] | 37 => [66] | 38 => [67] | 39 => [68] | 40 => [69] | 41 => [70] | 42 => [2] | _ => [])) (rd := (fun _ => [])) (zr := (fun _ => []))
        (φ := fun i vs => match i, vs with | 0, [v29] => v29 = .pointer (some ⟨g101, 1, none⟩) | 1, [v30] => v30 = .int .i64 x1 | 2, [v31] => v31 = .bool (leB 0 x1) | 3, [v32] => v32 = .bool (leB 0 x1) | 4, [v33] => v33 = gv (leB 0 x1) (.pointer (some ⟨g101, 1, none⟩)) | 5, [v34] => v34 = gv (leB 0 x1) (.int .i64 x1) | 6, [v35] => v35 = gv (leB 0 x1) (.bool (leB x1 9)) | 7, [v36] => v36 = .bool ((leB 0 x1) && (leB x1 9)) | 8, [v37] => v37 = .bool ((leB 0 x1) && (leB x1 9)) | 9, [v38] => v38 = gv ((leB 0 x1) && (leB x1 9)) (.pointer (some ⟨g101, 2, none⟩)) | 10, [v39] => v39 = gv ((leB 0 x1) && (leB x1 9)) (.int .i64 x2) | 11, [v40] => v40 = gv ((leB 0 x1) && (leB x1 9)) (.bool (leB 0 x2)) | 12, [v41] => v41 = .bool (((leB 0 x1) && (leB x1 9)) && (leB 0 x2)) | 13, [v42] => v42 = .bool (((leB 0 x1) && (leB x1 9)) && (leB 0 x2)) | 14, [v43] => v43 = gv (((leB 0 x1) && (leB x1 9)) && (leB 0 x2)) (.pointer (some ⟨g101, 2, none⟩)) | 15, [v44] => v44 = gv (((leB 0 x1) && (leB x1 9)) && (leB 0 x2)) (.int .i64 x2) | 16, [v45] => v45 = gv (((leB 0 x1) && (leB x1 9)) && (leB 0 x2)) (.pointer (some ⟨g101, 0, none⟩)) | 17, [v46] => v46 = gv (((leB 0 x1) && (leB x1 9)) && (leB 0 x2)) (.slice A0 x0.length c0) | 18, [v47] => v47 = gv (((leB 0 x1) && (leB x1 9)) && (leB 0 x2)) (.int .i64 (x0.length : Int)) | 19, [v48] => v48 = gv (((leB 0 x1) && (leB x1 9)) && (leB 0 x2)) (.bool (ltB x2 (x0.length : Int))) | 20, [v49] => v49 = .bool ((((leB 0 x1) && (leB x1 9)) && (leB 0 x2)) && (ltB x2 (x0.length : Int))) | 21, [v50] => v50 = .bool ((((leB 0 x1) && (leB x1 9)) && (leB 0 x2)) && (ltB x2 (x0.length : Int))) | 22, [v51] => v51 = gv ((((leB 0 x1) && (leB x1 9)) && (leB 0 x2)) && (ltB x2 (x0.length : Int))) (.pointer (some ⟨g101, 0, none⟩)) | 23, [v52] => v52 = gv ((((leB 0 x1) && (leB x1 9)) && (leB 0 x2)) && (ltB x2 (x0.length : Int))) (.slice A0 x0.length c0) | 24, [v53] => v53 = gv ((((leB 0 x1) && (leB x1 9)) && (leB 0 x2)) && (ltB x2 (x0.length : Int))) (.pointer (some ⟨g101, 2, none⟩)) | 25, [v54] => v54 = gv ((((leB 0 x1) && (leB x1 9)) && (leB 0 x2)) && (ltB x2 (x0.length : Int))) (.int .i64 x2) | 26, [v55] => v55 = gv ((((leB 0 x1) && (leB x1 9)) && (leB 0 x2)) && (ltB x2 (x0.length : Int))) (.pointer (some ⟨adB A0, adO A0 + x2.toNat * 1, none⟩)) | 27, [v56] => v56 = gv ((((leB 0 x1) && (leB x1 9)) && (leB 0 x2)) && (ltB x2 (x0.length : Int))) (.bool (x0.getD x2.toNat false)) | 28, [v57] => v57 = gv ((((leB 0 x1) && (leB x1 9)) && (leB 0 x2)) && (ltB x2 (x0.length : Int))) (.pointer (some ⟨g101, 3, none⟩)) | 29, [v58] => v58 = gv ((((leB 0 x1) && (leB x1 9)) && (leB 0 x2)) && (ltB x2 (x0.length : Int))) (.bool x3) | 30, [v59] => v59 = gv ((((leB 0 x1) && (leB x1 9)) && (leB 0 x2)) && (ltB x2 (x0.length : Int))) (.bool ((x0.getD x2.toNat false) != x3)) | 31, [v60] => v60 = .bool (((((leB 0 x1) && (leB x1 9)) && (leB 0 x2)) && (ltB x2 (x0.length : Int))) && ((x0.getD x2.toNat false) != x3)) | 32, [v61] => v61 = .bool (((((leB 0 x1) && (leB x1 9)) && (leB 0 x2)) && (ltB x2 (x0.length : Int))) && ((x0.getD x2.toNat false) != x3)) | 33, [v62] => v62 = gv (((((leB 0 x1) && (leB x1 9)) && (leB 0 x2)) && (ltB x2 (x0.length : Int))) && ((x0.getD x2.toNat false) != x3)) (.pointer (some ⟨g101, 4, none⟩)) | 34, [v63] => v63 = gv (((((leB 0 x1) && (leB x1 9)) && (leB 0 x2)) && (ltB x2 (x0.length : Int))) && ((x0.getD x2.toNat false) != x3)) (.int .i64 x4) | 35, [v64] => v64 = gv (((((leB 0 x1) && (leB x1 9)) && (leB 0 x2)) && (ltB x2 (x0.length : Int))) && ((x0.getD x2.toNat false) != x3)) (.bool (leB 1 x4)) | 36, [v65] => v65 = .bool ((((((leB 0 x1) && (leB x1 9)) && (leB 0 x2)) && (ltB x2 (x0.length : Int))) && ((x0.getD x2.toNat false) != x3)) && (leB 1 x4)) | 37, [v66] => v66 = .bool ((((((leB 0 x1) && (leB x1 9)) && (leB 0 x2)) && (ltB x2 (x0.length : Int))) && ((x0.getD x2.toNat false) != x3)) && (leB 1 x4)) | 38, [v67] => v67 = gv ((((((leB 0 x1) && (leB x1 9)) && (leB 0 x2)) && (ltB x2 (x0.length : Int))) && ((x0.getD x2.toNat false) != x3)) && (leB 1 x4)) (.pointer (some ⟨g101, 4, none⟩)) | 39, [v68] => v68 = gv ((((((leB 0 x1) && (leB x1 9)) && (leB 0 x2)) && (ltB x2 (x0.length : Int))) && ((x0.getD x2.toNat false) != x3)) && (leB 1 x4)) (.int .i64 x4) | 40, [v69] => v69 = gv ((((((leB 0 x1) && (leB x1 9)) && (leB 0 x2)) && (ltB x2 (x0.length : Int))) && ((x0.getD x2.toNat false) != x3)) && (leB 1 x4)) (.bool (leB x4 3)) | 41, [v70] => v70 = .bool (((((((leB 0 x1) && (leB x1 9)) && (leB 0 x2)) && (ltB x2 (x0.length : Int))) && ((x0.getD x2.toNat false) != x3)) && (leB 1 x4)) && (leB x4 3)) | 42, [v2] => v2 = .bool (((((((leB 0 x1) && (leB x1 9)) && (leB 0 x2)) && (ltB x2 (x0.length : Int))) && ((x0.getD x2.toNat false) != x3)) && (leB 1 x4)) && (leB x4 3)) | _, _ => True)
        (C := fun _ _ => [])
        (κ := (fun _ => none)) (Z := (fun _ => [])) mixed hF (by kernel_rfl) S ?_ ?_
      · refine ⟨?_, ?_, ?_, ?_, ?_, ?_, ?_, ?_, ?_, ?_, ?_, ?_, ?_, ?_, ?_, ?_, ?_, ?_, ?_, ?_, ?_, ?_, ?_, ?_, ?_, ?_, ?_, ?_, ?_, ?_, ?_, ?_, ?_, ?_, ?_, ?_, ?_, ?_, ?_, ?_, ?_, ?_, ?_, trivial⟩
        · intro a u X hB hu hp hr hz hl S
          replace S : St w u ([] ++ X) := S
          exact .inl ⟨rfl, .pointer (some ⟨g101, 1, none⟩), u, (run_fieldAddr rfl fl28_1 (hF.evB hB rfl rfl) rfl), rfl, S⟩
        · intro a u X hB hu hp hr hz hl S
          replace S : St w u ([] ++ X) := S
          have e29 : sl a 29 = .pointer (some ⟨g101, 1, none⟩) := hp 0 rfl
          exact .inl ⟨rfl, .int .i64 x1, u, (run_load1 rfl one3 (ev_sl e29) ((gr_box S hl 0 rfl).cell rfl)), rfl, S⟩
        · intro a u X hB hu hp hr hz hl S
          replace S : St w u ([] ++ X) := S
          have e30 : sl a 30 = .int .i64 x1 := hp 1 rfl
          exact .inl ⟨rfl, .bool (leB 0 x1), u, (run_geq (ev_sl e30) (ev_const _ _) rfl), rfl, S⟩
        · intro a u X hB hu hp hr hz hl S
          replace S : St w u ([] ++ X) := S
          have e31 : sl a 31 = .bool (leB 0 x1) := hp 2 rfl
          exact .inl ⟨rfl, .bool (leB 0 x1), u, (run_move rfl (ev_sl e31)), rfl, S⟩
        · intro a u X hB hu hp hr hz hl S
          replace S : St w u ([] ++ X) := S
          have e32 : sl a 32 = .bool (leB 0 x1) := hp 3 rfl
          rcases (Bool.eq_false_or_eq_true (leB 0 x1)).symm with hg | hg
          · exact .inr (.inr (.inr ⟨gr_eg rfl (yt (gr_yield rfl rfl e32)) hg, (gv_f hg).symm, S⟩))
          · exact .inl ⟨gr_eg rfl (yt (gr_yield rfl rfl e32)) hg, .pointer (some ⟨g101, 1, none⟩), u, (run_fieldAddr rfl fl28_1 (hF.evB hB rfl rfl) rfl), (gv_t hg).symm, S⟩
        · intro a u X hB hu hp hr hz hl S
          replace S : St w u ([] ++ X) := S
          have e32 : sl a 32 = .bool (leB 0 x1) := hp 3 rfl
          have e33 : sl a 33 = gv (leB 0 x1) (.pointer (some ⟨g101, 1, none⟩)) := hp 4 rfl
          rcases (Bool.eq_false_or_eq_true (leB 0 x1)).symm with hg | hg
          · exact .inr (.inr (.inr ⟨gr_eg rfl (yt (gr_yield rfl rfl e32)) hg, (gv_f hg).symm, S⟩))
          · exact .inl ⟨gr_eg rfl (yt (gr_yield rfl rfl e32)) hg, .int .i64 x1, u, (run_load1 rfl one3 ((ev_sl e33).trans (gv_t hg)) ((gr_box S hl 0 rfl).cell rfl)), (gv_t hg).symm, S⟩
        · intro a u X hB hu hp hr hz hl S
          replace S : St w u ([] ++ X) := S
          have e32 : sl a 32 = .bool (leB 0 x1) := hp 3 rfl
          have e34 : sl a 34 = gv (leB 0 x1) (.int .i64 x1) := hp 5 rfl
          rcases (Bool.eq_false_or_eq_true (leB 0 x1)).symm with hg | hg
          · exact .inr (.inr (.inr ⟨gr_eg rfl (yt (gr_yield rfl rfl e32)) hg, (gv_f hg).symm, S⟩))
          · exact .inl ⟨gr_eg rfl (yt (gr_yield rfl rfl e32)) hg, .bool (leB x1 9), u, (run_leq ((ev_sl e34).trans (gv_t hg)) (ev_const _ _) rfl), (gv_t hg).symm, S⟩
        · intro a u X hB hu hp hr hz hl S
          replace S : St w u ([] ++ X) := S
          have e32 : sl a 32 = .bool (leB 0 x1) := hp 3 rfl
          have e35 : sl a 35 = gv (leB 0 x1) (.bool (leB x1 9)) := hp 6 rfl
          exact .inl ⟨rfl, .bool ((leB 0 x1) && (leB x1 9)), u, (run_pick_and rfl (ev_sl e32) (fun hp => ((ev_sl e35).trans (gv_t hp))) (ev_const _ _)), rfl, S⟩
        · intro a u X hB hu hp hr hz hl S
          replace S : St w u ([] ++ X) := S
          have e36 : sl a 36 = .bool ((leB 0 x1) && (leB x1 9)) := hp 7 rfl
          exact .inl ⟨rfl, .bool ((leB 0 x1) && (leB x1 9)), u, (run_move rfl (ev_sl e36)), rfl, S⟩
        · intro a u X hB hu hp hr hz hl S
          replace S : St w u ([] ++ X) := S
          have e37 : sl a 37 = .bool ((leB 0 x1) && (leB x1 9)) := hp 8 rfl
          rcases (Bool.eq_false_or_eq_true ((leB 0 x1) && (leB x1 9))).symm with hg | hg
          · exact .inr (.inr (.inr ⟨gr_eg rfl (yt (gr_yield rfl rfl e37)) hg, (gv_f hg).symm, S⟩))
          · exact .inl ⟨gr_eg rfl (yt (gr_yield rfl rfl e37)) hg, .pointer (some ⟨g101, 2, none⟩), u, (run_fieldAddr rfl fl28_2 (hF.evB hB rfl rfl) rfl), (gv_t hg).symm, S⟩
        · intro a u X hB hu hp hr hz hl S
          replace S : St w u ([] ++ X) := S
          have e37 : sl a 37 = .bool ((leB 0 x1) && (leB x1 9)) := hp 8 rfl
          have e38 : sl a 38 = gv ((leB 0 x1) && (leB x1 9)) (.pointer (some ⟨g101, 2, none⟩)) := hp 9 rfl
          rcases (Bool.eq_false_or_eq_true ((leB 0 x1) && (leB x1 9))).symm with hg | hg
          · exact .inr (.inr (.inr ⟨gr_eg rfl (yt (gr_yield rfl rfl e37)) hg, (gv_f hg).symm, S⟩))
          · exact .inl ⟨gr_eg rfl (yt (gr_yield rfl rfl e37)) hg, .int .i64 x2, u, (run_load1 rfl one3 ((ev_sl e38).trans (gv_t hg)) ((gr_box S hl 0 rfl).cell rfl)), (gv_t hg).symm, S⟩
        · intro a u X hB hu hp hr hz hl S
          replace S : St w u ([] ++ X) := S
          have e37 : sl a 37 = .bool ((leB 0 x1) && (leB x1 9)) := hp 8 rfl
          have e39 : sl a 39 = gv ((leB 0 x1) && (leB x1 9)) (.int .i64 x2) := hp 10 rfl
          rcases (Bool.eq_false_or_eq_true ((leB 0 x1) && (leB x1 9))).symm with hg | hg
          · exact .inr (.inr (.inr ⟨gr_eg rfl (yt (gr_yield rfl rfl e37)) hg, (gv_f hg).symm, S⟩))
          · exact .inl ⟨gr_eg rfl (yt (gr_yield rfl rfl e37)) hg, .bool (leB 0 x2), u, (run_geq ((ev_sl e39).trans (gv_t hg)) (ev_const _ _) rfl), (gv_t hg).symm, S⟩
        · intro a u X hB hu hp hr hz hl S
          replace S : St w u ([] ++ X) := S
          have e37 : sl a 37 = .bool ((leB 0 x1) && (leB x1 9)) := hp 8 rfl
          have e40 : sl a 40 = gv ((leB 0 x1) && (leB x1 9)) (.bool (leB 0 x2)) := hp 11 rfl
          exact .inl ⟨rfl, .bool (((leB 0 x1) && (leB x1 9)) && (leB 0 x2)), u, (run_pick_and rfl (ev_sl e37) (fun hp => ((ev_sl e40).trans (gv_t hp))) (ev_const _ _)), rfl, S⟩
        · intro a u X hB hu hp hr hz hl S
          replace S : St w u ([] ++ X) := S
          have e41 : sl a 41 = .bool (((leB 0 x1) && (leB x1 9)) && (leB 0 x2)) := hp 12 rfl
          exact .inl ⟨rfl, .bool (((leB 0 x1) && (leB x1 9)) && (leB 0 x2)), u, (run_move rfl (ev_sl e41)), rfl, S⟩
        · intro a u X hB hu hp hr hz hl S
          replace S : St w u ([] ++ X) := S
          have e42 : sl a 42 = .bool (((leB 0 x1) && (leB x1 9)) && (leB 0 x2)) := hp 13 rfl
          rcases (Bool.eq_false_or_eq_true (((leB 0 x1) && (leB x1 9)) && (leB 0 x2))).symm with hg | hg
          · exact .inr (.inr (.inr ⟨gr_eg rfl (yt (gr_yield rfl rfl e42)) hg, (gv_f hg).symm, S⟩))
          · exact .inl ⟨gr_eg rfl (yt (gr_yield rfl rfl e42)) hg, .pointer (some ⟨g101, 2, none⟩), u, (run_fieldAddr rfl fl28_2 (hF.evB hB rfl rfl) rfl), (gv_t hg).symm, S⟩
        · intro a u X hB hu hp hr hz hl S
          replace S : St w u ([] ++ X) := S
          have e42 : sl a 42 = .bool (((leB 0 x1) && (leB x1 9)) && (leB 0 x2)) := hp 13 rfl
          have e43 : sl a 43 = gv (((leB 0 x1) && (leB x1 9)) && (leB 0 x2)) (.pointer (some ⟨g101, 2, none⟩)) := hp 14 rfl
          rcases (Bool.eq_false_or_eq_true (((leB 0 x1) && (leB x1 9)) && (leB 0 x2))).symm with hg | hg
          · exact .inr (.inr (.inr ⟨gr_eg rfl (yt (gr_yield rfl rfl e42)) hg, (gv_f hg).symm, S⟩))
          · exact .inl ⟨gr_eg rfl (yt (gr_yield rfl rfl e42)) hg, .int .i64 x2, u, (run_load1 rfl one3 ((ev_sl e43).trans (gv_t hg)) ((gr_box S hl 0 rfl).cell rfl)), (gv_t hg).symm, S⟩
        · intro a u X hB hu hp hr hz hl S
          replace S : St w u ([] ++ X) := S
          have e42 : sl a 42 = .bool (((leB 0 x1) && (leB x1 9)) && (leB 0 x2)) := hp 13 rfl
          rcases (Bool.eq_false_or_eq_true (((leB 0 x1) && (leB x1 9)) && (leB 0 x2))).symm with hg | hg
          · exact .inr (.inr (.inr ⟨gr_eg rfl (yt (gr_yield rfl rfl e42)) hg, (gv_f hg).symm, S⟩))
          · exact .inl ⟨gr_eg rfl (yt (gr_yield rfl rfl e42)) hg, .pointer (some ⟨g101, 0, none⟩), u, (run_fieldAddr rfl fl28_0 (hF.evB hB rfl rfl) rfl), (gv_t hg).symm, S⟩
        · intro a u X hB hu hp hr hz hl S
          replace S : St w u ([] ++ X) := S
          have e42 : sl a 42 = .bool (((leB 0 x1) && (leB x1 9)) && (leB 0 x2)) := hp 13 rfl
          have e45 : sl a 45 = gv (((leB 0 x1) && (leB x1 9)) && (leB 0 x2)) (.pointer (some ⟨g101, 0, none⟩)) := hp 16 rfl
          rcases (Bool.eq_false_or_eq_true (((leB 0 x1) && (leB x1 9)) && (leB 0 x2))).symm with hg | hg
          · exact .inr (.inr (.inr ⟨gr_eg rfl (yt (gr_yield rfl rfl e42)) hg, (gv_f hg).symm, S⟩))
          · exact .inl ⟨gr_eg rfl (yt (gr_yield rfl rfl e42)) hg, .slice A0 x0.length c0, u, (run_load1 rfl one22 ((ev_sl e45).trans (gv_t hg)) ((gr_box S hl 0 rfl).cell rfl)), (gv_t hg).symm, S⟩
        · intro a u X hB hu hp hr hz hl S
          replace S : St w u ([] ++ X) := S
          have e42 : sl a 42 = .bool (((leB 0 x1) && (leB x1 9)) && (leB 0 x2)) := hp 13 rfl
          have e46 : sl a 46 = gv (((leB 0 x1) && (leB x1 9)) && (leB 0 x2)) (.slice A0 x0.length c0) := hp 17 rfl
          rcases (Bool.eq_false_or_eq_true (((leB 0 x1) && (leB x1 9)) && (leB 0 x2))).symm with hg | hg
          · exact .inr (.inr (.inr ⟨gr_eg rfl (yt (gr_yield rfl rfl e42)) hg, (gv_f hg).symm, S⟩))
          · exact .inl ⟨gr_eg rfl (yt (gr_yield rfl rfl e42)) hg, .int .i64 (x0.length : Int), u, (run_lenL rfl rfl Try.underlying22 ((ev_sl e46).trans (gv_t hg))), (gv_t hg).symm, S⟩
        · intro a u X hB hu hp hr hz hl S
          replace S : St w u ([] ++ X) := S
          have e42 : sl a 42 = .bool (((leB 0 x1) && (leB x1 9)) && (leB 0 x2)) := hp 13 rfl
          have e44 : sl a 44 = gv (((leB 0 x1) && (leB x1 9)) && (leB 0 x2)) (.int .i64 x2) := hp 15 rfl
          have e47 : sl a 47 = gv (((leB 0 x1) && (leB x1 9)) && (leB 0 x2)) (.int .i64 (x0.length : Int)) := hp 18 rfl
          rcases (Bool.eq_false_or_eq_true (((leB 0 x1) && (leB x1 9)) && (leB 0 x2))).symm with hg | hg
          · exact .inr (.inr (.inr ⟨gr_eg rfl (yt (gr_yield rfl rfl e42)) hg, (gv_f hg).symm, S⟩))
          · exact .inl ⟨gr_eg rfl (yt (gr_yield rfl rfl e42)) hg, .bool (ltB x2 (x0.length : Int)), u, (run_lss ((ev_sl e44).trans (gv_t hg)) ((ev_sl e47).trans (gv_t hg)) rfl), (gv_t hg).symm, S⟩
        · intro a u X hB hu hp hr hz hl S
          replace S : St w u ([] ++ X) := S
          have e42 : sl a 42 = .bool (((leB 0 x1) && (leB x1 9)) && (leB 0 x2)) := hp 13 rfl
          have e48 : sl a 48 = gv (((leB 0 x1) && (leB x1 9)) && (leB 0 x2)) (.bool (ltB x2 (x0.length : Int))) := hp 19 rfl
          exact .inl ⟨rfl, .bool ((((leB 0 x1) && (leB x1 9)) && (leB 0 x2)) && (ltB x2 (x0.length : Int))), u, (run_pick_and rfl (ev_sl e42) (fun hp => ((ev_sl e48).trans (gv_t hp))) (ev_const _ _)), rfl, S⟩
        · intro a u X hB hu hp hr hz hl S
          replace S : St w u ([] ++ X) := S
          have e49 : sl a 49 = .bool ((((leB 0 x1) && (leB x1 9)) && (leB 0 x2)) && (ltB x2 (x0.length : Int))) := hp 20 rfl
          exact .inl ⟨rfl, .bool ((((leB 0 x1) && (leB x1 9)) && (leB 0 x2)) && (ltB x2 (x0.length : Int))), u, (run_move rfl (ev_sl e49)), rfl, S⟩
        · intro a u X hB hu hp hr hz hl S
          replace S : St w u ([] ++ X) := S
          have e50 : sl a 50 = .bool ((((leB 0 x1) && (leB x1 9)) && (leB 0 x2)) && (ltB x2 (x0.length : Int))) := hp 21 rfl
          rcases (Bool.eq_false_or_eq_true ((((leB 0 x1) && (leB x1 9)) && (leB 0 x2)) && (ltB x2 (x0.length : Int)))).symm with hg | hg
          · exact .inr (.inr (.inr ⟨gr_eg rfl (yt (gr_yield rfl rfl e50)) hg, (gv_f hg).symm, S⟩))
          · exact .inl ⟨gr_eg rfl (yt (gr_yield rfl rfl e50)) hg, .pointer (some ⟨g101, 0, none⟩), u, (run_fieldAddr rfl fl28_0 (hF.evB hB rfl rfl) rfl), (gv_t hg).symm, S⟩
        · intro a u X hB hu hp hr hz hl S
          replace S : St w u ([] ++ X) := S
          have e50 : sl a 50 = .bool ((((leB 0 x1) && (leB x1 9)) && (leB 0 x2)) && (ltB x2 (x0.length : Int))) := hp 21 rfl
          have e51 : sl a 51 = gv ((((leB 0 x1) && (leB x1 9)) && (leB 0 x2)) && (ltB x2 (x0.length : Int))) (.pointer (some ⟨g101, 0, none⟩)) := hp 22 rfl
          rcases (Bool.eq_false_or_eq_true ((((leB 0 x1) && (leB x1 9)) && (leB 0 x2)) && (ltB x2 (x0.length : Int)))).symm with hg | hg
          · exact .inr (.inr (.inr ⟨gr_eg rfl (yt (gr_yield rfl rfl e50)) hg, (gv_f hg).symm, S⟩))
          · exact .inl ⟨gr_eg rfl (yt (gr_yield rfl rfl e50)) hg, .slice A0 x0.length c0, u, (run_load1 rfl one22 ((ev_sl e51).trans (gv_t hg)) ((gr_box S hl 0 rfl).cell rfl)), (gv_t hg).symm, S⟩
        · intro a u X hB hu hp hr hz hl S
          replace S : St w u ([] ++ X) := S
          have e50 : sl a 50 = .bool ((((leB 0 x1) && (leB x1 9)) && (leB 0 x2)) && (ltB x2 (x0.length : Int))) := hp 21 rfl
          rcases (Bool.eq_false_or_eq_true ((((leB 0 x1) && (leB x1 9)) && (leB 0 x2)) && (ltB x2 (x0.length : Int)))).symm with hg | hg
          · exact .inr (.inr (.inr ⟨gr_eg rfl (yt (gr_yield rfl rfl e50)) hg, (gv_f hg).symm, S⟩))
          · exact .inl ⟨gr_eg rfl (yt (gr_yield rfl rfl e50)) hg, .pointer (some ⟨g101, 2, none⟩), u, (run_fieldAddr rfl fl28_2 (hF.evB hB rfl rfl) rfl), (gv_t hg).symm, S⟩
        · intro a u X hB hu hp hr hz hl S
          replace S : St w u ([] ++ X) := S
          have e50 : sl a 50 = .bool ((((leB 0 x1) && (leB x1 9)) && (leB 0 x2)) && (ltB x2 (x0.length : Int))) := hp 21 rfl
          have e53 : sl a 53 = gv ((((leB 0 x1) && (leB x1 9)) && (leB 0 x2)) && (ltB x2 (x0.length : Int))) (.pointer (some ⟨g101, 2, none⟩)) := hp 24 rfl
          rcases (Bool.eq_false_or_eq_true ((((leB 0 x1) && (leB x1 9)) && (leB 0 x2)) && (ltB x2 (x0.length : Int)))).symm with hg | hg
          · exact .inr (.inr (.inr ⟨gr_eg rfl (yt (gr_yield rfl rfl e50)) hg, (gv_f hg).symm, S⟩))
          · exact .inl ⟨gr_eg rfl (yt (gr_yield rfl rfl e50)) hg, .int .i64 x2, u, (run_load1 rfl one3 ((ev_sl e53).trans (gv_t hg)) ((gr_box S hl 0 rfl).cell rfl)), (gv_t hg).symm, S⟩
        · intro a u X hB hu hp hr hz hl S
          replace S : St w u ([] ++ X) := S
          have e50 : sl a 50 = .bool ((((leB 0 x1) && (leB x1 9)) && (leB 0 x2)) && (ltB x2 (x0.length : Int))) := hp 21 rfl
          have e52 : sl a 52 = gv ((((leB 0 x1) && (leB x1 9)) && (leB 0 x2)) && (ltB x2 (x0.length : Int))) (.slice A0 x0.length c0) := hp 23 rfl
          have e54 : sl a 54 = gv ((((leB 0 x1) && (leB x1 9)) && (leB 0 x2)) && (ltB x2 (x0.length : Int))) (.int .i64 x2) := hp 25 rfl
          rcases (Bool.eq_false_or_eq_true ((((leB 0 x1) && (leB x1 9)) && (leB 0 x2)) && (ltB x2 (x0.length : Int)))).symm with hg | hg
          · exact .inr (.inr (.inr ⟨gr_eg rfl (yt (gr_yield rfl rfl e50)) hg, (gv_f hg).symm, S⟩))
          · exact .inl ⟨gr_eg rfl (yt (gr_yield rfl rfl e50)) hg, .pointer (some ⟨adB A0, adO A0 + x2.toNat * 1, none⟩), u, (run_indexAddr (b := adB A0) (off := adO A0) rfl Try.underlying22 sz4 (((ev_sl e52).trans (gv_t hg)).trans (congrArg (fun A => Value.slice A x0.length c0) ((S.rc0 h0.rc).rd.ad (ix_pos (hk104 hg))))) ((ev_sl e54).trans (gv_t hg)) (hk104 hg).1 (hk104 hg).2 (k' := adO A0 + x2.toNat * 1) rfl), (gv_t hg).symm, S⟩
        · intro a u X hB hu hp hr hz hl S
          replace S : St w u ([] ++ X) := S
          have e50 : sl a 50 = .bool ((((leB 0 x1) && (leB x1 9)) && (leB 0 x2)) && (ltB x2 (x0.length : Int))) := hp 21 rfl
          have e55 : sl a 55 = gv ((((leB 0 x1) && (leB x1 9)) && (leB 0 x2)) && (ltB x2 (x0.length : Int))) (.pointer (some ⟨adB A0, adO A0 + x2.toNat * 1, none⟩)) := hp 26 rfl
          rcases (Bool.eq_false_or_eq_true ((((leB 0 x1) && (leB x1 9)) && (leB 0 x2)) && (ltB x2 (x0.length : Int)))).symm with hg | hg
          · exact .inr (.inr (.inr ⟨gr_eg rfl (yt (gr_yield rfl rfl e50)) hg, (gv_f hg).symm, S⟩))
          · exact .inl ⟨gr_eg rfl (yt (gr_yield rfl rfl e50)) hg, .bool (x0.getD x2.toNat false), u, (run_load1 rfl one4 ((ev_sl e55).trans (gv_t hg)) (rd_el0 (l := x0) (S.rc0 h0.rc).rd rfl eB_len false (ix_ltn (hk104 hg) rfl) rfl)), (gv_t hg).symm, S⟩
        · intro a u X hB hu hp hr hz hl S
          replace S : St w u ([] ++ X) := S
          have e50 : sl a 50 = .bool ((((leB 0 x1) && (leB x1 9)) && (leB 0 x2)) && (ltB x2 (x0.length : Int))) := hp 21 rfl
          rcases (Bool.eq_false_or_eq_true ((((leB 0 x1) && (leB x1 9)) && (leB 0 x2)) && (ltB x2 (x0.length : Int)))).symm with hg | hg
          · exact .inr (.inr (.inr ⟨gr_eg rfl (yt (gr_yield rfl rfl e50)) hg, (gv_f hg).symm, S⟩))
          · exact .inl ⟨gr_eg rfl (yt (gr_yield rfl rfl e50)) hg, .pointer (some ⟨g101, 3, none⟩), u, (run_fieldAddr rfl fl28_3 (hF.evB hB rfl rfl) rfl), (gv_t hg).symm, S⟩
        · intro a u X hB hu hp hr hz hl S
          replace S : St w u ([] ++ X) := S
          have e50 : sl a 50 = .bool ((((leB 0 x1) && (leB x1 9)) && (leB 0 x2)) && (ltB x2 (x0.length : Int))) := hp 21 rfl
          have e57 : sl a 57 = gv ((((leB 0 x1) && (leB x1 9)) && (leB 0 x2)) && (ltB x2 (x0.length : Int))) (.pointer (some ⟨g101, 3, none⟩)) := hp 28 rfl
          rcases (Bool.eq_false_or_eq_true ((((leB 0 x1) && (leB x1 9)) && (leB 0 x2)) && (ltB x2 (x0.length : Int)))).symm with hg | hg
          · exact .inr (.inr (.inr ⟨gr_eg rfl (yt (gr_yield rfl rfl e50)) hg, (gv_f hg).symm, S⟩))
          · exact .inl ⟨gr_eg rfl (yt (gr_yield rfl rfl e50)) hg, .bool x3, u, (run_load1 rfl one4 ((ev_sl e57).trans (gv_t hg)) ((gr_box S hl 0 rfl).cell rfl)), (gv_t hg).symm, S⟩
        · intro a u X hB hu hp hr hz hl S
          replace S : St w u ([] ++ X) := S
          have e50 : sl a 50 = .bool ((((leB 0 x1) && (leB x1 9)) && (leB 0 x2)) && (ltB x2 (x0.length : Int))) := hp 21 rfl
          have e56 : sl a 56 = gv ((((leB 0 x1) && (leB x1 9)) && (leB 0 x2)) && (ltB x2 (x0.length : Int))) (.bool (x0.getD x2.toNat false)) := hp 27 rfl
          have e58 : sl a 58 = gv ((((leB 0 x1) && (leB x1 9)) && (leB 0 x2)) && (ltB x2 (x0.length : Int))) (.bool x3) := hp 29 rfl
          rcases (Bool.eq_false_or_eq_true ((((leB 0 x1) && (leB x1 9)) && (leB 0 x2)) && (ltB x2 (x0.length : Int)))).symm with hg | hg
          · exact .inr (.inr (.inr ⟨gr_eg rfl (yt (gr_yield rfl rfl e50)) hg, (gv_f hg).symm, S⟩))
          · exact .inl ⟨gr_eg rfl (yt (gr_yield rfl rfl e50)) hg, .bool ((x0.getD x2.toNat false) != x3), u, (run_neqB ((ev_sl e56).trans (gv_t hg)) ((ev_sl e58).trans (gv_t hg)) Try.underlying4 rfl), (gv_t hg).symm, S⟩
        · intro a u X hB hu hp hr hz hl S
          replace S : St w u ([] ++ X) := S
          have e50 : sl a 50 = .bool ((((leB 0 x1) && (leB x1 9)) && (leB 0 x2)) && (ltB x2 (x0.length : Int))) := hp 21 rfl
          have e59 : sl a 59 = gv ((((leB 0 x1) && (leB x1 9)) && (leB 0 x2)) && (ltB x2 (x0.length : Int))) (.bool ((x0.getD x2.toNat false) != x3)) := hp 30 rfl
          exact .inl ⟨rfl, .bool (((((leB 0 x1) && (leB x1 9)) && (leB 0 x2)) && (ltB x2 (x0.length : Int))) && ((x0.getD x2.toNat false) != x3)), u, (run_pick_and rfl (ev_sl e50) (fun hp => ((ev_sl e59).trans (gv_t hp))) (ev_const _ _)), rfl, S⟩
        · intro a u X hB hu hp hr hz hl S
          replace S : St w u ([] ++ X) := S
          have e60 : sl a 60 = .bool (((((leB 0 x1) && (leB x1 9)) && (leB 0 x2)) && (ltB x2 (x0.length : Int))) && ((x0.getD x2.toNat false) != x3)) := hp 31 rfl
          exact .inl ⟨rfl, .bool (((((leB 0 x1) && (leB x1 9)) && (leB 0 x2)) && (ltB x2 (x0.length : Int))) && ((x0.getD x2.toNat false) != x3)), u, (run_move rfl (ev_sl e60)), rfl, S⟩
        · intro a u X hB hu hp hr hz hl S
          replace S : St w u ([] ++ X) := S
          have e61 : sl a 61 = .bool (((((leB 0 x1) && (leB x1 9)) && (leB 0 x2)) && (ltB x2 (x0.length : Int))) && ((x0.getD x2.toNat false) != x3)) := hp 32 rfl
          rcases (Bool.eq_false_or_eq_true (((((leB 0 x1) && (leB x1 9)) && (leB 0 x2)) && (ltB x2 (x0.length : Int))) && ((x0.getD x2.toNat false) != x3))).symm with hg | hg
          · exact .inr (.inr (.inr ⟨gr_eg rfl (yt (gr_yield rfl rfl e61)) hg, (gv_f hg).symm, S⟩))
          · exact .inl ⟨gr_eg rfl (yt (gr_yield rfl rfl e61)) hg, .pointer (some ⟨g101, 4, none⟩), u, (run_fieldAddr rfl fl28_4 (hF.evB hB rfl rfl) rfl), (gv_t hg).symm, S⟩
        · intro a u X hB hu hp hr hz hl S
          replace S : St w u ([] ++ X) := S
          have e61 : sl a 61 = .bool (((((leB 0 x1) && (leB x1 9)) && (leB 0 x2)) && (ltB x2 (x0.length : Int))) && ((x0.getD x2.toNat false) != x3)) := hp 32 rfl
          have e62 : sl a 62 = gv (((((leB 0 x1) && (leB x1 9)) && (leB 0 x2)) && (ltB x2 (x0.length : Int))) && ((x0.getD x2.toNat false) != x3)) (.pointer (some ⟨g101, 4, none⟩)) := hp 33 rfl
          rcases (Bool.eq_false_or_eq_true (((((leB 0 x1) && (leB x1 9)) && (leB 0 x2)) && (ltB x2 (x0.length : Int))) && ((x0.getD x2.toNat false) != x3))).symm with hg | hg
          · exact .inr (.inr (.inr ⟨gr_eg rfl (yt (gr_yield rfl rfl e61)) hg, (gv_f hg).symm, S⟩))
          · exact .inl ⟨gr_eg rfl (yt (gr_yield rfl rfl e61)) hg, .int .i64 x4, u, (run_load1 rfl one3 ((ev_sl e62).trans (gv_t hg)) ((gr_box S hl 0 rfl).cell rfl)), (gv_t hg).symm, S⟩
        · intro a u X hB hu hp hr hz hl S
          replace S : St w u ([] ++ X) := S
          have e61 : sl a 61 = .bool (((((leB 0 x1) && (leB x1 9)) && (leB 0 x2)) && (ltB x2 (x0.length : Int))) && ((x0.getD x2.toNat false) != x3)) := hp 32 rfl
          have e63 : sl a 63 = gv (((((leB 0 x1) && (leB x1 9)) && (leB 0 x2)) && (ltB x2 (x0.length : Int))) && ((x0.getD x2.toNat false) != x3)) (.int .i64 x4) := hp 34 rfl
          rcases (Bool.eq_false_or_eq_true (((((leB 0 x1) && (leB x1 9)) && (leB 0 x2)) && (ltB x2 (x0.length : Int))) && ((x0.getD x2.toNat false) != x3))).symm with hg | hg
          · exact .inr (.inr (.inr ⟨gr_eg rfl (yt (gr_yield rfl rfl e61)) hg, (gv_f hg).symm, S⟩))
          · exact .inl ⟨gr_eg rfl (yt (gr_yield rfl rfl e61)) hg, .bool (leB 1 x4), u, (run_geq ((ev_sl e63).trans (gv_t hg)) (ev_const _ _) rfl), (gv_t hg).symm, S⟩
        · intro a u X hB hu hp hr hz hl S
          replace S : St w u ([] ++ X) := S
          have e61 : sl a 61 = .bool (((((leB 0 x1) && (leB x1 9)) && (leB 0 x2)) && (ltB x2 (x0.length : Int))) && ((x0.getD x2.toNat false) != x3)) := hp 32 rfl
          have e64 : sl a 64 = gv (((((leB 0 x1) && (leB x1 9)) && (leB 0 x2)) && (ltB x2 (x0.length : Int))) && ((x0.getD x2.toNat false) != x3)) (.bool (leB 1 x4)) := hp 35 rfl
          exact .inl ⟨rfl, .bool ((((((leB 0 x1) && (leB x1 9)) && (leB 0 x2)) && (ltB x2 (x0.length : Int))) && ((x0.getD x2.toNat false) != x3)) && (leB 1 x4)), u, (run_pick_and rfl (ev_sl e61) (fun hp => ((ev_sl e64).trans (gv_t hp))) (ev_const _ _)), rfl, S⟩
        · intro a u X hB hu hp hr hz hl S
          replace S : St w u ([] ++ X) := S
          have e65 : sl a 65 = .bool ((((((leB 0 x1) && (leB x1 9)) && (leB 0 x2)) && (ltB x2 (x0.length : Int))) && ((x0.getD x2.toNat false) != x3)) && (leB 1 x4)) := hp 36 rfl
          exact .inl ⟨rfl, .bool ((((((leB 0 x1) && (leB x1 9)) && (leB 0 x2)) && (ltB x2 (x0.length : Int))) && ((x0.getD x2.toNat false) != x3)) && (leB 1 x4)), u, (run_move rfl (ev_sl e65)), rfl, S⟩
        · intro a u X hB hu hp hr hz hl S
          replace S : St w u ([] ++ X) := S
          have e66 : sl a 66 = .bool ((((((leB 0 x1) && (leB x1 9)) && (leB 0 x2)) && (ltB x2 (x0.length : Int))) && ((x0.getD x2.toNat false) != x3)) && (leB 1 x4)) := hp 37 rfl
          rcases (Bool.eq_false_or_eq_true ((((((leB 0 x1) && (leB x1 9)) && (leB 0 x2)) && (ltB x2 (x0.length : Int))) && ((x0.getD x2.toNat false) != x3)) && (leB 1 x4))).symm with hg | hg
          · exact .inr (.inr (.inr ⟨gr_eg rfl (yt (gr_yield rfl rfl e66)) hg, (gv_f hg).symm, S⟩))
          · exact .inl ⟨gr_eg rfl (yt (gr_yield rfl rfl e66)) hg, .pointer (some ⟨g101, 4, none⟩), u, (run_fieldAddr rfl fl28_4 (hF.evB hB rfl rfl) rfl), (gv_t hg).symm, S⟩
        · intro a u X hB hu hp hr hz hl S
          replace S : St w u ([] ++ X) := S
          have e66 : sl a 66 = .bool ((((((leB 0 x1) && (leB x1 9)) && (leB 0 x2)) && (ltB x2 (x0.length : Int))) && ((x0.getD x2.toNat false) != x3)) && (leB 1 x4)) := hp 37 rfl
          have e67 : sl a 67 = gv ((((((leB 0 x1) && (leB x1 9)) && (leB 0 x2)) && (ltB x2 (x0.length : Int))) && ((x0.getD x2.toNat false) != x3)) && (leB 1 x4)) (.pointer (some ⟨g101, 4, none⟩)) := hp 38 rfl
          rcases (Bool.eq_false_or_eq_true ((((((leB 0 x1) && (leB x1 9)) && (leB 0 x2)) && (ltB x2 (x0.length : Int))) && ((x0.getD x2.toNat false) != x3)) && (leB 1 x4))).symm with hg | hg
          · exact .inr (.inr (.inr ⟨gr_eg rfl (yt (gr_yield rfl rfl e66)) hg, (gv_f hg).symm, S⟩))
          · exact .inl ⟨gr_eg rfl (yt (gr_yield rfl rfl e66)) hg, .int .i64 x4, u, (run_load1 rfl one3 ((ev_sl e67).trans (gv_t hg)) ((gr_box S hl 0 rfl).cell rfl)), (gv_t hg).symm, S⟩
        · intro a u X hB hu hp hr hz hl S
          replace S : St w u ([] ++ X) := S
          have e66 : sl a 66 = .bool ((((((leB 0 x1) && (leB x1 9)) && (leB 0 x2)) && (ltB x2 (x0.length : Int))) && ((x0.getD x2.toNat false) != x3)) && (leB 1 x4)) := hp 37 rfl
          have e68 : sl a 68 = gv ((((((leB 0 x1) && (leB x1 9)) && (leB 0 x2)) && (ltB x2 (x0.length : Int))) && ((x0.getD x2.toNat false) != x3)) && (leB 1 x4)) (.int .i64 x4) := hp 39 rfl
          rcases (Bool.eq_false_or_eq_true ((((((leB 0 x1) && (leB x1 9)) && (leB 0 x2)) && (ltB x2 (x0.length : Int))) && ((x0.getD x2.toNat false) != x3)) && (leB 1 x4))).symm with hg | hg
          · exact .inr (.inr (.inr ⟨gr_eg rfl (yt (gr_yield rfl rfl e66)) hg, (gv_f hg).symm, S⟩))
          · exact .inl ⟨gr_eg rfl (yt (gr_yield rfl rfl e66)) hg, .bool (leB x4 3), u, (run_leq ((ev_sl e68).trans (gv_t hg)) (ev_const _ _) rfl), (gv_t hg).symm, S⟩
        · intro a u X hB hu hp hr hz hl S
          replace S : St w u ([] ++ X) := S
          have e66 : sl a 66 = .bool ((((((leB 0 x1) && (leB x1 9)) && (leB 0 x2)) && (ltB x2 (x0.length : Int))) && ((x0.getD x2.toNat false) != x3)) && (leB 1 x4)) := hp 37 rfl
          have e69 : sl a 69 = gv ((((((leB 0 x1) && (leB x1 9)) && (leB 0 x2)) && (ltB x2 (x0.length : Int))) && ((x0.getD x2.toNat false) != x3)) && (leB 1 x4)) (.bool (leB x4 3)) := hp 40 rfl
          exact .inl ⟨rfl, .bool (((((((leB 0 x1) && (leB x1 9)) && (leB 0 x2)) && (ltB x2 (x0.length : Int))) && ((x0.getD x2.toNat false) != x3)) && (leB 1 x4)) && (leB x4 3)), u, (run_pick_and rfl (ev_sl e66) (fun hp => ((ev_sl e69).trans (gv_t hp))) (ev_const _ _)), rfl, S⟩
        · intro a u X hB hu hp hr hz hl S
          replace S : St w u ([] ++ X) := S
          have e70 : sl a 70 = .bool (((((((leB 0 x1) && (leB x1 9)) && (leB 0 x2)) && (ltB x2 (x0.length : Int))) && ((x0.getD x2.toNat false) != x3)) && (leB 1 x4)) && (leB x4 3)) := hp 41 rfl
          exact .inl ⟨rfl, .bool (((((((leB 0 x1) && (leB x1 9)) && (leB 0 x2)) && (ltB x2 (x0.length : Int))) && ((x0.getD x2.toNat false) != x3)) && (leB 1 x4)) && (leB x4 3)), u, (run_assign rfl (ev_sl e70)), rfl, S⟩
      · intro a u hB hp S
        obtain ⟨q0, q1, q2, q3, q4, q5, q6, q7, q8, q9, q10, q11, q12, q13, q14, q15, q16, q17, q18, q19, q20, q21, q22, q23, q24, q25, q26, q27, q28, q29, q30, q31, q32, q33, q34, q35, q36, q37, q38, q39, q40, q41, q42, _⟩ := hp
        have e29 : sl a 29 = .pointer (some ⟨g101, 1, none⟩) := q0
        have e30 : sl a 30 = .int .i64 x1 := q1
        have e31 : sl a 31 = .bool (leB 0 x1) := q2
        have e32 : sl a 32 = .bool (leB 0 x1) := q3
        have e33 : sl a 33 = gv (leB 0 x1) (.pointer (some ⟨g101, 1, none⟩)) := q4
        have e34 : sl a 34 = gv (leB 0 x1) (.int .i64 x1) := q5
        have e35 : sl a 35 = gv (leB 0 x1) (.bool (leB x1 9)) := q6
        have e36 : sl a 36 = .bool ((leB 0 x1) && (leB x1 9)) := q7
        have e37 : sl a 37 = .bool ((leB 0 x1) && (leB x1 9)) := q8
        have e38 : sl a 38 = gv ((leB 0 x1) && (leB x1 9)) (.pointer (some ⟨g101, 2, none⟩)) := q9
        have e39 : sl a 39 = gv ((leB 0 x1) && (leB x1 9)) (.int .i64 x2) := q10
        have e40 : sl a 40 = gv ((leB 0 x1) && (leB x1 9)) (.bool (leB 0 x2)) := q11
        have e41 : sl a 41 = .bool (((leB 0 x1) && (leB x1 9)) && (leB 0 x2)) := q12
        have e42 : sl a 42 = .bool (((leB 0 x1) && (leB x1 9)) && (leB 0 x2)) := q13
        have e43 : sl a 43 = gv (((leB 0 x1) && (leB x1 9)) && (leB 0 x2)) (.pointer (some ⟨g101, 2, none⟩)) := q14
        have e44 : sl a 44 = gv (((leB 0 x1) && (leB x1 9)) && (leB 0 x2)) (.int .i64 x2) := q15
        have e45 : sl a 45 = gv (((leB 0 x1) && (leB x1 9)) && (leB 0 x2)) (.pointer (some ⟨g101, 0, none⟩)) := q16
        have e46 : sl a 46 = gv (((leB 0 x1) && (leB x1 9)) && (leB 0 x2)) (.slice A0 x0.length c0) := q17
        have e47 : sl a 47 = gv (((leB 0 x1) && (leB x1 9)) && (leB 0 x2)) (.int .i64 (x0.length : Int)) := q18
        have e48 : sl a 48 = gv (((leB 0 x1) && (leB x1 9)) && (leB 0 x2)) (.bool (ltB x2 (x0.length : Int))) := q19
        have e49 : sl a 49 = .bool ((((leB 0 x1) && (leB x1 9)) && (leB 0 x2)) && (ltB x2 (x0.length : Int))) := q20
        have e50 : sl a 50 = .bool ((((leB 0 x1) && (leB x1 9)) && (leB 0 x2)) && (ltB x2 (x0.length : Int))) := q21
        have e51 : sl a 51 = gv ((((leB 0 x1) && (leB x1 9)) && (leB 0 x2)) && (ltB x2 (x0.length : Int))) (.pointer (some ⟨g101, 0, none⟩)) := q22
        have e52 : sl a 52 = gv ((((leB 0 x1) && (leB x1 9)) && (leB 0 x2)) && (ltB x2 (x0.length : Int))) (.slice A0 x0.length c0) := q23
        have e53 : sl a 53 = gv ((((leB 0 x1) && (leB x1 9)) && (leB 0 x2)) && (ltB x2 (x0.length : Int))) (.pointer (some ⟨g101, 2, none⟩)) := q24
        have e54 : sl a 54 = gv ((((leB 0 x1) && (leB x1 9)) && (leB 0 x2)) && (ltB x2 (x0.length : Int))) (.int .i64 x2) := q25
        have e55 : sl a 55 = gv ((((leB 0 x1) && (leB x1 9)) && (leB 0 x2)) && (ltB x2 (x0.length : Int))) (.pointer (some ⟨adB A0, adO A0 + x2.toNat * 1, none⟩)) := q26
        have e56 : sl a 56 = gv ((((leB 0 x1) && (leB x1 9)) && (leB 0 x2)) && (ltB x2 (x0.length : Int))) (.bool (x0.getD x2.toNat false)) := q27
        have e57 : sl a 57 = gv ((((leB 0 x1) && (leB x1 9)) && (leB 0 x2)) && (ltB x2 (x0.length : Int))) (.pointer (some ⟨g101, 3, none⟩)) := q28
        have e58 : sl a 58 = gv ((((leB 0 x1) && (leB x1 9)) && (leB 0 x2)) && (ltB x2 (x0.length : Int))) (.bool x3) := q29
        have e59 : sl a 59 = gv ((((leB 0 x1) && (leB x1 9)) && (leB 0 x2)) && (ltB x2 (x0.length : Int))) (.bool ((x0.getD x2.toNat false) != x3)) := q30
        have e60 : sl a 60 = .bool (((((leB 0 x1) && (leB x1 9)) && (leB 0 x2)) && (ltB x2 (x0.length : Int))) && ((x0.getD x2.toNat false) != x3)) := q31
        have e61 : sl a 61 = .bool (((((leB 0 x1) && (leB x1 9)) && (leB 0 x2)) && (ltB x2 (x0.length : Int))) && ((x0.getD x2.toNat false) != x3)) := q32
        have e62 : sl a 62 = gv (((((leB 0 x1) && (leB x1 9)) && (leB 0 x2)) && (ltB x2 (x0.length : Int))) && ((x0.getD x2.toNat false) != x3)) (.pointer (some ⟨g101, 4, none⟩)) := q33
        have e63 : sl a 63 = gv (((((leB 0 x1) && (leB x1 9)) && (leB 0 x2)) && (ltB x2 (x0.length : Int))) && ((x0.getD x2.toNat false) != x3)) (.int .i64 x4) := q34
        have e64 : sl a 64 = gv (((((leB 0 x1) && (leB x1 9)) && (leB 0 x2)) && (ltB x2 (x0.length : Int))) && ((x0.getD x2.toNat false) != x3)) (.bool (leB 1 x4)) := q35
        have e65 : sl a 65 = .bool ((((((leB 0 x1) && (leB x1 9)) && (leB 0 x2)) && (ltB x2 (x0.length : Int))) && ((x0.getD x2.toNat false) != x3)) && (leB 1 x4)) := q36
        have e66 : sl a 66 = .bool ((((((leB 0 x1) && (leB x1 9)) && (leB 0 x2)) && (ltB x2 (x0.length : Int))) && ((x0.getD x2.toNat false) != x3)) && (leB 1 x4)) := q37
        have e67 : sl a 67 = gv ((((((leB 0 x1) && (leB x1 9)) && (leB 0 x2)) && (ltB x2 (x0.length : Int))) && ((x0.getD x2.toNat false) != x3)) && (leB 1 x4)) (.pointer (some ⟨g101, 4, none⟩)) := q38
        have e68 : sl a 68 = gv ((((((leB 0 x1) && (leB x1 9)) && (leB 0 x2)) && (ltB x2 (x0.length : Int))) && ((x0.getD x2.toNat false) != x3)) && (leB 1 x4)) (.int .i64 x4) := q39
        have e69 : sl a 69 = gv ((((((leB 0 x1) && (leB x1 9)) && (leB 0 x2)) && (ltB x2 (x0.length : Int))) && ((x0.getD x2.toNat false) != x3)) && (leB 1 x4)) (.bool (leB x4 3)) := q40
        have e70 : sl a 70 = .bool (((((((leB 0 x1) && (leB x1 9)) && (leB 0 x2)) && (ltB x2 (x0.length : Int))) && ((x0.getD x2.toNat false) != x3)) && (leB 1 x4)) && (leB x4 3)) := q41
        have e2 : sl a 2 = .bool (((((((leB 0 x1) && (leB x1 9)) && (leB 0 x2)) && (ltB x2 (x0.length : Int))) && ((x0.getD x2.toNat false) != x3)) && (leB 1 x4)) && (leB x4 3)) := q42
        replace S : St w u [.box g101 28 #[.slice A0 x0.length c0, .int .i64 x1, .int .i64 x2, .bool x3, .int .i64 x4]] := S
        clear q0 q1 q2 q3 q4 q5 q6 q7 q8 q9 q10 q11 q12 q13 q14 q15 q16 q17 q18 q19 q20 q21 q22 q23 q24 q25 q26 q27 q28 q29 q30 q31 q32 q33 q34 q35 q36 q37 q38 q39 q40 q41 q42
        have hF := hF.region hB [(29, .pointer (some ⟨g101, 1, none⟩)), (30, .int .i64 x1), (31, .bool (leB 0 x1)), (32, .bool (leB 0 x1)), (33, gv (leB 0 x1) (.pointer (some ⟨g101, 1, none⟩))), (34, gv (leB 0 x1) (.int .i64 x1)), (35, gv (leB 0 x1) (.bool (leB x1 9))), (36, .bool ((leB 0 x1) && (leB x1 9))), (37, .bool ((leB 0 x1) && (leB x1 9))), (38, gv ((leB 0 x1) && (leB x1 9)) (.pointer (some ⟨g101, 2, none⟩))), (39, gv ((leB 0 x1) && (leB x1 9)) (.int .i64 x2)), (40, gv ((leB 0 x1) && (leB x1 9)) (.bool (leB 0 x2))), (41, .bool (((leB 0 x1) && (leB x1 9)) && (leB 0 x2))), (42, .bool (((leB 0 x1) && (leB x1 9)) && (leB 0 x2))), (43, gv (((leB 0 x1) && (leB x1 9)) && (leB 0 x2)) (.pointer (some ⟨g101, 2, none⟩))), (44, gv (((leB 0 x1) && (leB x1 9)) && (leB 0 x2)) (.int .i64 x2)), (45, gv (((leB 0 x1) && (leB x1 9)) && (leB 0 x2)) (.pointer (some ⟨g101, 0, none⟩))), (46, gv (((leB 0 x1) && (leB x1 9)) && (leB 0 x2)) (.slice A0 x0.length c0)), (47, gv (((leB 0 x1) && (leB x1 9)) && (leB 0 x2)) (.int .i64 (x0.length : Int))), (48, gv (((leB 0 x1) && (leB x1 9)) && (leB 0 x2)) (.bool (ltB x2 (x0.length : Int)))), (49, .bool ((((leB 0 x1) && (leB x1 9)) && (leB 0 x2)) && (ltB x2 (x0.length : Int)))), (50, .bool ((((leB 0 x1) && (leB x1 9)) && (leB 0 x2)) && (ltB x2 (x0.length : Int)))), (51, gv ((((leB 0 x1) && (leB x1 9)) && (leB 0 x2)) && (ltB x2 (x0.length : Int))) (.pointer (some ⟨g101, 0, none⟩))), (52, gv ((((leB 0 x1) && (leB x1 9)) && (leB 0 x2)) && (ltB x2 (x0.length : Int))) (.slice A0 x0.length c0)), (53, gv ((((leB 0 x1) && (leB x1 9)) && (leB 0 x2)) && (ltB x2 (x0.length : Int))) (.pointer (some ⟨g101, 2, none⟩))), (54, gv ((((leB 0 x1) && (leB x1 9)) && (leB 0 x2)) && (ltB x2 (x0.length : Int))) (.int .i64 x2)), (55, gv ((((leB 0 x1) && (leB x1 9)) && (leB 0 x2)) && (ltB x2 (x0.length : Int))) (.pointer (some ⟨adB A0, adO A0 + x2.toNat * 1, none⟩))), (56, gv ((((leB 0 x1) && (leB x1 9)) && (leB 0 x2)) && (ltB x2 (x0.length : Int))) (.bool (x0.getD x2.toNat false))), (57, gv ((((leB 0 x1) && (leB x1 9)) && (leB 0 x2)) && (ltB x2 (x0.length : Int))) (.pointer (some ⟨g101, 3, none⟩))), (58, gv ((((leB 0 x1) && (leB x1 9)) && (leB 0 x2)) && (ltB x2 (x0.length : Int))) (.bool x3)), (59, gv ((((leB 0 x1) && (leB x1 9)) && (leB 0 x2)) && (ltB x2 (x0.length : Int))) (.bool ((x0.getD x2.toNat false) != x3))), (60, .bool (((((leB 0 x1) && (leB x1 9)) && (leB 0 x2)) && (ltB x2 (x0.length : Int))) && ((x0.getD x2.toNat false) != x3))), (61, .bool (((((leB 0 x1) && (leB x1 9)) && (leB 0 x2)) && (ltB x2 (x0.length : Int))) && ((x0.getD x2.toNat false) != x3))), (62, gv (((((leB 0 x1) && (leB x1 9)) && (leB 0 x2)) && (ltB x2 (x0.length : Int))) && ((x0.getD x2.toNat false) != x3)) (.pointer (some ⟨g101, 4, none⟩))), (63, gv (((((leB 0 x1) && (leB x1 9)) && (leB 0 x2)) && (ltB x2 (x0.length : Int))) && ((x0.getD x2.toNat false) != x3)) (.int .i64 x4)), (64, gv (((((leB 0 x1) && (leB x1 9)) && (leB 0 x2)) && (ltB x2 (x0.length : Int))) && ((x0.getD x2.toNat false) != x3)) (.bool (leB 1 x4))), (65, .bool ((((((leB 0 x1) && (leB x1 9)) && (leB 0 x2)) && (ltB x2 (x0.length : Int))) && ((x0.getD x2.toNat false) != x3)) && (leB 1 x4))), (66, .bool ((((((leB 0 x1) && (leB x1 9)) && (leB 0 x2)) && (ltB x2 (x0.length : Int))) && ((x0.getD x2.toNat false) != x3)) && (leB 1 x4))), (67, gv ((((((leB 0 x1) && (leB x1 9)) && (leB 0 x2)) && (ltB x2 (x0.length : Int))) && ((x0.getD x2.toNat false) != x3)) && (leB 1 x4)) (.pointer (some ⟨g101, 4, none⟩))), (68, gv ((((((leB 0 x1) && (leB x1 9)) && (leB 0 x2)) && (ltB x2 (x0.length : Int))) && ((x0.getD x2.toNat false) != x3)) && (leB 1 x4)) (.int .i64 x4)), (69, gv ((((((leB 0 x1) && (leB x1 9)) && (leB 0 x2)) && (ltB x2 (x0.length : Int))) && ((x0.getD x2.toNat false) != x3)) && (leB 1 x4)) (.bool (leB x4 3))), (70, .bool (((((((leB 0 x1) && (leB x1 9)) && (leB 0 x2)) && (ltB x2 (x0.length : Int))) && ((x0.getD x2.toNat false) != x3)) && (leB 1 x4)) && (leB x4 3))), (2, .bool (((((((leB 0 x1) && (leB x1 9)) && (leB 0 x2)) && (ltB x2 (x0.length : Int))) && ((x0.getD x2.toNat false) != x3)) && (leB 1 x4)) && (leB x4 3)))] (allSl_mem ⟨e29, e30, e31, e32, e33, e34, e35, e36, e37, e38, e39, e40, e41, e42, e43, e44, e45, e46, e47, e48, e49, e50, e51, e52, e53, e54, e55, e56, e57, e58, e59, e60, e61, e62, e63, e64, e65, e66, e67, e68, e69, e70, e2, trivial⟩) rfl
        clear hB e29 e30 e31 e32 e33 e34 e35 e36 e37 e38 e39 e40 e41 e42 e43 e44 e45 e46 e47 e48 e49 e50 e51 e52 e53 e54 e55 e56 e57 e58 e59 e60 e61 e62 e63 e64 e65 e66 e67 e68 e69 e70 e2
        refine wp_ret ?_
        repeat with_reducible (first | refine then_ret ?_ | refine in_ret ?_ | refine in_nrm ?_)
        refine ret1_gw (.inl rfl) hF rfl (res_tmp (hF.ev rfl)) ?_
        obtain rfl := Option.some.inj hM
        exact ⟨rfl, S.sel [] rfl rfl⟩
    · replace hM := bif_t hc103 hM
      refine cond_t hF rfl hc103 ?_
      refine wp_seq ?_
      refine wp_region_lit ?_
      refine op_val (v := .pointer (some ⟨g101, 2, none⟩)) rfl rfl hF rfl (run_fieldAddr rfl fl28_2 (hF.ev rfl) rfl) ?_; clear hF; intro a hF
      refine op_val (v := .int .i64 x2) rfl rfl hF rfl (run_load1 rfl one3 (hF.ev rfl) ((S.free 0 rfl).cell rfl)) ?_; clear hF; intro a hF
      refine op_val (v := .bool (x2 == 0)) rfl rfl hF rfl (run_eql (hF.ev rfl) rfl rfl) ?_; clear hF; intro a hF
      refine op_val (v := .bool (x2 == 0)) rfl rfl hF rfl (run_move rfl (hF.ev rfl)) ?_; clear hF; intro a hF
      refine op_gv (v := .pointer (some ⟨g101, 3, none⟩)) rfl rfl hF rfl (yt (gw_yield hF rfl rfl rfl)) (fun hg => (run_fieldAddr rfl fl28_3 (hF.ev rfl) rfl)) ?_; clear hF; intro a hF
      refine op_gv (v := .bool x3) rfl rfl hF rfl (yt (gw_yield hF rfl rfl rfl)) (fun hg => (run_load1 rfl one4 ((hF.ev rfl).trans (gv_t hg)) ((S.free 0 rfl).cell rfl))) ?_; clear hF; intro a hF
      refine op_gv (v := .bool (!x3)) rfl rfl hF rfl (yt (gw_yield hF rfl rfl rfl)) (fun hg => (run_not rfl ((hF.ev rfl).trans (gv_t hg)))) ?_; clear hF; intro a hF
      refine op_val (v := .bool ((x2 == 0) && (!x3))) rfl rfl hF rfl (run_pick_and rfl (hF.ev rfl) (fun hp => ((hF.ev rfl).trans (gv_t hp))) rfl) ?_; clear hF; intro a hF
      refine op_val (v := .bool ((x2 == 0) && (!x3))) rfl rfl hF rfl (run_move rfl (hF.ev rfl)) ?_; clear hF; intro a hF
      refine op_gv (v := .pointer (some ⟨g101, 4, none⟩)) rfl rfl hF rfl (yt (gw_yield hF rfl rfl rfl)) (fun hg => (run_fieldAddr rfl fl28_4 (hF.ev rfl) rfl)) ?_; clear hF; intro a hF
      refine op_gv (v := .int .i64 x4) rfl rfl hF rfl (yt (gw_yield hF rfl rfl rfl)) (fun hg => (run_load1 rfl one3 ((hF.ev rfl).trans (gv_t hg)) ((S.free 0 rfl).cell rfl))) ?_; clear hF; intro a hF
      refine op_gv (v := .bool (x4 == 0)) rfl rfl hF rfl (yt (gw_yield hF rfl rfl rfl)) (fun hg => (run_eql ((hF.ev rfl).trans (gv_t hg)) rfl rfl)) ?_; clear hF; intro a hF
      refine op_val (v := .bool (((x2 == 0) && (!x3)) && (x4 == 0))) rfl rfl hF rfl (run_pick_and rfl (hF.ev rfl) (fun hp => ((hF.ev rfl).trans (gv_t hp))) rfl) ?_; clear hF; intro a hF
      refine op_val (v := .bool (((x2 == 0) && (!x3)) && (x4 == 0))) rfl rfl hF rfl (run_assign rfl (hF.ev rfl)) ?_; clear hF; intro a hF
      refine wpList_nil ?_
      refine wp_ret ?_
      repeat with_reducible (first | refine then_ret ?_ | refine in_ret ?_ | refine in_nrm ?_)
      refine ret1_gw (.inl rfl) hF rfl (res_tmp (hF.ev rfl)) ?_
      obtain rfl := Option.some.inj hM
      exact ⟨rfl, S.sel [] rfl rfl⟩
  · replace hM := bif_t hc102 hM
    refine cond_t hF rfl hc102 ?_
    refine wp_seq ?_
    refine wp_region_lit ?_
    refine op_val (v := .bool false) rfl rfl hF rfl (run_assign rfl rfl) ?_; clear hF; intro a hF
    refine wpList_nil ?_
    refine wp_ret ?_
    repeat with_reducible (first | refine then_ret ?_ | refine in_ret ?_ | refine in_nrm ?_)
    refine ret1_gw (.inl rfl) hF rfl (res_tmp (hF.ev rfl)) ?_
    obtain rfl := Option.some.inj hM
    exact ⟨rfl, S.sel [] rfl rfl⟩

set_option maxHeartbeats 4000000 in
theorem c_slices_Clone_bool_bool {x0 : List Bool} {A0 : Option Addr} {n0 c0 : Nat} {w : World} {r : List Bool} (h0 : Rt w 1 eB A0 n0 c0 x0) (hM : m_slices_Clone_bool_bool x0 = some r) :
    Calls Try.prog 40 #[.slice A0 n0 c0] w (fun e w' => ∃ (B0 : Option Addr) (N0 D0 : Nat), e = .returned (.slice B0 N0 D0) ∧ N0 = r.length ∧ St w w' [.row 4 1 (.slice B0 N0 D0) N0 (r.flatMap eB)]) := by
  obtain rfl := h0.len
  unfold m_slices_Clone_bool_bool at hM
  obtain ⟨hk, hM⟩ := chk_ex hM
  replace hk := apB_t hk
  obtain rfl := Option.some.inj hM
  refine calls_gw Try.func40 Try.ntmps40 rfl [(0, .slice A0 x0.length c0)] ⟨rfl, trivial⟩ rfl ?_
  intro a hF
  have S := St.nil w
  refine wp_seq ?_
  refine wp_region_lit ?_
  refine op_val (v := .slice none 0 0) rfl rfl hF rfl (run_assign rfl rfl) ?_; clear hF; intro a hF
  refine wpList_nil ?_
  refine wp_seq ?_
  refine wp_seq ?_
  refine wp_region_lit ?_
  refine op_val (v := .slice A0 x0.length c0) rfl rfl hF rfl (run_move rfl (hF.ev rfl)) ?_; clear hF; intro a hF
  refine op_val (v := .bool (Option.isNone A0)) rfl rfl hF rfl (run_eqlNil rfl Try.underlying22 (hF.ev rfl) rfl) ?_; clear hF; intro a hF
  refine wpList_nil ?_
  cases hc101 : (Option.isNone A0)
  · have hx := trivial
    refine cond_f hF rfl hc101 ?_
    refine wp_skip ?_
    refine wp_seq ?_
    refine wp_region_lit ?_
    refine op_newrow (cs := #[]) (size := 1) rfl rfl hF rfl S (run_buildSlice0 rfl Try.underlying22 rfl) rfl (Nat.zero_le _) ?_; clear hF S; intro a g102 u hF S
    refine op_val (v := .slice A0 x0.length c0) rfl rfl hF rfl (run_move rfl (hF.ev rfl)) ?_; clear hF; intro a hF
    have hk105 := hk
    refine op_appendL (lx := []) (ly := x0) rfl rfl hF rfl S rfl (hF.ev rfl) (hF.ev rfl) (i := 0) rfl rfl Try.underlying22 inf4 rfl (by decide) (S.rc0 h0.rc).rd rfl eB_one hk105 (by decide) ?_; clear hF S; intro a B103 d104 u hF S
    refine op_val (v := .slice B103 (([] ++ x0).length) d104) rfl rfl hF rfl (run_assign rfl (hF.ev rfl)) ?_; clear hF; intro a hF
    refine wpList_nil ?_
    refine wp_ret ?_
    repeat with_reducible (first | refine then_ret ?_ | refine in_ret ?_ | refine in_nrm ?_)
    refine ret1_gw (.inl rfl) hF rfl (res_tmp (hF.ev rfl)) ?_
    exact ⟨B103, (([] ++ x0).length), d104, rfl, rfl, S.sel [0] rfl rfl⟩
  · have hx := nil_none h0.rc.rd rfl hc101
    refine cond_t hF rfl hc101 ?_
    refine wp_seq ?_
    refine wp_region_lit ?_
    refine op_val (v := .slice none 0 0) rfl rfl hF rfl (run_assign rfl rfl) ?_; clear hF; intro a hF
    refine wpList_nil ?_
    refine wp_ret ?_
    repeat with_reducible (first | refine then_ret ?_ | refine in_ret ?_ | refine in_nrm ?_)
    refine ret1_gw (.inl rfl) hF rfl (res_tmp (hF.ev rfl)) ?_
    subst hx
    replace S := S.nilrow 4 1
    exact ⟨none, 0, 0, rfl, rfl, S.sel [0] rfl rfl⟩

set_option maxHeartbeats 4000000 in
theorem c_impl_Panel_clone {x0 : List Bool} {x1 : Int} {x2 : Int} {x3 : Bool} {x4 : Int} {A0 : Option Addr} {n0 c0 : Nat} {w : World} {r : List Bool × Int × Int × Bool × Int} (h0 : Rt w 1 eB A0 n0 c0 x0) (hM : m_impl_Panel_clone x0 x1 x2 x3 x4 = some r) :
    Calls Try.prog 35 #[.agg #[.slice A0 n0 c0, .int .i64 x1, .int .i64 x2, .bool x3, .int .i64 x4]] w (fun e w' => ∃ (B0 : Option Addr) (N0 D0 : Nat), e = .returned (.agg #[.slice B0 N0 D0, .int .i64 r.2.1, .int .i64 r.2.2.1, .bool r.2.2.2.1, .int .i64 r.2.2.2.2]) ∧ N0 = r.1.length ∧ St w w' [.row 4 1 (.slice B0 N0 D0) N0 (r.1.flatMap eB)]) := by
  obtain rfl := h0.len
  unfold m_impl_Panel_clone at hM
  refine calls_gw Try.func35 Try.ntmps35 rfl [(0, .agg #[.slice A0 x0.length c0, .int .i64 x1, .int .i64 x2, .bool x3, .int .i64 x4])] ⟨rfl, trivial⟩ rfl ?_
  intro a hF
  have S := St.nil w
  refine wp_seq ?_
  refine wp_region_lit ?_
  refine op_new (cs := #[.slice A0 x0.length c0, .int .i64 x1, .int .i64 x2, .bool x3, .int .i64 x4]) rfl rfl hF rfl S (run_box rfl (hF.ev rfl) rfl) ?_; clear hF S; intro a g101 u hF S
  refine op_new (cs := #[.slice none 0 0, .int .i64 0, .int .i64 0, .bool false, .int .i64 0]) rfl rfl hF rfl S (run_allocZ rfl zr28) ?_; clear hF S; intro a g102 u hF S
  refine wpList_nil ?_
  refine wp_seq ?_
  refine wp_region_lit ?_
  refine op_val (v := .pointer (some ⟨g101, 0, none⟩)) rfl rfl hF rfl (run_fieldAddr rfl fl28_0 (hF.ev rfl) rfl) ?_; clear hF; intro a hF
  refine op_val (v := .slice A0 x0.length c0) rfl rfl hF rfl (run_load1 rfl one22 (hF.ev rfl) ((S.free 1 rfl).cell rfl)) ?_; clear hF; intro a hF
  obtain ⟨p103, h103, hM⟩ := bind_ex hM
  refine op_call rfl rfl hF rfl (run_call (vs := [.slice A0 x0.length c0]) rfl rfl co40 ⟨(hF.ev rfl), trivial⟩) (c_slices_Clone_bool_bool (x0 := x0) ⟨(S.rc0 h0.rc), rfl⟩ h103) ?_
  rintro e u ⟨B104, n105, d106, rfl, rfl, T⟩
  refine ⟨_, rfl, ?_⟩
  clear hF; intro a hF
  replace S := S.call1 T; clear T
  refine op_val (v := .pointer (some ⟨g101, 0, none⟩)) rfl rfl hF rfl (run_fieldAddr rfl fl28_0 (hF.ev rfl) rfl) ?_; clear hF; intro a hF
  refine op_do rfl rfl (run_store (cs' := #[.slice B104 p103.length d106, .int .i64 x1, .int .i64 x2, .bool x3, .int .i64 x4]) rfl sz22 (hF.ev rfl) (hF.ev rfl) rfl rfl rfl (S.free 2 rfl) rfl rfl) ?_; replace S := S.put 2 rfl (#[.slice B104 p103.length d106, .int .i64 x1, .int .i64 x2, .bool x3, .int .i64 x4])
  generalize World.setRow _ _ _ = u at S ⊢
  refine wpList_nil ?_
  refine wp_seq ?_
  refine wp_region_lit ?_
  refine op_val (v := .agg #[.slice B104 p103.length d106, .int .i64 x1, .int .i64 x2, .bool x3, .int .i64 x4]) rfl rfl hF rfl (run_loadN rfl ag28 (hF.ev rfl) rfl ((S.free 2 rfl).cells 0 #[.slice B104 p103.length d106, .int .i64 x1, .int .i64 x2, .bool x3, .int .i64 x4] rfl)) ?_; clear hF; intro a hF
  refine op_do rfl rfl (run_store (cs' := #[.slice B104 p103.length d106, .int .i64 x1, .int .i64 x2, .bool x3, .int .i64 x4]) rfl sz28 (hF.ev rfl) (hF.ev rfl) rfl rfl rfl (S.free 1 rfl) rfl rfl) ?_; replace S := S.put 1 rfl (#[.slice B104 p103.length d106, .int .i64 x1, .int .i64 x2, .bool x3, .int .i64 x4])
  generalize World.setRow _ _ _ = u at S ⊢
  refine wpList_nil ?_
  refine wp_ret ?_
  repeat with_reducible (first | refine then_ret ?_ | refine in_ret ?_ | refine in_nrm ?_)
  refine ret1_gw (.inl rfl) hF rfl (res_cell (hF.ev rfl) (res_loadN ag28 rfl (S.cells 1 rfl 0 #[.slice B104 p103.length d106, .int .i64 x1, .int .i64 x2, .bool x3, .int .i64 x4] rfl))) ?_
  obtain rfl := Option.some.inj hM
  exact ⟨B104, p103.length, d106, rfl, rfl, S.sel [0] rfl rfl⟩

set_option maxHeartbeats 4000000 in
theorem c_impl_Panel_unselect {x0 : List Bool} {x1 : Int} {x2 : Int} {x3 : Bool} {x4 : Int} {A0 : Option Addr} {n0 c0 : Nat} {g0 : Nat} {w : World} {r : List Bool × Int × Int × Bool × Int} {w0 : World} {X : List Asn} (h0 : n0 = x0.length) (S : St w0 w (Asn.box g0 28 #[.slice A0 n0 c0, .int .i64 x1, .int .i64 x2, .bool x3, .int .i64 x4] :: Asn.row 4 1 (.slice A0 n0 c0) n0 (x0.flatMap eB) :: X)) (hM : m_impl_Panel_unselect x0 x1 x2 x3 x4 = some r) :
    Calls Try.prog 36 #[.pointer (some ⟨g0, 0, none⟩)] w (fun e w' => ∃ (B0 : Option Addr) (N0 D0 : Nat), e = .returned (.tuple #[]) ∧ N0 = r.1.length ∧ St w0 w' (Asn.box g0 28 #[.slice B0 N0 D0, .int .i64 r.2.1, .int .i64 r.2.2.1, .bool r.2.2.2.1, .int .i64 r.2.2.2.2] :: Asn.row 4 1 (.slice B0 N0 D0) N0 (r.1.flatMap eB) :: X)) := by
  obtain rfl := h0
  unfold m_impl_Panel_unselect at hM
  refine calls_gw Try.func36 Try.ntmps36 rfl [(0, .pointer (some ⟨g0, 0, none⟩))] ⟨rfl, trivial⟩ rfl ?_
  intro a hF
  refine wp_region_lit ?_
  refine op_val (v := .pointer (some ⟨g0, 0, none⟩)) rfl rfl hF rfl (run_move rfl (hF.ev rfl)) ?_; clear hF; intro a hF
  refine op_val (v := .pointer (some ⟨g0, 0, none⟩)) rfl rfl hF rfl (run_move rfl (hF.ev rfl)) ?_; clear hF; intro a hF
  refine op_val (v := .pointer (some ⟨g0, 0, none⟩)) rfl rfl hF rfl (run_move rfl (hF.ev rfl)) ?_; clear hF; intro a hF
  refine op_val (v := .pointer (some ⟨g0, 0, none⟩)) rfl rfl hF rfl (run_move rfl (hF.ev rfl)) ?_; clear hF; intro a hF
  refine op_val (v := .pointer (some ⟨g0, 0, none⟩)) rfl rfl hF rfl (run_nilCheck rfl (hF.ev rfl)) ?_; clear hF; intro a hF
  refine op_val (v := .pointer (some ⟨g0, 1, none⟩)) rfl rfl hF rfl (run_fieldAddr rfl fl28_1 (hF.ev rfl) rfl) ?_; clear hF; intro a hF
  refine op_do rfl rfl (run_store (cs' := #[.slice A0 x0.length c0, .int .i64 (-1), .int .i64 x2, .bool x3, .int .i64 x4]) rfl sz3 (hF.ev rfl) rfl rfl rfl rfl (S.free 0 rfl) rfl rfl) ?_; replace S := S.put 0 rfl (#[.slice A0 x0.length c0, .int .i64 (-1), .int .i64 x2, .bool x3, .int .i64 x4])
  generalize World.setRow _ _ _ = u at S ⊢
  refine op_val (v := .pointer (some ⟨g0, 0, none⟩)) rfl rfl hF rfl (run_nilCheck rfl (hF.ev rfl)) ?_; clear hF; intro a hF
  refine op_val (v := .pointer (some ⟨g0, 2, none⟩)) rfl rfl hF rfl (run_fieldAddr rfl fl28_2 (hF.ev rfl) rfl) ?_; clear hF; intro a hF
  refine op_do rfl rfl (run_store (cs' := #[.slice A0 x0.length c0, .int .i64 (-1), .int .i64 0, .bool x3, .int .i64 x4]) rfl sz3 (hF.ev rfl) rfl rfl rfl rfl (S.free 0 rfl) rfl rfl) ?_; replace S := S.put 0 rfl (#[.slice A0 x0.length c0, .int .i64 (-1), .int .i64 0, .bool x3, .int .i64 x4])
  generalize World.setRow _ _ _ = u at S ⊢
  refine op_val (v := .pointer (some ⟨g0, 0, none⟩)) rfl rfl hF rfl (run_nilCheck rfl (hF.ev rfl)) ?_; clear hF; intro a hF
  refine op_val (v := .pointer (some ⟨g0, 3, none⟩)) rfl rfl hF rfl (run_fieldAddr rfl fl28_3 (hF.ev rfl) rfl) ?_; clear hF; intro a hF
  refine op_do rfl rfl (run_store (cs' := #[.slice A0 x0.length c0, .int .i64 (-1), .int .i64 0, .bool false, .int .i64 x4]) rfl sz4 (hF.ev rfl) rfl rfl rfl rfl (S.free 0 rfl) rfl rfl) ?_; replace S := S.put 0 rfl (#[.slice A0 x0.length c0, .int .i64 (-1), .int .i64 0, .bool false, .int .i64 x4])
  generalize World.setRow _ _ _ = u at S ⊢
  refine op_val (v := .pointer (some ⟨g0, 0, none⟩)) rfl rfl hF rfl (run_nilCheck rfl (hF.ev rfl)) ?_; clear hF; intro a hF
  refine op_val (v := .pointer (some ⟨g0, 4, none⟩)) rfl rfl hF rfl (run_fieldAddr rfl fl28_4 (hF.ev rfl) rfl) ?_; clear hF; intro a hF
  refine op_do rfl rfl (run_store (cs' := #[.slice A0 x0.length c0, .int .i64 (-1), .int .i64 0, .bool false, .int .i64 0]) rfl sz3 (hF.ev rfl) rfl rfl rfl rfl (S.free 0 rfl) rfl rfl) ?_; replace S := S.put 0 rfl (#[.slice A0 x0.length c0, .int .i64 (-1), .int .i64 0, .bool false, .int .i64 0])
  generalize World.setRow _ _ _ = u at S ⊢
  refine wpList_nil ?_
  repeat with_reducible (first | refine then_ret ?_ | refine in_ret ?_ | refine in_nrm ?_)
  refine ret0_gw (.inr rfl) hF rfl  ?_
  obtain rfl := Option.some.inj hM
  exact ⟨A0, x0.length, c0, rfl, rfl, S.selT (M := [.box g0 28 #[.slice A0 x0.length c0, .int .i64 (-1), .int .i64 0, .bool false, .int .i64 0], .row 4 1 (.slice A0 x0.length c0) x0.length (x0.flatMap eB)]) 2 [0, 1] rfl rfl rfl⟩

end Go.Proofs.Ytapkaobelejkkaa
