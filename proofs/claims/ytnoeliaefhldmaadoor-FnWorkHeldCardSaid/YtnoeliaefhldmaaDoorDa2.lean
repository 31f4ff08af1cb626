/- Calls return what the models say. -/
import Derived.Test.YtnoeliaefhldmaaDoorDa1
namespace Go.Proofs.YtnoeliaefhldmaaDoor
open Go.ChangeShapes Go.WideShapes Go.ChangeAt Go.RowKit
set_option linter.unusedVariables false
set_option linter.unusedSimpArgs false

set_option maxHeartbeats 4000000 in
theorem c_spec_l20Work {x0 : List Int} {x1 : Int} {x2 : Int} {A0 : Option Addr} {n0 c0 : Nat} {g0 : Nat} {w : World} {r : List Bool × List Bool × List (Int × Int) × Int} {w0 : World} {X : List Asn} (h0 : Rt w0 1 eU A0 n0 c0 x0) (S : St w0 w (Asn.box g0 78 #[.slice A0 n0 c0, .int .i64 x1] :: X)) (hM : m_spec_l20Work x0 x1 x2 = some r) :
    Calls Tryd.prog 28 #[.pointer (some ⟨g0, 0, none⟩), .int .i64 x2] w (fun e w' => ∃ (B0 : Option Addr) (N0 D0 : Nat) (B1 : Option Addr) (N1 D1 : Nat) (B2 : Option Addr) (N2 D2 : Nat), e = .returned (.agg #[.slice B0 N0 D0, .slice B1 N1 D1, .slice B2 N2 D2]) ∧ N0 = r.1.length ∧ N1 = r.2.1.length ∧ N2 = r.2.2.1.length ∧ St w0 w' (Asn.row 4 1 (.slice B0 N0 D0) N0 (r.1.flatMap eB) :: Asn.row 4 1 (.slice B1 N1 D1) N1 (r.2.1.flatMap eB) :: Asn.row 48 2 (.slice B2 N2 D2) N2 (r.2.2.1.flatMap ePermit) :: Asn.box g0 78 #[.slice A0 n0 c0, .int .i64 r.2.2.2] :: X)) := by
  obtain rfl := h0.len
  unfold m_spec_l20Work at hM
  refine calls_gw Tryd.func28 Tryd.ntmps28 rfl [(0, .pointer (some ⟨g0, 0, none⟩)), (1, .int .i64 x2)] ⟨rfl, rfl, trivial⟩ rfl ?_
  intro a hF
  refine wp_seq ?_
  refine wp_region_lit ?_
  refine op_new (cs := #[.slice none 0 0, .slice none 0 0, .slice none 0 0]) rfl rfl hF rfl S (run_allocZ rfl zr26) ?_; clear hF S; intro a g101 u hF S
  refine wpList_nil ?_
  refine wp_seq ?_
  refine wp_region_lit ?_
  refine op_val (v := .agg #[.slice none 0 0, .slice none 0 0, .slice none 0 0]) rfl rfl hF rfl (run_build (vs := []) rfl trivial (bd26 )) ?_; clear hF; intro a hF
  refine op_new (cs := #[.slice none 0 0, .slice none 0 0, .slice none 0 0]) rfl rfl hF rfl S (run_allocZ rfl zr26) ?_; clear hF S; intro a g102 u hF S
  refine op_do rfl rfl (run_store (cs' := #[.slice none 0 0, .slice none 0 0, .slice none 0 0]) rfl sz26 (hF.ev rfl) (hF.ev rfl) rfl rfl rfl (S.free 0 rfl) rfl rfl) ?_; replace S := S.put 0 rfl (#[.slice none 0 0, .slice none 0 0, .slice none 0 0])
  generalize World.setRow _ _ _ = u at S ⊢
  refine wpList_nil ?_
  refine wp_seq ?_
  refine wp_seq ?_
  refine wp_region_lit ?_
  refine op_val (v := .pointer (some ⟨g0, 0, none⟩)) rfl rfl hF rfl (run_move rfl (hF.ev rfl)) ?_; clear hF; intro a hF
  obtain ⟨p103, h103, hM⟩ := bind_ex hM
  refine op_call rfl rfl hF rfl (run_call (vs := [.pointer (some ⟨g0, 0, none⟩), .int .i64 5]) rfl rfl co29 ⟨(hF.ev rfl), rfl, trivial⟩) (c_spec_l20Rd_pick (x0 := x0) (x1 := x1) (x2 := 5) ⟨h0.rc, rfl⟩ (show St w0 _ (Asn.box g0 78 #[.slice A0 x0.length c0, .int .i64 x1] :: Asn.box g102 26 #[.slice none 0 0, .slice none 0 0, .slice none 0 0] :: Asn.box g101 26 #[.slice none 0 0, .slice none 0 0, .slice none 0 0] :: X) from S.selT (M := [.box g0 78 #[.slice A0 x0.length c0, .int .i64 x1], .box g102 26 #[.slice none 0 0, .slice none 0 0, .slice none 0 0], .box g101 26 #[.slice none 0 0, .slice none 0 0, .slice none 0 0]]) 3 [2, 0, 1] rfl rfl rfl) h103) ?_
  rintro e u ⟨rfl, T⟩
  refine ⟨_, rfl, ?_⟩
  clear hF; intro a hF
  clear S; have S := T; clear T
  refine op_val (v := .int .i64 (w64 (1 + p103.1))) rfl rfl hF rfl (run_add (z := w64 (1 + p103.1)) rfl (hF.ev rfl) rfl rfl) ?_; clear hF; intro a hF
  refine op_val (v := .int .i64 (w64 (1 + p103.1))) rfl rfl hF rfl (run_assign rfl (hF.ev rfl)) ?_; clear hF; intro a hF
  refine wpList_nil ?_
  obtain ⟨o105, hM110, hM⟩ := bind_ex hM
  refine wp_cut (fun a u => ∃ (p104 : Int × List Bool × List Bool) (B106 : Option Addr) (d107 : Nat) (B108 : Option Addr) (d109 : Nat), p104 = o105 ∧ Fr a 106 [(0, .pointer (some ⟨g0, 0, none⟩)), (1, .int .i64 x2), (4, .pointer (some ⟨g101, 0, none⟩)), (5, .pointer (some ⟨g102, 0, none⟩))] ∧ St w0 u (Asn.box g0 78 #[.slice A0 x0.length c0, .int .i64 p104.1] :: Asn.box g102 26 #[.slice B106 p104.2.1.length d107, .slice B108 p104.2.2.length d109, .slice none 0 0] :: Asn.box g101 26 #[.slice none 0 0, .slice none 0 0, .slice none 0 0] :: Asn.row 4 1 (.slice B106 p104.2.1.length d107) p104.2.1.length (p104.2.1.flatMap eB) :: Asn.row 4 1 (.slice B108 p104.2.2.length d109) p104.2.2.length (p104.2.2.flatMap eB) :: X)) ?_ ?_
  · have _ := trivial
    refine wp_block ?_
    replace S := S.nilrow 4 1
    replace S := S.nilrow 4 1
    refine loop_gw (fun m a u => ∃ (p111 : Int × Int × List Bool × List Bool) (B112 : Option Addr) (d113 : Nat) (B114 : Option Addr) (d115 : Nat), m_spec_l20Work_l1 x0 m p111 = some _ ∧ Fr a 106 [(0, .pointer (some ⟨g0, 0, none⟩)), (1, .int .i64 x2), (4, .pointer (some ⟨g101, 0, none⟩)), (5, .pointer (some ⟨g102, 0, none⟩)), (6, .int .i64 p111.1)] ∧ St w0 u (Asn.box g0 78 #[.slice A0 x0.length c0, .int .i64 p111.2.1] :: Asn.box g102 26 #[.slice B112 p111.2.2.1.length d113, .slice B114 p111.2.2.2.length d115, .slice none 0 0] :: Asn.box g101 26 #[.slice none 0 0, .slice none 0 0, .slice none 0 0] :: Asn.row 4 1 (.slice B112 p111.2.2.1.length d113) p111.2.2.1.length (p111.2.2.1.flatMap eB) :: Asn.row 4 1 (.slice B114 p111.2.2.2.length d115) p111.2.2.2.length (p111.2.2.2.flatMap eB) :: X)) FUEL ⟨(w64 (1 + p103.1), p103.2, ([] : List Bool), ([] : List Bool)), none, 0, none, 0, hM110, hF.keep _ ⟨rfl, rfl, rfl, rfl, rfl, trivial⟩, S.selT (M := [.box g0 78 #[.slice A0 x0.length c0, .int .i64 p103.2], .box g102 26 #[.slice none 0 0, .slice none 0 0, .slice none 0 0], .box g101 26 #[.slice none 0 0, .slice none 0 0, .slice none 0 0], .row 4 1 (.slice none 0 0) 0 (([] : List Bool).flatMap eB), .row 4 1 (.slice none 0 0) 0 (([] : List Bool).flatMap eB)]) 5 [2, 3, 4, 1, 0] rfl rfl rfl⟩ ?_
    clear hF S hM110; rintro m a u ⟨p111, B112, d113, B114, d115, hM110, hF, S⟩
    rcases m with _ | f1
    · exact none_some hM110
    rw [m_spec_l20Work_l1.eq_2] at hM110
    refine wp_seq ?_
    refine wp_seq ?_
    refine wp_region_lit ?_
    refine op_val (v := .int .i64 p111.1) rfl rfl hF rfl (run_move rfl (hF.ev rfl)) ?_; clear hF; intro a hF
    refine op_val (v := .bool (ltB 0 p111.1)) rfl rfl hF rfl (run_gtr (hF.ev rfl) rfl rfl) ?_; clear hF; intro a hF
    refine wpList_nil ?_
    cases hc116 : (ltB 0 p111.1)
    · replace hM110 := bif_f hc116 hM110
      refine cond_f hF rfl hc116 ?_
      refine wp_exit ?_
      repeat with_reducible (first | refine then_exit ?_ | refine in_hit ?_ | refine in_miss rfl ?_)
      obtain rfl := Option.some.inj hM110
      exact ⟨(p111.2.1, p111.2.2.1, p111.2.2.2), B112, d113, B114, d115, rfl, hF.keep _ ⟨rfl, rfl, rfl, rfl, trivial⟩, S.selT (M := [.box g0 78 #[.slice A0 x0.length c0, .int .i64 p111.2.1], .box g102 26 #[.slice B112 p111.2.2.1.length d113, .slice B114 p111.2.2.2.length d115, .slice none 0 0], .box g101 26 #[.slice none 0 0, .slice none 0 0, .slice none 0 0], .row 4 1 (.slice B112 p111.2.2.1.length d113) p111.2.2.1.length (p111.2.2.1.flatMap eB), .row 4 1 (.slice B114 p111.2.2.2.length d115) p111.2.2.2.length (p111.2.2.2.flatMap eB)]) 5 [0, 1, 2, 3, 4] rfl rfl rfl⟩
    · replace hM110 := bif_t hc116 hM110
      refine cond_t hF rfl hc116 ?_
      refine wp_skip ?_
      refine wp_seq ?_
      refine wp_block ?_
      refine wp_seq ?_
      refine wp_region_lit ?_
      refine op_val (v := .pointer (some ⟨g0, 0, none⟩)) rfl rfl hF rfl (run_move rfl (hF.ev rfl)) ?_; clear hF; intro a hF
      obtain ⟨p117, h117, hM110⟩ := bind_ex hM110
      refine op_call rfl rfl hF rfl (run_call (vs := [.pointer (some ⟨g0, 0, none⟩), .int .i64 4]) rfl rfl co29 ⟨(hF.ev rfl), rfl, trivial⟩) (c_spec_l20Rd_pick (x0 := x0) (x1 := p111.2.1) (x2 := 4) ⟨h0.rc, rfl⟩ (show St w0 _ (Asn.box g0 78 #[.slice A0 x0.length c0, .int .i64 p111.2.1] :: Asn.box g102 26 #[.slice B112 p111.2.2.1.length d113, .slice B114 p111.2.2.2.length d115, .slice none 0 0] :: Asn.box g101 26 #[.slice none 0 0, .slice none 0 0, .slice none 0 0] :: Asn.row 4 1 (.slice B112 p111.2.2.1.length d113) p111.2.2.1.length (p111.2.2.1.flatMap eB) :: Asn.row 4 1 (.slice B114 p111.2.2.2.length d115) p111.2.2.2.length (p111.2.2.2.flatMap eB) :: X) from S.selT (M := [.box g0 78 #[.slice A0 x0.length c0, .int .i64 p111.2.1], .box g102 26 #[.slice B112 p111.2.2.1.length d113, .slice B114 p111.2.2.2.length d115, .slice none 0 0], .box g101 26 #[.slice none 0 0, .slice none 0 0, .slice none 0 0], .row 4 1 (.slice B112 p111.2.2.1.length d113) p111.2.2.1.length (p111.2.2.1.flatMap eB), .row 4 1 (.slice B114 p111.2.2.2.length d115) p111.2.2.2.length (p111.2.2.2.flatMap eB)]) 5 [0, 1, 2, 3, 4] rfl rfl rfl) h117) ?_
      rintro e u ⟨rfl, T⟩
      refine ⟨_, rfl, ?_⟩
      clear hF; intro a hF
      clear S; have S := T; clear T
      refine op_val (v := .int .i64 p117.1) rfl rfl hF rfl (run_assign rfl (hF.ev rfl)) ?_; clear hF; intro a hF
      refine wpList_nil ?_
      refine wp_seq ?_
      refine wp_region_lit ?_
      refine op_val (v := .pointer (some ⟨g102, 0, none⟩)) rfl rfl hF rfl (run_fieldAddr rfl fl26_0 (hF.ev rfl) rfl) ?_; clear hF; intro a hF
      refine op_val (v := .slice B112 p111.2.2.1.length d113) rfl rfl hF rfl (run_load1 rfl one23 (hF.ev rfl) ((S.free 1 rfl).cell rfl)) ?_; clear hF; intro a hF
      refine op_val (v := .int .i64 p117.1) rfl rfl hF rfl (run_move rfl (hF.ev rfl)) ?_; clear hF; intro a hF
      refine op_val (v := .bool (p117.1 == 0)) rfl rfl hF rfl (run_eql (hF.ev rfl) rfl rfl) ?_; clear hF; intro a hF
      refine op_newrowL (ls := (([p117.1 == 0] : List Bool) : List Bool)) (e := eB) rfl rfl hF rfl S (run_buildS (vs := [(0, .bool (p117.1 == 0))]) rfl ⟨⟨rfl, (hF.ev rfl)⟩, trivial⟩ (bs23_1_0 rfl)) rfl eB_len (Nat.le_of_ble_eq_true rfl) ?_; clear hF S; intro a g118 u hF S
      obtain ⟨hk121, hM110⟩ := chk_ex hM110
      replace hk121 := apB_t hk121
      refine op_appendL (lx := p111.2.2.1) (ly := ([p117.1 == 0] : List Bool)) rfl rfl hF rfl S rfl (hF.ev rfl) (hF.ev rfl) (i := 4) rfl rfl Tryd.underlying23 inf4 rfl (by decide) (S.rc 0 rfl).rd rfl eB_one hk121 (by decide) ?_; clear hF S; intro a B119 d120 u hF S
      refine op_val (v := .pointer (some ⟨g102, 0, none⟩)) rfl rfl hF rfl (run_fieldAddr rfl fl26_0 (hF.ev rfl) rfl) ?_; clear hF; intro a hF
      refine op_do rfl rfl (run_store (cs' := #[.slice B119 ((p111.2.2.1 ++ ([p117.1 == 0] : List Bool)).length) d120, .slice B114 p111.2.2.2.length d115, .slice none 0 0]) rfl sz23 (hF.ev rfl) (hF.ev rfl) rfl rfl rfl (S.free 2 rfl) rfl rfl) ?_; replace S := S.put 2 rfl (#[.slice B119 ((p111.2.2.1 ++ ([p117.1 == 0] : List Bool)).length) d120, .slice B114 p111.2.2.2.length d115, .slice none 0 0])
      generalize World.setRow _ _ _ = u at S ⊢
      refine wpList_nil ?_
      refine wp_region_lit ?_
      refine op_val (v := .pointer (some ⟨g102, 1, none⟩)) rfl rfl hF rfl (run_fieldAddr rfl fl26_1 (hF.ev rfl) rfl) ?_; clear hF; intro a hF
      refine op_val (v := .slice B114 p111.2.2.2.length d115) rfl rfl hF rfl (run_load1 rfl one23 (hF.ev rfl) ((S.free 2 rfl).cell rfl)) ?_; clear hF; intro a hF
      refine op_val (v := .int .i64 p117.1) rfl rfl hF rfl (run_move rfl (hF.ev rfl)) ?_; clear hF; intro a hF
      refine op_val (v := .bool (ltB 1 p117.1)) rfl rfl hF rfl (run_gtr (hF.ev rfl) rfl rfl) ?_; clear hF; intro a hF
      refine op_newrowL (ls := (([ltB 1 p117.1] : List Bool) : List Bool)) (e := eB) rfl rfl hF rfl S (run_buildS (vs := [(0, .bool (ltB 1 p117.1))]) rfl ⟨⟨rfl, (hF.ev rfl)⟩, trivial⟩ (bs23_1_0 rfl)) rfl eB_len (Nat.le_of_ble_eq_true rfl) ?_; clear hF S; intro a g122 u hF S
      obtain ⟨hk125, hM110⟩ := chk_ex hM110
      replace hk125 := apB_t hk125
      refine op_appendL (lx := p111.2.2.2) (ly := ([ltB 1 p117.1] : List Bool)) rfl rfl hF rfl S rfl (hF.ev rfl) (hF.ev rfl) (i := 6) rfl rfl Tryd.underlying23 inf4 rfl (by decide) (S.rc 0 rfl).rd rfl eB_one hk125 (by decide) ?_; clear hF S; intro a B123 d124 u hF S
      refine op_val (v := .pointer (some ⟨g102, 1, none⟩)) rfl rfl hF rfl (run_fieldAddr rfl fl26_1 (hF.ev rfl) rfl) ?_; clear hF; intro a hF
      refine op_do rfl rfl (run_store (cs' := #[.slice B119 ((p111.2.2.1 ++ ([p117.1 == 0] : List Bool)).length) d120, .slice B123 ((p111.2.2.2 ++ ([ltB 1 p117.1] : List Bool)).length) d124, .slice none 0 0]) rfl sz23 (hF.ev rfl) (hF.ev rfl) rfl rfl rfl (S.free 3 rfl) rfl rfl) ?_; replace S := S.put 3 rfl (#[.slice B119 ((p111.2.2.1 ++ ([p117.1 == 0] : List Bool)).length) d120, .slice B123 ((p111.2.2.2 ++ ([ltB 1 p117.1] : List Bool)).length) d124, .slice none 0 0])
      generalize World.setRow _ _ _ = u at S ⊢
      refine wpList_nil ?_
      refine wp_region_lit ?_
      refine op_val (v := .int .i64 p111.1) rfl rfl hF rfl (run_move rfl (hF.ev rfl)) ?_; clear hF; intro a hF
      refine op_val (v := .int .i64 (w64 (p111.1 - 1))) rfl rfl hF rfl (run_sub (z := w64 (p111.1 - 1)) (hF.ev rfl) rfl rfl rfl) ?_; clear hF; intro a hF
      refine op_val (v := .int .i64 (w64 (p111.1 - 1))) rfl rfl hF rfl (run_assign rfl (hF.ev rfl)) ?_; clear hF; intro a hF
      refine wpList_nil ?_
      exact ⟨f1, Nat.lt_succ_self _, (w64 (p111.1 - 1), p117.2, p111.2.2.1 ++ ([p117.1 == 0] : List Bool), p111.2.2.2 ++ ([ltB 1 p117.1] : List Bool)), B119, d120, B123, d124, hM110, hF.keep _ ⟨rfl, rfl, rfl, rfl, rfl, trivial⟩, S.selT (M := [.box g0 78 #[.slice A0 x0.length c0, .int .i64 p117.2], .box g102 26 #[.slice B119 ((p111.2.2.1 ++ ([p117.1 == 0] : List Bool)).length) d120, .slice B123 ((p111.2.2.2 ++ ([ltB 1 p117.1] : List Bool)).length) d124, .slice none 0 0], .box g101 26 #[.slice none 0 0, .slice none 0 0, .slice none 0 0], .row 4 1 (.slice B119 ((p111.2.2.1 ++ ([p117.1 == 0] : List Bool)).length) d120) ((p111.2.2.1 ++ ([p117.1 == 0] : List Bool)).length) ((p111.2.2.1 ++ ([p117.1 == 0] : List Bool)).flatMap eB), .row 4 1 (.slice B123 ((p111.2.2.2 ++ ([ltB 1 p117.1] : List Bool)).length) d124) ((p111.2.2.2 ++ ([ltB 1 p117.1] : List Bool)).length) ((p111.2.2.2 ++ ([ltB 1 p117.1] : List Bool)).flatMap eB)]) 7 [2, 3, 4, 5, 6] rfl rfl rfl⟩
  · rintro a u ⟨p104, B106, d107, B108, d109, rfl, hF, S⟩
    refine wp_seq ?_
    refine wp_seq ?_
    refine wp_region_lit ?_
    refine op_val (v := .pointer (some ⟨g0, 0, none⟩)) rfl rfl hF rfl (run_move rfl (hF.ev rfl)) ?_; clear hF; intro a hF
    obtain ⟨p126, h126, hM⟩ := bind_ex hM
    refine op_call rfl rfl hF rfl (run_call (vs := [.pointer (some ⟨g0, 0, none⟩), .int .i64 5]) rfl rfl co29 ⟨(hF.ev rfl), rfl, trivial⟩) (c_spec_l20Rd_pick (x0 := x0) (x1 := p104.1) (x2 := 5) ⟨h0.rc, rfl⟩ (show St w0 _ (Asn.box g0 78 #[.slice A0 x0.length c0, .int .i64 p104.1] :: Asn.box g102 26 #[.slice B106 p104.2.1.length d107, .slice B108 p104.2.2.length d109, .slice none 0 0] :: Asn.box g101 26 #[.slice none 0 0, .slice none 0 0, .slice none 0 0] :: Asn.row 4 1 (.slice B106 p104.2.1.length d107) p104.2.1.length (p104.2.1.flatMap eB) :: Asn.row 4 1 (.slice B108 p104.2.2.length d109) p104.2.2.length (p104.2.2.flatMap eB) :: X) from S.selT (M := [.box g0 78 #[.slice A0 x0.length c0, .int .i64 p104.1], .box g102 26 #[.slice B106 p104.2.1.length d107, .slice B108 p104.2.2.length d109, .slice none 0 0], .box g101 26 #[.slice none 0 0, .slice none 0 0, .slice none 0 0], .row 4 1 (.slice B106 p104.2.1.length d107) p104.2.1.length (p104.2.1.flatMap eB), .row 4 1 (.slice B108 p104.2.2.length d109) p104.2.2.length (p104.2.2.flatMap eB)]) 5 [0, 1, 2, 3, 4] rfl rfl rfl) h126) ?_
    rintro e u ⟨rfl, T⟩
    refine ⟨_, rfl, ?_⟩
    clear hF; intro a hF
    clear S; have S := T; clear T
    refine op_val (v := .int .i64 p126.1) rfl rfl hF rfl (run_assign rfl (hF.ev rfl)) ?_; clear hF; intro a hF
    refine wpList_nil ?_
    obtain ⟨o128, hM135, hM⟩ := bind_ex hM
    refine wp_cut (fun a u => ∃ (p127 : Int × List Bool × List Bool × List (Int × Int)) (B129 : Option Addr) (d130 : Nat) (B131 : Option Addr) (d132 : Nat) (B133 : Option Addr) (d134 : Nat), p127 = o128 ∧ Fr a 106 [(0, .pointer (some ⟨g0, 0, none⟩)), (1, .int .i64 x2), (4, .pointer (some ⟨g101, 0, none⟩)), (5, .pointer (some ⟨g102, 0, none⟩))] ∧ St w0 u (Asn.box g0 78 #[.slice A0 x0.length c0, .int .i64 p127.1] :: Asn.box g102 26 #[.slice B129 p127.2.1.length d130, .slice B131 p127.2.2.1.length d132, .slice B133 p127.2.2.2.length d134] :: Asn.box g101 26 #[.slice none 0 0, .slice none 0 0, .slice none 0 0] :: Asn.row 4 1 (.slice B129 p127.2.1.length d130) p127.2.1.length (p127.2.1.flatMap eB) :: Asn.row 4 1 (.slice B131 p127.2.2.1.length d132) p127.2.2.1.length (p127.2.2.1.flatMap eB) :: Asn.row 48 2 (.slice B133 p127.2.2.2.length d134) p127.2.2.2.length (p127.2.2.2.flatMap ePermit) :: X)) ?_ ?_
    · have _ := trivial
      refine wp_block ?_
      replace S := S.nilrow 48 2
      refine loop_gw (fun m a u => ∃ (p136 : Int × Int × List Bool × List Bool × List (Int × Int)) (B137 : Option Addr) (d138 : Nat) (B139 : Option Addr) (d140 : Nat) (B141 : Option Addr) (d142 : Nat), m_spec_l20Work_l2 x0 m p136 = some _ ∧ Fr a 106 [(0, .pointer (some ⟨g0, 0, none⟩)), (1, .int .i64 x2), (4, .pointer (some ⟨g101, 0, none⟩)), (5, .pointer (some ⟨g102, 0, none⟩)), (8, .int .i64 p136.1)] ∧ St w0 u (Asn.box g0 78 #[.slice A0 x0.length c0, .int .i64 p136.2.1] :: Asn.box g102 26 #[.slice B137 p136.2.2.1.length d138, .slice B139 p136.2.2.2.1.length d140, .slice B141 p136.2.2.2.2.length d142] :: Asn.box g101 26 #[.slice none 0 0, .slice none 0 0, .slice none 0 0] :: Asn.row 4 1 (.slice B137 p136.2.2.1.length d138) p136.2.2.1.length (p136.2.2.1.flatMap eB) :: Asn.row 4 1 (.slice B139 p136.2.2.2.1.length d140) p136.2.2.2.1.length (p136.2.2.2.1.flatMap eB) :: Asn.row 48 2 (.slice B141 p136.2.2.2.2.length d142) p136.2.2.2.2.length (p136.2.2.2.2.flatMap ePermit) :: X)) FUEL ⟨(p126.1, p126.2, p104.2.1, p104.2.2, ([] : List (Int × Int))), B106, d107, B108, d109, none, 0, hM135, hF.keep _ ⟨rfl, rfl, rfl, rfl, rfl, trivial⟩, S.selT (M := [.box g0 78 #[.slice A0 x0.length c0, .int .i64 p126.2], .box g102 26 #[.slice B106 p104.2.1.length d107, .slice B108 p104.2.2.length d109, .slice none 0 0], .box g101 26 #[.slice none 0 0, .slice none 0 0, .slice none 0 0], .row 4 1 (.slice B106 p104.2.1.length d107) p104.2.1.length (p104.2.1.flatMap eB), .row 4 1 (.slice B108 p104.2.2.length d109) p104.2.2.length (p104.2.2.flatMap eB), .row 48 2 (.slice none 0 0) 0 (([] : List (Int × Int)).flatMap ePermit)]) 6 [1, 2, 3, 4, 5, 0] rfl rfl rfl⟩ ?_
      clear hF S hM135; rintro m a u ⟨p136, B137, d138, B139, d140, B141, d142, hM135, hF, S⟩
      rcases m with _ | f2
      · exact none_some hM135
      rw [m_spec_l20Work_l2.eq_2] at hM135
      refine wp_seq ?_
      refine wp_seq ?_
      refine wp_region_lit ?_
      refine op_val (v := .int .i64 p136.1) rfl rfl hF rfl (run_move rfl (hF.ev rfl)) ?_; clear hF; intro a hF
      refine op_val (v := .bool (ltB 0 p136.1)) rfl rfl hF rfl (run_gtr (hF.ev rfl) rfl rfl) ?_; clear hF; intro a hF
      refine wpList_nil ?_
      cases hc143 : (ltB 0 p136.1)
      · replace hM135 := bif_f hc143 hM135
        refine cond_f hF rfl hc143 ?_
        refine wp_exit ?_
        repeat with_reducible (first | refine then_exit ?_ | refine in_hit ?_ | refine in_miss rfl ?_)
        obtain rfl := Option.some.inj hM135
        exact ⟨(p136.2.1, p136.2.2.1, p136.2.2.2.1, p136.2.2.2.2), B137, d138, B139, d140, B141, d142, rfl, hF.keep _ ⟨rfl, rfl, rfl, rfl, trivial⟩, S.selT (M := [.box g0 78 #[.slice A0 x0.length c0, .int .i64 p136.2.1], .box g102 26 #[.slice B137 p136.2.2.1.length d138, .slice B139 p136.2.2.2.1.length d140, .slice B141 p136.2.2.2.2.length d142], .box g101 26 #[.slice none 0 0, .slice none 0 0, .slice none 0 0], .row 4 1 (.slice B137 p136.2.2.1.length d138) p136.2.2.1.length (p136.2.2.1.flatMap eB), .row 4 1 (.slice B139 p136.2.2.2.1.length d140) p136.2.2.2.1.length (p136.2.2.2.1.flatMap eB), .row 48 2 (.slice B141 p136.2.2.2.2.length d142) p136.2.2.2.2.length (p136.2.2.2.2.flatMap ePermit)]) 6 [0, 1, 2, 3, 4, 5] rfl rfl rfl⟩
      · replace hM135 := bif_t hc143 hM135
        refine cond_t hF rfl hc143 ?_
        refine wp_skip ?_
        refine wp_seq ?_
        refine wp_block ?_
        refine wp_seq ?_
        obtain ⟨p144, h144, hM135⟩ := bind_ex hM135
        obtain ⟨p145, h145, hM135⟩ := bind_ex hM135
        obtain ⟨p146, h146, hM135⟩ := bind_ex hM135
        refine region_gw (D := [42, 43, 44, 45, 46, 47, 48, 49, 50, 51, 41, 52, 53, 9, 10]) (Lr := (Asn.box g102 26 #[.slice B137 p136.2.2.1.length d138, .slice B139 p136.2.2.2.1.length d140, .slice B141 p136.2.2.2.2.length d142] :: Asn.box g101 26 #[.slice none 0 0, .slice none 0 0, .slice none 0 0] :: Asn.row 4 1 (.slice B137 p136.2.2.1.length d138) p136.2.2.1.length (p136.2.2.1.flatMap eB) :: Asn.row 4 1 (.slice B139 p136.2.2.2.1.length d140) p136.2.2.2.1.length (p136.2.2.2.1.flatMap eB) :: Asn.row 48 2 (.slice B141 p136.2.2.2.2.length d142) p136.2.2.2.2.length (p136.2.2.2.2.flatMap ePermit) :: X)) (deps := (fun | 0 => [42] | 1 => [43] | 2 => [44] | 3 => [45] | 4 => [46] | 5 => [47] | 6 => [48] | 7 => [49] | 8 => [50] | 9 => [51] | 10 => [41, 51] | 11 => [52, 51] | 12 => [53] | 13 => [9] | 14 => [9, 51] | 15 => [10] | _ => [])) (rd := (fun _ => [])) (zr := (fun _ => []))
          (φ := fun i vs => match i, vs with | 0, [v42] => v42 = .agg #[.slice B137 p136.2.2.1.length d138, .slice B139 p136.2.2.2.1.length d140, .slice B141 p136.2.2.2.2.length d142] | 1, [v43] => v43 = .pointer (some ⟨g0, 0, none⟩) | 2, [v44] => v44 = .pointer (some ⟨g102, 0, none⟩) | 3, [v45] => v45 = .slice B137 p136.2.2.1.length d138 | 4, [v46] => v46 = .int .i64 (p136.2.2.1.length : Int) | 5, [v47] => v47 = .int .i64 p144.1 | 6, [v48] => v48 = .pointer (some ⟨g0, 0, none⟩) | 7, [v49] => v49 = .int .i64 p145.1 | 8, [v50] => v50 = .agg #[.int .i64 4, .int .i64 p144.1, .int .i64 p145.1] | 9, [v51] => v51 = .tuple #[.agg #[.slice (slA (vtup (vtup v51 0) 0)) p146.1.length (slC (vtup (vtup v51 0) 0)), .slice (slA (vtup (vtup v51 0) 1)) p146.2.1.length (slC (vtup (vtup v51 0) 1)), .slice (slA (vtup (vtup v51 0) 2)) p146.2.2.1.length (slC (vtup (vtup v51 0) 2))], .bool p146.2.2.2] | 10, [v41, v51] => v41 = .tuple #[.agg #[.slice (slA (vtup (vtup v51 0) 0)) p146.1.length (slC (vtup (vtup v51 0) 0)), .slice (slA (vtup (vtup v51 0) 1)) p146.2.1.length (slC (vtup (vtup v51 0) 1)), .slice (slA (vtup (vtup v51 0) 2)) p146.2.2.1.length (slC (vtup (vtup v51 0) 2))], .bool p146.2.2.2] | 11, [v52, v51] => v52 = .agg #[.slice (slA (vtup (vtup v51 0) 0)) p146.1.length (slC (vtup (vtup v51 0) 0)), .slice (slA (vtup (vtup v51 0) 1)) p146.2.1.length (slC (vtup (vtup v51 0) 1)), .slice (slA (vtup (vtup v51 0) 2)) p146.2.2.1.length (slC (vtup (vtup v51 0) 2))] | 12, [v53] => v53 = .bool p146.2.2.2 | 13, [v9] => v9 = .pointer (some ⟨ptB v9, 0, none⟩) | 15, [v10] => v10 = .bool p146.2.2.2 | _, _ => True)
          (C := fun i vs => match i, vs with | 5, [v47] => [.box g0 78 #[.slice A0 x0.length c0, .int .i64 p144.2]] | 7, [v49] => [.box g0 78 #[.slice A0 x0.length c0, .int .i64 p145.2]] | 9, [v51] => [.row 4 1 (.slice (slA (vtup (vtup v51 0) 0)) p146.1.length (slC (vtup (vtup v51 0) 0))) p146.1.length (p146.1.flatMap eB), .row 4 1 (.slice (slA (vtup (vtup v51 0) 1)) p146.2.1.length (slC (vtup (vtup v51 0) 1))) p146.2.1.length (p146.2.1.flatMap eB), .row 48 2 (.slice (slA (vtup (vtup v51 0) 2)) p146.2.2.1.length (slC (vtup (vtup v51 0) 2))) p146.2.2.1.length (p146.2.2.1.flatMap ePermit)] | 13, [v9] => [.box (ptB v9) 26 #[.slice none 0 0, .slice none 0 0, .slice none 0 0]] | 14, [v9, v51] => [.box (ptB v9) 26 #[.slice (slA (vtup (vtup v51 0) 0)) p146.1.length (slC (vtup (vtup v51 0) 0)), .slice (slA (vtup (vtup v51 0) 1)) p146.2.1.length (slC (vtup (vtup v51 0) 1)), .slice (slA (vtup (vtup v51 0) 2)) p146.2.2.1.length (slC (vtup (vtup v51 0) 2))]] | _, _ => [])
          (κ := (fun | 5 => some 7 | 13 => some 14 | _ => none)) (Z := (fun | 5 => [.box g0 78 #[.slice A0 x0.length c0, .int .i64 p136.2.1]] | _ => [])) mixed hF (by kernel_rfl) (show St w0 _ (Asn.box g0 78 #[.slice A0 x0.length c0, .int .i64 p136.2.1] :: Asn.box g102 26 #[.slice B137 p136.2.2.1.length d138, .slice B139 p136.2.2.2.1.length d140, .slice B141 p136.2.2.2.2.length d142] :: Asn.box g101 26 #[.slice none 0 0, .slice none 0 0, .slice none 0 0] :: Asn.row 4 1 (.slice B137 p136.2.2.1.length d138) p136.2.2.1.length (p136.2.2.1.flatMap eB) :: Asn.row 4 1 (.slice B139 p136.2.2.2.1.length d140) p136.2.2.2.1.length (p136.2.2.2.1.flatMap eB) :: Asn.row 48 2 (.slice B141 p136.2.2.2.2.length d142) p136.2.2.2.2.length (p136.2.2.2.2.flatMap ePermit) :: X) from S.selT (M := [.box g0 78 #[.slice A0 x0.length c0, .int .i64 p136.2.1], .box g102 26 #[.slice B137 p136.2.2.1.length d138, .slice B139 p136.2.2.2.1.length d140, .slice B141 p136.2.2.2.2.length d142], .box g101 26 #[.slice none 0 0, .slice none 0 0, .slice none 0 0], .row 4 1 (.slice B137 p136.2.2.1.length d138) p136.2.2.1.length (p136.2.2.1.flatMap eB), .row 4 1 (.slice B139 p136.2.2.2.1.length d140) p136.2.2.2.1.length (p136.2.2.2.1.flatMap eB), .row 48 2 (.slice B141 p136.2.2.2.2.length d142) p136.2.2.2.2.length (p136.2.2.2.2.flatMap ePermit)]) 6 [0, 1, 2, 3, 4, 5] rfl rfl rfl) ?_ ?_
        · refine ⟨?_, ?_, ?_, ?_, ?_, ?_, ?_, ?_, ?_, ?_, ?_, ?_, ?_, ?_, ?_, ?_, trivial⟩
          · intro a u X' hB hu hp hr hz hl S
            replace S : St w0 u ([] ++ X') := S
            exact .inl ⟨rfl, .agg #[.slice B137 p136.2.2.1.length d138, .slice B139 p136.2.2.2.1.length d140, .slice B141 p136.2.2.2.2.length d142], u, (run_loadN rfl ag26 (hF.evB hB rfl rfl) rfl ((gr_box S hl 0 rfl).cells 0 #[.slice B137 p136.2.2.1.length d138, .slice B139 p136.2.2.2.1.length d140, .slice B141 p136.2.2.2.2.length d142] rfl)), rfl, S⟩
          · intro a u X' hB hu hp hr hz hl S
            replace S : St w0 u ([] ++ X') := S
            exact .inl ⟨rfl, .pointer (some ⟨g0, 0, none⟩), u, (run_move rfl (hF.evB hB rfl rfl)), rfl, S⟩
          · intro a u X' hB hu hp hr hz hl S
            replace S : St w0 u ([] ++ X') := S
            exact .inl ⟨rfl, .pointer (some ⟨g102, 0, none⟩), u, (run_fieldAddr rfl fl26_0 (hF.evB hB rfl rfl) rfl), rfl, S⟩
          · intro a u X' hB hu hp hr hz hl S
            replace S : St w0 u ([] ++ X') := S
            have e44 : sl a 44 = .pointer (some ⟨g102, 0, none⟩) := hp 2 rfl
            exact .inl ⟨rfl, .slice B137 p136.2.2.1.length d138, u, (run_load1 rfl one23 (ev_sl e44) ((gr_box S hl 0 rfl).cell rfl)), rfl, S⟩
          · intro a u X' hB hu hp hr hz hl S
            replace S : St w0 u ([] ++ X') := S
            have e45 : sl a 45 = .slice B137 p136.2.2.1.length d138 := hp 3 rfl
            exact .inl ⟨rfl, .int .i64 (p136.2.2.1.length : Int), u, (run_lenL rfl rfl Tryd.underlying23 (ev_sl e45)), rfl, S⟩
          · intro a u X' hB hu hp hr hz hl S
            replace S : St w0 u ([.box g0 78 #[.slice A0 x0.length c0, .int .i64 p136.2.1]] ++ X') := S
            have e43 : sl a 43 = .pointer (some ⟨g0, 0, none⟩) := hp 1 rfl
            have e46 : sl a 46 = .int .i64 (p136.2.2.1.length : Int) := hp 4 rfl
            refine .inr (.inr (.inl ⟨rfl, _, _, (run_call (vs := [.pointer (some ⟨g0, 0, none⟩), .int .i64 (p136.2.2.1.length : Int)]) rfl rfl co29 ⟨(ev_sl e43), (ev_sl e46), trivial⟩), ?_⟩))
            refine Calls.mono (c_spec_l20Rd_pick (x0 := x0) (x1 := p136.2.1) (x2 := (p136.2.2.1.length : Int)) ⟨h0.rc, rfl⟩ S h144) ?_
            rintro e w1 ⟨rfl, T⟩
            exact ⟨_, rfl, rfl, T⟩
          · intro a u X' hB hu hp hr hz hl S
            replace S : St w0 u ([] ++ X') := S
            exact .inl ⟨rfl, .pointer (some ⟨g0, 0, none⟩), u, (run_move rfl (hF.evB hB rfl rfl)), rfl, S⟩
          · intro a u X' hB hu hp hr hz hl S
            replace S : St w0 u ([.box g0 78 #[.slice A0 x0.length c0, .int .i64 p144.2]] ++ X') := S
            have e48 : sl a 48 = .pointer (some ⟨g0, 0, none⟩) := hp 6 rfl
            refine .inr (.inr (.inl ⟨rfl, _, _, (run_call (vs := [.pointer (some ⟨g0, 0, none⟩), .int .i64 4]) rfl rfl co29 ⟨(ev_sl e48), (ev_const _ _), trivial⟩), ?_⟩))
            refine Calls.mono (c_spec_l20Rd_pick (x0 := x0) (x1 := p144.2) (x2 := 4) ⟨h0.rc, rfl⟩ S h145) ?_
            rintro e w1 ⟨rfl, T⟩
            exact ⟨_, rfl, rfl, T⟩
          · intro a u X' hB hu hp hr hz hl S
            replace S : St w0 u ([] ++ X') := S
            have e47 : sl a 47 = .int .i64 p144.1 := hp 5 rfl
            have e49 : sl a 49 = .int .i64 p145.1 := hp 7 rfl
            exact .inl ⟨rfl, .agg #[.int .i64 4, .int .i64 p144.1, .int .i64 p145.1], u, (run_build (vs := [(0, .int .i64 4), (1, .int .i64 p144.1), (2, .int .i64 p145.1)]) rfl ⟨⟨rfl, (ev_const _ _)⟩, ⟨rfl, (ev_sl e47)⟩, ⟨rfl, (ev_sl e49)⟩, trivial⟩ (bd35_0_1_2 rfl rfl rfl)), rfl, S⟩
          · intro a u X' hB hu hp hr hz hl S
            replace S : St w0 u ([] ++ X') := S
            have e42 : sl a 42 = .agg #[.slice B137 p136.2.2.1.length d138, .slice B139 p136.2.2.2.1.length d140, .slice B141 p136.2.2.2.2.length d142] := hp 0 rfl
            have e50 : sl a 50 = .agg #[.int .i64 4, .int .i64 p144.1, .int .i64 p145.1] := hp 8 rfl
            refine .inr (.inr (.inl ⟨rfl, _, _, (run_call (vs := [.agg #[.slice B137 p136.2.2.1.length d138, .slice B139 p136.2.2.2.1.length d140, .slice B141 p136.2.2.2.2.length d142], .agg #[.int .i64 4, .int .i64 p144.1, .int .i64 p145.1]]) rfl rfl co15 ⟨(ev_sl e42), (ev_sl e50), trivial⟩), ?_⟩))
            refine Calls.mono (c_spec_WorkDo (x0 := p136.2.2.1) (x1 := p136.2.2.2.1) (x2 := p136.2.2.2.2) (x3 := 4) (x4 := p144.1) (x5 := p145.1) ⟨(gr_rc S hl 2 rfl), rfl⟩ ⟨(gr_rc S hl 3 rfl), rfl⟩ ⟨(gr_rc S hl 4 rfl), rfl⟩ h146) ?_
            rintro e w1 ⟨B147, n148, d149, B150, n151, d152, B153, n154, d155, rfl, rfl, rfl, rfl, T⟩
            exact ⟨_, rfl, rfl, S.call3 T⟩
          · intro a u X' hB hu hp hr hz hl S
            replace S : St w0 u ([] ++ X') := S
            have e51 : sl a 51 = .tuple #[.agg #[.slice (slA (vtup (vtup (sl a 51) 0) 0)) p146.1.length (slC (vtup (vtup (sl a 51) 0) 0)), .slice (slA (vtup (vtup (sl a 51) 0) 1)) p146.2.1.length (slC (vtup (vtup (sl a 51) 0) 1)), .slice (slA (vtup (vtup (sl a 51) 0) 2)) p146.2.2.1.length (slC (vtup (vtup (sl a 51) 0) 2))], .bool p146.2.2.2] := hp 9 rfl
            exact .inl ⟨rfl, .tuple #[.agg #[.slice (slA (vtup (vtup (sl a 51) 0) 0)) p146.1.length (slC (vtup (vtup (sl a 51) 0) 0)), .slice (slA (vtup (vtup (sl a 51) 0) 1)) p146.2.1.length (slC (vtup (vtup (sl a 51) 0) 1)), .slice (slA (vtup (vtup (sl a 51) 0) 2)) p146.2.2.1.length (slC (vtup (vtup (sl a 51) 0) 2))], .bool p146.2.2.2], u, (run_move rfl (ev_sl e51)), rfl, S⟩
          · intro a u X' hB hu hp hr hz hl S
            replace S : St w0 u ([] ++ X') := S
            have e41 : sl a 41 = .tuple #[.agg #[.slice (slA (vtup (vtup (sl a 51) 0) 0)) p146.1.length (slC (vtup (vtup (sl a 51) 0) 0)), .slice (slA (vtup (vtup (sl a 51) 0) 1)) p146.2.1.length (slC (vtup (vtup (sl a 51) 0) 1)), .slice (slA (vtup (vtup (sl a 51) 0) 2)) p146.2.2.1.length (slC (vtup (vtup (sl a 51) 0) 2))], .bool p146.2.2.2] := hp 10 rfl
            exact .inl ⟨rfl, .agg #[.slice (slA (vtup (vtup (sl a 51) 0) 0)) p146.1.length (slC (vtup (vtup (sl a 51) 0) 0)), .slice (slA (vtup (vtup (sl a 51) 0) 1)) p146.2.1.length (slC (vtup (vtup (sl a 51) 0) 1)), .slice (slA (vtup (vtup (sl a 51) 0) 2)) p146.2.2.1.length (slC (vtup (vtup (sl a 51) 0) 2))], u, (run_extract rfl (ev_sl e41) rfl), rfl, S⟩
          · intro a u X' hB hu hp hr hz hl S
            replace S : St w0 u ([] ++ X') := S
            have e41 : sl a 41 = .tuple #[.agg #[.slice (slA (vtup (vtup (sl a 51) 0) 0)) p146.1.length (slC (vtup (vtup (sl a 51) 0) 0)), .slice (slA (vtup (vtup (sl a 51) 0) 1)) p146.2.1.length (slC (vtup (vtup (sl a 51) 0) 1)), .slice (slA (vtup (vtup (sl a 51) 0) 2)) p146.2.2.1.length (slC (vtup (vtup (sl a 51) 0) 2))], .bool p146.2.2.2] := hp 10 rfl
            exact .inl ⟨rfl, .bool p146.2.2.2, u, (run_extract rfl (ev_sl e41) rfl), rfl, S⟩
          · intro a u X' hB hu hp hr hz hl S
            replace S : St w0 u ([] ++ X') := S
            exact .inl ⟨rfl, _, _, (run_allocZ rfl zr26), rfl, S.alloc _ _⟩
          · intro a u X' hB hu hp hr hz hl S
            replace S : St w0 u ([.box (ptB (sl a 9)) 26 #[.slice none 0 0, .slice none 0 0, .slice none 0 0]] ++ X') := S
            have e9 : sl a 9 = .pointer (some ⟨ptB (sl a 9), 0, none⟩) := hp 13 rfl
            have e52 : sl a 52 = .agg #[.slice (slA (vtup (vtup (sl a 51) 0) 0)) p146.1.length (slC (vtup (vtup (sl a 51) 0) 0)), .slice (slA (vtup (vtup (sl a 51) 0) 1)) p146.2.1.length (slC (vtup (vtup (sl a 51) 0) 1)), .slice (slA (vtup (vtup (sl a 51) 0) 2)) p146.2.2.1.length (slC (vtup (vtup (sl a 51) 0) 2))] := hp 11 rfl
            exact .inr (.inl ⟨rfl, _, run_store (cs' := #[.slice (slA (vtup (vtup (sl a 51) 0) 0)) p146.1.length (slC (vtup (vtup (sl a 51) 0) 0)), .slice (slA (vtup (vtup (sl a 51) 0) 1)) p146.2.1.length (slC (vtup (vtup (sl a 51) 0) 1)), .slice (slA (vtup (vtup (sl a 51) 0) 2)) p146.2.2.1.length (slC (vtup (vtup (sl a 51) 0) 2))]) rfl sz26 (ev_sl e9) (ev_sl e52) rfl rfl rfl (S.free 0 rfl) rfl rfl, trivial, S.put 0 rfl (#[.slice (slA (vtup (vtup (sl a 51) 0) 0)) p146.1.length (slC (vtup (vtup (sl a 51) 0) 0)), .slice (slA (vtup (vtup (sl a 51) 0) 1)) p146.2.1.length (slC (vtup (vtup (sl a 51) 0) 1)), .slice (slA (vtup (vtup (sl a 51) 0) 2)) p146.2.2.1.length (slC (vtup (vtup (sl a 51) 0) 2))])⟩)
          · intro a u X' hB hu hp hr hz hl S
            replace S : St w0 u ([] ++ X') := S
            have e53 : sl a 53 = .bool p146.2.2.2 := hp 12 rfl
            exact .inl ⟨rfl, .bool p146.2.2.2, u, (run_assign rfl (ev_sl e53)), rfl, S⟩
        · intro a u hB hp S
          obtain ⟨q0, q1, q2, q3, q4, q5, q6, q7, q8, q9, q10, q11, q12, q13, q14, q15, _⟩ := hp
          have e42 : sl a 42 = .agg #[.slice B137 p136.2.2.1.length d138, .slice B139 p136.2.2.2.1.length d140, .slice B141 p136.2.2.2.2.length d142] := q0
          have e43 : sl a 43 = .pointer (some ⟨g0, 0, none⟩) := q1
          have e44 : sl a 44 = .pointer (some ⟨g102, 0, none⟩) := q2
          have e45 : sl a 45 = .slice B137 p136.2.2.1.length d138 := q3
          have e46 : sl a 46 = .int .i64 (p136.2.2.1.length : Int) := q4
          have e47 : sl a 47 = .int .i64 p144.1 := q5
          have e48 : sl a 48 = .pointer (some ⟨g0, 0, none⟩) := q6
          have e49 : sl a 49 = .int .i64 p145.1 := q7
          have e50 : sl a 50 = .agg #[.int .i64 4, .int .i64 p144.1, .int .i64 p145.1] := q8
          have e51 : sl a 51 = .tuple #[.agg #[.slice (slA (vtup (vtup (sl a 51) 0) 0)) p146.1.length (slC (vtup (vtup (sl a 51) 0) 0)), .slice (slA (vtup (vtup (sl a 51) 0) 1)) p146.2.1.length (slC (vtup (vtup (sl a 51) 0) 1)), .slice (slA (vtup (vtup (sl a 51) 0) 2)) p146.2.2.1.length (slC (vtup (vtup (sl a 51) 0) 2))], .bool p146.2.2.2] := q9
          have e41 : sl a 41 = .tuple #[.agg #[.slice (slA (vtup (vtup (sl a 51) 0) 0)) p146.1.length (slC (vtup (vtup (sl a 51) 0) 0)), .slice (slA (vtup (vtup (sl a 51) 0) 1)) p146.2.1.length (slC (vtup (vtup (sl a 51) 0) 1)), .slice (slA (vtup (vtup (sl a 51) 0) 2)) p146.2.2.1.length (slC (vtup (vtup (sl a 51) 0) 2))], .bool p146.2.2.2] := q10
          have e52 : sl a 52 = .agg #[.slice (slA (vtup (vtup (sl a 51) 0) 0)) p146.1.length (slC (vtup (vtup (sl a 51) 0) 0)), .slice (slA (vtup (vtup (sl a 51) 0) 1)) p146.2.1.length (slC (vtup (vtup (sl a 51) 0) 1)), .slice (slA (vtup (vtup (sl a 51) 0) 2)) p146.2.2.1.length (slC (vtup (vtup (sl a 51) 0) 2))] := q11
          have e53 : sl a 53 = .bool p146.2.2.2 := q12
          have e9 : sl a 9 = .pointer (some ⟨ptB (sl a 9), 0, none⟩) := q13
          have e10 : sl a 10 = .bool p146.2.2.2 := q15
          replace S : St w0 u (Asn.box g0 78 #[.slice A0 x0.length c0, .int .i64 p145.2] :: Asn.row 4 1 (.slice (slA (vtup (vtup (sl a 51) 0) 0)) p146.1.length (slC (vtup (vtup (sl a 51) 0) 0))) p146.1.length (p146.1.flatMap eB) :: Asn.row 4 1 (.slice (slA (vtup (vtup (sl a 51) 0) 1)) p146.2.1.length (slC (vtup (vtup (sl a 51) 0) 1))) p146.2.1.length (p146.2.1.flatMap eB) :: Asn.row 48 2 (.slice (slA (vtup (vtup (sl a 51) 0) 2)) p146.2.2.1.length (slC (vtup (vtup (sl a 51) 0) 2))) p146.2.2.1.length (p146.2.2.1.flatMap ePermit) :: Asn.box (ptB (sl a 9)) 26 #[.slice (slA (vtup (vtup (sl a 51) 0) 0)) p146.1.length (slC (vtup (vtup (sl a 51) 0) 0)), .slice (slA (vtup (vtup (sl a 51) 0) 1)) p146.2.1.length (slC (vtup (vtup (sl a 51) 0) 1)), .slice (slA (vtup (vtup (sl a 51) 0) 2)) p146.2.2.1.length (slC (vtup (vtup (sl a 51) 0) 2))] :: Asn.box g102 26 #[.slice B137 p136.2.2.1.length d138, .slice B139 p136.2.2.2.1.length d140, .slice B141 p136.2.2.2.2.length d142] :: Asn.box g101 26 #[.slice none 0 0, .slice none 0 0, .slice none 0 0] :: Asn.row 4 1 (.slice B137 p136.2.2.1.length d138) p136.2.2.1.length (p136.2.2.1.flatMap eB) :: Asn.row 4 1 (.slice B139 p136.2.2.2.1.length d140) p136.2.2.2.1.length (p136.2.2.2.1.flatMap eB) :: Asn.row 48 2 (.slice B141 p136.2.2.2.2.length d142) p136.2.2.2.2.length (p136.2.2.2.2.flatMap ePermit) :: X) := S
          clear q0 q1 q2 q3 q4 q5 q6 q7 q8 q9 q10 q11 q12 q13 q14 q15
          generalize slA (vtup (vtup (sl a 51) 0) 0) = B156 at *
          generalize slC (vtup (vtup (sl a 51) 0) 0) = d157 at *
          generalize slA (vtup (vtup (sl a 51) 0) 1) = B158 at *
          generalize slC (vtup (vtup (sl a 51) 0) 1) = d159 at *
          generalize slA (vtup (vtup (sl a 51) 0) 2) = B160 at *
          generalize slC (vtup (vtup (sl a 51) 0) 2) = d161 at *
          generalize ptB (sl a 9) = g162 at *
          have hF := hF.region hB [(42, .agg #[.slice B137 p136.2.2.1.length d138, .slice B139 p136.2.2.2.1.length d140, .slice B141 p136.2.2.2.2.length d142]), (43, .pointer (some ⟨g0, 0, none⟩)), (44, .pointer (some ⟨g102, 0, none⟩)), (45, .slice B137 p136.2.2.1.length d138), (46, .int .i64 (p136.2.2.1.length : Int)), (47, .int .i64 p144.1), (48, .pointer (some ⟨g0, 0, none⟩)), (49, .int .i64 p145.1), (50, .agg #[.int .i64 4, .int .i64 p144.1, .int .i64 p145.1]), (51, .tuple #[.agg #[.slice B156 p146.1.length d157, .slice B158 p146.2.1.length d159, .slice B160 p146.2.2.1.length d161], .bool p146.2.2.2]), (41, .tuple #[.agg #[.slice B156 p146.1.length d157, .slice B158 p146.2.1.length d159, .slice B160 p146.2.2.1.length d161], .bool p146.2.2.2]), (52, .agg #[.slice B156 p146.1.length d157, .slice B158 p146.2.1.length d159, .slice B160 p146.2.2.1.length d161]), (53, .bool p146.2.2.2), (9, .pointer (some ⟨g162, 0, none⟩)), (10, .bool p146.2.2.2)] (allSl_mem ⟨e42, e43, e44, e45, e46, e47, e48, e49, e50, e51, e41, e52, e53, e9, e10, trivial⟩) rfl
          clear hB e42 e43 e44 e45 e46 e47 e48 e49 e50 e51 e41 e52 e53 e9 e10
          refine wp_seq ?_
          refine wp_region_lit ?_
          refine op_val (v := .bool p146.2.2.2) rfl rfl hF rfl (run_move rfl (hF.ev rfl)) ?_; clear hF; intro a hF
          refine wpList_nil ?_
          obtain ⟨o164, hM171, hM135⟩ := bind_ex hM135
          refine wp_cut (fun a u => ∃ (p163 : List Bool × List Bool × List (Int × Int)) (B165 : Option Addr) (d166 : Nat) (B167 : Option Addr) (d168 : Nat) (B169 : Option Addr) (d170 : Nat), p163 = o164 ∧ Fr a 106 [(0, .pointer (some ⟨g0, 0, none⟩)), (1, .int .i64 x2), (4, .pointer (some ⟨g101, 0, none⟩)), (5, .pointer (some ⟨g102, 0, none⟩)), (8, .int .i64 p136.1)] ∧ St w0 u (Asn.box g0 78 #[.slice A0 x0.length c0, .int .i64 p145.2] :: Asn.box g102 26 #[.slice B165 p163.1.length d166, .slice B167 p163.2.1.length d168, .slice B169 p163.2.2.length d170] :: Asn.box g101 26 #[.slice none 0 0, .slice none 0 0, .slice none 0 0] :: Asn.row 4 1 (.slice B165 p163.1.length d166) p163.1.length (p163.1.flatMap eB) :: Asn.row 4 1 (.slice B167 p163.2.1.length d168) p163.2.1.length (p163.2.1.flatMap eB) :: Asn.row 48 2 (.slice B169 p163.2.2.length d170) p163.2.2.length (p163.2.2.flatMap ePermit) :: X)) ?_ ?_
          · have _ := trivial
            cases hc172 : (p146.2.2.2)
            · replace hM171 := bif_f hc172 hM171
              refine cond_f hF rfl hc172 ?_
              refine wp_skip ?_
              obtain rfl := Option.some.inj hM171
              exact ⟨(p136.2.2.1, p136.2.2.2.1, p136.2.2.2.2), B137, d138, B139, d140, B141, d142, rfl, hF.keep _ ⟨rfl, rfl, rfl, rfl, rfl, trivial⟩, S.selT (M := [.box g0 78 #[.slice A0 x0.length c0, .int .i64 p145.2], .box g102 26 #[.slice B137 p136.2.2.1.length d138, .slice B139 p136.2.2.2.1.length d140, .slice B141 p136.2.2.2.2.length d142], .box g101 26 #[.slice none 0 0, .slice none 0 0, .slice none 0 0], .row 4 1 (.slice B137 p136.2.2.1.length d138) p136.2.2.1.length (p136.2.2.1.flatMap eB), .row 4 1 (.slice B139 p136.2.2.2.1.length d140) p136.2.2.2.1.length (p136.2.2.2.1.flatMap eB), .row 48 2 (.slice B141 p136.2.2.2.2.length d142) p136.2.2.2.2.length (p136.2.2.2.2.flatMap ePermit)]) 10 [0, 5, 6, 7, 8, 9] rfl rfl rfl⟩
            · replace hM171 := bif_t hc172 hM171
              refine cond_t hF rfl hc172 ?_
              refine wp_region_lit ?_
              refine op_val (v := .agg #[.slice B156 p146.1.length d157, .slice B158 p146.2.1.length d159, .slice B160 p146.2.2.1.length d161]) rfl rfl hF rfl (run_loadN rfl ag26 (hF.ev rfl) rfl ((S.free 4 rfl).cells 0 #[.slice B156 p146.1.length d157, .slice B158 p146.2.1.length d159, .slice B160 p146.2.2.1.length d161] rfl)) ?_; clear hF; intro a hF
              refine op_do rfl rfl (run_store (cs' := #[.slice B156 p146.1.length d157, .slice B158 p146.2.1.length d159, .slice B160 p146.2.2.1.length d161]) rfl sz26 (hF.ev rfl) (hF.ev rfl) rfl rfl rfl (S.free 5 rfl) rfl rfl) ?_; replace S := S.put 5 rfl (#[.slice B156 p146.1.length d157, .slice B158 p146.2.1.length d159, .slice B160 p146.2.2.1.length d161])
              generalize World.setRow _ _ _ = u at S ⊢
              refine wpList_nil ?_
              obtain rfl := Option.some.inj hM171
              exact ⟨(p146.1, p146.2.1, p146.2.2.1), B156, d157, B158, d159, B160, d161, rfl, hF.keep _ ⟨rfl, rfl, rfl, rfl, rfl, trivial⟩, S.selT (M := [.box g0 78 #[.slice A0 x0.length c0, .int .i64 p145.2], .box g102 26 #[.slice B156 p146.1.length d157, .slice B158 p146.2.1.length d159, .slice B160 p146.2.2.1.length d161], .box g101 26 #[.slice none 0 0, .slice none 0 0, .slice none 0 0], .row 4 1 (.slice B156 p146.1.length d157) p146.1.length (p146.1.flatMap eB), .row 4 1 (.slice B158 p146.2.1.length d159) p146.2.1.length (p146.2.1.flatMap eB), .row 48 2 (.slice B160 p146.2.2.1.length d161) p146.2.2.1.length (p146.2.2.1.flatMap ePermit)]) 10 [0, 5, 6, 1, 2, 3] rfl rfl rfl⟩
          · rintro a u ⟨p163, B165, d166, B167, d168, B169, d170, rfl, hF, S⟩
            refine wp_region_lit ?_
            refine op_val (v := .int .i64 p136.1) rfl rfl hF rfl (run_move rfl (hF.ev rfl)) ?_; clear hF; intro a hF
            refine op_val (v := .int .i64 (w64 (p136.1 - 1))) rfl rfl hF rfl (run_sub (z := w64 (p136.1 - 1)) (hF.ev rfl) rfl rfl rfl) ?_; clear hF; intro a hF
            refine op_val (v := .int .i64 (w64 (p136.1 - 1))) rfl rfl hF rfl (run_assign rfl (hF.ev rfl)) ?_; clear hF; intro a hF
            refine wpList_nil ?_
            exact ⟨f2, Nat.lt_succ_self _, (w64 (p136.1 - 1), p145.2, p163.1, p163.2.1, p163.2.2), B165, d166, B167, d168, B169, d170, hM135, hF.keep _ ⟨rfl, rfl, rfl, rfl, rfl, trivial⟩, S.selT (M := [.box g0 78 #[.slice A0 x0.length c0, .int .i64 p145.2], .box g102 26 #[.slice B165 p163.1.length d166, .slice B167 p163.2.1.length d168, .slice B169 p163.2.2.length d170], .box g101 26 #[.slice none 0 0, .slice none 0 0, .slice none 0 0], .row 4 1 (.slice B165 p163.1.length d166) p163.1.length (p163.1.flatMap eB), .row 4 1 (.slice B167 p163.2.1.length d168) p163.2.1.length (p163.2.1.flatMap eB), .row 48 2 (.slice B169 p163.2.2.length d170) p163.2.2.length (p163.2.2.flatMap ePermit)]) 6 [0, 1, 2, 3, 4, 5] rfl rfl rfl⟩
    · rintro a u ⟨p127, B129, d130, B131, d132, B133, d134, rfl, hF, S⟩
      refine wp_seq ?_
      refine wp_seq ?_
      refine wp_region_lit ?_
      refine op_val (v := .pointer (some ⟨g0, 0, none⟩)) rfl rfl hF rfl (run_move rfl (hF.ev rfl)) ?_; clear hF; intro a hF
      refine op_val (v := .int .i64 x2) rfl rfl hF rfl (run_move rfl (hF.ev rfl)) ?_; clear hF; intro a hF
      obtain ⟨p173, h173, hM⟩ := bind_ex hM
      refine op_call rfl rfl hF rfl (run_call (vs := [.pointer (some ⟨g0, 0, none⟩), .int .i64 x2]) rfl rfl co46 ⟨(hF.ev rfl), (hF.ev rfl), trivial⟩) (c_spec_l20Rd_odd (x0 := x0) (x1 := p127.1) (x2 := x2) ⟨h0.rc, rfl⟩ (show St w0 _ (Asn.box g0 78 #[.slice A0 x0.length c0, .int .i64 p127.1] :: Asn.box g102 26 #[.slice B129 p127.2.1.length d130, .slice B131 p127.2.2.1.length d132, .slice B133 p127.2.2.2.length d134] :: Asn.box g101 26 #[.slice none 0 0, .slice none 0 0, .slice none 0 0] :: Asn.row 4 1 (.slice B129 p127.2.1.length d130) p127.2.1.length (p127.2.1.flatMap eB) :: Asn.row 4 1 (.slice B131 p127.2.2.1.length d132) p127.2.2.1.length (p127.2.2.1.flatMap eB) :: Asn.row 48 2 (.slice B133 p127.2.2.2.length d134) p127.2.2.2.length (p127.2.2.2.flatMap ePermit) :: X) from S.selT (M := [.box g0 78 #[.slice A0 x0.length c0, .int .i64 p127.1], .box g102 26 #[.slice B129 p127.2.1.length d130, .slice B131 p127.2.2.1.length d132, .slice B133 p127.2.2.2.length d134], .box g101 26 #[.slice none 0 0, .slice none 0 0, .slice none 0 0], .row 4 1 (.slice B129 p127.2.1.length d130) p127.2.1.length (p127.2.1.flatMap eB), .row 4 1 (.slice B131 p127.2.2.1.length d132) p127.2.2.1.length (p127.2.2.1.flatMap eB), .row 48 2 (.slice B133 p127.2.2.2.length d134) p127.2.2.2.length (p127.2.2.2.flatMap ePermit)]) 6 [0, 1, 2, 3, 4, 5] rfl rfl rfl) h173) ?_
      rintro e u ⟨rfl, T⟩
      refine ⟨_, rfl, ?_⟩
      clear hF; intro a hF
      clear S; have S := T; clear T
      refine wpList_nil ?_
      obtain ⟨o175, hM181, hM⟩ := bind_ex hM
      refine wp_cut (fun a u => ∃ (p174 : Int × List Bool × List Bool × List (Int × Int)) (B177 : Option Addr) (d178 : Nat) (B179 : Option Addr) (d180 : Nat), p174 = o175 ∧ p127.2.1.length = p174.2.1.length ∧ Fr a 106 [(4, .pointer (some ⟨g101, 0, none⟩)), (5, .pointer (some ⟨g102, 0, none⟩))] ∧ St w0 u (Asn.box g0 78 #[.slice A0 x0.length c0, .int .i64 p174.1] :: Asn.box g102 26 #[.slice B129 p127.2.1.length d130, .slice B177 p174.2.2.1.length d178, .slice B179 p174.2.2.2.length d180] :: Asn.box g101 26 #[.slice none 0 0, .slice none 0 0, .slice none 0 0] :: Asn.row 4 1 (.slice B129 p127.2.1.length d130) p127.2.1.length (p174.2.1.flatMap eB) :: Asn.row 4 1 (.slice B177 p174.2.2.1.length d178) p174.2.2.1.length (p174.2.2.1.flatMap eB) :: Asn.row 48 2 (.slice B179 p174.2.2.2.length d180) p174.2.2.2.length (p174.2.2.2.flatMap ePermit) :: X)) ?_ ?_
      · have _ := trivial
        cases hc182 : (p173.1)
        · replace hM181 := bif_f hc182 hM181
          refine cond_f hF rfl hc182 ?_
          refine wp_skip ?_
          obtain rfl := Option.some.inj hM181
          exact ⟨(p173.2, p127.2.1, p127.2.2.1, p127.2.2.2), B131, d132, B133, d134, rfl, rfl, hF.keep _ ⟨rfl, rfl, trivial⟩, S.selT (M := [.box g0 78 #[.slice A0 x0.length c0, .int .i64 p173.2], .box g102 26 #[.slice B129 p127.2.1.length d130, .slice B131 p127.2.2.1.length d132, .slice B133 p127.2.2.2.length d134], .box g101 26 #[.slice none 0 0, .slice none 0 0, .slice none 0 0], .row 4 1 (.slice B129 p127.2.1.length d130) p127.2.1.length (p127.2.1.flatMap eB), .row 4 1 (.slice B131 p127.2.2.1.length d132) p127.2.2.1.length (p127.2.2.1.flatMap eB), .row 48 2 (.slice B133 p127.2.2.2.length d134) p127.2.2.2.length (p127.2.2.2.flatMap ePermit)]) 6 [0, 1, 2, 3, 4, 5] rfl rfl rfl⟩
        · replace hM181 := bif_t hc182 hM181
          refine cond_t hF rfl hc182 ?_
          refine wp_seq ?_
          refine wp_region_lit ?_
          refine op_val (v := .pointer (some ⟨g0, 0, none⟩)) rfl rfl hF rfl (run_move rfl (hF.ev rfl)) ?_; clear hF; intro a hF
          obtain ⟨p183, h183, hM181⟩ := bind_ex hM181
          refine op_call rfl rfl hF rfl (run_call (vs := [.pointer (some ⟨g0, 0, none⟩), .int .i64 5]) rfl rfl co29 ⟨(hF.ev rfl), rfl, trivial⟩) (c_spec_l20Rd_pick (x0 := x0) (x1 := p173.2) (x2 := 5) ⟨h0.rc, rfl⟩ (show St w0 _ (Asn.box g0 78 #[.slice A0 x0.length c0, .int .i64 p173.2] :: Asn.box g102 26 #[.slice B129 p127.2.1.length d130, .slice B131 p127.2.2.1.length d132, .slice B133 p127.2.2.2.length d134] :: Asn.box g101 26 #[.slice none 0 0, .slice none 0 0, .slice none 0 0] :: Asn.row 4 1 (.slice B129 p127.2.1.length d130) p127.2.1.length (p127.2.1.flatMap eB) :: Asn.row 4 1 (.slice B131 p127.2.2.1.length d132) p127.2.2.1.length (p127.2.2.1.flatMap eB) :: Asn.row 48 2 (.slice B133 p127.2.2.2.length d134) p127.2.2.2.length (p127.2.2.2.flatMap ePermit) :: X) from S.selT (M := [.box g0 78 #[.slice A0 x0.length c0, .int .i64 p173.2], .box g102 26 #[.slice B129 p127.2.1.length d130, .slice B131 p127.2.2.1.length d132, .slice B133 p127.2.2.2.length d134], .box g101 26 #[.slice none 0 0, .slice none 0 0, .slice none 0 0], .row 4 1 (.slice B129 p127.2.1.length d130) p127.2.1.length (p127.2.1.flatMap eB), .row 4 1 (.slice B131 p127.2.2.1.length d132) p127.2.2.1.length (p127.2.2.1.flatMap eB), .row 48 2 (.slice B133 p127.2.2.2.length d134) p127.2.2.2.length (p127.2.2.2.flatMap ePermit)]) 6 [0, 1, 2, 3, 4, 5] rfl rfl rfl) h183) ?_
          rintro e u ⟨rfl, T⟩
          refine ⟨_, rfl, ?_⟩
          clear hF; intro a hF
          clear S; have S := T; clear T
          refine wpList_nil ?_
          refine wp_block ?_
          refine wp_seq ?_
          refine wp_region_lit ?_
          refine op_val (v := .bool (p183.1 == 0)) rfl rfl hF rfl (run_eql (hF.ev rfl) rfl rfl) ?_; clear hF; intro a hF
          refine op_val (v := .bool (p183.1 == 0)) rfl rfl hF rfl (run_assign rfl (hF.ev rfl)) ?_; clear hF; intro a hF
          refine wpList_nil ?_
          obtain ⟨o185, hM191, hM181⟩ := bind_ex hM181
          refine wp_cut (fun a u => ∃ (p184 : List Bool × List Bool × List (Int × Int)) (B187 : Option Addr) (d188 : Nat) (B189 : Option Addr) (d190 : Nat), p184 = o185 ∧ p127.2.1.length = p184.1.length ∧ Fr a 106 [(4, .pointer (some ⟨g101, 0, none⟩)), (5, .pointer (some ⟨g102, 0, none⟩))] ∧ St w0 u (Asn.box g0 78 #[.slice A0 x0.length c0, .int .i64 p183.2] :: Asn.box g102 26 #[.slice B129 p127.2.1.length d130, .slice B187 p184.2.1.length d188, .slice B189 p184.2.2.length d190] :: Asn.box g101 26 #[.slice none 0 0, .slice none 0 0, .slice none 0 0] :: Asn.row 4 1 (.slice B129 p127.2.1.length d130) p127.2.1.length (p184.1.flatMap eB) :: Asn.row 4 1 (.slice B187 p184.2.1.length d188) p184.2.1.length (p184.2.1.flatMap eB) :: Asn.row 48 2 (.slice B189 p184.2.2.length d190) p184.2.2.length (p184.2.2.flatMap ePermit) :: X)) ?_ ?_
          · have _ := trivial
            cases hc192 : (p183.1 == 0)
            · replace hM191 := bif_f hc192 hM191
              refine cond_f hF rfl hc192 ?_
              refine wp_seq ?_
              refine wp_region_lit ?_
              refine op_val (v := .bool (p183.1 == 1)) rfl rfl hF rfl (run_eql (hF.ev rfl) rfl rfl) ?_; clear hF; intro a hF
              refine op_val (v := .bool (p183.1 == 1)) rfl rfl hF rfl (run_assign rfl (hF.ev rfl)) ?_; clear hF; intro a hF
              refine wpList_nil ?_
              obtain ⟨o194, hM200, hM191⟩ := bind_ex hM191
              refine wp_cut (fun a u => ∃ (p193 : List Bool × List Bool × List (Int × Int)) (B196 : Option Addr) (d197 : Nat) (B198 : Option Addr) (d199 : Nat), p193 = o194 ∧ p127.2.1.length = p193.1.length ∧ Fr a 106 [(4, .pointer (some ⟨g101, 0, none⟩)), (5, .pointer (some ⟨g102, 0, none⟩))] ∧ St w0 u (Asn.box g0 78 #[.slice A0 x0.length c0, .int .i64 p183.2] :: Asn.box g102 26 #[.slice B129 p127.2.1.length d130, .slice B196 p193.2.1.length d197, .slice B198 p193.2.2.length d199] :: Asn.box g101 26 #[.slice none 0 0, .slice none 0 0, .slice none 0 0] :: Asn.row 4 1 (.slice B129 p127.2.1.length d130) p127.2.1.length (p193.1.flatMap eB) :: Asn.row 4 1 (.slice B196 p193.2.1.length d197) p193.2.1.length (p193.2.1.flatMap eB) :: Asn.row 48 2 (.slice B198 p193.2.2.length d199) p193.2.2.length (p193.2.2.flatMap ePermit) :: X)) ?_ ?_
              · have _ := trivial
                cases hc201 : (p183.1 == 1)
                · replace hM200 := bif_f hc201 hM200
                  refine cond_f hF rfl hc201 ?_
                  refine wp_seq ?_
                  refine wp_region_lit ?_
                  refine op_val (v := .bool (p183.1 == 2)) rfl rfl hF rfl (run_eql (hF.ev rfl) rfl rfl) ?_; clear hF; intro a hF
                  refine op_val (v := .bool (p183.1 == 2)) rfl rfl hF rfl (run_assign rfl (hF.ev rfl)) ?_; clear hF; intro a hF
                  refine wpList_nil ?_
                  obtain ⟨o203, hM208, hM200⟩ := bind_ex hM200
                  refine wp_cut (fun a u => ∃ (p202 : List Bool × List Bool × List (Int × Int)) (B206 : Option Addr) (d207 : Nat), p202 = o203 ∧ p127.2.1.length = p202.1.length ∧ p127.2.2.1.length = p202.2.1.length ∧ Fr a 106 [(4, .pointer (some ⟨g101, 0, none⟩)), (5, .pointer (some ⟨g102, 0, none⟩))] ∧ St w0 u (Asn.box g0 78 #[.slice A0 x0.length c0, .int .i64 p183.2] :: Asn.box g102 26 #[.slice B129 p127.2.1.length d130, .slice B131 p127.2.2.1.length d132, .slice B206 p202.2.2.length d207] :: Asn.box g101 26 #[.slice none 0 0, .slice none 0 0, .slice none 0 0] :: Asn.row 4 1 (.slice B129 p127.2.1.length d130) p127.2.1.length (p202.1.flatMap eB) :: Asn.row 4 1 (.slice B131 p127.2.2.1.length d132) p127.2.2.1.length (p202.2.1.flatMap eB) :: Asn.row 48 2 (.slice B206 p202.2.2.length d207) p202.2.2.length (p202.2.2.flatMap ePermit) :: X)) ?_ ?_
                  · have _ := trivial
                    cases hc209 : (p183.1 == 2)
                    · replace hM208 := bif_f hc209 hM208
                      refine cond_f hF rfl hc209 ?_
                      refine wp_seq ?_
                      refine wp_region_lit ?_
                      refine op_val (v := .bool (p183.1 == 3)) rfl rfl hF rfl (run_eql (hF.ev rfl) rfl rfl) ?_; clear hF; intro a hF
                      refine op_val (v := .bool (p183.1 == 3)) rfl rfl hF rfl (run_assign rfl (hF.ev rfl)) ?_; clear hF; intro a hF
                      refine wpList_nil ?_
                      obtain ⟨o211, hM216, hM208⟩ := bind_ex hM208
                      refine wp_cut (fun a u => ∃ (p210 : List Bool × List Bool × List (Int × Int)) (B214 : Option Addr) (d215 : Nat), p210 = o211 ∧ p127.2.1.length = p210.1.length ∧ p127.2.2.1.length = p210.2.1.length ∧ Fr a 106 [(4, .pointer (some ⟨g101, 0, none⟩)), (5, .pointer (some ⟨g102, 0, none⟩))] ∧ St w0 u (Asn.box g0 78 #[.slice A0 x0.length c0, .int .i64 p183.2] :: Asn.box g102 26 #[.slice B129 p127.2.1.length d130, .slice B131 p127.2.2.1.length d132, .slice B214 p210.2.2.length d215] :: Asn.box g101 26 #[.slice none 0 0, .slice none 0 0, .slice none 0 0] :: Asn.row 4 1 (.slice B129 p127.2.1.length d130) p127.2.1.length (p210.1.flatMap eB) :: Asn.row 4 1 (.slice B131 p127.2.2.1.length d132) p127.2.2.1.length (p210.2.1.flatMap eB) :: Asn.row 48 2 (.slice B214 p210.2.2.length d215) p210.2.2.length (p210.2.2.flatMap ePermit) :: X)) ?_ ?_
                      · have _ := trivial
                        cases hc217 : (p183.1 == 3)
                        · replace hM216 := bif_f hc217 hM216
                          refine cond_f hF rfl hc217 ?_
                          refine wp_seq ?_
                          refine wp_region_lit ?_
                          refine op_val (v := .pointer (some ⟨g102, 1, none⟩)) rfl rfl hF rfl (run_fieldAddr rfl fl26_1 (hF.ev rfl) rfl) ?_; clear hF; intro a hF
                          refine op_val (v := .slice B131 p127.2.2.1.length d132) rfl rfl hF rfl (run_load1 rfl one23 (hF.ev rfl) ((S.free 1 rfl).cell rfl)) ?_; clear hF; intro a hF
                          obtain ⟨hk218, hM216⟩ := chk_ex hM216
                          replace hk218 := ixB_t hk218
                          refine op_val (v := .pointer (some ⟨adB B131, adO B131 + ((0 : Int).toNat) * 1, none⟩)) rfl rfl hF rfl (run_indexAddr (b := adB B131) (off := adO B131) rfl Tryd.underlying23 sz4 ((hF.ev rfl).trans (congrArg (fun A => Value.slice A p127.2.2.1.length d132) ((S.rc 4 rfl).rd.ad (ix_pos hk218)))) rfl hk218.1 hk218.2 (k' := adO B131 + ((0 : Int).toNat) * 1) rfl) ?_; clear hF; intro a hF
                          obtain ⟨w', hrun, S'⟩ := run_storeElN (P := Tryd.prog) (ρ := a.eval) (y0 := true) (off := 0) S 4 (.tmp 63) (.const (.bool true)) (i := 4) sz4 (hF.ev rfl) rfl rfl rfl rfl rfl rfl eB_len false (ix_ltn hk218 rfl) rfl rfl
                          refine op_do rfl rfl (hrun _ rfl) ?_; clear hrun S; have S := S'; clear S'; generalize w' = u at S ⊢
                          refine wpList_nil ?_
                          refine wp_seq ?_
                          refine wp_region_lit ?_
                          refine op_val (v := .pointer (some ⟨g102, 0, none⟩)) rfl rfl hF rfl (run_fieldAddr rfl fl26_0 (hF.ev rfl) rfl) ?_; clear hF; intro a hF
                          refine op_val (v := .slice B129 p127.2.1.length d130) rfl rfl hF rfl (run_load1 rfl one23 (hF.ev rfl) ((S.free 1 rfl).cell rfl)) ?_; clear hF; intro a hF
                          obtain ⟨hk219, hM216⟩ := chk_ex hM216
                          replace hk219 := ixB_t hk219
                          refine op_val (v := .pointer (some ⟨adB B129, adO B129 + ((0 : Int).toNat) * 1, none⟩)) rfl rfl hF rfl (run_indexAddr (b := adB B129) (off := adO B129) rfl Tryd.underlying23 sz4 ((hF.ev rfl).trans (congrArg (fun A => Value.slice A p127.2.1.length d130) ((S.rc 3 rfl).rd.ad (ix_pos hk219)))) rfl hk219.1 hk219.2 (k' := adO B129 + ((0 : Int).toNat) * 1) rfl) ?_; clear hF; intro a hF
                          obtain ⟨w', hrun, S'⟩ := run_storeElN (P := Tryd.prog) (ρ := a.eval) (y0 := false) (off := 0) S 4 (.tmp 66) (.const (.bool false)) (i := 3) sz4 (hF.ev rfl) rfl rfl rfl rfl rfl rfl eB_len false (ix_ltn hk219 rfl) rfl rfl
                          refine op_do rfl rfl (hrun _ rfl) ?_; clear hrun S; have S := S'; clear S'; generalize w' = u at S ⊢
                          refine wpList_nil ?_
                          refine wp_region_lit ?_
                          refine op_val (v := .agg #[.int .i64 2, .int .i64 0]) rfl rfl hF rfl (run_build (vs := [(0, .int .i64 2)]) rfl ⟨⟨rfl, rfl⟩, trivial⟩ (bd48_0 rfl)) ?_; clear hF; intro a hF
                          refine op_val (v := .agg #[.int .i64 2, .int .i64 0]) rfl rfl hF rfl (run_build (vs := [(0, .int .i64 2)]) rfl ⟨⟨rfl, rfl⟩, trivial⟩ (bd48_0 rfl)) ?_; clear hF; intro a hF
                          refine op_newrowL (ls := (([(2, 0), (2, 0)] : List (Int × Int)) : List (Int × Int))) (e := ePermit) rfl rfl hF rfl S (run_buildS (vs := [(0, .agg #[.int .i64 2, .int .i64 0]), (1, .agg #[.int .i64 2, .int .i64 0])]) rfl ⟨⟨rfl, (hF.ev rfl)⟩, ⟨rfl, (hF.ev rfl)⟩, trivial⟩ (bs24_2_2_2 )) rfl ePermit_len (Nat.le_of_ble_eq_true rfl) ?_; clear hF S; intro a g220 u hF S
                          refine op_val (v := .pointer (some ⟨g102, 2, none⟩)) rfl rfl hF rfl (run_fieldAddr rfl fl26_2 (hF.ev rfl) rfl) ?_; clear hF; intro a hF
                          refine op_do rfl rfl (run_store (cs' := #[.slice B129 p127.2.1.length d130, .slice B131 p127.2.2.1.length d132, .slice (some ⟨g220, 0, none⟩) (([(2, 0), (2, 0)] : List (Int × Int)).length) (([(2, 0), (2, 0)] : List (Int × Int)).length)]) rfl sz24 (hF.ev rfl) (hF.ev rfl) rfl rfl rfl (S.free 2 rfl) rfl rfl) ?_; replace S := S.put 2 rfl (#[.slice B129 p127.2.1.length d130, .slice B131 p127.2.2.1.length d132, .slice (some ⟨g220, 0, none⟩) (([(2, 0), (2, 0)] : List (Int × Int)).length) (([(2, 0), (2, 0)] : List (Int × Int)).length)])
                          generalize World.setRow _ _ _ = u at S ⊢
                          refine wpList_nil ?_
                          obtain rfl := Option.some.inj hM216
                          exact ⟨(p127.2.1.set ((0 : Int).toNat) false, p127.2.2.1.set ((0 : Int).toNat) true, ([(2, 0), (2, 0)] : List (Int × Int))), (some ⟨g220, 0, none⟩), (([(2, 0), (2, 0)] : List (Int × Int)).length), rfl, (len_set rfl), (len_set rfl), hF.keep _ ⟨rfl, rfl, trivial⟩, S.selT (M := [.box g0 78 #[.slice A0 x0.length c0, .int .i64 p183.2], .box g102 26 #[.slice B129 p127.2.1.length d130, .slice B131 p127.2.2.1.length d132, .slice (some ⟨g220, 0, none⟩) (([(2, 0), (2, 0)] : List (Int × Int)).length) (([(2, 0), (2, 0)] : List (Int × Int)).length)], .box g101 26 #[.slice none 0 0, .slice none 0 0, .slice none 0 0], .row 4 1 (.slice B129 p127.2.1.length d130) p127.2.1.length ((p127.2.1.set ((0 : Int).toNat) false).flatMap eB), .row 4 1 (.slice B131 p127.2.2.1.length d132) p127.2.2.1.length ((p127.2.2.1.set ((0 : Int).toNat) true).flatMap eB), .row 48 2 (.slice (some ⟨g220, 0, none⟩) (([(2, 0), (2, 0)] : List (Int × Int)).length) (([(2, 0), (2, 0)] : List (Int × Int)).length)) (([(2, 0), (2, 0)] : List (Int × Int)).length) (([(2, 0), (2, 0)] : List (Int × Int)).flatMap ePermit)]) 7 [1, 2, 3, 4, 5, 0] rfl rfl rfl⟩
                        · replace hM216 := bif_t hc217 hM216
                          refine cond_t hF rfl hc217 ?_
                          refine wp_region_lit ?_
                          refine op_val (v := .pointer (some ⟨g102, 2, none⟩)) rfl rfl hF rfl (run_fieldAddr rfl fl26_2 (hF.ev rfl) rfl) ?_; clear hF; intro a hF
                          refine op_val (v := .slice B133 p127.2.2.2.length d134) rfl rfl hF rfl (run_load1 rfl one24 (hF.ev rfl) ((S.free 1 rfl).cell rfl)) ?_; clear hF; intro a hF
                          refine op_val (v := .agg #[.int .i64 10, .int .i64 0]) rfl rfl hF rfl (run_build (vs := [(0, .int .i64 10)]) rfl ⟨⟨rfl, rfl⟩, trivial⟩ (bd48_0 rfl)) ?_; clear hF; intro a hF
                          refine op_newrowL (ls := (([(10, 0)] : List (Int × Int)) : List (Int × Int))) (e := ePermit) rfl rfl hF rfl S (run_buildS (vs := [(0, .agg #[.int .i64 10, .int .i64 0])]) rfl ⟨⟨rfl, (hF.ev rfl)⟩, trivial⟩ (bs24_1_2 )) rfl ePermit_len (Nat.le_of_ble_eq_true rfl) ?_; clear hF S; intro a g221 u hF S
                          obtain ⟨hk224, hM216⟩ := chk_ex hM216
                          replace hk224 := apB_t hk224
                          refine op_appendL (lx := p127.2.2.2) (ly := ([(10, 0)] : List (Int × Int))) rfl rfl hF rfl S rfl (hF.ev rfl) (hF.ev rfl) (i := 6) rfl rfl Tryd.underlying24 inf48 rfl (by decide) (S.rc 0 rfl).rd rfl ePermit_one hk224 (by decide) ?_; clear hF S; intro a B222 d223 u hF S
                          refine op_val (v := .pointer (some ⟨g102, 2, none⟩)) rfl rfl hF rfl (run_fieldAddr rfl fl26_2 (hF.ev rfl) rfl) ?_; clear hF; intro a hF
                          refine op_do rfl rfl (run_store (cs' := #[.slice B129 p127.2.1.length d130, .slice B131 p127.2.2.1.length d132, .slice B222 ((p127.2.2.2 ++ ([(10, 0)] : List (Int × Int))).length) d223]) rfl sz24 (hF.ev rfl) (hF.ev rfl) rfl rfl rfl (S.free 2 rfl) rfl rfl) ?_; replace S := S.put 2 rfl (#[.slice B129 p127.2.1.length d130, .slice B131 p127.2.2.1.length d132, .slice B222 ((p127.2.2.2 ++ ([(10, 0)] : List (Int × Int))).length) d223])
                          generalize World.setRow _ _ _ = u at S ⊢
                          refine wpList_nil ?_
                          obtain rfl := Option.some.inj hM216
                          exact ⟨(p127.2.1, p127.2.2.1, p127.2.2.2 ++ ([(10, 0)] : List (Int × Int))), B222, d223, rfl, rfl, rfl, hF.keep _ ⟨rfl, rfl, trivial⟩, S.selT (M := [.box g0 78 #[.slice A0 x0.length c0, .int .i64 p183.2], .box g102 26 #[.slice B129 p127.2.1.length d130, .slice B131 p127.2.2.1.length d132, .slice B222 ((p127.2.2.2 ++ ([(10, 0)] : List (Int × Int))).length) d223], .box g101 26 #[.slice none 0 0, .slice none 0 0, .slice none 0 0], .row 4 1 (.slice B129 p127.2.1.length d130) p127.2.1.length (p127.2.1.flatMap eB), .row 4 1 (.slice B131 p127.2.2.1.length d132) p127.2.2.1.length (p127.2.2.1.flatMap eB), .row 48 2 (.slice B222 ((p127.2.2.2 ++ ([(10, 0)] : List (Int × Int))).length) d223) ((p127.2.2.2 ++ ([(10, 0)] : List (Int × Int))).length) ((p127.2.2.2 ++ ([(10, 0)] : List (Int × Int))).flatMap ePermit)]) 7 [1, 2, 3, 4, 5, 6] rfl rfl rfl⟩
                      · rintro a u ⟨p210, B214, d215, rfl, hn212, hn213, hF, S⟩
                        obtain rfl := Option.some.inj hM208
                        exact ⟨(p210.1, p210.2.1, p210.2.2), B214, d215, rfl, hn212, hn213, hF.keep _ ⟨rfl, rfl, trivial⟩, S.selT (M := [.box g0 78 #[.slice A0 x0.length c0, .int .i64 p183.2], .box g102 26 #[.slice B129 p127.2.1.length d130, .slice B131 p127.2.2.1.length d132, .slice B214 p210.2.2.length d215], .box g101 26 #[.slice none 0 0, .slice none 0 0, .slice none 0 0], .row 4 1 (.slice B129 p127.2.1.length d130) p127.2.1.length (p210.1.flatMap eB), .row 4 1 (.slice B131 p127.2.2.1.length d132) p127.2.2.1.length (p210.2.1.flatMap eB), .row 48 2 (.slice B214 p210.2.2.length d215) p210.2.2.length (p210.2.2.flatMap ePermit)]) 6 [0, 1, 2, 3, 4, 5] rfl rfl rfl⟩
                    · replace hM208 := bif_t hc209 hM208
                      refine cond_t hF rfl hc209 ?_
                      refine wp_region_lit ?_
                      refine op_val (v := .pointer (some ⟨g102, 2, none⟩)) rfl rfl hF rfl (run_fieldAddr rfl fl26_2 (hF.ev rfl) rfl) ?_; clear hF; intro a hF
                      refine op_val (v := .slice B133 p127.2.2.2.length d134) rfl rfl hF rfl (run_load1 rfl one24 (hF.ev rfl) ((S.free 1 rfl).cell rfl)) ?_; clear hF; intro a hF
                      refine op_val (v := .pointer (some ⟨g102, 0, none⟩)) rfl rfl hF rfl (run_fieldAddr rfl fl26_0 (hF.ev rfl) rfl) ?_; clear hF; intro a hF
                      refine op_val (v := .slice B129 p127.2.1.length d130) rfl rfl hF rfl (run_load1 rfl one23 (hF.ev rfl) ((S.free 1 rfl).cell rfl)) ?_; clear hF; intro a hF
                      refine op_val (v := .int .i64 (p127.2.1.length : Int)) rfl rfl hF rfl (run_lenL rfl rfl Tryd.underlying23 (hF.ev rfl)) ?_; clear hF; intro a hF
                      refine op_val (v := .agg #[.int .i64 1, .int .i64 (p127.2.1.length : Int)]) rfl rfl hF rfl (run_build (vs := [(0, .int .i64 1), (1, .int .i64 (p127.2.1.length : Int))]) rfl ⟨⟨rfl, rfl⟩, ⟨rfl, (hF.ev rfl)⟩, trivial⟩ (bd48_0_1 rfl rfl)) ?_; clear hF; intro a hF
                      refine op_newrowL (ls := (([(1, (p127.2.1.length : Int))] : List (Int × Int)) : List (Int × Int))) (e := ePermit) rfl rfl hF rfl S (run_buildS (vs := [(0, .agg #[.int .i64 1, .int .i64 (p127.2.1.length : Int)])]) rfl ⟨⟨rfl, (hF.ev rfl)⟩, trivial⟩ (bs24_1_2 )) rfl ePermit_len (Nat.le_of_ble_eq_true rfl) ?_; clear hF S; intro a g225 u hF S
                      obtain ⟨hk228, hM208⟩ := chk_ex hM208
                      replace hk228 := apB_t hk228
                      refine op_appendL (lx := p127.2.2.2) (ly := ([(1, (p127.2.1.length : Int))] : List (Int × Int))) rfl rfl hF rfl S rfl (hF.ev rfl) (hF.ev rfl) (i := 6) rfl rfl Tryd.underlying24 inf48 rfl (by decide) (S.rc 0 rfl).rd rfl ePermit_one hk228 (by decide) ?_; clear hF S; intro a B226 d227 u hF S
                      refine op_val (v := .pointer (some ⟨g102, 2, none⟩)) rfl rfl hF rfl (run_fieldAddr rfl fl26_2 (hF.ev rfl) rfl) ?_; clear hF; intro a hF
                      refine op_do rfl rfl (run_store (cs' := #[.slice B129 p127.2.1.length d130, .slice B131 p127.2.2.1.length d132, .slice B226 ((p127.2.2.2 ++ ([(1, (p127.2.1.length : Int))] : List (Int × Int))).length) d227]) rfl sz24 (hF.ev rfl) (hF.ev rfl) rfl rfl rfl (S.free 2 rfl) rfl rfl) ?_; replace S := S.put 2 rfl (#[.slice B129 p127.2.1.length d130, .slice B131 p127.2.2.1.length d132, .slice B226 ((p127.2.2.2 ++ ([(1, (p127.2.1.length : Int))] : List (Int × Int))).length) d227])
                      generalize World.setRow _ _ _ = u at S ⊢
                      refine wpList_nil ?_
                      obtain rfl := Option.some.inj hM208
                      exact ⟨(p127.2.1, p127.2.2.1, p127.2.2.2 ++ ([(1, (p127.2.1.length : Int))] : List (Int × Int))), B226, d227, rfl, rfl, rfl, hF.keep _ ⟨rfl, rfl, trivial⟩, S.selT (M := [.box g0 78 #[.slice A0 x0.length c0, .int .i64 p183.2], .box g102 26 #[.slice B129 p127.2.1.length d130, .slice B131 p127.2.2.1.length d132, .slice B226 ((p127.2.2.2 ++ ([(1, (p127.2.1.length : Int))] : List (Int × Int))).length) d227], .box g101 26 #[.slice none 0 0, .slice none 0 0, .slice none 0 0], .row 4 1 (.slice B129 p127.2.1.length d130) p127.2.1.length (p127.2.1.flatMap eB), .row 4 1 (.slice B131 p127.2.2.1.length d132) p127.2.2.1.length (p127.2.2.1.flatMap eB), .row 48 2 (.slice B226 ((p127.2.2.2 ++ ([(1, (p127.2.1.length : Int))] : List (Int × Int))).length) d227) ((p127.2.2.2 ++ ([(1, (p127.2.1.length : Int))] : List (Int × Int))).length) ((p127.2.2.2 ++ ([(1, (p127.2.1.length : Int))] : List (Int × Int))).flatMap ePermit)]) 7 [1, 2, 3, 4, 5, 6] rfl rfl rfl⟩
                  · rintro a u ⟨p202, B206, d207, rfl, hn204, hn205, hF, S⟩
                    obtain rfl := Option.some.inj hM200
                    try rw [show p127.2.2.1.length = p202.2.1.length from hn205] at hF
                    try rw [show p127.2.2.1.length = p202.2.1.length from hn205] at S
                    exact ⟨(p202.1, p202.2.1, p202.2.2), B131, d132, B206, d207, rfl, hn204, hF.keep _ ⟨rfl, rfl, trivial⟩, S.selT (M := [.box g0 78 #[.slice A0 x0.length c0, .int .i64 p183.2], .box g102 26 #[.slice B129 p127.2.1.length d130, .slice B131 p202.2.1.length d132, .slice B206 p202.2.2.length d207], .box g101 26 #[.slice none 0 0, .slice none 0 0, .slice none 0 0], .row 4 1 (.slice B129 p127.2.1.length d130) p127.2.1.length (p202.1.flatMap eB), .row 4 1 (.slice B131 p202.2.1.length d132) p202.2.1.length (p202.2.1.flatMap eB), .row 48 2 (.slice B206 p202.2.2.length d207) p202.2.2.length (p202.2.2.flatMap ePermit)]) 6 [0, 1, 2, 3, 4, 5] rfl rfl rfl⟩
                · replace hM200 := bif_t hc201 hM200
                  refine cond_t hF rfl hc201 ?_
                  refine wp_region_lit ?_
                  refine op_val (v := .pointer (some ⟨g102, 1, none⟩)) rfl rfl hF rfl (run_fieldAddr rfl fl26_1 (hF.ev rfl) rfl) ?_; clear hF; intro a hF
                  refine op_val (v := .slice B131 p127.2.2.1.length d132) rfl rfl hF rfl (run_load1 rfl one23 (hF.ev rfl) ((S.free 1 rfl).cell rfl)) ?_; clear hF; intro a hF
                  refine op_newrowL (ls := (([false] : List Bool) : List Bool)) (e := eB) rfl rfl hF rfl S (run_buildS (vs := [(0, .bool false)]) rfl ⟨⟨rfl, rfl⟩, trivial⟩ (bs23_1_0 rfl)) rfl eB_len (Nat.le_of_ble_eq_true rfl) ?_; clear hF S; intro a g229 u hF S
                  obtain ⟨hk232, hM200⟩ := chk_ex hM200
                  replace hk232 := apB_t hk232
                  refine op_appendL (lx := p127.2.2.1) (ly := ([false] : List Bool)) rfl rfl hF rfl S rfl (hF.ev rfl) (hF.ev rfl) (i := 5) rfl rfl Tryd.underlying23 inf4 rfl (by decide) (S.rc 0 rfl).rd rfl eB_one hk232 (by decide) ?_; clear hF S; intro a B230 d231 u hF S
                  refine op_val (v := .pointer (some ⟨g102, 1, none⟩)) rfl rfl hF rfl (run_fieldAddr rfl fl26_1 (hF.ev rfl) rfl) ?_; clear hF; intro a hF
                  refine op_do rfl rfl (run_store (cs' := #[.slice B129 p127.2.1.length d130, .slice B230 ((p127.2.2.1 ++ ([false] : List Bool)).length) d231, .slice B133 p127.2.2.2.length d134]) rfl sz23 (hF.ev rfl) (hF.ev rfl) rfl rfl rfl (S.free 2 rfl) rfl rfl) ?_; replace S := S.put 2 rfl (#[.slice B129 p127.2.1.length d130, .slice B230 ((p127.2.2.1 ++ ([false] : List Bool)).length) d231, .slice B133 p127.2.2.2.length d134])
                  generalize World.setRow _ _ _ = u at S ⊢
                  refine wpList_nil ?_
                  obtain rfl := Option.some.inj hM200
                  exact ⟨(p127.2.1, p127.2.2.1 ++ ([false] : List Bool), p127.2.2.2), B230, d231, B133, d134, rfl, rfl, hF.keep _ ⟨rfl, rfl, trivial⟩, S.selT (M := [.box g0 78 #[.slice A0 x0.length c0, .int .i64 p183.2], .box g102 26 #[.slice B129 p127.2.1.length d130, .slice B230 ((p127.2.2.1 ++ ([false] : List Bool)).length) d231, .slice B133 p127.2.2.2.length d134], .box g101 26 #[.slice none 0 0, .slice none 0 0, .slice none 0 0], .row 4 1 (.slice B129 p127.2.1.length d130) p127.2.1.length (p127.2.1.flatMap eB), .row 4 1 (.slice B230 ((p127.2.2.1 ++ ([false] : List Bool)).length) d231) ((p127.2.2.1 ++ ([false] : List Bool)).length) ((p127.2.2.1 ++ ([false] : List Bool)).flatMap eB), .row 48 2 (.slice B133 p127.2.2.2.length d134) p127.2.2.2.length (p127.2.2.2.flatMap ePermit)]) 7 [1, 2, 3, 4, 5, 6] rfl rfl rfl⟩
              · rintro a u ⟨p193, B196, d197, B198, d199, rfl, hn195, hF, S⟩
                obtain rfl := Option.some.inj hM191
                exact ⟨(p193.1, p193.2.1, p193.2.2), B196, d197, B198, d199, rfl, hn195, hF.keep _ ⟨rfl, rfl, trivial⟩, S.selT (M := [.box g0 78 #[.slice A0 x0.length c0, .int .i64 p183.2], .box g102 26 #[.slice B129 p127.2.1.length d130, .slice B196 p193.2.1.length d197, .slice B198 p193.2.2.length d199], .box g101 26 #[.slice none 0 0, .slice none 0 0, .slice none 0 0], .row 4 1 (.slice B129 p127.2.1.length d130) p127.2.1.length (p193.1.flatMap eB), .row 4 1 (.slice B196 p193.2.1.length d197) p193.2.1.length (p193.2.1.flatMap eB), .row 48 2 (.slice B198 p193.2.2.length d199) p193.2.2.length (p193.2.2.flatMap ePermit)]) 6 [0, 1, 2, 3, 4, 5] rfl rfl rfl⟩
            · replace hM191 := bif_t hc192 hM191
              refine cond_t hF rfl hc192 ?_
              refine wp_seq ?_
              refine wp_region_lit ?_
              refine op_val (v := .pointer (some ⟨g102, 0, none⟩)) rfl rfl hF rfl (run_fieldAddr rfl fl26_0 (hF.ev rfl) rfl) ?_; clear hF; intro a hF
              refine op_val (v := .slice B129 p127.2.1.length d130) rfl rfl hF rfl (run_load1 rfl one23 (hF.ev rfl) ((S.free 1 rfl).cell rfl)) ?_; clear hF; intro a hF
              obtain ⟨hk233, hM191⟩ := chk_ex hM191
              replace hk233 := ixB_t hk233
              refine op_val (v := .pointer (some ⟨adB B129, adO B129 + ((0 : Int).toNat) * 1, none⟩)) rfl rfl hF rfl (run_indexAddr (b := adB B129) (off := adO B129) rfl Tryd.underlying23 sz4 ((hF.ev rfl).trans (congrArg (fun A => Value.slice A p127.2.1.length d130) ((S.rc 3 rfl).rd.ad (ix_pos hk233)))) rfl hk233.1 hk233.2 (k' := adO B129 + ((0 : Int).toNat) * 1) rfl) ?_; clear hF; intro a hF
              obtain ⟨w', hrun, S'⟩ := run_storeElN (P := Tryd.prog) (ρ := a.eval) (y0 := true) (off := 0) S 4 (.tmp 75) (.const (.bool true)) (i := 3) sz4 (hF.ev rfl) rfl rfl rfl rfl rfl rfl eB_len false (ix_ltn hk233 rfl) rfl rfl
              refine op_do rfl rfl (hrun _ rfl) ?_; clear hrun S; have S := S'; clear S'; generalize w' = u at S ⊢
              refine wpList_nil ?_
              refine wp_region_lit ?_
              refine op_val (v := .pointer (some ⟨g102, 1, none⟩)) rfl rfl hF rfl (run_fieldAddr rfl fl26_1 (hF.ev rfl) rfl) ?_; clear hF; intro a hF
              refine op_val (v := .slice B131 p127.2.2.1.length d132) rfl rfl hF rfl (run_load1 rfl one23 (hF.ev rfl) ((S.free 1 rfl).cell rfl)) ?_; clear hF; intro a hF
              obtain ⟨hk234, hM191⟩ := chk_ex hM191
              replace hk234 := ixB_t hk234
              refine op_val (v := .pointer (some ⟨adB B131, adO B131 + ((0 : Int).toNat) * 1, none⟩)) rfl rfl hF rfl (run_indexAddr (b := adB B131) (off := adO B131) rfl Tryd.underlying23 sz4 ((hF.ev rfl).trans (congrArg (fun A => Value.slice A p127.2.2.1.length d132) ((S.rc 4 rfl).rd.ad (ix_pos hk234)))) rfl hk234.1 hk234.2 (k' := adO B131 + ((0 : Int).toNat) * 1) rfl) ?_; clear hF; intro a hF
              obtain ⟨w', hrun, S'⟩ := run_storeElN (P := Tryd.prog) (ρ := a.eval) (y0 := true) (off := 0) S 4 (.tmp 78) (.const (.bool true)) (i := 4) sz4 (hF.ev rfl) rfl rfl rfl rfl rfl rfl eB_len false (ix_ltn hk234 rfl) rfl rfl
              refine op_do rfl rfl (hrun _ rfl) ?_; clear hrun S; have S := S'; clear S'; generalize w' = u at S ⊢
              refine wpList_nil ?_
              obtain rfl := Option.some.inj hM191
              try rw [show p127.2.2.1.length = (p127.2.2.1.set ((0 : Int).toNat) true).length from (len_set rfl)] at hF
              try rw [show p127.2.2.1.length = (p127.2.2.1.set ((0 : Int).toNat) true).length from (len_set rfl)] at S
              exact ⟨(p127.2.1.set ((0 : Int).toNat) true, p127.2.2.1.set ((0 : Int).toNat) true, p127.2.2.2), B131, d132, B133, d134, rfl, (len_set rfl), hF.keep _ ⟨rfl, rfl, trivial⟩, S.selT (M := [.box g0 78 #[.slice A0 x0.length c0, .int .i64 p183.2], .box g102 26 #[.slice B129 p127.2.1.length d130, .slice B131 ((p127.2.2.1.set ((0 : Int).toNat) true).length) d132, .slice B133 p127.2.2.2.length d134], .box g101 26 #[.slice none 0 0, .slice none 0 0, .slice none 0 0], .row 4 1 (.slice B129 p127.2.1.length d130) p127.2.1.length ((p127.2.1.set ((0 : Int).toNat) true).flatMap eB), .row 4 1 (.slice B131 ((p127.2.2.1.set ((0 : Int).toNat) true).length) d132) ((p127.2.2.1.set ((0 : Int).toNat) true).length) ((p127.2.2.1.set ((0 : Int).toNat) true).flatMap eB), .row 48 2 (.slice B133 p127.2.2.2.length d134) p127.2.2.2.length (p127.2.2.2.flatMap ePermit)]) 6 [0, 1, 2, 3, 4, 5] rfl rfl rfl⟩
          · rintro a u ⟨p184, B187, d188, B189, d190, rfl, hn186, hF, S⟩
            obtain rfl := Option.some.inj hM181
            exact ⟨(p183.2, p184.1, p184.2.1, p184.2.2), B187, d188, B189, d190, rfl, hn186, hF.keep _ ⟨rfl, rfl, trivial⟩, S.selT (M := [.box g0 78 #[.slice A0 x0.length c0, .int .i64 p183.2], .box g102 26 #[.slice B129 p127.2.1.length d130, .slice B187 p184.2.1.length d188, .slice B189 p184.2.2.length d190], .box g101 26 #[.slice none 0 0, .slice none 0 0, .slice none 0 0], .row 4 1 (.slice B129 p127.2.1.length d130) p127.2.1.length (p184.1.flatMap eB), .row 4 1 (.slice B187 p184.2.1.length d188) p184.2.1.length (p184.2.1.flatMap eB), .row 48 2 (.slice B189 p184.2.2.length d190) p184.2.2.length (p184.2.2.flatMap ePermit)]) 6 [0, 1, 2, 3, 4, 5] rfl rfl rfl⟩
      · rintro a u ⟨p174, B177, d178, B179, d180, rfl, hn176, hF, S⟩
        refine wp_seq ?_
        refine wp_region_lit ?_
        refine op_val (v := .agg #[.slice B129 p127.2.1.length d130, .slice B177 p174.2.2.1.length d178, .slice B179 p174.2.2.2.length d180]) rfl rfl hF rfl (run_loadN rfl ag26 (hF.ev rfl) rfl ((S.free 1 rfl).cells 0 #[.slice B129 p127.2.1.length d130, .slice B177 p174.2.2.1.length d178, .slice B179 p174.2.2.2.length d180] rfl)) ?_; clear hF; intro a hF
        refine op_do rfl rfl (run_store (cs' := #[.slice B129 p127.2.1.length d130, .slice B177 p174.2.2.1.length d178, .slice B179 p174.2.2.2.length d180]) rfl sz26 (hF.ev rfl) (hF.ev rfl) rfl rfl rfl (S.free 2 rfl) rfl rfl) ?_; replace S := S.put 2 rfl (#[.slice B129 p127.2.1.length d130, .slice B177 p174.2.2.1.length d178, .slice B179 p174.2.2.2.length d180])
        generalize World.setRow _ _ _ = u at S ⊢
        refine wpList_nil ?_
        refine wp_ret ?_
        repeat with_reducible (first | refine then_ret ?_ | refine in_ret ?_ | refine in_nrm ?_)
        refine ret1_gw (.inl rfl) hF rfl (res_cell (hF.ev rfl) (res_loadN ag26 rfl (S.cells 2 rfl 0 #[.slice B129 p127.2.1.length d130, .slice B177 p174.2.2.1.length d178, .slice B179 p174.2.2.2.length d180] rfl))) ?_
        obtain rfl := Option.some.inj hM
        exact ⟨B129, p127.2.1.length, d130, B177, p174.2.2.1.length, d178, B179, p174.2.2.2.length, d180, rfl, hn176, rfl, rfl, S.selT (M := [.row 4 1 (.slice B129 p127.2.1.length d130) p127.2.1.length (p174.2.1.flatMap eB), .row 4 1 (.slice B177 p174.2.2.1.length d178) p174.2.2.1.length (p174.2.2.1.flatMap eB), .row 48 2 (.slice B179 p174.2.2.2.length d180) p174.2.2.2.length (p174.2.2.2.flatMap ePermit), .box g0 78 #[.slice A0 x0.length c0, .int .i64 p174.1]]) 6 [3, 4, 5, 0] rfl rfl rfl⟩

set_option maxHeartbeats 4000000 in
theorem c_slices_Index_impl_Permit_impl_Permit {x0 : List (Int × Int)} {x1 : Int} {x2 : Int} {A0 : Option Addr} {n0 c0 : Nat} {w : World} {r : Int} (h0 : Rt w 2 ePermit A0 n0 c0 x0) (hM : m_slices_Index_impl_Permit_impl_Permit x0 x1 x2 = some r) :
    Calls Tryd.prog 32 #[.slice A0 n0 c0, .agg #[.int .i64 x1, .int .i64 x2]] w (fun e w' => e = .returned (.int .i64 r) ∧ St w w' []) := by
  obtain rfl := h0.len
  unfold m_slices_Index_impl_Permit_impl_Permit at hM
  refine calls_gw Tryd.func32 Tryd.ntmps32 rfl [(0, .slice A0 x0.length c0), (1, .agg #[.int .i64 x1, .int .i64 x2])] ⟨rfl, rfl, trivial⟩ rfl ?_
  intro a hF
  have S := St.nil w
  refine wp_seq ?_
  refine wp_region_lit ?_
  refine op_new (cs := #[.int .i64 x1, .int .i64 x2]) rfl rfl hF rfl S (run_box rfl (hF.ev rfl) rfl) ?_; clear hF S; intro a g101 u hF S
  refine op_val (v := .int .i64 0) rfl rfl hF rfl (run_assign rfl rfl) ?_; clear hF; intro a hF
  refine wpList_nil ?_
  refine wp_seq ?_
  refine wp_seq ?_
  refine wp_region_lit ?_
  refine op_val (v := .slice A0 x0.length c0) rfl rfl hF rfl (run_move rfl (hF.ev rfl)) ?_; clear hF; intro a hF
  refine op_val (v := .int .i64 (x0.length : Int)) rfl rfl hF rfl (run_lenL rfl rfl Tryd.underlying24 (hF.ev rfl)) ?_; clear hF; intro a hF
  refine op_val (v := .int .i64 0) rfl rfl hF rfl (run_move rfl rfl) ?_; clear hF; intro a hF
  refine wpList_nil ?_
  obtain ⟨o103, hM104, hM⟩ := bind_ex hM
  refine wp_cut (fun a u => ∃ (p102 : Unit), (Sum.inl p102) = o103 ∧ Fr a 19 [(4, .int .i64 0)] ∧ St w u []) ?_ ?_
  · have _ := trivial
    refine wp_block ?_
    refine loop_gw (fun m a u => ∃ (p105 : Int), m_slices_Index_impl_Permit_impl_Permit_l1 x0 x1 x2 m p105 = some _ ∧ Fr a 19 [(0, .slice A0 x0.length c0), (3, .pointer (some ⟨g101, 0, none⟩)), (4, .int .i64 0), (7, .int .i64 (x0.length : Int)), (8, .int .i64 p105)] ∧ St w u [.box g101 48 #[.int .i64 x1, .int .i64 x2]]) FUEL ⟨0, hM104, hF.keep _ ⟨rfl, rfl, rfl, rfl, rfl, trivial⟩, S.sel [0] rfl rfl⟩ ?_
    clear hF S hM104; rintro m a u ⟨p105, hM104, hF, S⟩
    rcases m with _ | f1
    · exact none_some hM104
    rw [m_slices_Index_impl_Permit_impl_Permit_l1.eq_2] at hM104
    refine wp_seq ?_
    refine wp_region_lit ?_
    refine op_val (v := .bool (ltB p105 (x0.length : Int))) rfl rfl hF rfl (run_lss (hF.ev rfl) (hF.ev rfl) rfl) ?_; clear hF; intro a hF
    refine wpList_nil ?_
    refine wp_seq ?_
    cases hc106 : (ltB p105 (x0.length : Int))
    · replace hM104 := bif_f hc106 hM104
      refine cond_f hF rfl hc106 ?_
      refine wp_exit ?_
      repeat with_reducible (first | refine then_exit ?_ | refine in_hit ?_ | refine in_miss rfl ?_)
      obtain rfl := Option.some.inj hM104
      exact ⟨(), rfl, hF.keep _ ⟨rfl, trivial⟩, S.sel [] rfl rfl⟩
    · replace hM104 := bif_t hc106 hM104
      refine cond_t hF rfl hc106 ?_
      refine wp_skip ?_
      refine wp_seq ?_
      refine wp_block ?_
      refine wp_seq ?_
      refine wp_region_lit ?_
      refine op_val (v := .int .i64 p105) rfl rfl hF rfl (run_move rfl (hF.ev rfl)) ?_; clear hF; intro a hF
      refine op_val (v := .int .i64 p105) rfl rfl hF rfl (run_assign rfl (hF.ev rfl)) ?_; clear hF; intro a hF
      refine wpList_nil ?_
      refine wp_seq ?_
      obtain ⟨hk107, hM104⟩ := chk_ex hM104
      replace hk107 := ixB_t hk107
      refine region_gw (D := [11, 12, 13, 14, 15, 16]) (Lr := [.box g101 48 #[.int .i64 x1, .int .i64 x2]]) (deps := (fun | 0 => [11] | 1 => [12] | 2 => [13] | 3 => [14] | 4 => [15] | 5 => [16] | _ => [])) (rd := (fun _ => [])) (zr := (fun _ => []))
        (φ := fun i vs => match i, vs with | 0, [v11] => v11 = .agg #[.int .i64 x1, .int .i64 x2] | 1, [v12] => v12 = .slice A0 x0.length c0 | 2, [v13] => v13 = .int .i64 p105 | 3, [v14] => v14 = .pointer (some ⟨adB A0, adO A0 + p105.toNat * 2, none⟩) | 4, [v15] => v15 = .agg #[.int .i64 ((x0.getD p105.toNat ((0, 0) : Int × Int)).1), .int .i64 ((x0.getD p105.toNat ((0, 0) : Int × Int)).2)] | 5, [v16] => v16 = .bool ((x1 == ((x0.getD p105.toNat ((0, 0) : Int × Int)).1)) && (x2 == ((x0.getD p105.toNat ((0, 0) : Int × Int)).2))) | _, _ => True)
        (C := fun _ _ => [])
        (κ := (fun _ => none)) (Z := (fun _ => [])) mixed hF (by kernel_rfl) S ?_ ?_
      · refine ⟨?_, ?_, ?_, ?_, ?_, ?_, trivial⟩
        · intro a u X hB hu hp hr hz hl S
          replace S : St w u ([] ++ X) := S
          exact .inl ⟨rfl, .agg #[.int .i64 x1, .int .i64 x2], u, (run_loadN rfl ag48 (hF.evB hB rfl rfl) rfl ((gr_box S hl 0 rfl).cells 0 #[.int .i64 x1, .int .i64 x2] rfl)), rfl, S⟩
        · intro a u X hB hu hp hr hz hl S
          replace S : St w u ([] ++ X) := S
          exact .inl ⟨rfl, .slice A0 x0.length c0, u, (run_move rfl (hF.evB hB rfl rfl)), rfl, S⟩
        · intro a u X hB hu hp hr hz hl S
          replace S : St w u ([] ++ X) := S
          exact .inl ⟨rfl, .int .i64 p105, u, (run_move rfl (hF.evB hB rfl rfl)), rfl, S⟩
        · intro a u X hB hu hp hr hz hl S
          replace S : St w u ([] ++ X) := S
          have e12 : sl a 12 = .slice A0 x0.length c0 := hp 1 rfl
          have e13 : sl a 13 = .int .i64 p105 := hp 2 rfl
          exact .inl ⟨rfl, .pointer (some ⟨adB A0, adO A0 + p105.toNat * 2, none⟩), u, (run_indexAddr (b := adB A0) (off := adO A0) rfl Tryd.underlying24 sz48 ((ev_sl e12).trans (congrArg (fun A => Value.slice A x0.length c0) ((S.rc0 h0.rc).rd.ad (ix_pos hk107)))) (ev_sl e13) hk107.1 hk107.2 (k' := adO A0 + p105.toNat * 2) rfl), rfl, S⟩
        · intro a u X hB hu hp hr hz hl S
          replace S : St w u ([] ++ X) := S
          have e14 : sl a 14 = .pointer (some ⟨adB A0, adO A0 + p105.toNat * 2, none⟩) := hp 3 rfl
          exact .inl ⟨rfl, .agg #[.int .i64 ((x0.getD p105.toNat ((0, 0) : Int × Int)).1), .int .i64 ((x0.getD p105.toNat ((0, 0) : Int × Int)).2)], u, (run_loadN (cs := #[.int .i64 ((x0.getD p105.toNat ((0, 0) : Int × Int)).1), .int .i64 ((x0.getD p105.toNat ((0, 0) : Int × Int)).2)]) rfl ag48 (ev_sl e14) rfl (rd_elN (l := x0) (S.rc0 h0.rc).rd rfl ePermit_len ((0, 0) : Int × Int) (ix_ltn hk107 rfl) rfl)), rfl, S⟩
        · intro a u X hB hu hp hr hz hl S
          replace S : St w u ([] ++ X) := S
          have e11 : sl a 11 = .agg #[.int .i64 x1, .int .i64 x2] := hp 0 rfl
          have e15 : sl a 15 = .agg #[.int .i64 ((x0.getD p105.toNat ((0, 0) : Int × Int)).1), .int .i64 ((x0.getD p105.toNat ((0, 0) : Int × Int)).2)] := hp 4 rfl
          exact .inl ⟨rfl, .bool ((x1 == ((x0.getD p105.toNat ((0, 0) : Int × Int)).1)) && (x2 == ((x0.getD p105.toNat ((0, 0) : Int × Int)).2))), u, (run_eqlA (ev_sl e11) (ev_sl e15) rfl eg48 eq48), rfl, S⟩
      · intro a u hB hp S
        obtain ⟨q0, q1, q2, q3, q4, q5, _⟩ := hp
        have e11 : sl a 11 = .agg #[.int .i64 x1, .int .i64 x2] := q0
        have e12 : sl a 12 = .slice A0 x0.length c0 := q1
        have e13 : sl a 13 = .int .i64 p105 := q2
        have e14 : sl a 14 = .pointer (some ⟨adB A0, adO A0 + p105.toNat * 2, none⟩) := q3
        have e15 : sl a 15 = .agg #[.int .i64 ((x0.getD p105.toNat ((0, 0) : Int × Int)).1), .int .i64 ((x0.getD p105.toNat ((0, 0) : Int × Int)).2)] := q4
        have e16 : sl a 16 = .bool ((x1 == ((x0.getD p105.toNat ((0, 0) : Int × Int)).1)) && (x2 == ((x0.getD p105.toNat ((0, 0) : Int × Int)).2))) := q5
        replace S : St w u [.box g101 48 #[.int .i64 x1, .int .i64 x2]] := S
        clear q0 q1 q2 q3 q4 q5
        have hF := hF.region hB [(11, .agg #[.int .i64 x1, .int .i64 x2]), (12, .slice A0 x0.length c0), (13, .int .i64 p105), (14, .pointer (some ⟨adB A0, adO A0 + p105.toNat * 2, none⟩)), (15, .agg #[.int .i64 ((x0.getD p105.toNat ((0, 0) : Int × Int)).1), .int .i64 ((x0.getD p105.toNat ((0, 0) : Int × Int)).2)]), (16, .bool ((x1 == ((x0.getD p105.toNat ((0, 0) : Int × Int)).1)) && (x2 == ((x0.getD p105.toNat ((0, 0) : Int × Int)).2))))] (allSl_mem ⟨e11, e12, e13, e14, e15, e16, trivial⟩) rfl
        clear hB e11 e12 e13 e14 e15 e16
        cases hc108 : ((x1 == ((x0.getD p105.toNat ((0, 0) : Int × Int)).1)) && (x2 == ((x0.getD p105.toNat ((0, 0) : Int × Int)).2)))
        · replace hM104 := bif_f hc108 hM104
          refine cond_f hF rfl hc108 ?_
          refine wp_skip ?_
          refine wp_region_lit ?_
          refine op_val (v := .int .i64 (w64 (p105 + 1))) rfl rfl hF rfl (run_add (z := w64 (p105 + 1)) (hF.ev rfl) rfl rfl rfl) ?_; clear hF; intro a hF
          refine op_val (v := .int .i64 (w64 (p105 + 1))) rfl rfl hF rfl (run_move rfl (hF.ev rfl)) ?_; clear hF; intro a hF
          refine wpList_nil ?_
          exact ⟨f1, Nat.lt_succ_self _, w64 (p105 + 1), hM104, hF.keep _ ⟨rfl, rfl, rfl, rfl, rfl, trivial⟩, S.sel [0] rfl rfl⟩
        · replace hM104 := bif_t hc108 hM104
          refine cond_t hF rfl hc108 ?_
          refine wp_seq ?_
          refine wp_region_lit ?_
          refine op_val (v := .int .i64 p105) rfl rfl hF rfl (run_move rfl (hF.ev rfl)) ?_; clear hF; intro a hF
          refine op_val (v := .int .i64 p105) rfl rfl hF rfl (run_assign rfl (hF.ev rfl)) ?_; clear hF; intro a hF
          refine wpList_nil ?_
          refine wp_ret ?_
          repeat with_reducible (first | refine then_ret ?_ | refine in_ret ?_ | refine in_nrm ?_)
          refine ret1_gw (.inl rfl) hF rfl (res_tmp (hF.ev rfl)) ?_
          obtain rfl := Option.some.inj hM104
          obtain rfl := Option.some.inj hM
          exact ⟨rfl, S.sel [] rfl rfl⟩
  · rintro a u ⟨p102, rfl, hF, S⟩
    replace hM := elim_l hM
    refine wp_seq ?_
    refine wp_region_lit ?_
    refine op_val (v := .int .i64 (-1)) rfl rfl hF rfl (run_assign rfl rfl) ?_; clear hF; intro a hF
    refine wpList_nil ?_
    refine wp_ret ?_
    repeat with_reducible (first | refine then_ret ?_ | refine in_ret ?_ | refine in_nrm ?_)
    refine ret1_gw (.inl rfl) hF rfl (res_tmp (hF.ev rfl)) ?_
    obtain rfl := Option.some.inj hM
    exact ⟨rfl, S.sel [] rfl rfl⟩

set_option maxHeartbeats 4000000 in
theorem c_slices_Contains_impl_Permit_impl_Permit {x0 : List (Int × Int)} {x1 : Int} {x2 : Int} {A0 : Option Addr} {n0 c0 : Nat} {w : World} {r : Bool} (h0 : Rt w 2 ePermit A0 n0 c0 x0) (hM : m_slices_Contains_impl_Permit_impl_Permit x0 x1 x2 = some r) :
    Calls Tryd.prog 43 #[.slice A0 n0 c0, .agg #[.int .i64 x1, .int .i64 x2]] w (fun e w' => e = .returned (.bool r) ∧ St w w' []) := by
  obtain rfl := h0.len
  unfold m_slices_Contains_impl_Permit_impl_Permit at hM
  refine calls_gw Tryd.func43 Tryd.ntmps43 rfl [(0, .slice A0 x0.length c0), (1, .agg #[.int .i64 x1, .int .i64 x2])] ⟨rfl, rfl, trivial⟩ rfl ?_
  intro a hF
  have S := St.nil w
  refine wp_seq ?_
  refine wp_region_lit ?_
  refine op_new (cs := #[.int .i64 x1, .int .i64 x2]) rfl rfl hF rfl S (run_box rfl (hF.ev rfl) rfl) ?_; clear hF S; intro a g101 u hF S
  refine op_val (v := .bool false) rfl rfl hF rfl (run_assign rfl rfl) ?_; clear hF; intro a hF
  refine wpList_nil ?_
  refine wp_seq ?_
  refine wp_region_lit ?_
  refine op_val (v := .slice A0 x0.length c0) rfl rfl hF rfl (run_move rfl (hF.ev rfl)) ?_; clear hF; intro a hF
  refine op_val (v := .agg #[.int .i64 x1, .int .i64 x2]) rfl rfl hF rfl (run_loadN rfl ag48 (hF.ev rfl) rfl ((S.free 0 rfl).cells 0 #[.int .i64 x1, .int .i64 x2] rfl)) ?_; clear hF; intro a hF
  obtain ⟨p102, h102, hM⟩ := bind_ex hM
  refine op_call rfl rfl hF rfl (run_call (vs := [.slice A0 x0.length c0, .agg #[.int .i64 x1, .int .i64 x2]]) rfl rfl co32 ⟨(hF.ev rfl), (hF.ev rfl), trivial⟩) (c_slices_Index_impl_Permit_impl_Permit (x0 := x0) (x1 := x1) (x2 := x2) ⟨(S.rc0 h0.rc), rfl⟩ h102) ?_
  rintro e u ⟨rfl, T⟩
  refine ⟨_, rfl, ?_⟩
  clear hF; intro a hF
  replace S := S.call0 T; clear T
  refine op_val (v := .bool (leB 0 p102)) rfl rfl hF rfl (run_geq (hF.ev rfl) rfl rfl) ?_; clear hF; intro a hF
  refine op_val (v := .bool (leB 0 p102)) rfl rfl hF rfl (run_assign rfl (hF.ev rfl)) ?_; clear hF; intro a hF
  refine wpList_nil ?_
  refine wp_ret ?_
  repeat with_reducible (first | refine then_ret ?_ | refine in_ret ?_ | refine in_nrm ?_)
  refine ret1_gw (.inl rfl) hF rfl (res_tmp (hF.ev rfl)) ?_
  obtain rfl := Option.some.inj hM
  exact ⟨rfl, S.sel [] rfl rfl⟩

set_option maxHeartbeats 4000000 in
theorem c_impl_WorkValid {x0 : List Bool} {x1 : List Bool} {x2 : List (Int × Int)} {A0 : Option Addr} {n0 c0 : Nat} {A1 : Option Addr} {n1 c1 : Nat} {A2 : Option Addr} {n2 c2 : Nat} {w : World} {r : Bool} (h0 : Rt w 1 eB A0 n0 c0 x0) (h1 : Rt w 1 eB A1 n1 c1 x1) (h2 : Rt w 2 ePermit A2 n2 c2 x2) (hM : m_impl_WorkValid x0 x1 x2 = some r) :
    Calls Tryd.prog 17 #[.agg #[.slice A0 n0 c0, .slice A1 n1 c1, .slice A2 n2 c2]] w (fun e w' => e = .returned (.bool r) ∧ St w w' []) := by
  obtain rfl := h0.len
  obtain rfl := h1.len
  obtain rfl := h2.len
  unfold m_impl_WorkValid at hM
  refine calls_gw Tryd.func17 Tryd.ntmps17 rfl [(0, .agg #[.slice A0 x0.length c0, .slice A1 x1.length c1, .slice A2 x2.length c2])] ⟨rfl, trivial⟩ rfl ?_
  intro a hF
  have S := St.nil w
  refine wp_seq ?_
  refine wp_region_lit ?_
  refine op_new (cs := #[.slice A0 x0.length c0, .slice A1 x1.length c1, .slice A2 x2.length c2]) rfl rfl hF rfl S (run_box rfl (hF.ev rfl) rfl) ?_; clear hF S; intro a g101 u hF S
  refine op_val (v := .bool false) rfl rfl hF rfl (run_assign rfl rfl) ?_; clear hF; intro a hF
  refine wpList_nil ?_
  refine wp_seq ?_
  refine wp_seq ?_
  refine wp_region_lit ?_
  refine op_val (v := .pointer (some ⟨g101, 0, none⟩)) rfl rfl hF rfl (run_fieldAddr rfl fl26_0 (hF.ev rfl) rfl) ?_; clear hF; intro a hF
  refine op_val (v := .slice A0 x0.length c0) rfl rfl hF rfl (run_load1 rfl one23 (hF.ev rfl) ((S.free 0 rfl).cell rfl)) ?_; clear hF; intro a hF
  refine op_val (v := .int .i64 (x0.length : Int)) rfl rfl hF rfl (run_lenL rfl rfl Tryd.underlying23 (hF.ev rfl)) ?_; clear hF; intro a hF
  refine op_val (v := .bool (ltB (x0.length : Int) 1)) rfl rfl hF rfl (run_lss (hF.ev rfl) rfl rfl) ?_; clear hF; intro a hF
  refine op_val (v := .bool (ltB (x0.length : Int) 1)) rfl rfl hF rfl (run_move rfl (hF.ev rfl)) ?_; clear hF; intro a hF
  refine op_gv (v := .pointer (some ⟨g101, 0, none⟩)) rfl rfl hF rfl (yf (gw_yield hF rfl rfl rfl)) (fun hg => (run_fieldAddr rfl fl26_0 (hF.ev rfl) rfl)) ?_; clear hF; intro a hF
  refine op_gv (v := .slice A0 x0.length c0) rfl rfl hF rfl (yf (gw_yield hF rfl rfl rfl)) (fun hg => (run_load1 rfl one23 ((hF.ev rfl).trans (gv_t hg)) ((S.free 0 rfl).cell rfl))) ?_; clear hF; intro a hF
  refine op_gv (v := .int .i64 (x0.length : Int)) rfl rfl hF rfl (yf (gw_yield hF rfl rfl rfl)) (fun hg => (run_lenL rfl rfl Tryd.underlying23 ((hF.ev rfl).trans (gv_t hg)))) ?_; clear hF; intro a hF
  refine op_gv (v := .bool (ltB 10 (x0.length : Int))) rfl rfl hF rfl (yf (gw_yield hF rfl rfl rfl)) (fun hg => (run_gtr ((hF.ev rfl).trans (gv_t hg)) rfl rfl)) ?_; clear hF; intro a hF
  refine op_val (v := .bool ((ltB (x0.length : Int) 1) || (ltB 10 (x0.length : Int)))) rfl rfl hF rfl (run_pick_or rfl (hF.ev rfl) rfl (fun hp => ((hF.ev rfl).trans (gv_t (not_t hp))))) ?_; clear hF; intro a hF
  refine op_val (v := .bool ((ltB (x0.length : Int) 1) || (ltB 10 (x0.length : Int)))) rfl rfl hF rfl (run_move rfl (hF.ev rfl)) ?_; clear hF; intro a hF
  refine op_gv (v := .pointer (some ⟨g101, 1, none⟩)) rfl rfl hF rfl (yf (gw_yield hF rfl rfl rfl)) (fun hg => (run_fieldAddr rfl fl26_1 (hF.ev rfl) rfl)) ?_; clear hF; intro a hF
  refine op_gv (v := .slice A1 x1.length c1) rfl rfl hF rfl (yf (gw_yield hF rfl rfl rfl)) (fun hg => (run_load1 rfl one23 ((hF.ev rfl).trans (gv_t hg)) ((S.free 0 rfl).cell rfl))) ?_; clear hF; intro a hF
  refine op_gv (v := .int .i64 (x1.length : Int)) rfl rfl hF rfl (yf (gw_yield hF rfl rfl rfl)) (fun hg => (run_lenL rfl rfl Tryd.underlying23 ((hF.ev rfl).trans (gv_t hg)))) ?_; clear hF; intro a hF
  refine op_gv (v := .pointer (some ⟨g101, 0, none⟩)) rfl rfl hF rfl (yf (gw_yield hF rfl rfl rfl)) (fun hg => (run_fieldAddr rfl fl26_0 (hF.ev rfl) rfl)) ?_; clear hF; intro a hF
  refine op_gv (v := .slice A0 x0.length c0) rfl rfl hF rfl (yf (gw_yield hF rfl rfl rfl)) (fun hg => (run_load1 rfl one23 ((hF.ev rfl).trans (gv_t hg)) ((S.free 0 rfl).cell rfl))) ?_; clear hF; intro a hF
  refine op_gv (v := .int .i64 (x0.length : Int)) rfl rfl hF rfl (yf (gw_yield hF rfl rfl rfl)) (fun hg => (run_lenL rfl rfl Tryd.underlying23 ((hF.ev rfl).trans (gv_t hg)))) ?_; clear hF; intro a hF
  refine op_gv (v := .bool ((x1.length : Int) != (x0.length : Int))) rfl rfl hF rfl (yf (gw_yield hF rfl rfl rfl)) (fun hg => (run_neq ((hF.ev rfl).trans (gv_t hg)) ((hF.ev rfl).trans (gv_t hg)) rfl)) ?_; clear hF; intro a hF
  refine op_val (v := .bool (((ltB (x0.length : Int) 1) || (ltB 10 (x0.length : Int))) || ((x1.length : Int) != (x0.length : Int)))) rfl rfl hF rfl (run_pick_or rfl (hF.ev rfl) rfl (fun hp => ((hF.ev rfl).trans (gv_t (not_t hp))))) ?_; clear hF; intro a hF
  refine op_val (v := .bool (((ltB (x0.length : Int) 1) || (ltB 10 (x0.length : Int))) || ((x1.length : Int) != (x0.length : Int)))) rfl rfl hF rfl (run_move rfl (hF.ev rfl)) ?_; clear hF; intro a hF
  refine op_gv (v := .pointer (some ⟨g101, 2, none⟩)) rfl rfl hF rfl (yf (gw_yield hF rfl rfl rfl)) (fun hg => (run_fieldAddr rfl fl26_2 (hF.ev rfl) rfl)) ?_; clear hF; intro a hF
  refine op_gv (v := .slice A2 x2.length c2) rfl rfl hF rfl (yf (gw_yield hF rfl rfl rfl)) (fun hg => (run_load1 rfl one24 ((hF.ev rfl).trans (gv_t hg)) ((S.free 0 rfl).cell rfl))) ?_; clear hF; intro a hF
  refine op_gv (v := .int .i64 (x2.length : Int)) rfl rfl hF rfl (yf (gw_yield hF rfl rfl rfl)) (fun hg => (run_lenL rfl rfl Tryd.underlying24 ((hF.ev rfl).trans (gv_t hg)))) ?_; clear hF; intro a hF
  refine op_gv (v := .bool (ltB 6 (x2.length : Int))) rfl rfl hF rfl (yf (gw_yield hF rfl rfl rfl)) (fun hg => (run_gtr ((hF.ev rfl).trans (gv_t hg)) rfl rfl)) ?_; clear hF; intro a hF
  refine op_val (v := .bool ((((ltB (x0.length : Int) 1) || (ltB 10 (x0.length : Int))) || ((x1.length : Int) != (x0.length : Int))) || (ltB 6 (x2.length : Int)))) rfl rfl hF rfl (run_pick_or rfl (hF.ev rfl) rfl (fun hp => ((hF.ev rfl).trans (gv_t (not_t hp))))) ?_; clear hF; intro a hF
  refine wpList_nil ?_
  cases hc102 : ((((ltB (x0.length : Int) 1) || (ltB 10 (x0.length : Int))) || ((x1.length : Int) != (x0.length : Int))) || (ltB 6 (x2.length : Int)))
  · replace hM := bif_f hc102 hM
    refine cond_f hF rfl hc102 ?_
    refine wp_skip ?_
    refine wp_seq ?_
    refine wp_seq ?_
    refine wp_region_lit ?_
    refine op_val (v := .pointer (some ⟨g101, 0, none⟩)) rfl rfl hF rfl (run_fieldAddr rfl fl26_0 (hF.ev rfl) rfl) ?_; clear hF; intro a hF
    refine op_val (v := .slice A0 x0.length c0) rfl rfl hF rfl (run_load1 rfl one23 (hF.ev rfl) ((S.free 0 rfl).cell rfl)) ?_; clear hF; intro a hF
    refine op_val (v := .int .i64 (x0.length : Int)) rfl rfl hF rfl (run_lenL rfl rfl Tryd.underlying23 (hF.ev rfl)) ?_; clear hF; intro a hF
    refine op_val (v := .int .i64 0) rfl rfl hF rfl (run_move rfl rfl) ?_; clear hF; intro a hF
    refine wpList_nil ?_
    obtain ⟨o104, hM105, hM⟩ := bind_ex hM
    refine wp_cut (fun a u => ∃ (p103 : Unit), (Sum.inl p103) = o104 ∧ Fr a 97 [(1, .pointer (some ⟨g101, 0, none⟩)), (2, .bool false)] ∧ St w u [.box g101 26 #[.slice A0 x0.length c0, .slice A1 x1.length c1, .slice A2 x2.length c2]]) ?_ ?_
    · have _ := trivial
      refine wp_block ?_
      refine loop_gw (fun m a u => ∃ (p106 : Int), m_impl_WorkValid_l1 x0 x1 m p106 = some _ ∧ Fr a 97 [(1, .pointer (some ⟨g101, 0, none⟩)), (2, .bool false), (33, .int .i64 (x0.length : Int)), (34, .int .i64 p106)] ∧ St w u [.box g101 26 #[.slice A0 x0.length c0, .slice A1 x1.length c1, .slice A2 x2.length c2]]) FUEL ⟨0, hM105, hF.keep _ ⟨rfl, rfl, rfl, rfl, trivial⟩, S.sel [0] rfl rfl⟩ ?_
      clear hF S hM105; rintro m a u ⟨p106, hM105, hF, S⟩
      rcases m with _ | f1
      · exact none_some hM105
      rw [m_impl_WorkValid_l1.eq_2] at hM105
      refine wp_seq ?_
      refine wp_region_lit ?_
      refine op_val (v := .bool (ltB p106 (x0.length : Int))) rfl rfl hF rfl (run_lss (hF.ev rfl) (hF.ev rfl) rfl) ?_; clear hF; intro a hF
      refine wpList_nil ?_
      refine wp_seq ?_
      cases hc107 : (ltB p106 (x0.length : Int))
      · replace hM105 := bif_f hc107 hM105
        refine cond_f hF rfl hc107 ?_
        refine wp_exit ?_
        repeat with_reducible (first | refine then_exit ?_ | refine in_hit ?_ | refine in_miss rfl ?_)
        obtain rfl := Option.some.inj hM105
        exact ⟨(), rfl, hF.keep _ ⟨rfl, rfl, trivial⟩, S.sel [0] rfl rfl⟩
      · replace hM105 := bif_t hc107 hM105
        refine cond_t hF rfl hc107 ?_
        refine wp_skip ?_
        refine wp_seq ?_
        refine wp_block ?_
        refine wp_seq ?_
        refine wp_region_lit ?_
        refine op_val (v := .int .i64 p106) rfl rfl hF rfl (run_move rfl (hF.ev rfl)) ?_; clear hF; intro a hF
        refine op_val (v := .int .i64 p106) rfl rfl hF rfl (run_assign rfl (hF.ev rfl)) ?_; clear hF; intro a hF
        refine wpList_nil ?_
        refine wp_seq ?_
        refine wp_region_lit ?_
        refine op_val (v := .pointer (some ⟨g101, 0, none⟩)) rfl rfl hF rfl (run_fieldAddr rfl fl26_0 (hF.ev rfl) rfl) ?_; clear hF; intro a hF
        refine op_val (v := .slice A0 x0.length c0) rfl rfl hF rfl (run_load1 rfl one23 (hF.ev rfl) ((S.free 0 rfl).cell rfl)) ?_; clear hF; intro a hF
        refine op_val (v := .int .i64 p106) rfl rfl hF rfl (run_move rfl (hF.ev rfl)) ?_; clear hF; intro a hF
        obtain ⟨hk108, hM105⟩ := chk_ex hM105
        replace hk108 := ixB_t hk108
        refine op_val (v := .pointer (some ⟨adB A0, adO A0 + p106.toNat * 1, none⟩)) rfl rfl hF rfl (run_indexAddr (b := adB A0) (off := adO A0) rfl Tryd.underlying23 sz4 ((hF.ev rfl).trans (congrArg (fun A => Value.slice A x0.length c0) ((S.rc0 h0.rc).rd.ad (ix_pos hk108)))) (hF.ev rfl) hk108.1 hk108.2 (k' := adO A0 + p106.toNat * 1) rfl) ?_; clear hF; intro a hF
        refine op_val (v := .bool (x0.getD p106.toNat false)) rfl rfl hF rfl (run_load1 rfl one4 (hF.ev rfl) (rd_el0 (l := x0) (S.rc0 h0.rc).rd rfl eB_len false (ix_ltn hk108 rfl) rfl)) ?_; clear hF; intro a hF
        refine op_val (v := .bool (x0.getD p106.toNat false)) rfl rfl hF rfl (run_move rfl (hF.ev rfl)) ?_; clear hF; intro a hF
        refine op_gv (v := .pointer (some ⟨g101, 1, none⟩)) rfl rfl hF rfl (yt (gw_yield hF rfl rfl rfl)) (fun hg => (run_fieldAddr rfl fl26_1 (hF.ev rfl) rfl)) ?_; clear hF; intro a hF
        refine op_gv (v := .slice A1 x1.length c1) rfl rfl hF rfl (yt (gw_yield hF rfl rfl rfl)) (fun hg => (run_load1 rfl one23 ((hF.ev rfl).trans (gv_t hg)) ((S.free 0 rfl).cell rfl))) ?_; clear hF; intro a hF
        refine op_gv (v := .int .i64 p106) rfl rfl hF rfl (yt (gw_yield hF rfl rfl rfl)) (fun hg => (run_move rfl (hF.ev rfl))) ?_; clear hF; intro a hF
        obtain ⟨hk109, hM105⟩ := chk_ex hM105
        replace hk109 := fun hg => ixB_t (imp_t hk109 hg)
        refine op_gv (v := .pointer (some ⟨adB A1, adO A1 + p106.toNat * 1, none⟩)) rfl rfl hF rfl (yt (gw_yield hF rfl rfl rfl)) (fun hg => (run_indexAddr (b := adB A1) (off := adO A1) rfl Tryd.underlying23 sz4 (((hF.ev rfl).trans (gv_t hg)).trans (congrArg (fun A => Value.slice A x1.length c1) ((S.rc0 h1.rc).rd.ad (ix_pos (hk109 hg))))) ((hF.ev rfl).trans (gv_t hg)) (hk109 hg).1 (hk109 hg).2 (k' := adO A1 + p106.toNat * 1) rfl)) ?_; clear hF; intro a hF
        refine op_gv (v := .bool (x1.getD p106.toNat false)) rfl rfl hF rfl (yt (gw_yield hF rfl rfl rfl)) (fun hg => (run_load1 rfl one4 ((hF.ev rfl).trans (gv_t hg)) (rd_el0 (l := x1) (S.rc0 h1.rc).rd rfl eB_len false (ix_ltn (hk109 hg) rfl) rfl))) ?_; clear hF; intro a hF
        refine op_val (v := .bool ((x0.getD p106.toNat false) && (x1.getD p106.toNat false))) rfl rfl hF rfl (run_pick_and rfl (hF.ev rfl) (fun hp => ((hF.ev rfl).trans (gv_t hp))) rfl) ?_; clear hF; intro a hF
        refine wpList_nil ?_
        cases hc110 : ((x0.getD p106.toNat false) && (x1.getD p106.toNat false))
        · replace hM105 := bif_f hc110 hM105
          refine cond_f hF rfl hc110 ?_
          refine wp_skip ?_
          refine wp_region_lit ?_
          refine op_val (v := .int .i64 (w64 (p106 + 1))) rfl rfl hF rfl (run_add (z := w64 (p106 + 1)) (hF.ev rfl) rfl rfl rfl) ?_; clear hF; intro a hF
          refine op_val (v := .int .i64 (w64 (p106 + 1))) rfl rfl hF rfl (run_move rfl (hF.ev rfl)) ?_; clear hF; intro a hF
          refine wpList_nil ?_
          exact ⟨f1, Nat.lt_succ_self _, w64 (p106 + 1), hM105, hF.keep _ ⟨rfl, rfl, rfl, rfl, trivial⟩, S.sel [0] rfl rfl⟩
        · replace hM105 := bif_t hc110 hM105
          refine cond_t hF rfl hc110 ?_
          refine wp_seq ?_
          refine wp_region_lit ?_
          refine op_val (v := .bool false) rfl rfl hF rfl (run_assign rfl rfl) ?_; clear hF; intro a hF
          refine wpList_nil ?_
          refine wp_ret ?_
          repeat with_reducible (first | refine then_ret ?_ | refine in_ret ?_ | refine in_nrm ?_)
          refine ret1_gw (.inl rfl) hF rfl (res_tmp (hF.ev rfl)) ?_
          obtain rfl := Option.some.inj hM105
          obtain rfl := Option.some.inj hM
          exact ⟨rfl, S.sel [] rfl rfl⟩
    · rintro a u ⟨p103, rfl, hF, S⟩
      replace hM := elim_l hM
      refine wp_seq ?_
      refine wp_seq ?_
      refine wp_region_lit ?_
      refine op_val (v := .pointer (some ⟨g101, 2, none⟩)) rfl rfl hF rfl (run_fieldAddr rfl fl26_2 (hF.ev rfl) rfl) ?_; clear hF; intro a hF
      refine op_val (v := .slice A2 x2.length c2) rfl rfl hF rfl (run_load1 rfl one24 (hF.ev rfl) ((S.free 0 rfl).cell rfl)) ?_; clear hF; intro a hF
      refine op_val (v := .int .i64 (x2.length : Int)) rfl rfl hF rfl (run_lenL rfl rfl Tryd.underlying24 (hF.ev rfl)) ?_; clear hF; intro a hF
      refine op_val (v := .int .i64 0) rfl rfl hF rfl (run_move rfl rfl) ?_; clear hF; intro a hF
      refine wpList_nil ?_
      obtain ⟨o112, hM113, hM⟩ := bind_ex hM
      refine wp_cut (fun a u => ∃ (p111 : Unit), (Sum.inl p111) = o112 ∧ Fr a 97 [(2, .bool false)] ∧ St w u []) ?_ ?_
      · have _ := trivial
        refine wp_block ?_
        refine loop_gw (fun m a u => ∃ (p114 : Int), m_impl_WorkValid_l2 x0 x1 x2 m p114 = some _ ∧ Fr a 97 [(1, .pointer (some ⟨g101, 0, none⟩)), (2, .bool false), (51, .slice A2 x2.length c2), (52, .int .i64 (x2.length : Int)), (53, .int .i64 p114)] ∧ St w u [.box g101 26 #[.slice A0 x0.length c0, .slice A1 x1.length c1, .slice A2 x2.length c2]]) FUEL ⟨0, hM113, hF.keep _ ⟨rfl, rfl, rfl, rfl, rfl, trivial⟩, S.sel [0] rfl rfl⟩ ?_
        clear hF S hM113; rintro m a u ⟨p114, hM113, hF, S⟩
        rcases m with _ | f2
        · exact none_some hM113
        rw [m_impl_WorkValid_l2.eq_2] at hM113
        refine wp_seq ?_
        refine wp_region_lit ?_
        refine op_val (v := .bool (ltB p114 (x2.length : Int))) rfl rfl hF rfl (run_lss (hF.ev rfl) (hF.ev rfl) rfl) ?_; clear hF; intro a hF
        refine wpList_nil ?_
        refine wp_seq ?_
        cases hc115 : (ltB p114 (x2.length : Int))
        · replace hM113 := bif_f hc115 hM113
          refine cond_f hF rfl hc115 ?_
          refine wp_exit ?_
          repeat with_reducible (first | refine then_exit ?_ | refine in_hit ?_ | refine in_miss rfl ?_)
          obtain rfl := Option.some.inj hM113
          exact ⟨(), rfl, hF.keep _ ⟨rfl, trivial⟩, S.sel [] rfl rfl⟩
        · replace hM113 := bif_t hc115 hM113
          refine cond_t hF rfl hc115 ?_
          refine wp_skip ?_
          refine wp_seq ?_
          refine wp_block ?_
          refine wp_seq ?_
          refine wp_region_lit ?_
          refine op_val (v := .int .i64 p114) rfl rfl hF rfl (run_move rfl (hF.ev rfl)) ?_; clear hF; intro a hF
          obtain ⟨hk116, hM113⟩ := chk_ex hM113
          replace hk116 := ixB_t hk116
          refine op_val (v := .pointer (some ⟨adB A2, adO A2 + p114.toNat * 2, none⟩)) rfl rfl hF rfl (run_indexAddr (b := adB A2) (off := adO A2) rfl Tryd.underlying24 sz48 ((hF.ev rfl).trans (congrArg (fun A => Value.slice A x2.length c2) ((S.rc0 h2.rc).rd.ad (ix_pos hk116)))) (hF.ev rfl) hk116.1 hk116.2 (k' := adO A2 + p114.toNat * 2) rfl) ?_; clear hF; intro a hF
          refine op_val (v := .agg #[.int .i64 ((x2.getD p114.toNat ((0, 0) : Int × Int)).1), .int .i64 ((x2.getD p114.toNat ((0, 0) : Int × Int)).2)]) rfl rfl hF rfl (run_loadN (cs := #[.int .i64 ((x2.getD p114.toNat ((0, 0) : Int × Int)).1), .int .i64 ((x2.getD p114.toNat ((0, 0) : Int × Int)).2)]) rfl ag48 (hF.ev rfl) rfl (rd_elN (l := x2) (S.rc0 h2.rc).rd rfl ePermit_len ((0, 0) : Int × Int) (ix_ltn hk116 rfl) rfl)) ?_; clear hF; intro a hF
          refine op_new (cs := #[.int .i64 0, .int .i64 0]) rfl rfl hF rfl S (run_allocZ rfl zr48) ?_; clear hF S; intro a g117 u hF S
          refine op_val (v := .int .i64 p114) rfl rfl hF rfl (run_assign rfl (hF.ev rfl)) ?_; clear hF; intro a hF
          refine op_do rfl rfl (run_store (cs' := #[.int .i64 ((x2.getD p114.toNat ((0, 0) : Int × Int)).1), .int .i64 ((x2.getD p114.toNat ((0, 0) : Int × Int)).2)]) rfl sz48 (hF.ev rfl) (hF.ev rfl) rfl rfl rfl (S.free 0 rfl) rfl rfl) ?_; replace S := S.put 0 rfl (#[.int .i64 ((x2.getD p114.toNat ((0, 0) : Int × Int)).1), .int .i64 ((x2.getD p114.toNat ((0, 0) : Int × Int)).2)])
          generalize World.setRow _ _ _ = u at S ⊢
          refine wpList_nil ?_
          refine wp_seq ?_
          obtain ⟨hk118, hM113⟩ := chk_ex hM113
          replace hk118 := fun hg => ixB_t (imp_t hk118 hg)
          obtain ⟨hk119, hM113⟩ := chk_ex hM113
          replace hk119 := fun hg => slB_t (imp_t hk119 hg)
          obtain ⟨p120, h120, hM113⟩ := bind_ex hM113
          refine region_gw (D := [58, 59, 60, 61, 62, 63, 64, 65, 66, 67, 68, 69, 70, 71, 72, 73, 74, 75, 76, 77, 78, 79, 80, 81, 82, 83, 84, 85, 86, 87, 88, 89, 90, 91, 92, 93, 94, 95]) (Lr := [.box g117 48 #[.int .i64 ((x2.getD p114.toNat ((0, 0) : Int × Int)).1), .int .i64 ((x2.getD p114.toNat ((0, 0) : Int × Int)).2)], .box g101 26 #[.slice A0 x0.length c0, .slice A1 x1.length c1, .slice A2 x2.length c2]]) (deps := (fun | 0 => [58] | 1 => [59] | 2 => [60] | 3 => [61] | 4 => [62] | 5 => [63] | 6 => [64] | 7 => [65] | 8 => [66] | 9 => [67] | 10 => [68] | 11 => [69] | 12 => [70] | 13 => [71] | 14 => [72] | 15 => [73] | 16 => [74] | 17 => [75] | 18 => [76] | 19 => [77] | 20 => [78] | 21 => [79] | 22 => [80] | 23 => [81] | 24 => [82] | 25 => [83] | 26 => [84] | 27 => [85] | 28 => [86] | 29 => [87] | 30 => [88] | 31 => [89] | 32 => [90] | 33 => [91] | 34 => [92] | 35 => [93] | 36 => [94] | 37 => [95] | _ => [])) (rd := (fun _ => [])) (zr := (fun _ => []))
            (φ := fun i vs => match i, vs with | 0, [v58] => v58 = .pointer (some ⟨g117, 0, none⟩) | 1, [v59] => v59 = .int .i64 ((x2.getD p114.toNat ((0, 0) : Int × Int)).1) | 2, [v60] => v60 = .bool (ltB ((x2.getD p114.toNat ((0, 0) : Int × Int)).1) 0) | 3, [v61] => v61 = .bool (ltB ((x2.getD p114.toNat ((0, 0) : Int × Int)).1) 0) | 4, [v62] => v62 = gv (!(ltB ((x2.getD p114.toNat ((0, 0) : Int × Int)).1) 0)) (.pointer (some ⟨g117, 0, none⟩)) | 5, [v63] => v63 = gv (!(ltB ((x2.getD p114.toNat ((0, 0) : Int × Int)).1) 0)) (.int .i64 ((x2.getD p114.toNat ((0, 0) : Int × Int)).1)) | 6, [v64] => v64 = gv (!(ltB ((x2.getD p114.toNat ((0, 0) : Int × Int)).1) 0)) (.bool (ltB 9 ((x2.getD p114.toNat ((0, 0) : Int × Int)).1))) | 7, [v65] => v65 = .bool ((ltB ((x2.getD p114.toNat ((0, 0) : Int × Int)).1) 0) || (ltB 9 ((x2.getD p114.toNat ((0, 0) : Int × Int)).1))) | 8, [v66] => v66 = .bool ((ltB ((x2.getD p114.toNat ((0, 0) : Int × Int)).1) 0) || (ltB 9 ((x2.getD p114.toNat ((0, 0) : Int × Int)).1))) | 9, [v67] => v67 = gv (!((ltB ((x2.getD p114.toNat ((0, 0) : Int × Int)).1) 0) || (ltB 9 ((x2.getD p114.toNat ((0, 0) : Int × Int)).1)))) (.pointer (some ⟨g117, 1, none⟩)) | 10, [v68] => v68 = gv (!((ltB ((x2.getD p114.toNat ((0, 0) : Int × Int)).1) 0) || (ltB 9 ((x2.getD p114.toNat ((0, 0) : Int × Int)).1)))) (.int .i64 ((x2.getD p114.toNat ((0, 0) : Int × Int)).2)) | 11, [v69] => v69 = gv (!((ltB ((x2.getD p114.toNat ((0, 0) : Int × Int)).1) 0) || (ltB 9 ((x2.getD p114.toNat ((0, 0) : Int × Int)).1)))) (.bool (ltB ((x2.getD p114.toNat ((0, 0) : Int × Int)).2) 0)) | 12, [v70] => v70 = .bool (((ltB ((x2.getD p114.toNat ((0, 0) : Int × Int)).1) 0) || (ltB 9 ((x2.getD p114.toNat ((0, 0) : Int × Int)).1))) || (ltB ((x2.getD p114.toNat ((0, 0) : Int × Int)).2) 0)) | 13, [v71] => v71 = .bool (((ltB ((x2.getD p114.toNat ((0, 0) : Int × Int)).1) 0) || (ltB 9 ((x2.getD p114.toNat ((0, 0) : Int × Int)).1))) || (ltB ((x2.getD p114.toNat ((0, 0) : Int × Int)).2) 0)) | 14, [v72] => v72 = gv (!(((ltB ((x2.getD p114.toNat ((0, 0) : Int × Int)).1) 0) || (ltB 9 ((x2.getD p114.toNat ((0, 0) : Int × Int)).1))) || (ltB ((x2.getD p114.toNat ((0, 0) : Int × Int)).2) 0))) (.pointer (some ⟨g117, 1, none⟩)) | 15, [v73] => v73 = gv (!(((ltB ((x2.getD p114.toNat ((0, 0) : Int × Int)).1) 0) || (ltB 9 ((x2.getD p114.toNat ((0, 0) : Int × Int)).1))) || (ltB ((x2.getD p114.toNat ((0, 0) : Int × Int)).2) 0))) (.int .i64 ((x2.getD p114.toNat ((0, 0) : Int × Int)).2)) | 16, [v74] => v74 = gv (!(((ltB ((x2.getD p114.toNat ((0, 0) : Int × Int)).1) 0) || (ltB 9 ((x2.getD p114.toNat ((0, 0) : Int × Int)).1))) || (ltB ((x2.getD p114.toNat ((0, 0) : Int × Int)).2) 0))) (.pointer (some ⟨g101, 0, none⟩)) | 17, [v75] => v75 = gv (!(((ltB ((x2.getD p114.toNat ((0, 0) : Int × Int)).1) 0) || (ltB 9 ((x2.getD p114.toNat ((0, 0) : Int × Int)).1))) || (ltB ((x2.getD p114.toNat ((0, 0) : Int × Int)).2) 0))) (.slice A0 x0.length c0) | 18, [v76] => v76 = gv (!(((ltB ((x2.getD p114.toNat ((0, 0) : Int × Int)).1) 0) || (ltB 9 ((x2.getD p114.toNat ((0, 0) : Int × Int)).1))) || (ltB ((x2.getD p114.toNat ((0, 0) : Int × Int)).2) 0))) (.int .i64 (x0.length : Int)) | 19, [v77] => v77 = gv (!(((ltB ((x2.getD p114.toNat ((0, 0) : Int × Int)).1) 0) || (ltB 9 ((x2.getD p114.toNat ((0, 0) : Int × Int)).1))) || (ltB ((x2.getD p114.toNat ((0, 0) : Int × Int)).2) 0))) (.bool (leB (x0.length : Int) ((x2.getD p114.toNat ((0, 0) : Int × Int)).2))) | 20, [v78] => v78 = .bool ((((ltB ((x2.getD p114.toNat ((0, 0) : Int × Int)).1) 0) || (ltB 9 ((x2.getD p114.toNat ((0, 0) : Int × Int)).1))) || (ltB ((x2.getD p114.toNat ((0, 0) : Int × Int)).2) 0)) || (leB (x0.length : Int) ((x2.getD p114.toNat ((0, 0) : Int × Int)).2))) | 21, [v79] => v79 = .bool ((((ltB ((x2.getD p114.toNat ((0, 0) : Int × Int)).1) 0) || (ltB 9 ((x2.getD p114.toNat ((0, 0) : Int × Int)).1))) || (ltB ((x2.getD p114.toNat ((0, 0) : Int × Int)).2) 0)) || (leB (x0.length : Int) ((x2.getD p114.toNat ((0, 0) : Int × Int)).2))) | 22, [v80] => v80 = gv (!((((ltB ((x2.getD p114.toNat ((0, 0) : Int × Int)).1) 0) || (ltB 9 ((x2.getD p114.toNat ((0, 0) : Int × Int)).1))) || (ltB ((x2.getD p114.toNat ((0, 0) : Int × Int)).2) 0)) || (leB (x0.length : Int) ((x2.getD p114.toNat ((0, 0) : Int × Int)).2)))) (.pointer (some ⟨g101, 1, none⟩)) | 23, [v81] => v81 = gv (!((((ltB ((x2.getD p114.toNat ((0, 0) : Int × Int)).1) 0) || (ltB 9 ((x2.getD p114.toNat ((0, 0) : Int × Int)).1))) || (ltB ((x2.getD p114.toNat ((0, 0) : Int × Int)).2) 0)) || (leB (x0.length : Int) ((x2.getD p114.toNat ((0, 0) : Int × Int)).2)))) (.slice A1 x1.length c1) | 24, [v82] => v82 = gv (!((((ltB ((x2.getD p114.toNat ((0, 0) : Int × Int)).1) 0) || (ltB 9 ((x2.getD p114.toNat ((0, 0) : Int × Int)).1))) || (ltB ((x2.getD p114.toNat ((0, 0) : Int × Int)).2) 0)) || (leB (x0.length : Int) ((x2.getD p114.toNat ((0, 0) : Int × Int)).2)))) (.pointer (some ⟨g117, 1, none⟩)) | 25, [v83] => v83 = gv (!((((ltB ((x2.getD p114.toNat ((0, 0) : Int × Int)).1) 0) || (ltB 9 ((x2.getD p114.toNat ((0, 0) : Int × Int)).1))) || (ltB ((x2.getD p114.toNat ((0, 0) : Int × Int)).2) 0)) || (leB (x0.length : Int) ((x2.getD p114.toNat ((0, 0) : Int × Int)).2)))) (.int .i64 ((x2.getD p114.toNat ((0, 0) : Int × Int)).2)) | 26, [v84] => v84 = gv (!((((ltB ((x2.getD p114.toNat ((0, 0) : Int × Int)).1) 0) || (ltB 9 ((x2.getD p114.toNat ((0, 0) : Int × Int)).1))) || (ltB ((x2.getD p114.toNat ((0, 0) : Int × Int)).2) 0)) || (leB (x0.length : Int) ((x2.getD p114.toNat ((0, 0) : Int × Int)).2)))) (.pointer (some ⟨adB A1, adO A1 + (((x2.getD p114.toNat ((0, 0) : Int × Int)).2).toNat) * 1, none⟩)) | 27, [v85] => v85 = gv (!((((ltB ((x2.getD p114.toNat ((0, 0) : Int × Int)).1) 0) || (ltB 9 ((x2.getD p114.toNat ((0, 0) : Int × Int)).1))) || (ltB ((x2.getD p114.toNat ((0, 0) : Int × Int)).2) 0)) || (leB (x0.length : Int) ((x2.getD p114.toNat ((0, 0) : Int × Int)).2)))) (.bool (x1.getD (((x2.getD p114.toNat ((0, 0) : Int × Int)).2).toNat) false)) | 28, [v86] => v86 = gv (!((((ltB ((x2.getD p114.toNat ((0, 0) : Int × Int)).1) 0) || (ltB 9 ((x2.getD p114.toNat ((0, 0) : Int × Int)).1))) || (ltB ((x2.getD p114.toNat ((0, 0) : Int × Int)).2) 0)) || (leB (x0.length : Int) ((x2.getD p114.toNat ((0, 0) : Int × Int)).2)))) (.bool (!(x1.getD (((x2.getD p114.toNat ((0, 0) : Int × Int)).2).toNat) false))) | 29, [v87] => v87 = .bool (((((ltB ((x2.getD p114.toNat ((0, 0) : Int × Int)).1) 0) || (ltB 9 ((x2.getD p114.toNat ((0, 0) : Int × Int)).1))) || (ltB ((x2.getD p114.toNat ((0, 0) : Int × Int)).2) 0)) || (leB (x0.length : Int) ((x2.getD p114.toNat ((0, 0) : Int × Int)).2))) || (!(x1.getD (((x2.getD p114.toNat ((0, 0) : Int × Int)).2).toNat) false))) | 30, [v88] => v88 = .bool (((((ltB ((x2.getD p114.toNat ((0, 0) : Int × Int)).1) 0) || (ltB 9 ((x2.getD p114.toNat ((0, 0) : Int × Int)).1))) || (ltB ((x2.getD p114.toNat ((0, 0) : Int × Int)).2) 0)) || (leB (x0.length : Int) ((x2.getD p114.toNat ((0, 0) : Int × Int)).2))) || (!(x1.getD (((x2.getD p114.toNat ((0, 0) : Int × Int)).2).toNat) false))) | 31, [v89] => v89 = gv (!(((((ltB ((x2.getD p114.toNat ((0, 0) : Int × Int)).1) 0) || (ltB 9 ((x2.getD p114.toNat ((0, 0) : Int × Int)).1))) || (ltB ((x2.getD p114.toNat ((0, 0) : Int × Int)).2) 0)) || (leB (x0.length : Int) ((x2.getD p114.toNat ((0, 0) : Int × Int)).2))) || (!(x1.getD (((x2.getD p114.toNat ((0, 0) : Int × Int)).2).toNat) false)))) (.pointer (some ⟨g101, 2, none⟩)) | 32, [v90] => v90 = gv (!(((((ltB ((x2.getD p114.toNat ((0, 0) : Int × Int)).1) 0) || (ltB 9 ((x2.getD p114.toNat ((0, 0) : Int × Int)).1))) || (ltB ((x2.getD p114.toNat ((0, 0) : Int × Int)).2) 0)) || (leB (x0.length : Int) ((x2.getD p114.toNat ((0, 0) : Int × Int)).2))) || (!(x1.getD (((x2.getD p114.toNat ((0, 0) : Int × Int)).2).toNat) false)))) (.slice A2 x2.length c2) | 33, [v91] => v91 = gv (!(((((ltB ((x2.getD p114.toNat ((0, 0) : Int × Int)).1) 0) || (ltB 9 ((x2.getD p114.toNat ((0, 0) : Int × Int)).1))) || (ltB ((x2.getD p114.toNat ((0, 0) : Int × Int)).2) 0)) || (leB (x0.length : Int) ((x2.getD p114.toNat ((0, 0) : Int × Int)).2))) || (!(x1.getD (((x2.getD p114.toNat ((0, 0) : Int × Int)).2).toNat) false)))) (.int .i64 p114) | 34, [v92] => v92 = gv (!(((((ltB ((x2.getD p114.toNat ((0, 0) : Int × Int)).1) 0) || (ltB 9 ((x2.getD p114.toNat ((0, 0) : Int × Int)).1))) || (ltB ((x2.getD p114.toNat ((0, 0) : Int × Int)).2) 0)) || (leB (x0.length : Int) ((x2.getD p114.toNat ((0, 0) : Int × Int)).2))) || (!(x1.getD (((x2.getD p114.toNat ((0, 0) : Int × Int)).2).toNat) false)))) (.slice (subA c2 ((0 : Int).toNat) 2 A2) ((subL x2 0 p114).length) (c2 - (0 : Int).toNat)) | 35, [v93] => v93 = gv (!(((((ltB ((x2.getD p114.toNat ((0, 0) : Int × Int)).1) 0) || (ltB 9 ((x2.getD p114.toNat ((0, 0) : Int × Int)).1))) || (ltB ((x2.getD p114.toNat ((0, 0) : Int × Int)).2) 0)) || (leB (x0.length : Int) ((x2.getD p114.toNat ((0, 0) : Int × Int)).2))) || (!(x1.getD (((x2.getD p114.toNat ((0, 0) : Int × Int)).2).toNat) false)))) (.agg #[.int .i64 ((x2.getD p114.toNat ((0, 0) : Int × Int)).1), .int .i64 ((x2.getD p114.toNat ((0, 0) : Int × Int)).2)]) | 36, [v94] => v94 = gv (!(((((ltB ((x2.getD p114.toNat ((0, 0) : Int × Int)).1) 0) || (ltB 9 ((x2.getD p114.toNat ((0, 0) : Int × Int)).1))) || (ltB ((x2.getD p114.toNat ((0, 0) : Int × Int)).2) 0)) || (leB (x0.length : Int) ((x2.getD p114.toNat ((0, 0) : Int × Int)).2))) || (!(x1.getD (((x2.getD p114.toNat ((0, 0) : Int × Int)).2).toNat) false)))) (.bool p120) | 37, [v95] => v95 = .bool ((((((ltB ((x2.getD p114.toNat ((0, 0) : Int × Int)).1) 0) || (ltB 9 ((x2.getD p114.toNat ((0, 0) : Int × Int)).1))) || (ltB ((x2.getD p114.toNat ((0, 0) : Int × Int)).2) 0)) || (leB (x0.length : Int) ((x2.getD p114.toNat ((0, 0) : Int × Int)).2))) || (!(x1.getD (((x2.getD p114.toNat ((0, 0) : Int × Int)).2).toNat) false))) || p120) | _, _ => True)
            (C := fun _ _ => [])
            (κ := (fun _ => none)) (Z := (fun _ => [])) mixed hF (by kernel_rfl) S ?_ ?_
          · refine ⟨?_, ?_, ?_, ?_, ?_, ?_, ?_, ?_, ?_, ?_, ?_, ?_, ?_, ?_, ?_, ?_, ?_, ?_, ?_, ?_, ?_, ?_, ?_, ?_, ?_, ?_, ?_, ?_, ?_, ?_, ?_, ?_, ?_, ?_, ?_, ?_, ?_, ?_, trivial⟩
            · intro a u X hB hu hp hr hz hl S
              replace S : St w u ([] ++ X) := S
              exact .inl ⟨rfl, .pointer (some ⟨g117, 0, none⟩), u, (run_fieldAddr rfl fl48_0 (hF.evB hB rfl rfl) rfl), rfl, S⟩
            · intro a u X hB hu hp hr hz hl S
              replace S : St w u ([] ++ X) := S
              have e58 : sl a 58 = .pointer (some ⟨g117, 0, none⟩) := hp 0 rfl
              exact .inl ⟨rfl, .int .i64 ((x2.getD p114.toNat ((0, 0) : Int × Int)).1), u, (run_load1 rfl one3 (ev_sl e58) ((gr_box S hl 0 rfl).cell rfl)), rfl, S⟩
            · intro a u X hB hu hp hr hz hl S
              replace S : St w u ([] ++ X) := S
              have e59 : sl a 59 = .int .i64 ((x2.getD p114.toNat ((0, 0) : Int × Int)).1) := hp 1 rfl
              exact .inl ⟨rfl, .bool (ltB ((x2.getD p114.toNat ((0, 0) : Int × Int)).1) 0), u, (run_lss (ev_sl e59) (ev_const _ _) rfl), rfl, S⟩
            · intro a u X hB hu hp hr hz hl S
              replace S : St w u ([] ++ X) := S
              have e60 : sl a 60 = .bool (ltB ((x2.getD p114.toNat ((0, 0) : Int × Int)).1) 0) := hp 2 rfl
              exact .inl ⟨rfl, .bool (ltB ((x2.getD p114.toNat ((0, 0) : Int × Int)).1) 0), u, (run_move rfl (ev_sl e60)), rfl, S⟩
            · intro a u X hB hu hp hr hz hl S
              replace S : St w u ([] ++ X) := S
              have e61 : sl a 61 = .bool (ltB ((x2.getD p114.toNat ((0, 0) : Int × Int)).1) 0) := hp 3 rfl
              rcases (Bool.eq_false_or_eq_true (!(ltB ((x2.getD p114.toNat ((0, 0) : Int × Int)).1) 0))).symm with hg | hg
              · exact .inr (.inr (.inr ⟨gr_eg rfl (yf (gr_yield rfl rfl e61)) hg, (gv_f hg).symm, S⟩))
              · exact .inl ⟨gr_eg rfl (yf (gr_yield rfl rfl e61)) hg, .pointer (some ⟨g117, 0, none⟩), u, (run_fieldAddr rfl fl48_0 (hF.evB hB rfl rfl) rfl), (gv_t hg).symm, S⟩
            · intro a u X hB hu hp hr hz hl S
              replace S : St w u ([] ++ X) := S
              have e61 : sl a 61 = .bool (ltB ((x2.getD p114.toNat ((0, 0) : Int × Int)).1) 0) := hp 3 rfl
              have e62 : sl a 62 = gv (!(ltB ((x2.getD p114.toNat ((0, 0) : Int × Int)).1) 0)) (.pointer (some ⟨g117, 0, none⟩)) := hp 4 rfl
              rcases (Bool.eq_false_or_eq_true (!(ltB ((x2.getD p114.toNat ((0, 0) : Int × Int)).1) 0))).symm with hg | hg
              · exact .inr (.inr (.inr ⟨gr_eg rfl (yf (gr_yield rfl rfl e61)) hg, (gv_f hg).symm, S⟩))
              · exact .inl ⟨gr_eg rfl (yf (gr_yield rfl rfl e61)) hg, .int .i64 ((x2.getD p114.toNat ((0, 0) : Int × Int)).1), u, (run_load1 rfl one3 ((ev_sl e62).trans (gv_t hg)) ((gr_box S hl 0 rfl).cell rfl)), (gv_t hg).symm, S⟩
            · intro a u X hB hu hp hr hz hl S
              replace S : St w u ([] ++ X) := S
              have e61 : sl a 61 = .bool (ltB ((x2.getD p114.toNat ((0, 0) : Int × Int)).1) 0) := hp 3 rfl
              have e63 : sl a 63 = gv (!(ltB ((x2.getD p114.toNat ((0, 0) : Int × Int)).1) 0)) (.int .i64 ((x2.getD p114.toNat ((0, 0) : Int × Int)).1)) := hp 5 rfl
              rcases (Bool.eq_false_or_eq_true (!(ltB ((x2.getD p114.toNat ((0, 0) : Int × Int)).1) 0))).symm with hg | hg
              · exact .inr (.inr (.inr ⟨gr_eg rfl (yf (gr_yield rfl rfl e61)) hg, (gv_f hg).symm, S⟩))
              · exact .inl ⟨gr_eg rfl (yf (gr_yield rfl rfl e61)) hg, .bool (ltB 9 ((x2.getD p114.toNat ((0, 0) : Int × Int)).1)), u, (run_gtr ((ev_sl e63).trans (gv_t hg)) (ev_const _ _) rfl), (gv_t hg).symm, S⟩
            · intro a u X hB hu hp hr hz hl S
              replace S : St w u ([] ++ X) := S
              have e61 : sl a 61 = .bool (ltB ((x2.getD p114.toNat ((0, 0) : Int × Int)).1) 0) := hp 3 rfl
              have e64 : sl a 64 = gv (!(ltB ((x2.getD p114.toNat ((0, 0) : Int × Int)).1) 0)) (.bool (ltB 9 ((x2.getD p114.toNat ((0, 0) : Int × Int)).1))) := hp 6 rfl
              exact .inl ⟨rfl, .bool ((ltB ((x2.getD p114.toNat ((0, 0) : Int × Int)).1) 0) || (ltB 9 ((x2.getD p114.toNat ((0, 0) : Int × Int)).1))), u, (run_pick_or rfl (ev_sl e61) (ev_const _ _) (fun hp => ((ev_sl e64).trans (gv_t (not_t hp))))), rfl, S⟩
            · intro a u X hB hu hp hr hz hl S
              replace S : St w u ([] ++ X) := S
              have e65 : sl a 65 = .bool ((ltB ((x2.getD p114.toNat ((0, 0) : Int × Int)).1) 0) || (ltB 9 ((x2.getD p114.toNat ((0, 0) : Int × Int)).1))) := hp 7 rfl
              exact .inl ⟨rfl, .bool ((ltB ((x2.getD p114.toNat ((0, 0) : Int × Int)).1) 0) || (ltB 9 ((x2.getD p114.toNat ((0, 0) : Int × Int)).1))), u, (run_move rfl (ev_sl e65)), rfl, S⟩
            · intro a u X hB hu hp hr hz hl S
              replace S : St w u ([] ++ X) := S
              have e66 : sl a 66 = .bool ((ltB ((x2.getD p114.toNat ((0, 0) : Int × Int)).1) 0) || (ltB 9 ((x2.getD p114.toNat ((0, 0) : Int × Int)).1))) := hp 8 rfl
              rcases (Bool.eq_false_or_eq_true (!((ltB ((x2.getD p114.toNat ((0, 0) : Int × Int)).1) 0) || (ltB 9 ((x2.getD p114.toNat ((0, 0) : Int × Int)).1))))).symm with hg | hg
              · exact .inr (.inr (.inr ⟨gr_eg rfl (yf (gr_yield rfl rfl e66)) hg, (gv_f hg).symm, S⟩))
              · exact .inl ⟨gr_eg rfl (yf (gr_yield rfl rfl e66)) hg, .pointer (some ⟨g117, 1, none⟩), u, (run_fieldAddr rfl fl48_1 (hF.evB hB rfl rfl) rfl), (gv_t hg).symm, S⟩
            · intro a u X hB hu hp hr hz hl S
              replace S : St w u ([] ++ X) := S
              have e66 : sl a 66 = .bool ((ltB ((x2.getD p114.toNat ((0, 0) : Int × Int)).1) 0) || (ltB 9 ((x2.getD p114.toNat ((0, 0) : Int × Int)).1))) := hp 8 rfl
              have e67 : sl a 67 = gv (!((ltB ((x2.getD p114.toNat ((0, 0) : Int × Int)).1) 0) || (ltB 9 ((x2.getD p114.toNat ((0, 0) : Int × Int)).1)))) (.pointer (some ⟨g117, 1, none⟩)) := hp 9 rfl
              rcases (Bool.eq_false_or_eq_true (!((ltB ((x2.getD p114.toNat ((0, 0) : Int × Int)).1) 0) || (ltB 9 ((x2.getD p114.toNat ((0, 0) : Int × Int)).1))))).symm with hg | hg
              · exact .inr (.inr (.inr ⟨gr_eg rfl (yf (gr_yield rfl rfl e66)) hg, (gv_f hg).symm, S⟩))
              · exact .inl ⟨gr_eg rfl (yf (gr_yield rfl rfl e66)) hg, .int .i64 ((x2.getD p114.toNat ((0, 0) : Int × Int)).2), u, (run_load1 rfl one3 ((ev_sl e67).trans (gv_t hg)) ((gr_box S hl 0 rfl).cell rfl)), (gv_t hg).symm, S⟩
            · intro a u X hB hu hp hr hz hl S
              replace S : St w u ([] ++ X) := S
              have e66 : sl a 66 = .bool ((ltB ((x2.getD p114.toNat ((0, 0) : Int × Int)).1) 0) || (ltB 9 ((x2.getD p114.toNat ((0, 0) : Int × Int)).1))) := hp 8 rfl
              have e68 : sl a 68 = gv (!((ltB ((x2.getD p114.toNat ((0, 0) : Int × Int)).1) 0) || (ltB 9 ((x2.getD p114.toNat ((0, 0) : Int × Int)).1)))) (.int .i64 ((x2.getD p114.toNat ((0, 0) : Int × Int)).2)) := hp 10 rfl
              rcases (Bool.eq_false_or_eq_true (!((ltB ((x2.getD p114.toNat ((0, 0) : Int × Int)).1) 0) || (ltB 9 ((x2.getD p114.toNat ((0, 0) : Int × Int)).1))))).symm with hg | hg
              · exact .inr (.inr (.inr ⟨gr_eg rfl (yf (gr_yield rfl rfl e66)) hg, (gv_f hg).symm, S⟩))
              · exact .inl ⟨gr_eg rfl (yf (gr_yield rfl rfl e66)) hg, .bool (ltB ((x2.getD p114.toNat ((0, 0) : Int × Int)).2) 0), u, (run_lss ((ev_sl e68).trans (gv_t hg)) (ev_const _ _) rfl), (gv_t hg).symm, S⟩
            · intro a u X hB hu hp hr hz hl S
              replace S : St w u ([] ++ X) := S
              have e66 : sl a 66 = .bool ((ltB ((x2.getD p114.toNat ((0, 0) : Int × Int)).1) 0) || (ltB 9 ((x2.getD p114.toNat ((0, 0) : Int × Int)).1))) := hp 8 rfl
              have e69 : sl a 69 = gv (!((ltB ((x2.getD p114.toNat ((0, 0) : Int × Int)).1) 0) || (ltB 9 ((x2.getD p114.toNat ((0, 0) : Int × Int)).1)))) (.bool (ltB ((x2.getD p114.toNat ((0, 0) : Int × Int)).2) 0)) := hp 11 rfl
              exact .inl ⟨rfl, .bool (((ltB ((x2.getD p114.toNat ((0, 0) : Int × Int)).1) 0) || (ltB 9 ((x2.getD p114.toNat ((0, 0) : Int × Int)).1))) || (ltB ((x2.getD p114.toNat ((0, 0) : Int × Int)).2) 0)), u, (run_pick_or rfl (ev_sl e66) (ev_const _ _) (fun hp => ((ev_sl e69).trans (gv_t (not_t hp))))), rfl, S⟩
            · intro a u X hB hu hp hr hz hl S
              replace S : St w u ([] ++ X) := S
              have e70 : sl a 70 = .bool (((ltB ((x2.getD p114.toNat ((0, 0) : Int × Int)).1) 0) || (ltB 9 ((x2.getD p114.toNat ((0, 0) : Int × Int)).1))) || (ltB ((x2.getD p114.toNat ((0, 0) : Int × Int)).2) 0)) := hp 12 rfl
              exact .inl ⟨rfl, .bool (((ltB ((x2.getD p114.toNat ((0, 0) : Int × Int)).1) 0) || (ltB 9 ((x2.getD p114.toNat ((0, 0) : Int × Int)).1))) || (ltB ((x2.getD p114.toNat ((0, 0) : Int × Int)).2) 0)), u, (run_move rfl (ev_sl e70)), rfl, S⟩
            · intro a u X hB hu hp hr hz hl S
              replace S : St w u ([] ++ X) := S
              have e71 : sl a 71 = .bool (((ltB ((x2.getD p114.toNat ((0, 0) : Int × Int)).1) 0) || (ltB 9 ((x2.getD p114.toNat ((0, 0) : Int × Int)).1))) || (ltB ((x2.getD p114.toNat ((0, 0) : Int × Int)).2) 0)) := hp 13 rfl
              rcases (Bool.eq_false_or_eq_true (!(((ltB ((x2.getD p114.toNat ((0, 0) : Int × Int)).1) 0) || (ltB 9 ((x2.getD p114.toNat ((0, 0) : Int × Int)).1))) || (ltB ((x2.getD p114.toNat ((0, 0) : Int × Int)).2) 0)))).symm with hg | hg
              · exact .inr (.inr (.inr ⟨gr_eg rfl (yf (gr_yield rfl rfl e71)) hg, (gv_f hg).symm, S⟩))
              · exact .inl ⟨gr_eg rfl (yf (gr_yield rfl rfl e71)) hg, .pointer (some ⟨g117, 1, none⟩), u, (run_fieldAddr rfl fl48_1 (hF.evB hB rfl rfl) rfl), (gv_t hg).symm, S⟩
            · intro a u X hB hu hp hr hz hl S
              replace S : St w u ([] ++ X) := S
              have e71 : sl a 71 = .bool (((ltB ((x2.getD p114.toNat ((0, 0) : Int × Int)).1) 0) || (ltB 9 ((x2.getD p114.toNat ((0, 0) : Int × Int)).1))) || (ltB ((x2.getD p114.toNat ((0, 0) : Int × Int)).2) 0)) := hp 13 rfl
              have e72 : sl a 72 = gv (!(((ltB ((x2.getD p114.toNat ((0, 0) : Int × Int)).1) 0) || (ltB 9 ((x2.getD p114.toNat ((0, 0) : Int × Int)).1))) || (ltB ((x2.getD p114.toNat ((0, 0) : Int × Int)).2) 0))) (.pointer (some ⟨g117, 1, none⟩)) := hp 14 rfl
              rcases (Bool.eq_false_or_eq_true (!(((ltB ((x2.getD p114.toNat ((0, 0) : Int × Int)).1) 0) || (ltB 9 ((x2.getD p114.toNat ((0, 0) : Int × Int)).1))) || (ltB ((x2.getD p114.toNat ((0, 0) : Int × Int)).2) 0)))).symm with hg | hg
              · exact .inr (.inr (.inr ⟨gr_eg rfl (yf (gr_yield rfl rfl e71)) hg, (gv_f hg).symm, S⟩))
              · exact .inl ⟨gr_eg rfl (yf (gr_yield rfl rfl e71)) hg, .int .i64 ((x2.getD p114.toNat ((0, 0) : Int × Int)).2), u, (run_load1 rfl one3 ((ev_sl e72).trans (gv_t hg)) ((gr_box S hl 0 rfl).cell rfl)), (gv_t hg).symm, S⟩
            · intro a u X hB hu hp hr hz hl S
              replace S : St w u ([] ++ X) := S
              have e71 : sl a 71 = .bool (((ltB ((x2.getD p114.toNat ((0, 0) : Int × Int)).1) 0) || (ltB 9 ((x2.getD p114.toNat ((0, 0) : Int × Int)).1))) || (ltB ((x2.getD p114.toNat ((0, 0) : Int × Int)).2) 0)) := hp 13 rfl
              rcases (Bool.eq_false_or_eq_true (!(((ltB ((x2.getD p114.toNat ((0, 0) : Int × Int)).1) 0) || (ltB 9 ((x2.getD p114.toNat ((0, 0) : Int × Int)).1))) || (ltB ((x2.getD p114.toNat ((0, 0) : Int × Int)).2) 0)))).symm with hg | hg
              · exact .inr (.inr (.inr ⟨gr_eg rfl (yf (gr_yield rfl rfl e71)) hg, (gv_f hg).symm, S⟩))
              · exact .inl ⟨gr_eg rfl (yf (gr_yield rfl rfl e71)) hg, .pointer (some ⟨g101, 0, none⟩), u, (run_fieldAddr rfl fl26_0 (hF.evB hB rfl rfl) rfl), (gv_t hg).symm, S⟩
            · intro a u X hB hu hp hr hz hl S
              replace S : St w u ([] ++ X) := S
              have e71 : sl a 71 = .bool (((ltB ((x2.getD p114.toNat ((0, 0) : Int × Int)).1) 0) || (ltB 9 ((x2.getD p114.toNat ((0, 0) : Int × Int)).1))) || (ltB ((x2.getD p114.toNat ((0, 0) : Int × Int)).2) 0)) := hp 13 rfl
              have e74 : sl a 74 = gv (!(((ltB ((x2.getD p114.toNat ((0, 0) : Int × Int)).1) 0) || (ltB 9 ((x2.getD p114.toNat ((0, 0) : Int × Int)).1))) || (ltB ((x2.getD p114.toNat ((0, 0) : Int × Int)).2) 0))) (.pointer (some ⟨g101, 0, none⟩)) := hp 16 rfl
              rcases (Bool.eq_false_or_eq_true (!(((ltB ((x2.getD p114.toNat ((0, 0) : Int × Int)).1) 0) || (ltB 9 ((x2.getD p114.toNat ((0, 0) : Int × Int)).1))) || (ltB ((x2.getD p114.toNat ((0, 0) : Int × Int)).2) 0)))).symm with hg | hg
              · exact .inr (.inr (.inr ⟨gr_eg rfl (yf (gr_yield rfl rfl e71)) hg, (gv_f hg).symm, S⟩))
              · exact .inl ⟨gr_eg rfl (yf (gr_yield rfl rfl e71)) hg, .slice A0 x0.length c0, u, (run_load1 rfl one23 ((ev_sl e74).trans (gv_t hg)) ((gr_box S hl 1 rfl).cell rfl)), (gv_t hg).symm, S⟩
            · intro a u X hB hu hp hr hz hl S
              replace S : St w u ([] ++ X) := S
              have e71 : sl a 71 = .bool (((ltB ((x2.getD p114.toNat ((0, 0) : Int × Int)).1) 0) || (ltB 9 ((x2.getD p114.toNat ((0, 0) : Int × Int)).1))) || (ltB ((x2.getD p114.toNat ((0, 0) : Int × Int)).2) 0)) := hp 13 rfl
              have e75 : sl a 75 = gv (!(((ltB ((x2.getD p114.toNat ((0, 0) : Int × Int)).1) 0) || (ltB 9 ((x2.getD p114.toNat ((0, 0) : Int × Int)).1))) || (ltB ((x2.getD p114.toNat ((0, 0) : Int × Int)).2) 0))) (.slice A0 x0.length c0) := hp 17 rfl
              rcases (Bool.eq_false_or_eq_true (!(((ltB ((x2.getD p114.toNat ((0, 0) : Int × Int)).1) 0) || (ltB 9 ((x2.getD p114.toNat ((0, 0) : Int × Int)).1))) || (ltB ((x2.getD p114.toNat ((0, 0) : Int × Int)).2) 0)))).symm with hg | hg
              · exact .inr (.inr (.inr ⟨gr_eg rfl (yf (gr_yield rfl rfl e71)) hg, (gv_f hg).symm, S⟩))
              · exact .inl ⟨gr_eg rfl (yf (gr_yield rfl rfl e71)) hg, .int .i64 (x0.length : Int), u, (run_lenL rfl rfl Tryd.underlying23 ((ev_sl e75).trans (gv_t hg))), (gv_t hg).symm, S⟩
            · intro a u X hB hu hp hr hz hl S
              replace S : St w u ([] ++ X) := S
              have e71 : sl a 71 = .bool (((ltB ((x2.getD p114.toNat ((0, 0) : Int × Int)).1) 0) || (ltB 9 ((x2.getD p114.toNat ((0, 0) : Int × Int)).1))) || (ltB ((x2.getD p114.toNat ((0, 0) : Int × Int)).2) 0)) := hp 13 rfl
              have e73 : sl a 73 = gv (!(((ltB ((x2.getD p114.toNat ((0, 0) : Int × Int)).1) 0) || (ltB 9 ((x2.getD p114.toNat ((0, 0) : Int × Int)).1))) || (ltB ((x2.getD p114.toNat ((0, 0) : Int × Int)).2) 0))) (.int .i64 ((x2.getD p114.toNat ((0, 0) : Int × Int)).2)) := hp 15 rfl
              have e76 : sl a 76 = gv (!(((ltB ((x2.getD p114.toNat ((0, 0) : Int × Int)).1) 0) || (ltB 9 ((x2.getD p114.toNat ((0, 0) : Int × Int)).1))) || (ltB ((x2.getD p114.toNat ((0, 0) : Int × Int)).2) 0))) (.int .i64 (x0.length : Int)) := hp 18 rfl
              rcases (Bool.eq_false_or_eq_true (!(((ltB ((x2.getD p114.toNat ((0, 0) : Int × Int)).1) 0) || (ltB 9 ((x2.getD p114.toNat ((0, 0) : Int × Int)).1))) || (ltB ((x2.getD p114.toNat ((0, 0) : Int × Int)).2) 0)))).symm with hg | hg
              · exact .inr (.inr (.inr ⟨gr_eg rfl (yf (gr_yield rfl rfl e71)) hg, (gv_f hg).symm, S⟩))
              · exact .inl ⟨gr_eg rfl (yf (gr_yield rfl rfl e71)) hg, .bool (leB (x0.length : Int) ((x2.getD p114.toNat ((0, 0) : Int × Int)).2)), u, (run_geq ((ev_sl e73).trans (gv_t hg)) ((ev_sl e76).trans (gv_t hg)) rfl), (gv_t hg).symm, S⟩
            · intro a u X hB hu hp hr hz hl S
              replace S : St w u ([] ++ X) := S
              have e71 : sl a 71 = .bool (((ltB ((x2.getD p114.toNat ((0, 0) : Int × Int)).1) 0) || (ltB 9 ((x2.getD p114.toNat ((0, 0) : Int × Int)).1))) || (ltB ((x2.getD p114.toNat ((0, 0) : Int × Int)).2) 0)) := hp 13 rfl
              have e77 : sl a 77 = gv (!(((ltB ((x2.getD p114.toNat ((0, 0) : Int × Int)).1) 0) || (ltB 9 ((x2.getD p114.toNat ((0, 0) : Int × Int)).1))) || (ltB ((x2.getD p114.toNat ((0, 0) : Int × Int)).2) 0))) (.bool (leB (x0.length : Int) ((x2.getD p114.toNat ((0, 0) : Int × Int)).2))) := hp 19 rfl
              exact .inl ⟨rfl, .bool ((((ltB ((x2.getD p114.toNat ((0, 0) : Int × Int)).1) 0) || (ltB 9 ((x2.getD p114.toNat ((0, 0) : Int × Int)).1))) || (ltB ((x2.getD p114.toNat ((0, 0) : Int × Int)).2) 0)) || (leB (x0.length : Int) ((x2.getD p114.toNat ((0, 0) : Int × Int)).2))), u, (run_pick_or rfl (ev_sl e71) (ev_const _ _) (fun hp => ((ev_sl e77).trans (gv_t (not_t hp))))), rfl, S⟩
            · intro a u X hB hu hp hr hz hl S
              replace S : St w u ([] ++ X) := S
              have e78 : sl a 78 = .bool ((((ltB ((x2.getD p114.toNat ((0, 0) : Int × Int)).1) 0) || (ltB 9 ((x2.getD p114.toNat ((0, 0) : Int × Int)).1))) || (ltB ((x2.getD p114.toNat ((0, 0) : Int × Int)).2) 0)) || (leB (x0.length : Int) ((x2.getD p114.toNat ((0, 0) : Int × Int)).2))) := hp 20 rfl
              exact .inl ⟨rfl, .bool ((((ltB ((x2.getD p114.toNat ((0, 0) : Int × Int)).1) 0) || (ltB 9 ((x2.getD p114.toNat ((0, 0) : Int × Int)).1))) || (ltB ((x2.getD p114.toNat ((0, 0) : Int × Int)).2) 0)) || (leB (x0.length : Int) ((x2.getD p114.toNat ((0, 0) : Int × Int)).2))), u, (run_move rfl (ev_sl e78)), rfl, S⟩
            · intro a u X hB hu hp hr hz hl S
              replace S : St w u ([] ++ X) := S
              have e79 : sl a 79 = .bool ((((ltB ((x2.getD p114.toNat ((0, 0) : Int × Int)).1) 0) || (ltB 9 ((x2.getD p114.toNat ((0, 0) : Int × Int)).1))) || (ltB ((x2.getD p114.toNat ((0, 0) : Int × Int)).2) 0)) || (leB (x0.length : Int) ((x2.getD p114.toNat ((0, 0) : Int × Int)).2))) := hp 21 rfl
              rcases (Bool.eq_false_or_eq_true (!((((ltB ((x2.getD p114.toNat ((0, 0) : Int × Int)).1) 0) || (ltB 9 ((x2.getD p114.toNat ((0, 0) : Int × Int)).1))) || (ltB ((x2.getD p114.toNat ((0, 0) : Int × Int)).2) 0)) || (leB (x0.length : Int) ((x2.getD p114.toNat ((0, 0) : Int × Int)).2))))).symm with hg | hg
              · exact .inr (.inr (.inr ⟨gr_eg rfl (yf (gr_yield rfl rfl e79)) hg, (gv_f hg).symm, S⟩))
              · exact .inl ⟨gr_eg rfl (yf (gr_yield rfl rfl e79)) hg, .pointer (some ⟨g101, 1, none⟩), u, (run_fieldAddr rfl fl26_1 (hF.evB hB rfl rfl) rfl), (gv_t hg).symm, S⟩
            · intro a u X hB hu hp hr hz hl S
              replace S : St w u ([] ++ X) := S
              have e79 : sl a 79 = .bool ((((ltB ((x2.getD p114.toNat ((0, 0) : Int × Int)).1) 0) || (ltB 9 ((x2.getD p114.toNat ((0, 0) : Int × Int)).1))) || (ltB ((x2.getD p114.toNat ((0, 0) : Int × Int)).2) 0)) || (leB (x0.length : Int) ((x2.getD p114.toNat ((0, 0) : Int × Int)).2))) := hp 21 rfl
              have e80 : sl a 80 = gv (!((((ltB ((x2.getD p114.toNat ((0, 0) : Int × Int)).1) 0) || (ltB 9 ((x2.getD p114.toNat ((0, 0) : Int × Int)).1))) || (ltB ((x2.getD p114.toNat ((0, 0) : Int × Int)).2) 0)) || (leB (x0.length : Int) ((x2.getD p114.toNat ((0, 0) : Int × Int)).2)))) (.pointer (some ⟨g101, 1, none⟩)) := hp 22 rfl
              rcases (Bool.eq_false_or_eq_true (!((((ltB ((x2.getD p114.toNat ((0, 0) : Int × Int)).1) 0) || (ltB 9 ((x2.getD p114.toNat ((0, 0) : Int × Int)).1))) || (ltB ((x2.getD p114.toNat ((0, 0) : Int × Int)).2) 0)) || (leB (x0.length : Int) ((x2.getD p114.toNat ((0, 0) : Int × Int)).2))))).symm with hg | hg
              · exact .inr (.inr (.inr ⟨gr_eg rfl (yf (gr_yield rfl rfl e79)) hg, (gv_f hg).symm, S⟩))
              · exact .inl ⟨gr_eg rfl (yf (gr_yield rfl rfl e79)) hg, .slice A1 x1.length c1, u, (run_load1 rfl one23 ((ev_sl e80).trans (gv_t hg)) ((gr_box S hl 1 rfl).cell rfl)), (gv_t hg).symm, S⟩
            · intro a u X hB hu hp hr hz hl S
              replace S : St w u ([] ++ X) := S
              have e79 : sl a 79 = .bool ((((ltB ((x2.getD p114.toNat ((0, 0) : Int × Int)).1) 0) || (ltB 9 ((x2.getD p114.toNat ((0, 0) : Int × Int)).1))) || (ltB ((x2.getD p114.toNat ((0, 0) : Int × Int)).2) 0)) || (leB (x0.length : Int) ((x2.getD p114.toNat ((0, 0) : Int × Int)).2))) := hp 21 rfl
              rcases (Bool.eq_false_or_eq_true (!((((ltB ((x2.getD p114.toNat ((0, 0) : Int × Int)).1) 0) || (ltB 9 ((x2.getD p114.toNat ((0, 0) : Int × Int)).1))) || (ltB ((x2.getD p114.toNat ((0, 0) : Int × Int)).2) 0)) || (leB (x0.length : Int) ((x2.getD p114.toNat ((0, 0) : Int × Int)).2))))).symm with hg | hg
              · exact .inr (.inr (.inr ⟨gr_eg rfl (yf (gr_yield rfl rfl e79)) hg, (gv_f hg).symm, S⟩))
              · exact .inl ⟨gr_eg rfl (yf (gr_yield rfl rfl e79)) hg, .pointer (some ⟨g117, 1, none⟩), u, (run_fieldAddr rfl fl48_1 (hF.evB hB rfl rfl) rfl), (gv_t hg).symm, S⟩
            · intro a u X hB hu hp hr hz hl S
              replace S : St w u ([] ++ X) := S
              have e79 : sl a 79 = .bool ((((ltB ((x2.getD p114.toNat ((0, 0) : Int × Int)).1) 0) || (ltB 9 ((x2.getD p114.toNat ((0, 0) : Int × Int)).1))) || (ltB ((x2.getD p114.toNat ((0, 0) : Int × Int)).2) 0)) || (leB (x0.length : Int) ((x2.getD p114.toNat ((0, 0) : Int × Int)).2))) := hp 21 rfl
              have e82 : sl a 82 = gv (!((((ltB ((x2.getD p114.toNat ((0, 0) : Int × Int)).1) 0) || (ltB 9 ((x2.getD p114.toNat ((0, 0) : Int × Int)).1))) || (ltB ((x2.getD p114.toNat ((0, 0) : Int × Int)).2) 0)) || (leB (x0.length : Int) ((x2.getD p114.toNat ((0, 0) : Int × Int)).2)))) (.pointer (some ⟨g117, 1, none⟩)) := hp 24 rfl
              rcases (Bool.eq_false_or_eq_true (!((((ltB ((x2.getD p114.toNat ((0, 0) : Int × Int)).1) 0) || (ltB 9 ((x2.getD p114.toNat ((0, 0) : Int × Int)).1))) || (ltB ((x2.getD p114.toNat ((0, 0) : Int × Int)).2) 0)) || (leB (x0.length : Int) ((x2.getD p114.toNat ((0, 0) : Int × Int)).2))))).symm with hg | hg
              · exact .inr (.inr (.inr ⟨gr_eg rfl (yf (gr_yield rfl rfl e79)) hg, (gv_f hg).symm, S⟩))
              · exact .inl ⟨gr_eg rfl (yf (gr_yield rfl rfl e79)) hg, .int .i64 ((x2.getD p114.toNat ((0, 0) : Int × Int)).2), u, (run_load1 rfl one3 ((ev_sl e82).trans (gv_t hg)) ((gr_box S hl 0 rfl).cell rfl)), (gv_t hg).symm, S⟩
            · intro a u X hB hu hp hr hz hl S
              replace S : St w u ([] ++ X) := S
              have e79 : sl a 79 = .bool ((((ltB ((x2.getD p114.toNat ((0, 0) : Int × Int)).1) 0) || (ltB 9 ((x2.getD p114.toNat ((0, 0) : Int × Int)).1))) || (ltB ((x2.getD p114.toNat ((0, 0) : Int × Int)).2) 0)) || (leB (x0.length : Int) ((x2.getD p114.toNat ((0, 0) : Int × Int)).2))) := hp 21 rfl
              have e81 : sl a 81 = gv (!((((ltB ((x2.getD p114.toNat ((0, 0) : Int × Int)).1) 0) || (ltB 9 ((x2.getD p114.toNat ((0, 0) : Int × Int)).1))) || (ltB ((x2.getD p114.toNat ((0, 0) : Int × Int)).2) 0)) || (leB (x0.length : Int) ((x2.getD p114.toNat ((0, 0) : Int × Int)).2)))) (.slice A1 x1.length c1) := hp 23 rfl
              have e83 : sl a 83 = gv (!((((ltB ((x2.getD p114.toNat ((0, 0) : Int × Int)).1) 0) || (ltB 9 ((x2.getD p114.toNat ((0, 0) : Int × Int)).1))) || (ltB ((x2.getD p114.toNat ((0, 0) : Int × Int)).2) 0)) || (leB (x0.length : Int) ((x2.getD p114.toNat ((0, 0) : Int × Int)).2)))) (.int .i64 ((x2.getD p114.toNat ((0, 0) : Int × Int)).2)) := hp 25 rfl
              rcases (Bool.eq_false_or_eq_true (!((((ltB ((x2.getD p114.toNat ((0, 0) : Int × Int)).1) 0) || (ltB 9 ((x2.getD p114.toNat ((0, 0) : Int × Int)).1))) || (ltB ((x2.getD p114.toNat ((0, 0) : Int × Int)).2) 0)) || (leB (x0.length : Int) ((x2.getD p114.toNat ((0, 0) : Int × Int)).2))))).symm with hg | hg
              · exact .inr (.inr (.inr ⟨gr_eg rfl (yf (gr_yield rfl rfl e79)) hg, (gv_f hg).symm, S⟩))
              · exact .inl ⟨gr_eg rfl (yf (gr_yield rfl rfl e79)) hg, .pointer (some ⟨adB A1, adO A1 + (((x2.getD p114.toNat ((0, 0) : Int × Int)).2).toNat) * 1, none⟩), u, (run_indexAddr (b := adB A1) (off := adO A1) rfl Tryd.underlying23 sz4 (((ev_sl e81).trans (gv_t hg)).trans (congrArg (fun A => Value.slice A x1.length c1) ((S.rc0 h1.rc).rd.ad (ix_pos (hk118 hg))))) ((ev_sl e83).trans (gv_t hg)) (hk118 hg).1 (hk118 hg).2 (k' := adO A1 + (((x2.getD p114.toNat ((0, 0) : Int × Int)).2).toNat) * 1) rfl), (gv_t hg).symm, S⟩
            · intro a u X hB hu hp hr hz hl S
              replace S : St w u ([] ++ X) := S
              have e79 : sl a 79 = .bool ((((ltB ((x2.getD p114.toNat ((0, 0) : Int × Int)).1) 0) || (ltB 9 ((x2.getD p114.toNat ((0, 0) : Int × Int)).1))) || (ltB ((x2.getD p114.toNat ((0, 0) : Int × Int)).2) 0)) || (leB (x0.length : Int) ((x2.getD p114.toNat ((0, 0) : Int × Int)).2))) := hp 21 rfl
              have e84 : sl a 84 = gv (!((((ltB ((x2.getD p114.toNat ((0, 0) : Int × Int)).1) 0) || (ltB 9 ((x2.getD p114.toNat ((0, 0) : Int × Int)).1))) || (ltB ((x2.getD p114.toNat ((0, 0) : Int × Int)).2) 0)) || (leB (x0.length : Int) ((x2.getD p114.toNat ((0, 0) : Int × Int)).2)))) (.pointer (some ⟨adB A1, adO A1 + (((x2.getD p114.toNat ((0, 0) : Int × Int)).2).toNat) * 1, none⟩)) := hp 26 rfl
              rcases (Bool.eq_false_or_eq_true (!((((ltB ((x2.getD p114.toNat ((0, 0) : Int × Int)).1) 0) || (ltB 9 ((x2.getD p114.toNat ((0, 0) : Int × Int)).1))) || (ltB ((x2.getD p114.toNat ((0, 0) : Int × Int)).2) 0)) || (leB (x0.length : Int) ((x2.getD p114.toNat ((0, 0) : Int × Int)).2))))).symm with hg | hg
              · exact .inr (.inr (.inr ⟨gr_eg rfl (yf (gr_yield rfl rfl e79)) hg, (gv_f hg).symm, S⟩))
              · exact .inl ⟨gr_eg rfl (yf (gr_yield rfl rfl e79)) hg, .bool (x1.getD (((x2.getD p114.toNat ((0, 0) : Int × Int)).2).toNat) false), u, (run_load1 rfl one4 ((ev_sl e84).trans (gv_t hg)) (rd_el0 (l := x1) (S.rc0 h1.rc).rd rfl eB_len false (ix_ltn (hk118 hg) rfl) rfl)), (gv_t hg).symm, S⟩
            · intro a u X hB hu hp hr hz hl S
              replace S : St w u ([] ++ X) := S
              have e79 : sl a 79 = .bool ((((ltB ((x2.getD p114.toNat ((0, 0) : Int × Int)).1) 0) || (ltB 9 ((x2.getD p114.toNat ((0, 0) : Int × Int)).1))) || (ltB ((x2.getD p114.toNat ((0, 0) : Int × Int)).2) 0)) || (leB (x0.length : Int) ((x2.getD p114.toNat ((0, 0) : Int × Int)).2))) := hp 21 rfl
              have e85 : sl a 85 = gv (!((((ltB ((x2.getD p114.toNat ((0, 0) : Int × Int)).1) 0) || (ltB 9 ((x2.getD p114.toNat ((0, 0) : Int × Int)).1))) || (ltB ((x2.getD p114.toNat ((0, 0) : Int × Int)).2) 0)) || (leB (x0.length : Int) ((x2.getD p114.toNat ((0, 0) : Int × Int)).2)))) (.bool (x1.getD (((x2.getD p114.toNat ((0, 0) : Int × Int)).2).toNat) false)) := hp 27 rfl
              rcases (Bool.eq_false_or_eq_true (!((((ltB ((x2.getD p114.toNat ((0, 0) : Int × Int)).1) 0) || (ltB 9 ((x2.getD p114.toNat ((0, 0) : Int × Int)).1))) || (ltB ((x2.getD p114.toNat ((0, 0) : Int × Int)).2) 0)) || (leB (x0.length : Int) ((x2.getD p114.toNat ((0, 0) : Int × Int)).2))))).symm with hg | hg
              · exact .inr (.inr (.inr ⟨gr_eg rfl (yf (gr_yield rfl rfl e79)) hg, (gv_f hg).symm, S⟩))
              · exact .inl ⟨gr_eg rfl (yf (gr_yield rfl rfl e79)) hg, .bool (!(x1.getD (((x2.getD p114.toNat ((0, 0) : Int × Int)).2).toNat) false)), u, (run_not rfl ((ev_sl e85).trans (gv_t hg))), (gv_t hg).symm, S⟩
            · intro a u X hB hu hp hr hz hl S
              replace S : St w u ([] ++ X) := S
              have e79 : sl a 79 = .bool ((((ltB ((x2.getD p114.toNat ((0, 0) : Int × Int)).1) 0) || (ltB 9 ((x2.getD p114.toNat ((0, 0) : Int × Int)).1))) || (ltB ((x2.getD p114.toNat ((0, 0) : Int × Int)).2) 0)) || (leB (x0.length : Int) ((x2.getD p114.toNat ((0, 0) : Int × Int)).2))) := hp 21 rfl
              have e86 : sl a 86 = gv (!((((ltB ((x2.getD p114.toNat ((0, 0) : Int × Int)).1) 0) || (ltB 9 ((x2.getD p114.toNat ((0, 0) : Int × Int)).1))) || (ltB ((x2.getD p114.toNat ((0, 0) : Int × Int)).2) 0)) || (leB (x0.length : Int) ((x2.getD p114.toNat ((0, 0) : Int × Int)).2)))) (.bool (!(x1.getD (((x2.getD p114.toNat ((0, 0) : Int × Int)).2).toNat) false))) := hp 28 rfl
              exact .inl ⟨rfl, .bool (((((ltB ((x2.getD p114.toNat ((0, 0) : Int × Int)).1) 0) || (ltB 9 ((x2.getD p114.toNat ((0, 0) : Int × Int)).1))) || (ltB ((x2.getD p114.toNat ((0, 0) : Int × Int)).2) 0)) || (leB (x0.length : Int) ((x2.getD p114.toNat ((0, 0) : Int × Int)).2))) || (!(x1.getD (((x2.getD p114.toNat ((0, 0) : Int × Int)).2).toNat) false))), u, (run_pick_or rfl (ev_sl e79) (ev_const _ _) (fun hp => ((ev_sl e86).trans (gv_t (not_t hp))))), rfl, S⟩
            · intro a u X hB hu hp hr hz hl S
              replace S : St w u ([] ++ X) := S
              have e87 : sl a 87 = .bool (((((ltB ((x2.getD p114.toNat ((0, 0) : Int × Int)).1) 0) || (ltB 9 ((x2.getD p114.toNat ((0, 0) : Int × Int)).1))) || (ltB ((x2.getD p114.toNat ((0, 0) : Int × Int)).2) 0)) || (leB (x0.length : Int) ((x2.getD p114.toNat ((0, 0) : Int × Int)).2))) || (!(x1.getD (((x2.getD p114.toNat ((0, 0) : Int × Int)).2).toNat) false))) := hp 29 rfl
              exact .inl ⟨rfl, .bool (((((ltB ((x2.getD p114.toNat ((0, 0) : Int × Int)).1) 0) || (ltB 9 ((x2.getD p114.toNat ((0, 0) : Int × Int)).1))) || (ltB ((x2.getD p114.toNat ((0, 0) : Int × Int)).2) 0)) || (leB (x0.length : Int) ((x2.getD p114.toNat ((0, 0) : Int × Int)).2))) || (!(x1.getD (((x2.getD p114.toNat ((0, 0) : Int × Int)).2).toNat) false))), u, (run_move rfl (ev_sl e87)), rfl, S⟩
            · intro a u X hB hu hp hr hz hl S
              replace S : St w u ([] ++ X) := S
              have e88 : sl a 88 = .bool (((((ltB ((x2.getD p114.toNat ((0, 0) : Int × Int)).1) 0) || (ltB 9 ((x2.getD p114.toNat ((0, 0) : Int × Int)).1))) || (ltB ((x2.getD p114.toNat ((0, 0) : Int × Int)).2) 0)) || (leB (x0.length : Int) ((x2.getD p114.toNat ((0, 0) : Int × Int)).2))) || (!(x1.getD (((x2.getD p114.toNat ((0, 0) : Int × Int)).2).toNat) false))) := hp 30 rfl
              rcases (Bool.eq_false_or_eq_true (!(((((ltB ((x2.getD p114.toNat ((0, 0) : Int × Int)).1) 0) || (ltB 9 ((x2.getD p114.toNat ((0, 0) : Int × Int)).1))) || (ltB ((x2.getD p114.toNat ((0, 0) : Int × Int)).2) 0)) || (leB (x0.length : Int) ((x2.getD p114.toNat ((0, 0) : Int × Int)).2))) || (!(x1.getD (((x2.getD p114.toNat ((0, 0) : Int × Int)).2).toNat) false))))).symm with hg | hg
              · exact .inr (.inr (.inr ⟨gr_eg rfl (yf (gr_yield rfl rfl e88)) hg, (gv_f hg).symm, S⟩))
              · exact .inl ⟨gr_eg rfl (yf (gr_yield rfl rfl e88)) hg, .pointer (some ⟨g101, 2, none⟩), u, (run_fieldAddr rfl fl26_2 (hF.evB hB rfl rfl) rfl), (gv_t hg).symm, S⟩
            · intro a u X hB hu hp hr hz hl S
              replace S : St w u ([] ++ X) := S
              have e88 : sl a 88 = .bool (((((ltB ((x2.getD p114.toNat ((0, 0) : Int × Int)).1) 0) || (ltB 9 ((x2.getD p114.toNat ((0, 0) : Int × Int)).1))) || (ltB ((x2.getD p114.toNat ((0, 0) : Int × Int)).2) 0)) || (leB (x0.length : Int) ((x2.getD p114.toNat ((0, 0) : Int × Int)).2))) || (!(x1.getD (((x2.getD p114.toNat ((0, 0) : Int × Int)).2).toNat) false))) := hp 30 rfl
              have e89 : sl a 89 = gv (!(((((ltB ((x2.getD p114.toNat ((0, 0) : Int × Int)).1) 0) || (ltB 9 ((x2.getD p114.toNat ((0, 0) : Int × Int)).1))) || (ltB ((x2.getD p114.toNat ((0, 0) : Int × Int)).2) 0)) || (leB (x0.length : Int) ((x2.getD p114.toNat ((0, 0) : Int × Int)).2))) || (!(x1.getD (((x2.getD p114.toNat ((0, 0) : Int × Int)).2).toNat) false)))) (.pointer (some ⟨g101, 2, none⟩)) := hp 31 rfl
              rcases (Bool.eq_false_or_eq_true (!(((((ltB ((x2.getD p114.toNat ((0, 0) : Int × Int)).1) 0) || (ltB 9 ((x2.getD p114.toNat ((0, 0) : Int × Int)).1))) || (ltB ((x2.getD p114.toNat ((0, 0) : Int × Int)).2) 0)) || (leB (x0.length : Int) ((x2.getD p114.toNat ((0, 0) : Int × Int)).2))) || (!(x1.getD (((x2.getD p114.toNat ((0, 0) : Int × Int)).2).toNat) false))))).symm with hg | hg
              · exact .inr (.inr (.inr ⟨gr_eg rfl (yf (gr_yield rfl rfl e88)) hg, (gv_f hg).symm, S⟩))
              · exact .inl ⟨gr_eg rfl (yf (gr_yield rfl rfl e88)) hg, .slice A2 x2.length c2, u, (run_load1 rfl one24 ((ev_sl e89).trans (gv_t hg)) ((gr_box S hl 1 rfl).cell rfl)), (gv_t hg).symm, S⟩
            · intro a u X hB hu hp hr hz hl S
              replace S : St w u ([] ++ X) := S
              have e88 : sl a 88 = .bool (((((ltB ((x2.getD p114.toNat ((0, 0) : Int × Int)).1) 0) || (ltB 9 ((x2.getD p114.toNat ((0, 0) : Int × Int)).1))) || (ltB ((x2.getD p114.toNat ((0, 0) : Int × Int)).2) 0)) || (leB (x0.length : Int) ((x2.getD p114.toNat ((0, 0) : Int × Int)).2))) || (!(x1.getD (((x2.getD p114.toNat ((0, 0) : Int × Int)).2).toNat) false))) := hp 30 rfl
              rcases (Bool.eq_false_or_eq_true (!(((((ltB ((x2.getD p114.toNat ((0, 0) : Int × Int)).1) 0) || (ltB 9 ((x2.getD p114.toNat ((0, 0) : Int × Int)).1))) || (ltB ((x2.getD p114.toNat ((0, 0) : Int × Int)).2) 0)) || (leB (x0.length : Int) ((x2.getD p114.toNat ((0, 0) : Int × Int)).2))) || (!(x1.getD (((x2.getD p114.toNat ((0, 0) : Int × Int)).2).toNat) false))))).symm with hg | hg
              · exact .inr (.inr (.inr ⟨gr_eg rfl (yf (gr_yield rfl rfl e88)) hg, (gv_f hg).symm, S⟩))
              · exact .inl ⟨gr_eg rfl (yf (gr_yield rfl rfl e88)) hg, .int .i64 p114, u, (run_move rfl (hF.evB hB rfl rfl)), (gv_t hg).symm, S⟩
            · intro a u X hB hu hp hr hz hl S
              replace S : St w u ([] ++ X) := S
              have e88 : sl a 88 = .bool (((((ltB ((x2.getD p114.toNat ((0, 0) : Int × Int)).1) 0) || (ltB 9 ((x2.getD p114.toNat ((0, 0) : Int × Int)).1))) || (ltB ((x2.getD p114.toNat ((0, 0) : Int × Int)).2) 0)) || (leB (x0.length : Int) ((x2.getD p114.toNat ((0, 0) : Int × Int)).2))) || (!(x1.getD (((x2.getD p114.toNat ((0, 0) : Int × Int)).2).toNat) false))) := hp 30 rfl
              have e90 : sl a 90 = gv (!(((((ltB ((x2.getD p114.toNat ((0, 0) : Int × Int)).1) 0) || (ltB 9 ((x2.getD p114.toNat ((0, 0) : Int × Int)).1))) || (ltB ((x2.getD p114.toNat ((0, 0) : Int × Int)).2) 0)) || (leB (x0.length : Int) ((x2.getD p114.toNat ((0, 0) : Int × Int)).2))) || (!(x1.getD (((x2.getD p114.toNat ((0, 0) : Int × Int)).2).toNat) false)))) (.slice A2 x2.length c2) := hp 32 rfl
              have e91 : sl a 91 = gv (!(((((ltB ((x2.getD p114.toNat ((0, 0) : Int × Int)).1) 0) || (ltB 9 ((x2.getD p114.toNat ((0, 0) : Int × Int)).1))) || (ltB ((x2.getD p114.toNat ((0, 0) : Int × Int)).2) 0)) || (leB (x0.length : Int) ((x2.getD p114.toNat ((0, 0) : Int × Int)).2))) || (!(x1.getD (((x2.getD p114.toNat ((0, 0) : Int × Int)).2).toNat) false)))) (.int .i64 p114) := hp 33 rfl
              rcases (Bool.eq_false_or_eq_true (!(((((ltB ((x2.getD p114.toNat ((0, 0) : Int × Int)).1) 0) || (ltB 9 ((x2.getD p114.toNat ((0, 0) : Int × Int)).1))) || (ltB ((x2.getD p114.toNat ((0, 0) : Int × Int)).2) 0)) || (leB (x0.length : Int) ((x2.getD p114.toNat ((0, 0) : Int × Int)).2))) || (!(x1.getD (((x2.getD p114.toNat ((0, 0) : Int × Int)).2).toNat) false))))).symm with hg | hg
              · exact .inr (.inr (.inr ⟨gr_eg rfl (yf (gr_yield rfl rfl e88)) hg, (gv_f hg).symm, S⟩))
              · exact .inl ⟨gr_eg rfl (yf (gr_yield rfl rfl e88)) hg, .slice (subA c2 ((0 : Int).toNat) 2 A2) ((subL x2 0 p114).length) (c2 - (0 : Int).toNat), u, (run_sliceH (l := x2) rfl Tryd.underlying24 sz48 ((ev_sl e90).trans (gv_t hg)) ((ev_sl e91).trans (gv_t hg)) (hk119 hg) rfl (S.rc0 h2.rc).cap), (gv_t hg).symm, S⟩
            · intro a u X hB hu hp hr hz hl S
              replace S : St w u ([] ++ X) := S
              have e88 : sl a 88 = .bool (((((ltB ((x2.getD p114.toNat ((0, 0) : Int × Int)).1) 0) || (ltB 9 ((x2.getD p114.toNat ((0, 0) : Int × Int)).1))) || (ltB ((x2.getD p114.toNat ((0, 0) : Int × Int)).2) 0)) || (leB (x0.length : Int) ((x2.getD p114.toNat ((0, 0) : Int × Int)).2))) || (!(x1.getD (((x2.getD p114.toNat ((0, 0) : Int × Int)).2).toNat) false))) := hp 30 rfl
              rcases (Bool.eq_false_or_eq_true (!(((((ltB ((x2.getD p114.toNat ((0, 0) : Int × Int)).1) 0) || (ltB 9 ((x2.getD p114.toNat ((0, 0) : Int × Int)).1))) || (ltB ((x2.getD p114.toNat ((0, 0) : Int × Int)).2) 0)) || (leB (x0.length : Int) ((x2.getD p114.toNat ((0, 0) : Int × Int)).2))) || (!(x1.getD (((x2.getD p114.toNat ((0, 0) : Int × Int)).2).toNat) false))))).symm with hg | hg
              · exact .inr (.inr (.inr ⟨gr_eg rfl (yf (gr_yield rfl rfl e88)) hg, (gv_f hg).symm, S⟩))
              · exact .inl ⟨gr_eg rfl (yf (gr_yield rfl rfl e88)) hg, .agg #[.int .i64 ((x2.getD p114.toNat ((0, 0) : Int × Int)).1), .int .i64 ((x2.getD p114.toNat ((0, 0) : Int × Int)).2)], u, (run_loadN rfl ag48 (hF.evB hB rfl rfl) rfl ((gr_box S hl 0 rfl).cells 0 #[.int .i64 ((x2.getD p114.toNat ((0, 0) : Int × Int)).1), .int .i64 ((x2.getD p114.toNat ((0, 0) : Int × Int)).2)] rfl)), (gv_t hg).symm, S⟩
            · intro a u X hB hu hp hr hz hl S
              replace S : St w u ([] ++ X) := S
              have e88 : sl a 88 = .bool (((((ltB ((x2.getD p114.toNat ((0, 0) : Int × Int)).1) 0) || (ltB 9 ((x2.getD p114.toNat ((0, 0) : Int × Int)).1))) || (ltB ((x2.getD p114.toNat ((0, 0) : Int × Int)).2) 0)) || (leB (x0.length : Int) ((x2.getD p114.toNat ((0, 0) : Int × Int)).2))) || (!(x1.getD (((x2.getD p114.toNat ((0, 0) : Int × Int)).2).toNat) false))) := hp 30 rfl
              have e92 : sl a 92 = gv (!(((((ltB ((x2.getD p114.toNat ((0, 0) : Int × Int)).1) 0) || (ltB 9 ((x2.getD p114.toNat ((0, 0) : Int × Int)).1))) || (ltB ((x2.getD p114.toNat ((0, 0) : Int × Int)).2) 0)) || (leB (x0.length : Int) ((x2.getD p114.toNat ((0, 0) : Int × Int)).2))) || (!(x1.getD (((x2.getD p114.toNat ((0, 0) : Int × Int)).2).toNat) false)))) (.slice (subA c2 ((0 : Int).toNat) 2 A2) ((subL x2 0 p114).length) (c2 - (0 : Int).toNat)) := hp 34 rfl
              have e93 : sl a 93 = gv (!(((((ltB ((x2.getD p114.toNat ((0, 0) : Int × Int)).1) 0) || (ltB 9 ((x2.getD p114.toNat ((0, 0) : Int × Int)).1))) || (ltB ((x2.getD p114.toNat ((0, 0) : Int × Int)).2) 0)) || (leB (x0.length : Int) ((x2.getD p114.toNat ((0, 0) : Int × Int)).2))) || (!(x1.getD (((x2.getD p114.toNat ((0, 0) : Int × Int)).2).toNat) false)))) (.agg #[.int .i64 ((x2.getD p114.toNat ((0, 0) : Int × Int)).1), .int .i64 ((x2.getD p114.toNat ((0, 0) : Int × Int)).2)]) := hp 35 rfl
              rcases (Bool.eq_false_or_eq_true (!(((((ltB ((x2.getD p114.toNat ((0, 0) : Int × Int)).1) 0) || (ltB 9 ((x2.getD p114.toNat ((0, 0) : Int × Int)).1))) || (ltB ((x2.getD p114.toNat ((0, 0) : Int × Int)).2) 0)) || (leB (x0.length : Int) ((x2.getD p114.toNat ((0, 0) : Int × Int)).2))) || (!(x1.getD (((x2.getD p114.toNat ((0, 0) : Int × Int)).2).toNat) false))))).symm with hg | hg
              · exact .inr (.inr (.inr ⟨gr_eg rfl (yf (gr_yield rfl rfl e88)) hg, (gv_f hg).symm, S⟩))
              · refine .inr (.inr (.inl ⟨gr_eg rfl (yf (gr_yield rfl rfl e88)) hg, _, _, (run_call (vs := [.slice (subA c2 ((0 : Int).toNat) 2 A2) ((subL x2 0 p114).length) (c2 - (0 : Int).toNat), .agg #[.int .i64 ((x2.getD p114.toNat ((0, 0) : Int × Int)).1), .int .i64 ((x2.getD p114.toNat ((0, 0) : Int × Int)).2)]]) rfl rfl co43 ⟨((ev_sl e92).trans (gv_t hg)), ((ev_sl e93).trans (gv_t hg)), trivial⟩), ?_⟩))
                refine Calls.mono (c_slices_Contains_impl_Permit_impl_Permit (x0 := subL x2 0 p114) (x1 := (x2.getD p114.toNat ((0, 0) : Int × Int)).1) (x2 := (x2.getD p114.toNat ((0, 0) : Int × Int)).2) ⟨(rc_sub ePermit_len (hk119 hg) rfl (S.rc0 h2.rc)), rfl⟩ (gb_t h120 hg)) ?_
                rintro e w1 ⟨rfl, T⟩
                exact ⟨_, rfl, (gv_t hg).symm, S.call0 T⟩
            · intro a u X hB hu hp hr hz hl S
              replace S : St w u ([] ++ X) := S
              have e88 : sl a 88 = .bool (((((ltB ((x2.getD p114.toNat ((0, 0) : Int × Int)).1) 0) || (ltB 9 ((x2.getD p114.toNat ((0, 0) : Int × Int)).1))) || (ltB ((x2.getD p114.toNat ((0, 0) : Int × Int)).2) 0)) || (leB (x0.length : Int) ((x2.getD p114.toNat ((0, 0) : Int × Int)).2))) || (!(x1.getD (((x2.getD p114.toNat ((0, 0) : Int × Int)).2).toNat) false))) := hp 30 rfl
              have e94 : sl a 94 = gv (!(((((ltB ((x2.getD p114.toNat ((0, 0) : Int × Int)).1) 0) || (ltB 9 ((x2.getD p114.toNat ((0, 0) : Int × Int)).1))) || (ltB ((x2.getD p114.toNat ((0, 0) : Int × Int)).2) 0)) || (leB (x0.length : Int) ((x2.getD p114.toNat ((0, 0) : Int × Int)).2))) || (!(x1.getD (((x2.getD p114.toNat ((0, 0) : Int × Int)).2).toNat) false)))) (.bool p120) := hp 36 rfl
              exact .inl ⟨rfl, .bool ((((((ltB ((x2.getD p114.toNat ((0, 0) : Int × Int)).1) 0) || (ltB 9 ((x2.getD p114.toNat ((0, 0) : Int × Int)).1))) || (ltB ((x2.getD p114.toNat ((0, 0) : Int × Int)).2) 0)) || (leB (x0.length : Int) ((x2.getD p114.toNat ((0, 0) : Int × Int)).2))) || (!(x1.getD (((x2.getD p114.toNat ((0, 0) : Int × Int)).2).toNat) false))) || p120), u, (run_pick_or rfl (ev_sl e88) (ev_const _ _) (fun hp => ((ev_sl e94).trans (gv_t (not_t hp))))), rfl, S⟩
          · intro a u hB hp S
            obtain ⟨q0, q1, q2, q3, q4, q5, q6, q7, q8, q9, q10, q11, q12, q13, q14, q15, q16, q17, q18, q19, q20, q21, q22, q23, q24, q25, q26, q27, q28, q29, q30, q31, q32, q33, q34, q35, q36, q37, _⟩ := hp
            have e58 : sl a 58 = .pointer (some ⟨g117, 0, none⟩) := q0
            have e59 : sl a 59 = .int .i64 ((x2.getD p114.toNat ((0, 0) : Int × Int)).1) := q1
            have e60 : sl a 60 = .bool (ltB ((x2.getD p114.toNat ((0, 0) : Int × Int)).1) 0) := q2
            have e61 : sl a 61 = .bool (ltB ((x2.getD p114.toNat ((0, 0) : Int × Int)).1) 0) := q3
            have e62 : sl a 62 = gv (!(ltB ((x2.getD p114.toNat ((0, 0) : Int × Int)).1) 0)) (.pointer (some ⟨g117, 0, none⟩)) := q4
            have e63 : sl a 63 = gv (!(ltB ((x2.getD p114.toNat ((0, 0) : Int × Int)).1) 0)) (.int .i64 ((x2.getD p114.toNat ((0, 0) : Int × Int)).1)) := q5
            have e64 : sl a 64 = gv (!(ltB ((x2.getD p114.toNat ((0, 0) : Int × Int)).1) 0)) (.bool (ltB 9 ((x2.getD p114.toNat ((0, 0) : Int × Int)).1))) := q6
            have e65 : sl a 65 = .bool ((ltB ((x2.getD p114.toNat ((0, 0) : Int × Int)).1) 0) || (ltB 9 ((x2.getD p114.toNat ((0, 0) : Int × Int)).1))) := q7
            have e66 : sl a 66 = .bool ((ltB ((x2.getD p114.toNat ((0, 0) : Int × Int)).1) 0) || (ltB 9 ((x2.getD p114.toNat ((0, 0) : Int × Int)).1))) := q8
            have e67 : sl a 67 = gv (!((ltB ((x2.getD p114.toNat ((0, 0) : Int × Int)).1) 0) || (ltB 9 ((x2.getD p114.toNat ((0, 0) : Int × Int)).1)))) (.pointer (some ⟨g117, 1, none⟩)) := q9
            have e68 : sl a 68 = gv (!((ltB ((x2.getD p114.toNat ((0, 0) : Int × Int)).1) 0) || (ltB 9 ((x2.getD p114.toNat ((0, 0) : Int × Int)).1)))) (.int .i64 ((x2.getD p114.toNat ((0, 0) : Int × Int)).2)) := q10
            have e69 : sl a 69 = gv (!((ltB ((x2.getD p114.toNat ((0, 0) : Int × Int)).1) 0) || (ltB 9 ((x2.getD p114.toNat ((0, 0) : Int × Int)).1)))) (.bool (ltB ((x2.getD p114.toNat ((0, 0) : Int × Int)).2) 0)) := q11
            have e70 : sl a 70 = .bool (((ltB ((x2.getD p114.toNat ((0, 0) : Int × Int)).1) 0) || (ltB 9 ((x2.getD p114.toNat ((0, 0) : Int × Int)).1))) || (ltB ((x2.getD p114.toNat ((0, 0) : Int × Int)).2) 0)) := q12
            have e71 : sl a 71 = .bool (((ltB ((x2.getD p114.toNat ((0, 0) : Int × Int)).1) 0) || (ltB 9 ((x2.getD p114.toNat ((0, 0) : Int × Int)).1))) || (ltB ((x2.getD p114.toNat ((0, 0) : Int × Int)).2) 0)) := q13
            have e72 : sl a 72 = gv (!(((ltB ((x2.getD p114.toNat ((0, 0) : Int × Int)).1) 0) || (ltB 9 ((x2.getD p114.toNat ((0, 0) : Int × Int)).1))) || (ltB ((x2.getD p114.toNat ((0, 0) : Int × Int)).2) 0))) (.pointer (some ⟨g117, 1, none⟩)) := q14
            have e73 : sl a 73 = gv (!(((ltB ((x2.getD p114.toNat ((0, 0) : Int × Int)).1) 0) || (ltB 9 ((x2.getD p114.toNat ((0, 0) : Int × Int)).1))) || (ltB ((x2.getD p114.toNat ((0, 0) : Int × Int)).2) 0))) (.int .i64 ((x2.getD p114.toNat ((0, 0) : Int × Int)).2)) := q15
            have e74 : sl a 74 = gv (!(((ltB ((x2.getD p114.toNat ((0, 0) : Int × Int)).1) 0) || (ltB 9 ((x2.getD p114.toNat ((0, 0) : Int × Int)).1))) || (ltB ((x2.getD p114.toNat ((0, 0) : Int × Int)).2) 0))) (.pointer (some ⟨g101, 0, none⟩)) := q16
            have e75 : sl a 75 = gv (!(((ltB ((x2.getD p114.toNat ((0, 0) : Int × Int)).1) 0) || (ltB 9 ((x2.getD p114.toNat ((0, 0) : Int × Int)).1))) || (ltB ((x2.getD p114.toNat ((0, 0) : Int × Int)).2) 0))) (.slice A0 x0.length c0) := q17
            have e76 : sl a 76 = gv (!(((ltB ((x2.getD p114.toNat ((0, 0) : Int × Int)).1) 0) || (ltB 9 ((x2.getD p114.toNat ((0, 0) : Int × Int)).1))) || (ltB ((x2.getD p114.toNat ((0, 0) : Int × Int)).2) 0))) (.int .i64 (x0.length : Int)) := q18
            have e77 : sl a 77 = gv (!(((ltB ((x2.getD p114.toNat ((0, 0) : Int × Int)).1) 0) || (ltB 9 ((x2.getD p114.toNat ((0, 0) : Int × Int)).1))) || (ltB ((x2.getD p114.toNat ((0, 0) : Int × Int)).2) 0))) (.bool (leB (x0.length : Int) ((x2.getD p114.toNat ((0, 0) : Int × Int)).2))) := q19
            have e78 : sl a 78 = .bool ((((ltB ((x2.getD p114.toNat ((0, 0) : Int × Int)).1) 0) || (ltB 9 ((x2.getD p114.toNat ((0, 0) : Int × Int)).1))) || (ltB ((x2.getD p114.toNat ((0, 0) : Int × Int)).2) 0)) || (leB (x0.length : Int) ((x2.getD p114.toNat ((0, 0) : Int × Int)).2))) := q20
            have e79 : sl a 79 = .bool ((((ltB ((x2.getD p114.toNat ((0, 0) : Int × Int)).1) 0) || (ltB 9 ((x2.getD p114.toNat ((0, 0) : Int × Int)).1))) || (ltB ((x2.getD p114.toNat ((0, 0) : Int × Int)).2) 0)) || (leB (x0.length : Int) ((x2.getD p114.toNat ((0, 0) : Int × Int)).2))) := q21
            have e80 : sl a 80 = gv (!((((ltB ((x2.getD p114.toNat ((0, 0) : Int × Int)).1) 0) || (ltB 9 ((x2.getD p114.toNat ((0, 0) : Int × Int)).1))) || (ltB ((x2.getD p114.toNat ((0, 0) : Int × Int)).2) 0)) || (leB (x0.length : Int) ((x2.getD p114.toNat ((0, 0) : Int × Int)).2)))) (.pointer (some ⟨g101, 1, none⟩)) := q22
            have e81 : sl a 81 = gv (!((((ltB ((x2.getD p114.toNat ((0, 0) : Int × Int)).1) 0) || (ltB 9 ((x2.getD p114.toNat ((0, 0) : Int × Int)).1))) || (ltB ((x2.getD p114.toNat ((0, 0) : Int × Int)).2) 0)) || (leB (x0.length : Int) ((x2.getD p114.toNat ((0, 0) : Int × Int)).2)))) (.slice A1 x1.length c1) := q23
            have e82 : sl a 82 = gv (!((((ltB ((x2.getD p114.toNat ((0, 0) : Int × Int)).1) 0) || (ltB 9 ((x2.getD p114.toNat ((0, 0) : Int × Int)).1))) || (ltB ((x2.getD p114.toNat ((0, 0) : Int × Int)).2) 0)) || (leB (x0.length : Int) ((x2.getD p114.toNat ((0, 0) : Int × Int)).2)))) (.pointer (some ⟨g117, 1, none⟩)) := q24
            have e83 : sl a 83 = gv (!((((ltB ((x2.getD p114.toNat ((0, 0) : Int × Int)).1) 0) || (ltB 9 ((x2.getD p114.toNat ((0, 0) : Int × Int)).1))) || (ltB ((x2.getD p114.toNat ((0, 0) : Int × Int)).2) 0)) || (leB (x0.length : Int) ((x2.getD p114.toNat ((0, 0) : Int × Int)).2)))) (.int .i64 ((x2.getD p114.toNat ((0, 0) : Int × Int)).2)) := q25
            have e84 : sl a 84 = gv (!((((ltB ((x2.getD p114.toNat ((0, 0) : Int × Int)).1) 0) || (ltB 9 ((x2.getD p114.toNat ((0, 0) : Int × Int)).1))) || (ltB ((x2.getD p114.toNat ((0, 0) : Int × Int)).2) 0)) || (leB (x0.length : Int) ((x2.getD p114.toNat ((0, 0) : Int × Int)).2)))) (.pointer (some ⟨adB A1, adO A1 + (((x2.getD p114.toNat ((0, 0) : Int × Int)).2).toNat) * 1, none⟩)) := q26
            have e85 : sl a 85 = gv (!((((ltB ((x2.getD p114.toNat ((0, 0) : Int × Int)).1) 0) || (ltB 9 ((x2.getD p114.toNat ((0, 0) : Int × Int)).1))) || (ltB ((x2.getD p114.toNat ((0, 0) : Int × Int)).2) 0)) || (leB (x0.length : Int) ((x2.getD p114.toNat ((0, 0) : Int × Int)).2)))) (.bool (x1.getD (((x2.getD p114.toNat ((0, 0) : Int × Int)).2).toNat) false)) := q27
            have e86 : sl a 86 = gv (!((((ltB ((x2.getD p114.toNat ((0, 0) : Int × Int)).1) 0) || (ltB 9 ((x2.getD p114.toNat ((0, 0) : Int × Int)).1))) || (ltB ((x2.getD p114.toNat ((0, 0) : Int × Int)).2) 0)) || (leB (x0.length : Int) ((x2.getD p114.toNat ((0, 0) : Int × Int)).2)))) (.bool (!(x1.getD (((x2.getD p114.toNat ((0, 0) : Int × Int)).2).toNat) false))) := q28
            have e87 : sl a 87 = .bool (((((ltB ((x2.getD p114.toNat ((0, 0) : Int × Int)).1) 0) || (ltB 9 ((x2.getD p114.toNat ((0, 0) : Int × Int)).1))) || (ltB ((x2.getD p114.toNat ((0, 0) : Int × Int)).2) 0)) || (leB (x0.length : Int) ((x2.getD p114.toNat ((0, 0) : Int × Int)).2))) || (!(x1.getD (((x2.getD p114.toNat ((0, 0) : Int × Int)).2).toNat) false))) := q29
            have e88 : sl a 88 = .bool (((((ltB ((x2.getD p114.toNat ((0, 0) : Int × Int)).1) 0) || (ltB 9 ((x2.getD p114.toNat ((0, 0) : Int × Int)).1))) || (ltB ((x2.getD p114.toNat ((0, 0) : Int × Int)).2) 0)) || (leB (x0.length : Int) ((x2.getD p114.toNat ((0, 0) : Int × Int)).2))) || (!(x1.getD (((x2.getD p114.toNat ((0, 0) : Int × Int)).2).toNat) false))) := q30
            have e89 : sl a 89 = gv (!(((((ltB ((x2.getD p114.toNat ((0, 0) : Int × Int)).1) 0) || (ltB 9 ((x2.getD p114.toNat ((0, 0) : Int × Int)).1))) || (ltB ((x2.getD p114.toNat ((0, 0) : Int × Int)).2) 0)) || (leB (x0.length : Int) ((x2.getD p114.toNat ((0, 0) : Int × Int)).2))) || (!(x1.getD (((x2.getD p114.toNat ((0, 0) : Int × Int)).2).toNat) false)))) (.pointer (some ⟨g101, 2, none⟩)) := q31
            have e90 : sl a 90 = gv (!(((((ltB ((x2.getD p114.toNat ((0, 0) : Int × Int)).1) 0) || (ltB 9 ((x2.getD p114.toNat ((0, 0) : Int × Int)).1))) || (ltB ((x2.getD p114.toNat ((0, 0) : Int × Int)).2) 0)) || (leB (x0.length : Int) ((x2.getD p114.toNat ((0, 0) : Int × Int)).2))) || (!(x1.getD (((x2.getD p114.toNat ((0, 0) : Int × Int)).2).toNat) false)))) (.slice A2 x2.length c2) := q32
            have e91 : sl a 91 = gv (!(((((ltB ((x2.getD p114.toNat ((0, 0) : Int × Int)).1) 0) || (ltB 9 ((x2.getD p114.toNat ((0, 0) : Int × Int)).1))) || (ltB ((x2.getD p114.toNat ((0, 0) : Int × Int)).2) 0)) || (leB (x0.length : Int) ((x2.getD p114.toNat ((0, 0) : Int × Int)).2))) || (!(x1.getD (((x2.getD p114.toNat ((0, 0) : Int × Int)).2).toNat) false)))) (.int .i64 p114) := q33
            have e92 : sl a 92 = gv (!(((((ltB ((x2.getD p114.toNat ((0, 0) : Int × Int)).1) 0) || (ltB 9 ((x2.getD p114.toNat ((0, 0) : Int × Int)).1))) || (ltB ((x2.getD p114.toNat ((0, 0) : Int × Int)).2) 0)) || (leB (x0.length : Int) ((x2.getD p114.toNat ((0, 0) : Int × Int)).2))) || (!(x1.getD (((x2.getD p114.toNat ((0, 0) : Int × Int)).2).toNat) false)))) (.slice (subA c2 ((0 : Int).toNat) 2 A2) ((subL x2 0 p114).length) (c2 - (0 : Int).toNat)) := q34
            have e93 : sl a 93 = gv (!(((((ltB ((x2.getD p114.toNat ((0, 0) : Int × Int)).1) 0) || (ltB 9 ((x2.getD p114.toNat ((0, 0) : Int × Int)).1))) || (ltB ((x2.getD p114.toNat ((0, 0) : Int × Int)).2) 0)) || (leB (x0.length : Int) ((x2.getD p114.toNat ((0, 0) : Int × Int)).2))) || (!(x1.getD (((x2.getD p114.toNat ((0, 0) : Int × Int)).2).toNat) false)))) (.agg #[.int .i64 ((x2.getD p114.toNat ((0, 0) : Int × Int)).1), .int .i64 ((x2.getD p114.toNat ((0, 0) : Int × Int)).2)]) := q35
            have e94 : sl a 94 = gv (!(((((ltB ((x2.getD p114.toNat ((0, 0) : Int × Int)).1) 0) || (ltB 9 ((x2.getD p114.toNat ((0, 0) : Int × Int)).1))) || (ltB ((x2.getD p114.toNat ((0, 0) : Int × Int)).2) 0)) || (leB (x0.length : Int) ((x2.getD p114.toNat ((0, 0) : Int × Int)).2))) || (!(x1.getD (((x2.getD p114.toNat ((0, 0) : Int × Int)).2).toNat) false)))) (.bool p120) := q36
            have e95 : sl a 95 = .bool ((((((ltB ((x2.getD p114.toNat ((0, 0) : Int × Int)).1) 0) || (ltB 9 ((x2.getD p114.toNat ((0, 0) : Int × Int)).1))) || (ltB ((x2.getD p114.toNat ((0, 0) : Int × Int)).2) 0)) || (leB (x0.length : Int) ((x2.getD p114.toNat ((0, 0) : Int × Int)).2))) || (!(x1.getD (((x2.getD p114.toNat ((0, 0) : Int × Int)).2).toNat) false))) || p120) := q37
            replace S : St w u [.box g117 48 #[.int .i64 ((x2.getD p114.toNat ((0, 0) : Int × Int)).1), .int .i64 ((x2.getD p114.toNat ((0, 0) : Int × Int)).2)], .box g101 26 #[.slice A0 x0.length c0, .slice A1 x1.length c1, .slice A2 x2.length c2]] := S
            clear q0 q1 q2 q3 q4 q5 q6 q7 q8 q9 q10 q11 q12 q13 q14 q15 q16 q17 q18 q19 q20 q21 q22 q23 q24 q25 q26 q27 q28 q29 q30 q31 q32 q33 q34 q35 q36 q37
            have hF := hF.region hB [(58, .pointer (some ⟨g117, 0, none⟩)), (59, .int .i64 ((x2.getD p114.toNat ((0, 0) : Int × Int)).1)), (60, .bool (ltB ((x2.getD p114.toNat ((0, 0) : Int × Int)).1) 0)), (61, .bool (ltB ((x2.getD p114.toNat ((0, 0) : Int × Int)).1) 0)), (62, gv (!(ltB ((x2.getD p114.toNat ((0, 0) : Int × Int)).1) 0)) (.pointer (some ⟨g117, 0, none⟩))), (63, gv (!(ltB ((x2.getD p114.toNat ((0, 0) : Int × Int)).1) 0)) (.int .i64 ((x2.getD p114.toNat ((0, 0) : Int × Int)).1))), (64, gv (!(ltB ((x2.getD p114.toNat ((0, 0) : Int × Int)).1) 0)) (.bool (ltB 9 ((x2.getD p114.toNat ((0, 0) : Int × Int)).1)))), (65, .bool ((ltB ((x2.getD p114.toNat ((0, 0) : Int × Int)).1) 0) || (ltB 9 ((x2.getD p114.toNat ((0, 0) : Int × Int)).1)))), (66, .bool ((ltB ((x2.getD p114.toNat ((0, 0) : Int × Int)).1) 0) || (ltB 9 ((x2.getD p114.toNat ((0, 0) : Int × Int)).1)))), (67, gv (!((ltB ((x2.getD p114.toNat ((0, 0) : Int × Int)).1) 0) || (ltB 9 ((x2.getD p114.toNat ((0, 0) : Int × Int)).1)))) (.pointer (some ⟨g117, 1, none⟩))), (68, gv (!((ltB ((x2.getD p114.toNat ((0, 0) : Int × Int)).1) 0) || (ltB 9 ((x2.getD p114.toNat ((0, 0) : Int × Int)).1)))) (.int .i64 ((x2.getD p114.toNat ((0, 0) : Int × Int)).2))), (69, gv (!((ltB ((x2.getD p114.toNat ((0, 0) : Int × Int)).1) 0) || (ltB 9 ((x2.getD p114.toNat ((0, 0) : Int × Int)).1)))) (.bool (ltB ((x2.getD p114.toNat ((0, 0) : Int × Int)).2) 0))), (70, .bool (((ltB ((x2.getD p114.toNat ((0, 0) : Int × Int)).1) 0) || (ltB 9 ((x2.getD p114.toNat ((0, 0) : Int × Int)).1))) || (ltB ((x2.getD p114.toNat ((0, 0) : Int × Int)).2) 0))), (71, .bool (((ltB ((x2.getD p114.toNat ((0, 0) : Int × Int)).1) 0) || (ltB 9 ((x2.getD p114.toNat ((0, 0) : Int × Int)).1))) || (ltB ((x2.getD p114.toNat ((0, 0) : Int × Int)).2) 0))), (72, gv (!(((ltB ((x2.getD p114.toNat ((0, 0) : Int × Int)).1) 0) || (ltB 9 ((x2.getD p114.toNat ((0, 0) : Int × Int)).1))) || (ltB ((x2.getD p114.toNat ((0, 0) : Int × Int)).2) 0))) (.pointer (some ⟨g117, 1, none⟩))), (73, gv (!(((ltB ((x2.getD p114.toNat ((0, 0) : Int × Int)).1) 0) || (ltB 9 ((x2.getD p114.toNat ((0, 0) : Int × Int)).1))) || (ltB ((x2.getD p114.toNat ((0, 0) : Int × Int)).2) 0))) (.int .i64 ((x2.getD p114.toNat ((0, 0) : Int × Int)).2))), (74, gv (!(((ltB ((x2.getD p114.toNat ((0, 0) : Int × Int)).1) 0) || (ltB 9 ((x2.getD p114.toNat ((0, 0) : Int × Int)).1))) || (ltB ((x2.getD p114.toNat ((0, 0) : Int × Int)).2) 0))) (.pointer (some ⟨g101, 0, none⟩))), (75, gv (!(((ltB ((x2.getD p114.toNat ((0, 0) : Int × Int)).1) 0) || (ltB 9 ((x2.getD p114.toNat ((0, 0) : Int × Int)).1))) || (ltB ((x2.getD p114.toNat ((0, 0) : Int × Int)).2) 0))) (.slice A0 x0.length c0)), (76, gv (!(((ltB ((x2.getD p114.toNat ((0, 0) : Int × Int)).1) 0) || (ltB 9 ((x2.getD p114.toNat ((0, 0) : Int × Int)).1))) || (ltB ((x2.getD p114.toNat ((0, 0) : Int × Int)).2) 0))) (.int .i64 (x0.length : Int))), (77, gv (!(((ltB ((x2.getD p114.toNat ((0, 0) : Int × Int)).1) 0) || (ltB 9 ((x2.getD p114.toNat ((0, 0) : Int × Int)).1))) || (ltB ((x2.getD p114.toNat ((0, 0) : Int × Int)).2) 0))) (.bool (leB (x0.length : Int) ((x2.getD p114.toNat ((0, 0) : Int × Int)).2)))), (78, .bool ((((ltB ((x2.getD p114.toNat ((0, 0) : Int × Int)).1) 0) || (ltB 9 ((x2.getD p114.toNat ((0, 0) : Int × Int)).1))) || (ltB ((x2.getD p114.toNat ((0, 0) : Int × Int)).2) 0)) || (leB (x0.length : Int) ((x2.getD p114.toNat ((0, 0) : Int × Int)).2)))), (79, .bool ((((ltB ((x2.getD p114.toNat ((0, 0) : Int × Int)).1) 0) || (ltB 9 ((x2.getD p114.toNat ((0, 0) : Int × Int)).1))) || (ltB ((x2.getD p114.toNat ((0, 0) : Int × Int)).2) 0)) || (leB (x0.length : Int) ((x2.getD p114.toNat ((0, 0) : Int × Int)).2)))), (80, gv (!((((ltB ((x2.getD p114.toNat ((0, 0) : Int × Int)).1) 0) || (ltB 9 ((x2.getD p114.toNat ((0, 0) : Int × Int)).1))) || (ltB ((x2.getD p114.toNat ((0, 0) : Int × Int)).2) 0)) || (leB (x0.length : Int) ((x2.getD p114.toNat ((0, 0) : Int × Int)).2)))) (.pointer (some ⟨g101, 1, none⟩))), (81, gv (!((((ltB ((x2.getD p114.toNat ((0, 0) : Int × Int)).1) 0) || (ltB 9 ((x2.getD p114.toNat ((0, 0) : Int × Int)).1))) || (ltB ((x2.getD p114.toNat ((0, 0) : Int × Int)).2) 0)) || (leB (x0.length : Int) ((x2.getD p114.toNat ((0, 0) : Int × Int)).2)))) (.slice A1 x1.length c1)), (82, gv (!((((ltB ((x2.getD p114.toNat ((0, 0) : Int × Int)).1) 0) || (ltB 9 ((x2.getD p114.toNat ((0, 0) : Int × Int)).1))) || (ltB ((x2.getD p114.toNat ((0, 0) : Int × Int)).2) 0)) || (leB (x0.length : Int) ((x2.getD p114.toNat ((0, 0) : Int × Int)).2)))) (.pointer (some ⟨g117, 1, none⟩))), (83, gv (!((((ltB ((x2.getD p114.toNat ((0, 0) : Int × Int)).1) 0) || (ltB 9 ((x2.getD p114.toNat ((0, 0) : Int × Int)).1))) || (ltB ((x2.getD p114.toNat ((0, 0) : Int × Int)).2) 0)) || (leB (x0.length : Int) ((x2.getD p114.toNat ((0, 0) : Int × Int)).2)))) (.int .i64 ((x2.getD p114.toNat ((0, 0) : Int × Int)).2))), (84, gv (!((((ltB ((x2.getD p114.toNat ((0, 0) : Int × Int)).1) 0) || (ltB 9 ((x2.getD p114.toNat ((0, 0) : Int × Int)).1))) || (ltB ((x2.getD p114.toNat ((0, 0) : Int × Int)).2) 0)) || (leB (x0.length : Int) ((x2.getD p114.toNat ((0, 0) : Int × Int)).2)))) (.pointer (some ⟨adB A1, adO A1 + (((x2.getD p114.toNat ((0, 0) : Int × Int)).2).toNat) * 1, none⟩))), (85, gv (!((((ltB ((x2.getD p114.toNat ((0, 0) : Int × Int)).1) 0) || (ltB 9 ((x2.getD p114.toNat ((0, 0) : Int × Int)).1))) || (ltB ((x2.getD p114.toNat ((0, 0) : Int × Int)).2) 0)) || (leB (x0.length : Int) ((x2.getD p114.toNat ((0, 0) : Int × Int)).2)))) (.bool (x1.getD (((x2.getD p114.toNat ((0, 0) : Int × Int)).2).toNat) false))), (86, gv (!((((ltB ((x2.getD p114.toNat ((0, 0) : Int × Int)).1) 0) || (ltB 9 ((x2.getD p114.toNat ((0, 0) : Int × Int)).1))) || (ltB ((x2.getD p114.toNat ((0, 0) : Int × Int)).2) 0)) || (leB (x0.length : Int) ((x2.getD p114.toNat ((0, 0) : Int × Int)).2)))) (.bool (!(x1.getD (((x2.getD p114.toNat ((0, 0) : Int × Int)).2).toNat) false)))), (87, .bool (((((ltB ((x2.getD p114.toNat ((0, 0) : Int × Int)).1) 0) || (ltB 9 ((x2.getD p114.toNat ((0, 0) : Int × Int)).1))) || (ltB ((x2.getD p114.toNat ((0, 0) : Int × Int)).2) 0)) || (leB (x0.length : Int) ((x2.getD p114.toNat ((0, 0) : Int × Int)).2))) || (!(x1.getD (((x2.getD p114.toNat ((0, 0) : Int × Int)).2).toNat) false)))), (88, .bool (((((ltB ((x2.getD p114.toNat ((0, 0) : Int × Int)).1) 0) || (ltB 9 ((x2.getD p114.toNat ((0, 0) : Int × Int)).1))) || (ltB ((x2.getD p114.toNat ((0, 0) : Int × Int)).2) 0)) || (leB (x0.length : Int) ((x2.getD p114.toNat ((0, 0) : Int × Int)).2))) || (!(x1.getD (((x2.getD p114.toNat ((0, 0) : Int × Int)).2).toNat) false)))), (89, gv (!(((((ltB ((x2.getD p114.toNat ((0, 0) : Int × Int)).1) 0) || (ltB 9 ((x2.getD p114.toNat ((0, 0) : Int × Int)).1))) || (ltB ((x2.getD p114.toNat ((0, 0) : Int × Int)).2) 0)) || (leB (x0.length : Int) ((x2.getD p114.toNat ((0, 0) : Int × Int)).2))) || (!(x1.getD (((x2.getD p114.toNat ((0, 0) : Int × Int)).2).toNat) false)))) (.pointer (some ⟨g101, 2, none⟩))), (90, gv (!(((((ltB ((x2.getD p114.toNat ((0, 0) : Int × Int)).1) 0) || (ltB 9 ((x2.getD p114.toNat ((0, 0) : Int × Int)).1))) || (ltB ((x2.getD p114.toNat ((0, 0) : Int × Int)).2) 0)) || (leB (x0.length : Int) ((x2.getD p114.toNat ((0, 0) : Int × Int)).2))) || (!(x1.getD (((x2.getD p114.toNat ((0, 0) : Int × Int)).2).toNat) false)))) (.slice A2 x2.length c2)), (91, gv (!(((((ltB ((x2.getD p114.toNat ((0, 0) : Int × Int)).1) 0) || (ltB 9 ((x2.getD p114.toNat ((0, 0) : Int × Int)).1))) || (ltB ((x2.getD p114.toNat ((0, 0) : Int × Int)).2) 0)) || (leB (x0.length : Int) ((x2.getD p114.toNat ((0, 0) : Int × Int)).2))) || (!(x1.getD (((x2.getD p114.toNat ((0, 0) : Int × Int)).2).toNat) false)))) (.int .i64 p114)), (92, gv (!(((((ltB ((x2.getD p114.toNat ((0, 0) : Int × Int)).1) 0) || (ltB 9 ((x2.getD p114.toNat ((0, 0) : Int × Int)).1))) || (ltB ((x2.getD p114.toNat ((0, 0) : Int × Int)).2) 0)) || (leB (x0.length : Int) ((x2.getD p114.toNat ((0, 0) : Int × Int)).2))) || (!(x1.getD (((x2.getD p114.toNat ((0, 0) : Int × Int)).2).toNat) false)))) (.slice (subA c2 ((0 : Int).toNat) 2 A2) ((subL x2 0 p114).length) (c2 - (0 : Int).toNat))), (93, gv (!(((((ltB ((x2.getD p114.toNat ((0, 0) : Int × Int)).1) 0) || (ltB 9 ((x2.getD p114.toNat ((0, 0) : Int × Int)).1))) || (ltB ((x2.getD p114.toNat ((0, 0) : Int × Int)).2) 0)) || (leB (x0.length : Int) ((x2.getD p114.toNat ((0, 0) : Int × Int)).2))) || (!(x1.getD (((x2.getD p114.toNat ((0, 0) : Int × Int)).2).toNat) false)))) (.agg #[.int .i64 ((x2.getD p114.toNat ((0, 0) : Int × Int)).1), .int .i64 ((x2.getD p114.toNat ((0, 0) : Int × Int)).2)])), (94, gv (!(((((ltB ((x2.getD p114.toNat ((0, 0) : Int × Int)).1) 0) || (ltB 9 ((x2.getD p114.toNat ((0, 0) : Int × Int)).1))) || (ltB ((x2.getD p114.toNat ((0, 0) : Int × Int)).2) 0)) || (leB (x0.length : Int) ((x2.getD p114.toNat ((0, 0) : Int × Int)).2))) || (!(x1.getD (((x2.getD p114.toNat ((0, 0) : Int × Int)).2).toNat) false)))) (.bool p120)), (95, .bool ((((((ltB ((x2.getD p114.toNat ((0, 0) : Int × Int)).1) 0) || (ltB 9 ((x2.getD p114.toNat ((0, 0) : Int × Int)).1))) || (ltB ((x2.getD p114.toNat ((0, 0) : Int × Int)).2) 0)) || (leB (x0.length : Int) ((x2.getD p114.toNat ((0, 0) : Int × Int)).2))) || (!(x1.getD (((x2.getD p114.toNat ((0, 0) : Int × Int)).2).toNat) false))) || p120))] (allSl_mem ⟨e58, e59, e60, e61, e62, e63, e64, e65, e66, e67, e68, e69, e70, e71, e72, e73, e74, e75, e76, e77, e78, e79, e80, e81, e82, e83, e84, e85, e86, e87, e88, e89, e90, e91, e92, e93, e94, e95, trivial⟩) rfl
            clear hB e58 e59 e60 e61 e62 e63 e64 e65 e66 e67 e68 e69 e70 e71 e72 e73 e74 e75 e76 e77 e78 e79 e80 e81 e82 e83 e84 e85 e86 e87 e88 e89 e90 e91 e92 e93 e94 e95
            cases hc121 : ((((((ltB ((x2.getD p114.toNat ((0, 0) : Int × Int)).1) 0) || (ltB 9 ((x2.getD p114.toNat ((0, 0) : Int × Int)).1))) || (ltB ((x2.getD p114.toNat ((0, 0) : Int × Int)).2) 0)) || (leB (x0.length : Int) ((x2.getD p114.toNat ((0, 0) : Int × Int)).2))) || (!(x1.getD (((x2.getD p114.toNat ((0, 0) : Int × Int)).2).toNat) false))) || p120)
            · replace hM113 := bif_f hc121 hM113
              refine cond_f hF rfl hc121 ?_
              refine wp_skip ?_
              refine wp_region_lit ?_
              refine op_val (v := .int .i64 (w64 (p114 + 1))) rfl rfl hF rfl (run_add (z := w64 (p114 + 1)) (hF.ev rfl) rfl rfl rfl) ?_; clear hF; intro a hF
              refine op_val (v := .int .i64 (w64 (p114 + 1))) rfl rfl hF rfl (run_move rfl (hF.ev rfl)) ?_; clear hF; intro a hF
              refine wpList_nil ?_
              exact ⟨f2, Nat.lt_succ_self _, w64 (p114 + 1), hM113, hF.keep _ ⟨rfl, rfl, rfl, rfl, rfl, trivial⟩, S.sel [1] rfl rfl⟩
            · replace hM113 := bif_t hc121 hM113
              refine cond_t hF rfl hc121 ?_
              refine wp_seq ?_
              refine wp_region_lit ?_
              refine op_val (v := .bool false) rfl rfl hF rfl (run_assign rfl rfl) ?_; clear hF; intro a hF
              refine wpList_nil ?_
              refine wp_ret ?_
              repeat with_reducible (first | refine then_ret ?_ | refine in_ret ?_ | refine in_nrm ?_)
              refine ret1_gw (.inl rfl) hF rfl (res_tmp (hF.ev rfl)) ?_
              obtain rfl := Option.some.inj hM113
              obtain rfl := Option.some.inj hM
              exact ⟨rfl, S.sel [] rfl rfl⟩
      · rintro a u ⟨p111, rfl, hF, S⟩
        replace hM := elim_l hM
        refine wp_seq ?_
        refine wp_region_lit ?_
        refine op_val (v := .bool true) rfl rfl hF rfl (run_assign rfl rfl) ?_; clear hF; intro a hF
        refine wpList_nil ?_
        refine wp_ret ?_
        repeat with_reducible (first | refine then_ret ?_ | refine in_ret ?_ | refine in_nrm ?_)
        refine ret1_gw (.inl rfl) hF rfl (res_tmp (hF.ev rfl)) ?_
        obtain rfl := Option.some.inj hM
        exact ⟨rfl, S.sel [] rfl rfl⟩
  · replace hM := bif_t hc102 hM
    refine cond_t hF rfl hc102 ?_
    refine wp_seq ?_
    refine wp_region_lit ?_
    refine op_val (v := .bool false) rfl rfl hF rfl (run_assign rfl rfl) ?_; clear hF; intro a hF
    refine wpList_nil ?_
    refine wp_ret ?_
    repeat with_reducible (first | refine then_ret ?_ | refine in_ret ?_ | refine in_nrm ?_)
    refine ret1_gw (.inl rfl) hF rfl (res_tmp (hF.ev rfl)) ?_
    obtain rfl := Option.some.inj hM
    exact ⟨rfl, S.sel [] rfl rfl⟩

set_option maxHeartbeats 4000000 in
theorem c_impl_WorkHeld {x0 : List Bool} {x1 : List Bool} {x2 : List (Int × Int)} {x3 : Int} {A0 : Option Addr} {n0 c0 : Nat} {A1 : Option Addr} {n1 c1 : Nat} {A2 : Option Addr} {n2 c2 : Nat} {w : World} {r : List Int} (h0 : Rt w 1 eB A0 n0 c0 x0) (h1 : Rt w 1 eB A1 n1 c1 x1) (h2 : Rt w 2 ePermit A2 n2 c2 x2) (hM : m_impl_WorkHeld x0 x1 x2 x3 = some r) :
    Calls Tryd.prog 8 #[.agg #[.slice A0 n0 c0, .slice A1 n1 c1, .slice A2 n2 c2], .int .i64 x3] w (fun e w' => ∃ (B0 : Option Addr) (N0 D0 : Nat), e = .returned (.slice B0 N0 D0) ∧ N0 = r.length ∧ St w w' [.row 3 1 (.slice B0 N0 D0) N0 (r.flatMap eI)]) := by
  obtain rfl := h0.len
  obtain rfl := h1.len
  obtain rfl := h2.len
  unfold m_impl_WorkHeld at hM
  refine calls_gw Tryd.func8 Tryd.ntmps8 rfl [(0, .agg #[.slice A0 x0.length c0, .slice A1 x1.length c1, .slice A2 x2.length c2]), (1, .int .i64 x3)] ⟨rfl, rfl, trivial⟩ rfl ?_
  intro a hF
  have S := St.nil w
  refine wp_seq ?_
  refine wp_region_lit ?_
  refine op_new (cs := #[.slice A0 x0.length c0, .slice A1 x1.length c1, .slice A2 x2.length c2]) rfl rfl hF rfl S (run_box rfl (hF.ev rfl) rfl) ?_; clear hF S; intro a g101 u hF S
  refine op_val (v := .slice none 0 0) rfl rfl hF rfl (run_assign rfl rfl) ?_; clear hF; intro a hF
  refine wpList_nil ?_
  refine wp_seq ?_
  refine wp_seq ?_
  refine wp_region_lit ?_
  refine op_val (v := .agg #[.slice A0 x0.length c0, .slice A1 x1.length c1, .slice A2 x2.length c2]) rfl rfl hF rfl (run_loadN rfl ag26 (hF.ev rfl) rfl ((S.free 0 rfl).cells 0 #[.slice A0 x0.length c0, .slice A1 x1.length c1, .slice A2 x2.length c2] rfl)) ?_; clear hF; intro a hF
  obtain ⟨p102, h102, hM⟩ := bind_ex hM
  refine op_call rfl rfl hF rfl (run_call (vs := [.agg #[.slice A0 x0.length c0, .slice A1 x1.length c1, .slice A2 x2.length c2]]) rfl rfl co17 ⟨(hF.ev rfl), trivial⟩) (c_impl_WorkValid (x0 := x0) (x1 := x1) (x2 := x2) ⟨(S.rc0 h0.rc), rfl⟩ ⟨(S.rc0 h1.rc), rfl⟩ ⟨(S.rc0 h2.rc), rfl⟩ h102) ?_
  rintro e u ⟨rfl, T⟩
  refine ⟨_, rfl, ?_⟩
  clear hF; intro a hF
  replace S := S.call0 T; clear T
  refine op_val (v := .bool (!p102)) rfl rfl hF rfl (run_not rfl (hF.ev rfl)) ?_; clear hF; intro a hF
  refine wpList_nil ?_
  cases hc103 : (p102)
  · replace hM := bif_f hc103 hM
    refine cond_t hF rfl (not_t hc103) ?_
    refine wp_seq ?_
    refine wp_region_lit ?_
    refine op_val (v := .slice none 0 0) rfl rfl hF rfl (run_assign rfl rfl) ?_; clear hF; intro a hF
    refine wpList_nil ?_
    refine wp_ret ?_
    repeat with_reducible (first | refine then_ret ?_ | refine in_ret ?_ | refine in_nrm ?_)
    refine ret1_gw (.inl rfl) hF rfl (res_tmp (hF.ev rfl)) ?_
    obtain rfl := Option.some.inj hM
    replace S := S.nilrow 3 1
    exact ⟨none, 0, 0, rfl, rfl, S.sel [0] rfl rfl⟩
  · replace hM := bif_t hc103 hM
    refine cond_f hF rfl (not_f hc103) ?_
    refine wp_skip ?_
    refine wp_seq ?_
    refine wp_region_lit ?_
    refine op_val (v := .slice none 0 0) rfl rfl hF rfl (run_assign rfl rfl) ?_; clear hF; intro a hF
    refine wpList_nil ?_
    refine wp_seq ?_
    refine wp_seq ?_
    refine wp_region_lit ?_
    refine op_val (v := .pointer (some ⟨g101, 2, none⟩)) rfl rfl hF rfl (run_fieldAddr rfl fl26_2 (hF.ev rfl) rfl) ?_; clear hF; intro a hF
    refine op_val (v := .slice A2 x2.length c2) rfl rfl hF rfl (run_load1 rfl one24 (hF.ev rfl) ((S.free 0 rfl).cell rfl)) ?_; clear hF; intro a hF
    refine op_val (v := .int .i64 (x2.length : Int)) rfl rfl hF rfl (run_lenL rfl rfl Tryd.underlying24 (hF.ev rfl)) ?_; clear hF; intro a hF
    refine op_val (v := .int .i64 0) rfl rfl hF rfl (run_move rfl rfl) ?_; clear hF; intro a hF
    refine wpList_nil ?_
    obtain ⟨o105, hM108, hM⟩ := bind_ex hM
    refine wp_cut (fun a u => ∃ (p104 : List Int) (B106 : Option Addr) (d107 : Nat), p104 = o105 ∧ Fr a 29 [(4, .slice none 0 0), (5, .slice B106 p104.length d107)] ∧ St w u [.row 3 1 (.slice B106 p104.length d107) p104.length (p104.flatMap eI)]) ?_ ?_
    · have _ := trivial
      refine wp_block ?_
      replace S := S.nilrow 3 1
      refine loop_gw (fun m a u => ∃ (p109 : List Int × Int) (B110 : Option Addr) (d111 : Nat), m_impl_WorkHeld_l1 x2 x3 m p109 = some _ ∧ Fr a 29 [(1, .int .i64 x3), (4, .slice none 0 0), (5, .slice B110 p109.1.length d111), (12, .slice A2 x2.length c2), (13, .int .i64 (x2.length : Int)), (14, .int .i64 p109.2)] ∧ St w u [.row 3 1 (.slice B110 p109.1.length d111) p109.1.length (p109.1.flatMap eI)]) FUEL ⟨(([] : List Int), 0), none, 0, hM108, hF.keep _ ⟨rfl, rfl, rfl, rfl, rfl, rfl, trivial⟩, S.sel [0] rfl rfl⟩ ?_
      clear hF S hM108; rintro m a u ⟨p109, B110, d111, hM108, hF, S⟩
      rcases m with _ | f1
      · exact none_some hM108
      rw [m_impl_WorkHeld_l1.eq_2] at hM108
      refine wp_seq ?_
      refine wp_region_lit ?_
      refine op_val (v := .bool (ltB p109.2 (x2.length : Int))) rfl rfl hF rfl (run_lss (hF.ev rfl) (hF.ev rfl) rfl) ?_; clear hF; intro a hF
      refine wpList_nil ?_
      refine wp_seq ?_
      cases hc112 : (ltB p109.2 (x2.length : Int))
      · replace hM108 := bif_f hc112 hM108
        refine cond_f hF rfl hc112 ?_
        refine wp_exit ?_
        repeat with_reducible (first | refine then_exit ?_ | refine in_hit ?_ | refine in_miss rfl ?_)
        obtain rfl := Option.some.inj hM108
        exact ⟨p109.1, B110, d111, rfl, hF.keep _ ⟨rfl, rfl, trivial⟩, S.sel [0] rfl rfl⟩
      · replace hM108 := bif_t hc112 hM108
        refine cond_t hF rfl hc112 ?_
        refine wp_skip ?_
        refine wp_seq ?_
        refine wp_block ?_
        refine wp_seq ?_
        refine wp_region_lit ?_
        obtain ⟨hk113, hM108⟩ := chk_ex hM108
        replace hk113 := ixB_t hk113
        refine op_val (v := .pointer (some ⟨adB A2, adO A2 + p109.2.toNat * 2, none⟩)) rfl rfl hF rfl (run_indexAddr (b := adB A2) (off := adO A2) rfl Tryd.underlying24 sz48 ((hF.ev rfl).trans (congrArg (fun A => Value.slice A x2.length c2) ((S.rc0 h2.rc).rd.ad (ix_pos hk113)))) (hF.ev rfl) hk113.1 hk113.2 (k' := adO A2 + p109.2.toNat * 2) rfl) ?_; clear hF; intro a hF
        refine op_val (v := .agg #[.int .i64 ((x2.getD p109.2.toNat ((0, 0) : Int × Int)).1), .int .i64 ((x2.getD p109.2.toNat ((0, 0) : Int × Int)).2)]) rfl rfl hF rfl (run_loadN (cs := #[.int .i64 ((x2.getD p109.2.toNat ((0, 0) : Int × Int)).1), .int .i64 ((x2.getD p109.2.toNat ((0, 0) : Int × Int)).2)]) rfl ag48 (hF.ev rfl) rfl (rd_elN (l := x2) (S.rc0 h2.rc).rd rfl ePermit_len ((0, 0) : Int × Int) (ix_ltn hk113 rfl) rfl)) ?_; clear hF; intro a hF
        refine op_new (cs := #[.int .i64 0, .int .i64 0]) rfl rfl hF rfl S (run_allocZ rfl zr48) ?_; clear hF S; intro a g114 u hF S
        refine op_do rfl rfl (run_store (cs' := #[.int .i64 ((x2.getD p109.2.toNat ((0, 0) : Int × Int)).1), .int .i64 ((x2.getD p109.2.toNat ((0, 0) : Int × Int)).2)]) rfl sz48 (hF.ev rfl) (hF.ev rfl) rfl rfl rfl (S.free 0 rfl) rfl rfl) ?_; replace S := S.put 0 rfl (#[.int .i64 ((x2.getD p109.2.toNat ((0, 0) : Int × Int)).1), .int .i64 ((x2.getD p109.2.toNat ((0, 0) : Int × Int)).2)])
        generalize World.setRow _ _ _ = u at S ⊢
        refine wpList_nil ?_
        refine wp_seq ?_
        refine wp_region_lit ?_
        refine op_val (v := .pointer (some ⟨g114, 1, none⟩)) rfl rfl hF rfl (run_fieldAddr rfl fl48_1 (hF.ev rfl) rfl) ?_; clear hF; intro a hF
        refine op_val (v := .int .i64 ((x2.getD p109.2.toNat ((0, 0) : Int × Int)).2)) rfl rfl hF rfl (run_load1 rfl one3 (hF.ev rfl) ((S.free 0 rfl).cell rfl)) ?_; clear hF; intro a hF
        refine op_val (v := .int .i64 x3) rfl rfl hF rfl (run_move rfl (hF.ev rfl)) ?_; clear hF; intro a hF
        refine op_val (v := .bool (((x2.getD p109.2.toNat ((0, 0) : Int × Int)).2) == x3)) rfl rfl hF rfl (run_eql (hF.ev rfl) (hF.ev rfl) rfl) ?_; clear hF; intro a hF
        refine wpList_nil ?_
        obtain ⟨o116, hM119, hM108⟩ := bind_ex hM108
        refine wp_cut (fun a u => ∃ (p115 : List Int) (B117 : Option Addr) (d118 : Nat), p115 = o116 ∧ Fr a 29 [(1, .int .i64 x3), (4, .slice none 0 0), (5, .slice B117 p115.length d118), (12, .slice A2 x2.length c2), (13, .int .i64 (x2.length : Int)), (14, .int .i64 p109.2)] ∧ St w u [.row 3 1 (.slice B117 p115.length d118) p115.length (p115.flatMap eI)]) ?_ ?_
        · have _ := trivial
          cases hc120 : (((x2.getD p109.2.toNat ((0, 0) : Int × Int)).2) == x3)
          · replace hM119 := bif_f hc120 hM119
            refine cond_f hF rfl hc120 ?_
            refine wp_skip ?_
            obtain rfl := Option.some.inj hM119
            exact ⟨p109.1, B110, d111, rfl, hF.keep _ ⟨rfl, rfl, rfl, rfl, rfl, rfl, trivial⟩, S.sel [1] rfl rfl⟩
          · replace hM119 := bif_t hc120 hM119
            refine cond_t hF rfl hc120 ?_
            refine wp_region_lit ?_
            refine op_val (v := .slice B110 p109.1.length d111) rfl rfl hF rfl (run_move rfl (hF.ev rfl)) ?_; clear hF; intro a hF
            refine op_val (v := .pointer (some ⟨g114, 0, none⟩)) rfl rfl hF rfl (run_fieldAddr rfl fl48_0 (hF.ev rfl) rfl) ?_; clear hF; intro a hF
            refine op_val (v := .int .i64 ((x2.getD p109.2.toNat ((0, 0) : Int × Int)).1)) rfl rfl hF rfl (run_load1 rfl one3 (hF.ev rfl) ((S.free 0 rfl).cell rfl)) ?_; clear hF; intro a hF
            refine op_newrowL (ls := (([(x2.getD p109.2.toNat ((0, 0) : Int × Int)).1] : List Int) : List Int)) (e := eI) rfl rfl hF rfl S (run_buildS (vs := [(0, .int .i64 ((x2.getD p109.2.toNat ((0, 0) : Int × Int)).1))]) rfl ⟨⟨rfl, (hF.ev rfl)⟩, trivial⟩ (bs29_1_0 rfl)) rfl eI_len (Nat.le_of_ble_eq_true rfl) ?_; clear hF S; intro a g121 u hF S
            obtain ⟨hk124, hM119⟩ := chk_ex hM119
            replace hk124 := apB_t hk124
            refine op_appendL (lx := p109.1) (ly := ([(x2.getD p109.2.toNat ((0, 0) : Int × Int)).1] : List Int)) rfl rfl hF rfl S rfl (hF.ev rfl) (hF.ev rfl) (i := 2) rfl rfl Tryd.underlying29 inf3 rfl (by decide) (S.rc 0 rfl).rd rfl eI_one hk124 (by decide) ?_; clear hF S; intro a B122 d123 u hF S
            refine op_val (v := .slice B122 ((p109.1 ++ ([(x2.getD p109.2.toNat ((0, 0) : Int × Int)).1] : List Int)).length) d123) rfl rfl hF rfl (run_assign rfl (hF.ev rfl)) ?_; clear hF; intro a hF
            refine wpList_nil ?_
            obtain rfl := Option.some.inj hM119
            exact ⟨p109.1 ++ ([(x2.getD p109.2.toNat ((0, 0) : Int × Int)).1] : List Int), B122, d123, rfl, hF.keep _ ⟨rfl, rfl, rfl, rfl, rfl, rfl, trivial⟩, S.sel [2] rfl rfl⟩
        · rintro a u ⟨p115, B117, d118, rfl, hF, S⟩
          refine wp_region_lit ?_
          refine op_val (v := .int .i64 (w64 (p109.2 + 1))) rfl rfl hF rfl (run_add (z := w64 (p109.2 + 1)) (hF.ev rfl) rfl rfl rfl) ?_; clear hF; intro a hF
          refine op_val (v := .int .i64 (w64 (p109.2 + 1))) rfl rfl hF rfl (run_move rfl (hF.ev rfl)) ?_; clear hF; intro a hF
          refine wpList_nil ?_
          exact ⟨f1, Nat.lt_succ_self _, (p115, w64 (p109.2 + 1)), B117, d118, hM108, hF.keep _ ⟨rfl, rfl, rfl, rfl, rfl, rfl, trivial⟩, S.sel [0] rfl rfl⟩
    · rintro a u ⟨p104, B106, d107, rfl, hF, S⟩
      refine wp_seq ?_
      refine wp_region_lit ?_
      refine op_val (v := .slice B106 p104.length d107) rfl rfl hF rfl (run_move rfl (hF.ev rfl)) ?_; clear hF; intro a hF
      refine op_val (v := .slice B106 p104.length d107) rfl rfl hF rfl (run_assign rfl (hF.ev rfl)) ?_; clear hF; intro a hF
      refine wpList_nil ?_
      refine wp_ret ?_
      repeat with_reducible (first | refine then_ret ?_ | refine in_ret ?_ | refine in_nrm ?_)
      refine ret1_gw (.inl rfl) hF rfl (res_tmp (hF.ev rfl)) ?_
      obtain rfl := Option.some.inj hM
      exact ⟨B106, p104.length, d107, rfl, rfl, S.sel [0] rfl rfl⟩

set_option maxHeartbeats 4000000 in
theorem c_slices_Clone_bool_bool {x0 : List Bool} {A0 : Option Addr} {n0 c0 : Nat} {w : World} {r : List Bool} (h0 : Rt w 1 eB A0 n0 c0 x0) (hM : m_slices_Clone_bool_bool x0 = some r) :
    Calls Tryd.prog 47 #[.slice A0 n0 c0] w (fun e w' => ∃ (B0 : Option Addr) (N0 D0 : Nat), e = .returned (.slice B0 N0 D0) ∧ N0 = r.length ∧ St w w' [.row 4 1 (.slice B0 N0 D0) N0 (r.flatMap eB)]) := by
  obtain rfl := h0.len
  unfold m_slices_Clone_bool_bool at hM
  obtain ⟨hk, hM⟩ := chk_ex hM
  replace hk := apB_t hk
  obtain rfl := Option.some.inj hM
  refine calls_gw Tryd.func47 Tryd.ntmps47 rfl [(0, .slice A0 x0.length c0)] ⟨rfl, trivial⟩ rfl ?_
  intro a hF
  have S := St.nil w
  refine wp_seq ?_
  refine wp_region_lit ?_
  refine op_val (v := .slice none 0 0) rfl rfl hF rfl (run_assign rfl rfl) ?_; clear hF; intro a hF
  refine wpList_nil ?_
  refine wp_seq ?_
  refine wp_seq ?_
  refine wp_region_lit ?_
  refine op_val (v := .slice A0 x0.length c0) rfl rfl hF rfl (run_move rfl (hF.ev rfl)) ?_; clear hF; intro a hF
  refine op_val (v := .bool (Option.isNone A0)) rfl rfl hF rfl (run_eqlNil rfl Tryd.underlying23 (hF.ev rfl) rfl) ?_; clear hF; intro a hF
  refine wpList_nil ?_
  cases hc101 : (Option.isNone A0)
  · have hx := trivial
    refine cond_f hF rfl hc101 ?_
    refine wp_skip ?_
    refine wp_seq ?_
    refine wp_region_lit ?_
    refine op_newrow (cs := #[]) (size := 1) rfl rfl hF rfl S (run_buildSlice0 rfl Tryd.underlying23 (congrArg Option.isSome sz4)) rfl (Nat.zero_le _) ?_; clear hF S; intro a g102 u hF S
    refine op_val (v := .slice A0 x0.length c0) rfl rfl hF rfl (run_move rfl (hF.ev rfl)) ?_; clear hF; intro a hF
    have hk105 := hk
    refine op_appendL (lx := []) (ly := x0) rfl rfl hF rfl S rfl (hF.ev rfl) (hF.ev rfl) (i := 0) rfl rfl Tryd.underlying23 inf4 rfl (by decide) (S.rc0 h0.rc).rd rfl eB_one hk105 (by decide) ?_; clear hF S; intro a B103 d104 u hF S
    refine op_val (v := .slice B103 (([] ++ x0).length) d104) rfl rfl hF rfl (run_assign rfl (hF.ev rfl)) ?_; clear hF; intro a hF
    refine wpList_nil ?_
    refine wp_ret ?_
    repeat with_reducible (first | refine then_ret ?_ | refine in_ret ?_ | refine in_nrm ?_)
    refine ret1_gw (.inl rfl) hF rfl (res_tmp (hF.ev rfl)) ?_
    exact ⟨B103, (([] ++ x0).length), d104, rfl, rfl, S.sel [0] rfl rfl⟩
  · have hx := nil_none h0.rc.rd rfl hc101
    refine cond_t hF rfl hc101 ?_
    refine wp_seq ?_
    refine wp_region_lit ?_
    refine op_val (v := .slice none 0 0) rfl rfl hF rfl (run_assign rfl rfl) ?_; clear hF; intro a hF
    refine wpList_nil ?_
    refine wp_ret ?_
    repeat with_reducible (first | refine then_ret ?_ | refine in_ret ?_ | refine in_nrm ?_)
    refine ret1_gw (.inl rfl) hF rfl (res_tmp (hF.ev rfl)) ?_
    subst hx
    replace S := S.nilrow 4 1
    exact ⟨none, 0, 0, rfl, rfl, S.sel [0] rfl rfl⟩

set_option maxHeartbeats 4000000 in
theorem c_slices_Clone_impl_Permit_impl_Permit {x0 : List (Int × Int)} {A0 : Option Addr} {n0 c0 : Nat} {w : World} {r : List (Int × Int)} (h0 : Rt w 2 ePermit A0 n0 c0 x0) (hM : m_slices_Clone_impl_Permit_impl_Permit x0 = some r) :
    Calls Tryd.prog 48 #[.slice A0 n0 c0] w (fun e w' => ∃ (B0 : Option Addr) (N0 D0 : Nat), e = .returned (.slice B0 N0 D0) ∧ N0 = r.length ∧ St w w' [.row 48 2 (.slice B0 N0 D0) N0 (r.flatMap ePermit)]) := by
  obtain rfl := h0.len
  unfold m_slices_Clone_impl_Permit_impl_Permit at hM
  obtain ⟨hk, hM⟩ := chk_ex hM
  replace hk := apB_t hk
  obtain rfl := Option.some.inj hM
  refine calls_gw Tryd.func48 Tryd.ntmps48 rfl [(0, .slice A0 x0.length c0)] ⟨rfl, trivial⟩ rfl ?_
  intro a hF
  have S := St.nil w
  refine wp_seq ?_
  refine wp_region_lit ?_
  refine op_val (v := .slice none 0 0) rfl rfl hF rfl (run_assign rfl rfl) ?_; clear hF; intro a hF
  refine wpList_nil ?_
  refine wp_seq ?_
  refine wp_seq ?_
  refine wp_region_lit ?_
  refine op_val (v := .slice A0 x0.length c0) rfl rfl hF rfl (run_move rfl (hF.ev rfl)) ?_; clear hF; intro a hF
  refine op_val (v := .bool (Option.isNone A0)) rfl rfl hF rfl (run_eqlNil rfl Tryd.underlying24 (hF.ev rfl) rfl) ?_; clear hF; intro a hF
  refine wpList_nil ?_
  cases hc101 : (Option.isNone A0)
  · have hx := trivial
    refine cond_f hF rfl hc101 ?_
    refine wp_skip ?_
    refine wp_seq ?_
    refine wp_region_lit ?_
    refine op_newrow (cs := #[]) (size := 2) rfl rfl hF rfl S (run_buildSlice0 rfl Tryd.underlying24 (congrArg Option.isSome sz48)) rfl (Nat.zero_le _) ?_; clear hF S; intro a g102 u hF S
    refine op_val (v := .slice A0 x0.length c0) rfl rfl hF rfl (run_move rfl (hF.ev rfl)) ?_; clear hF; intro a hF
    have hk105 := hk
    refine op_appendL (lx := []) (ly := x0) rfl rfl hF rfl S rfl (hF.ev rfl) (hF.ev rfl) (i := 0) rfl rfl Tryd.underlying24 inf48 rfl (by decide) (S.rc0 h0.rc).rd rfl ePermit_one hk105 (by decide) ?_; clear hF S; intro a B103 d104 u hF S
    refine op_val (v := .slice B103 (([] ++ x0).length) d104) rfl rfl hF rfl (run_assign rfl (hF.ev rfl)) ?_; clear hF; intro a hF
    refine wpList_nil ?_
    refine wp_ret ?_
    repeat with_reducible (first | refine then_ret ?_ | refine in_ret ?_ | refine in_nrm ?_)
    refine ret1_gw (.inl rfl) hF rfl (res_tmp (hF.ev rfl)) ?_
    exact ⟨B103, (([] ++ x0).length), d104, rfl, rfl, S.sel [0] rfl rfl⟩
  · have hx := nil_none h0.rc.rd rfl hc101
    refine cond_t hF rfl hc101 ?_
    refine wp_seq ?_
    refine wp_region_lit ?_
    refine op_val (v := .slice none 0 0) rfl rfl hF rfl (run_assign rfl rfl) ?_; clear hF; intro a hF
    refine wpList_nil ?_
    refine wp_ret ?_
    repeat with_reducible (first | refine then_ret ?_ | refine in_ret ?_ | refine in_nrm ?_)
    refine ret1_gw (.inl rfl) hF rfl (res_tmp (hF.ev rfl)) ?_
    subst hx
    replace S := S.nilrow 48 2
    exact ⟨none, 0, 0, rfl, rfl, S.sel [0] rfl rfl⟩

set_option maxHeartbeats 4000000 in
theorem c_impl_Work_clone {x0 : List Bool} {x1 : List Bool} {x2 : List (Int × Int)} {A0 : Option Addr} {n0 c0 : Nat} {A1 : Option Addr} {n1 c1 : Nat} {A2 : Option Addr} {n2 c2 : Nat} {w : World} {r : List Bool × List Bool × List (Int × Int)} (h0 : Rt w 1 eB A0 n0 c0 x0) (h1 : Rt w 1 eB A1 n1 c1 x1) (h2 : Rt w 2 ePermit A2 n2 c2 x2) (hM : m_impl_Work_clone x0 x1 x2 = some r) :
    Calls Tryd.prog 30 #[.agg #[.slice A0 n0 c0, .slice A1 n1 c1, .slice A2 n2 c2]] w (fun e w' => ∃ (B0 : Option Addr) (N0 D0 : Nat) (B1 : Option Addr) (N1 D1 : Nat) (B2 : Option Addr) (N2 D2 : Nat), e = .returned (.agg #[.slice B0 N0 D0, .slice B1 N1 D1, .slice B2 N2 D2]) ∧ N0 = r.1.length ∧ N1 = r.2.1.length ∧ N2 = r.2.2.length ∧ St w w' [.row 4 1 (.slice B0 N0 D0) N0 (r.1.flatMap eB), .row 4 1 (.slice B1 N1 D1) N1 (r.2.1.flatMap eB), .row 48 2 (.slice B2 N2 D2) N2 (r.2.2.flatMap ePermit)]) := by
  obtain rfl := h0.len
  obtain rfl := h1.len
  obtain rfl := h2.len
  unfold m_impl_Work_clone at hM
  refine calls_gw Tryd.func30 Tryd.ntmps30 rfl [(0, .agg #[.slice A0 x0.length c0, .slice A1 x1.length c1, .slice A2 x2.length c2])] ⟨rfl, trivial⟩ rfl ?_
  intro a hF
  have S := St.nil w
  refine wp_seq ?_
  refine wp_region_lit ?_
  refine op_new (cs := #[.slice A0 x0.length c0, .slice A1 x1.length c1, .slice A2 x2.length c2]) rfl rfl hF rfl S (run_box rfl (hF.ev rfl) rfl) ?_; clear hF S; intro a g101 u hF S
  refine op_new (cs := #[.slice none 0 0, .slice none 0 0, .slice none 0 0]) rfl rfl hF rfl S (run_allocZ rfl zr26) ?_; clear hF S; intro a g102 u hF S
  refine wpList_nil ?_
  refine wp_seq ?_
  obtain ⟨p103, h103, hM⟩ := bind_ex hM
  obtain ⟨p107, h107, hM⟩ := bind_ex hM
  obtain ⟨p111, h111, hM⟩ := bind_ex hM
  refine region_gw (D := [3, 4, 5, 6, 7, 8, 9, 10, 11, 12]) (Lr := [.box g101 26 #[.slice A0 x0.length c0, .slice A1 x1.length c1, .slice A2 x2.length c2]]) (deps := (fun | 0 => [3] | 1 => [4] | 2 => [5] | 3 => [6] | 4 => [7] | 5 => [8] | 6 => [9] | 7 => [10] | 8 => [11] | 9 => [12, 5, 8, 11] | 10 => [2, 5, 8, 11] | _ => [])) (rd := (fun _ => [])) (zr := (fun _ => []))
    (φ := fun i vs => match i, vs with | 0, [v3] => v3 = .pointer (some ⟨g101, 0, none⟩) | 1, [v4] => v4 = .slice A0 x0.length c0 | 2, [v5] => v5 = .slice (slA v5) p103.length (slC v5) | 3, [v6] => v6 = .pointer (some ⟨g101, 1, none⟩) | 4, [v7] => v7 = .slice A1 x1.length c1 | 5, [v8] => v8 = .slice (slA v8) p107.length (slC v8) | 6, [v9] => v9 = .pointer (some ⟨g101, 2, none⟩) | 7, [v10] => v10 = .slice A2 x2.length c2 | 8, [v11] => v11 = .slice (slA v11) p111.length (slC v11) | 9, [v12, v5, v8, v11] => v12 = .agg #[.slice (slA v5) p103.length (slC v5), .slice (slA v8) p107.length (slC v8), .slice (slA v11) p111.length (slC v11)] | _, _ => True)
    (C := fun i vs => match i, vs with | 2, [v5] => [.row 4 1 (.slice (slA v5) p103.length (slC v5)) p103.length (p103.flatMap eB)] | 5, [v8] => [.row 4 1 (.slice (slA v8) p107.length (slC v8)) p107.length (p107.flatMap eB)] | 8, [v11] => [.row 48 2 (.slice (slA v11) p111.length (slC v11)) p111.length (p111.flatMap ePermit)] | 10, [v2, v5, v8, v11] => [.box g102 26 #[.slice (slA v5) p103.length (slC v5), .slice (slA v8) p107.length (slC v8), .slice (slA v11) p111.length (slC v11)]] | _, _ => [])
    (κ := (fun _ => none)) (Z := (fun | 10 => [.box g102 26 #[.slice none 0 0, .slice none 0 0, .slice none 0 0]] | _ => [])) mixed hF (by kernel_rfl) (show St w _ [.box g102 26 #[.slice none 0 0, .slice none 0 0, .slice none 0 0], .box g101 26 #[.slice A0 x0.length c0, .slice A1 x1.length c1, .slice A2 x2.length c2]] from S.sel [0, 1] rfl rfl) ?_ ?_
  · refine ⟨?_, ?_, ?_, ?_, ?_, ?_, ?_, ?_, ?_, ?_, ?_, trivial⟩
    · intro a u X hB hu hp hr hz hl S
      replace S : St w u ([] ++ X) := S
      exact .inl ⟨rfl, .pointer (some ⟨g101, 0, none⟩), u, (run_fieldAddr rfl fl26_0 (hF.evB hB rfl rfl) rfl), rfl, S⟩
    · intro a u X hB hu hp hr hz hl S
      replace S : St w u ([] ++ X) := S
      have e3 : sl a 3 = .pointer (some ⟨g101, 0, none⟩) := hp 0 rfl
      exact .inl ⟨rfl, .slice A0 x0.length c0, u, (run_load1 rfl one23 (ev_sl e3) ((gr_box S hl 0 rfl).cell rfl)), rfl, S⟩
    · intro a u X hB hu hp hr hz hl S
      replace S : St w u ([] ++ X) := S
      have e4 : sl a 4 = .slice A0 x0.length c0 := hp 1 rfl
      refine .inr (.inr (.inl ⟨rfl, _, _, (run_call (vs := [.slice A0 x0.length c0]) rfl rfl co47 ⟨(ev_sl e4), trivial⟩), ?_⟩))
      refine Calls.mono (c_slices_Clone_bool_bool (x0 := x0) ⟨(S.rc0 h0.rc), rfl⟩ h103) ?_
      rintro e w1 ⟨B115, n116, d117, rfl, rfl, T⟩
      exact ⟨_, rfl, rfl, S.call1 T⟩
    · intro a u X hB hu hp hr hz hl S
      replace S : St w u ([] ++ X) := S
      exact .inl ⟨rfl, .pointer (some ⟨g101, 1, none⟩), u, (run_fieldAddr rfl fl26_1 (hF.evB hB rfl rfl) rfl), rfl, S⟩
    · intro a u X hB hu hp hr hz hl S
      replace S : St w u ([] ++ X) := S
      have e6 : sl a 6 = .pointer (some ⟨g101, 1, none⟩) := hp 3 rfl
      exact .inl ⟨rfl, .slice A1 x1.length c1, u, (run_load1 rfl one23 (ev_sl e6) ((gr_box S hl 0 rfl).cell rfl)), rfl, S⟩
    · intro a u X hB hu hp hr hz hl S
      replace S : St w u ([] ++ X) := S
      have e7 : sl a 7 = .slice A1 x1.length c1 := hp 4 rfl
      refine .inr (.inr (.inl ⟨rfl, _, _, (run_call (vs := [.slice A1 x1.length c1]) rfl rfl co47 ⟨(ev_sl e7), trivial⟩), ?_⟩))
      refine Calls.mono (c_slices_Clone_bool_bool (x0 := x1) ⟨(S.rc0 h1.rc), rfl⟩ h107) ?_
      rintro e w1 ⟨B118, n119, d120, rfl, rfl, T⟩
      exact ⟨_, rfl, rfl, S.call1 T⟩
    · intro a u X hB hu hp hr hz hl S
      replace S : St w u ([] ++ X) := S
      exact .inl ⟨rfl, .pointer (some ⟨g101, 2, none⟩), u, (run_fieldAddr rfl fl26_2 (hF.evB hB rfl rfl) rfl), rfl, S⟩
    · intro a u X hB hu hp hr hz hl S
      replace S : St w u ([] ++ X) := S
      have e9 : sl a 9 = .pointer (some ⟨g101, 2, none⟩) := hp 6 rfl
      exact .inl ⟨rfl, .slice A2 x2.length c2, u, (run_load1 rfl one24 (ev_sl e9) ((gr_box S hl 0 rfl).cell rfl)), rfl, S⟩
    · intro a u X hB hu hp hr hz hl S
      replace S : St w u ([] ++ X) := S
      have e10 : sl a 10 = .slice A2 x2.length c2 := hp 7 rfl
      refine .inr (.inr (.inl ⟨rfl, _, _, (run_call (vs := [.slice A2 x2.length c2]) rfl rfl co48 ⟨(ev_sl e10), trivial⟩), ?_⟩))
      refine Calls.mono (c_slices_Clone_impl_Permit_impl_Permit (x0 := x2) ⟨(S.rc0 h2.rc), rfl⟩ h111) ?_
      rintro e w1 ⟨B121, n122, d123, rfl, rfl, T⟩
      exact ⟨_, rfl, rfl, S.call1 T⟩
    · intro a u X hB hu hp hr hz hl S
      replace S : St w u ([] ++ X) := S
      have e5 : sl a 5 = .slice (slA (sl a 5)) p103.length (slC (sl a 5)) := hp 2 rfl
      have e8 : sl a 8 = .slice (slA (sl a 8)) p107.length (slC (sl a 8)) := hp 5 rfl
      have e11 : sl a 11 = .slice (slA (sl a 11)) p111.length (slC (sl a 11)) := hp 8 rfl
      exact .inl ⟨rfl, .agg #[.slice (slA (sl a 5)) p103.length (slC (sl a 5)), .slice (slA (sl a 8)) p107.length (slC (sl a 8)), .slice (slA (sl a 11)) p111.length (slC (sl a 11))], u, (run_build (vs := [(0, .slice (slA (sl a 5)) p103.length (slC (sl a 5))), (1, .slice (slA (sl a 8)) p107.length (slC (sl a 8))), (2, .slice (slA (sl a 11)) p111.length (slC (sl a 11)))]) rfl ⟨⟨rfl, (ev_sl e5)⟩, ⟨rfl, (ev_sl e8)⟩, ⟨rfl, (ev_sl e11)⟩, trivial⟩ (bd26_0_1_2 rfl rfl rfl)), rfl, S⟩
    · intro a u X hB hu hp hr hz hl S
      replace S : St w u ([.box g102 26 #[.slice none 0 0, .slice none 0 0, .slice none 0 0]] ++ X) := S
      have e12 : sl a 12 = .agg #[.slice (slA (sl a 5)) p103.length (slC (sl a 5)), .slice (slA (sl a 8)) p107.length (slC (sl a 8)), .slice (slA (sl a 11)) p111.length (slC (sl a 11))] := hp 9 rfl
      exact .inr (.inl ⟨rfl, _, run_store (cs' := #[.slice (slA (sl a 5)) p103.length (slC (sl a 5)), .slice (slA (sl a 8)) p107.length (slC (sl a 8)), .slice (slA (sl a 11)) p111.length (slC (sl a 11))]) rfl sz26 (hF.evB hB rfl rfl) (ev_sl e12) rfl rfl rfl (S.free 0 rfl) rfl rfl, trivial, S.put 0 rfl (#[.slice (slA (sl a 5)) p103.length (slC (sl a 5)), .slice (slA (sl a 8)) p107.length (slC (sl a 8)), .slice (slA (sl a 11)) p111.length (slC (sl a 11))])⟩)
  · intro a u hB hp S
    obtain ⟨q0, q1, q2, q3, q4, q5, q6, q7, q8, q9, q10, _⟩ := hp
    have e3 : sl a 3 = .pointer (some ⟨g101, 0, none⟩) := q0
    have e4 : sl a 4 = .slice A0 x0.length c0 := q1
    have e5 : sl a 5 = .slice (slA (sl a 5)) p103.length (slC (sl a 5)) := q2
    have e6 : sl a 6 = .pointer (some ⟨g101, 1, none⟩) := q3
    have e7 : sl a 7 = .slice A1 x1.length c1 := q4
    have e8 : sl a 8 = .slice (slA (sl a 8)) p107.length (slC (sl a 8)) := q5
    have e9 : sl a 9 = .pointer (some ⟨g101, 2, none⟩) := q6
    have e10 : sl a 10 = .slice A2 x2.length c2 := q7
    have e11 : sl a 11 = .slice (slA (sl a 11)) p111.length (slC (sl a 11)) := q8
    have e12 : sl a 12 = .agg #[.slice (slA (sl a 5)) p103.length (slC (sl a 5)), .slice (slA (sl a 8)) p107.length (slC (sl a 8)), .slice (slA (sl a 11)) p111.length (slC (sl a 11))] := q9
    replace S : St w u [.row 4 1 (.slice (slA (sl a 5)) p103.length (slC (sl a 5))) p103.length (p103.flatMap eB), .row 4 1 (.slice (slA (sl a 8)) p107.length (slC (sl a 8))) p107.length (p107.flatMap eB), .row 48 2 (.slice (slA (sl a 11)) p111.length (slC (sl a 11))) p111.length (p111.flatMap ePermit), .box g102 26 #[.slice (slA (sl a 5)) p103.length (slC (sl a 5)), .slice (slA (sl a 8)) p107.length (slC (sl a 8)), .slice (slA (sl a 11)) p111.length (slC (sl a 11))], .box g101 26 #[.slice A0 x0.length c0, .slice A1 x1.length c1, .slice A2 x2.length c2]] := S
    clear q0 q1 q2 q3 q4 q5 q6 q7 q8 q9 q10
    generalize slA (sl a 5) = B124 at *
    generalize slC (sl a 5) = d125 at *
    generalize slA (sl a 8) = B126 at *
    generalize slC (sl a 8) = d127 at *
    generalize slA (sl a 11) = B128 at *
    generalize slC (sl a 11) = d129 at *
    have hF := hF.region hB [(3, .pointer (some ⟨g101, 0, none⟩)), (4, .slice A0 x0.length c0), (5, .slice B124 p103.length d125), (6, .pointer (some ⟨g101, 1, none⟩)), (7, .slice A1 x1.length c1), (8, .slice B126 p107.length d127), (9, .pointer (some ⟨g101, 2, none⟩)), (10, .slice A2 x2.length c2), (11, .slice B128 p111.length d129), (12, .agg #[.slice B124 p103.length d125, .slice B126 p107.length d127, .slice B128 p111.length d129])] (allSl_mem ⟨e3, e4, e5, e6, e7, e8, e9, e10, e11, e12, trivial⟩) rfl
    clear hB e3 e4 e5 e6 e7 e8 e9 e10 e11 e12
    refine wp_ret ?_
    repeat with_reducible (first | refine then_ret ?_ | refine in_ret ?_ | refine in_nrm ?_)
    refine ret1_gw (.inl rfl) hF rfl (res_cell (hF.ev rfl) (res_loadN ag26 rfl (S.cells 3 rfl 0 #[.slice B124 p103.length d125, .slice B126 p107.length d127, .slice B128 p111.length d129] rfl))) ?_
    obtain rfl := Option.some.inj hM
    exact ⟨B124, p103.length, d125, B126, p107.length, d127, B128, p111.length, d129, rfl, rfl, rfl, rfl, S.sel [0, 1, 2] rfl rfl⟩

end Go.Proofs.YtnoeliaefhldmaaDoor
