/- Calls return what the models say. -/
import Derived.Test.YthpmmfbnclfbmaaDoorDa1
namespace Go.Proofs.YthpmmfbnclfbmaaDoor
open Go.ChangeShapes Go.WideShapes Go.ChangeAt Go.RowKit
set_option linter.unusedVariables false
set_option linter.unusedSimpArgs false

set_option maxHeartbeats 4000000 in
theorem c_spec_l20Rooms {x0 : List Int} {x1 : Int} {x2 : Int} {A0 : Option Addr} {n0 c0 : Nat} {g0 : Nat} {w : World} {r : Int × Int × List Int × Int} {w0 : World} {X : List Asn} (h0 : Rt w0 1 eU A0 n0 c0 x0) (S : St w0 w (Asn.box g0 67 #[.slice A0 n0 c0, .int .i64 x1] :: X)) (hM : m_spec_l20Rooms x0 x1 x2 = some r) :
    Calls Tryd.prog 21 #[.pointer (some ⟨g0, 0, none⟩), .int .i64 x2] w (fun e w' => ∃ (B0 : Option Addr) (N0 D0 : Nat), e = .returned (.agg #[.int .i64 r.1, .int .i64 r.2.1, .slice B0 N0 D0]) ∧ N0 = r.2.2.1.length ∧ St w0 w' (Asn.row 3 1 (.slice B0 N0 D0) N0 (r.2.2.1.flatMap eI) :: Asn.box g0 67 #[.slice A0 n0 c0, .int .i64 r.2.2.2] :: X)) := by
  obtain rfl := h0.len
  unfold m_spec_l20Rooms at hM
  refine calls_gw Tryd.func21 Tryd.ntmps21 rfl [(0, .pointer (some ⟨g0, 0, none⟩)), (1, .int .i64 x2)] ⟨rfl, rfl, trivial⟩ rfl ?_
  intro a hF
  refine wp_seq ?_
  refine wp_region_lit ?_
  refine op_new (cs := #[.int .i64 0, .int .i64 0, .slice none 0 0]) rfl rfl hF rfl S (run_allocZ rfl zr25) ?_; clear hF S; intro a g101 u hF S
  refine wpList_nil ?_
  refine wp_seq ?_
  refine wp_region_lit ?_
  refine op_val (v := .agg #[.int .i64 0, .int .i64 1, .slice none 0 0]) rfl rfl hF rfl (run_build (vs := [(1, .int .i64 1)]) rfl ⟨⟨rfl, rfl⟩, trivial⟩ (bd25_1 rfl)) ?_; clear hF; intro a hF
  refine op_new (cs := #[.int .i64 0, .int .i64 0, .slice none 0 0]) rfl rfl hF rfl S (run_allocZ rfl zr25) ?_; clear hF S; intro a g102 u hF S
  refine op_do rfl rfl (run_store (cs' := #[.int .i64 0, .int .i64 1, .slice none 0 0]) rfl sz25 (hF.ev rfl) (hF.ev rfl) rfl rfl rfl (S.free 0 rfl) rfl rfl) ?_; replace S := S.put 0 rfl (#[.int .i64 0, .int .i64 1, .slice none 0 0])
  generalize World.setRow _ _ _ = u at S ⊢
  refine wpList_nil ?_
  refine wp_seq ?_
  refine wp_seq ?_
  refine wp_region_lit ?_
  refine op_val (v := .pointer (some ⟨g0, 0, none⟩)) rfl rfl hF rfl (run_move rfl (hF.ev rfl)) ?_; clear hF; intro a hF
  obtain ⟨p103, h103, hM⟩ := bind_ex hM
  refine op_call rfl rfl hF rfl (run_call (vs := [.pointer (some ⟨g0, 0, none⟩), .int .i64 6]) rfl rfl co34 ⟨(hF.ev rfl), rfl, trivial⟩) (c_spec_l20Rd_pick (x0 := x0) (x1 := x1) (x2 := 6) ⟨h0.rc, rfl⟩ (show St w0 _ (Asn.box g0 67 #[.slice A0 x0.length c0, .int .i64 x1] :: Asn.box g102 25 #[.int .i64 0, .int .i64 1, .slice none 0 0] :: Asn.box g101 25 #[.int .i64 0, .int .i64 0, .slice none 0 0] :: X) from S.selT (M := [.box g0 67 #[.slice A0 x0.length c0, .int .i64 x1], .box g102 25 #[.int .i64 0, .int .i64 1, .slice none 0 0], .box g101 25 #[.int .i64 0, .int .i64 0, .slice none 0 0]]) 3 [2, 0, 1] rfl rfl rfl) h103) ?_
  rintro e u ⟨rfl, T⟩
  refine ⟨_, rfl, ?_⟩
  clear hF; intro a hF
  clear S; have S := T; clear T
  refine op_val (v := .bool (p103.1 == 0)) rfl rfl hF rfl (run_eql (hF.ev rfl) rfl rfl) ?_; clear hF; intro a hF
  refine wpList_nil ?_
  obtain ⟨o105, hM106, hM⟩ := bind_ex hM
  refine wp_cut (fun a u => ∃ (p104 : Int × Int × Int), p104 = o105 ∧ Fr a 83 [(0, .pointer (some ⟨g0, 0, none⟩)), (1, .int .i64 x2), (4, .pointer (some ⟨g101, 0, none⟩)), (5, .pointer (some ⟨g102, 0, none⟩))] ∧ St w0 u (Asn.box g0 67 #[.slice A0 x0.length c0, .int .i64 p104.1] :: Asn.box g102 25 #[.int .i64 p104.2.1, .int .i64 p104.2.2, .slice none 0 0] :: Asn.box g101 25 #[.int .i64 0, .int .i64 0, .slice none 0 0] :: X)) ?_ ?_
  · have _ := trivial
    cases hc107 : (p103.1 == 0)
    · replace hM106 := bif_f hc107 hM106
      refine cond_f hF rfl hc107 ?_
      refine wp_skip ?_
      obtain rfl := Option.some.inj hM106
      exact ⟨(p103.2, 0, 1), rfl, hF.keep _ ⟨rfl, rfl, rfl, rfl, trivial⟩, S.selT (M := [.box g0 67 #[.slice A0 x0.length c0, .int .i64 p103.2], .box g102 25 #[.int .i64 0, .int .i64 1, .slice none 0 0], .box g101 25 #[.int .i64 0, .int .i64 0, .slice none 0 0]]) 3 [0, 1, 2] rfl rfl rfl⟩
    · replace hM106 := bif_t hc107 hM106
      refine cond_t hF rfl hc107 ?_
      refine wp_seq ?_
      refine wp_region_lit ?_
      refine op_val (v := .pointer (some ⟨g102, 0, none⟩)) rfl rfl hF rfl (run_fieldAddr rfl fl25_0 (hF.ev rfl) rfl) ?_; clear hF; intro a hF
      refine op_do rfl rfl (run_store (cs' := #[.int .i64 90, .int .i64 1, .slice none 0 0]) rfl sz3 (hF.ev rfl) rfl rfl rfl rfl (S.free 1 rfl) rfl rfl) ?_; replace S := S.put 1 rfl (#[.int .i64 90, .int .i64 1, .slice none 0 0])
      generalize World.setRow _ _ _ = u at S ⊢
      refine wpList_nil ?_
      refine wp_region_lit ?_
      refine op_val (v := .pointer (some ⟨g0, 0, none⟩)) rfl rfl hF rfl (run_move rfl (hF.ev rfl)) ?_; clear hF; intro a hF
      obtain ⟨p108, h108, hM106⟩ := bind_ex hM106
      refine op_call rfl rfl hF rfl (run_call (vs := [.pointer (some ⟨g0, 0, none⟩), .int .i64 3]) rfl rfl co34 ⟨(hF.ev rfl), rfl, trivial⟩) (c_spec_l20Rd_pick (x0 := x0) (x1 := p103.2) (x2 := 3) ⟨h0.rc, rfl⟩ (show St w0 _ (Asn.box g0 67 #[.slice A0 x0.length c0, .int .i64 p103.2] :: Asn.box g102 25 #[.int .i64 90, .int .i64 1, .slice none 0 0] :: Asn.box g101 25 #[.int .i64 0, .int .i64 0, .slice none 0 0] :: X) from S.selT (M := [.box g0 67 #[.slice A0 x0.length c0, .int .i64 p103.2], .box g102 25 #[.int .i64 90, .int .i64 1, .slice none 0 0], .box g101 25 #[.int .i64 0, .int .i64 0, .slice none 0 0]]) 3 [0, 1, 2] rfl rfl rfl) h108) ?_
      rintro e u ⟨rfl, T⟩
      refine ⟨_, rfl, ?_⟩
      clear hF; intro a hF
      clear S; have S := T; clear T
      refine op_val (v := .int .i64 (w64 (Int.tdiv p108.1 2))) rfl rfl hF rfl (run_quo (z := w64 (Int.tdiv p108.1 2)) (hF.ev rfl) rfl rfl (by decide) rfl) ?_; clear hF; intro a hF
      refine op_val (v := .int .i64 (w64 ((w64 (Int.tdiv p108.1 2)) * 4))) rfl rfl hF rfl (run_mul (z := w64 ((w64 (Int.tdiv p108.1 2)) * 4)) (hF.ev rfl) rfl rfl rfl) ?_; clear hF; intro a hF
      refine op_val (v := .int .i64 (w64 (93 + (w64 ((w64 (Int.tdiv p108.1 2)) * 4))))) rfl rfl hF rfl (run_add (z := w64 (93 + (w64 ((w64 (Int.tdiv p108.1 2)) * 4)))) rfl (hF.ev rfl) rfl rfl) ?_; clear hF; intro a hF
      refine op_val (v := .pointer (some ⟨g102, 1, none⟩)) rfl rfl hF rfl (run_fieldAddr rfl fl25_1 (hF.ev rfl) rfl) ?_; clear hF; intro a hF
      refine op_do rfl rfl (run_store (cs' := #[.int .i64 90, .int .i64 (w64 (93 + (w64 ((w64 (Int.tdiv p108.1 2)) * 4)))), .slice none 0 0]) rfl sz3 (hF.ev rfl) (hF.ev rfl) rfl rfl rfl (S.free 1 rfl) rfl rfl) ?_; replace S := S.put 1 rfl (#[.int .i64 90, .int .i64 (w64 (93 + (w64 ((w64 (Int.tdiv p108.1 2)) * 4)))), .slice none 0 0])
      generalize World.setRow _ _ _ = u at S ⊢
      refine wpList_nil ?_
      obtain rfl := Option.some.inj hM106
      exact ⟨(p108.2, 90, w64 (93 + (w64 ((w64 (Int.tdiv p108.1 2)) * 4)))), rfl, hF.keep _ ⟨rfl, rfl, rfl, rfl, trivial⟩, S.selT (M := [.box g0 67 #[.slice A0 x0.length c0, .int .i64 p108.2], .box g102 25 #[.int .i64 90, .int .i64 (w64 (93 + (w64 ((w64 (Int.tdiv p108.1 2)) * 4)))), .slice none 0 0], .box g101 25 #[.int .i64 0, .int .i64 0, .slice none 0 0]]) 3 [0, 1, 2] rfl rfl rfl⟩
  · rintro a u ⟨p104, rfl, hF, S⟩
    refine wp_seq ?_
    refine wp_seq ?_
    refine wp_region_lit ?_
    refine op_val (v := .pointer (some ⟨g0, 0, none⟩)) rfl rfl hF rfl (run_move rfl (hF.ev rfl)) ?_; clear hF; intro a hF
    obtain ⟨p109, h109, hM⟩ := bind_ex hM
    refine op_call rfl rfl hF rfl (run_call (vs := [.pointer (some ⟨g0, 0, none⟩), .int .i64 5]) rfl rfl co34 ⟨(hF.ev rfl), rfl, trivial⟩) (c_spec_l20Rd_pick (x0 := x0) (x1 := p104.1) (x2 := 5) ⟨h0.rc, rfl⟩ (show St w0 _ (Asn.box g0 67 #[.slice A0 x0.length c0, .int .i64 p104.1] :: Asn.box g102 25 #[.int .i64 p104.2.1, .int .i64 p104.2.2, .slice none 0 0] :: Asn.box g101 25 #[.int .i64 0, .int .i64 0, .slice none 0 0] :: X) from S.selT (M := [.box g0 67 #[.slice A0 x0.length c0, .int .i64 p104.1], .box g102 25 #[.int .i64 p104.2.1, .int .i64 p104.2.2, .slice none 0 0], .box g101 25 #[.int .i64 0, .int .i64 0, .slice none 0 0]]) 3 [0, 1, 2] rfl rfl rfl) h109) ?_
    rintro e u ⟨rfl, T⟩
    refine ⟨_, rfl, ?_⟩
    clear hF; intro a hF
    clear S; have S := T; clear T
    refine op_val (v := .int .i64 (w64 (1 + p109.1))) rfl rfl hF rfl (run_add (z := w64 (1 + p109.1)) rfl (hF.ev rfl) rfl rfl) ?_; clear hF; intro a hF
    refine op_val (v := .int .i64 (w64 (1 + p109.1))) rfl rfl hF rfl (run_assign rfl (hF.ev rfl)) ?_; clear hF; intro a hF
    refine wpList_nil ?_
    obtain ⟨o111, hM114, hM⟩ := bind_ex hM
    refine wp_cut (fun a u => ∃ (p110 : Int × List Int) (B112 : Option Addr) (d113 : Nat), p110 = o111 ∧ Fr a 83 [(0, .pointer (some ⟨g0, 0, none⟩)), (1, .int .i64 x2), (4, .pointer (some ⟨g101, 0, none⟩)), (5, .pointer (some ⟨g102, 0, none⟩))] ∧ St w0 u (Asn.box g0 67 #[.slice A0 x0.length c0, .int .i64 p110.1] :: Asn.box g102 25 #[.int .i64 p104.2.1, .int .i64 p104.2.2, .slice B112 p110.2.length d113] :: Asn.box g101 25 #[.int .i64 0, .int .i64 0, .slice none 0 0] :: Asn.row 3 1 (.slice B112 p110.2.length d113) p110.2.length (p110.2.flatMap eI) :: X)) ?_ ?_
    · have _ := trivial
      refine wp_block ?_
      replace S := S.nilrow 3 1
      refine loop_gw (fun m a u => ∃ (p115 : Int × Int × List Int) (B116 : Option Addr) (d117 : Nat), m_spec_l20Rooms_l1 x0 m p115 = some _ ∧ Fr a 83 [(0, .pointer (some ⟨g0, 0, none⟩)), (1, .int .i64 x2), (4, .pointer (some ⟨g101, 0, none⟩)), (5, .pointer (some ⟨g102, 0, none⟩)), (6, .int .i64 p115.1)] ∧ St w0 u (Asn.box g0 67 #[.slice A0 x0.length c0, .int .i64 p115.2.1] :: Asn.box g102 25 #[.int .i64 p104.2.1, .int .i64 p104.2.2, .slice B116 p115.2.2.length d117] :: Asn.box g101 25 #[.int .i64 0, .int .i64 0, .slice none 0 0] :: Asn.row 3 1 (.slice B116 p115.2.2.length d117) p115.2.2.length (p115.2.2.flatMap eI) :: X)) FUEL ⟨(w64 (1 + p109.1), p109.2, ([] : List Int)), none, 0, hM114, hF.keep _ ⟨rfl, rfl, rfl, rfl, rfl, trivial⟩, S.selT (M := [.box g0 67 #[.slice A0 x0.length c0, .int .i64 p109.2], .box g102 25 #[.int .i64 p104.2.1, .int .i64 p104.2.2, .slice none 0 0], .box g101 25 #[.int .i64 0, .int .i64 0, .slice none 0 0], .row 3 1 (.slice none 0 0) 0 (([] : List Int).flatMap eI)]) 4 [1, 2, 3, 0] rfl rfl rfl⟩ ?_
      clear hF S hM114; rintro m a u ⟨p115, B116, d117, hM114, hF, S⟩
      rcases m with _ | f1
      · exact none_some hM114
      rw [m_spec_l20Rooms_l1.eq_2] at hM114
      refine wp_seq ?_
      refine wp_seq ?_
      refine wp_region_lit ?_
      refine op_val (v := .int .i64 p115.1) rfl rfl hF rfl (run_move rfl (hF.ev rfl)) ?_; clear hF; intro a hF
      refine op_val (v := .bool (ltB 0 p115.1)) rfl rfl hF rfl (run_gtr (hF.ev rfl) rfl rfl) ?_; clear hF; intro a hF
      refine wpList_nil ?_
      cases hc118 : (ltB 0 p115.1)
      · replace hM114 := bif_f hc118 hM114
        refine cond_f hF rfl hc118 ?_
        refine wp_exit ?_
        repeat with_reducible (first | refine then_exit ?_ | refine in_hit ?_ | refine in_miss rfl ?_)
        obtain rfl := Option.some.inj hM114
        exact ⟨(p115.2.1, p115.2.2), B116, d117, rfl, hF.keep _ ⟨rfl, rfl, rfl, rfl, trivial⟩, S.selT (M := [.box g0 67 #[.slice A0 x0.length c0, .int .i64 p115.2.1], .box g102 25 #[.int .i64 p104.2.1, .int .i64 p104.2.2, .slice B116 p115.2.2.length d117], .box g101 25 #[.int .i64 0, .int .i64 0, .slice none 0 0], .row 3 1 (.slice B116 p115.2.2.length d117) p115.2.2.length (p115.2.2.flatMap eI)]) 4 [0, 1, 2, 3] rfl rfl rfl⟩
      · replace hM114 := bif_t hc118 hM114
        refine cond_t hF rfl hc118 ?_
        refine wp_skip ?_
        refine wp_seq ?_
        refine wp_block ?_
        obtain ⟨p119, h119, hM114⟩ := bind_ex hM114
        obtain ⟨hk120, hM114⟩ := chk_ex hM114
        replace hk120 := apB_t hk120
        refine region_gw (D := [28, 29, 30, 31, 32, 33, 34]) (Lr := (Asn.box g101 25 #[.int .i64 0, .int .i64 0, .slice none 0 0] :: X)) (deps := (fun | 0 => [28] | 1 => [29] | 2 => [30] | 3 => [31] | 4 => [32] | 5 => [33] | 6 => [34] | 7 => [34, 33] | _ => [])) (rd := (fun | 5 => [4] | _ => [])) (zr := (fun | 1 => [7] | _ => []))
          (φ := fun i vs => match i, vs with | 0, [v28] => v28 = .pointer (some ⟨g102, 2, none⟩) | 1, [v29] => v29 = .slice B116 p115.2.2.length d117 | 2, [v30] => v30 = .pointer (some ⟨g0, 0, none⟩) | 3, [v31] => v31 = .int .i64 p119.1 | 4, [v32] => v32 = .slice (slA v32) (([p119.1] : List Int).length) (([p119.1] : List Int).length) | 5, [v33] => v33 = .slice (slA v33) ((p115.2.2 ++ ([p119.1])).length) (slC v33) | 6, [v34] => v34 = .pointer (some ⟨g102, 2, none⟩) | _, _ => True)
          (C := fun i vs => match i, vs with | 3, [v31] => [.box g0 67 #[.slice A0 x0.length c0, .int .i64 p119.2]] | 4, [v32] => [.row 3 1 (.slice (slA v32) (([p119.1] : List Int).length) (([p119.1] : List Int).length)) (([p119.1] : List Int).length) (([p119.1]).flatMap eI)] | 5, [v33] => [.row 3 1 (.slice (slA v33) ((p115.2.2 ++ ([p119.1])).length) (slC v33)) ((p115.2.2 ++ ([p119.1])).length) ((p115.2.2 ++ ([p119.1])).flatMap eI)] | 7, [v34, v33] => [.box g102 25 #[.int .i64 p104.2.1, .int .i64 p104.2.2, .slice (slA v33) ((p115.2.2 ++ ([p119.1])).length) (slC v33)]] | _, _ => [])
          (κ := (fun _ => none)) (Z := (fun | 3 => [.box g0 67 #[.slice A0 x0.length c0, .int .i64 p115.2.1]] | 5 => [.row 3 1 (.slice B116 p115.2.2.length d117) p115.2.2.length (p115.2.2.flatMap eI)] | 7 => [.box g102 25 #[.int .i64 p104.2.1, .int .i64 p104.2.2, .slice B116 p115.2.2.length d117]] | _ => [])) mixed hF (by kernel_rfl) (show St w0 _ (Asn.box g0 67 #[.slice A0 x0.length c0, .int .i64 p115.2.1] :: Asn.row 3 1 (.slice B116 p115.2.2.length d117) p115.2.2.length (p115.2.2.flatMap eI) :: Asn.box g102 25 #[.int .i64 p104.2.1, .int .i64 p104.2.2, .slice B116 p115.2.2.length d117] :: Asn.box g101 25 #[.int .i64 0, .int .i64 0, .slice none 0 0] :: X) from S.selT (M := [.box g0 67 #[.slice A0 x0.length c0, .int .i64 p115.2.1], .row 3 1 (.slice B116 p115.2.2.length d117) p115.2.2.length (p115.2.2.flatMap eI), .box g102 25 #[.int .i64 p104.2.1, .int .i64 p104.2.2, .slice B116 p115.2.2.length d117], .box g101 25 #[.int .i64 0, .int .i64 0, .slice none 0 0]]) 4 [0, 3, 1, 2] rfl rfl rfl) ?_ ?_
        · refine ⟨?_, ?_, ?_, ?_, ?_, ?_, ?_, ?_, trivial⟩
          · intro a u X' hB hu hp hr hz hl S
            replace S : St w0 u ([] ++ X') := S
            exact .inl ⟨rfl, .pointer (some ⟨g102, 2, none⟩), u, (run_fieldAddr rfl fl25_2 (hF.evB hB rfl rfl) rfl), rfl, S⟩
          · intro a u X' hB hu hp hr hz hl S
            replace S : St w0 u ([] ++ X') := S
            have e28 : sl a 28 = .pointer (some ⟨g102, 2, none⟩) := hp 0 rfl
            exact .inl ⟨rfl, .slice B116 p115.2.2.length d117, u, (run_load1 rfl one23 (ev_sl e28) ((show Bk _ _ _ _ from S.mem (List.mem_append_right _ (hz 7 (List.mem_of_getElem? (i := 0) rfl) _ (List.mem_of_getElem? (i := 0) rfl)))).cell rfl)), rfl, S⟩
          · intro a u X' hB hu hp hr hz hl S
            replace S : St w0 u ([] ++ X') := S
            exact .inl ⟨rfl, .pointer (some ⟨g0, 0, none⟩), u, (run_move rfl (hF.evB hB rfl rfl)), rfl, S⟩
          · intro a u X' hB hu hp hr hz hl S
            replace S : St w0 u ([.box g0 67 #[.slice A0 x0.length c0, .int .i64 p115.2.1]] ++ X') := S
            have e30 : sl a 30 = .pointer (some ⟨g0, 0, none⟩) := hp 2 rfl
            refine .inr (.inr (.inl ⟨rfl, _, _, (run_call (vs := [.pointer (some ⟨g0, 0, none⟩), .int .i64 2]) rfl rfl co34 ⟨(ev_sl e30), (ev_const _ _), trivial⟩), ?_⟩))
            refine Calls.mono (c_spec_l20Rd_pick (x0 := x0) (x1 := p115.2.1) (x2 := 2) ⟨h0.rc, rfl⟩ S h119) ?_
            rintro e w1 ⟨rfl, T⟩
            exact ⟨_, rfl, rfl, T⟩
          · intro a u X' hB hu hp hr hz hl S
            replace S : St w0 u ([] ++ X') := S
            have e31 : sl a 31 = .int .i64 p119.1 := hp 3 rfl
            exact .inl ⟨rfl, _, _, run_buildS (vs := [(0, .int .i64 p119.1)]) rfl ⟨⟨rfl, (ev_sl e31)⟩, trivial⟩ (bs23_1_0 rfl), rfl, S.newrowL (e := eI) (ls := [p119.1]) rfl eI_len (Nat.le_of_ble_eq_true rfl)⟩
          · intro a u X' hB hu hp hr hz hl S
            replace S : St w0 u ([.row 3 1 (.slice B116 p115.2.2.length d117) p115.2.2.length (p115.2.2.flatMap eI)] ++ X') := S
            have e29 : sl a 29 = .slice B116 p115.2.2.length d117 := hp 1 rfl
            have e32 : sl a 32 = .slice (slA (sl a 32)) (([p119.1] : List Int).length) (([p119.1] : List Int).length) := hp 4 rfl
            obtain ⟨B, d, w', hrun, S'⟩ := S.appendL (i := 0) (P := Tryd.prog) (ty := 23) (lx := p115.2.2) (ly := [p119.1]) (c' := (([p119.1] : List Int).length)) rfl rfl Tryd.underlying23 inf3 rfl (by decide) (own_rc (show World.ownsRow _ 0 _ _ _ _ _ from S.mem (List.mem_append_right _ (hr 4 (List.mem_of_getElem? (i := 0) rfl) _ (List.mem_of_getElem? (i := 0) rfl))))).rd rfl eI_one hk120 (by decide)
            exact .inl ⟨rfl, _, w', run_append rfl (ev_sl e29) (ev_sl e32) hrun, rfl, S'⟩
          · intro a u X' hB hu hp hr hz hl S
            replace S : St w0 u ([] ++ X') := S
            exact .inl ⟨rfl, .pointer (some ⟨g102, 2, none⟩), u, (run_fieldAddr rfl fl25_2 (hF.evB hB rfl rfl) rfl), rfl, S⟩
          · intro a u X' hB hu hp hr hz hl S
            replace S : St w0 u ([.box g102 25 #[.int .i64 p104.2.1, .int .i64 p104.2.2, .slice B116 p115.2.2.length d117]] ++ X') := S
            have e33 : sl a 33 = .slice (slA (sl a 33)) ((p115.2.2 ++ ([p119.1])).length) (slC (sl a 33)) := hp 5 rfl
            have e34 : sl a 34 = .pointer (some ⟨g102, 2, none⟩) := hp 6 rfl
            exact .inr (.inl ⟨rfl, _, run_store (cs' := #[.int .i64 p104.2.1, .int .i64 p104.2.2, .slice (slA (sl a 33)) ((p115.2.2 ++ ([p119.1])).length) (slC (sl a 33))]) rfl sz23 (ev_sl e34) (ev_sl e33) rfl rfl rfl (S.free 0 rfl) rfl rfl, trivial, S.put 0 rfl (#[.int .i64 p104.2.1, .int .i64 p104.2.2, .slice (slA (sl a 33)) ((p115.2.2 ++ ([p119.1])).length) (slC (sl a 33))])⟩)
        · intro a u hB hp S
          obtain ⟨q0, q1, q2, q3, q4, q5, q6, q7, _⟩ := hp
          have e28 : sl a 28 = .pointer (some ⟨g102, 2, none⟩) := q0
          have e29 : sl a 29 = .slice B116 p115.2.2.length d117 := q1
          have e30 : sl a 30 = .pointer (some ⟨g0, 0, none⟩) := q2
          have e31 : sl a 31 = .int .i64 p119.1 := q3
          have e32 : sl a 32 = .slice (slA (sl a 32)) (([p119.1] : List Int).length) (([p119.1] : List Int).length) := q4
          have e33 : sl a 33 = .slice (slA (sl a 33)) ((p115.2.2 ++ ([p119.1])).length) (slC (sl a 33)) := q5
          have e34 : sl a 34 = .pointer (some ⟨g102, 2, none⟩) := q6
          replace S : St w0 u (Asn.box g0 67 #[.slice A0 x0.length c0, .int .i64 p119.2] :: Asn.row 3 1 (.slice (slA (sl a 32)) (([p119.1] : List Int).length) (([p119.1] : List Int).length)) (([p119.1] : List Int).length) (([p119.1]).flatMap eI) :: Asn.row 3 1 (.slice (slA (sl a 33)) ((p115.2.2 ++ ([p119.1])).length) (slC (sl a 33))) ((p115.2.2 ++ ([p119.1])).length) ((p115.2.2 ++ ([p119.1])).flatMap eI) :: Asn.box g102 25 #[.int .i64 p104.2.1, .int .i64 p104.2.2, .slice (slA (sl a 33)) ((p115.2.2 ++ ([p119.1])).length) (slC (sl a 33))] :: Asn.box g101 25 #[.int .i64 0, .int .i64 0, .slice none 0 0] :: X) := S
          clear q0 q1 q2 q3 q4 q5 q6 q7
          generalize slA (sl a 32) = B121 at *
          generalize slA (sl a 33) = B122 at *
          generalize slC (sl a 33) = d123 at *
          have hF := hF.region hB [(28, .pointer (some ⟨g102, 2, none⟩)), (29, .slice B116 p115.2.2.length d117), (30, .pointer (some ⟨g0, 0, none⟩)), (31, .int .i64 p119.1), (32, .slice B121 (([p119.1] : List Int).length) (([p119.1] : List Int).length)), (33, .slice B122 ((p115.2.2 ++ ([p119.1])).length) d123), (34, .pointer (some ⟨g102, 2, none⟩))] (allSl_mem ⟨e28, e29, e30, e31, e32, e33, e34, trivial⟩) rfl
          clear hB e28 e29 e30 e31 e32 e33 e34
          refine wp_region_lit ?_
          refine op_val (v := .int .i64 p115.1) rfl rfl hF rfl (run_move rfl (hF.ev rfl)) ?_; clear hF; intro a hF
          refine op_val (v := .int .i64 (w64 (p115.1 - 1))) rfl rfl hF rfl (run_sub (z := w64 (p115.1 - 1)) (hF.ev rfl) rfl rfl rfl) ?_; clear hF; intro a hF
          refine op_val (v := .int .i64 (w64 (p115.1 - 1))) rfl rfl hF rfl (run_assign rfl (hF.ev rfl)) ?_; clear hF; intro a hF
          refine wpList_nil ?_
          exact ⟨f1, Nat.lt_succ_self _, (w64 (p115.1 - 1), p119.2, p115.2.2 ++ ([p119.1])), B122, d123, hM114, hF.keep _ ⟨rfl, rfl, rfl, rfl, rfl, trivial⟩, S.selT (M := [.box g0 67 #[.slice A0 x0.length c0, .int .i64 p119.2], .box g102 25 #[.int .i64 p104.2.1, .int .i64 p104.2.2, .slice B122 ((p115.2.2 ++ ([p119.1])).length) d123], .box g101 25 #[.int .i64 0, .int .i64 0, .slice none 0 0], .row 3 1 (.slice B122 ((p115.2.2 ++ ([p119.1])).length) d123) ((p115.2.2 ++ ([p119.1])).length) ((p115.2.2 ++ ([p119.1])).flatMap eI)]) 5 [0, 3, 4, 2] rfl rfl rfl⟩
    · rintro a u ⟨p110, B112, d113, rfl, hF, S⟩
      refine wp_seq ?_
      refine wp_seq ?_
      refine wp_region_lit ?_
      refine op_val (v := .pointer (some ⟨g0, 0, none⟩)) rfl rfl hF rfl (run_move rfl (hF.ev rfl)) ?_; clear hF; intro a hF
      obtain ⟨p124, h124, hM⟩ := bind_ex hM
      refine op_call rfl rfl hF rfl (run_call (vs := [.pointer (some ⟨g0, 0, none⟩), .int .i64 14]) rfl rfl co34 ⟨(hF.ev rfl), rfl, trivial⟩) (c_spec_l20Rd_pick (x0 := x0) (x1 := p110.1) (x2 := 14) ⟨h0.rc, rfl⟩ (show St w0 _ (Asn.box g0 67 #[.slice A0 x0.length c0, .int .i64 p110.1] :: Asn.box g102 25 #[.int .i64 p104.2.1, .int .i64 p104.2.2, .slice B112 p110.2.length d113] :: Asn.box g101 25 #[.int .i64 0, .int .i64 0, .slice none 0 0] :: Asn.row 3 1 (.slice B112 p110.2.length d113) p110.2.length (p110.2.flatMap eI) :: X) from S.selT (M := [.box g0 67 #[.slice A0 x0.length c0, .int .i64 p110.1], .box g102 25 #[.int .i64 p104.2.1, .int .i64 p104.2.2, .slice B112 p110.2.length d113], .box g101 25 #[.int .i64 0, .int .i64 0, .slice none 0 0], .row 3 1 (.slice B112 p110.2.length d113) p110.2.length (p110.2.flatMap eI)]) 4 [0, 1, 2, 3] rfl rfl rfl) h124) ?_
      rintro e u ⟨rfl, T⟩
      refine ⟨_, rfl, ?_⟩
      clear hF; intro a hF
      clear S; have S := T; clear T
      refine op_val (v := .int .i64 p124.1) rfl rfl hF rfl (run_assign rfl (hF.ev rfl)) ?_; clear hF; intro a hF
      refine wpList_nil ?_
      obtain ⟨o126, hM129, hM⟩ := bind_ex hM
      refine wp_cut (fun a u => ∃ (p125 : Int × Int × Int × List Int) (B127 : Option Addr) (d128 : Nat), p125 = o126 ∧ Fr a 83 [(0, .pointer (some ⟨g0, 0, none⟩)), (1, .int .i64 x2), (4, .pointer (some ⟨g101, 0, none⟩)), (5, .pointer (some ⟨g102, 0, none⟩))] ∧ St w0 u (Asn.box g0 67 #[.slice A0 x0.length c0, .int .i64 p125.1] :: Asn.box g102 25 #[.int .i64 p125.2.1, .int .i64 p125.2.2.1, .slice B127 p125.2.2.2.length d128] :: Asn.box g101 25 #[.int .i64 0, .int .i64 0, .slice none 0 0] :: Asn.row 3 1 (.slice B127 p125.2.2.2.length d128) p125.2.2.2.length (p125.2.2.2.flatMap eI) :: X)) ?_ ?_
      · have _ := trivial
        refine wp_block ?_
        refine loop_gw (fun m a u => ∃ (p130 : Int × Int × Int × Int × List Int) (B131 : Option Addr) (d132 : Nat), m_spec_l20Rooms_l2 x0 m p130 = some _ ∧ Fr a 83 [(0, .pointer (some ⟨g0, 0, none⟩)), (1, .int .i64 x2), (4, .pointer (some ⟨g101, 0, none⟩)), (5, .pointer (some ⟨g102, 0, none⟩)), (7, .int .i64 p130.1)] ∧ St w0 u (Asn.box g0 67 #[.slice A0 x0.length c0, .int .i64 p130.2.1] :: Asn.box g102 25 #[.int .i64 p130.2.2.1, .int .i64 p130.2.2.2.1, .slice B131 p130.2.2.2.2.length d132] :: Asn.box g101 25 #[.int .i64 0, .int .i64 0, .slice none 0 0] :: Asn.row 3 1 (.slice B131 p130.2.2.2.2.length d132) p130.2.2.2.2.length (p130.2.2.2.2.flatMap eI) :: X)) FUEL ⟨(p124.1, p124.2, p104.2.1, p104.2.2, p110.2), B112, d113, hM129, hF.keep _ ⟨rfl, rfl, rfl, rfl, rfl, trivial⟩, S.selT (M := [.box g0 67 #[.slice A0 x0.length c0, .int .i64 p124.2], .box g102 25 #[.int .i64 p104.2.1, .int .i64 p104.2.2, .slice B112 p110.2.length d113], .box g101 25 #[.int .i64 0, .int .i64 0, .slice none 0 0], .row 3 1 (.slice B112 p110.2.length d113) p110.2.length (p110.2.flatMap eI)]) 4 [0, 1, 2, 3] rfl rfl rfl⟩ ?_
        clear hF S hM129; rintro m a u ⟨p130, B131, d132, hM129, hF, S⟩
        rcases m with _ | f2
        · exact none_some hM129
        rw [m_spec_l20Rooms_l2.eq_2] at hM129
        refine wp_seq ?_
        refine wp_seq ?_
        refine wp_region_lit ?_
        refine op_val (v := .int .i64 p130.1) rfl rfl hF rfl (run_move rfl (hF.ev rfl)) ?_; clear hF; intro a hF
        refine op_val (v := .bool (ltB 0 p130.1)) rfl rfl hF rfl (run_gtr (hF.ev rfl) rfl rfl) ?_; clear hF; intro a hF
        refine wpList_nil ?_
        cases hc133 : (ltB 0 p130.1)
        · replace hM129 := bif_f hc133 hM129
          refine cond_f hF rfl hc133 ?_
          refine wp_exit ?_
          repeat with_reducible (first | refine then_exit ?_ | refine in_hit ?_ | refine in_miss rfl ?_)
          obtain rfl := Option.some.inj hM129
          exact ⟨(p130.2.1, p130.2.2.1, p130.2.2.2.1, p130.2.2.2.2), B131, d132, rfl, hF.keep _ ⟨rfl, rfl, rfl, rfl, trivial⟩, S.selT (M := [.box g0 67 #[.slice A0 x0.length c0, .int .i64 p130.2.1], .box g102 25 #[.int .i64 p130.2.2.1, .int .i64 p130.2.2.2.1, .slice B131 p130.2.2.2.2.length d132], .box g101 25 #[.int .i64 0, .int .i64 0, .slice none 0 0], .row 3 1 (.slice B131 p130.2.2.2.2.length d132) p130.2.2.2.2.length (p130.2.2.2.2.flatMap eI)]) 4 [0, 1, 2, 3] rfl rfl rfl⟩
        · replace hM129 := bif_t hc133 hM129
          refine cond_t hF rfl hc133 ?_
          refine wp_skip ?_
          refine wp_seq ?_
          refine wp_block ?_
          refine wp_seq ?_
          obtain ⟨p134, h134, hM129⟩ := bind_ex hM129
          obtain ⟨p135, h135, hM129⟩ := bind_ex hM129
          refine region_gw (D := [42, 43, 44, 45, 46, 41, 47, 48, 8, 9]) (Lr := (Asn.box g102 25 #[.int .i64 p130.2.2.1, .int .i64 p130.2.2.2.1, .slice B131 p130.2.2.2.2.length d132] :: Asn.box g101 25 #[.int .i64 0, .int .i64 0, .slice none 0 0] :: X)) (deps := (fun | 0 => [42] | 1 => [43] | 2 => [44] | 3 => [45] | 4 => [46] | 5 => [41, 46] | 6 => [47, 46] | 7 => [48] | 8 => [8] | 9 => [8, 46] | 10 => [9] | _ => [])) (rd := (fun | 4 => [3] | _ => [])) (zr := (fun _ => []))
            (φ := fun i vs => match i, vs with | 0, [v42] => v42 = .agg #[.int .i64 p130.2.2.1, .int .i64 p130.2.2.2.1, .slice B131 p130.2.2.2.2.length d132] | 1, [v43] => v43 = .pointer (some ⟨g0, 0, none⟩) | 2, [v44] => v44 = .agg #[.int .i64 p130.2.2.1, .int .i64 p130.2.2.2.1, .slice B131 p130.2.2.2.2.length d132] | 3, [v45] => v45 = .agg #[.int .i64 p134.1, .int .i64 p134.2.1, .int .i64 p134.2.2.1] | 4, [v46] => v46 = .tuple #[.agg #[.int .i64 p135.1, .int .i64 p135.2.1, .slice (slA (vtup (vtup v46 0) 2)) p135.2.2.1.length (slC (vtup (vtup v46 0) 2))], .bool p135.2.2.2] | 5, [v41, v46] => v41 = .tuple #[.agg #[.int .i64 p135.1, .int .i64 p135.2.1, .slice (slA (vtup (vtup v46 0) 2)) p135.2.2.1.length (slC (vtup (vtup v46 0) 2))], .bool p135.2.2.2] | 6, [v47, v46] => v47 = .agg #[.int .i64 p135.1, .int .i64 p135.2.1, .slice (slA (vtup (vtup v46 0) 2)) p135.2.2.1.length (slC (vtup (vtup v46 0) 2))] | 7, [v48] => v48 = .bool p135.2.2.2 | 8, [v8] => v8 = .pointer (some ⟨ptB v8, 0, none⟩) | 10, [v9] => v9 = .bool p135.2.2.2 | _, _ => True)
            (C := fun i vs => match i, vs with | 3, [v45] => [.box g0 67 #[.slice A0 x0.length c0, .int .i64 p134.2.2.2], .row 3 1 (.slice B131 p130.2.2.2.2.length d132) p130.2.2.2.2.length (p130.2.2.2.2.flatMap eI)] | 4, [v46] => [.row 3 1 (.slice (slA (vtup (vtup v46 0) 2)) p135.2.2.1.length (slC (vtup (vtup v46 0) 2))) p135.2.2.1.length (p135.2.2.1.flatMap eI)] | 8, [v8] => [.box (ptB v8) 25 #[.int .i64 0, .int .i64 0, .slice none 0 0]] | 9, [v8, v46] => [.box (ptB v8) 25 #[.int .i64 p135.1, .int .i64 p135.2.1, .slice (slA (vtup (vtup v46 0) 2)) p135.2.2.1.length (slC (vtup (vtup v46 0) 2))]] | _, _ => [])
            (κ := (fun | 8 => some 9 | _ => none)) (Z := (fun | 3 => [.box g0 67 #[.slice A0 x0.length c0, .int .i64 p130.2.1], .row 3 1 (.slice B131 p130.2.2.2.2.length d132) p130.2.2.2.2.length (p130.2.2.2.2.flatMap eI)] | _ => [])) mixed hF (by kernel_rfl) (show St w0 _ (Asn.box g0 67 #[.slice A0 x0.length c0, .int .i64 p130.2.1] :: Asn.row 3 1 (.slice B131 p130.2.2.2.2.length d132) p130.2.2.2.2.length (p130.2.2.2.2.flatMap eI) :: Asn.box g102 25 #[.int .i64 p130.2.2.1, .int .i64 p130.2.2.2.1, .slice B131 p130.2.2.2.2.length d132] :: Asn.box g101 25 #[.int .i64 0, .int .i64 0, .slice none 0 0] :: X) from S.selT (M := [.box g0 67 #[.slice A0 x0.length c0, .int .i64 p130.2.1], .row 3 1 (.slice B131 p130.2.2.2.2.length d132) p130.2.2.2.2.length (p130.2.2.2.2.flatMap eI), .box g102 25 #[.int .i64 p130.2.2.1, .int .i64 p130.2.2.2.1, .slice B131 p130.2.2.2.2.length d132], .box g101 25 #[.int .i64 0, .int .i64 0, .slice none 0 0]]) 4 [0, 3, 1, 2] rfl rfl rfl) ?_ ?_
          · refine ⟨?_, ?_, ?_, ?_, ?_, ?_, ?_, ?_, ?_, ?_, ?_, trivial⟩
            · intro a u X' hB hu hp hr hz hl S
              replace S : St w0 u ([] ++ X') := S
              exact .inl ⟨rfl, .agg #[.int .i64 p130.2.2.1, .int .i64 p130.2.2.2.1, .slice B131 p130.2.2.2.2.length d132], u, (run_loadN rfl ag25 (hF.evB hB rfl rfl) rfl ((gr_box S hl 0 rfl).cells 0 #[.int .i64 p130.2.2.1, .int .i64 p130.2.2.2.1, .slice B131 p130.2.2.2.2.length d132] rfl)), rfl, S⟩
            · intro a u X' hB hu hp hr hz hl S
              replace S : St w0 u ([] ++ X') := S
              exact .inl ⟨rfl, .pointer (some ⟨g0, 0, none⟩), u, (run_move rfl (hF.evB hB rfl rfl)), rfl, S⟩
            · intro a u X' hB hu hp hr hz hl S
              replace S : St w0 u ([] ++ X') := S
              exact .inl ⟨rfl, .agg #[.int .i64 p130.2.2.1, .int .i64 p130.2.2.2.1, .slice B131 p130.2.2.2.2.length d132], u, (run_loadN rfl ag25 (hF.evB hB rfl rfl) rfl ((gr_box S hl 0 rfl).cells 0 #[.int .i64 p130.2.2.1, .int .i64 p130.2.2.2.1, .slice B131 p130.2.2.2.2.length d132] rfl)), rfl, S⟩
            · intro a u X' hB hu hp hr hz hl S
              replace S : St w0 u ([.box g0 67 #[.slice A0 x0.length c0, .int .i64 p130.2.1], .row 3 1 (.slice B131 p130.2.2.2.2.length d132) p130.2.2.2.2.length (p130.2.2.2.2.flatMap eI)] ++ X') := S
              have e43 : sl a 43 = .pointer (some ⟨g0, 0, none⟩) := hp 1 rfl
              have e44 : sl a 44 = .agg #[.int .i64 p130.2.2.1, .int .i64 p130.2.2.2.1, .slice B131 p130.2.2.2.2.length d132] := hp 2 rfl
              refine .inr (.inr (.inl ⟨rfl, _, _, (run_call (vs := [.pointer (some ⟨g0, 0, none⟩), .agg #[.int .i64 p130.2.2.1, .int .i64 p130.2.2.2.1, .slice B131 p130.2.2.2.2.length d132]]) rfl rfl co22 ⟨(ev_sl e43), (ev_sl e44), trivial⟩), ?_⟩))
              refine Calls.mono (c_spec_l20RoomDeed (x0 := x0) (x1 := p130.2.1) (x2 := p130.2.2.1) (x3 := p130.2.2.2.1) (x4 := p130.2.2.2.2) ⟨h0.rc, rfl⟩ rfl S h134) ?_
              rintro e w1 ⟨rfl, T⟩
              exact ⟨_, rfl, rfl, T⟩
            · intro a u X' hB hu hp hr hz hl S
              replace S : St w0 u ([] ++ X') := S
              have e42 : sl a 42 = .agg #[.int .i64 p130.2.2.1, .int .i64 p130.2.2.2.1, .slice B131 p130.2.2.2.2.length d132] := hp 0 rfl
              have e45 : sl a 45 = .agg #[.int .i64 p134.1, .int .i64 p134.2.1, .int .i64 p134.2.2.1] := hp 3 rfl
              refine .inr (.inr (.inl ⟨rfl, _, _, (run_call (vs := [.agg #[.int .i64 p130.2.2.1, .int .i64 p130.2.2.2.1, .slice B131 p130.2.2.2.2.length d132], .agg #[.int .i64 p134.1, .int .i64 p134.2.1, .int .i64 p134.2.2.1]]) rfl rfl co8 ⟨(ev_sl e42), (ev_sl e45), trivial⟩), ?_⟩))
              refine Calls.mono (c_spec_RoomsDo (x0 := p130.2.2.1) (x1 := p130.2.2.2.1) (x2 := p130.2.2.2.2) (x3 := p134.1) (x4 := p134.2.1) (x5 := p134.2.2.1) ⟨(own_rc (show World.ownsRow _ 0 _ _ _ _ _ from S.mem (List.mem_append_right _ (hr 3 (List.mem_of_getElem? (i := 0) rfl) _ (List.mem_of_getElem? (i := 1) rfl))))), rfl⟩ h135) ?_
              rintro e w1 ⟨B136, n137, d138, rfl, rfl, T⟩
              exact ⟨_, rfl, rfl, S.call1 T⟩
            · intro a u X' hB hu hp hr hz hl S
              replace S : St w0 u ([] ++ X') := S
              have e46 : sl a 46 = .tuple #[.agg #[.int .i64 p135.1, .int .i64 p135.2.1, .slice (slA (vtup (vtup (sl a 46) 0) 2)) p135.2.2.1.length (slC (vtup (vtup (sl a 46) 0) 2))], .bool p135.2.2.2] := hp 4 rfl
              exact .inl ⟨rfl, .tuple #[.agg #[.int .i64 p135.1, .int .i64 p135.2.1, .slice (slA (vtup (vtup (sl a 46) 0) 2)) p135.2.2.1.length (slC (vtup (vtup (sl a 46) 0) 2))], .bool p135.2.2.2], u, (run_move rfl (ev_sl e46)), rfl, S⟩
            · intro a u X' hB hu hp hr hz hl S
              replace S : St w0 u ([] ++ X') := S
              have e41 : sl a 41 = .tuple #[.agg #[.int .i64 p135.1, .int .i64 p135.2.1, .slice (slA (vtup (vtup (sl a 46) 0) 2)) p135.2.2.1.length (slC (vtup (vtup (sl a 46) 0) 2))], .bool p135.2.2.2] := hp 5 rfl
              exact .inl ⟨rfl, .agg #[.int .i64 p135.1, .int .i64 p135.2.1, .slice (slA (vtup (vtup (sl a 46) 0) 2)) p135.2.2.1.length (slC (vtup (vtup (sl a 46) 0) 2))], u, (run_extract rfl (ev_sl e41) rfl), rfl, S⟩
            · intro a u X' hB hu hp hr hz hl S
              replace S : St w0 u ([] ++ X') := S
              have e41 : sl a 41 = .tuple #[.agg #[.int .i64 p135.1, .int .i64 p135.2.1, .slice (slA (vtup (vtup (sl a 46) 0) 2)) p135.2.2.1.length (slC (vtup (vtup (sl a 46) 0) 2))], .bool p135.2.2.2] := hp 5 rfl
              exact .inl ⟨rfl, .bool p135.2.2.2, u, (run_extract rfl (ev_sl e41) rfl), rfl, S⟩
            · intro a u X' hB hu hp hr hz hl S
              replace S : St w0 u ([] ++ X') := S
              exact .inl ⟨rfl, _, _, (run_allocZ rfl zr25), rfl, S.alloc _ _⟩
            · intro a u X' hB hu hp hr hz hl S
              replace S : St w0 u ([.box (ptB (sl a 8)) 25 #[.int .i64 0, .int .i64 0, .slice none 0 0]] ++ X') := S
              have e8 : sl a 8 = .pointer (some ⟨ptB (sl a 8), 0, none⟩) := hp 8 rfl
              have e47 : sl a 47 = .agg #[.int .i64 p135.1, .int .i64 p135.2.1, .slice (slA (vtup (vtup (sl a 46) 0) 2)) p135.2.2.1.length (slC (vtup (vtup (sl a 46) 0) 2))] := hp 6 rfl
              exact .inr (.inl ⟨rfl, _, run_store (cs' := #[.int .i64 p135.1, .int .i64 p135.2.1, .slice (slA (vtup (vtup (sl a 46) 0) 2)) p135.2.2.1.length (slC (vtup (vtup (sl a 46) 0) 2))]) rfl sz25 (ev_sl e8) (ev_sl e47) rfl rfl rfl (S.free 0 rfl) rfl rfl, trivial, S.put 0 rfl (#[.int .i64 p135.1, .int .i64 p135.2.1, .slice (slA (vtup (vtup (sl a 46) 0) 2)) p135.2.2.1.length (slC (vtup (vtup (sl a 46) 0) 2))])⟩)
            · intro a u X' hB hu hp hr hz hl S
              replace S : St w0 u ([] ++ X') := S
              have e48 : sl a 48 = .bool p135.2.2.2 := hp 7 rfl
              exact .inl ⟨rfl, .bool p135.2.2.2, u, (run_assign rfl (ev_sl e48)), rfl, S⟩
          · intro a u hB hp S
            obtain ⟨q0, q1, q2, q3, q4, q5, q6, q7, q8, q9, q10, _⟩ := hp
            have e42 : sl a 42 = .agg #[.int .i64 p130.2.2.1, .int .i64 p130.2.2.2.1, .slice B131 p130.2.2.2.2.length d132] := q0
            have e43 : sl a 43 = .pointer (some ⟨g0, 0, none⟩) := q1
            have e44 : sl a 44 = .agg #[.int .i64 p130.2.2.1, .int .i64 p130.2.2.2.1, .slice B131 p130.2.2.2.2.length d132] := q2
            have e45 : sl a 45 = .agg #[.int .i64 p134.1, .int .i64 p134.2.1, .int .i64 p134.2.2.1] := q3
            have e46 : sl a 46 = .tuple #[.agg #[.int .i64 p135.1, .int .i64 p135.2.1, .slice (slA (vtup (vtup (sl a 46) 0) 2)) p135.2.2.1.length (slC (vtup (vtup (sl a 46) 0) 2))], .bool p135.2.2.2] := q4
            have e41 : sl a 41 = .tuple #[.agg #[.int .i64 p135.1, .int .i64 p135.2.1, .slice (slA (vtup (vtup (sl a 46) 0) 2)) p135.2.2.1.length (slC (vtup (vtup (sl a 46) 0) 2))], .bool p135.2.2.2] := q5
            have e47 : sl a 47 = .agg #[.int .i64 p135.1, .int .i64 p135.2.1, .slice (slA (vtup (vtup (sl a 46) 0) 2)) p135.2.2.1.length (slC (vtup (vtup (sl a 46) 0) 2))] := q6
            have e48 : sl a 48 = .bool p135.2.2.2 := q7
            have e8 : sl a 8 = .pointer (some ⟨ptB (sl a 8), 0, none⟩) := q8
            have e9 : sl a 9 = .bool p135.2.2.2 := q10
            replace S : St w0 u (Asn.box g0 67 #[.slice A0 x0.length c0, .int .i64 p134.2.2.2] :: Asn.row 3 1 (.slice B131 p130.2.2.2.2.length d132) p130.2.2.2.2.length (p130.2.2.2.2.flatMap eI) :: Asn.row 3 1 (.slice (slA (vtup (vtup (sl a 46) 0) 2)) p135.2.2.1.length (slC (vtup (vtup (sl a 46) 0) 2))) p135.2.2.1.length (p135.2.2.1.flatMap eI) :: Asn.box (ptB (sl a 8)) 25 #[.int .i64 p135.1, .int .i64 p135.2.1, .slice (slA (vtup (vtup (sl a 46) 0) 2)) p135.2.2.1.length (slC (vtup (vtup (sl a 46) 0) 2))] :: Asn.box g102 25 #[.int .i64 p130.2.2.1, .int .i64 p130.2.2.2.1, .slice B131 p130.2.2.2.2.length d132] :: Asn.box g101 25 #[.int .i64 0, .int .i64 0, .slice none 0 0] :: X) := S
            clear q0 q1 q2 q3 q4 q5 q6 q7 q8 q9 q10
            generalize slA (vtup (vtup (sl a 46) 0) 2) = B139 at *
            generalize slC (vtup (vtup (sl a 46) 0) 2) = d140 at *
            generalize ptB (sl a 8) = g141 at *
            have hF := hF.region hB [(42, .agg #[.int .i64 p130.2.2.1, .int .i64 p130.2.2.2.1, .slice B131 p130.2.2.2.2.length d132]), (43, .pointer (some ⟨g0, 0, none⟩)), (44, .agg #[.int .i64 p130.2.2.1, .int .i64 p130.2.2.2.1, .slice B131 p130.2.2.2.2.length d132]), (45, .agg #[.int .i64 p134.1, .int .i64 p134.2.1, .int .i64 p134.2.2.1]), (46, .tuple #[.agg #[.int .i64 p135.1, .int .i64 p135.2.1, .slice B139 p135.2.2.1.length d140], .bool p135.2.2.2]), (41, .tuple #[.agg #[.int .i64 p135.1, .int .i64 p135.2.1, .slice B139 p135.2.2.1.length d140], .bool p135.2.2.2]), (47, .agg #[.int .i64 p135.1, .int .i64 p135.2.1, .slice B139 p135.2.2.1.length d140]), (48, .bool p135.2.2.2), (8, .pointer (some ⟨g141, 0, none⟩)), (9, .bool p135.2.2.2)] (allSl_mem ⟨e42, e43, e44, e45, e46, e41, e47, e48, e8, e9, trivial⟩) rfl
            clear hB e42 e43 e44 e45 e46 e41 e47 e48 e8 e9
            refine wp_region_lit ?_
            refine op_val (v := .agg #[.int .i64 p135.1, .int .i64 p135.2.1, .slice B139 p135.2.2.1.length d140]) rfl rfl hF rfl (run_loadN rfl ag25 (hF.ev rfl) rfl ((S.free 3 rfl).cells 0 #[.int .i64 p135.1, .int .i64 p135.2.1, .slice B139 p135.2.2.1.length d140] rfl)) ?_; clear hF; intro a hF
            refine op_do rfl rfl (run_store (cs' := #[.int .i64 p135.1, .int .i64 p135.2.1, .slice B139 p135.2.2.1.length d140]) rfl sz25 (hF.ev rfl) (hF.ev rfl) rfl rfl rfl (S.free 4 rfl) rfl rfl) ?_; replace S := S.put 4 rfl (#[.int .i64 p135.1, .int .i64 p135.2.1, .slice B139 p135.2.2.1.length d140])
            generalize World.setRow _ _ _ = u at S ⊢
            refine wpList_nil ?_
            refine wp_region_lit ?_
            refine op_val (v := .int .i64 p130.1) rfl rfl hF rfl (run_move rfl (hF.ev rfl)) ?_; clear hF; intro a hF
            refine op_val (v := .int .i64 (w64 (p130.1 - 1))) rfl rfl hF rfl (run_sub (z := w64 (p130.1 - 1)) (hF.ev rfl) rfl rfl rfl) ?_; clear hF; intro a hF
            refine op_val (v := .int .i64 (w64 (p130.1 - 1))) rfl rfl hF rfl (run_assign rfl (hF.ev rfl)) ?_; clear hF; intro a hF
            refine wpList_nil ?_
            exact ⟨f2, Nat.lt_succ_self _, (w64 (p130.1 - 1), p134.2.2.2, p135.1, p135.2.1, p135.2.2.1), B139, d140, hM129, hF.keep _ ⟨rfl, rfl, rfl, rfl, rfl, trivial⟩, S.selT (M := [.box g0 67 #[.slice A0 x0.length c0, .int .i64 p134.2.2.2], .box g102 25 #[.int .i64 p135.1, .int .i64 p135.2.1, .slice B139 p135.2.2.1.length d140], .box g101 25 #[.int .i64 0, .int .i64 0, .slice none 0 0], .row 3 1 (.slice B139 p135.2.2.1.length d140) p135.2.2.1.length (p135.2.2.1.flatMap eI)]) 6 [0, 4, 5, 2] rfl rfl rfl⟩
      · rintro a u ⟨p125, B127, d128, rfl, hF, S⟩
        refine wp_seq ?_
        refine wp_seq ?_
        refine wp_region_lit ?_
        refine op_val (v := .pointer (some ⟨g0, 0, none⟩)) rfl rfl hF rfl (run_move rfl (hF.ev rfl)) ?_; clear hF; intro a hF
        refine op_val (v := .int .i64 x2) rfl rfl hF rfl (run_move rfl (hF.ev rfl)) ?_; clear hF; intro a hF
        obtain ⟨p142, h142, hM⟩ := bind_ex hM
        refine op_call rfl rfl hF rfl (run_call (vs := [.pointer (some ⟨g0, 0, none⟩), .int .i64 x2]) rfl rfl co35 ⟨(hF.ev rfl), (hF.ev rfl), trivial⟩) (c_spec_l20Rd_odd (x0 := x0) (x1 := p125.1) (x2 := x2) ⟨h0.rc, rfl⟩ (show St w0 _ (Asn.box g0 67 #[.slice A0 x0.length c0, .int .i64 p125.1] :: Asn.box g102 25 #[.int .i64 p125.2.1, .int .i64 p125.2.2.1, .slice B127 p125.2.2.2.length d128] :: Asn.box g101 25 #[.int .i64 0, .int .i64 0, .slice none 0 0] :: Asn.row 3 1 (.slice B127 p125.2.2.2.length d128) p125.2.2.2.length (p125.2.2.2.flatMap eI) :: X) from S.selT (M := [.box g0 67 #[.slice A0 x0.length c0, .int .i64 p125.1], .box g102 25 #[.int .i64 p125.2.1, .int .i64 p125.2.2.1, .slice B127 p125.2.2.2.length d128], .box g101 25 #[.int .i64 0, .int .i64 0, .slice none 0 0], .row 3 1 (.slice B127 p125.2.2.2.length d128) p125.2.2.2.length (p125.2.2.2.flatMap eI)]) 4 [0, 1, 2, 3] rfl rfl rfl) h142) ?_
        rintro e u ⟨rfl, T⟩
        refine ⟨_, rfl, ?_⟩
        clear hF; intro a hF
        clear S; have S := T; clear T
        refine wpList_nil ?_
        obtain ⟨o144, hM147, hM⟩ := bind_ex hM
        refine wp_cut (fun a u => ∃ (p143 : Int × Int × Int × List Int) (B145 : Option Addr) (d146 : Nat), p143 = o144 ∧ Fr a 83 [(4, .pointer (some ⟨g101, 0, none⟩)), (5, .pointer (some ⟨g102, 0, none⟩))] ∧ St w0 u (Asn.box g0 67 #[.slice A0 x0.length c0, .int .i64 p143.1] :: Asn.box g102 25 #[.int .i64 p143.2.1, .int .i64 p143.2.2.1, .slice B145 p143.2.2.2.length d146] :: Asn.box g101 25 #[.int .i64 0, .int .i64 0, .slice none 0 0] :: Asn.row 3 1 (.slice B145 p143.2.2.2.length d146) p143.2.2.2.length (p143.2.2.2.flatMap eI) :: X)) ?_ ?_
        · have _ := trivial
          cases hc148 : (p142.1)
          · replace hM147 := bif_f hc148 hM147
            refine cond_f hF rfl hc148 ?_
            refine wp_skip ?_
            obtain rfl := Option.some.inj hM147
            exact ⟨(p142.2, p125.2.1, p125.2.2.1, p125.2.2.2), B127, d128, rfl, hF.keep _ ⟨rfl, rfl, trivial⟩, S.selT (M := [.box g0 67 #[.slice A0 x0.length c0, .int .i64 p142.2], .box g102 25 #[.int .i64 p125.2.1, .int .i64 p125.2.2.1, .slice B127 p125.2.2.2.length d128], .box g101 25 #[.int .i64 0, .int .i64 0, .slice none 0 0], .row 3 1 (.slice B127 p125.2.2.2.length d128) p125.2.2.2.length (p125.2.2.2.flatMap eI)]) 4 [0, 1, 2, 3] rfl rfl rfl⟩
          · replace hM147 := bif_t hc148 hM147
            refine cond_t hF rfl hc148 ?_
            refine wp_seq ?_
            refine wp_region_lit ?_
            refine op_val (v := .pointer (some ⟨g0, 0, none⟩)) rfl rfl hF rfl (run_move rfl (hF.ev rfl)) ?_; clear hF; intro a hF
            obtain ⟨p149, h149, hM147⟩ := bind_ex hM147
            refine op_call rfl rfl hF rfl (run_call (vs := [.pointer (some ⟨g0, 0, none⟩), .int .i64 4]) rfl rfl co34 ⟨(hF.ev rfl), rfl, trivial⟩) (c_spec_l20Rd_pick (x0 := x0) (x1 := p142.2) (x2 := 4) ⟨h0.rc, rfl⟩ (show St w0 _ (Asn.box g0 67 #[.slice A0 x0.length c0, .int .i64 p142.2] :: Asn.box g102 25 #[.int .i64 p125.2.1, .int .i64 p125.2.2.1, .slice B127 p125.2.2.2.length d128] :: Asn.box g101 25 #[.int .i64 0, .int .i64 0, .slice none 0 0] :: Asn.row 3 1 (.slice B127 p125.2.2.2.length d128) p125.2.2.2.length (p125.2.2.2.flatMap eI) :: X) from S.selT (M := [.box g0 67 #[.slice A0 x0.length c0, .int .i64 p142.2], .box g102 25 #[.int .i64 p125.2.1, .int .i64 p125.2.2.1, .slice B127 p125.2.2.2.length d128], .box g101 25 #[.int .i64 0, .int .i64 0, .slice none 0 0], .row 3 1 (.slice B127 p125.2.2.2.length d128) p125.2.2.2.length (p125.2.2.2.flatMap eI)]) 4 [0, 1, 2, 3] rfl rfl rfl) h149) ?_
            rintro e u ⟨rfl, T⟩
            refine ⟨_, rfl, ?_⟩
            clear hF; intro a hF
            clear S; have S := T; clear T
            refine wpList_nil ?_
            refine wp_block ?_
            refine wp_seq ?_
            refine wp_region_lit ?_
            refine op_val (v := .bool (p149.1 == 0)) rfl rfl hF rfl (run_eql (hF.ev rfl) rfl rfl) ?_; clear hF; intro a hF
            refine op_val (v := .bool (p149.1 == 0)) rfl rfl hF rfl (run_assign rfl (hF.ev rfl)) ?_; clear hF; intro a hF
            refine wpList_nil ?_
            obtain ⟨o151, hM154, hM147⟩ := bind_ex hM147
            refine wp_cut (fun a u => ∃ (p150 : Int × Int × Int × List Int) (B152 : Option Addr) (d153 : Nat), p150 = o151 ∧ Fr a 83 [(4, .pointer (some ⟨g101, 0, none⟩)), (5, .pointer (some ⟨g102, 0, none⟩))] ∧ St w0 u (Asn.box g0 67 #[.slice A0 x0.length c0, .int .i64 p150.1] :: Asn.box g102 25 #[.int .i64 p150.2.1, .int .i64 p150.2.2.1, .slice B152 p150.2.2.2.length d153] :: Asn.box g101 25 #[.int .i64 0, .int .i64 0, .slice none 0 0] :: Asn.row 3 1 (.slice B152 p150.2.2.2.length d153) p150.2.2.2.length (p150.2.2.2.flatMap eI) :: X)) ?_ ?_
            · have _ := trivial
              cases hc155 : (p149.1 == 0)
              · replace hM154 := bif_f hc155 hM154
                refine cond_f hF rfl hc155 ?_
                refine wp_seq ?_
                refine wp_region_lit ?_
                refine op_val (v := .bool (p149.1 == 1)) rfl rfl hF rfl (run_eql (hF.ev rfl) rfl rfl) ?_; clear hF; intro a hF
                refine op_val (v := .bool (p149.1 == 1)) rfl rfl hF rfl (run_assign rfl (hF.ev rfl)) ?_; clear hF; intro a hF
                refine wpList_nil ?_
                obtain ⟨o157, hM160, hM154⟩ := bind_ex hM154
                refine wp_cut (fun a u => ∃ (p156 : Int × Int × List Int) (B158 : Option Addr) (d159 : Nat), p156 = o157 ∧ Fr a 83 [(4, .pointer (some ⟨g101, 0, none⟩)), (5, .pointer (some ⟨g102, 0, none⟩))] ∧ St w0 u (Asn.box g0 67 #[.slice A0 x0.length c0, .int .i64 p156.1] :: Asn.box g102 25 #[.int .i64 p125.2.1, .int .i64 p156.2.1, .slice B158 p156.2.2.length d159] :: Asn.box g101 25 #[.int .i64 0, .int .i64 0, .slice none 0 0] :: Asn.row 3 1 (.slice B158 p156.2.2.length d159) p156.2.2.length (p156.2.2.flatMap eI) :: X)) ?_ ?_
                · have _ := trivial
                  cases hc161 : (p149.1 == 1)
                  · replace hM160 := bif_f hc161 hM160
                    refine cond_f hF rfl hc161 ?_
                    refine wp_seq ?_
                    refine wp_region_lit ?_
                    refine op_val (v := .bool (p149.1 == 2)) rfl rfl hF rfl (run_eql (hF.ev rfl) rfl rfl) ?_; clear hF; intro a hF
                    refine op_val (v := .bool (p149.1 == 2)) rfl rfl hF rfl (run_assign rfl (hF.ev rfl)) ?_; clear hF; intro a hF
                    refine wpList_nil ?_
                    obtain ⟨o163, hM165, hM160⟩ := bind_ex hM160
                    refine wp_cut (fun a u => ∃ (p162 : Int × Int × List Int), p162 = o163 ∧ p125.2.2.2.length = p162.2.2.length ∧ Fr a 83 [(4, .pointer (some ⟨g101, 0, none⟩)), (5, .pointer (some ⟨g102, 0, none⟩))] ∧ St w0 u (Asn.box g0 67 #[.slice A0 x0.length c0, .int .i64 p162.1] :: Asn.box g102 25 #[.int .i64 p125.2.1, .int .i64 p162.2.1, .slice B127 p125.2.2.2.length d128] :: Asn.box g101 25 #[.int .i64 0, .int .i64 0, .slice none 0 0] :: Asn.row 3 1 (.slice B127 p125.2.2.2.length d128) p125.2.2.2.length (p162.2.2.flatMap eI) :: X)) ?_ ?_
                    · have _ := trivial
                      cases hc166 : (p149.1 == 2)
                      · replace hM165 := bif_f hc166 hM165
                        refine cond_f hF rfl hc166 ?_
                        refine wp_region_lit ?_
                        refine op_val (v := .pointer (some ⟨g102, 1, none⟩)) rfl rfl hF rfl (run_fieldAddr rfl fl25_1 (hF.ev rfl) rfl) ?_; clear hF; intro a hF
                        refine op_do rfl rfl (run_store (cs' := #[.int .i64 p125.2.1, .int .i64 101, .slice B127 p125.2.2.2.length d128]) rfl sz3 (hF.ev rfl) rfl rfl rfl rfl (S.free 1 rfl) rfl rfl) ?_; replace S := S.put 1 rfl (#[.int .i64 p125.2.1, .int .i64 101, .slice B127 p125.2.2.2.length d128])
                        generalize World.setRow _ _ _ = u at S ⊢
                        refine wpList_nil ?_
                        obtain rfl := Option.some.inj hM165
                        exact ⟨(p149.2, 101, p125.2.2.2), rfl, rfl, hF.keep _ ⟨rfl, rfl, trivial⟩, S.selT (M := [.box g0 67 #[.slice A0 x0.length c0, .int .i64 p149.2], .box g102 25 #[.int .i64 p125.2.1, .int .i64 101, .slice B127 p125.2.2.2.length d128], .box g101 25 #[.int .i64 0, .int .i64 0, .slice none 0 0], .row 3 1 (.slice B127 p125.2.2.2.length d128) p125.2.2.2.length (p125.2.2.2.flatMap eI)]) 4 [0, 1, 2, 3] rfl rfl rfl⟩
                      · replace hM165 := bif_t hc166 hM165
                        refine cond_t hF rfl hc166 ?_
                        obtain ⟨p167, h167, hM165⟩ := bind_ex hM165
                        obtain ⟨hk168, hM165⟩ := chk_ex hM165
                        replace hk168 := ixB_t hk168
                        obtain ⟨hk169, hM165⟩ := chk_ex hM165
                        replace hk169 := ixB_t hk169
                        refine region_gw (D := [68, 69, 70, 71, 72, 73, 74, 75, 76, 77, 78, 79, 80, 81]) (Lr := (Asn.box g102 25 #[.int .i64 p125.2.1, .int .i64 p125.2.2.1, .slice B127 p125.2.2.2.length d128] :: Asn.box g101 25 #[.int .i64 0, .int .i64 0, .slice none 0 0] :: X)) (deps := (fun | 0 => [68] | 1 => [69] | 2 => [70] | 3 => [71] | 4 => [72] | 5 => [73] | 6 => [74] | 7 => [75] | 8 => [76] | 9 => [77] | 10 => [78] | 11 => [79, 76] | 12 => [80] | 13 => [81] | 14 => [81] | _ => [])) (rd := (fun | 11 => [8] | 12 => [8] | _ => [])) (zr := (fun | 13 => [14] | _ => []))
                          (φ := fun i vs => match i, vs with | 0, [v68] => v68 = .pointer (some ⟨g102, 2, none⟩) | 1, [v69] => v69 = .slice B127 p125.2.2.2.length d128 | 2, [v70] => v70 = .pointer (some ⟨g102, 0, none⟩) | 3, [v71] => v71 = .int .i64 p125.2.1 | 4, [v72] => v72 = .int .i64 (w64 (p125.2.1 + 2)) | 5, [v73] => v73 = .pointer (some ⟨g102, 1, none⟩) | 6, [v74] => v74 = .int .i64 p125.2.2.1 | 7, [v75] => v75 = .int .i64 (w64 (p125.2.2.1 + 2)) | 8, [v76] => v76 = .slice (slA v76) (([-1, w64 (p125.2.1 + 2), w64 (p125.2.2.1 + 2)] : List Int).length) (([-1, w64 (p125.2.1 + 2), w64 (p125.2.2.1 + 2)] : List Int).length) | 9, [v77] => v77 = .pointer (some ⟨g0, 0, none⟩) | 10, [v78] => v78 = .int .i64 p167.1 | 11, [v79, v76] => v79 = .pointer (some ⟨adB (slA v76), adO (slA v76) + p167.1.toNat * 1, none⟩) | 12, [v80] => v80 = .int .i64 (([-1, w64 (p125.2.1 + 2), w64 (p125.2.2.1 + 2)]).getD p167.1.toNat (0 : Int)) | 13, [v81] => v81 = .pointer (some ⟨adB B127, adO B127 + ((0 : Int).toNat) * 1, none⟩) | _, _ => True)
                          (C := fun i vs => match i, vs with | 8, [v76] => [.row 3 1 (.slice (slA v76) (([-1, w64 (p125.2.1 + 2), w64 (p125.2.2.1 + 2)] : List Int).length) (([-1, w64 (p125.2.1 + 2), w64 (p125.2.2.1 + 2)] : List Int).length)) (([-1, w64 (p125.2.1 + 2), w64 (p125.2.2.1 + 2)] : List Int).length) (([-1, w64 (p125.2.1 + 2), w64 (p125.2.2.1 + 2)]).flatMap eI)] | 10, [v78] => [.box g0 67 #[.slice A0 x0.length c0, .int .i64 p167.2]] | 14, [v81] => [.row 3 1 (.slice B127 p125.2.2.2.length d128) p125.2.2.2.length ((p125.2.2.2.set ((0 : Int).toNat) (([-1, w64 (p125.2.1 + 2), w64 (p125.2.2.1 + 2)]).getD p167.1.toNat (0 : Int))).flatMap eI)] | _, _ => [])
                          (κ := (fun _ => none)) (Z := (fun | 10 => [.box g0 67 #[.slice A0 x0.length c0, .int .i64 p149.2]] | 14 => [.row 3 1 (.slice B127 p125.2.2.2.length d128) p125.2.2.2.length (p125.2.2.2.flatMap eI)] | _ => [])) mixed hF (by kernel_rfl) (show St w0 _ (Asn.box g0 67 #[.slice A0 x0.length c0, .int .i64 p149.2] :: Asn.row 3 1 (.slice B127 p125.2.2.2.length d128) p125.2.2.2.length (p125.2.2.2.flatMap eI) :: Asn.box g102 25 #[.int .i64 p125.2.1, .int .i64 p125.2.2.1, .slice B127 p125.2.2.2.length d128] :: Asn.box g101 25 #[.int .i64 0, .int .i64 0, .slice none 0 0] :: X) from S.selT (M := [.box g0 67 #[.slice A0 x0.length c0, .int .i64 p149.2], .row 3 1 (.slice B127 p125.2.2.2.length d128) p125.2.2.2.length (p125.2.2.2.flatMap eI), .box g102 25 #[.int .i64 p125.2.1, .int .i64 p125.2.2.1, .slice B127 p125.2.2.2.length d128], .box g101 25 #[.int .i64 0, .int .i64 0, .slice none 0 0]]) 4 [0, 3, 1, 2] rfl rfl rfl) ?_ ?_
                        · refine ⟨?_, ?_, ?_, ?_, ?_, ?_, ?_, ?_, ?_, ?_, ?_, ?_, ?_, ?_, ?_, trivial⟩
                          · intro a u X' hB hu hp hr hz hl S
                            replace S : St w0 u ([] ++ X') := S
                            exact .inl ⟨rfl, .pointer (some ⟨g102, 2, none⟩), u, (run_fieldAddr rfl fl25_2 (hF.evB hB rfl rfl) rfl), rfl, S⟩
                          · intro a u X' hB hu hp hr hz hl S
                            replace S : St w0 u ([] ++ X') := S
                            have e68 : sl a 68 = .pointer (some ⟨g102, 2, none⟩) := hp 0 rfl
                            exact .inl ⟨rfl, .slice B127 p125.2.2.2.length d128, u, (run_load1 rfl one23 (ev_sl e68) ((gr_box S hl 0 rfl).cell rfl)), rfl, S⟩
                          · intro a u X' hB hu hp hr hz hl S
                            replace S : St w0 u ([] ++ X') := S
                            exact .inl ⟨rfl, .pointer (some ⟨g102, 0, none⟩), u, (run_fieldAddr rfl fl25_0 (hF.evB hB rfl rfl) rfl), rfl, S⟩
                          · intro a u X' hB hu hp hr hz hl S
                            replace S : St w0 u ([] ++ X') := S
                            have e70 : sl a 70 = .pointer (some ⟨g102, 0, none⟩) := hp 2 rfl
                            exact .inl ⟨rfl, .int .i64 p125.2.1, u, (run_load1 rfl one3 (ev_sl e70) ((gr_box S hl 0 rfl).cell rfl)), rfl, S⟩
                          · intro a u X' hB hu hp hr hz hl S
                            replace S : St w0 u ([] ++ X') := S
                            have e71 : sl a 71 = .int .i64 p125.2.1 := hp 3 rfl
                            exact .inl ⟨rfl, .int .i64 (w64 (p125.2.1 + 2)), u, (run_add (z := w64 (p125.2.1 + 2)) (ev_sl e71) (ev_const _ _) rfl rfl), rfl, S⟩
                          · intro a u X' hB hu hp hr hz hl S
                            replace S : St w0 u ([] ++ X') := S
                            exact .inl ⟨rfl, .pointer (some ⟨g102, 1, none⟩), u, (run_fieldAddr rfl fl25_1 (hF.evB hB rfl rfl) rfl), rfl, S⟩
                          · intro a u X' hB hu hp hr hz hl S
                            replace S : St w0 u ([] ++ X') := S
                            have e73 : sl a 73 = .pointer (some ⟨g102, 1, none⟩) := hp 5 rfl
                            exact .inl ⟨rfl, .int .i64 p125.2.2.1, u, (run_load1 rfl one3 (ev_sl e73) ((gr_box S hl 0 rfl).cell rfl)), rfl, S⟩
                          · intro a u X' hB hu hp hr hz hl S
                            replace S : St w0 u ([] ++ X') := S
                            have e74 : sl a 74 = .int .i64 p125.2.2.1 := hp 6 rfl
                            exact .inl ⟨rfl, .int .i64 (w64 (p125.2.2.1 + 2)), u, (run_add (z := w64 (p125.2.2.1 + 2)) (ev_sl e74) (ev_const _ _) rfl rfl), rfl, S⟩
                          · intro a u X' hB hu hp hr hz hl S
                            replace S : St w0 u ([] ++ X') := S
                            have e72 : sl a 72 = .int .i64 (w64 (p125.2.1 + 2)) := hp 4 rfl
                            have e75 : sl a 75 = .int .i64 (w64 (p125.2.2.1 + 2)) := hp 7 rfl
                            exact .inl ⟨rfl, _, _, run_buildS (vs := [(0, .int .i64 (-1)), (1, .int .i64 (w64 (p125.2.1 + 2))), (2, .int .i64 (w64 (p125.2.2.1 + 2)))]) rfl ⟨⟨rfl, (ev_const _ _)⟩, ⟨rfl, (ev_sl e72)⟩, ⟨rfl, (ev_sl e75)⟩, trivial⟩ (bs23_3_0_0_0 rfl rfl rfl), rfl, S.newrowL (e := eI) (ls := [-1, w64 (p125.2.1 + 2), w64 (p125.2.2.1 + 2)]) rfl eI_len (Nat.le_of_ble_eq_true rfl)⟩
                          · intro a u X' hB hu hp hr hz hl S
                            replace S : St w0 u ([] ++ X') := S
                            exact .inl ⟨rfl, .pointer (some ⟨g0, 0, none⟩), u, (run_move rfl (hF.evB hB rfl rfl)), rfl, S⟩
                          · intro a u X' hB hu hp hr hz hl S
                            replace S : St w0 u ([.box g0 67 #[.slice A0 x0.length c0, .int .i64 p149.2]] ++ X') := S
                            have e77 : sl a 77 = .pointer (some ⟨g0, 0, none⟩) := hp 9 rfl
                            refine .inr (.inr (.inl ⟨rfl, _, _, (run_call (vs := [.pointer (some ⟨g0, 0, none⟩), .int .i64 3]) rfl rfl co34 ⟨(ev_sl e77), (ev_const _ _), trivial⟩), ?_⟩))
                            refine Calls.mono (c_spec_l20Rd_pick (x0 := x0) (x1 := p149.2) (x2 := 3) ⟨h0.rc, rfl⟩ S h167) ?_
                            rintro e w1 ⟨rfl, T⟩
                            exact ⟨_, rfl, rfl, T⟩
                          · intro a u X' hB hu hp hr hz hl S
                            replace S : St w0 u ([] ++ X') := S
                            have e76 : sl a 76 = .slice (slA (sl a 76)) (([-1, w64 (p125.2.1 + 2), w64 (p125.2.2.1 + 2)] : List Int).length) (([-1, w64 (p125.2.1 + 2), w64 (p125.2.2.1 + 2)] : List Int).length) := hp 8 rfl
                            have e78 : sl a 78 = .int .i64 p167.1 := hp 10 rfl
                            exact .inl ⟨rfl, .pointer (some ⟨adB (slA (sl a 76)), adO (slA (sl a 76)) + p167.1.toNat * 1, none⟩), u, (run_indexAddr (b := adB (slA (sl a 76))) (off := adO (slA (sl a 76))) rfl Tryd.underlying23 sz3 ((ev_sl e76).trans (congrArg (fun A => Value.slice A (([-1, w64 (p125.2.1 + 2), w64 (p125.2.2.1 + 2)] : List Int).length) (([-1, w64 (p125.2.1 + 2), w64 (p125.2.2.1 + 2)] : List Int).length)) ((own_rc (show World.ownsRow _ 0 _ _ _ _ _ from S.mem (List.mem_append_right _ (hr 8 (List.mem_of_getElem? (i := 0) rfl) _ (List.mem_of_getElem? (i := 0) rfl))))).rd.ad (ix_pos hk168)))) (ev_sl e78) hk168.1 hk168.2 (k' := adO (slA (sl a 76)) + p167.1.toNat * 1) rfl), rfl, S⟩
                          · intro a u X' hB hu hp hr hz hl S
                            replace S : St w0 u ([] ++ X') := S
                            have e79 : sl a 79 = .pointer (some ⟨adB (slA (sl a 76)), adO (slA (sl a 76)) + p167.1.toNat * 1, none⟩) := hp 11 rfl
                            exact .inl ⟨rfl, .int .i64 (([-1, w64 (p125.2.1 + 2), w64 (p125.2.2.1 + 2)]).getD p167.1.toNat (0 : Int)), u, (run_load1 rfl one3 (ev_sl e79) (rd_el0 (l := [-1, w64 (p125.2.1 + 2), w64 (p125.2.2.1 + 2)]) (own_rc (show World.ownsRow _ 0 _ _ _ _ _ from S.mem (List.mem_append_right _ (hr 8 (List.mem_of_getElem? (i := 0) rfl) _ (List.mem_of_getElem? (i := 0) rfl))))).rd rfl eI_len (0 : Int) (ix_ltn hk168 rfl) rfl)), rfl, S⟩
                          · intro a u X' hB hu hp hr hz hl S
                            replace S : St w0 u ([] ++ X') := S
                            have e69 : sl a 69 = .slice B127 p125.2.2.2.length d128 := hp 1 rfl
                            exact .inl ⟨rfl, .pointer (some ⟨adB B127, adO B127 + ((0 : Int).toNat) * 1, none⟩), u, (run_indexAddr (b := adB B127) (off := adO B127) rfl Tryd.underlying23 sz3 ((ev_sl e69).trans (congrArg (fun A => Value.slice A p125.2.2.2.length d128) ((own_rc (show World.ownsRow _ 0 _ _ _ _ _ from S.mem (List.mem_append_right _ (hz 14 (List.mem_of_getElem? (i := 0) rfl) _ (List.mem_of_getElem? (i := 0) rfl))))).rd.ad (ix_pos hk169)))) (ev_const _ _) hk169.1 hk169.2 (k' := adO B127 + ((0 : Int).toNat) * 1) rfl), rfl, S⟩
                          · intro a u X' hB hu hp hr hz hl S
                            replace S : St w0 u ([.row 3 1 (.slice B127 p125.2.2.2.length d128) p125.2.2.2.length (p125.2.2.2.flatMap eI)] ++ X') := S
                            have e80 : sl a 80 = .int .i64 (([-1, w64 (p125.2.1 + 2), w64 (p125.2.2.1 + 2)]).getD p167.1.toNat (0 : Int)) := hp 12 rfl
                            have e81 : sl a 81 = .pointer (some ⟨adB B127, adO B127 + ((0 : Int).toNat) * 1, none⟩) := hp 13 rfl
                            obtain ⟨w', hrun, S'⟩ := run_storeElN (P := Tryd.prog) (ρ := a.eval) (y0 := (([-1, w64 (p125.2.1 + 2), w64 (p125.2.2.1 + 2)]).getD p167.1.toNat (0 : Int))) (off := 0) S 3 (.tmp 81) (.tmp 80) (i := 0) sz3 (ev_sl e81) (ev_sl e80) rfl rfl rfl rfl rfl eI_len (0 : Int) (ix_ltn hk169 rfl) rfl rfl
                            exact .inr (.inl ⟨rfl, w', hrun _ rfl, trivial, S'⟩)
                        · intro a u hB hp S
                          obtain ⟨q0, q1, q2, q3, q4, q5, q6, q7, q8, q9, q10, q11, q12, q13, q14, _⟩ := hp
                          have e68 : sl a 68 = .pointer (some ⟨g102, 2, none⟩) := q0
                          have e69 : sl a 69 = .slice B127 p125.2.2.2.length d128 := q1
                          have e70 : sl a 70 = .pointer (some ⟨g102, 0, none⟩) := q2
                          have e71 : sl a 71 = .int .i64 p125.2.1 := q3
                          have e72 : sl a 72 = .int .i64 (w64 (p125.2.1 + 2)) := q4
                          have e73 : sl a 73 = .pointer (some ⟨g102, 1, none⟩) := q5
                          have e74 : sl a 74 = .int .i64 p125.2.2.1 := q6
                          have e75 : sl a 75 = .int .i64 (w64 (p125.2.2.1 + 2)) := q7
                          have e76 : sl a 76 = .slice (slA (sl a 76)) (([-1, w64 (p125.2.1 + 2), w64 (p125.2.2.1 + 2)] : List Int).length) (([-1, w64 (p125.2.1 + 2), w64 (p125.2.2.1 + 2)] : List Int).length) := q8
                          have e77 : sl a 77 = .pointer (some ⟨g0, 0, none⟩) := q9
                          have e78 : sl a 78 = .int .i64 p167.1 := q10
                          have e79 : sl a 79 = .pointer (some ⟨adB (slA (sl a 76)), adO (slA (sl a 76)) + p167.1.toNat * 1, none⟩) := q11
                          have e80 : sl a 80 = .int .i64 (([-1, w64 (p125.2.1 + 2), w64 (p125.2.2.1 + 2)]).getD p167.1.toNat (0 : Int)) := q12
                          have e81 : sl a 81 = .pointer (some ⟨adB B127, adO B127 + ((0 : Int).toNat) * 1, none⟩) := q13
                          replace S : St w0 u (Asn.row 3 1 (.slice (slA (sl a 76)) (([-1, w64 (p125.2.1 + 2), w64 (p125.2.2.1 + 2)] : List Int).length) (([-1, w64 (p125.2.1 + 2), w64 (p125.2.2.1 + 2)] : List Int).length)) (([-1, w64 (p125.2.1 + 2), w64 (p125.2.2.1 + 2)] : List Int).length) (([-1, w64 (p125.2.1 + 2), w64 (p125.2.2.1 + 2)]).flatMap eI) :: Asn.box g0 67 #[.slice A0 x0.length c0, .int .i64 p167.2] :: Asn.row 3 1 (.slice B127 p125.2.2.2.length d128) p125.2.2.2.length ((p125.2.2.2.set ((0 : Int).toNat) (([-1, w64 (p125.2.1 + 2), w64 (p125.2.2.1 + 2)]).getD p167.1.toNat (0 : Int))).flatMap eI) :: Asn.box g102 25 #[.int .i64 p125.2.1, .int .i64 p125.2.2.1, .slice B127 p125.2.2.2.length d128] :: Asn.box g101 25 #[.int .i64 0, .int .i64 0, .slice none 0 0] :: X) := S
                          clear q0 q1 q2 q3 q4 q5 q6 q7 q8 q9 q10 q11 q12 q13 q14
                          generalize slA (sl a 76) = B170 at *
                          have hF := hF.region hB [(68, .pointer (some ⟨g102, 2, none⟩)), (69, .slice B127 p125.2.2.2.length d128), (70, .pointer (some ⟨g102, 0, none⟩)), (71, .int .i64 p125.2.1), (72, .int .i64 (w64 (p125.2.1 + 2))), (73, .pointer (some ⟨g102, 1, none⟩)), (74, .int .i64 p125.2.2.1), (75, .int .i64 (w64 (p125.2.2.1 + 2))), (76, .slice B170 (([-1, w64 (p125.2.1 + 2), w64 (p125.2.2.1 + 2)] : List Int).length) (([-1, w64 (p125.2.1 + 2), w64 (p125.2.2.1 + 2)] : List Int).length)), (77, .pointer (some ⟨g0, 0, none⟩)), (78, .int .i64 p167.1), (79, .pointer (some ⟨adB B170, adO B170 + p167.1.toNat * 1, none⟩)), (80, .int .i64 (([-1, w64 (p125.2.1 + 2), w64 (p125.2.2.1 + 2)]).getD p167.1.toNat (0 : Int))), (81, .pointer (some ⟨adB B127, adO B127 + ((0 : Int).toNat) * 1, none⟩))] (allSl_mem ⟨e68, e69, e70, e71, e72, e73, e74, e75, e76, e77, e78, e79, e80, e81, trivial⟩) rfl
                          clear hB e68 e69 e70 e71 e72 e73 e74 e75 e76 e77 e78 e79 e80 e81
                          obtain rfl := Option.some.inj hM165
                          exact ⟨(p167.2, p125.2.2.1, p125.2.2.2.set ((0 : Int).toNat) (([-1, w64 (p125.2.1 + 2), w64 (p125.2.2.1 + 2)]).getD p167.1.toNat (0 : Int))), rfl, (len_set rfl), hF.keep _ ⟨rfl, rfl, trivial⟩, S.selT (M := [.box g0 67 #[.slice A0 x0.length c0, .int .i64 p167.2], .box g102 25 #[.int .i64 p125.2.1, .int .i64 p125.2.2.1, .slice B127 p125.2.2.2.length d128], .box g101 25 #[.int .i64 0, .int .i64 0, .slice none 0 0], .row 3 1 (.slice B127 p125.2.2.2.length d128) p125.2.2.2.length ((p125.2.2.2.set ((0 : Int).toNat) (([-1, w64 (p125.2.1 + 2), w64 (p125.2.2.1 + 2)]).getD p167.1.toNat (0 : Int))).flatMap eI)]) 5 [1, 3, 4, 2] rfl rfl rfl⟩
                    · rintro a u ⟨p162, rfl, hn164, hF, S⟩
                      obtain rfl := Option.some.inj hM160
                      try rw [show p125.2.2.2.length = p162.2.2.length from hn164] at hF
                      try rw [show p125.2.2.2.length = p162.2.2.length from hn164] at S
                      exact ⟨(p162.1, p162.2.1, p162.2.2), B127, d128, rfl, hF.keep _ ⟨rfl, rfl, trivial⟩, S.selT (M := [.box g0 67 #[.slice A0 x0.length c0, .int .i64 p162.1], .box g102 25 #[.int .i64 p125.2.1, .int .i64 p162.2.1, .slice B127 p162.2.2.length d128], .box g101 25 #[.int .i64 0, .int .i64 0, .slice none 0 0], .row 3 1 (.slice B127 p162.2.2.length d128) p162.2.2.length (p162.2.2.flatMap eI)]) 4 [0, 1, 2, 3] rfl rfl rfl⟩
                  · replace hM160 := bif_t hc161 hM160
                    refine cond_t hF rfl hc161 ?_
                    refine wp_region_lit ?_
                    refine op_newrow (cs := #[]) (size := 1) rfl rfl hF rfl S (run_buildSlice0 rfl Tryd.underlying23 rfl) rfl (Nat.zero_le _) ?_; clear hF S; intro a g171 u hF S
                    refine op_val (v := .pointer (some ⟨g102, 2, none⟩)) rfl rfl hF rfl (run_fieldAddr rfl fl25_2 (hF.ev rfl) rfl) ?_; clear hF; intro a hF
                    refine op_do rfl rfl (run_store (cs' := #[.int .i64 p125.2.1, .int .i64 p125.2.2.1, .slice (some ⟨g171, 0, none⟩) 0 0]) rfl sz23 (hF.ev rfl) (hF.ev rfl) rfl rfl rfl (S.free 2 rfl) rfl rfl) ?_; replace S := S.put 2 rfl (#[.int .i64 p125.2.1, .int .i64 p125.2.2.1, .slice (some ⟨g171, 0, none⟩) 0 0])
                    generalize World.setRow _ _ _ = u at S ⊢
                    refine wpList_nil ?_
                    obtain rfl := Option.some.inj hM160
                    exact ⟨(p149.2, p125.2.2.1, ([] : List Int)), (some ⟨g171, 0, none⟩), 0, rfl, hF.keep _ ⟨rfl, rfl, trivial⟩, S.selT (M := [.box g0 67 #[.slice A0 x0.length c0, .int .i64 p149.2], .box g102 25 #[.int .i64 p125.2.1, .int .i64 p125.2.2.1, .slice (some ⟨g171, 0, none⟩) 0 0], .box g101 25 #[.int .i64 0, .int .i64 0, .slice none 0 0], .row 3 1 (.slice (some ⟨g171, 0, none⟩) 0 0) 0 (([] : List Int).flatMap eI)]) 5 [1, 2, 3, 0] rfl rfl rfl⟩
                · rintro a u ⟨p156, B158, d159, rfl, hF, S⟩
                  obtain rfl := Option.some.inj hM154
                  exact ⟨(p156.1, p125.2.1, p156.2.1, p156.2.2), B158, d159, rfl, hF.keep _ ⟨rfl, rfl, trivial⟩, S.selT (M := [.box g0 67 #[.slice A0 x0.length c0, .int .i64 p156.1], .box g102 25 #[.int .i64 p125.2.1, .int .i64 p156.2.1, .slice B158 p156.2.2.length d159], .box g101 25 #[.int .i64 0, .int .i64 0, .slice none 0 0], .row 3 1 (.slice B158 p156.2.2.length d159) p156.2.2.length (p156.2.2.flatMap eI)]) 4 [0, 1, 2, 3] rfl rfl rfl⟩
              · replace hM154 := bif_t hc155 hM154
                refine cond_t hF rfl hc155 ?_
                refine wp_region_lit ?_
                refine op_val (v := .pointer (some ⟨g102, 0, none⟩)) rfl rfl hF rfl (run_fieldAddr rfl fl25_0 (hF.ev rfl) rfl) ?_; clear hF; intro a hF
                refine op_val (v := .int .i64 p125.2.1) rfl rfl hF rfl (run_load1 rfl one3 (hF.ev rfl) ((S.free 1 rfl).cell rfl)) ?_; clear hF; intro a hF
                refine op_val (v := .int .i64 (w64 (p125.2.1 + 1))) rfl rfl hF rfl (run_add (z := w64 (p125.2.1 + 1)) (hF.ev rfl) rfl rfl rfl) ?_; clear hF; intro a hF
                refine op_val (v := .pointer (some ⟨g102, 0, none⟩)) rfl rfl hF rfl (run_fieldAddr rfl fl25_0 (hF.ev rfl) rfl) ?_; clear hF; intro a hF
                refine op_do rfl rfl (run_store (cs' := #[.int .i64 (w64 (p125.2.1 + 1)), .int .i64 p125.2.2.1, .slice B127 p125.2.2.2.length d128]) rfl sz3 (hF.ev rfl) (hF.ev rfl) rfl rfl rfl (S.free 1 rfl) rfl rfl) ?_; replace S := S.put 1 rfl (#[.int .i64 (w64 (p125.2.1 + 1)), .int .i64 p125.2.2.1, .slice B127 p125.2.2.2.length d128])
                generalize World.setRow _ _ _ = u at S ⊢
                refine wpList_nil ?_
                obtain rfl := Option.some.inj hM154
                exact ⟨(p149.2, w64 (p125.2.1 + 1), p125.2.2.1, p125.2.2.2), B127, d128, rfl, hF.keep _ ⟨rfl, rfl, trivial⟩, S.selT (M := [.box g0 67 #[.slice A0 x0.length c0, .int .i64 p149.2], .box g102 25 #[.int .i64 (w64 (p125.2.1 + 1)), .int .i64 p125.2.2.1, .slice B127 p125.2.2.2.length d128], .box g101 25 #[.int .i64 0, .int .i64 0, .slice none 0 0], .row 3 1 (.slice B127 p125.2.2.2.length d128) p125.2.2.2.length (p125.2.2.2.flatMap eI)]) 4 [0, 1, 2, 3] rfl rfl rfl⟩
            · rintro a u ⟨p150, B152, d153, rfl, hF, S⟩
              obtain rfl := Option.some.inj hM147
              exact ⟨(p150.1, p150.2.1, p150.2.2.1, p150.2.2.2), B152, d153, rfl, hF.keep _ ⟨rfl, rfl, trivial⟩, S.selT (M := [.box g0 67 #[.slice A0 x0.length c0, .int .i64 p150.1], .box g102 25 #[.int .i64 p150.2.1, .int .i64 p150.2.2.1, .slice B152 p150.2.2.2.length d153], .box g101 25 #[.int .i64 0, .int .i64 0, .slice none 0 0], .row 3 1 (.slice B152 p150.2.2.2.length d153) p150.2.2.2.length (p150.2.2.2.flatMap eI)]) 4 [0, 1, 2, 3] rfl rfl rfl⟩
        · rintro a u ⟨p143, B145, d146, rfl, hF, S⟩
          refine wp_seq ?_
          refine wp_region_lit ?_
          refine op_val (v := .agg #[.int .i64 p143.2.1, .int .i64 p143.2.2.1, .slice B145 p143.2.2.2.length d146]) rfl rfl hF rfl (run_loadN rfl ag25 (hF.ev rfl) rfl ((S.free 1 rfl).cells 0 #[.int .i64 p143.2.1, .int .i64 p143.2.2.1, .slice B145 p143.2.2.2.length d146] rfl)) ?_; clear hF; intro a hF
          refine op_do rfl rfl (run_store (cs' := #[.int .i64 p143.2.1, .int .i64 p143.2.2.1, .slice B145 p143.2.2.2.length d146]) rfl sz25 (hF.ev rfl) (hF.ev rfl) rfl rfl rfl (S.free 2 rfl) rfl rfl) ?_; replace S := S.put 2 rfl (#[.int .i64 p143.2.1, .int .i64 p143.2.2.1, .slice B145 p143.2.2.2.length d146])
          generalize World.setRow _ _ _ = u at S ⊢
          refine wpList_nil ?_
          refine wp_ret ?_
          repeat with_reducible (first | refine then_ret ?_ | refine in_ret ?_ | refine in_nrm ?_)
          refine ret1_gw (.inl rfl) hF rfl (res_cell (hF.ev rfl) (res_loadN ag25 rfl (S.cells 2 rfl 0 #[.int .i64 p143.2.1, .int .i64 p143.2.2.1, .slice B145 p143.2.2.2.length d146] rfl))) ?_
          obtain rfl := Option.some.inj hM
          exact ⟨B145, p143.2.2.2.length, d146, rfl, rfl, S.selT (M := [.row 3 1 (.slice B145 p143.2.2.2.length d146) p143.2.2.2.length (p143.2.2.2.flatMap eI), .box g0 67 #[.slice A0 x0.length c0, .int .i64 p143.1]]) 4 [3, 0] rfl rfl rfl⟩

set_option maxHeartbeats 4000000 in
theorem c_spec_DrawRoomsDo {x0 : List Int} {A0 : Option Addr} {n0 c0 : Nat} {w : World} {r : Int × Int × List Int × Int × Int × Int} (h0 : Rt w 1 eU A0 n0 c0 x0) (hM : m_spec_DrawRoomsDo x0 = some r) :
    Calls Tryd.prog 6 #[.slice A0 n0 c0] w (fun e w' => ∃ (B0 : Option Addr) (N0 D0 : Nat), e = .returned (.tuple #[.agg #[.int .i64 r.1, .int .i64 r.2.1, .slice B0 N0 D0], .agg #[.int .i64 r.2.2.2.1, .int .i64 r.2.2.2.2.1, .int .i64 r.2.2.2.2.2]]) ∧ N0 = r.2.2.1.length ∧ St w w' [.row 3 1 (.slice B0 N0 D0) N0 (r.2.2.1.flatMap eI)]) := by
  obtain rfl := h0.len
  unfold m_spec_DrawRoomsDo at hM
  refine calls_gw Tryd.func6 Tryd.ntmps6 rfl [(0, .slice A0 x0.length c0)] ⟨rfl, trivial⟩ rfl ?_
  intro a hF
  have S := St.nil w
  refine wp_seq ?_
  refine wp_region_lit ?_
  refine op_new (cs := #[.int .i64 0, .int .i64 0, .slice none 0 0]) rfl rfl hF rfl S (run_allocZ rfl zr25) ?_; clear hF S; intro a g101 u hF S
  refine op_new (cs := #[.int .i64 0, .int .i64 0, .int .i64 0]) rfl rfl hF rfl S (run_allocZ rfl zr27) ?_; clear hF S; intro a g102 u hF S
  refine wpList_nil ?_
  refine wp_seq ?_
  refine wp_region_lit ?_
  refine op_val (v := .slice A0 x0.length c0) rfl rfl hF rfl (run_move rfl (hF.ev rfl)) ?_; clear hF; intro a hF
  refine op_call rfl rfl hF rfl (run_call (vs := [.slice A0 x0.length c0]) rfl rfl co20 ⟨(hF.ev rfl), trivial⟩) (c_spec_l20Open ⟨(S.rc0 h0.rc), rfl⟩) ?_
  rintro e u ⟨g103, rfl, T⟩
  refine ⟨_, rfl, ?_⟩
  clear hF; intro a hF
  replace S := S.call1 T; clear T
  refine op_val (v := .pointer (some ⟨g103, 0, none⟩)) rfl rfl hF rfl (run_assign rfl (hF.ev rfl)) ?_; clear hF; intro a hF
  refine wpList_nil ?_
  refine wp_seq ?_
  refine wp_region_lit ?_
  refine op_val (v := .pointer (some ⟨g103, 0, none⟩)) rfl rfl hF rfl (run_move rfl (hF.ev rfl)) ?_; clear hF; intro a hF
  obtain ⟨p104, h104, hM⟩ := bind_ex hM
  refine op_call rfl rfl hF rfl (run_call (vs := [.pointer (some ⟨g103, 0, none⟩), .int .i64 9]) rfl rfl co21 ⟨(hF.ev rfl), rfl, trivial⟩) (c_spec_l20Rooms (x0 := x0.take 2000) (x1 := 0) (x2 := 9) ⟨(op_rc h0.rc rfl), rfl⟩ (show St w _ [.box g103 67 #[.slice (opA c0 x0.length A0) ((x0.take 2000).length) c0, .int .i64 0], .box g102 27 #[.int .i64 0, .int .i64 0, .int .i64 0], .box g101 25 #[.int .i64 0, .int .i64 0, .slice none 0 0]] from S.sel [0, 1, 2] rfl rfl) h104) ?_
  rintro e u ⟨B105, n106, d107, rfl, rfl, T⟩
  refine ⟨_, rfl, ?_⟩
  clear hF; intro a hF
  clear S; have S := T; clear T
  refine op_new (cs := #[.int .i64 0, .int .i64 0, .slice none 0 0]) rfl rfl hF rfl S (run_allocZ rfl zr25) ?_; clear hF S; intro a g108 u hF S
  refine op_do rfl rfl (run_store (cs' := #[.int .i64 p104.1, .int .i64 p104.2.1, .slice B105 p104.2.2.1.length d107]) rfl sz25 (hF.ev rfl) (hF.ev rfl) rfl rfl rfl (S.free 0 rfl) rfl rfl) ?_; replace S := S.put 0 rfl (#[.int .i64 p104.1, .int .i64 p104.2.1, .slice B105 p104.2.2.1.length d107])
  generalize World.setRow _ _ _ = u at S ⊢
  refine wpList_nil ?_
  refine wp_seq ?_
  obtain ⟨p109, h109, hM⟩ := bind_ex hM
  refine region_gw (D := [10, 11, 12, 13]) (Lr := [.box g108 25 #[.int .i64 p104.1, .int .i64 p104.2.1, .slice B105 p104.2.2.1.length d107]]) (deps := (fun | 0 => [10] | 1 => [11] | 2 => [12] | 3 => [13] | 4 => [2] | 5 => [3] | _ => [])) (rd := (fun _ => [])) (zr := (fun _ => []))
    (φ := fun i vs => match i, vs with | 0, [v10] => v10 = .agg #[.int .i64 p104.1, .int .i64 p104.2.1, .slice B105 p104.2.2.1.length d107] | 1, [v11] => v11 = .pointer (some ⟨g103, 0, none⟩) | 2, [v12] => v12 = .agg #[.int .i64 p104.1, .int .i64 p104.2.1, .slice B105 p104.2.2.1.length d107] | 3, [v13] => v13 = .agg #[.int .i64 p109.1, .int .i64 p109.2.1, .int .i64 p109.2.2.1] | _, _ => True)
    (C := fun i vs => match i, vs with | 3, [v13] => [.box g103 67 #[.slice (opA c0 x0.length A0) ((x0.take 2000).length) c0, .int .i64 p109.2.2.2], .row 3 1 (.slice B105 p104.2.2.1.length d107) p104.2.2.1.length (p104.2.2.1.flatMap eI)] | 4, [v2] => [.box g101 25 #[.int .i64 p104.1, .int .i64 p104.2.1, .slice B105 p104.2.2.1.length d107]] | 5, [v3] => [.box g102 27 #[.int .i64 p109.1, .int .i64 p109.2.1, .int .i64 p109.2.2.1]] | _, _ => [])
    (κ := (fun _ => none)) (Z := (fun | 3 => [.box g103 67 #[.slice (opA c0 x0.length A0) ((x0.take 2000).length) c0, .int .i64 p104.2.2.2], .row 3 1 (.slice B105 p104.2.2.1.length d107) p104.2.2.1.length (p104.2.2.1.flatMap eI)] | 4 => [.box g101 25 #[.int .i64 0, .int .i64 0, .slice none 0 0]] | 5 => [.box g102 27 #[.int .i64 0, .int .i64 0, .int .i64 0]] | _ => [])) mixed hF (by kernel_rfl) (show St w _ [.box g103 67 #[.slice (opA c0 x0.length A0) ((x0.take 2000).length) c0, .int .i64 p104.2.2.2], .row 3 1 (.slice B105 p104.2.2.1.length d107) p104.2.2.1.length (p104.2.2.1.flatMap eI), .box g101 25 #[.int .i64 0, .int .i64 0, .slice none 0 0], .box g102 27 #[.int .i64 0, .int .i64 0, .int .i64 0], .box g108 25 #[.int .i64 p104.1, .int .i64 p104.2.1, .slice B105 p104.2.2.1.length d107]] from S.sel [2, 1, 4, 3, 0] rfl rfl) ?_ ?_
  · refine ⟨?_, ?_, ?_, ?_, ?_, ?_, trivial⟩
    · intro a u X hB hu hp hr hz hl S
      replace S : St w u ([] ++ X) := S
      exact .inl ⟨rfl, .agg #[.int .i64 p104.1, .int .i64 p104.2.1, .slice B105 p104.2.2.1.length d107], u, (run_loadN rfl ag25 (hF.evB hB rfl rfl) rfl ((gr_box S hl 0 rfl).cells 0 #[.int .i64 p104.1, .int .i64 p104.2.1, .slice B105 p104.2.2.1.length d107] rfl)), rfl, S⟩
    · intro a u X hB hu hp hr hz hl S
      replace S : St w u ([] ++ X) := S
      exact .inl ⟨rfl, .pointer (some ⟨g103, 0, none⟩), u, (run_move rfl (hF.evB hB rfl rfl)), rfl, S⟩
    · intro a u X hB hu hp hr hz hl S
      replace S : St w u ([] ++ X) := S
      exact .inl ⟨rfl, .agg #[.int .i64 p104.1, .int .i64 p104.2.1, .slice B105 p104.2.2.1.length d107], u, (run_loadN rfl ag25 (hF.evB hB rfl rfl) rfl ((gr_box S hl 0 rfl).cells 0 #[.int .i64 p104.1, .int .i64 p104.2.1, .slice B105 p104.2.2.1.length d107] rfl)), rfl, S⟩
    · intro a u X hB hu hp hr hz hl S
      replace S : St w u ([.box g103 67 #[.slice (opA c0 x0.length A0) ((x0.take 2000).length) c0, .int .i64 p104.2.2.2], .row 3 1 (.slice B105 p104.2.2.1.length d107) p104.2.2.1.length (p104.2.2.1.flatMap eI)] ++ X) := S
      have e11 : sl a 11 = .pointer (some ⟨g103, 0, none⟩) := hp 1 rfl
      have e12 : sl a 12 = .agg #[.int .i64 p104.1, .int .i64 p104.2.1, .slice B105 p104.2.2.1.length d107] := hp 2 rfl
      refine .inr (.inr (.inl ⟨rfl, _, _, (run_call (vs := [.pointer (some ⟨g103, 0, none⟩), .agg #[.int .i64 p104.1, .int .i64 p104.2.1, .slice B105 p104.2.2.1.length d107]]) rfl rfl co22 ⟨(ev_sl e11), (ev_sl e12), trivial⟩), ?_⟩))
      refine Calls.mono (c_spec_l20RoomDeed (x0 := x0.take 2000) (x1 := p104.2.2.2) (x2 := p104.1) (x3 := p104.2.1) (x4 := p104.2.2.1) ⟨(op_rc h0.rc rfl), rfl⟩ rfl S h109) ?_
      rintro e w1 ⟨rfl, T⟩
      exact ⟨_, rfl, rfl, T⟩
    · intro a u X hB hu hp hr hz hl S
      replace S : St w u ([.box g101 25 #[.int .i64 0, .int .i64 0, .slice none 0 0]] ++ X) := S
      have e10 : sl a 10 = .agg #[.int .i64 p104.1, .int .i64 p104.2.1, .slice B105 p104.2.2.1.length d107] := hp 0 rfl
      exact .inr (.inl ⟨rfl, _, run_store (cs' := #[.int .i64 p104.1, .int .i64 p104.2.1, .slice B105 p104.2.2.1.length d107]) rfl sz25 (hF.evB hB rfl rfl) (ev_sl e10) rfl rfl rfl (S.free 0 rfl) rfl rfl, trivial, S.put 0 rfl (#[.int .i64 p104.1, .int .i64 p104.2.1, .slice B105 p104.2.2.1.length d107])⟩)
    · intro a u X hB hu hp hr hz hl S
      replace S : St w u ([.box g102 27 #[.int .i64 0, .int .i64 0, .int .i64 0]] ++ X) := S
      have e13 : sl a 13 = .agg #[.int .i64 p109.1, .int .i64 p109.2.1, .int .i64 p109.2.2.1] := hp 3 rfl
      exact .inr (.inl ⟨rfl, _, run_store (cs' := #[.int .i64 p109.1, .int .i64 p109.2.1, .int .i64 p109.2.2.1]) rfl sz27 (hF.evB hB rfl rfl) (ev_sl e13) rfl rfl rfl (S.free 0 rfl) rfl rfl, trivial, S.put 0 rfl (#[.int .i64 p109.1, .int .i64 p109.2.1, .int .i64 p109.2.2.1])⟩)
  · intro a u hB hp S
    obtain ⟨q0, q1, q2, q3, q4, q5, _⟩ := hp
    have e10 : sl a 10 = .agg #[.int .i64 p104.1, .int .i64 p104.2.1, .slice B105 p104.2.2.1.length d107] := q0
    have e11 : sl a 11 = .pointer (some ⟨g103, 0, none⟩) := q1
    have e12 : sl a 12 = .agg #[.int .i64 p104.1, .int .i64 p104.2.1, .slice B105 p104.2.2.1.length d107] := q2
    have e13 : sl a 13 = .agg #[.int .i64 p109.1, .int .i64 p109.2.1, .int .i64 p109.2.2.1] := q3
    replace S : St w u [.box g103 67 #[.slice (opA c0 x0.length A0) ((x0.take 2000).length) c0, .int .i64 p109.2.2.2], .row 3 1 (.slice B105 p104.2.2.1.length d107) p104.2.2.1.length (p104.2.2.1.flatMap eI), .box g101 25 #[.int .i64 p104.1, .int .i64 p104.2.1, .slice B105 p104.2.2.1.length d107], .box g102 27 #[.int .i64 p109.1, .int .i64 p109.2.1, .int .i64 p109.2.2.1], .box g108 25 #[.int .i64 p104.1, .int .i64 p104.2.1, .slice B105 p104.2.2.1.length d107]] := S
    clear q0 q1 q2 q3 q4 q5
    have hF := hF.region hB [(10, .agg #[.int .i64 p104.1, .int .i64 p104.2.1, .slice B105 p104.2.2.1.length d107]), (11, .pointer (some ⟨g103, 0, none⟩)), (12, .agg #[.int .i64 p104.1, .int .i64 p104.2.1, .slice B105 p104.2.2.1.length d107]), (13, .agg #[.int .i64 p109.1, .int .i64 p109.2.1, .int .i64 p109.2.2.1])] (allSl_mem ⟨e10, e11, e12, e13, trivial⟩) rfl
    clear hB e10 e11 e12 e13
    refine wp_ret ?_
    repeat with_reducible (first | refine then_ret ?_ | refine in_ret ?_ | refine in_nrm ?_)
    refine ret2_gw (.inl rfl) hF rfl (res_cell (hF.ev rfl) (res_loadN ag25 rfl (S.cells 2 rfl 0 #[.int .i64 p104.1, .int .i64 p104.2.1, .slice B105 p104.2.2.1.length d107] rfl))) (res_cell (hF.ev rfl) (res_loadN ag27 rfl (S.cells 3 rfl 0 #[.int .i64 p109.1, .int .i64 p109.2.1, .int .i64 p109.2.2.1] rfl))) ?_
    obtain rfl := Option.some.inj hM
    exact ⟨B105, p104.2.2.1.length, d107, rfl, rfl, S.sel [1] rfl rfl⟩

set_option maxHeartbeats 4000000 in
theorem c_impl_epochValid {x0 : Int} {w : World} {r : Bool}  (hM : m_impl_epochValid x0 = some r) :
    Calls Tryd.prog 30 #[.int .i64 x0] w (fun e w' => e = .returned (.bool r) ∧ St w w' []) := by
  unfold m_impl_epochValid at hM
  refine calls_gw Tryd.func30 Tryd.ntmps30 rfl [(0, .int .i64 x0)] ⟨rfl, trivial⟩ rfl ?_
  intro a hF
  have S := St.nil w
  refine wp_seq ?_
  refine wp_region_lit ?_
  refine op_val (v := .bool false) rfl rfl hF rfl (run_assign rfl rfl) ?_; clear hF; intro a hF
  refine wpList_nil ?_
  refine wp_seq ?_
  refine wp_region_lit ?_
  refine op_val (v := .int .i64 x0) rfl rfl hF rfl (run_move rfl (hF.ev rfl)) ?_; clear hF; intro a hF
  refine op_val (v := .bool (leB 0 x0)) rfl rfl hF rfl (run_geq (hF.ev rfl) rfl rfl) ?_; clear hF; intro a hF
  refine op_val (v := .bool (leB 0 x0)) rfl rfl hF rfl (run_move rfl (hF.ev rfl)) ?_; clear hF; intro a hF
  refine op_gv (v := .int .i64 x0) rfl rfl hF rfl (yt (gw_yield hF rfl rfl rfl)) (fun hg => (run_move rfl (hF.ev rfl))) ?_; clear hF; intro a hF
  refine op_gv (v := .bool (leB x0 99)) rfl rfl hF rfl (yt (gw_yield hF rfl rfl rfl)) (fun hg => (run_leq ((hF.ev rfl).trans (gv_t hg)) rfl rfl)) ?_; clear hF; intro a hF
  refine op_val (v := .bool ((leB 0 x0) && (leB x0 99))) rfl rfl hF rfl (run_pick_and rfl (hF.ev rfl) (fun hp => ((hF.ev rfl).trans (gv_t hp))) rfl) ?_; clear hF; intro a hF
  refine op_val (v := .bool ((leB 0 x0) && (leB x0 99))) rfl rfl hF rfl (run_assign rfl (hF.ev rfl)) ?_; clear hF; intro a hF
  refine wpList_nil ?_
  refine wp_ret ?_
  repeat with_reducible (first | refine then_ret ?_ | refine in_ret ?_ | refine in_nrm ?_)
  refine ret1_gw (.inl rfl) hF rfl (res_tmp (hF.ev rfl)) ?_
  obtain rfl := Option.some.inj hM
  exact ⟨rfl, S.sel [] rfl rfl⟩

theorem c_impl_Rooms_epoch_0 {x3 : Int} {g0 : Nat} {w : World} (y0 : (x3 == 0) = true) :
    Calls Tryd.prog 31 #[.pointer (some ⟨g0, 0, none⟩), .int .i64 x3] w (fun e w' => e = .returned (.pointer (some ⟨g0, 0, none⟩)) ∧ St w w' []) := by
  refine calls_gw Tryd.func31 Tryd.ntmps31 rfl [(0, .pointer (some ⟨g0, 0, none⟩)), (1, .int .i64 x3)] ⟨rfl, rfl, trivial⟩ rfl ?_
  intro a hF
  have S := St.nil w
  refine wp_seq ?_
  refine wp_region_lit ?_
  refine op_val (v := .pointer none) rfl rfl hF rfl (run_assign rfl rfl) ?_; clear hF; intro a hF
  refine wpList_nil ?_
  refine wp_seq ?_
  refine wp_seq ?_
  refine wp_region_lit ?_
  refine op_val (v := .int .i64 x3) rfl rfl hF rfl (run_move rfl (hF.ev rfl)) ?_; clear hF; intro a hF
  refine op_val (v := .bool (x3 == 0)) rfl rfl hF rfl (run_eql (hF.ev rfl) rfl rfl) ?_; clear hF; intro a hF
  refine wpList_nil ?_
  refine cond_t hF rfl y0 ?_
  refine wp_seq ?_
  refine wp_region_lit ?_
  refine op_val (v := .pointer (some ⟨g0, 0, none⟩)) rfl rfl hF rfl (run_move rfl (hF.ev rfl)) ?_; clear hF; intro a hF
  refine op_val (v := .pointer (some ⟨g0, 0, none⟩)) rfl rfl hF rfl (run_nilCheck rfl (hF.ev rfl)) ?_; clear hF; intro a hF
  refine op_val (v := .pointer (some ⟨g0, 0, none⟩)) rfl rfl hF rfl (run_fieldAddr rfl fl25_0 (hF.ev rfl) rfl) ?_; clear hF; intro a hF
  refine op_val (v := .pointer (some ⟨g0, 0, none⟩)) rfl rfl hF rfl (run_assign rfl (hF.ev rfl)) ?_; clear hF; intro a hF
  refine wpList_nil ?_
  refine wp_ret ?_
  repeat with_reducible (first | refine then_ret ?_ | refine in_ret ?_ | refine in_nrm ?_)
  refine ret1_gw (.inl rfl) hF rfl (res_tmp (hF.ev rfl)) ?_
  exact ⟨rfl, S⟩

theorem c_impl_Rooms_epoch_1 {x3 : Int} {g0 : Nat} {w : World} (y0 : (x3 == 0) = false) :
    Calls Tryd.prog 31 #[.pointer (some ⟨g0, 0, none⟩), .int .i64 x3] w (fun e w' => e = .returned (.pointer (some ⟨g0, 1, none⟩)) ∧ St w w' []) := by
  refine calls_gw Tryd.func31 Tryd.ntmps31 rfl [(0, .pointer (some ⟨g0, 0, none⟩)), (1, .int .i64 x3)] ⟨rfl, rfl, trivial⟩ rfl ?_
  intro a hF
  have S := St.nil w
  refine wp_seq ?_
  refine wp_region_lit ?_
  refine op_val (v := .pointer none) rfl rfl hF rfl (run_assign rfl rfl) ?_; clear hF; intro a hF
  refine wpList_nil ?_
  refine wp_seq ?_
  refine wp_seq ?_
  refine wp_region_lit ?_
  refine op_val (v := .int .i64 x3) rfl rfl hF rfl (run_move rfl (hF.ev rfl)) ?_; clear hF; intro a hF
  refine op_val (v := .bool (x3 == 0)) rfl rfl hF rfl (run_eql (hF.ev rfl) rfl rfl) ?_; clear hF; intro a hF
  refine wpList_nil ?_
  refine cond_f hF rfl y0 ?_
  refine wp_skip ?_
  refine wp_seq ?_
  refine wp_region_lit ?_
  refine op_val (v := .pointer (some ⟨g0, 0, none⟩)) rfl rfl hF rfl (run_move rfl (hF.ev rfl)) ?_; clear hF; intro a hF
  refine op_val (v := .pointer (some ⟨g0, 0, none⟩)) rfl rfl hF rfl (run_nilCheck rfl (hF.ev rfl)) ?_; clear hF; intro a hF
  refine op_val (v := .pointer (some ⟨g0, 1, none⟩)) rfl rfl hF rfl (run_fieldAddr rfl fl25_1 (hF.ev rfl) rfl) ?_; clear hF; intro a hF
  refine op_val (v := .pointer (some ⟨g0, 1, none⟩)) rfl rfl hF rfl (run_assign rfl (hF.ev rfl)) ?_; clear hF; intro a hF
  refine wpList_nil ?_
  refine wp_ret ?_
  repeat with_reducible (first | refine then_ret ?_ | refine in_ret ?_ | refine in_nrm ?_)
  refine ret1_gw (.inl rfl) hF rfl (res_tmp (hF.ev rfl)) ?_
  exact ⟨rfl, S⟩

theorem c_impl_Rooms_epoch_2 {x3 : Int} {g0 : Nat} {w : World} (y0 : (x3 == 0) = true) :
    Calls Tryd.prog 31 #[.pointer (some ⟨g0, 0, none⟩), .int .i64 x3] w (fun e w' => e = .returned (.pointer (some ⟨g0, 0, none⟩)) ∧ St w w' []) := by
  refine calls_gw Tryd.func31 Tryd.ntmps31 rfl [(0, .pointer (some ⟨g0, 0, none⟩)), (1, .int .i64 x3)] ⟨rfl, rfl, trivial⟩ rfl ?_
  intro a hF
  have S := St.nil w
  refine wp_seq ?_
  refine wp_region_lit ?_
  refine op_val (v := .pointer none) rfl rfl hF rfl (run_assign rfl rfl) ?_; clear hF; intro a hF
  refine wpList_nil ?_
  refine wp_seq ?_
  refine wp_seq ?_
  refine wp_region_lit ?_
  refine op_val (v := .int .i64 x3) rfl rfl hF rfl (run_move rfl (hF.ev rfl)) ?_; clear hF; intro a hF
  refine op_val (v := .bool (x3 == 0)) rfl rfl hF rfl (run_eql (hF.ev rfl) rfl rfl) ?_; clear hF; intro a hF
  refine wpList_nil ?_
  refine cond_t hF rfl y0 ?_
  refine wp_seq ?_
  refine wp_region_lit ?_
  refine op_val (v := .pointer (some ⟨g0, 0, none⟩)) rfl rfl hF rfl (run_move rfl (hF.ev rfl)) ?_; clear hF; intro a hF
  refine op_val (v := .pointer (some ⟨g0, 0, none⟩)) rfl rfl hF rfl (run_nilCheck rfl (hF.ev rfl)) ?_; clear hF; intro a hF
  refine op_val (v := .pointer (some ⟨g0, 0, none⟩)) rfl rfl hF rfl (run_fieldAddr rfl fl25_0 (hF.ev rfl) rfl) ?_; clear hF; intro a hF
  refine op_val (v := .pointer (some ⟨g0, 0, none⟩)) rfl rfl hF rfl (run_assign rfl (hF.ev rfl)) ?_; clear hF; intro a hF
  refine wpList_nil ?_
  refine wp_ret ?_
  repeat with_reducible (first | refine then_ret ?_ | refine in_ret ?_ | refine in_nrm ?_)
  refine ret1_gw (.inl rfl) hF rfl (res_tmp (hF.ev rfl)) ?_
  exact ⟨rfl, S⟩

set_option maxHeartbeats 4000000 in
theorem c_impl_RoomsValid {x0 : Int} {x1 : Int} {x2 : List Int} {A2 : Option Addr} {n2 c2 : Nat} {w : World} {r : Bool} (h2 : Rt w 1 eI A2 n2 c2 x2) (hM : m_impl_RoomsValid x0 x1 x2 = some r) :
    Calls Tryd.prog 10 #[.agg #[.int .i64 x0, .int .i64 x1, .slice A2 n2 c2]] w (fun e w' => e = .returned (.bool r) ∧ St w w' []) := by
  obtain rfl := h2.len
  unfold m_impl_RoomsValid at hM
  refine calls_gw Tryd.func10 Tryd.ntmps10 rfl [(0, .agg #[.int .i64 x0, .int .i64 x1, .slice A2 x2.length c2])] ⟨rfl, trivial⟩ rfl ?_
  intro a hF
  have S := St.nil w
  refine wp_seq ?_
  refine wp_region_lit ?_
  refine op_new (cs := #[.int .i64 x0, .int .i64 x1, .slice A2 x2.length c2]) rfl rfl hF rfl S (run_box rfl (hF.ev rfl) rfl) ?_; clear hF S; intro a g101 u hF S
  refine op_val (v := .bool false) rfl rfl hF rfl (run_assign rfl rfl) ?_; clear hF; intro a hF
  refine wpList_nil ?_
  refine wp_seq ?_
  refine wp_seq ?_
  refine wp_region_lit ?_
  refine op_val (v := .pointer (some ⟨g101, 0, none⟩)) rfl rfl hF rfl (run_fieldAddr rfl fl25_0 (hF.ev rfl) rfl) ?_; clear hF; intro a hF
  refine op_val (v := .int .i64 x0) rfl rfl hF rfl (run_load1 rfl one3 (hF.ev rfl) ((S.free 0 rfl).cell rfl)) ?_; clear hF; intro a hF
  obtain ⟨p102, h102, hM⟩ := bind_ex hM
  refine op_call rfl rfl hF rfl (run_call (vs := [.int .i64 x0]) rfl rfl co30 ⟨(hF.ev rfl), trivial⟩) (c_impl_epochValid (x0 := x0)  h102) ?_
  rintro e u ⟨rfl, T⟩
  refine ⟨_, rfl, ?_⟩
  clear hF; intro a hF
  replace S := S.call0 T; clear T
  refine op_val (v := .bool (!p102)) rfl rfl hF rfl (run_not rfl (hF.ev rfl)) ?_; clear hF; intro a hF
  refine op_val (v := .bool (!p102)) rfl rfl hF rfl (run_move rfl (hF.ev rfl)) ?_; clear hF; intro a hF
  refine op_gv (v := .pointer (some ⟨g101, 1, none⟩)) rfl rfl hF rfl (yf (gw_yield hF rfl rfl rfl)) (fun hg => (run_fieldAddr rfl fl25_1 (hF.ev rfl) rfl)) ?_; clear hF; intro a hF
  refine op_gv (v := .int .i64 x1) rfl rfl hF rfl (yf (gw_yield hF rfl rfl rfl)) (fun hg => (run_load1 rfl one3 ((hF.ev rfl).trans (gv_t hg)) ((S.free 0 rfl).cell rfl))) ?_; clear hF; intro a hF
  obtain ⟨p103, h103, hM⟩ := bind_ex hM
  refine op_gcall (v := .bool p103) rfl rfl hF rfl S (yf (gw_yield hF rfl rfl rfl)) (fun hg => (run_call (vs := [.int .i64 x1]) rfl rfl co30 ⟨((hF.ev rfl).trans (gv_t hg)), trivial⟩)) (fun hg => c_impl_epochValid (x0 := x1)  (gb_t h103 hg)) ?_; clear hF S; intro a u hF S
  refine op_gv (v := .bool (!p103)) rfl rfl hF rfl (yf (gw_yield hF rfl rfl rfl)) (fun hg => (run_not rfl ((hF.ev rfl).trans (gv_t hg)))) ?_; clear hF; intro a hF
  refine op_val (v := .bool ((!p102) || (!p103))) rfl rfl hF rfl (run_pick_or rfl (hF.ev rfl) rfl (fun hp => ((hF.ev rfl).trans (gv_t (not_t hp))))) ?_; clear hF; intro a hF
  refine op_val (v := .bool ((!p102) || (!p103))) rfl rfl hF rfl (run_move rfl (hF.ev rfl)) ?_; clear hF; intro a hF
  refine op_gv (v := .pointer (some ⟨g101, 0, none⟩)) rfl rfl hF rfl (yf (gw_yield hF rfl rfl rfl)) (fun hg => (run_fieldAddr rfl fl25_0 (hF.ev rfl) rfl)) ?_; clear hF; intro a hF
  refine op_gv (v := .int .i64 x0) rfl rfl hF rfl (yf (gw_yield hF rfl rfl rfl)) (fun hg => (run_load1 rfl one3 ((hF.ev rfl).trans (gv_t hg)) ((S.free 0 rfl).cell rfl))) ?_; clear hF; intro a hF
  refine op_gv (v := .int .i64 (Int.tmod x0 2)) rfl rfl hF rfl (yf (gw_yield hF rfl rfl rfl)) (fun hg => (run_rem (z := Int.tmod x0 2) ((hF.ev rfl).trans (gv_t hg)) rfl rfl (by decide) rfl)) ?_; clear hF; intro a hF
  refine op_gv (v := .bool ((Int.tmod x0 2) != 0)) rfl rfl hF rfl (yf (gw_yield hF rfl rfl rfl)) (fun hg => (run_neq ((hF.ev rfl).trans (gv_t hg)) rfl rfl)) ?_; clear hF; intro a hF
  refine op_val (v := .bool (((!p102) || (!p103)) || ((Int.tmod x0 2) != 0))) rfl rfl hF rfl (run_pick_or rfl (hF.ev rfl) rfl (fun hp => ((hF.ev rfl).trans (gv_t (not_t hp))))) ?_; clear hF; intro a hF
  refine op_val (v := .bool (((!p102) || (!p103)) || ((Int.tmod x0 2) != 0))) rfl rfl hF rfl (run_move rfl (hF.ev rfl)) ?_; clear hF; intro a hF
  refine op_gv (v := .pointer (some ⟨g101, 1, none⟩)) rfl rfl hF rfl (yf (gw_yield hF rfl rfl rfl)) (fun hg => (run_fieldAddr rfl fl25_1 (hF.ev rfl) rfl)) ?_; clear hF; intro a hF
  refine op_gv (v := .int .i64 x1) rfl rfl hF rfl (yf (gw_yield hF rfl rfl rfl)) (fun hg => (run_load1 rfl one3 ((hF.ev rfl).trans (gv_t hg)) ((S.free 0 rfl).cell rfl))) ?_; clear hF; intro a hF
  refine op_gv (v := .int .i64 (Int.tmod x1 2)) rfl rfl hF rfl (yf (gw_yield hF rfl rfl rfl)) (fun hg => (run_rem (z := Int.tmod x1 2) ((hF.ev rfl).trans (gv_t hg)) rfl rfl (by decide) rfl)) ?_; clear hF; intro a hF
  refine op_gv (v := .bool ((Int.tmod x1 2) != 1)) rfl rfl hF rfl (yf (gw_yield hF rfl rfl rfl)) (fun hg => (run_neq ((hF.ev rfl).trans (gv_t hg)) rfl rfl)) ?_; clear hF; intro a hF
  refine op_val (v := .bool ((((!p102) || (!p103)) || ((Int.tmod x0 2) != 0)) || ((Int.tmod x1 2) != 1))) rfl rfl hF rfl (run_pick_or rfl (hF.ev rfl) rfl (fun hp => ((hF.ev rfl).trans (gv_t (not_t hp))))) ?_; clear hF; intro a hF
  refine op_val (v := .bool ((((!p102) || (!p103)) || ((Int.tmod x0 2) != 0)) || ((Int.tmod x1 2) != 1))) rfl rfl hF rfl (run_move rfl (hF.ev rfl)) ?_; clear hF; intro a hF
  refine op_gv (v := .pointer (some ⟨g101, 2, none⟩)) rfl rfl hF rfl (yf (gw_yield hF rfl rfl rfl)) (fun hg => (run_fieldAddr rfl fl25_2 (hF.ev rfl) rfl)) ?_; clear hF; intro a hF
  refine op_gv (v := .slice A2 x2.length c2) rfl rfl hF rfl (yf (gw_yield hF rfl rfl rfl)) (fun hg => (run_load1 rfl one23 ((hF.ev rfl).trans (gv_t hg)) ((S.free 0 rfl).cell rfl))) ?_; clear hF; intro a hF
  refine op_gv (v := .int .i64 (x2.length : Int)) rfl rfl hF rfl (yf (gw_yield hF rfl rfl rfl)) (fun hg => (run_lenL rfl rfl Tryd.underlying23 ((hF.ev rfl).trans (gv_t hg)))) ?_; clear hF; intro a hF
  refine op_gv (v := .bool (ltB (x2.length : Int) 1)) rfl rfl hF rfl (yf (gw_yield hF rfl rfl rfl)) (fun hg => (run_lss ((hF.ev rfl).trans (gv_t hg)) rfl rfl)) ?_; clear hF; intro a hF
  refine op_val (v := .bool (((((!p102) || (!p103)) || ((Int.tmod x0 2) != 0)) || ((Int.tmod x1 2) != 1)) || (ltB (x2.length : Int) 1))) rfl rfl hF rfl (run_pick_or rfl (hF.ev rfl) rfl (fun hp => ((hF.ev rfl).trans (gv_t (not_t hp))))) ?_; clear hF; intro a hF
  refine op_val (v := .bool (((((!p102) || (!p103)) || ((Int.tmod x0 2) != 0)) || ((Int.tmod x1 2) != 1)) || (ltB (x2.length : Int) 1))) rfl rfl hF rfl (run_move rfl (hF.ev rfl)) ?_; clear hF; intro a hF
  refine op_gv (v := .pointer (some ⟨g101, 2, none⟩)) rfl rfl hF rfl (yf (gw_yield hF rfl rfl rfl)) (fun hg => (run_fieldAddr rfl fl25_2 (hF.ev rfl) rfl)) ?_; clear hF; intro a hF
  refine op_gv (v := .slice A2 x2.length c2) rfl rfl hF rfl (yf (gw_yield hF rfl rfl rfl)) (fun hg => (run_load1 rfl one23 ((hF.ev rfl).trans (gv_t hg)) ((S.free 0 rfl).cell rfl))) ?_; clear hF; intro a hF
  refine op_gv (v := .int .i64 (x2.length : Int)) rfl rfl hF rfl (yf (gw_yield hF rfl rfl rfl)) (fun hg => (run_lenL rfl rfl Tryd.underlying23 ((hF.ev rfl).trans (gv_t hg)))) ?_; clear hF; intro a hF
  refine op_gv (v := .bool (ltB 5 (x2.length : Int))) rfl rfl hF rfl (yf (gw_yield hF rfl rfl rfl)) (fun hg => (run_gtr ((hF.ev rfl).trans (gv_t hg)) rfl rfl)) ?_; clear hF; intro a hF
  refine op_val (v := .bool ((((((!p102) || (!p103)) || ((Int.tmod x0 2) != 0)) || ((Int.tmod x1 2) != 1)) || (ltB (x2.length : Int) 1)) || (ltB 5 (x2.length : Int)))) rfl rfl hF rfl (run_pick_or rfl (hF.ev rfl) rfl (fun hp => ((hF.ev rfl).trans (gv_t (not_t hp))))) ?_; clear hF; intro a hF
  refine wpList_nil ?_
  cases hc104 : ((((((!p102) || (!p103)) || ((Int.tmod x0 2) != 0)) || ((Int.tmod x1 2) != 1)) || (ltB (x2.length : Int) 1)) || (ltB 5 (x2.length : Int)))
  · replace hM := bif_f hc104 hM
    refine cond_f hF rfl hc104 ?_
    refine wp_skip ?_
    refine wp_seq ?_
    refine wp_seq ?_
    refine wp_region_lit ?_
    refine op_val (v := .pointer (some ⟨g101, 2, none⟩)) rfl rfl hF rfl (run_fieldAddr rfl fl25_2 (hF.ev rfl) rfl) ?_; clear hF; intro a hF
    refine op_val (v := .slice A2 x2.length c2) rfl rfl hF rfl (run_load1 rfl one23 (hF.ev rfl) ((S.free 0 rfl).cell rfl)) ?_; clear hF; intro a hF
    refine op_val (v := .int .i64 (x2.length : Int)) rfl rfl hF rfl (run_lenL rfl rfl Tryd.underlying23 (hF.ev rfl)) ?_; clear hF; intro a hF
    refine op_val (v := .int .i64 0) rfl rfl hF rfl (run_move rfl rfl) ?_; clear hF; intro a hF
    refine wpList_nil ?_
    obtain ⟨o106, hM107, hM⟩ := bind_ex hM
    refine wp_cut (fun a u => ∃ (p105 : Unit), (Sum.inl p105) = o106 ∧ Fr a 58 [(2, .bool false)] ∧ St w u [.box g101 25 #[.int .i64 x0, .int .i64 x1, .slice A2 x2.length c2]]) ?_ ?_
    · have _ := trivial
      refine wp_block ?_
      refine loop_gw (fun m a u => ∃ (p108 : Int), m_impl_RoomsValid_l1 x0 x1 x2 m p108 = some _ ∧ Fr a 58 [(1, .pointer (some ⟨g101, 0, none⟩)), (2, .bool false), (40, .slice A2 x2.length c2), (41, .int .i64 (x2.length : Int)), (42, .int .i64 p108)] ∧ St w u [.box g101 25 #[.int .i64 x0, .int .i64 x1, .slice A2 x2.length c2]]) FUEL ⟨0, hM107, hF.keep _ ⟨rfl, rfl, rfl, rfl, rfl, trivial⟩, S.sel [0] rfl rfl⟩ ?_
      clear hF S hM107; rintro m a u ⟨p108, hM107, hF, S⟩
      rcases m with _ | f1
      · exact none_some hM107
      rw [m_impl_RoomsValid_l1.eq_2] at hM107
      refine wp_seq ?_
      refine wp_region_lit ?_
      refine op_val (v := .bool (ltB p108 (x2.length : Int))) rfl rfl hF rfl (run_lss (hF.ev rfl) (hF.ev rfl) rfl) ?_; clear hF; intro a hF
      refine wpList_nil ?_
      refine wp_seq ?_
      cases hc109 : (ltB p108 (x2.length : Int))
      · replace hM107 := bif_f hc109 hM107
        refine cond_f hF rfl hc109 ?_
        refine wp_exit ?_
        repeat with_reducible (first | refine then_exit ?_ | refine in_hit ?_ | refine in_miss rfl ?_)
        obtain rfl := Option.some.inj hM107
        exact ⟨(), rfl, hF.keep _ ⟨rfl, trivial⟩, S.sel [0] rfl rfl⟩
      · replace hM107 := bif_t hc109 hM107
        refine cond_t hF rfl hc109 ?_
        refine wp_skip ?_
        refine wp_seq ?_
        refine wp_block ?_
        refine wp_seq ?_
        refine wp_region_lit ?_
        obtain ⟨hk110, hM107⟩ := chk_ex hM107
        replace hk110 := ixB_t hk110
        refine op_val (v := .pointer (some ⟨adB A2, adO A2 + p108.toNat * 1, none⟩)) rfl rfl hF rfl (run_indexAddr (b := adB A2) (off := adO A2) rfl Tryd.underlying23 sz3 ((hF.ev rfl).trans (congrArg (fun A => Value.slice A x2.length c2) ((S.rc0 h2.rc).rd.ad (ix_pos hk110)))) (hF.ev rfl) hk110.1 hk110.2 (k' := adO A2 + p108.toNat * 1) rfl) ?_; clear hF; intro a hF
        refine op_val (v := .int .i64 (x2.getD p108.toNat (0 : Int))) rfl rfl hF rfl (run_load1 rfl one3 (hF.ev rfl) (rd_el0 (l := x2) (S.rc0 h2.rc).rd rfl eI_len (0 : Int) (ix_ltn hk110 rfl) rfl)) ?_; clear hF; intro a hF
        refine op_val (v := .int .i64 (x2.getD p108.toNat (0 : Int))) rfl rfl hF rfl (run_assign rfl (hF.ev rfl)) ?_; clear hF; intro a hF
        refine wpList_nil ?_
        refine wp_seq ?_
        obtain ⟨o112, hM113, hM107⟩ := bind_ex hM107
        refine wp_cut (fun a u => ∃ (p111 : Bool), p111 = o112 ∧ Fr a 58 [(1, .pointer (some ⟨g101, 0, none⟩)), (2, .bool false), (40, .slice A2 x2.length c2), (41, .int .i64 (x2.length : Int)), (42, .int .i64 p108), (56, .bool p111)] ∧ St w u [.box g101 25 #[.int .i64 x0, .int .i64 x1, .slice A2 x2.length c2]]) ?_ ?_
        · have _ := trivial
          refine wp_region_lit ?_
          refine op_val (v := .int .i64 (x2.getD p108.toNat (0 : Int))) rfl rfl hF rfl (run_move rfl (hF.ev rfl)) ?_; clear hF; intro a hF
          refine op_val (v := .bool (ltB (x2.getD p108.toNat (0 : Int)) 0)) rfl rfl hF rfl (run_lss (hF.ev rfl) rfl rfl) ?_; clear hF; intro a hF
          refine op_val (v := .bool (ltB (x2.getD p108.toNat (0 : Int)) 0)) rfl rfl hF rfl (run_move rfl (hF.ev rfl)) ?_; clear hF; intro a hF
          refine op_gv (v := .int .i64 (x2.getD p108.toNat (0 : Int))) rfl rfl hF rfl (yf (gw_yield hF rfl rfl rfl)) (fun hg => (run_move rfl (hF.ev rfl))) ?_; clear hF; intro a hF
          refine op_gv (v := .int .i64 (x2.getD p108.toNat (0 : Int))) rfl rfl hF rfl (yf (gw_yield hF rfl rfl rfl)) (fun hg => (run_move rfl (hF.ev rfl))) ?_; clear hF; intro a hF
          refine op_gv (v := .int .i64 (Int.tmod (x2.getD p108.toNat (0 : Int)) 2)) rfl rfl hF rfl (yf (gw_yield hF rfl rfl rfl)) (fun hg => (run_rem (z := Int.tmod (x2.getD p108.toNat (0 : Int)) 2) ((hF.ev rfl).trans (gv_t hg)) rfl rfl (by decide) rfl)) ?_; clear hF; intro a hF
          cases hc114 : (ltB (x2.getD p108.toNat (0 : Int)) 0)
          · replace hM113 := bif_f hc114 hM113
            refine op_guarded rfl ((gw_yield hF rfl rfl rfl).trans (congrArg some hc114)) ?_
            cases hc115 : ((Int.tmod (x2.getD p108.toNat (0 : Int)) 2) == 0)
            · replace hM113 := bif_f hc115 hM113
              refine op_call rfl rfl hF rfl (run_call (vs := [.pointer (some ⟨g101, 0, none⟩), .int .i64 (Int.tmod (x2.getD p108.toNat (0 : Int)) 2)]) rfl rfl co31 ⟨(hF.ev rfl), ((hF.ev rfl).trans (gv_t (not_t hc114))), trivial⟩) (c_impl_Rooms_epoch_1 hc115) ?_
              rintro e u ⟨rfl, T⟩
              refine ⟨_, rfl, ?_⟩
              clear hF; intro a hF
              replace S := S.call0 T; clear T
              refine op_guarded rfl ((gw_yield hF rfl rfl rfl).trans (congrArg some hc114)) ?_
              refine op_val (v := .pointer (some ⟨g101, 1, none⟩)) rfl rfl hF rfl (run_nilCheck rfl (hF.ev rfl)) ?_; clear hF; intro a hF
              refine op_guarded rfl ((gw_yield hF rfl rfl rfl).trans (congrArg some hc114)) ?_
              refine op_val (v := .int .i64 x1) rfl rfl hF rfl (run_load1 rfl one3 (hF.ev rfl) ((S.free 0 rfl).cell rfl)) ?_; clear hF; intro a hF
              refine op_guarded rfl ((gw_yield hF rfl rfl rfl).trans (congrArg some hc114)) ?_
              refine op_val (v := .bool (ltB x1 (x2.getD p108.toNat (0 : Int)))) rfl rfl hF rfl (run_gtr ((hF.ev rfl).trans (gv_t (not_t hc114))) (hF.ev rfl) rfl) ?_; clear hF; intro a hF
              refine op_val (v := .bool (ltB x1 (x2.getD p108.toNat (0 : Int)))) rfl rfl hF rfl (run_pick_f rfl (hF.ev rfl) hc114 (hF.ev rfl)) ?_; clear hF; intro a hF
              refine wpList_nil ?_
              obtain rfl := Option.some.inj hM113
              exact ⟨ltB x1 (x2.getD p108.toNat (0 : Int)), rfl, hF.keep _ ⟨rfl, rfl, rfl, rfl, rfl, rfl, trivial⟩, S.sel [0] rfl rfl⟩
            · replace hM113 := bif_t hc115 hM113
              refine op_call rfl rfl hF rfl (run_call (vs := [.pointer (some ⟨g101, 0, none⟩), .int .i64 (Int.tmod (x2.getD p108.toNat (0 : Int)) 2)]) rfl rfl co31 ⟨(hF.ev rfl), ((hF.ev rfl).trans (gv_t (not_t hc114))), trivial⟩) (c_impl_Rooms_epoch_0 hc115) ?_
              rintro e u ⟨rfl, T⟩
              refine ⟨_, rfl, ?_⟩
              clear hF; intro a hF
              replace S := S.call0 T; clear T
              refine op_guarded rfl ((gw_yield hF rfl rfl rfl).trans (congrArg some hc114)) ?_
              refine op_val (v := .pointer (some ⟨g101, 0, none⟩)) rfl rfl hF rfl (run_nilCheck rfl (hF.ev rfl)) ?_; clear hF; intro a hF
              refine op_guarded rfl ((gw_yield hF rfl rfl rfl).trans (congrArg some hc114)) ?_
              refine op_val (v := .int .i64 x0) rfl rfl hF rfl (run_load1 rfl one3 (hF.ev rfl) ((S.free 0 rfl).cell rfl)) ?_; clear hF; intro a hF
              refine op_guarded rfl ((gw_yield hF rfl rfl rfl).trans (congrArg some hc114)) ?_
              refine op_val (v := .bool (ltB x0 (x2.getD p108.toNat (0 : Int)))) rfl rfl hF rfl (run_gtr ((hF.ev rfl).trans (gv_t (not_t hc114))) (hF.ev rfl) rfl) ?_; clear hF; intro a hF
              refine op_val (v := .bool (ltB x0 (x2.getD p108.toNat (0 : Int)))) rfl rfl hF rfl (run_pick_f rfl (hF.ev rfl) hc114 (hF.ev rfl)) ?_; clear hF; intro a hF
              refine wpList_nil ?_
              obtain rfl := Option.some.inj hM113
              exact ⟨ltB x0 (x2.getD p108.toNat (0 : Int)), rfl, hF.keep _ ⟨rfl, rfl, rfl, rfl, rfl, rfl, trivial⟩, S.sel [0] rfl rfl⟩
          · replace hM113 := bif_t hc114 hM113
            refine op_skipped rfl ((gw_yield hF rfl rfl rfl).trans (congrArg some hc114)) rfl rfl hF rfl ?_; clear hF; intro a hF
            refine op_skipped rfl ((gw_yield hF rfl rfl rfl).trans (congrArg some hc114)) rfl rfl hF rfl ?_; clear hF; intro a hF
            refine op_skipped rfl ((gw_yield hF rfl rfl rfl).trans (congrArg some hc114)) rfl rfl hF rfl ?_; clear hF; intro a hF
            refine op_skipped rfl ((gw_yield hF rfl rfl rfl).trans (congrArg some hc114)) rfl rfl hF rfl ?_; clear hF; intro a hF
            refine op_val (v := .bool true) rfl rfl hF rfl (run_pick_t rfl (hF.ev rfl) hc114 rfl) ?_; clear hF; intro a hF
            refine wpList_nil ?_
            obtain rfl := Option.some.inj hM113
            exact ⟨true, rfl, hF.keep _ ⟨rfl, rfl, rfl, rfl, rfl, rfl, trivial⟩, S.sel [0] rfl rfl⟩
        · rintro a u ⟨p111, rfl, hF, S⟩
          cases hc116 : (p111)
          · replace hM107 := bif_f hc116 hM107
            refine cond_f hF rfl hc116 ?_
            refine wp_skip ?_
            refine wp_region_lit ?_
            refine op_val (v := .int .i64 (w64 (p108 + 1))) rfl rfl hF rfl (run_add (z := w64 (p108 + 1)) (hF.ev rfl) rfl rfl rfl) ?_; clear hF; intro a hF
            refine op_val (v := .int .i64 (w64 (p108 + 1))) rfl rfl hF rfl (run_move rfl (hF.ev rfl)) ?_; clear hF; intro a hF
            refine wpList_nil ?_
            exact ⟨f1, Nat.lt_succ_self _, w64 (p108 + 1), hM107, hF.keep _ ⟨rfl, rfl, rfl, rfl, rfl, trivial⟩, S.sel [0] rfl rfl⟩
          · replace hM107 := bif_t hc116 hM107
            refine cond_t hF rfl hc116 ?_
            refine wp_seq ?_
            refine wp_region_lit ?_
            refine op_val (v := .bool false) rfl rfl hF rfl (run_assign rfl rfl) ?_; clear hF; intro a hF
            refine wpList_nil ?_
            refine wp_ret ?_
            repeat with_reducible (first | refine then_ret ?_ | refine in_ret ?_ | refine in_nrm ?_)
            refine ret1_gw (.inl rfl) hF rfl (res_tmp (hF.ev rfl)) ?_
            obtain rfl := Option.some.inj hM107
            obtain rfl := Option.some.inj hM
            exact ⟨rfl, S.sel [] rfl rfl⟩
    · rintro a u ⟨p105, rfl, hF, S⟩
      replace hM := elim_l hM
      refine wp_seq ?_
      refine wp_region_lit ?_
      refine op_val (v := .bool true) rfl rfl hF rfl (run_assign rfl rfl) ?_; clear hF; intro a hF
      refine wpList_nil ?_
      refine wp_ret ?_
      repeat with_reducible (first | refine then_ret ?_ | refine in_ret ?_ | refine in_nrm ?_)
      refine ret1_gw (.inl rfl) hF rfl (res_tmp (hF.ev rfl)) ?_
      obtain rfl := Option.some.inj hM
      exact ⟨rfl, S.sel [] rfl rfl⟩
  · replace hM := bif_t hc104 hM
    refine cond_t hF rfl hc104 ?_
    refine wp_seq ?_
    refine wp_region_lit ?_
    refine op_val (v := .bool false) rfl rfl hF rfl (run_assign rfl rfl) ?_; clear hF; intro a hF
    refine wpList_nil ?_
    refine wp_ret ?_
    repeat with_reducible (first | refine then_ret ?_ | refine in_ret ?_ | refine in_nrm ?_)
    refine ret1_gw (.inl rfl) hF rfl (res_tmp (hF.ev rfl)) ?_
    obtain rfl := Option.some.inj hM
    exact ⟨rfl, S.sel [] rfl rfl⟩

set_option maxHeartbeats 4000000 in
theorem c_slices_Clone_int_int {x0 : List Int} {A0 : Option Addr} {n0 c0 : Nat} {w : World} {r : List Int} (h0 : Rt w 1 eI A0 n0 c0 x0) (hM : m_slices_Clone_int_int x0 = some r) :
    Calls Tryd.prog 36 #[.slice A0 n0 c0] w (fun e w' => ∃ (B0 : Option Addr) (N0 D0 : Nat), e = .returned (.slice B0 N0 D0) ∧ N0 = r.length ∧ St w w' [.row 3 1 (.slice B0 N0 D0) N0 (r.flatMap eI)]) := by
  obtain rfl := h0.len
  unfold m_slices_Clone_int_int at hM
  obtain ⟨hk, hM⟩ := chk_ex hM
  replace hk := apB_t hk
  obtain rfl := Option.some.inj hM
  refine calls_gw Tryd.func36 Tryd.ntmps36 rfl [(0, .slice A0 x0.length c0)] ⟨rfl, trivial⟩ rfl ?_
  intro a hF
  have S := St.nil w
  refine wp_seq ?_
  refine wp_region_lit ?_
  refine op_val (v := .slice none 0 0) rfl rfl hF rfl (run_assign rfl rfl) ?_; clear hF; intro a hF
  refine wpList_nil ?_
  refine wp_seq ?_
  refine wp_seq ?_
  refine wp_region_lit ?_
  refine op_val (v := .slice A0 x0.length c0) rfl rfl hF rfl (run_move rfl (hF.ev rfl)) ?_; clear hF; intro a hF
  refine op_val (v := .bool (Option.isNone A0)) rfl rfl hF rfl (run_eqlNil rfl Tryd.underlying23 (hF.ev rfl) rfl) ?_; clear hF; intro a hF
  refine wpList_nil ?_
  cases hc101 : (Option.isNone A0)
  · have hx := trivial
    refine cond_f hF rfl hc101 ?_
    refine wp_skip ?_
    refine wp_seq ?_
    refine wp_region_lit ?_
    refine op_newrow (cs := #[]) (size := 1) rfl rfl hF rfl S (run_buildSlice0 rfl Tryd.underlying23 rfl) rfl (Nat.zero_le _) ?_; clear hF S; intro a g102 u hF S
    refine op_val (v := .slice A0 x0.length c0) rfl rfl hF rfl (run_move rfl (hF.ev rfl)) ?_; clear hF; intro a hF
    have hk105 := hk
    refine op_appendL (lx := []) (ly := x0) rfl rfl hF rfl S rfl (hF.ev rfl) (hF.ev rfl) (i := 0) rfl rfl Tryd.underlying23 inf3 rfl (by decide) (S.rc0 h0.rc).rd rfl eI_one hk105 (by decide) ?_; clear hF S; intro a B103 d104 u hF S
    refine op_val (v := .slice B103 (([] ++ x0).length) d104) rfl rfl hF rfl (run_assign rfl (hF.ev rfl)) ?_; clear hF; intro a hF
    refine wpList_nil ?_
    refine wp_ret ?_
    repeat with_reducible (first | refine then_ret ?_ | refine in_ret ?_ | refine in_nrm ?_)
    refine ret1_gw (.inl rfl) hF rfl (res_tmp (hF.ev rfl)) ?_
    exact ⟨B103, (([] ++ x0).length), d104, rfl, rfl, S.sel [0] rfl rfl⟩
  · have hx := nil_none h0.rc.rd rfl hc101
    refine cond_t hF rfl hc101 ?_
    refine wp_seq ?_
    refine wp_region_lit ?_
    refine op_val (v := .slice none 0 0) rfl rfl hF rfl (run_assign rfl rfl) ?_; clear hF; intro a hF
    refine wpList_nil ?_
    refine wp_ret ?_
    repeat with_reducible (first | refine then_ret ?_ | refine in_ret ?_ | refine in_nrm ?_)
    refine ret1_gw (.inl rfl) hF rfl (res_tmp (hF.ev rfl)) ?_
    subst hx
    replace S := S.nilrow 3 1
    exact ⟨none, 0, 0, rfl, rfl, S.sel [0] rfl rfl⟩

set_option maxHeartbeats 4000000 in
theorem c_impl_Rooms_clone {x0 : Int} {x1 : Int} {x2 : List Int} {A2 : Option Addr} {n2 c2 : Nat} {w : World} {r : Int × Int × List Int} (h2 : Rt w 1 eI A2 n2 c2 x2) (hM : m_impl_Rooms_clone x0 x1 x2 = some r) :
    Calls Tryd.prog 23 #[.agg #[.int .i64 x0, .int .i64 x1, .slice A2 n2 c2]] w (fun e w' => ∃ (B0 : Option Addr) (N0 D0 : Nat), e = .returned (.agg #[.int .i64 r.1, .int .i64 r.2.1, .slice B0 N0 D0]) ∧ N0 = r.2.2.length ∧ St w w' [.row 3 1 (.slice B0 N0 D0) N0 (r.2.2.flatMap eI)]) := by
  obtain rfl := h2.len
  unfold m_impl_Rooms_clone at hM
  refine calls_gw Tryd.func23 Tryd.ntmps23 rfl [(0, .agg #[.int .i64 x0, .int .i64 x1, .slice A2 x2.length c2])] ⟨rfl, trivial⟩ rfl ?_
  intro a hF
  have S := St.nil w
  refine wp_seq ?_
  refine wp_region_lit ?_
  refine op_new (cs := #[.int .i64 x0, .int .i64 x1, .slice A2 x2.length c2]) rfl rfl hF rfl S (run_box rfl (hF.ev rfl) rfl) ?_; clear hF S; intro a g101 u hF S
  refine op_new (cs := #[.int .i64 0, .int .i64 0, .slice none 0 0]) rfl rfl hF rfl S (run_allocZ rfl zr25) ?_; clear hF S; intro a g102 u hF S
  refine wpList_nil ?_
  refine wp_seq ?_
  refine wp_region_lit ?_
  refine op_val (v := .pointer (some ⟨g101, 2, none⟩)) rfl rfl hF rfl (run_fieldAddr rfl fl25_2 (hF.ev rfl) rfl) ?_; clear hF; intro a hF
  refine op_val (v := .slice A2 x2.length c2) rfl rfl hF rfl (run_load1 rfl one23 (hF.ev rfl) ((S.free 1 rfl).cell rfl)) ?_; clear hF; intro a hF
  obtain ⟨p103, h103, hM⟩ := bind_ex hM
  refine op_call rfl rfl hF rfl (run_call (vs := [.slice A2 x2.length c2]) rfl rfl co36 ⟨(hF.ev rfl), trivial⟩) (c_slices_Clone_int_int (x0 := x2) ⟨(S.rc0 h2.rc), rfl⟩ h103) ?_
  rintro e u ⟨B104, n105, d106, rfl, rfl, T⟩
  refine ⟨_, rfl, ?_⟩
  clear hF; intro a hF
  replace S := S.call1 T; clear T
  refine op_val (v := .pointer (some ⟨g101, 2, none⟩)) rfl rfl hF rfl (run_fieldAddr rfl fl25_2 (hF.ev rfl) rfl) ?_; clear hF; intro a hF
  refine op_do rfl rfl (run_store (cs' := #[.int .i64 x0, .int .i64 x1, .slice B104 p103.length d106]) rfl sz23 (hF.ev rfl) (hF.ev rfl) rfl rfl rfl (S.free 2 rfl) rfl rfl) ?_; replace S := S.put 2 rfl (#[.int .i64 x0, .int .i64 x1, .slice B104 p103.length d106])
  generalize World.setRow _ _ _ = u at S ⊢
  refine wpList_nil ?_
  refine wp_seq ?_
  refine wp_region_lit ?_
  refine op_val (v := .agg #[.int .i64 x0, .int .i64 x1, .slice B104 p103.length d106]) rfl rfl hF rfl (run_loadN rfl ag25 (hF.ev rfl) rfl ((S.free 2 rfl).cells 0 #[.int .i64 x0, .int .i64 x1, .slice B104 p103.length d106] rfl)) ?_; clear hF; intro a hF
  refine op_do rfl rfl (run_store (cs' := #[.int .i64 x0, .int .i64 x1, .slice B104 p103.length d106]) rfl sz25 (hF.ev rfl) (hF.ev rfl) rfl rfl rfl (S.free 1 rfl) rfl rfl) ?_; replace S := S.put 1 rfl (#[.int .i64 x0, .int .i64 x1, .slice B104 p103.length d106])
  generalize World.setRow _ _ _ = u at S ⊢
  refine wpList_nil ?_
  refine wp_ret ?_
  repeat with_reducible (first | refine then_ret ?_ | refine in_ret ?_ | refine in_nrm ?_)
  refine ret1_gw (.inl rfl) hF rfl (res_cell (hF.ev rfl) (res_loadN ag25 rfl (S.cells 1 rfl 0 #[.int .i64 x0, .int .i64 x1, .slice B104 p103.length d106] rfl))) ?_
  obtain rfl := Option.some.inj hM
  exact ⟨B104, p103.length, d106, rfl, rfl, S.sel [0] rfl rfl⟩

set_option maxHeartbeats 4000000 in
theorem c_impl_bitValid {x0 : Int} {w : World} {r : Bool}  (hM : m_impl_bitValid x0 = some r) :
    Calls Tryd.prog 24 #[.int .i64 x0] w (fun e w' => e = .returned (.bool r) ∧ St w w' []) := by
  unfold m_impl_bitValid at hM
  refine calls_gw Tryd.func24 Tryd.ntmps24 rfl [(0, .int .i64 x0)] ⟨rfl, trivial⟩ rfl ?_
  intro a hF
  have S := St.nil w
  refine wp_seq ?_
  refine wp_region_lit ?_
  refine op_val (v := .bool false) rfl rfl hF rfl (run_assign rfl rfl) ?_; clear hF; intro a hF
  refine wpList_nil ?_
  refine wp_seq ?_
  refine wp_region_lit ?_
  refine op_val (v := .int .i64 x0) rfl rfl hF rfl (run_move rfl (hF.ev rfl)) ?_; clear hF; intro a hF
  refine op_val (v := .bool (x0 == 0)) rfl rfl hF rfl (run_eql (hF.ev rfl) rfl rfl) ?_; clear hF; intro a hF
  refine op_val (v := .bool (x0 == 0)) rfl rfl hF rfl (run_move rfl (hF.ev rfl)) ?_; clear hF; intro a hF
  refine op_gv (v := .int .i64 x0) rfl rfl hF rfl (yf (gw_yield hF rfl rfl rfl)) (fun hg => (run_move rfl (hF.ev rfl))) ?_; clear hF; intro a hF
  refine op_gv (v := .bool (x0 == 1)) rfl rfl hF rfl (yf (gw_yield hF rfl rfl rfl)) (fun hg => (run_eql ((hF.ev rfl).trans (gv_t hg)) rfl rfl)) ?_; clear hF; intro a hF
  refine op_val (v := .bool ((x0 == 0) || (x0 == 1))) rfl rfl hF rfl (run_pick_or rfl (hF.ev rfl) rfl (fun hp => ((hF.ev rfl).trans (gv_t (not_t hp))))) ?_; clear hF; intro a hF
  refine op_val (v := .bool ((x0 == 0) || (x0 == 1))) rfl rfl hF rfl (run_assign rfl (hF.ev rfl)) ?_; clear hF; intro a hF
  refine wpList_nil ?_
  refine wp_ret ?_
  repeat with_reducible (first | refine then_ret ?_ | refine in_ret ?_ | refine in_nrm ?_)
  refine ret1_gw (.inl rfl) hF rfl (res_tmp (hF.ev rfl)) ?_
  obtain rfl := Option.some.inj hM
  exact ⟨rfl, S.sel [] rfl rfl⟩

set_option maxHeartbeats 4000000 in
theorem c_impl_Rooms_do {x0 : Int} {x1 : Int} {x2 : List Int} {x3 : Int} {x4 : Int} {x5 : Int} {A2 : Option Addr} {n2 c2 : Nat} {g0 : Nat} {w : World} {r : Bool × Int × Int × List Int} {w0 : World} {X : List Asn} (h2 : n2 = x2.length) (S : St w0 w (Asn.box g0 25 #[.int .i64 x0, .int .i64 x1, .slice A2 n2 c2] :: Asn.row 3 1 (.slice A2 n2 c2) n2 (x2.flatMap eI) :: X)) (hM : m_impl_Rooms_do x0 x1 x2 x3 x4 x5 = some r) :
    Calls Tryd.prog 25 #[.pointer (some ⟨g0, 0, none⟩), .agg #[.int .i64 x3, .int .i64 x4, .int .i64 x5]] w (fun e w' => ∃ (B0 : Option Addr) (N0 D0 : Nat), e = .returned (.bool r.1) ∧ N0 = r.2.2.2.length ∧ St w0 w' (Asn.box g0 25 #[.int .i64 r.2.1, .int .i64 r.2.2.1, .slice B0 N0 D0] :: Asn.row 3 1 (.slice B0 N0 D0) N0 (r.2.2.2.flatMap eI) :: X)) := by
  obtain rfl := h2
  unfold m_impl_Rooms_do at hM
  refine calls_gw Tryd.func25 Tryd.ntmps25 rfl [(0, .pointer (some ⟨g0, 0, none⟩)), (1, .agg #[.int .i64 x3, .int .i64 x4, .int .i64 x5])] ⟨rfl, rfl, trivial⟩ rfl ?_
  intro a hF
  refine wp_seq ?_
  refine wp_region_lit ?_
  refine op_new (cs := #[.int .i64 x3, .int .i64 x4, .int .i64 x5]) rfl rfl hF rfl S (run_box rfl (hF.ev rfl) rfl) ?_; clear hF S; intro a g101 u hF S
  refine op_val (v := .bool false) rfl rfl hF rfl (run_assign rfl rfl) ?_; clear hF; intro a hF
  refine wpList_nil ?_
  refine wp_seq ?_
  refine wp_region_lit ?_
  refine op_val (v := .pointer (some ⟨g0, 0, none⟩)) rfl rfl hF rfl (run_move rfl (hF.ev rfl)) ?_; clear hF; intro a hF
  refine op_val (v := .pointer (some ⟨g101, 1, none⟩)) rfl rfl hF rfl (run_fieldAddr rfl fl27_1 (hF.ev rfl) rfl) ?_; clear hF; intro a hF
  refine op_val (v := .int .i64 x4) rfl rfl hF rfl (run_load1 rfl one3 (hF.ev rfl) ((S.free 0 rfl).cell rfl)) ?_; clear hF; intro a hF
  cases hc102 : (x4 == 0)
  · replace hM := bif_f hc102 hM
    refine op_call rfl rfl hF rfl (run_call (vs := [.pointer (some ⟨g0, 0, none⟩), .int .i64 x4]) rfl rfl co31 ⟨(hF.ev rfl), (hF.ev rfl), trivial⟩) (c_impl_Rooms_epoch_1 hc102) ?_
    rintro e u ⟨rfl, T⟩
    refine ⟨_, rfl, ?_⟩
    clear hF; intro a hF
    replace S := S.call0 T; clear T
    refine op_val (v := .pointer (some ⟨g0, 1, none⟩)) rfl rfl hF rfl (run_assign rfl (hF.ev rfl)) ?_; clear hF; intro a hF
    refine wpList_nil ?_
    refine wp_seq ?_
    refine wp_seq ?_
    refine wp_region_lit ?_
    refine op_val (v := .pointer (some ⟨g101, 0, none⟩)) rfl rfl hF rfl (run_fieldAddr rfl fl27_0 (hF.ev rfl) rfl) ?_; clear hF; intro a hF
    refine op_val (v := .int .i64 x3) rfl rfl hF rfl (run_load1 rfl one3 (hF.ev rfl) ((S.free 0 rfl).cell rfl)) ?_; clear hF; intro a hF
    refine op_val (v := .bool (x3 == 0)) rfl rfl hF rfl (run_eql (hF.ev rfl) rfl rfl) ?_; clear hF; intro a hF
    refine wpList_nil ?_
    cases hc103 : (x3 == 0)
    · replace hM := bif_f hc103 hM
      refine cond_f hF rfl hc103 ?_
      refine wp_skip ?_
      refine wp_seq ?_
      refine wp_seq ?_
      refine region_gw (D := [23, 24, 25, 26, 27, 28, 29, 30, 31, 32, 33, 34, 35]) (Lr := (Asn.box g101 27 #[.int .i64 x3, .int .i64 x4, .int .i64 x5] :: Asn.box g0 25 #[.int .i64 x0, .int .i64 x1, .slice A2 x2.length c2] :: Asn.row 3 1 (.slice A2 x2.length c2) x2.length (x2.flatMap eI) :: X)) (deps := (fun | 0 => [23] | 1 => [24] | 2 => [25] | 3 => [26] | 4 => [27] | 5 => [28] | 6 => [29] | 7 => [30] | 8 => [31] | 9 => [32] | 10 => [33] | 11 => [34] | 12 => [35] | _ => [])) (rd := (fun _ => [])) (zr := (fun _ => []))
        (φ := fun i vs => match i, vs with | 0, [v23] => v23 = .pointer (some ⟨g101, 2, none⟩) | 1, [v24] => v24 = .int .i64 x5 | 2, [v25] => v25 = .bool (ltB x5 0) | 3, [v26] => v26 = .bool (ltB x5 0) | 4, [v27] => v27 = gv (!(ltB x5 0)) (.pointer (some ⟨g101, 2, none⟩)) | 5, [v28] => v28 = gv (!(ltB x5 0)) (.int .i64 x5) | 6, [v29] => v29 = gv (!(ltB x5 0)) (.pointer (some ⟨g0, 0, none⟩)) | 7, [v30] => v30 = gv (!(ltB x5 0)) (.pointer (some ⟨g0, 0, none⟩)) | 8, [v31] => v31 = gv (!(ltB x5 0)) (.pointer (some ⟨g0, 2, none⟩)) | 9, [v32] => v32 = gv (!(ltB x5 0)) (.slice A2 x2.length c2) | 10, [v33] => v33 = gv (!(ltB x5 0)) (.int .i64 (x2.length : Int)) | 11, [v34] => v34 = gv (!(ltB x5 0)) (.bool (leB (x2.length : Int) x5)) | 12, [v35] => v35 = .bool ((ltB x5 0) || (leB (x2.length : Int) x5)) | _, _ => True)
        (C := fun _ _ => [])
        (κ := (fun _ => none)) (Z := (fun _ => [])) mixed hF (by kernel_rfl) S ?_ ?_
      · refine ⟨?_, ?_, ?_, ?_, ?_, ?_, ?_, ?_, ?_, ?_, ?_, ?_, ?_, trivial⟩
        · intro a u X' hB hu hp hr hz hl S
          replace S : St w0 u ([] ++ X') := S
          exact .inl ⟨rfl, .pointer (some ⟨g101, 2, none⟩), u, (run_fieldAddr rfl fl27_2 (hF.evB hB rfl rfl) rfl), rfl, S⟩
        · intro a u X' hB hu hp hr hz hl S
          replace S : St w0 u ([] ++ X') := S
          have e23 : sl a 23 = .pointer (some ⟨g101, 2, none⟩) := hp 0 rfl
          exact .inl ⟨rfl, .int .i64 x5, u, (run_load1 rfl one3 (ev_sl e23) ((gr_box S hl 0 rfl).cell rfl)), rfl, S⟩
        · intro a u X' hB hu hp hr hz hl S
          replace S : St w0 u ([] ++ X') := S
          have e24 : sl a 24 = .int .i64 x5 := hp 1 rfl
          exact .inl ⟨rfl, .bool (ltB x5 0), u, (run_lss (ev_sl e24) (ev_const _ _) rfl), rfl, S⟩
        · intro a u X' hB hu hp hr hz hl S
          replace S : St w0 u ([] ++ X') := S
          have e25 : sl a 25 = .bool (ltB x5 0) := hp 2 rfl
          exact .inl ⟨rfl, .bool (ltB x5 0), u, (run_move rfl (ev_sl e25)), rfl, S⟩
        · intro a u X' hB hu hp hr hz hl S
          replace S : St w0 u ([] ++ X') := S
          have e26 : sl a 26 = .bool (ltB x5 0) := hp 3 rfl
          rcases (Bool.eq_false_or_eq_true (!(ltB x5 0))).symm with hg | hg
          · exact .inr (.inr (.inr ⟨gr_eg rfl (yf (gr_yield rfl rfl e26)) hg, (gv_f hg).symm, S⟩))
          · exact .inl ⟨gr_eg rfl (yf (gr_yield rfl rfl e26)) hg, .pointer (some ⟨g101, 2, none⟩), u, (run_fieldAddr rfl fl27_2 (hF.evB hB rfl rfl) rfl), (gv_t hg).symm, S⟩
        · intro a u X' hB hu hp hr hz hl S
          replace S : St w0 u ([] ++ X') := S
          have e26 : sl a 26 = .bool (ltB x5 0) := hp 3 rfl
          have e27 : sl a 27 = gv (!(ltB x5 0)) (.pointer (some ⟨g101, 2, none⟩)) := hp 4 rfl
          rcases (Bool.eq_false_or_eq_true (!(ltB x5 0))).symm with hg | hg
          · exact .inr (.inr (.inr ⟨gr_eg rfl (yf (gr_yield rfl rfl e26)) hg, (gv_f hg).symm, S⟩))
          · exact .inl ⟨gr_eg rfl (yf (gr_yield rfl rfl e26)) hg, .int .i64 x5, u, (run_load1 rfl one3 ((ev_sl e27).trans (gv_t hg)) ((gr_box S hl 0 rfl).cell rfl)), (gv_t hg).symm, S⟩
        · intro a u X' hB hu hp hr hz hl S
          replace S : St w0 u ([] ++ X') := S
          have e26 : sl a 26 = .bool (ltB x5 0) := hp 3 rfl
          rcases (Bool.eq_false_or_eq_true (!(ltB x5 0))).symm with hg | hg
          · exact .inr (.inr (.inr ⟨gr_eg rfl (yf (gr_yield rfl rfl e26)) hg, (gv_f hg).symm, S⟩))
          · exact .inl ⟨gr_eg rfl (yf (gr_yield rfl rfl e26)) hg, .pointer (some ⟨g0, 0, none⟩), u, (run_move rfl (hF.evB hB rfl rfl)), (gv_t hg).symm, S⟩
        · intro a u X' hB hu hp hr hz hl S
          replace S : St w0 u ([] ++ X') := S
          have e26 : sl a 26 = .bool (ltB x5 0) := hp 3 rfl
          have e29 : sl a 29 = gv (!(ltB x5 0)) (.pointer (some ⟨g0, 0, none⟩)) := hp 6 rfl
          rcases (Bool.eq_false_or_eq_true (!(ltB x5 0))).symm with hg | hg
          · exact .inr (.inr (.inr ⟨gr_eg rfl (yf (gr_yield rfl rfl e26)) hg, (gv_f hg).symm, S⟩))
          · exact .inl ⟨gr_eg rfl (yf (gr_yield rfl rfl e26)) hg, .pointer (some ⟨g0, 0, none⟩), u, (run_nilCheck rfl ((ev_sl e29).trans (gv_t hg))), (gv_t hg).symm, S⟩
        · intro a u X' hB hu hp hr hz hl S
          replace S : St w0 u ([] ++ X') := S
          have e26 : sl a 26 = .bool (ltB x5 0) := hp 3 rfl
          have e30 : sl a 30 = gv (!(ltB x5 0)) (.pointer (some ⟨g0, 0, none⟩)) := hp 7 rfl
          rcases (Bool.eq_false_or_eq_true (!(ltB x5 0))).symm with hg | hg
          · exact .inr (.inr (.inr ⟨gr_eg rfl (yf (gr_yield rfl rfl e26)) hg, (gv_f hg).symm, S⟩))
          · exact .inl ⟨gr_eg rfl (yf (gr_yield rfl rfl e26)) hg, .pointer (some ⟨g0, 2, none⟩), u, (run_fieldAddr rfl fl25_2 ((ev_sl e30).trans (gv_t hg)) rfl), (gv_t hg).symm, S⟩
        · intro a u X' hB hu hp hr hz hl S
          replace S : St w0 u ([] ++ X') := S
          have e26 : sl a 26 = .bool (ltB x5 0) := hp 3 rfl
          have e31 : sl a 31 = gv (!(ltB x5 0)) (.pointer (some ⟨g0, 2, none⟩)) := hp 8 rfl
          rcases (Bool.eq_false_or_eq_true (!(ltB x5 0))).symm with hg | hg
          · exact .inr (.inr (.inr ⟨gr_eg rfl (yf (gr_yield rfl rfl e26)) hg, (gv_f hg).symm, S⟩))
          · exact .inl ⟨gr_eg rfl (yf (gr_yield rfl rfl e26)) hg, .slice A2 x2.length c2, u, (run_load1 rfl one23 ((ev_sl e31).trans (gv_t hg)) ((gr_box S hl 1 rfl).cell rfl)), (gv_t hg).symm, S⟩
        · intro a u X' hB hu hp hr hz hl S
          replace S : St w0 u ([] ++ X') := S
          have e26 : sl a 26 = .bool (ltB x5 0) := hp 3 rfl
          have e32 : sl a 32 = gv (!(ltB x5 0)) (.slice A2 x2.length c2) := hp 9 rfl
          rcases (Bool.eq_false_or_eq_true (!(ltB x5 0))).symm with hg | hg
          · exact .inr (.inr (.inr ⟨gr_eg rfl (yf (gr_yield rfl rfl e26)) hg, (gv_f hg).symm, S⟩))
          · exact .inl ⟨gr_eg rfl (yf (gr_yield rfl rfl e26)) hg, .int .i64 (x2.length : Int), u, (run_lenL rfl rfl Tryd.underlying23 ((ev_sl e32).trans (gv_t hg))), (gv_t hg).symm, S⟩
        · intro a u X' hB hu hp hr hz hl S
          replace S : St w0 u ([] ++ X') := S
          have e26 : sl a 26 = .bool (ltB x5 0) := hp 3 rfl
          have e28 : sl a 28 = gv (!(ltB x5 0)) (.int .i64 x5) := hp 5 rfl
          have e33 : sl a 33 = gv (!(ltB x5 0)) (.int .i64 (x2.length : Int)) := hp 10 rfl
          rcases (Bool.eq_false_or_eq_true (!(ltB x5 0))).symm with hg | hg
          · exact .inr (.inr (.inr ⟨gr_eg rfl (yf (gr_yield rfl rfl e26)) hg, (gv_f hg).symm, S⟩))
          · exact .inl ⟨gr_eg rfl (yf (gr_yield rfl rfl e26)) hg, .bool (leB (x2.length : Int) x5), u, (run_geq ((ev_sl e28).trans (gv_t hg)) ((ev_sl e33).trans (gv_t hg)) rfl), (gv_t hg).symm, S⟩
        · intro a u X' hB hu hp hr hz hl S
          replace S : St w0 u ([] ++ X') := S
          have e26 : sl a 26 = .bool (ltB x5 0) := hp 3 rfl
          have e34 : sl a 34 = gv (!(ltB x5 0)) (.bool (leB (x2.length : Int) x5)) := hp 11 rfl
          exact .inl ⟨rfl, .bool ((ltB x5 0) || (leB (x2.length : Int) x5)), u, (run_pick_or rfl (ev_sl e26) (ev_const _ _) (fun hp => ((ev_sl e34).trans (gv_t (not_t hp))))), rfl, S⟩
      · intro a u hB hp S
        obtain ⟨q0, q1, q2, q3, q4, q5, q6, q7, q8, q9, q10, q11, q12, _⟩ := hp
        have e23 : sl a 23 = .pointer (some ⟨g101, 2, none⟩) := q0
        have e24 : sl a 24 = .int .i64 x5 := q1
        have e25 : sl a 25 = .bool (ltB x5 0) := q2
        have e26 : sl a 26 = .bool (ltB x5 0) := q3
        have e27 : sl a 27 = gv (!(ltB x5 0)) (.pointer (some ⟨g101, 2, none⟩)) := q4
        have e28 : sl a 28 = gv (!(ltB x5 0)) (.int .i64 x5) := q5
        have e29 : sl a 29 = gv (!(ltB x5 0)) (.pointer (some ⟨g0, 0, none⟩)) := q6
        have e30 : sl a 30 = gv (!(ltB x5 0)) (.pointer (some ⟨g0, 0, none⟩)) := q7
        have e31 : sl a 31 = gv (!(ltB x5 0)) (.pointer (some ⟨g0, 2, none⟩)) := q8
        have e32 : sl a 32 = gv (!(ltB x5 0)) (.slice A2 x2.length c2) := q9
        have e33 : sl a 33 = gv (!(ltB x5 0)) (.int .i64 (x2.length : Int)) := q10
        have e34 : sl a 34 = gv (!(ltB x5 0)) (.bool (leB (x2.length : Int) x5)) := q11
        have e35 : sl a 35 = .bool ((ltB x5 0) || (leB (x2.length : Int) x5)) := q12
        replace S : St w0 u (Asn.box g101 27 #[.int .i64 x3, .int .i64 x4, .int .i64 x5] :: Asn.box g0 25 #[.int .i64 x0, .int .i64 x1, .slice A2 x2.length c2] :: Asn.row 3 1 (.slice A2 x2.length c2) x2.length (x2.flatMap eI) :: X) := S
        clear q0 q1 q2 q3 q4 q5 q6 q7 q8 q9 q10 q11 q12
        have hF := hF.region hB [(23, .pointer (some ⟨g101, 2, none⟩)), (24, .int .i64 x5), (25, .bool (ltB x5 0)), (26, .bool (ltB x5 0)), (27, gv (!(ltB x5 0)) (.pointer (some ⟨g101, 2, none⟩))), (28, gv (!(ltB x5 0)) (.int .i64 x5)), (29, gv (!(ltB x5 0)) (.pointer (some ⟨g0, 0, none⟩))), (30, gv (!(ltB x5 0)) (.pointer (some ⟨g0, 0, none⟩))), (31, gv (!(ltB x5 0)) (.pointer (some ⟨g0, 2, none⟩))), (32, gv (!(ltB x5 0)) (.slice A2 x2.length c2)), (33, gv (!(ltB x5 0)) (.int .i64 (x2.length : Int))), (34, gv (!(ltB x5 0)) (.bool (leB (x2.length : Int) x5))), (35, .bool ((ltB x5 0) || (leB (x2.length : Int) x5)))] (allSl_mem ⟨e23, e24, e25, e26, e27, e28, e29, e30, e31, e32, e33, e34, e35, trivial⟩) rfl
        clear hB e23 e24 e25 e26 e27 e28 e29 e30 e31 e32 e33 e34 e35
        cases hc104 : ((ltB x5 0) || (leB (x2.length : Int) x5))
        · replace hM := bif_f hc104 hM
          refine cond_f hF rfl hc104 ?_
          refine wp_skip ?_
          refine wp_seq ?_
          obtain ⟨hk105, hM⟩ := chk_ex hM
          replace hk105 := ixB_t hk105
          refine region_gw (D := [36, 37, 38, 39, 40, 41, 42, 6]) (Lr := (Asn.box g101 27 #[.int .i64 x3, .int .i64 x4, .int .i64 x5] :: Asn.box g0 25 #[.int .i64 x0, .int .i64 x1, .slice A2 x2.length c2] :: Asn.row 3 1 (.slice A2 x2.length c2) x2.length (x2.flatMap eI) :: X)) (deps := (fun | 0 => [36] | 1 => [37] | 2 => [38] | 3 => [39] | 4 => [40] | 5 => [41] | 6 => [42] | 7 => [6] | _ => [])) (rd := (fun _ => [])) (zr := (fun _ => []))
            (φ := fun i vs => match i, vs with | 0, [v36] => v36 = .pointer (some ⟨g0, 0, none⟩) | 1, [v37] => v37 = .pointer (some ⟨g0, 0, none⟩) | 2, [v38] => v38 = .pointer (some ⟨g0, 2, none⟩) | 3, [v39] => v39 = .slice A2 x2.length c2 | 4, [v40] => v40 = .pointer (some ⟨g101, 2, none⟩) | 5, [v41] => v41 = .int .i64 x5 | 6, [v42] => v42 = .pointer (some ⟨adB A2, adO A2 + x5.toNat * 1, none⟩) | 7, [v6] => v6 = .pointer (some ⟨adB A2, adO A2 + x5.toNat * 1, none⟩) | _, _ => True)
            (C := fun _ _ => [])
            (κ := (fun _ => none)) (Z := (fun _ => [])) mixed hF (by kernel_rfl) S ?_ ?_
          · refine ⟨?_, ?_, ?_, ?_, ?_, ?_, ?_, ?_, trivial⟩
            · intro a u X' hB hu hp hr hz hl S
              replace S : St w0 u ([] ++ X') := S
              exact .inl ⟨rfl, .pointer (some ⟨g0, 0, none⟩), u, (run_move rfl (hF.evB hB rfl rfl)), rfl, S⟩
            · intro a u X' hB hu hp hr hz hl S
              replace S : St w0 u ([] ++ X') := S
              have e36 : sl a 36 = .pointer (some ⟨g0, 0, none⟩) := hp 0 rfl
              exact .inl ⟨rfl, .pointer (some ⟨g0, 0, none⟩), u, (run_nilCheck rfl (ev_sl e36)), rfl, S⟩
            · intro a u X' hB hu hp hr hz hl S
              replace S : St w0 u ([] ++ X') := S
              have e37 : sl a 37 = .pointer (some ⟨g0, 0, none⟩) := hp 1 rfl
              exact .inl ⟨rfl, .pointer (some ⟨g0, 2, none⟩), u, (run_fieldAddr rfl fl25_2 (ev_sl e37) rfl), rfl, S⟩
            · intro a u X' hB hu hp hr hz hl S
              replace S : St w0 u ([] ++ X') := S
              have e38 : sl a 38 = .pointer (some ⟨g0, 2, none⟩) := hp 2 rfl
              exact .inl ⟨rfl, .slice A2 x2.length c2, u, (run_load1 rfl one23 (ev_sl e38) ((gr_box S hl 1 rfl).cell rfl)), rfl, S⟩
            · intro a u X' hB hu hp hr hz hl S
              replace S : St w0 u ([] ++ X') := S
              exact .inl ⟨rfl, .pointer (some ⟨g101, 2, none⟩), u, (run_fieldAddr rfl fl27_2 (hF.evB hB rfl rfl) rfl), rfl, S⟩
            · intro a u X' hB hu hp hr hz hl S
              replace S : St w0 u ([] ++ X') := S
              have e40 : sl a 40 = .pointer (some ⟨g101, 2, none⟩) := hp 4 rfl
              exact .inl ⟨rfl, .int .i64 x5, u, (run_load1 rfl one3 (ev_sl e40) ((gr_box S hl 0 rfl).cell rfl)), rfl, S⟩
            · intro a u X' hB hu hp hr hz hl S
              replace S : St w0 u ([] ++ X') := S
              have e39 : sl a 39 = .slice A2 x2.length c2 := hp 3 rfl
              have e41 : sl a 41 = .int .i64 x5 := hp 5 rfl
              exact .inl ⟨rfl, .pointer (some ⟨adB A2, adO A2 + x5.toNat * 1, none⟩), u, (run_indexAddr (b := adB A2) (off := adO A2) rfl Tryd.underlying23 sz3 ((ev_sl e39).trans (congrArg (fun A => Value.slice A x2.length c2) ((gr_rc S hl 2 rfl).rd.ad (ix_pos hk105)))) (ev_sl e41) hk105.1 hk105.2 (k' := adO A2 + x5.toNat * 1) rfl), rfl, S⟩
            · intro a u X' hB hu hp hr hz hl S
              replace S : St w0 u ([] ++ X') := S
              have e42 : sl a 42 = .pointer (some ⟨adB A2, adO A2 + x5.toNat * 1, none⟩) := hp 6 rfl
              exact .inl ⟨rfl, .pointer (some ⟨adB A2, adO A2 + x5.toNat * 1, none⟩), u, (run_assign rfl (ev_sl e42)), rfl, S⟩
          · intro a u hB hp S
            obtain ⟨q0, q1, q2, q3, q4, q5, q6, q7, _⟩ := hp
            have e36 : sl a 36 = .pointer (some ⟨g0, 0, none⟩) := q0
            have e37 : sl a 37 = .pointer (some ⟨g0, 0, none⟩) := q1
            have e38 : sl a 38 = .pointer (some ⟨g0, 2, none⟩) := q2
            have e39 : sl a 39 = .slice A2 x2.length c2 := q3
            have e40 : sl a 40 = .pointer (some ⟨g101, 2, none⟩) := q4
            have e41 : sl a 41 = .int .i64 x5 := q5
            have e42 : sl a 42 = .pointer (some ⟨adB A2, adO A2 + x5.toNat * 1, none⟩) := q6
            have e6 : sl a 6 = .pointer (some ⟨adB A2, adO A2 + x5.toNat * 1, none⟩) := q7
            replace S : St w0 u (Asn.box g101 27 #[.int .i64 x3, .int .i64 x4, .int .i64 x5] :: Asn.box g0 25 #[.int .i64 x0, .int .i64 x1, .slice A2 x2.length c2] :: Asn.row 3 1 (.slice A2 x2.length c2) x2.length (x2.flatMap eI) :: X) := S
            clear q0 q1 q2 q3 q4 q5 q6 q7
            have hF := hF.region hB [(36, .pointer (some ⟨g0, 0, none⟩)), (37, .pointer (some ⟨g0, 0, none⟩)), (38, .pointer (some ⟨g0, 2, none⟩)), (39, .slice A2 x2.length c2), (40, .pointer (some ⟨g101, 2, none⟩)), (41, .int .i64 x5), (42, .pointer (some ⟨adB A2, adO A2 + x5.toNat * 1, none⟩)), (6, .pointer (some ⟨adB A2, adO A2 + x5.toNat * 1, none⟩))] (allSl_mem ⟨e36, e37, e38, e39, e40, e41, e42, e6, trivial⟩) rfl
            clear hB e36 e37 e38 e39 e40 e41 e42 e6
            refine wp_seq ?_
            refine wp_seq ?_
            refine wp_region_lit ?_
            refine op_val (v := .pointer (some ⟨g101, 0, none⟩)) rfl rfl hF rfl (run_fieldAddr rfl fl27_0 (hF.ev rfl) rfl) ?_; clear hF; intro a hF
            refine op_val (v := .int .i64 x3) rfl rfl hF rfl (run_load1 rfl one3 (hF.ev rfl) ((S.free 0 rfl).cell rfl)) ?_; clear hF; intro a hF
            refine wpList_nil ?_
            refine wp_block ?_
            refine wp_seq ?_
            refine wp_region_lit ?_
            refine op_val (v := .bool (x3 == 1)) rfl rfl hF rfl (run_eql (hF.ev rfl) rfl rfl) ?_; clear hF; intro a hF
            refine op_val (v := .bool (x3 == 1)) rfl rfl hF rfl (run_assign rfl (hF.ev rfl)) ?_; clear hF; intro a hF
            refine wpList_nil ?_
            cases hc106 : (x3 == 1)
            · replace hM := bif_f hc106 hM
              refine cond_f hF rfl hc106 ?_
              refine wp_seq ?_
              refine wp_region_lit ?_
              refine op_val (v := .bool (x3 == 2)) rfl rfl hF rfl (run_eql (hF.ev rfl) rfl rfl) ?_; clear hF; intro a hF
              refine op_val (v := .bool (x3 == 2)) rfl rfl hF rfl (run_assign rfl (hF.ev rfl)) ?_; clear hF; intro a hF
              refine wpList_nil ?_
              cases hc107 : (x3 == 2)
              · replace hM := bif_f hc107 hM
                refine cond_f hF rfl hc107 ?_
                refine wp_skip ?_
                refine wp_seq ?_
                refine wp_region_lit ?_
                refine op_val (v := .bool false) rfl rfl hF rfl (run_assign rfl rfl) ?_; clear hF; intro a hF
                refine wpList_nil ?_
                refine wp_ret ?_
                repeat with_reducible (first | refine then_ret ?_ | refine in_ret ?_ | refine in_nrm ?_)
                refine ret1_gw (.inl rfl) hF rfl (res_tmp (hF.ev rfl)) ?_
                obtain rfl := Option.some.inj hM
                exact ⟨A2, x2.length, c2, rfl, rfl, S.selT (M := [.box g0 25 #[.int .i64 x0, .int .i64 x1, .slice A2 x2.length c2], .row 3 1 (.slice A2 x2.length c2) x2.length (x2.flatMap eI)]) 3 [1, 2] rfl rfl rfl⟩
              · replace hM := bif_t hc107 hM
                refine cond_t hF rfl hc107 ?_
                refine wp_seq ?_
                refine region_gw (D := [66, 67, 68, 69, 70, 71, 72, 73, 74]) (Lr := (Asn.box g101 27 #[.int .i64 x3, .int .i64 x4, .int .i64 x5] :: Asn.box g0 25 #[.int .i64 x0, .int .i64 x1, .slice A2 x2.length c2] :: X)) (deps := (fun | 0 => [66] | 1 => [67] | 2 => [68] | 3 => [69] | 4 => [70] | 5 => [71] | 6 => [72] | 7 => [73] | 8 => [74] | 9 => [74] | _ => [])) (rd := (fun _ => [])) (zr := (fun | 3 => [9] | _ => []))
                  (φ := fun i vs => match i, vs with | 0, [v66] => v66 = .pointer (some ⟨adB A2, adO A2 + x5.toNat * 1, none⟩) | 1, [v67] => v67 = .pointer (some ⟨adB A2, adO A2 + x5.toNat * 1, none⟩) | 2, [v68] => v68 = .pointer (some ⟨adB A2, adO A2 + x5.toNat * 1, none⟩) | 3, [v69] => v69 = .int .i64 (x2.getD x5.toNat (0 : Int)) | 4, [v70] => v70 = .pointer (some ⟨g0, 1, none⟩) | 5, [v71] => v71 = .pointer (some ⟨g0, 1, none⟩) | 6, [v72] => v72 = .int .i64 x1 | 7, [v73] => v73 = .int .i64 (max (x2.getD x5.toNat (0 : Int)) x1) | 8, [v74] => v74 = .pointer (some ⟨adB A2, adO A2 + x5.toNat * 1, none⟩) | _, _ => True)
                  (C := fun i vs => match i, vs with | 9, [v74] => [.row 3 1 (.slice A2 x2.length c2) x2.length ((x2.set x5.toNat (max (x2.getD x5.toNat (0 : Int)) x1)).flatMap eI)] | _, _ => [])
                  (κ := (fun _ => none)) (Z := (fun | 9 => [.row 3 1 (.slice A2 x2.length c2) x2.length (x2.flatMap eI)] | _ => [])) mixed hF (by kernel_rfl) (show St w0 _ (Asn.row 3 1 (.slice A2 x2.length c2) x2.length (x2.flatMap eI) :: Asn.box g101 27 #[.int .i64 x3, .int .i64 x4, .int .i64 x5] :: Asn.box g0 25 #[.int .i64 x0, .int .i64 x1, .slice A2 x2.length c2] :: X) from S.selT (M := [.row 3 1 (.slice A2 x2.length c2) x2.length (x2.flatMap eI), .box g101 27 #[.int .i64 x3, .int .i64 x4, .int .i64 x5], .box g0 25 #[.int .i64 x0, .int .i64 x1, .slice A2 x2.length c2]]) 3 [2, 0, 1] rfl rfl rfl) ?_ ?_
                · refine ⟨?_, ?_, ?_, ?_, ?_, ?_, ?_, ?_, ?_, ?_, trivial⟩
                  · intro a u X' hB hu hp hr hz hl S
                    replace S : St w0 u ([] ++ X') := S
                    exact .inl ⟨rfl, .pointer (some ⟨adB A2, adO A2 + x5.toNat * 1, none⟩), u, (run_move rfl (hF.evB hB rfl rfl)), rfl, S⟩
                  · intro a u X' hB hu hp hr hz hl S
                    replace S : St w0 u ([] ++ X') := S
                    exact .inl ⟨rfl, .pointer (some ⟨adB A2, adO A2 + x5.toNat * 1, none⟩), u, (run_move rfl (hF.evB hB rfl rfl)), rfl, S⟩
                  · intro a u X' hB hu hp hr hz hl S
                    replace S : St w0 u ([] ++ X') := S
                    have e67 : sl a 67 = .pointer (some ⟨adB A2, adO A2 + x5.toNat * 1, none⟩) := hp 1 rfl
                    exact .inl ⟨rfl, .pointer (some ⟨adB A2, adO A2 + x5.toNat * 1, none⟩), u, (run_nilCheck rfl (ev_sl e67)), rfl, S⟩
                  · intro a u X' hB hu hp hr hz hl S
                    replace S : St w0 u ([] ++ X') := S
                    have e68 : sl a 68 = .pointer (some ⟨adB A2, adO A2 + x5.toNat * 1, none⟩) := hp 2 rfl
                    exact .inl ⟨rfl, .int .i64 (x2.getD x5.toNat (0 : Int)), u, (run_load1 rfl one3 (ev_sl e68) (rd_el0 (l := x2) (own_rc (show World.ownsRow _ 0 _ _ _ _ _ from S.mem (List.mem_append_right _ (hz 9 (List.mem_of_getElem? (i := 0) rfl) _ (List.mem_of_getElem? (i := 0) rfl))))).rd rfl eI_len (0 : Int) (ix_ltn hk105 rfl) rfl)), rfl, S⟩
                  · intro a u X' hB hu hp hr hz hl S
                    replace S : St w0 u ([] ++ X') := S
                    exact .inl ⟨rfl, .pointer (some ⟨g0, 1, none⟩), u, (run_move rfl (hF.evB hB rfl rfl)), rfl, S⟩
                  · intro a u X' hB hu hp hr hz hl S
                    replace S : St w0 u ([] ++ X') := S
                    have e70 : sl a 70 = .pointer (some ⟨g0, 1, none⟩) := hp 4 rfl
                    exact .inl ⟨rfl, .pointer (some ⟨g0, 1, none⟩), u, (run_nilCheck rfl (ev_sl e70)), rfl, S⟩
                  · intro a u X' hB hu hp hr hz hl S
                    replace S : St w0 u ([] ++ X') := S
                    have e71 : sl a 71 = .pointer (some ⟨g0, 1, none⟩) := hp 5 rfl
                    exact .inl ⟨rfl, .int .i64 x1, u, (run_load1 rfl one3 (ev_sl e71) ((gr_box S hl 1 rfl).cell rfl)), rfl, S⟩
                  · intro a u X' hB hu hp hr hz hl S
                    replace S : St w0 u ([] ++ X') := S
                    have e69 : sl a 69 = .int .i64 (x2.getD x5.toNat (0 : Int)) := hp 3 rfl
                    have e72 : sl a 72 = .int .i64 x1 := hp 6 rfl
                    exact .inl ⟨rfl, .int .i64 (max (x2.getD x5.toNat (0 : Int)) x1), u, (run_max rfl (ev_sl e69) (ev_sl e72)), rfl, S⟩
                  · intro a u X' hB hu hp hr hz hl S
                    replace S : St w0 u ([] ++ X') := S
                    have e66 : sl a 66 = .pointer (some ⟨adB A2, adO A2 + x5.toNat * 1, none⟩) := hp 0 rfl
                    exact .inl ⟨rfl, .pointer (some ⟨adB A2, adO A2 + x5.toNat * 1, none⟩), u, (run_nilCheck rfl (ev_sl e66)), rfl, S⟩
                  · intro a u X' hB hu hp hr hz hl S
                    replace S : St w0 u ([.row 3 1 (.slice A2 x2.length c2) x2.length (x2.flatMap eI)] ++ X') := S
                    have e73 : sl a 73 = .int .i64 (max (x2.getD x5.toNat (0 : Int)) x1) := hp 7 rfl
                    have e74 : sl a 74 = .pointer (some ⟨adB A2, adO A2 + x5.toNat * 1, none⟩) := hp 8 rfl
                    obtain ⟨w', hrun, S'⟩ := run_storeElN (P := Tryd.prog) (ρ := a.eval) (y0 := max (x2.getD x5.toNat (0 : Int)) x1) (off := 0) S 3 (.tmp 74) (.tmp 73) (i := 0) sz3 (ev_sl e74) (ev_sl e73) rfl rfl rfl rfl rfl eI_len (0 : Int) (ix_ltn hk105 rfl) rfl rfl
                    exact .inr (.inl ⟨rfl, w', hrun _ rfl, trivial, S'⟩)
                · intro a u hB hp S
                  obtain ⟨q0, q1, q2, q3, q4, q5, q6, q7, q8, q9, _⟩ := hp
                  have e66 : sl a 66 = .pointer (some ⟨adB A2, adO A2 + x5.toNat * 1, none⟩) := q0
                  have e67 : sl a 67 = .pointer (some ⟨adB A2, adO A2 + x5.toNat * 1, none⟩) := q1
                  have e68 : sl a 68 = .pointer (some ⟨adB A2, adO A2 + x5.toNat * 1, none⟩) := q2
                  have e69 : sl a 69 = .int .i64 (x2.getD x5.toNat (0 : Int)) := q3
                  have e70 : sl a 70 = .pointer (some ⟨g0, 1, none⟩) := q4
                  have e71 : sl a 71 = .pointer (some ⟨g0, 1, none⟩) := q5
                  have e72 : sl a 72 = .int .i64 x1 := q6
                  have e73 : sl a 73 = .int .i64 (max (x2.getD x5.toNat (0 : Int)) x1) := q7
                  have e74 : sl a 74 = .pointer (some ⟨adB A2, adO A2 + x5.toNat * 1, none⟩) := q8
                  replace S : St w0 u (Asn.row 3 1 (.slice A2 x2.length c2) x2.length ((x2.set x5.toNat (max (x2.getD x5.toNat (0 : Int)) x1)).flatMap eI) :: Asn.box g101 27 #[.int .i64 x3, .int .i64 x4, .int .i64 x5] :: Asn.box g0 25 #[.int .i64 x0, .int .i64 x1, .slice A2 x2.length c2] :: X) := S
                  clear q0 q1 q2 q3 q4 q5 q6 q7 q8 q9
                  have hF := hF.region hB [(66, .pointer (some ⟨adB A2, adO A2 + x5.toNat * 1, none⟩)), (67, .pointer (some ⟨adB A2, adO A2 + x5.toNat * 1, none⟩)), (68, .pointer (some ⟨adB A2, adO A2 + x5.toNat * 1, none⟩)), (69, .int .i64 (x2.getD x5.toNat (0 : Int))), (70, .pointer (some ⟨g0, 1, none⟩)), (71, .pointer (some ⟨g0, 1, none⟩)), (72, .int .i64 x1), (73, .int .i64 (max (x2.getD x5.toNat (0 : Int)) x1)), (74, .pointer (some ⟨adB A2, adO A2 + x5.toNat * 1, none⟩))] (allSl_mem ⟨e66, e67, e68, e69, e70, e71, e72, e73, e74, trivial⟩) rfl
                  clear hB e66 e67 e68 e69 e70 e71 e72 e73 e74
                  refine wp_seq ?_
                  refine wp_region_lit ?_
                  refine op_val (v := .bool true) rfl rfl hF rfl (run_assign rfl rfl) ?_; clear hF; intro a hF
                  refine wpList_nil ?_
                  refine wp_ret ?_
                  repeat with_reducible (first | refine then_ret ?_ | refine in_ret ?_ | refine in_nrm ?_)
                  refine ret1_gw (.inl rfl) hF rfl (res_tmp (hF.ev rfl)) ?_
                  obtain rfl := Option.some.inj hM
                  exact ⟨A2, x2.length, c2, rfl, (len_set rfl), S.selT (M := [.box g0 25 #[.int .i64 x0, .int .i64 x1, .slice A2 x2.length c2], .row 3 1 (.slice A2 x2.length c2) x2.length ((x2.set x5.toNat (max (x2.getD x5.toNat (0 : Int)) x1)).flatMap eI)]) 3 [2, 0] rfl rfl rfl⟩
            · replace hM := bif_t hc106 hM
              refine cond_t hF rfl hc106 ?_
              refine wp_seq ?_
              refine wp_seq ?_
              refine region_gw (D := [47, 48, 49, 50, 51, 52, 53]) (Lr := (Asn.box g101 27 #[.int .i64 x3, .int .i64 x4, .int .i64 x5] :: Asn.box g0 25 #[.int .i64 x0, .int .i64 x1, .slice A2 x2.length c2] :: Asn.row 3 1 (.slice A2 x2.length c2) x2.length (x2.flatMap eI) :: X)) (deps := (fun | 0 => [47] | 1 => [48] | 2 => [49] | 3 => [50] | 4 => [51] | 5 => [52] | 6 => [53] | _ => [])) (rd := (fun _ => [])) (zr := (fun _ => []))
                (φ := fun i vs => match i, vs with | 0, [v47] => v47 = .pointer (some ⟨adB A2, adO A2 + x5.toNat * 1, none⟩) | 1, [v48] => v48 = .pointer (some ⟨adB A2, adO A2 + x5.toNat * 1, none⟩) | 2, [v49] => v49 = .int .i64 (x2.getD x5.toNat (0 : Int)) | 3, [v50] => v50 = .pointer (some ⟨g0, 1, none⟩) | 4, [v51] => v51 = .pointer (some ⟨g0, 1, none⟩) | 5, [v52] => v52 = .int .i64 x1 | 6, [v53] => v53 = .bool (ltB x1 (x2.getD x5.toNat (0 : Int))) | _, _ => True)
                (C := fun _ _ => [])
                (κ := (fun _ => none)) (Z := (fun _ => [])) mixed hF (by kernel_rfl) S ?_ ?_
              · refine ⟨?_, ?_, ?_, ?_, ?_, ?_, ?_, trivial⟩
                · intro a u X' hB hu hp hr hz hl S
                  replace S : St w0 u ([] ++ X') := S
                  exact .inl ⟨rfl, .pointer (some ⟨adB A2, adO A2 + x5.toNat * 1, none⟩), u, (run_move rfl (hF.evB hB rfl rfl)), rfl, S⟩
                · intro a u X' hB hu hp hr hz hl S
                  replace S : St w0 u ([] ++ X') := S
                  have e47 : sl a 47 = .pointer (some ⟨adB A2, adO A2 + x5.toNat * 1, none⟩) := hp 0 rfl
                  exact .inl ⟨rfl, .pointer (some ⟨adB A2, adO A2 + x5.toNat * 1, none⟩), u, (run_nilCheck rfl (ev_sl e47)), rfl, S⟩
                · intro a u X' hB hu hp hr hz hl S
                  replace S : St w0 u ([] ++ X') := S
                  have e48 : sl a 48 = .pointer (some ⟨adB A2, adO A2 + x5.toNat * 1, none⟩) := hp 1 rfl
                  exact .inl ⟨rfl, .int .i64 (x2.getD x5.toNat (0 : Int)), u, (run_load1 rfl one3 (ev_sl e48) (rd_el0 (l := x2) (gr_rc S hl 2 rfl).rd rfl eI_len (0 : Int) (ix_ltn hk105 rfl) rfl)), rfl, S⟩
                · intro a u X' hB hu hp hr hz hl S
                  replace S : St w0 u ([] ++ X') := S
                  exact .inl ⟨rfl, .pointer (some ⟨g0, 1, none⟩), u, (run_move rfl (hF.evB hB rfl rfl)), rfl, S⟩
                · intro a u X' hB hu hp hr hz hl S
                  replace S : St w0 u ([] ++ X') := S
                  have e50 : sl a 50 = .pointer (some ⟨g0, 1, none⟩) := hp 3 rfl
                  exact .inl ⟨rfl, .pointer (some ⟨g0, 1, none⟩), u, (run_nilCheck rfl (ev_sl e50)), rfl, S⟩
                · intro a u X' hB hu hp hr hz hl S
                  replace S : St w0 u ([] ++ X') := S
                  have e51 : sl a 51 = .pointer (some ⟨g0, 1, none⟩) := hp 4 rfl
                  exact .inl ⟨rfl, .int .i64 x1, u, (run_load1 rfl one3 (ev_sl e51) ((gr_box S hl 1 rfl).cell rfl)), rfl, S⟩
                · intro a u X' hB hu hp hr hz hl S
                  replace S : St w0 u ([] ++ X') := S
                  have e49 : sl a 49 = .int .i64 (x2.getD x5.toNat (0 : Int)) := hp 2 rfl
                  have e52 : sl a 52 = .int .i64 x1 := hp 5 rfl
                  exact .inl ⟨rfl, .bool (ltB x1 (x2.getD x5.toNat (0 : Int))), u, (run_gtr (ev_sl e49) (ev_sl e52) rfl), rfl, S⟩
              · intro a u hB hp S
                obtain ⟨q0, q1, q2, q3, q4, q5, q6, _⟩ := hp
                have e47 : sl a 47 = .pointer (some ⟨adB A2, adO A2 + x5.toNat * 1, none⟩) := q0
                have e48 : sl a 48 = .pointer (some ⟨adB A2, adO A2 + x5.toNat * 1, none⟩) := q1
                have e49 : sl a 49 = .int .i64 (x2.getD x5.toNat (0 : Int)) := q2
                have e50 : sl a 50 = .pointer (some ⟨g0, 1, none⟩) := q3
                have e51 : sl a 51 = .pointer (some ⟨g0, 1, none⟩) := q4
                have e52 : sl a 52 = .int .i64 x1 := q5
                have e53 : sl a 53 = .bool (ltB x1 (x2.getD x5.toNat (0 : Int))) := q6
                replace S : St w0 u (Asn.box g101 27 #[.int .i64 x3, .int .i64 x4, .int .i64 x5] :: Asn.box g0 25 #[.int .i64 x0, .int .i64 x1, .slice A2 x2.length c2] :: Asn.row 3 1 (.slice A2 x2.length c2) x2.length (x2.flatMap eI) :: X) := S
                clear q0 q1 q2 q3 q4 q5 q6
                have hF := hF.region hB [(47, .pointer (some ⟨adB A2, adO A2 + x5.toNat * 1, none⟩)), (48, .pointer (some ⟨adB A2, adO A2 + x5.toNat * 1, none⟩)), (49, .int .i64 (x2.getD x5.toNat (0 : Int))), (50, .pointer (some ⟨g0, 1, none⟩)), (51, .pointer (some ⟨g0, 1, none⟩)), (52, .int .i64 x1), (53, .bool (ltB x1 (x2.getD x5.toNat (0 : Int))))] (allSl_mem ⟨e47, e48, e49, e50, e51, e52, e53, trivial⟩) rfl
                clear hB e47 e48 e49 e50 e51 e52 e53
                obtain ⟨o109, hM110, hM⟩ := bind_ex hM
                refine wp_cut (fun a u => ∃ (p108 : Int), p108 = o109 ∧ Fr a 75 [(4, .bool false), (5, .pointer (some ⟨g0, 1, none⟩))] ∧ St w0 u (Asn.box g101 27 #[.int .i64 x3, .int .i64 x4, .int .i64 x5] :: Asn.box g0 25 #[.int .i64 x0, .int .i64 p108, .slice A2 x2.length c2] :: Asn.row 3 1 (.slice A2 x2.length c2) x2.length (x2.flatMap eI) :: X)) ?_ ?_
                · have _ := trivial
                  cases hc111 : (ltB x1 (x2.getD x5.toNat (0 : Int)))
                  · replace hM110 := bif_f hc111 hM110
                    refine cond_f hF rfl hc111 ?_
                    refine wp_skip ?_
                    obtain rfl := Option.some.inj hM110
                    exact ⟨x1, rfl, hF.keep _ ⟨rfl, rfl, trivial⟩, S.selT (M := [.box g101 27 #[.int .i64 x3, .int .i64 x4, .int .i64 x5], .box g0 25 #[.int .i64 x0, .int .i64 x1, .slice A2 x2.length c2], .row 3 1 (.slice A2 x2.length c2) x2.length (x2.flatMap eI)]) 3 [0, 1, 2] rfl rfl rfl⟩
                  · replace hM110 := bif_t hc111 hM110
                    refine cond_t hF rfl hc111 ?_
                    refine wp_region_lit ?_
                    refine op_val (v := .pointer (some ⟨g0, 1, none⟩)) rfl rfl hF rfl (run_move rfl (hF.ev rfl)) ?_; clear hF; intro a hF
                    refine op_val (v := .pointer (some ⟨adB A2, adO A2 + x5.toNat * 1, none⟩)) rfl rfl hF rfl (run_move rfl (hF.ev rfl)) ?_; clear hF; intro a hF
                    refine op_val (v := .pointer (some ⟨adB A2, adO A2 + x5.toNat * 1, none⟩)) rfl rfl hF rfl (run_nilCheck rfl (hF.ev rfl)) ?_; clear hF; intro a hF
                    refine op_val (v := .int .i64 (x2.getD x5.toNat (0 : Int))) rfl rfl hF rfl (run_load1 rfl one3 (hF.ev rfl) (rd_el0 (l := x2) (S.rc 2 rfl).rd rfl eI_len (0 : Int) (ix_ltn hk105 rfl) rfl)) ?_; clear hF; intro a hF
                    refine op_val (v := .int .i64 (w64 ((x2.getD x5.toNat (0 : Int)) + 1))) rfl rfl hF rfl (run_add (z := w64 ((x2.getD x5.toNat (0 : Int)) + 1)) (hF.ev rfl) rfl rfl rfl) ?_; clear hF; intro a hF
                    refine op_val (v := .pointer (some ⟨g0, 1, none⟩)) rfl rfl hF rfl (run_nilCheck rfl (hF.ev rfl)) ?_; clear hF; intro a hF
                    refine op_do rfl rfl (run_store (cs' := #[.int .i64 x0, .int .i64 (w64 ((x2.getD x5.toNat (0 : Int)) + 1)), .slice A2 x2.length c2]) rfl sz3 (hF.ev rfl) (hF.ev rfl) rfl rfl rfl (S.free 1 rfl) rfl rfl) ?_; replace S := S.put 1 rfl (#[.int .i64 x0, .int .i64 (w64 ((x2.getD x5.toNat (0 : Int)) + 1)), .slice A2 x2.length c2])
                    generalize World.setRow _ _ _ = u at S ⊢
                    refine wpList_nil ?_
                    obtain rfl := Option.some.inj hM110
                    exact ⟨w64 ((x2.getD x5.toNat (0 : Int)) + 1), rfl, hF.keep _ ⟨rfl, rfl, trivial⟩, S.selT (M := [.box g101 27 #[.int .i64 x3, .int .i64 x4, .int .i64 x5], .box g0 25 #[.int .i64 x0, .int .i64 (w64 ((x2.getD x5.toNat (0 : Int)) + 1)), .slice A2 x2.length c2], .row 3 1 (.slice A2 x2.length c2) x2.length (x2.flatMap eI)]) 3 [0, 1, 2] rfl rfl rfl⟩
                · rintro a u ⟨p108, rfl, hF, S⟩
                  refine wp_seq ?_
                  refine wp_region_lit ?_
                  refine op_val (v := .pointer (some ⟨g0, 1, none⟩)) rfl rfl hF rfl (run_move rfl (hF.ev rfl)) ?_; clear hF; intro a hF
                  refine op_val (v := .pointer (some ⟨g0, 1, none⟩)) rfl rfl hF rfl (run_nilCheck rfl (hF.ev rfl)) ?_; clear hF; intro a hF
                  refine op_val (v := .int .i64 p108) rfl rfl hF rfl (run_load1 rfl one3 (hF.ev rfl) ((S.free 1 rfl).cell rfl)) ?_; clear hF; intro a hF
                  obtain ⟨p112, h112, hM⟩ := bind_ex hM
                  refine op_call rfl rfl hF rfl (run_call (vs := [.int .i64 p108]) rfl rfl co30 ⟨(hF.ev rfl), trivial⟩) (c_impl_epochValid (x0 := p108)  h112) ?_
                  rintro e u ⟨rfl, T⟩
                  refine ⟨_, rfl, ?_⟩
                  clear hF; intro a hF
                  replace S := S.call0 T; clear T
                  refine op_val (v := .bool p112) rfl rfl hF rfl (run_assign rfl (hF.ev rfl)) ?_; clear hF; intro a hF
                  refine wpList_nil ?_
                  refine wp_ret ?_
                  repeat with_reducible (first | refine then_ret ?_ | refine in_ret ?_ | refine in_nrm ?_)
                  refine ret1_gw (.inl rfl) hF rfl (res_tmp (hF.ev rfl)) ?_
                  obtain rfl := Option.some.inj hM
                  exact ⟨A2, x2.length, c2, rfl, rfl, S.selT (M := [.box g0 25 #[.int .i64 x0, .int .i64 p108, .slice A2 x2.length c2], .row 3 1 (.slice A2 x2.length c2) x2.length (x2.flatMap eI)]) 3 [1, 2] rfl rfl rfl⟩
        · replace hM := bif_t hc104 hM
          refine cond_t hF rfl hc104 ?_
          refine wp_seq ?_
          refine wp_region_lit ?_
          refine op_val (v := .bool false) rfl rfl hF rfl (run_assign rfl rfl) ?_; clear hF; intro a hF
          refine wpList_nil ?_
          refine wp_ret ?_
          repeat with_reducible (first | refine then_ret ?_ | refine in_ret ?_ | refine in_nrm ?_)
          refine ret1_gw (.inl rfl) hF rfl (res_tmp (hF.ev rfl)) ?_
          obtain rfl := Option.some.inj hM
          exact ⟨A2, x2.length, c2, rfl, rfl, S.selT (M := [.box g0 25 #[.int .i64 x0, .int .i64 x1, .slice A2 x2.length c2], .row 3 1 (.slice A2 x2.length c2) x2.length (x2.flatMap eI)]) 3 [1, 2] rfl rfl rfl⟩
    · replace hM := bif_t hc103 hM
      refine cond_t hF rfl hc103 ?_
      refine wp_seq ?_
      refine wp_region_lit ?_
      refine op_val (v := .pointer (some ⟨g0, 1, none⟩)) rfl rfl hF rfl (run_move rfl (hF.ev rfl)) ?_; clear hF; intro a hF
      refine op_val (v := .pointer (some ⟨g0, 1, none⟩)) rfl rfl hF rfl (run_nilCheck rfl (hF.ev rfl)) ?_; clear hF; intro a hF
      refine op_val (v := .int .i64 x1) rfl rfl hF rfl (run_load1 rfl one3 (hF.ev rfl) ((S.free 1 rfl).cell rfl)) ?_; clear hF; intro a hF
      refine op_val (v := .int .i64 (w64 (x1 + 2))) rfl rfl hF rfl (run_add (z := w64 (x1 + 2)) (hF.ev rfl) rfl rfl rfl) ?_; clear hF; intro a hF
      refine op_val (v := .pointer (some ⟨g0, 1, none⟩)) rfl rfl hF rfl (run_nilCheck rfl (hF.ev rfl)) ?_; clear hF; intro a hF
      refine op_do rfl rfl (run_store (cs' := #[.int .i64 x0, .int .i64 (w64 (x1 + 2)), .slice A2 x2.length c2]) rfl sz3 (hF.ev rfl) (hF.ev rfl) rfl rfl rfl (S.free 1 rfl) rfl rfl) ?_; replace S := S.put 1 rfl (#[.int .i64 x0, .int .i64 (w64 (x1 + 2)), .slice A2 x2.length c2])
      generalize World.setRow _ _ _ = u at S ⊢
      refine wpList_nil ?_
      refine wp_seq ?_
      refine wp_region_lit ?_
      refine op_val (v := .pointer (some ⟨g0, 1, none⟩)) rfl rfl hF rfl (run_move rfl (hF.ev rfl)) ?_; clear hF; intro a hF
      refine op_val (v := .pointer (some ⟨g0, 1, none⟩)) rfl rfl hF rfl (run_nilCheck rfl (hF.ev rfl)) ?_; clear hF; intro a hF
      refine op_val (v := .int .i64 (w64 (x1 + 2))) rfl rfl hF rfl (run_load1 rfl one3 (hF.ev rfl) ((S.free 1 rfl).cell rfl)) ?_; clear hF; intro a hF
      obtain ⟨p113, h113, hM⟩ := bind_ex hM
      refine op_call rfl rfl hF rfl (run_call (vs := [.int .i64 (w64 (x1 + 2))]) rfl rfl co30 ⟨(hF.ev rfl), trivial⟩) (c_impl_epochValid (x0 := w64 (x1 + 2))  h113) ?_
      rintro e u ⟨rfl, T⟩
      refine ⟨_, rfl, ?_⟩
      clear hF; intro a hF
      replace S := S.call0 T; clear T
      refine op_val (v := .bool p113) rfl rfl hF rfl (run_assign rfl (hF.ev rfl)) ?_; clear hF; intro a hF
      refine wpList_nil ?_
      refine wp_ret ?_
      repeat with_reducible (first | refine then_ret ?_ | refine in_ret ?_ | refine in_nrm ?_)
      refine ret1_gw (.inl rfl) hF rfl (res_tmp (hF.ev rfl)) ?_
      obtain rfl := Option.some.inj hM
      exact ⟨A2, x2.length, c2, rfl, rfl, S.selT (M := [.box g0 25 #[.int .i64 x0, .int .i64 (w64 (x1 + 2)), .slice A2 x2.length c2], .row 3 1 (.slice A2 x2.length c2) x2.length (x2.flatMap eI)]) 3 [1, 2] rfl rfl rfl⟩
  · replace hM := bif_t hc102 hM
    refine op_call rfl rfl hF rfl (run_call (vs := [.pointer (some ⟨g0, 0, none⟩), .int .i64 x4]) rfl rfl co31 ⟨(hF.ev rfl), (hF.ev rfl), trivial⟩) (c_impl_Rooms_epoch_0 hc102) ?_
    rintro e u ⟨rfl, T⟩
    refine ⟨_, rfl, ?_⟩
    clear hF; intro a hF
    replace S := S.call0 T; clear T
    refine op_val (v := .pointer (some ⟨g0, 0, none⟩)) rfl rfl hF rfl (run_assign rfl (hF.ev rfl)) ?_; clear hF; intro a hF
    refine wpList_nil ?_
    refine wp_seq ?_
    refine wp_seq ?_
    refine wp_region_lit ?_
    refine op_val (v := .pointer (some ⟨g101, 0, none⟩)) rfl rfl hF rfl (run_fieldAddr rfl fl27_0 (hF.ev rfl) rfl) ?_; clear hF; intro a hF
    refine op_val (v := .int .i64 x3) rfl rfl hF rfl (run_load1 rfl one3 (hF.ev rfl) ((S.free 0 rfl).cell rfl)) ?_; clear hF; intro a hF
    refine op_val (v := .bool (x3 == 0)) rfl rfl hF rfl (run_eql (hF.ev rfl) rfl rfl) ?_; clear hF; intro a hF
    refine wpList_nil ?_
    cases hc114 : (x3 == 0)
    · replace hM := bif_f hc114 hM
      refine cond_f hF rfl hc114 ?_
      refine wp_skip ?_
      refine wp_seq ?_
      refine wp_seq ?_
      refine region_gw (D := [23, 24, 25, 26, 27, 28, 29, 30, 31, 32, 33, 34, 35]) (Lr := (Asn.box g101 27 #[.int .i64 x3, .int .i64 x4, .int .i64 x5] :: Asn.box g0 25 #[.int .i64 x0, .int .i64 x1, .slice A2 x2.length c2] :: Asn.row 3 1 (.slice A2 x2.length c2) x2.length (x2.flatMap eI) :: X)) (deps := (fun | 0 => [23] | 1 => [24] | 2 => [25] | 3 => [26] | 4 => [27] | 5 => [28] | 6 => [29] | 7 => [30] | 8 => [31] | 9 => [32] | 10 => [33] | 11 => [34] | 12 => [35] | _ => [])) (rd := (fun _ => [])) (zr := (fun _ => []))
        (φ := fun i vs => match i, vs with | 0, [v23] => v23 = .pointer (some ⟨g101, 2, none⟩) | 1, [v24] => v24 = .int .i64 x5 | 2, [v25] => v25 = .bool (ltB x5 0) | 3, [v26] => v26 = .bool (ltB x5 0) | 4, [v27] => v27 = gv (!(ltB x5 0)) (.pointer (some ⟨g101, 2, none⟩)) | 5, [v28] => v28 = gv (!(ltB x5 0)) (.int .i64 x5) | 6, [v29] => v29 = gv (!(ltB x5 0)) (.pointer (some ⟨g0, 0, none⟩)) | 7, [v30] => v30 = gv (!(ltB x5 0)) (.pointer (some ⟨g0, 0, none⟩)) | 8, [v31] => v31 = gv (!(ltB x5 0)) (.pointer (some ⟨g0, 2, none⟩)) | 9, [v32] => v32 = gv (!(ltB x5 0)) (.slice A2 x2.length c2) | 10, [v33] => v33 = gv (!(ltB x5 0)) (.int .i64 (x2.length : Int)) | 11, [v34] => v34 = gv (!(ltB x5 0)) (.bool (leB (x2.length : Int) x5)) | 12, [v35] => v35 = .bool ((ltB x5 0) || (leB (x2.length : Int) x5)) | _, _ => True)
        (C := fun _ _ => [])
        (κ := (fun _ => none)) (Z := (fun _ => [])) mixed hF (by kernel_rfl) S ?_ ?_
      · refine ⟨?_, ?_, ?_, ?_, ?_, ?_, ?_, ?_, ?_, ?_, ?_, ?_, ?_, trivial⟩
        · intro a u X' hB hu hp hr hz hl S
          replace S : St w0 u ([] ++ X') := S
          exact .inl ⟨rfl, .pointer (some ⟨g101, 2, none⟩), u, (run_fieldAddr rfl fl27_2 (hF.evB hB rfl rfl) rfl), rfl, S⟩
        · intro a u X' hB hu hp hr hz hl S
          replace S : St w0 u ([] ++ X') := S
          have e23 : sl a 23 = .pointer (some ⟨g101, 2, none⟩) := hp 0 rfl
          exact .inl ⟨rfl, .int .i64 x5, u, (run_load1 rfl one3 (ev_sl e23) ((gr_box S hl 0 rfl).cell rfl)), rfl, S⟩
        · intro a u X' hB hu hp hr hz hl S
          replace S : St w0 u ([] ++ X') := S
          have e24 : sl a 24 = .int .i64 x5 := hp 1 rfl
          exact .inl ⟨rfl, .bool (ltB x5 0), u, (run_lss (ev_sl e24) (ev_const _ _) rfl), rfl, S⟩
        · intro a u X' hB hu hp hr hz hl S
          replace S : St w0 u ([] ++ X') := S
          have e25 : sl a 25 = .bool (ltB x5 0) := hp 2 rfl
          exact .inl ⟨rfl, .bool (ltB x5 0), u, (run_move rfl (ev_sl e25)), rfl, S⟩
        · intro a u X' hB hu hp hr hz hl S
          replace S : St w0 u ([] ++ X') := S
          have e26 : sl a 26 = .bool (ltB x5 0) := hp 3 rfl
          rcases (Bool.eq_false_or_eq_true (!(ltB x5 0))).symm with hg | hg
          · exact .inr (.inr (.inr ⟨gr_eg rfl (yf (gr_yield rfl rfl e26)) hg, (gv_f hg).symm, S⟩))
          · exact .inl ⟨gr_eg rfl (yf (gr_yield rfl rfl e26)) hg, .pointer (some ⟨g101, 2, none⟩), u, (run_fieldAddr rfl fl27_2 (hF.evB hB rfl rfl) rfl), (gv_t hg).symm, S⟩
        · intro a u X' hB hu hp hr hz hl S
          replace S : St w0 u ([] ++ X') := S
          have e26 : sl a 26 = .bool (ltB x5 0) := hp 3 rfl
          have e27 : sl a 27 = gv (!(ltB x5 0)) (.pointer (some ⟨g101, 2, none⟩)) := hp 4 rfl
          rcases (Bool.eq_false_or_eq_true (!(ltB x5 0))).symm with hg | hg
          · exact .inr (.inr (.inr ⟨gr_eg rfl (yf (gr_yield rfl rfl e26)) hg, (gv_f hg).symm, S⟩))
          · exact .inl ⟨gr_eg rfl (yf (gr_yield rfl rfl e26)) hg, .int .i64 x5, u, (run_load1 rfl one3 ((ev_sl e27).trans (gv_t hg)) ((gr_box S hl 0 rfl).cell rfl)), (gv_t hg).symm, S⟩
        · intro a u X' hB hu hp hr hz hl S
          replace S : St w0 u ([] ++ X') := S
          have e26 : sl a 26 = .bool (ltB x5 0) := hp 3 rfl
          rcases (Bool.eq_false_or_eq_true (!(ltB x5 0))).symm with hg | hg
          · exact .inr (.inr (.inr ⟨gr_eg rfl (yf (gr_yield rfl rfl e26)) hg, (gv_f hg).symm, S⟩))
          · exact .inl ⟨gr_eg rfl (yf (gr_yield rfl rfl e26)) hg, .pointer (some ⟨g0, 0, none⟩), u, (run_move rfl (hF.evB hB rfl rfl)), (gv_t hg).symm, S⟩
        · intro a u X' hB hu hp hr hz hl S
          replace S : St w0 u ([] ++ X') := S
          have e26 : sl a 26 = .bool (ltB x5 0) := hp 3 rfl
          have e29 : sl a 29 = gv (!(ltB x5 0)) (.pointer (some ⟨g0, 0, none⟩)) := hp 6 rfl
          rcases (Bool.eq_false_or_eq_true (!(ltB x5 0))).symm with hg | hg
          · exact .inr (.inr (.inr ⟨gr_eg rfl (yf (gr_yield rfl rfl e26)) hg, (gv_f hg).symm, S⟩))
          · exact .inl ⟨gr_eg rfl (yf (gr_yield rfl rfl e26)) hg, .pointer (some ⟨g0, 0, none⟩), u, (run_nilCheck rfl ((ev_sl e29).trans (gv_t hg))), (gv_t hg).symm, S⟩
        · intro a u X' hB hu hp hr hz hl S
          replace S : St w0 u ([] ++ X') := S
          have e26 : sl a 26 = .bool (ltB x5 0) := hp 3 rfl
          have e30 : sl a 30 = gv (!(ltB x5 0)) (.pointer (some ⟨g0, 0, none⟩)) := hp 7 rfl
          rcases (Bool.eq_false_or_eq_true (!(ltB x5 0))).symm with hg | hg
          · exact .inr (.inr (.inr ⟨gr_eg rfl (yf (gr_yield rfl rfl e26)) hg, (gv_f hg).symm, S⟩))
          · exact .inl ⟨gr_eg rfl (yf (gr_yield rfl rfl e26)) hg, .pointer (some ⟨g0, 2, none⟩), u, (run_fieldAddr rfl fl25_2 ((ev_sl e30).trans (gv_t hg)) rfl), (gv_t hg).symm, S⟩
        · intro a u X' hB hu hp hr hz hl S
          replace S : St w0 u ([] ++ X') := S
          have e26 : sl a 26 = .bool (ltB x5 0) := hp 3 rfl
          have e31 : sl a 31 = gv (!(ltB x5 0)) (.pointer (some ⟨g0, 2, none⟩)) := hp 8 rfl
          rcases (Bool.eq_false_or_eq_true (!(ltB x5 0))).symm with hg | hg
          · exact .inr (.inr (.inr ⟨gr_eg rfl (yf (gr_yield rfl rfl e26)) hg, (gv_f hg).symm, S⟩))
          · exact .inl ⟨gr_eg rfl (yf (gr_yield rfl rfl e26)) hg, .slice A2 x2.length c2, u, (run_load1 rfl one23 ((ev_sl e31).trans (gv_t hg)) ((gr_box S hl 1 rfl).cell rfl)), (gv_t hg).symm, S⟩
        · intro a u X' hB hu hp hr hz hl S
          replace S : St w0 u ([] ++ X') := S
          have e26 : sl a 26 = .bool (ltB x5 0) := hp 3 rfl
          have e32 : sl a 32 = gv (!(ltB x5 0)) (.slice A2 x2.length c2) := hp 9 rfl
          rcases (Bool.eq_false_or_eq_true (!(ltB x5 0))).symm with hg | hg
          · exact .inr (.inr (.inr ⟨gr_eg rfl (yf (gr_yield rfl rfl e26)) hg, (gv_f hg).symm, S⟩))
          · exact .inl ⟨gr_eg rfl (yf (gr_yield rfl rfl e26)) hg, .int .i64 (x2.length : Int), u, (run_lenL rfl rfl Tryd.underlying23 ((ev_sl e32).trans (gv_t hg))), (gv_t hg).symm, S⟩
        · intro a u X' hB hu hp hr hz hl S
          replace S : St w0 u ([] ++ X') := S
          have e26 : sl a 26 = .bool (ltB x5 0) := hp 3 rfl
          have e28 : sl a 28 = gv (!(ltB x5 0)) (.int .i64 x5) := hp 5 rfl
          have e33 : sl a 33 = gv (!(ltB x5 0)) (.int .i64 (x2.length : Int)) := hp 10 rfl
          rcases (Bool.eq_false_or_eq_true (!(ltB x5 0))).symm with hg | hg
          · exact .inr (.inr (.inr ⟨gr_eg rfl (yf (gr_yield rfl rfl e26)) hg, (gv_f hg).symm, S⟩))
          · exact .inl ⟨gr_eg rfl (yf (gr_yield rfl rfl e26)) hg, .bool (leB (x2.length : Int) x5), u, (run_geq ((ev_sl e28).trans (gv_t hg)) ((ev_sl e33).trans (gv_t hg)) rfl), (gv_t hg).symm, S⟩
        · intro a u X' hB hu hp hr hz hl S
          replace S : St w0 u ([] ++ X') := S
          have e26 : sl a 26 = .bool (ltB x5 0) := hp 3 rfl
          have e34 : sl a 34 = gv (!(ltB x5 0)) (.bool (leB (x2.length : Int) x5)) := hp 11 rfl
          exact .inl ⟨rfl, .bool ((ltB x5 0) || (leB (x2.length : Int) x5)), u, (run_pick_or rfl (ev_sl e26) (ev_const _ _) (fun hp => ((ev_sl e34).trans (gv_t (not_t hp))))), rfl, S⟩
      · intro a u hB hp S
        obtain ⟨q0, q1, q2, q3, q4, q5, q6, q7, q8, q9, q10, q11, q12, _⟩ := hp
        have e23 : sl a 23 = .pointer (some ⟨g101, 2, none⟩) := q0
        have e24 : sl a 24 = .int .i64 x5 := q1
        have e25 : sl a 25 = .bool (ltB x5 0) := q2
        have e26 : sl a 26 = .bool (ltB x5 0) := q3
        have e27 : sl a 27 = gv (!(ltB x5 0)) (.pointer (some ⟨g101, 2, none⟩)) := q4
        have e28 : sl a 28 = gv (!(ltB x5 0)) (.int .i64 x5) := q5
        have e29 : sl a 29 = gv (!(ltB x5 0)) (.pointer (some ⟨g0, 0, none⟩)) := q6
        have e30 : sl a 30 = gv (!(ltB x5 0)) (.pointer (some ⟨g0, 0, none⟩)) := q7
        have e31 : sl a 31 = gv (!(ltB x5 0)) (.pointer (some ⟨g0, 2, none⟩)) := q8
        have e32 : sl a 32 = gv (!(ltB x5 0)) (.slice A2 x2.length c2) := q9
        have e33 : sl a 33 = gv (!(ltB x5 0)) (.int .i64 (x2.length : Int)) := q10
        have e34 : sl a 34 = gv (!(ltB x5 0)) (.bool (leB (x2.length : Int) x5)) := q11
        have e35 : sl a 35 = .bool ((ltB x5 0) || (leB (x2.length : Int) x5)) := q12
        replace S : St w0 u (Asn.box g101 27 #[.int .i64 x3, .int .i64 x4, .int .i64 x5] :: Asn.box g0 25 #[.int .i64 x0, .int .i64 x1, .slice A2 x2.length c2] :: Asn.row 3 1 (.slice A2 x2.length c2) x2.length (x2.flatMap eI) :: X) := S
        clear q0 q1 q2 q3 q4 q5 q6 q7 q8 q9 q10 q11 q12
        have hF := hF.region hB [(23, .pointer (some ⟨g101, 2, none⟩)), (24, .int .i64 x5), (25, .bool (ltB x5 0)), (26, .bool (ltB x5 0)), (27, gv (!(ltB x5 0)) (.pointer (some ⟨g101, 2, none⟩))), (28, gv (!(ltB x5 0)) (.int .i64 x5)), (29, gv (!(ltB x5 0)) (.pointer (some ⟨g0, 0, none⟩))), (30, gv (!(ltB x5 0)) (.pointer (some ⟨g0, 0, none⟩))), (31, gv (!(ltB x5 0)) (.pointer (some ⟨g0, 2, none⟩))), (32, gv (!(ltB x5 0)) (.slice A2 x2.length c2)), (33, gv (!(ltB x5 0)) (.int .i64 (x2.length : Int))), (34, gv (!(ltB x5 0)) (.bool (leB (x2.length : Int) x5))), (35, .bool ((ltB x5 0) || (leB (x2.length : Int) x5)))] (allSl_mem ⟨e23, e24, e25, e26, e27, e28, e29, e30, e31, e32, e33, e34, e35, trivial⟩) rfl
        clear hB e23 e24 e25 e26 e27 e28 e29 e30 e31 e32 e33 e34 e35
        cases hc115 : ((ltB x5 0) || (leB (x2.length : Int) x5))
        · replace hM := bif_f hc115 hM
          refine cond_f hF rfl hc115 ?_
          refine wp_skip ?_
          refine wp_seq ?_
          obtain ⟨hk116, hM⟩ := chk_ex hM
          replace hk116 := ixB_t hk116
          refine region_gw (D := [36, 37, 38, 39, 40, 41, 42, 6]) (Lr := (Asn.box g101 27 #[.int .i64 x3, .int .i64 x4, .int .i64 x5] :: Asn.box g0 25 #[.int .i64 x0, .int .i64 x1, .slice A2 x2.length c2] :: Asn.row 3 1 (.slice A2 x2.length c2) x2.length (x2.flatMap eI) :: X)) (deps := (fun | 0 => [36] | 1 => [37] | 2 => [38] | 3 => [39] | 4 => [40] | 5 => [41] | 6 => [42] | 7 => [6] | _ => [])) (rd := (fun _ => [])) (zr := (fun _ => []))
            (φ := fun i vs => match i, vs with | 0, [v36] => v36 = .pointer (some ⟨g0, 0, none⟩) | 1, [v37] => v37 = .pointer (some ⟨g0, 0, none⟩) | 2, [v38] => v38 = .pointer (some ⟨g0, 2, none⟩) | 3, [v39] => v39 = .slice A2 x2.length c2 | 4, [v40] => v40 = .pointer (some ⟨g101, 2, none⟩) | 5, [v41] => v41 = .int .i64 x5 | 6, [v42] => v42 = .pointer (some ⟨adB A2, adO A2 + x5.toNat * 1, none⟩) | 7, [v6] => v6 = .pointer (some ⟨adB A2, adO A2 + x5.toNat * 1, none⟩) | _, _ => True)
            (C := fun _ _ => [])
            (κ := (fun _ => none)) (Z := (fun _ => [])) mixed hF (by kernel_rfl) S ?_ ?_
          · refine ⟨?_, ?_, ?_, ?_, ?_, ?_, ?_, ?_, trivial⟩
            · intro a u X' hB hu hp hr hz hl S
              replace S : St w0 u ([] ++ X') := S
              exact .inl ⟨rfl, .pointer (some ⟨g0, 0, none⟩), u, (run_move rfl (hF.evB hB rfl rfl)), rfl, S⟩
            · intro a u X' hB hu hp hr hz hl S
              replace S : St w0 u ([] ++ X') := S
              have e36 : sl a 36 = .pointer (some ⟨g0, 0, none⟩) := hp 0 rfl
              exact .inl ⟨rfl, .pointer (some ⟨g0, 0, none⟩), u, (run_nilCheck rfl (ev_sl e36)), rfl, S⟩
            · intro a u X' hB hu hp hr hz hl S
              replace S : St w0 u ([] ++ X') := S
              have e37 : sl a 37 = .pointer (some ⟨g0, 0, none⟩) := hp 1 rfl
              exact .inl ⟨rfl, .pointer (some ⟨g0, 2, none⟩), u, (run_fieldAddr rfl fl25_2 (ev_sl e37) rfl), rfl, S⟩
            · intro a u X' hB hu hp hr hz hl S
              replace S : St w0 u ([] ++ X') := S
              have e38 : sl a 38 = .pointer (some ⟨g0, 2, none⟩) := hp 2 rfl
              exact .inl ⟨rfl, .slice A2 x2.length c2, u, (run_load1 rfl one23 (ev_sl e38) ((gr_box S hl 1 rfl).cell rfl)), rfl, S⟩
            · intro a u X' hB hu hp hr hz hl S
              replace S : St w0 u ([] ++ X') := S
              exact .inl ⟨rfl, .pointer (some ⟨g101, 2, none⟩), u, (run_fieldAddr rfl fl27_2 (hF.evB hB rfl rfl) rfl), rfl, S⟩
            · intro a u X' hB hu hp hr hz hl S
              replace S : St w0 u ([] ++ X') := S
              have e40 : sl a 40 = .pointer (some ⟨g101, 2, none⟩) := hp 4 rfl
              exact .inl ⟨rfl, .int .i64 x5, u, (run_load1 rfl one3 (ev_sl e40) ((gr_box S hl 0 rfl).cell rfl)), rfl, S⟩
            · intro a u X' hB hu hp hr hz hl S
              replace S : St w0 u ([] ++ X') := S
              have e39 : sl a 39 = .slice A2 x2.length c2 := hp 3 rfl
              have e41 : sl a 41 = .int .i64 x5 := hp 5 rfl
              exact .inl ⟨rfl, .pointer (some ⟨adB A2, adO A2 + x5.toNat * 1, none⟩), u, (run_indexAddr (b := adB A2) (off := adO A2) rfl Tryd.underlying23 sz3 ((ev_sl e39).trans (congrArg (fun A => Value.slice A x2.length c2) ((gr_rc S hl 2 rfl).rd.ad (ix_pos hk116)))) (ev_sl e41) hk116.1 hk116.2 (k' := adO A2 + x5.toNat * 1) rfl), rfl, S⟩
            · intro a u X' hB hu hp hr hz hl S
              replace S : St w0 u ([] ++ X') := S
              have e42 : sl a 42 = .pointer (some ⟨adB A2, adO A2 + x5.toNat * 1, none⟩) := hp 6 rfl
              exact .inl ⟨rfl, .pointer (some ⟨adB A2, adO A2 + x5.toNat * 1, none⟩), u, (run_assign rfl (ev_sl e42)), rfl, S⟩
          · intro a u hB hp S
            obtain ⟨q0, q1, q2, q3, q4, q5, q6, q7, _⟩ := hp
            have e36 : sl a 36 = .pointer (some ⟨g0, 0, none⟩) := q0
            have e37 : sl a 37 = .pointer (some ⟨g0, 0, none⟩) := q1
            have e38 : sl a 38 = .pointer (some ⟨g0, 2, none⟩) := q2
            have e39 : sl a 39 = .slice A2 x2.length c2 := q3
            have e40 : sl a 40 = .pointer (some ⟨g101, 2, none⟩) := q4
            have e41 : sl a 41 = .int .i64 x5 := q5
            have e42 : sl a 42 = .pointer (some ⟨adB A2, adO A2 + x5.toNat * 1, none⟩) := q6
            have e6 : sl a 6 = .pointer (some ⟨adB A2, adO A2 + x5.toNat * 1, none⟩) := q7
            replace S : St w0 u (Asn.box g101 27 #[.int .i64 x3, .int .i64 x4, .int .i64 x5] :: Asn.box g0 25 #[.int .i64 x0, .int .i64 x1, .slice A2 x2.length c2] :: Asn.row 3 1 (.slice A2 x2.length c2) x2.length (x2.flatMap eI) :: X) := S
            clear q0 q1 q2 q3 q4 q5 q6 q7
            have hF := hF.region hB [(36, .pointer (some ⟨g0, 0, none⟩)), (37, .pointer (some ⟨g0, 0, none⟩)), (38, .pointer (some ⟨g0, 2, none⟩)), (39, .slice A2 x2.length c2), (40, .pointer (some ⟨g101, 2, none⟩)), (41, .int .i64 x5), (42, .pointer (some ⟨adB A2, adO A2 + x5.toNat * 1, none⟩)), (6, .pointer (some ⟨adB A2, adO A2 + x5.toNat * 1, none⟩))] (allSl_mem ⟨e36, e37, e38, e39, e40, e41, e42, e6, trivial⟩) rfl
            clear hB e36 e37 e38 e39 e40 e41 e42 e6
            refine wp_seq ?_
            refine wp_seq ?_
            refine wp_region_lit ?_
            refine op_val (v := .pointer (some ⟨g101, 0, none⟩)) rfl rfl hF rfl (run_fieldAddr rfl fl27_0 (hF.ev rfl) rfl) ?_; clear hF; intro a hF
            refine op_val (v := .int .i64 x3) rfl rfl hF rfl (run_load1 rfl one3 (hF.ev rfl) ((S.free 0 rfl).cell rfl)) ?_; clear hF; intro a hF
            refine wpList_nil ?_
            refine wp_block ?_
            refine wp_seq ?_
            refine wp_region_lit ?_
            refine op_val (v := .bool (x3 == 1)) rfl rfl hF rfl (run_eql (hF.ev rfl) rfl rfl) ?_; clear hF; intro a hF
            refine op_val (v := .bool (x3 == 1)) rfl rfl hF rfl (run_assign rfl (hF.ev rfl)) ?_; clear hF; intro a hF
            refine wpList_nil ?_
            cases hc117 : (x3 == 1)
            · replace hM := bif_f hc117 hM
              refine cond_f hF rfl hc117 ?_
              refine wp_seq ?_
              refine wp_region_lit ?_
              refine op_val (v := .bool (x3 == 2)) rfl rfl hF rfl (run_eql (hF.ev rfl) rfl rfl) ?_; clear hF; intro a hF
              refine op_val (v := .bool (x3 == 2)) rfl rfl hF rfl (run_assign rfl (hF.ev rfl)) ?_; clear hF; intro a hF
              refine wpList_nil ?_
              cases hc118 : (x3 == 2)
              · replace hM := bif_f hc118 hM
                refine cond_f hF rfl hc118 ?_
                refine wp_skip ?_
                refine wp_seq ?_
                refine wp_region_lit ?_
                refine op_val (v := .bool false) rfl rfl hF rfl (run_assign rfl rfl) ?_; clear hF; intro a hF
                refine wpList_nil ?_
                refine wp_ret ?_
                repeat with_reducible (first | refine then_ret ?_ | refine in_ret ?_ | refine in_nrm ?_)
                refine ret1_gw (.inl rfl) hF rfl (res_tmp (hF.ev rfl)) ?_
                obtain rfl := Option.some.inj hM
                exact ⟨A2, x2.length, c2, rfl, rfl, S.selT (M := [.box g0 25 #[.int .i64 x0, .int .i64 x1, .slice A2 x2.length c2], .row 3 1 (.slice A2 x2.length c2) x2.length (x2.flatMap eI)]) 3 [1, 2] rfl rfl rfl⟩
              · replace hM := bif_t hc118 hM
                refine cond_t hF rfl hc118 ?_
                refine wp_seq ?_
                refine region_gw (D := [66, 67, 68, 69, 70, 71, 72, 73, 74]) (Lr := (Asn.box g101 27 #[.int .i64 x3, .int .i64 x4, .int .i64 x5] :: Asn.box g0 25 #[.int .i64 x0, .int .i64 x1, .slice A2 x2.length c2] :: X)) (deps := (fun | 0 => [66] | 1 => [67] | 2 => [68] | 3 => [69] | 4 => [70] | 5 => [71] | 6 => [72] | 7 => [73] | 8 => [74] | 9 => [74] | _ => [])) (rd := (fun _ => [])) (zr := (fun | 3 => [9] | _ => []))
                  (φ := fun i vs => match i, vs with | 0, [v66] => v66 = .pointer (some ⟨adB A2, adO A2 + x5.toNat * 1, none⟩) | 1, [v67] => v67 = .pointer (some ⟨adB A2, adO A2 + x5.toNat * 1, none⟩) | 2, [v68] => v68 = .pointer (some ⟨adB A2, adO A2 + x5.toNat * 1, none⟩) | 3, [v69] => v69 = .int .i64 (x2.getD x5.toNat (0 : Int)) | 4, [v70] => v70 = .pointer (some ⟨g0, 0, none⟩) | 5, [v71] => v71 = .pointer (some ⟨g0, 0, none⟩) | 6, [v72] => v72 = .int .i64 x0 | 7, [v73] => v73 = .int .i64 (max (x2.getD x5.toNat (0 : Int)) x0) | 8, [v74] => v74 = .pointer (some ⟨adB A2, adO A2 + x5.toNat * 1, none⟩) | _, _ => True)
                  (C := fun i vs => match i, vs with | 9, [v74] => [.row 3 1 (.slice A2 x2.length c2) x2.length ((x2.set x5.toNat (max (x2.getD x5.toNat (0 : Int)) x0)).flatMap eI)] | _, _ => [])
                  (κ := (fun _ => none)) (Z := (fun | 9 => [.row 3 1 (.slice A2 x2.length c2) x2.length (x2.flatMap eI)] | _ => [])) mixed hF (by kernel_rfl) (show St w0 _ (Asn.row 3 1 (.slice A2 x2.length c2) x2.length (x2.flatMap eI) :: Asn.box g101 27 #[.int .i64 x3, .int .i64 x4, .int .i64 x5] :: Asn.box g0 25 #[.int .i64 x0, .int .i64 x1, .slice A2 x2.length c2] :: X) from S.selT (M := [.row 3 1 (.slice A2 x2.length c2) x2.length (x2.flatMap eI), .box g101 27 #[.int .i64 x3, .int .i64 x4, .int .i64 x5], .box g0 25 #[.int .i64 x0, .int .i64 x1, .slice A2 x2.length c2]]) 3 [2, 0, 1] rfl rfl rfl) ?_ ?_
                · refine ⟨?_, ?_, ?_, ?_, ?_, ?_, ?_, ?_, ?_, ?_, trivial⟩
                  · intro a u X' hB hu hp hr hz hl S
                    replace S : St w0 u ([] ++ X') := S
                    exact .inl ⟨rfl, .pointer (some ⟨adB A2, adO A2 + x5.toNat * 1, none⟩), u, (run_move rfl (hF.evB hB rfl rfl)), rfl, S⟩
                  · intro a u X' hB hu hp hr hz hl S
                    replace S : St w0 u ([] ++ X') := S
                    exact .inl ⟨rfl, .pointer (some ⟨adB A2, adO A2 + x5.toNat * 1, none⟩), u, (run_move rfl (hF.evB hB rfl rfl)), rfl, S⟩
                  · intro a u X' hB hu hp hr hz hl S
                    replace S : St w0 u ([] ++ X') := S
                    have e67 : sl a 67 = .pointer (some ⟨adB A2, adO A2 + x5.toNat * 1, none⟩) := hp 1 rfl
                    exact .inl ⟨rfl, .pointer (some ⟨adB A2, adO A2 + x5.toNat * 1, none⟩), u, (run_nilCheck rfl (ev_sl e67)), rfl, S⟩
                  · intro a u X' hB hu hp hr hz hl S
                    replace S : St w0 u ([] ++ X') := S
                    have e68 : sl a 68 = .pointer (some ⟨adB A2, adO A2 + x5.toNat * 1, none⟩) := hp 2 rfl
                    exact .inl ⟨rfl, .int .i64 (x2.getD x5.toNat (0 : Int)), u, (run_load1 rfl one3 (ev_sl e68) (rd_el0 (l := x2) (own_rc (show World.ownsRow _ 0 _ _ _ _ _ from S.mem (List.mem_append_right _ (hz 9 (List.mem_of_getElem? (i := 0) rfl) _ (List.mem_of_getElem? (i := 0) rfl))))).rd rfl eI_len (0 : Int) (ix_ltn hk116 rfl) rfl)), rfl, S⟩
                  · intro a u X' hB hu hp hr hz hl S
                    replace S : St w0 u ([] ++ X') := S
                    exact .inl ⟨rfl, .pointer (some ⟨g0, 0, none⟩), u, (run_move rfl (hF.evB hB rfl rfl)), rfl, S⟩
                  · intro a u X' hB hu hp hr hz hl S
                    replace S : St w0 u ([] ++ X') := S
                    have e70 : sl a 70 = .pointer (some ⟨g0, 0, none⟩) := hp 4 rfl
                    exact .inl ⟨rfl, .pointer (some ⟨g0, 0, none⟩), u, (run_nilCheck rfl (ev_sl e70)), rfl, S⟩
                  · intro a u X' hB hu hp hr hz hl S
                    replace S : St w0 u ([] ++ X') := S
                    have e71 : sl a 71 = .pointer (some ⟨g0, 0, none⟩) := hp 5 rfl
                    exact .inl ⟨rfl, .int .i64 x0, u, (run_load1 rfl one3 (ev_sl e71) ((gr_box S hl 1 rfl).cell rfl)), rfl, S⟩
                  · intro a u X' hB hu hp hr hz hl S
                    replace S : St w0 u ([] ++ X') := S
                    have e69 : sl a 69 = .int .i64 (x2.getD x5.toNat (0 : Int)) := hp 3 rfl
                    have e72 : sl a 72 = .int .i64 x0 := hp 6 rfl
                    exact .inl ⟨rfl, .int .i64 (max (x2.getD x5.toNat (0 : Int)) x0), u, (run_max rfl (ev_sl e69) (ev_sl e72)), rfl, S⟩
                  · intro a u X' hB hu hp hr hz hl S
                    replace S : St w0 u ([] ++ X') := S
                    have e66 : sl a 66 = .pointer (some ⟨adB A2, adO A2 + x5.toNat * 1, none⟩) := hp 0 rfl
                    exact .inl ⟨rfl, .pointer (some ⟨adB A2, adO A2 + x5.toNat * 1, none⟩), u, (run_nilCheck rfl (ev_sl e66)), rfl, S⟩
                  · intro a u X' hB hu hp hr hz hl S
                    replace S : St w0 u ([.row 3 1 (.slice A2 x2.length c2) x2.length (x2.flatMap eI)] ++ X') := S
                    have e73 : sl a 73 = .int .i64 (max (x2.getD x5.toNat (0 : Int)) x0) := hp 7 rfl
                    have e74 : sl a 74 = .pointer (some ⟨adB A2, adO A2 + x5.toNat * 1, none⟩) := hp 8 rfl
                    obtain ⟨w', hrun, S'⟩ := run_storeElN (P := Tryd.prog) (ρ := a.eval) (y0 := max (x2.getD x5.toNat (0 : Int)) x0) (off := 0) S 3 (.tmp 74) (.tmp 73) (i := 0) sz3 (ev_sl e74) (ev_sl e73) rfl rfl rfl rfl rfl eI_len (0 : Int) (ix_ltn hk116 rfl) rfl rfl
                    exact .inr (.inl ⟨rfl, w', hrun _ rfl, trivial, S'⟩)
                · intro a u hB hp S
                  obtain ⟨q0, q1, q2, q3, q4, q5, q6, q7, q8, q9, _⟩ := hp
                  have e66 : sl a 66 = .pointer (some ⟨adB A2, adO A2 + x5.toNat * 1, none⟩) := q0
                  have e67 : sl a 67 = .pointer (some ⟨adB A2, adO A2 + x5.toNat * 1, none⟩) := q1
                  have e68 : sl a 68 = .pointer (some ⟨adB A2, adO A2 + x5.toNat * 1, none⟩) := q2
                  have e69 : sl a 69 = .int .i64 (x2.getD x5.toNat (0 : Int)) := q3
                  have e70 : sl a 70 = .pointer (some ⟨g0, 0, none⟩) := q4
                  have e71 : sl a 71 = .pointer (some ⟨g0, 0, none⟩) := q5
                  have e72 : sl a 72 = .int .i64 x0 := q6
                  have e73 : sl a 73 = .int .i64 (max (x2.getD x5.toNat (0 : Int)) x0) := q7
                  have e74 : sl a 74 = .pointer (some ⟨adB A2, adO A2 + x5.toNat * 1, none⟩) := q8
                  replace S : St w0 u (Asn.row 3 1 (.slice A2 x2.length c2) x2.length ((x2.set x5.toNat (max (x2.getD x5.toNat (0 : Int)) x0)).flatMap eI) :: Asn.box g101 27 #[.int .i64 x3, .int .i64 x4, .int .i64 x5] :: Asn.box g0 25 #[.int .i64 x0, .int .i64 x1, .slice A2 x2.length c2] :: X) := S
                  clear q0 q1 q2 q3 q4 q5 q6 q7 q8 q9
                  have hF := hF.region hB [(66, .pointer (some ⟨adB A2, adO A2 + x5.toNat * 1, none⟩)), (67, .pointer (some ⟨adB A2, adO A2 + x5.toNat * 1, none⟩)), (68, .pointer (some ⟨adB A2, adO A2 + x5.toNat * 1, none⟩)), (69, .int .i64 (x2.getD x5.toNat (0 : Int))), (70, .pointer (some ⟨g0, 0, none⟩)), (71, .pointer (some ⟨g0, 0, none⟩)), (72, .int .i64 x0), (73, .int .i64 (max (x2.getD x5.toNat (0 : Int)) x0)), (74, .pointer (some ⟨adB A2, adO A2 + x5.toNat * 1, none⟩))] (allSl_mem ⟨e66, e67, e68, e69, e70, e71, e72, e73, e74, trivial⟩) rfl
                  clear hB e66 e67 e68 e69 e70 e71 e72 e73 e74
                  refine wp_seq ?_
                  refine wp_region_lit ?_
                  refine op_val (v := .bool true) rfl rfl hF rfl (run_assign rfl rfl) ?_; clear hF; intro a hF
                  refine wpList_nil ?_
                  refine wp_ret ?_
                  repeat with_reducible (first | refine then_ret ?_ | refine in_ret ?_ | refine in_nrm ?_)
                  refine ret1_gw (.inl rfl) hF rfl (res_tmp (hF.ev rfl)) ?_
                  obtain rfl := Option.some.inj hM
                  exact ⟨A2, x2.length, c2, rfl, (len_set rfl), S.selT (M := [.box g0 25 #[.int .i64 x0, .int .i64 x1, .slice A2 x2.length c2], .row 3 1 (.slice A2 x2.length c2) x2.length ((x2.set x5.toNat (max (x2.getD x5.toNat (0 : Int)) x0)).flatMap eI)]) 3 [2, 0] rfl rfl rfl⟩
            · replace hM := bif_t hc117 hM
              refine cond_t hF rfl hc117 ?_
              refine wp_seq ?_
              refine wp_seq ?_
              refine region_gw (D := [47, 48, 49, 50, 51, 52, 53]) (Lr := (Asn.box g101 27 #[.int .i64 x3, .int .i64 x4, .int .i64 x5] :: Asn.box g0 25 #[.int .i64 x0, .int .i64 x1, .slice A2 x2.length c2] :: Asn.row 3 1 (.slice A2 x2.length c2) x2.length (x2.flatMap eI) :: X)) (deps := (fun | 0 => [47] | 1 => [48] | 2 => [49] | 3 => [50] | 4 => [51] | 5 => [52] | 6 => [53] | _ => [])) (rd := (fun _ => [])) (zr := (fun _ => []))
                (φ := fun i vs => match i, vs with | 0, [v47] => v47 = .pointer (some ⟨adB A2, adO A2 + x5.toNat * 1, none⟩) | 1, [v48] => v48 = .pointer (some ⟨adB A2, adO A2 + x5.toNat * 1, none⟩) | 2, [v49] => v49 = .int .i64 (x2.getD x5.toNat (0 : Int)) | 3, [v50] => v50 = .pointer (some ⟨g0, 0, none⟩) | 4, [v51] => v51 = .pointer (some ⟨g0, 0, none⟩) | 5, [v52] => v52 = .int .i64 x0 | 6, [v53] => v53 = .bool (ltB x0 (x2.getD x5.toNat (0 : Int))) | _, _ => True)
                (C := fun _ _ => [])
                (κ := (fun _ => none)) (Z := (fun _ => [])) mixed hF (by kernel_rfl) S ?_ ?_
              · refine ⟨?_, ?_, ?_, ?_, ?_, ?_, ?_, trivial⟩
                · intro a u X' hB hu hp hr hz hl S
                  replace S : St w0 u ([] ++ X') := S
                  exact .inl ⟨rfl, .pointer (some ⟨adB A2, adO A2 + x5.toNat * 1, none⟩), u, (run_move rfl (hF.evB hB rfl rfl)), rfl, S⟩
                · intro a u X' hB hu hp hr hz hl S
                  replace S : St w0 u ([] ++ X') := S
                  have e47 : sl a 47 = .pointer (some ⟨adB A2, adO A2 + x5.toNat * 1, none⟩) := hp 0 rfl
                  exact .inl ⟨rfl, .pointer (some ⟨adB A2, adO A2 + x5.toNat * 1, none⟩), u, (run_nilCheck rfl (ev_sl e47)), rfl, S⟩
                · intro a u X' hB hu hp hr hz hl S
                  replace S : St w0 u ([] ++ X') := S
                  have e48 : sl a 48 = .pointer (some ⟨adB A2, adO A2 + x5.toNat * 1, none⟩) := hp 1 rfl
                  exact .inl ⟨rfl, .int .i64 (x2.getD x5.toNat (0 : Int)), u, (run_load1 rfl one3 (ev_sl e48) (rd_el0 (l := x2) (gr_rc S hl 2 rfl).rd rfl eI_len (0 : Int) (ix_ltn hk116 rfl) rfl)), rfl, S⟩
                · intro a u X' hB hu hp hr hz hl S
                  replace S : St w0 u ([] ++ X') := S
                  exact .inl ⟨rfl, .pointer (some ⟨g0, 0, none⟩), u, (run_move rfl (hF.evB hB rfl rfl)), rfl, S⟩
                · intro a u X' hB hu hp hr hz hl S
                  replace S : St w0 u ([] ++ X') := S
                  have e50 : sl a 50 = .pointer (some ⟨g0, 0, none⟩) := hp 3 rfl
                  exact .inl ⟨rfl, .pointer (some ⟨g0, 0, none⟩), u, (run_nilCheck rfl (ev_sl e50)), rfl, S⟩
                · intro a u X' hB hu hp hr hz hl S
                  replace S : St w0 u ([] ++ X') := S
                  have e51 : sl a 51 = .pointer (some ⟨g0, 0, none⟩) := hp 4 rfl
                  exact .inl ⟨rfl, .int .i64 x0, u, (run_load1 rfl one3 (ev_sl e51) ((gr_box S hl 1 rfl).cell rfl)), rfl, S⟩
                · intro a u X' hB hu hp hr hz hl S
                  replace S : St w0 u ([] ++ X') := S
                  have e49 : sl a 49 = .int .i64 (x2.getD x5.toNat (0 : Int)) := hp 2 rfl
                  have e52 : sl a 52 = .int .i64 x0 := hp 5 rfl
                  exact .inl ⟨rfl, .bool (ltB x0 (x2.getD x5.toNat (0 : Int))), u, (run_gtr (ev_sl e49) (ev_sl e52) rfl), rfl, S⟩
              · intro a u hB hp S
                obtain ⟨q0, q1, q2, q3, q4, q5, q6, _⟩ := hp
                have e47 : sl a 47 = .pointer (some ⟨adB A2, adO A2 + x5.toNat * 1, none⟩) := q0
                have e48 : sl a 48 = .pointer (some ⟨adB A2, adO A2 + x5.toNat * 1, none⟩) := q1
                have e49 : sl a 49 = .int .i64 (x2.getD x5.toNat (0 : Int)) := q2
                have e50 : sl a 50 = .pointer (some ⟨g0, 0, none⟩) := q3
                have e51 : sl a 51 = .pointer (some ⟨g0, 0, none⟩) := q4
                have e52 : sl a 52 = .int .i64 x0 := q5
                have e53 : sl a 53 = .bool (ltB x0 (x2.getD x5.toNat (0 : Int))) := q6
                replace S : St w0 u (Asn.box g101 27 #[.int .i64 x3, .int .i64 x4, .int .i64 x5] :: Asn.box g0 25 #[.int .i64 x0, .int .i64 x1, .slice A2 x2.length c2] :: Asn.row 3 1 (.slice A2 x2.length c2) x2.length (x2.flatMap eI) :: X) := S
                clear q0 q1 q2 q3 q4 q5 q6
                have hF := hF.region hB [(47, .pointer (some ⟨adB A2, adO A2 + x5.toNat * 1, none⟩)), (48, .pointer (some ⟨adB A2, adO A2 + x5.toNat * 1, none⟩)), (49, .int .i64 (x2.getD x5.toNat (0 : Int))), (50, .pointer (some ⟨g0, 0, none⟩)), (51, .pointer (some ⟨g0, 0, none⟩)), (52, .int .i64 x0), (53, .bool (ltB x0 (x2.getD x5.toNat (0 : Int))))] (allSl_mem ⟨e47, e48, e49, e50, e51, e52, e53, trivial⟩) rfl
                clear hB e47 e48 e49 e50 e51 e52 e53
                obtain ⟨o120, hM121, hM⟩ := bind_ex hM
                refine wp_cut (fun a u => ∃ (p119 : Int), p119 = o120 ∧ Fr a 75 [(4, .bool false), (5, .pointer (some ⟨g0, 0, none⟩))] ∧ St w0 u (Asn.box g101 27 #[.int .i64 x3, .int .i64 x4, .int .i64 x5] :: Asn.box g0 25 #[.int .i64 p119, .int .i64 x1, .slice A2 x2.length c2] :: Asn.row 3 1 (.slice A2 x2.length c2) x2.length (x2.flatMap eI) :: X)) ?_ ?_
                · have _ := trivial
                  cases hc122 : (ltB x0 (x2.getD x5.toNat (0 : Int)))
                  · replace hM121 := bif_f hc122 hM121
                    refine cond_f hF rfl hc122 ?_
                    refine wp_skip ?_
                    obtain rfl := Option.some.inj hM121
                    exact ⟨x0, rfl, hF.keep _ ⟨rfl, rfl, trivial⟩, S.selT (M := [.box g101 27 #[.int .i64 x3, .int .i64 x4, .int .i64 x5], .box g0 25 #[.int .i64 x0, .int .i64 x1, .slice A2 x2.length c2], .row 3 1 (.slice A2 x2.length c2) x2.length (x2.flatMap eI)]) 3 [0, 1, 2] rfl rfl rfl⟩
                  · replace hM121 := bif_t hc122 hM121
                    refine cond_t hF rfl hc122 ?_
                    refine wp_region_lit ?_
                    refine op_val (v := .pointer (some ⟨g0, 0, none⟩)) rfl rfl hF rfl (run_move rfl (hF.ev rfl)) ?_; clear hF; intro a hF
                    refine op_val (v := .pointer (some ⟨adB A2, adO A2 + x5.toNat * 1, none⟩)) rfl rfl hF rfl (run_move rfl (hF.ev rfl)) ?_; clear hF; intro a hF
                    refine op_val (v := .pointer (some ⟨adB A2, adO A2 + x5.toNat * 1, none⟩)) rfl rfl hF rfl (run_nilCheck rfl (hF.ev rfl)) ?_; clear hF; intro a hF
                    refine op_val (v := .int .i64 (x2.getD x5.toNat (0 : Int))) rfl rfl hF rfl (run_load1 rfl one3 (hF.ev rfl) (rd_el0 (l := x2) (S.rc 2 rfl).rd rfl eI_len (0 : Int) (ix_ltn hk116 rfl) rfl)) ?_; clear hF; intro a hF
                    refine op_val (v := .int .i64 (w64 ((x2.getD x5.toNat (0 : Int)) + 1))) rfl rfl hF rfl (run_add (z := w64 ((x2.getD x5.toNat (0 : Int)) + 1)) (hF.ev rfl) rfl rfl rfl) ?_; clear hF; intro a hF
                    refine op_val (v := .pointer (some ⟨g0, 0, none⟩)) rfl rfl hF rfl (run_nilCheck rfl (hF.ev rfl)) ?_; clear hF; intro a hF
                    refine op_do rfl rfl (run_store (cs' := #[.int .i64 (w64 ((x2.getD x5.toNat (0 : Int)) + 1)), .int .i64 x1, .slice A2 x2.length c2]) rfl sz3 (hF.ev rfl) (hF.ev rfl) rfl rfl rfl (S.free 1 rfl) rfl rfl) ?_; replace S := S.put 1 rfl (#[.int .i64 (w64 ((x2.getD x5.toNat (0 : Int)) + 1)), .int .i64 x1, .slice A2 x2.length c2])
                    generalize World.setRow _ _ _ = u at S ⊢
                    refine wpList_nil ?_
                    obtain rfl := Option.some.inj hM121
                    exact ⟨w64 ((x2.getD x5.toNat (0 : Int)) + 1), rfl, hF.keep _ ⟨rfl, rfl, trivial⟩, S.selT (M := [.box g101 27 #[.int .i64 x3, .int .i64 x4, .int .i64 x5], .box g0 25 #[.int .i64 (w64 ((x2.getD x5.toNat (0 : Int)) + 1)), .int .i64 x1, .slice A2 x2.length c2], .row 3 1 (.slice A2 x2.length c2) x2.length (x2.flatMap eI)]) 3 [0, 1, 2] rfl rfl rfl⟩
                · rintro a u ⟨p119, rfl, hF, S⟩
                  refine wp_seq ?_
                  refine wp_region_lit ?_
                  refine op_val (v := .pointer (some ⟨g0, 0, none⟩)) rfl rfl hF rfl (run_move rfl (hF.ev rfl)) ?_; clear hF; intro a hF
                  refine op_val (v := .pointer (some ⟨g0, 0, none⟩)) rfl rfl hF rfl (run_nilCheck rfl (hF.ev rfl)) ?_; clear hF; intro a hF
                  refine op_val (v := .int .i64 p119) rfl rfl hF rfl (run_load1 rfl one3 (hF.ev rfl) ((S.free 1 rfl).cell rfl)) ?_; clear hF; intro a hF
                  obtain ⟨p123, h123, hM⟩ := bind_ex hM
                  refine op_call rfl rfl hF rfl (run_call (vs := [.int .i64 p119]) rfl rfl co30 ⟨(hF.ev rfl), trivial⟩) (c_impl_epochValid (x0 := p119)  h123) ?_
                  rintro e u ⟨rfl, T⟩
                  refine ⟨_, rfl, ?_⟩
                  clear hF; intro a hF
                  replace S := S.call0 T; clear T
                  refine op_val (v := .bool p123) rfl rfl hF rfl (run_assign rfl (hF.ev rfl)) ?_; clear hF; intro a hF
                  refine wpList_nil ?_
                  refine wp_ret ?_
                  repeat with_reducible (first | refine then_ret ?_ | refine in_ret ?_ | refine in_nrm ?_)
                  refine ret1_gw (.inl rfl) hF rfl (res_tmp (hF.ev rfl)) ?_
                  obtain rfl := Option.some.inj hM
                  exact ⟨A2, x2.length, c2, rfl, rfl, S.selT (M := [.box g0 25 #[.int .i64 p119, .int .i64 x1, .slice A2 x2.length c2], .row 3 1 (.slice A2 x2.length c2) x2.length (x2.flatMap eI)]) 3 [1, 2] rfl rfl rfl⟩
        · replace hM := bif_t hc115 hM
          refine cond_t hF rfl hc115 ?_
          refine wp_seq ?_
          refine wp_region_lit ?_
          refine op_val (v := .bool false) rfl rfl hF rfl (run_assign rfl rfl) ?_; clear hF; intro a hF
          refine wpList_nil ?_
          refine wp_ret ?_
          repeat with_reducible (first | refine then_ret ?_ | refine in_ret ?_ | refine in_nrm ?_)
          refine ret1_gw (.inl rfl) hF rfl (res_tmp (hF.ev rfl)) ?_
          obtain rfl := Option.some.inj hM
          exact ⟨A2, x2.length, c2, rfl, rfl, S.selT (M := [.box g0 25 #[.int .i64 x0, .int .i64 x1, .slice A2 x2.length c2], .row 3 1 (.slice A2 x2.length c2) x2.length (x2.flatMap eI)]) 3 [1, 2] rfl rfl rfl⟩
    · replace hM := bif_t hc114 hM
      refine cond_t hF rfl hc114 ?_
      refine wp_seq ?_
      refine wp_region_lit ?_
      refine op_val (v := .pointer (some ⟨g0, 0, none⟩)) rfl rfl hF rfl (run_move rfl (hF.ev rfl)) ?_; clear hF; intro a hF
      refine op_val (v := .pointer (some ⟨g0, 0, none⟩)) rfl rfl hF rfl (run_nilCheck rfl (hF.ev rfl)) ?_; clear hF; intro a hF
      refine op_val (v := .int .i64 x0) rfl rfl hF rfl (run_load1 rfl one3 (hF.ev rfl) ((S.free 1 rfl).cell rfl)) ?_; clear hF; intro a hF
      refine op_val (v := .int .i64 (w64 (x0 + 2))) rfl rfl hF rfl (run_add (z := w64 (x0 + 2)) (hF.ev rfl) rfl rfl rfl) ?_; clear hF; intro a hF
      refine op_val (v := .pointer (some ⟨g0, 0, none⟩)) rfl rfl hF rfl (run_nilCheck rfl (hF.ev rfl)) ?_; clear hF; intro a hF
      refine op_do rfl rfl (run_store (cs' := #[.int .i64 (w64 (x0 + 2)), .int .i64 x1, .slice A2 x2.length c2]) rfl sz3 (hF.ev rfl) (hF.ev rfl) rfl rfl rfl (S.free 1 rfl) rfl rfl) ?_; replace S := S.put 1 rfl (#[.int .i64 (w64 (x0 + 2)), .int .i64 x1, .slice A2 x2.length c2])
      generalize World.setRow _ _ _ = u at S ⊢
      refine wpList_nil ?_
      refine wp_seq ?_
      refine wp_region_lit ?_
      refine op_val (v := .pointer (some ⟨g0, 0, none⟩)) rfl rfl hF rfl (run_move rfl (hF.ev rfl)) ?_; clear hF; intro a hF
      refine op_val (v := .pointer (some ⟨g0, 0, none⟩)) rfl rfl hF rfl (run_nilCheck rfl (hF.ev rfl)) ?_; clear hF; intro a hF
      refine op_val (v := .int .i64 (w64 (x0 + 2))) rfl rfl hF rfl (run_load1 rfl one3 (hF.ev rfl) ((S.free 1 rfl).cell rfl)) ?_; clear hF; intro a hF
      obtain ⟨p124, h124, hM⟩ := bind_ex hM
      refine op_call rfl rfl hF rfl (run_call (vs := [.int .i64 (w64 (x0 + 2))]) rfl rfl co30 ⟨(hF.ev rfl), trivial⟩) (c_impl_epochValid (x0 := w64 (x0 + 2))  h124) ?_
      rintro e u ⟨rfl, T⟩
      refine ⟨_, rfl, ?_⟩
      clear hF; intro a hF
      replace S := S.call0 T; clear T
      refine op_val (v := .bool p124) rfl rfl hF rfl (run_assign rfl (hF.ev rfl)) ?_; clear hF; intro a hF
      refine wpList_nil ?_
      refine wp_ret ?_
      repeat with_reducible (first | refine then_ret ?_ | refine in_ret ?_ | refine in_nrm ?_)
      refine ret1_gw (.inl rfl) hF rfl (res_tmp (hF.ev rfl)) ?_
      obtain rfl := Option.some.inj hM
      exact ⟨A2, x2.length, c2, rfl, rfl, S.selT (M := [.box g0 25 #[.int .i64 (w64 (x0 + 2)), .int .i64 x1, .slice A2 x2.length c2], .row 3 1 (.slice A2 x2.length c2) x2.length (x2.flatMap eI)]) 3 [1, 2] rfl rfl rfl⟩

set_option maxHeartbeats 4000000 in
theorem c_impl_RoomsDo {x0 : Int} {x1 : Int} {x2 : List Int} {x3 : Int} {x4 : Int} {x5 : Int} {A2 : Option Addr} {n2 c2 : Nat} {w : World} {r : Int × Int × List Int × Bool} (h2 : Rt w 1 eI A2 n2 c2 x2) (hM : m_impl_RoomsDo x0 x1 x2 x3 x4 x5 = some r) :
    Calls Tryd.prog 7 #[.agg #[.int .i64 x0, .int .i64 x1, .slice A2 n2 c2], .agg #[.int .i64 x3, .int .i64 x4, .int .i64 x5]] w (fun e w' => ∃ (B0 : Option Addr) (N0 D0 : Nat), e = .returned (.tuple #[.agg #[.int .i64 r.1, .int .i64 r.2.1, .slice B0 N0 D0], .bool r.2.2.2]) ∧ N0 = r.2.2.1.length ∧ St w w' [.row 3 1 (.slice B0 N0 D0) N0 (r.2.2.1.flatMap eI)]) := by
  obtain rfl := h2.len
  unfold m_impl_RoomsDo at hM
  refine calls_gw Tryd.func7 Tryd.ntmps7 rfl [(0, .agg #[.int .i64 x0, .int .i64 x1, .slice A2 x2.length c2]), (1, .agg #[.int .i64 x3, .int .i64 x4, .int .i64 x5])] ⟨rfl, rfl, trivial⟩ rfl ?_
  intro a hF
  have S := St.nil w
  refine wp_seq ?_
  refine wp_region_lit ?_
  refine op_new (cs := #[.int .i64 x0, .int .i64 x1, .slice A2 x2.length c2]) rfl rfl hF rfl S (run_box rfl (hF.ev rfl) rfl) ?_; clear hF S; intro a g101 u hF S
  refine op_new (cs := #[.int .i64 x3, .int .i64 x4, .int .i64 x5]) rfl rfl hF rfl S (run_box rfl (hF.ev rfl) rfl) ?_; clear hF S; intro a g102 u hF S
  refine op_new (cs := #[.int .i64 0, .int .i64 0, .slice none 0 0]) rfl rfl hF rfl S (run_allocZ rfl zr25) ?_; clear hF S; intro a g103 u hF S
  refine op_val (v := .bool false) rfl rfl hF rfl (run_assign rfl rfl) ?_; clear hF; intro a hF
  refine wpList_nil ?_
  refine wp_seq ?_
  refine wp_seq ?_
  refine wp_region_lit ?_
  refine op_val (v := .agg #[.int .i64 x0, .int .i64 x1, .slice A2 x2.length c2]) rfl rfl hF rfl (run_loadN rfl ag25 (hF.ev rfl) rfl ((S.free 2 rfl).cells 0 #[.int .i64 x0, .int .i64 x1, .slice A2 x2.length c2] rfl)) ?_; clear hF; intro a hF
  obtain ⟨p104, h104, hM⟩ := bind_ex hM
  refine op_call rfl rfl hF rfl (run_call (vs := [.agg #[.int .i64 x0, .int .i64 x1, .slice A2 x2.length c2]]) rfl rfl co10 ⟨(hF.ev rfl), trivial⟩) (c_impl_RoomsValid (x0 := x0) (x1 := x1) (x2 := x2) ⟨(S.rc0 h2.rc), rfl⟩ h104) ?_
  rintro e u ⟨rfl, T⟩
  refine ⟨_, rfl, ?_⟩
  clear hF; intro a hF
  replace S := S.call0 T; clear T
  refine op_val (v := .bool (!p104)) rfl rfl hF rfl (run_not rfl (hF.ev rfl)) ?_; clear hF; intro a hF
  refine wpList_nil ?_
  cases hc105 : (p104)
  · replace hM := bif_f hc105 hM
    refine cond_t hF rfl (not_t hc105) ?_
    refine wp_seq ?_
    refine wp_region_lit ?_
    refine op_val (v := .agg #[.int .i64 0, .int .i64 0, .slice none 0 0]) rfl rfl hF rfl (run_build (vs := []) rfl trivial (bd25 )) ?_; clear hF; intro a hF
    refine op_do rfl rfl (run_store (cs' := #[.int .i64 0, .int .i64 0, .slice none 0 0]) rfl sz25 (hF.ev rfl) (hF.ev rfl) rfl rfl rfl (S.free 0 rfl) rfl rfl) ?_; replace S := S.put 0 rfl (#[.int .i64 0, .int .i64 0, .slice none 0 0])
    generalize World.setRow _ _ _ = u at S ⊢
    refine op_val (v := .bool false) rfl rfl hF rfl (run_assign rfl rfl) ?_; clear hF; intro a hF
    refine wpList_nil ?_
    refine wp_ret ?_
    repeat with_reducible (first | refine then_ret ?_ | refine in_ret ?_ | refine in_nrm ?_)
    refine ret2_gw (.inl rfl) hF rfl (res_cell (hF.ev rfl) (res_loadN ag25 rfl (S.cells 0 rfl 0 #[.int .i64 0, .int .i64 0, .slice none 0 0] rfl))) (res_tmp (hF.ev rfl)) ?_
    obtain rfl := Option.some.inj hM
    replace S := S.nilrow 3 1
    exact ⟨none, 0, 0, rfl, rfl, S.sel [0] rfl rfl⟩
  · replace hM := bif_t hc105 hM
    refine cond_f hF rfl (not_f hc105) ?_
    refine wp_skip ?_
    refine wp_seq ?_
    refine wp_region_lit ?_
    refine op_val (v := .agg #[.int .i64 x0, .int .i64 x1, .slice A2 x2.length c2]) rfl rfl hF rfl (run_loadN rfl ag25 (hF.ev rfl) rfl ((S.free 2 rfl).cells 0 #[.int .i64 x0, .int .i64 x1, .slice A2 x2.length c2] rfl)) ?_; clear hF; intro a hF
    obtain ⟨p106, h106, hM⟩ := bind_ex hM
    refine op_call rfl rfl hF rfl (run_call (vs := [.agg #[.int .i64 x0, .int .i64 x1, .slice A2 x2.length c2]]) rfl rfl co23 ⟨(hF.ev rfl), trivial⟩) (c_impl_Rooms_clone (x0 := x0) (x1 := x1) (x2 := x2) ⟨(S.rc0 h2.rc), rfl⟩ h106) ?_
    rintro e u ⟨B107, n108, d109, rfl, rfl, T⟩
    refine ⟨_, rfl, ?_⟩
    clear hF; intro a hF
    replace S := S.call1 T; clear T
    refine op_new (cs := #[.int .i64 0, .int .i64 0, .slice none 0 0]) rfl rfl hF rfl S (run_allocZ rfl zr25) ?_; clear hF S; intro a g110 u hF S
    refine op_do rfl rfl (run_store (cs' := #[.int .i64 p106.1, .int .i64 p106.2.1, .slice B107 p106.2.2.length d109]) rfl sz25 (hF.ev rfl) (hF.ev rfl) rfl rfl rfl (S.free 0 rfl) rfl rfl) ?_; replace S := S.put 0 rfl (#[.int .i64 p106.1, .int .i64 p106.2.1, .slice B107 p106.2.2.length d109])
    generalize World.setRow _ _ _ = u at S ⊢
    refine wpList_nil ?_
    refine wp_seq ?_
    refine wp_seq ?_
    obtain ⟨o112, hM115, hM⟩ := bind_ex hM
    refine wp_cut (fun a u => ∃ (p111 : Bool × Int × Int × List Int) (B113 : Option Addr) (d114 : Nat), p111 = o112 ∧ Fr a 25 [(2, .pointer (some ⟨g101, 0, none⟩)), (4, .pointer (some ⟨g103, 0, none⟩)), (5, .bool false), (6, .pointer (some ⟨g110, 0, none⟩)), (21, .bool p111.1)] ∧ St w u [.box g110 25 #[.int .i64 p111.2.1, .int .i64 p111.2.2.1, .slice B113 p111.2.2.2.length d114], .box g103 25 #[.int .i64 0, .int .i64 0, .slice none 0 0], .box g102 27 #[.int .i64 x3, .int .i64 x4, .int .i64 x5], .box g101 25 #[.int .i64 x0, .int .i64 x1, .slice A2 x2.length c2], .row 3 1 (.slice B113 p111.2.2.2.length d114) p111.2.2.2.length (p111.2.2.2.flatMap eI)]) ?_ ?_
    · have _ := trivial
      refine wp_region_lit ?_
      refine op_val (v := .pointer (some ⟨g102, 1, none⟩)) rfl rfl hF rfl (run_fieldAddr rfl fl27_1 (hF.ev rfl) rfl) ?_; clear hF; intro a hF
      refine op_val (v := .int .i64 x4) rfl rfl hF rfl (run_load1 rfl one3 (hF.ev rfl) ((S.free 3 rfl).cell rfl)) ?_; clear hF; intro a hF
      obtain ⟨p116, h116, hM115⟩ := bind_ex hM115
      refine op_call rfl rfl hF rfl (run_call (vs := [.int .i64 x4]) rfl rfl co24 ⟨(hF.ev rfl), trivial⟩) (c_impl_bitValid (x0 := x4)  h116) ?_
      rintro e u ⟨rfl, T⟩
      refine ⟨_, rfl, ?_⟩
      clear hF; intro a hF
      replace S := S.call0 T; clear T
      refine op_val (v := .bool (!p116)) rfl rfl hF rfl (run_not rfl (hF.ev rfl)) ?_; clear hF; intro a hF
      refine op_val (v := .bool (!p116)) rfl rfl hF rfl (run_move rfl (hF.ev rfl)) ?_; clear hF; intro a hF
      refine op_gv (v := .agg #[.int .i64 x3, .int .i64 x4, .int .i64 x5]) rfl rfl hF rfl (yf (gw_yield hF rfl rfl rfl)) (fun hg => (run_loadN rfl ag27 (hF.ev rfl) rfl ((S.free 3 rfl).cells 0 #[.int .i64 x3, .int .i64 x4, .int .i64 x5] rfl))) ?_; clear hF; intro a hF
      cases hc117 : (p116)
      · replace hM115 := bif_f hc117 hM115
        refine op_skipped rfl ((gw_yield hF rfl rfl rfl).trans (congrArg some (not_t hc117))) rfl rfl hF rfl ?_; clear hF; intro a hF
        refine op_skipped rfl ((gw_yield hF rfl rfl rfl).trans (congrArg some (not_t hc117))) rfl rfl hF rfl ?_; clear hF; intro a hF
        refine op_val (v := .bool true) rfl rfl hF rfl (run_pick_t rfl (hF.ev rfl) (not_t hc117) rfl) ?_; clear hF; intro a hF
        refine wpList_nil ?_
        obtain rfl := Option.some.inj hM115
        exact ⟨(true, p106.1, p106.2.1, p106.2.2), B107, d109, rfl, hF.keep _ ⟨rfl, rfl, rfl, rfl, rfl, trivial⟩, S.sel [0, 2, 3, 4, 1] rfl rfl⟩
      · replace hM115 := bif_t hc117 hM115
        refine op_guarded rfl ((gw_yield hF rfl rfl rfl).trans (congrArg some (not_f hc117))) ?_
        obtain ⟨p118, h118, hM115⟩ := bind_ex hM115
        refine op_call rfl rfl hF rfl (run_call (vs := [.pointer (some ⟨g110, 0, none⟩), .agg #[.int .i64 x3, .int .i64 x4, .int .i64 x5]]) rfl rfl co25 ⟨(hF.ev rfl), ((hF.ev rfl).trans (gv_t (not_t (not_f hc117)))), trivial⟩) (c_impl_Rooms_do (x0 := p106.1) (x1 := p106.2.1) (x2 := p106.2.2) (x3 := x3) (x4 := x4) (x5 := x5) rfl (show St w _ [.box g110 25 #[.int .i64 p106.1, .int .i64 p106.2.1, .slice B107 p106.2.2.length d109], .row 3 1 (.slice B107 p106.2.2.length d109) p106.2.2.length (p106.2.2.flatMap eI), .box g103 25 #[.int .i64 0, .int .i64 0, .slice none 0 0], .box g102 27 #[.int .i64 x3, .int .i64 x4, .int .i64 x5], .box g101 25 #[.int .i64 x0, .int .i64 x1, .slice A2 x2.length c2]] from S.sel [0, 1, 2, 3, 4] rfl rfl) h118) ?_
        rintro e u ⟨B119, n120, d121, rfl, rfl, T⟩
        refine ⟨_, rfl, ?_⟩
        clear hF; intro a hF
        clear S; have S := T; clear T
        refine op_guarded rfl ((gw_yield hF rfl rfl rfl).trans (congrArg some (not_f hc117))) ?_
        refine op_val (v := .bool (!p118.1)) rfl rfl hF rfl (run_not rfl (hF.ev rfl)) ?_; clear hF; intro a hF
        refine op_val (v := .bool (!p118.1)) rfl rfl hF rfl (run_pick_f rfl (hF.ev rfl) (not_f hc117) (hF.ev rfl)) ?_; clear hF; intro a hF
        refine wpList_nil ?_
        obtain rfl := Option.some.inj hM115
        exact ⟨(!p118.1, p118.2.1, p118.2.2.1, p118.2.2.2), B119, d121, rfl, hF.keep _ ⟨rfl, rfl, rfl, rfl, rfl, trivial⟩, S.sel [0, 2, 3, 4, 1] rfl rfl⟩
    · rintro a u ⟨p111, B113, d114, rfl, hF, S⟩
      cases hc122 : (p111.1)
      · replace hM := bif_f hc122 hM
        refine cond_f hF rfl hc122 ?_
        refine wp_skip ?_
        refine wp_seq ?_
        refine wp_region_lit ?_
        refine op_val (v := .agg #[.int .i64 p111.2.1, .int .i64 p111.2.2.1, .slice B113 p111.2.2.2.length d114]) rfl rfl hF rfl (run_loadN rfl ag25 (hF.ev rfl) rfl ((S.free 0 rfl).cells 0 #[.int .i64 p111.2.1, .int .i64 p111.2.2.1, .slice B113 p111.2.2.2.length d114] rfl)) ?_; clear hF; intro a hF
        refine op_do rfl rfl (run_store (cs' := #[.int .i64 p111.2.1, .int .i64 p111.2.2.1, .slice B113 p111.2.2.2.length d114]) rfl sz25 (hF.ev rfl) (hF.ev rfl) rfl rfl rfl (S.free 1 rfl) rfl rfl) ?_; replace S := S.put 1 rfl (#[.int .i64 p111.2.1, .int .i64 p111.2.2.1, .slice B113 p111.2.2.2.length d114])
        generalize World.setRow _ _ _ = u at S ⊢
        refine op_val (v := .bool true) rfl rfl hF rfl (run_assign rfl rfl) ?_; clear hF; intro a hF
        refine wpList_nil ?_
        refine wp_ret ?_
        repeat with_reducible (first | refine then_ret ?_ | refine in_ret ?_ | refine in_nrm ?_)
        refine ret2_gw (.inl rfl) hF rfl (res_cell (hF.ev rfl) (res_loadN ag25 rfl (S.cells 1 rfl 0 #[.int .i64 p111.2.1, .int .i64 p111.2.2.1, .slice B113 p111.2.2.2.length d114] rfl))) (res_tmp (hF.ev rfl)) ?_
        obtain rfl := Option.some.inj hM
        exact ⟨B113, p111.2.2.2.length, d114, rfl, rfl, S.sel [4] rfl rfl⟩
      · replace hM := bif_t hc122 hM
        refine cond_t hF rfl hc122 ?_
        refine wp_seq ?_
        refine wp_region_lit ?_
        refine op_val (v := .agg #[.int .i64 x0, .int .i64 x1, .slice A2 x2.length c2]) rfl rfl hF rfl (run_loadN rfl ag25 (hF.ev rfl) rfl ((S.free 3 rfl).cells 0 #[.int .i64 x0, .int .i64 x1, .slice A2 x2.length c2] rfl)) ?_; clear hF; intro a hF
        obtain ⟨p123, h123, hM⟩ := bind_ex hM
        refine op_call rfl rfl hF rfl (run_call (vs := [.agg #[.int .i64 x0, .int .i64 x1, .slice A2 x2.length c2]]) rfl rfl co23 ⟨(hF.ev rfl), trivial⟩) (c_impl_Rooms_clone (x0 := x0) (x1 := x1) (x2 := x2) ⟨(S.rc0 h2.rc), rfl⟩ h123) ?_
        rintro e u ⟨B124, n125, d126, rfl, rfl, T⟩
        refine ⟨_, rfl, ?_⟩
        clear hF; intro a hF
        replace S := S.call1 T; clear T
        refine op_do rfl rfl (run_store (cs' := #[.int .i64 p123.1, .int .i64 p123.2.1, .slice B124 p123.2.2.length d126]) rfl sz25 (hF.ev rfl) (hF.ev rfl) rfl rfl rfl (S.free 2 rfl) rfl rfl) ?_; replace S := S.put 2 rfl (#[.int .i64 p123.1, .int .i64 p123.2.1, .slice B124 p123.2.2.length d126])
        generalize World.setRow _ _ _ = u at S ⊢
        refine op_val (v := .bool false) rfl rfl hF rfl (run_assign rfl rfl) ?_; clear hF; intro a hF
        refine wpList_nil ?_
        refine wp_ret ?_
        repeat with_reducible (first | refine then_ret ?_ | refine in_ret ?_ | refine in_nrm ?_)
        refine ret2_gw (.inl rfl) hF rfl (res_cell (hF.ev rfl) (res_loadN ag25 rfl (S.cells 2 rfl 0 #[.int .i64 p123.1, .int .i64 p123.2.1, .slice B124 p123.2.2.length d126] rfl))) (res_tmp (hF.ev rfl)) ?_
        obtain rfl := Option.some.inj hM
        exact ⟨B124, p123.2.2.length, d126, rfl, rfl, S.sel [0] rfl rfl⟩

set_option maxHeartbeats 4000000 in
theorem c_laws_sameInts {x0 : List Int} {x1 : List Int} {A0 : Option Addr} {n0 c0 : Nat} {A1 : Option Addr} {n1 c1 : Nat} {w : World} {r : Bool} (h0 : Rt w 1 eI A0 n0 c0 x0) (h1 : Rt w 1 eI A1 n1 c1 x1) (hM : m_laws_sameInts x0 x1 = some r) :
    Calls Tryd.prog 29 #[.slice A0 n0 c0, .slice A1 n1 c1] w (fun e w' => e = .returned (.bool r) ∧ St w w' []) := by
  obtain rfl := h0.len
  obtain rfl := h1.len
  unfold m_laws_sameInts at hM
  refine calls_gw Tryd.func29 Tryd.ntmps29 rfl [(0, .slice A0 x0.length c0), (1, .slice A1 x1.length c1)] ⟨rfl, rfl, trivial⟩ rfl ?_
  intro a hF
  have S := St.nil w
  refine wp_seq ?_
  refine wp_region_lit ?_
  refine op_val (v := .bool false) rfl rfl hF rfl (run_assign rfl rfl) ?_; clear hF; intro a hF
  refine wpList_nil ?_
  refine wp_seq ?_
  refine wp_seq ?_
  refine wp_region_lit ?_
  refine op_val (v := .slice A0 x0.length c0) rfl rfl hF rfl (run_move rfl (hF.ev rfl)) ?_; clear hF; intro a hF
  refine op_val (v := .int .i64 (x0.length : Int)) rfl rfl hF rfl (run_lenL rfl rfl Tryd.underlying23 (hF.ev rfl)) ?_; clear hF; intro a hF
  refine op_val (v := .slice A1 x1.length c1) rfl rfl hF rfl (run_move rfl (hF.ev rfl)) ?_; clear hF; intro a hF
  refine op_val (v := .int .i64 (x1.length : Int)) rfl rfl hF rfl (run_lenL rfl rfl Tryd.underlying23 (hF.ev rfl)) ?_; clear hF; intro a hF
  refine op_val (v := .bool ((x0.length : Int) != (x1.length : Int))) rfl rfl hF rfl (run_neq (hF.ev rfl) (hF.ev rfl) rfl) ?_; clear hF; intro a hF
  refine wpList_nil ?_
  cases hc101 : ((x0.length : Int) != (x1.length : Int))
  · replace hM := bif_f hc101 hM
    refine cond_f hF rfl hc101 ?_
    refine wp_skip ?_
    refine wp_seq ?_
    refine wp_seq ?_
    refine wp_region_lit ?_
    refine op_val (v := .int .i64 0) rfl rfl hF rfl (run_assign rfl rfl) ?_; clear hF; intro a hF
    refine wpList_nil ?_
    obtain ⟨o103, hM104, hM⟩ := bind_ex hM
    refine wp_cut (fun a u => ∃ (p102 : Unit), (Sum.inl p102) = o103 ∧ Fr a 26 [(4, .bool false)] ∧ St w u []) ?_ ?_
    · have _ := trivial
      refine wp_block ?_
      refine loop_gw (fun m a u => ∃ (p105 : Int), m_laws_sameInts_l1 x0 x1 m p105 = some _ ∧ Fr a 26 [(0, .slice A0 x0.length c0), (1, .slice A1 x1.length c1), (4, .bool false), (5, .int .i64 p105)] ∧ St w u []) FUEL ⟨0, hM104, hF.keep _ ⟨rfl, rfl, rfl, rfl, trivial⟩, S.sel [] rfl rfl⟩ ?_
      clear hF S hM104; rintro m a u ⟨p105, hM104, hF, S⟩
      rcases m with _ | f1
      · exact none_some hM104
      rw [m_laws_sameInts_l1.eq_2] at hM104
      refine wp_seq ?_
      refine wp_seq ?_
      refine wp_region_lit ?_
      refine op_val (v := .int .i64 p105) rfl rfl hF rfl (run_move rfl (hF.ev rfl)) ?_; clear hF; intro a hF
      refine op_val (v := .slice A0 x0.length c0) rfl rfl hF rfl (run_move rfl (hF.ev rfl)) ?_; clear hF; intro a hF
      refine op_val (v := .int .i64 (x0.length : Int)) rfl rfl hF rfl (run_lenL rfl rfl Tryd.underlying23 (hF.ev rfl)) ?_; clear hF; intro a hF
      refine op_val (v := .bool (ltB p105 (x0.length : Int))) rfl rfl hF rfl (run_lss (hF.ev rfl) (hF.ev rfl) rfl) ?_; clear hF; intro a hF
      refine wpList_nil ?_
      cases hc106 : (ltB p105 (x0.length : Int))
      · replace hM104 := bif_f hc106 hM104
        refine cond_f hF rfl hc106 ?_
        refine wp_exit ?_
        repeat with_reducible (first | refine then_exit ?_ | refine in_hit ?_ | refine in_miss rfl ?_)
        obtain rfl := Option.some.inj hM104
        exact ⟨(), rfl, hF.keep _ ⟨rfl, trivial⟩, S.sel [] rfl rfl⟩
      · replace hM104 := bif_t hc106 hM104
        refine cond_t hF rfl hc106 ?_
        refine wp_skip ?_
        refine wp_seq ?_
        refine wp_block ?_
        refine wp_seq ?_
        obtain ⟨hk107, hM104⟩ := chk_ex hM104
        replace hk107 := ixB_t hk107
        obtain ⟨hk108, hM104⟩ := chk_ex hM104
        replace hk108 := ixB_t hk108
        refine region_gw (D := [17, 18, 19, 20, 21, 22, 23, 24, 25]) (Lr := []) (deps := (fun | 0 => [17] | 1 => [18] | 2 => [19] | 3 => [20] | 4 => [21] | 5 => [22] | 6 => [23] | 7 => [24] | 8 => [25] | _ => [])) (rd := (fun _ => [])) (zr := (fun _ => []))
          (φ := fun i vs => match i, vs with | 0, [v17] => v17 = .slice A0 x0.length c0 | 1, [v18] => v18 = .int .i64 p105 | 2, [v19] => v19 = .pointer (some ⟨adB A0, adO A0 + p105.toNat * 1, none⟩) | 3, [v20] => v20 = .int .i64 (x0.getD p105.toNat (0 : Int)) | 4, [v21] => v21 = .slice A1 x1.length c1 | 5, [v22] => v22 = .int .i64 p105 | 6, [v23] => v23 = .pointer (some ⟨adB A1, adO A1 + p105.toNat * 1, none⟩) | 7, [v24] => v24 = .int .i64 (x1.getD p105.toNat (0 : Int)) | 8, [v25] => v25 = .bool ((x0.getD p105.toNat (0 : Int)) != (x1.getD p105.toNat (0 : Int))) | _, _ => True)
          (C := fun _ _ => [])
          (κ := (fun _ => none)) (Z := (fun _ => [])) mixed hF (by kernel_rfl) S ?_ ?_
        · refine ⟨?_, ?_, ?_, ?_, ?_, ?_, ?_, ?_, ?_, trivial⟩
          · intro a u X hB hu hp hr hz hl S
            replace S : St w u ([] ++ X) := S
            exact .inl ⟨rfl, .slice A0 x0.length c0, u, (run_move rfl (hF.evB hB rfl rfl)), rfl, S⟩
          · intro a u X hB hu hp hr hz hl S
            replace S : St w u ([] ++ X) := S
            exact .inl ⟨rfl, .int .i64 p105, u, (run_move rfl (hF.evB hB rfl rfl)), rfl, S⟩
          · intro a u X hB hu hp hr hz hl S
            replace S : St w u ([] ++ X) := S
            have e17 : sl a 17 = .slice A0 x0.length c0 := hp 0 rfl
            have e18 : sl a 18 = .int .i64 p105 := hp 1 rfl
            exact .inl ⟨rfl, .pointer (some ⟨adB A0, adO A0 + p105.toNat * 1, none⟩), u, (run_indexAddr (b := adB A0) (off := adO A0) rfl Tryd.underlying23 sz3 ((ev_sl e17).trans (congrArg (fun A => Value.slice A x0.length c0) ((S.rc0 h0.rc).rd.ad (ix_pos hk107)))) (ev_sl e18) hk107.1 hk107.2 (k' := adO A0 + p105.toNat * 1) rfl), rfl, S⟩
          · intro a u X hB hu hp hr hz hl S
            replace S : St w u ([] ++ X) := S
            have e19 : sl a 19 = .pointer (some ⟨adB A0, adO A0 + p105.toNat * 1, none⟩) := hp 2 rfl
            exact .inl ⟨rfl, .int .i64 (x0.getD p105.toNat (0 : Int)), u, (run_load1 rfl one3 (ev_sl e19) (rd_el0 (l := x0) (S.rc0 h0.rc).rd rfl eI_len (0 : Int) (ix_ltn hk107 rfl) rfl)), rfl, S⟩
          · intro a u X hB hu hp hr hz hl S
            replace S : St w u ([] ++ X) := S
            exact .inl ⟨rfl, .slice A1 x1.length c1, u, (run_move rfl (hF.evB hB rfl rfl)), rfl, S⟩
          · intro a u X hB hu hp hr hz hl S
            replace S : St w u ([] ++ X) := S
            exact .inl ⟨rfl, .int .i64 p105, u, (run_move rfl (hF.evB hB rfl rfl)), rfl, S⟩
          · intro a u X hB hu hp hr hz hl S
            replace S : St w u ([] ++ X) := S
            have e21 : sl a 21 = .slice A1 x1.length c1 := hp 4 rfl
            have e22 : sl a 22 = .int .i64 p105 := hp 5 rfl
            exact .inl ⟨rfl, .pointer (some ⟨adB A1, adO A1 + p105.toNat * 1, none⟩), u, (run_indexAddr (b := adB A1) (off := adO A1) rfl Tryd.underlying23 sz3 ((ev_sl e21).trans (congrArg (fun A => Value.slice A x1.length c1) ((S.rc0 h1.rc).rd.ad (ix_pos hk108)))) (ev_sl e22) hk108.1 hk108.2 (k' := adO A1 + p105.toNat * 1) rfl), rfl, S⟩
          · intro a u X hB hu hp hr hz hl S
            replace S : St w u ([] ++ X) := S
            have e23 : sl a 23 = .pointer (some ⟨adB A1, adO A1 + p105.toNat * 1, none⟩) := hp 6 rfl
            exact .inl ⟨rfl, .int .i64 (x1.getD p105.toNat (0 : Int)), u, (run_load1 rfl one3 (ev_sl e23) (rd_el0 (l := x1) (S.rc0 h1.rc).rd rfl eI_len (0 : Int) (ix_ltn hk108 rfl) rfl)), rfl, S⟩
          · intro a u X hB hu hp hr hz hl S
            replace S : St w u ([] ++ X) := S
            have e20 : sl a 20 = .int .i64 (x0.getD p105.toNat (0 : Int)) := hp 3 rfl
            have e24 : sl a 24 = .int .i64 (x1.getD p105.toNat (0 : Int)) := hp 7 rfl
            exact .inl ⟨rfl, .bool ((x0.getD p105.toNat (0 : Int)) != (x1.getD p105.toNat (0 : Int))), u, (run_neq (ev_sl e20) (ev_sl e24) rfl), rfl, S⟩
        · intro a u hB hp S
          obtain ⟨q0, q1, q2, q3, q4, q5, q6, q7, q8, _⟩ := hp
          have e17 : sl a 17 = .slice A0 x0.length c0 := q0
          have e18 : sl a 18 = .int .i64 p105 := q1
          have e19 : sl a 19 = .pointer (some ⟨adB A0, adO A0 + p105.toNat * 1, none⟩) := q2
          have e20 : sl a 20 = .int .i64 (x0.getD p105.toNat (0 : Int)) := q3
          have e21 : sl a 21 = .slice A1 x1.length c1 := q4
          have e22 : sl a 22 = .int .i64 p105 := q5
          have e23 : sl a 23 = .pointer (some ⟨adB A1, adO A1 + p105.toNat * 1, none⟩) := q6
          have e24 : sl a 24 = .int .i64 (x1.getD p105.toNat (0 : Int)) := q7
          have e25 : sl a 25 = .bool ((x0.getD p105.toNat (0 : Int)) != (x1.getD p105.toNat (0 : Int))) := q8
          replace S : St w u [] := S
          clear q0 q1 q2 q3 q4 q5 q6 q7 q8
          have hF := hF.region hB [(17, .slice A0 x0.length c0), (18, .int .i64 p105), (19, .pointer (some ⟨adB A0, adO A0 + p105.toNat * 1, none⟩)), (20, .int .i64 (x0.getD p105.toNat (0 : Int))), (21, .slice A1 x1.length c1), (22, .int .i64 p105), (23, .pointer (some ⟨adB A1, adO A1 + p105.toNat * 1, none⟩)), (24, .int .i64 (x1.getD p105.toNat (0 : Int))), (25, .bool ((x0.getD p105.toNat (0 : Int)) != (x1.getD p105.toNat (0 : Int))))] (allSl_mem ⟨e17, e18, e19, e20, e21, e22, e23, e24, e25, trivial⟩) rfl
          clear hB e17 e18 e19 e20 e21 e22 e23 e24 e25
          cases hc109 : ((x0.getD p105.toNat (0 : Int)) != (x1.getD p105.toNat (0 : Int)))
          · replace hM104 := bif_f hc109 hM104
            refine cond_f hF rfl hc109 ?_
            refine wp_skip ?_
            refine wp_region_lit ?_
            refine op_val (v := .int .i64 p105) rfl rfl hF rfl (run_move rfl (hF.ev rfl)) ?_; clear hF; intro a hF
            refine op_val (v := .int .i64 (w64 (p105 + 1))) rfl rfl hF rfl (run_add (z := w64 (p105 + 1)) (hF.ev rfl) rfl rfl rfl) ?_; clear hF; intro a hF
            refine op_val (v := .int .i64 (w64 (p105 + 1))) rfl rfl hF rfl (run_assign rfl (hF.ev rfl)) ?_; clear hF; intro a hF
            refine wpList_nil ?_
            exact ⟨f1, Nat.lt_succ_self _, w64 (p105 + 1), hM104, hF.keep _ ⟨rfl, rfl, rfl, rfl, trivial⟩, S.sel [] rfl rfl⟩
          · replace hM104 := bif_t hc109 hM104
            refine cond_t hF rfl hc109 ?_
            refine wp_seq ?_
            refine wp_region_lit ?_
            refine op_val (v := .bool false) rfl rfl hF rfl (run_assign rfl rfl) ?_; clear hF; intro a hF
            refine wpList_nil ?_
            refine wp_ret ?_
            repeat with_reducible (first | refine then_ret ?_ | refine in_ret ?_ | refine in_nrm ?_)
            refine ret1_gw (.inl rfl) hF rfl (res_tmp (hF.ev rfl)) ?_
            obtain rfl := Option.some.inj hM104
            obtain rfl := Option.some.inj hM
            exact ⟨rfl, S.sel [] rfl rfl⟩
    · rintro a u ⟨p102, rfl, hF, S⟩
      replace hM := elim_l hM
      refine wp_seq ?_
      refine wp_region_lit ?_
      refine op_val (v := .bool true) rfl rfl hF rfl (run_assign rfl rfl) ?_; clear hF; intro a hF
      refine wpList_nil ?_
      refine wp_ret ?_
      repeat with_reducible (first | refine then_ret ?_ | refine in_ret ?_ | refine in_nrm ?_)
      refine ret1_gw (.inl rfl) hF rfl (res_tmp (hF.ev rfl)) ?_
      obtain rfl := Option.some.inj hM
      exact ⟨rfl, S.sel [] rfl rfl⟩
  · replace hM := bif_t hc101 hM
    refine cond_t hF rfl hc101 ?_
    refine wp_seq ?_
    refine wp_region_lit ?_
    refine op_val (v := .bool false) rfl rfl hF rfl (run_assign rfl rfl) ?_; clear hF; intro a hF
    refine wpList_nil ?_
    refine wp_ret ?_
    repeat with_reducible (first | refine then_ret ?_ | refine in_ret ?_ | refine in_nrm ?_)
    refine ret1_gw (.inl rfl) hF rfl (res_tmp (hF.ev rfl)) ?_
    obtain rfl := Option.some.inj hM
    exact ⟨rfl, S.sel [] rfl rfl⟩

set_option maxHeartbeats 4000000 in
theorem c_laws_sameRooms {x0 : Int} {x1 : Int} {x2 : List Int} {x3 : Int} {x4 : Int} {x5 : List Int} {A2 : Option Addr} {n2 c2 : Nat} {A5 : Option Addr} {n5 c5 : Nat} {w : World} {r : Bool} (h2 : Rt w 1 eI A2 n2 c2 x2) (h5 : Rt w 1 eI A5 n5 c5 x5) (hM : m_laws_sameRooms x0 x1 x2 x3 x4 x5 = some r) :
    Calls Tryd.prog 9 #[.agg #[.int .i64 x0, .int .i64 x1, .slice A2 n2 c2], .agg #[.int .i64 x3, .int .i64 x4, .slice A5 n5 c5]] w (fun e w' => e = .returned (.bool r) ∧ St w w' []) := by
  obtain rfl := h2.len
  obtain rfl := h5.len
  unfold m_laws_sameRooms at hM
  refine calls_gw Tryd.func9 Tryd.ntmps9 rfl [(0, .agg #[.int .i64 x0, .int .i64 x1, .slice A2 x2.length c2]), (1, .agg #[.int .i64 x3, .int .i64 x4, .slice A5 x5.length c5])] ⟨rfl, rfl, trivial⟩ rfl ?_
  intro a hF
  have S := St.nil w
  refine wp_seq ?_
  refine wp_region_lit ?_
  refine op_new (cs := #[.int .i64 x0, .int .i64 x1, .slice A2 x2.length c2]) rfl rfl hF rfl S (run_box rfl (hF.ev rfl) rfl) ?_; clear hF S; intro a g101 u hF S
  refine op_new (cs := #[.int .i64 x3, .int .i64 x4, .slice A5 x5.length c5]) rfl rfl hF rfl S (run_box rfl (hF.ev rfl) rfl) ?_; clear hF S; intro a g102 u hF S
  refine op_val (v := .bool false) rfl rfl hF rfl (run_assign rfl rfl) ?_; clear hF; intro a hF
  refine wpList_nil ?_
  refine wp_seq ?_
  refine wp_region_lit ?_
  refine op_val (v := .pointer (some ⟨g101, 0, none⟩)) rfl rfl hF rfl (run_fieldAddr rfl fl25_0 (hF.ev rfl) rfl) ?_; clear hF; intro a hF
  refine op_val (v := .int .i64 x0) rfl rfl hF rfl (run_load1 rfl one3 (hF.ev rfl) ((S.free 1 rfl).cell rfl)) ?_; clear hF; intro a hF
  refine op_val (v := .pointer (some ⟨g102, 0, none⟩)) rfl rfl hF rfl (run_fieldAddr rfl fl25_0 (hF.ev rfl) rfl) ?_; clear hF; intro a hF
  refine op_val (v := .int .i64 x3) rfl rfl hF rfl (run_load1 rfl one3 (hF.ev rfl) ((S.free 0 rfl).cell rfl)) ?_; clear hF; intro a hF
  refine op_val (v := .bool (x0 == x3)) rfl rfl hF rfl (run_eql (hF.ev rfl) (hF.ev rfl) rfl) ?_; clear hF; intro a hF
  refine op_val (v := .bool (x0 == x3)) rfl rfl hF rfl (run_move rfl (hF.ev rfl)) ?_; clear hF; intro a hF
  refine op_gv (v := .pointer (some ⟨g101, 1, none⟩)) rfl rfl hF rfl (yt (gw_yield hF rfl rfl rfl)) (fun hg => (run_fieldAddr rfl fl25_1 (hF.ev rfl) rfl)) ?_; clear hF; intro a hF
  refine op_gv (v := .int .i64 x1) rfl rfl hF rfl (yt (gw_yield hF rfl rfl rfl)) (fun hg => (run_load1 rfl one3 ((hF.ev rfl).trans (gv_t hg)) ((S.free 1 rfl).cell rfl))) ?_; clear hF; intro a hF
  refine op_gv (v := .pointer (some ⟨g102, 1, none⟩)) rfl rfl hF rfl (yt (gw_yield hF rfl rfl rfl)) (fun hg => (run_fieldAddr rfl fl25_1 (hF.ev rfl) rfl)) ?_; clear hF; intro a hF
  refine op_gv (v := .int .i64 x4) rfl rfl hF rfl (yt (gw_yield hF rfl rfl rfl)) (fun hg => (run_load1 rfl one3 ((hF.ev rfl).trans (gv_t hg)) ((S.free 0 rfl).cell rfl))) ?_; clear hF; intro a hF
  refine op_gv (v := .bool (x1 == x4)) rfl rfl hF rfl (yt (gw_yield hF rfl rfl rfl)) (fun hg => (run_eql ((hF.ev rfl).trans (gv_t hg)) ((hF.ev rfl).trans (gv_t hg)) rfl)) ?_; clear hF; intro a hF
  refine op_val (v := .bool ((x0 == x3) && (x1 == x4))) rfl rfl hF rfl (run_pick_and rfl (hF.ev rfl) (fun hp => ((hF.ev rfl).trans (gv_t hp))) rfl) ?_; clear hF; intro a hF
  refine op_val (v := .bool ((x0 == x3) && (x1 == x4))) rfl rfl hF rfl (run_move rfl (hF.ev rfl)) ?_; clear hF; intro a hF
  refine op_gv (v := .pointer (some ⟨g101, 2, none⟩)) rfl rfl hF rfl (yt (gw_yield hF rfl rfl rfl)) (fun hg => (run_fieldAddr rfl fl25_2 (hF.ev rfl) rfl)) ?_; clear hF; intro a hF
  refine op_gv (v := .slice A2 x2.length c2) rfl rfl hF rfl (yt (gw_yield hF rfl rfl rfl)) (fun hg => (run_load1 rfl one23 ((hF.ev rfl).trans (gv_t hg)) ((S.free 1 rfl).cell rfl))) ?_; clear hF; intro a hF
  refine op_gv (v := .pointer (some ⟨g102, 2, none⟩)) rfl rfl hF rfl (yt (gw_yield hF rfl rfl rfl)) (fun hg => (run_fieldAddr rfl fl25_2 (hF.ev rfl) rfl)) ?_; clear hF; intro a hF
  refine op_gv (v := .slice A5 x5.length c5) rfl rfl hF rfl (yt (gw_yield hF rfl rfl rfl)) (fun hg => (run_load1 rfl one23 ((hF.ev rfl).trans (gv_t hg)) ((S.free 0 rfl).cell rfl))) ?_; clear hF; intro a hF
  obtain ⟨p103, h103, hM⟩ := bind_ex hM
  refine op_gcall (v := .bool p103) rfl rfl hF rfl S (yt (gw_yield hF rfl rfl rfl)) (fun hg => (run_call (vs := [.slice A2 x2.length c2, .slice A5 x5.length c5]) rfl rfl co29 ⟨((hF.ev rfl).trans (gv_t hg)), ((hF.ev rfl).trans (gv_t hg)), trivial⟩)) (fun hg => c_laws_sameInts (x0 := x2) (x1 := x5) ⟨(S.rc0 h2.rc), rfl⟩ ⟨(S.rc0 h5.rc), rfl⟩ (gb_t h103 hg)) ?_; clear hF S; intro a u hF S
  refine op_val (v := .bool (((x0 == x3) && (x1 == x4)) && p103)) rfl rfl hF rfl (run_pick_and rfl (hF.ev rfl) (fun hp => ((hF.ev rfl).trans (gv_t hp))) rfl) ?_; clear hF; intro a hF
  refine op_val (v := .bool (((x0 == x3) && (x1 == x4)) && p103)) rfl rfl hF rfl (run_assign rfl (hF.ev rfl)) ?_; clear hF; intro a hF
  refine wpList_nil ?_
  refine wp_ret ?_
  repeat with_reducible (first | refine then_ret ?_ | refine in_ret ?_ | refine in_nrm ?_)
  refine ret1_gw (.inl rfl) hF rfl (res_tmp (hF.ev rfl)) ?_
  obtain rfl := Option.some.inj hM
  exact ⟨rfl, S.sel [] rfl rfl⟩

set_option maxHeartbeats 4000000 in
theorem c_impl_Net_hasLine {x0 : Int} {x1 : List (Int × Int × Int)} {x2 : Int} {A1 : Option Addr} {n1 c1 : Nat} {w : World} {r : Bool} (h1 : Rt w 3 eLine A1 n1 c1 x1) (hM : m_impl_Net_hasLine x0 x1 x2 = some r) :
    Calls Tryd.prog 38 #[.agg #[.int .i64 x0, .slice A1 n1 c1], .int .i64 x2] w (fun e w' => e = .returned (.bool r) ∧ St w w' []) := by
  obtain rfl := h1.len
  unfold m_impl_Net_hasLine at hM
  refine calls_gw Tryd.func38 Tryd.ntmps38 rfl [(0, .agg #[.int .i64 x0, .slice A1 x1.length c1]), (1, .int .i64 x2)] ⟨rfl, rfl, trivial⟩ rfl ?_
  intro a hF
  have S := St.nil w
  refine wp_seq ?_
  refine wp_region_lit ?_
  refine op_new (cs := #[.int .i64 x0, .slice A1 x1.length c1]) rfl rfl hF rfl S (run_box rfl (hF.ev rfl) rfl) ?_; clear hF S; intro a g101 u hF S
  refine op_val (v := .bool false) rfl rfl hF rfl (run_assign rfl rfl) ?_; clear hF; intro a hF
  refine wpList_nil ?_
  refine wp_seq ?_
  refine wp_region_lit ?_
  refine op_val (v := .int .i64 x2) rfl rfl hF rfl (run_move rfl (hF.ev rfl)) ?_; clear hF; intro a hF
  refine op_val (v := .bool (leB 0 x2)) rfl rfl hF rfl (run_geq (hF.ev rfl) rfl rfl) ?_; clear hF; intro a hF
  refine op_val (v := .bool (leB 0 x2)) rfl rfl hF rfl (run_move rfl (hF.ev rfl)) ?_; clear hF; intro a hF
  refine op_gv (v := .int .i64 x2) rfl rfl hF rfl (yt (gw_yield hF rfl rfl rfl)) (fun hg => (run_move rfl (hF.ev rfl))) ?_; clear hF; intro a hF
  refine op_gv (v := .pointer (some ⟨g101, 1, none⟩)) rfl rfl hF rfl (yt (gw_yield hF rfl rfl rfl)) (fun hg => (run_fieldAddr rfl fl62_1 (hF.ev rfl) rfl)) ?_; clear hF; intro a hF
  refine op_gv (v := .slice A1 x1.length c1) rfl rfl hF rfl (yt (gw_yield hF rfl rfl rfl)) (fun hg => (run_load1 rfl one60 ((hF.ev rfl).trans (gv_t hg)) ((S.free 0 rfl).cell rfl))) ?_; clear hF; intro a hF
  refine op_gv (v := .int .i64 (x1.length : Int)) rfl rfl hF rfl (yt (gw_yield hF rfl rfl rfl)) (fun hg => (run_lenL rfl rfl Tryd.underlying60 ((hF.ev rfl).trans (gv_t hg)))) ?_; clear hF; intro a hF
  refine op_gv (v := .bool (ltB x2 (x1.length : Int))) rfl rfl hF rfl (yt (gw_yield hF rfl rfl rfl)) (fun hg => (run_lss ((hF.ev rfl).trans (gv_t hg)) ((hF.ev rfl).trans (gv_t hg)) rfl)) ?_; clear hF; intro a hF
  refine op_val (v := .bool ((leB 0 x2) && (ltB x2 (x1.length : Int)))) rfl rfl hF rfl (run_pick_and rfl (hF.ev rfl) (fun hp => ((hF.ev rfl).trans (gv_t hp))) rfl) ?_; clear hF; intro a hF
  refine op_val (v := .bool ((leB 0 x2) && (ltB x2 (x1.length : Int)))) rfl rfl hF rfl (run_assign rfl (hF.ev rfl)) ?_; clear hF; intro a hF
  refine wpList_nil ?_
  refine wp_ret ?_
  repeat with_reducible (first | refine then_ret ?_ | refine in_ret ?_ | refine in_nrm ?_)
  refine ret1_gw (.inl rfl) hF rfl (res_tmp (hF.ev rfl)) ?_
  obtain rfl := Option.some.inj hM
  exact ⟨rfl, S.sel [] rfl rfl⟩

set_option maxHeartbeats 4000000 in
theorem c_impl_Line_other {x0 : Int} {x1 : Int} {x2 : Int} {x3 : Int} {w : World} {r : Int}  (hM : m_impl_Line_other x0 x1 x2 x3 = some r) :
    Calls Tryd.prog 39 #[.agg #[.int .i64 x0, .int .i64 x1, .int .i64 x2], .int .i64 x3] w (fun e w' => e = .returned (.int .i64 r) ∧ St w w' []) := by
  unfold m_impl_Line_other at hM
  refine calls_gw Tryd.func39 Tryd.ntmps39 rfl [(0, .agg #[.int .i64 x0, .int .i64 x1, .int .i64 x2]), (1, .int .i64 x3)] ⟨rfl, rfl, trivial⟩ rfl ?_
  intro a hF
  have S := St.nil w
  refine wp_seq ?_
  refine wp_region_lit ?_
  refine op_new (cs := #[.int .i64 x0, .int .i64 x1, .int .i64 x2]) rfl rfl hF rfl S (run_box rfl (hF.ev rfl) rfl) ?_; clear hF S; intro a g101 u hF S
  refine op_val (v := .int .i64 0) rfl rfl hF rfl (run_assign rfl rfl) ?_; clear hF; intro a hF
  refine wpList_nil ?_
  refine wp_seq ?_
  refine wp_seq ?_
  refine wp_region_lit ?_
  refine op_val (v := .int .i64 x3) rfl rfl hF rfl (run_move rfl (hF.ev rfl)) ?_; clear hF; intro a hF
  refine wpList_nil ?_
  refine wp_block ?_
  refine wp_seq ?_
  refine wp_region_lit ?_
  refine op_val (v := .pointer (some ⟨g101, 0, none⟩)) rfl rfl hF rfl (run_fieldAddr rfl fl59_0 (hF.ev rfl) rfl) ?_; clear hF; intro a hF
  refine op_val (v := .int .i64 x0) rfl rfl hF rfl (run_load1 rfl one3 (hF.ev rfl) ((S.free 0 rfl).cell rfl)) ?_; clear hF; intro a hF
  refine op_val (v := .bool (x3 == x0)) rfl rfl hF rfl (run_eql (hF.ev rfl) (hF.ev rfl) rfl) ?_; clear hF; intro a hF
  refine op_val (v := .bool (x3 == x0)) rfl rfl hF rfl (run_assign rfl (hF.ev rfl)) ?_; clear hF; intro a hF
  refine wpList_nil ?_
  cases hc102 : (x3 == x0)
  · replace hM := bif_f hc102 hM
    refine cond_f hF rfl hc102 ?_
    refine wp_seq ?_
    refine wp_region_lit ?_
    refine op_val (v := .pointer (some ⟨g101, 1, none⟩)) rfl rfl hF rfl (run_fieldAddr rfl fl59_1 (hF.ev rfl) rfl) ?_; clear hF; intro a hF
    refine op_val (v := .int .i64 x1) rfl rfl hF rfl (run_load1 rfl one3 (hF.ev rfl) ((S.free 0 rfl).cell rfl)) ?_; clear hF; intro a hF
    refine op_val (v := .bool (x3 == x1)) rfl rfl hF rfl (run_eql (hF.ev rfl) (hF.ev rfl) rfl) ?_; clear hF; intro a hF
    refine op_val (v := .bool (x3 == x1)) rfl rfl hF rfl (run_assign rfl (hF.ev rfl)) ?_; clear hF; intro a hF
    refine wpList_nil ?_
    cases hc103 : (x3 == x1)
    · replace hM := bif_f hc103 hM
      refine cond_f hF rfl hc103 ?_
      refine wp_skip ?_
      refine wp_seq ?_
      refine wp_region_lit ?_
      refine op_val (v := .int .i64 (-1)) rfl rfl hF rfl (run_assign rfl rfl) ?_; clear hF; intro a hF
      refine wpList_nil ?_
      refine wp_ret ?_
      repeat with_reducible (first | refine then_ret ?_ | refine in_ret ?_ | refine in_nrm ?_)
      refine ret1_gw (.inl rfl) hF rfl (res_tmp (hF.ev rfl)) ?_
      obtain rfl := Option.some.inj hM
      exact ⟨rfl, S.sel [] rfl rfl⟩
    · replace hM := bif_t hc103 hM
      refine cond_t hF rfl hc103 ?_
      refine wp_seq ?_
      refine wp_region_lit ?_
      refine op_val (v := .pointer (some ⟨g101, 0, none⟩)) rfl rfl hF rfl (run_fieldAddr rfl fl59_0 (hF.ev rfl) rfl) ?_; clear hF; intro a hF
      refine op_val (v := .int .i64 x0) rfl rfl hF rfl (run_load1 rfl one3 (hF.ev rfl) ((S.free 0 rfl).cell rfl)) ?_; clear hF; intro a hF
      refine op_val (v := .int .i64 x0) rfl rfl hF rfl (run_assign rfl (hF.ev rfl)) ?_; clear hF; intro a hF
      refine wpList_nil ?_
      refine wp_ret ?_
      repeat with_reducible (first | refine then_ret ?_ | refine in_ret ?_ | refine in_nrm ?_)
      refine ret1_gw (.inl rfl) hF rfl (res_tmp (hF.ev rfl)) ?_
      obtain rfl := Option.some.inj hM
      exact ⟨rfl, S.sel [] rfl rfl⟩
  · replace hM := bif_t hc102 hM
    refine cond_t hF rfl hc102 ?_
    refine wp_seq ?_
    refine wp_region_lit ?_
    refine op_val (v := .pointer (some ⟨g101, 1, none⟩)) rfl rfl hF rfl (run_fieldAddr rfl fl59_1 (hF.ev rfl) rfl) ?_; clear hF; intro a hF
    refine op_val (v := .int .i64 x1) rfl rfl hF rfl (run_load1 rfl one3 (hF.ev rfl) ((S.free 0 rfl).cell rfl)) ?_; clear hF; intro a hF
    refine op_val (v := .int .i64 x1) rfl rfl hF rfl (run_assign rfl (hF.ev rfl)) ?_; clear hF; intro a hF
    refine wpList_nil ?_
    refine wp_ret ?_
    repeat with_reducible (first | refine then_ret ?_ | refine in_ret ?_ | refine in_nrm ?_)
    refine ret1_gw (.inl rfl) hF rfl (res_tmp (hF.ev rfl)) ?_
    obtain rfl := Option.some.inj hM
    exact ⟨rfl, S.sel [] rfl rfl⟩

end Go.Proofs.YthpmmfbnclfbmaaDoor
