/- Calls return what the models say. -/
import Derived.Test.YtceghkdjpkegaaaDa1
namespace Go.Proofs.Ytceghkdjpkegaaa
open Go.ChangeShapes Go.WideShapes Go.ChangeAt Go.RowKit
set_option linter.unusedVariables false
set_option linter.unusedSimpArgs false

set_option maxHeartbeats 4000000 in
theorem c_impl_Poll_hear {x0 : Int} {x1 : List Int} {x2 : Int} {x3 : List Int} {x4 : Int} {x5 : Int} {x6 : Int} {x7 : Int} {A1 : Option Addr} {n1 c1 : Nat} {A3 : Option Addr} {n3 c3 : Nat} {g0 : Nat} {w : World} {r : Int × List Int × Int × List Int × Int × Int × Int × Int} {w0 : World} {X : List Asn} (h1 : n1 = x1.length) (h3 : n3 = x3.length) (S : St w0 w (Asn.box g0 28 #[.int .i64 x0, .slice A1 n1 c1, .int .i64 x2, .slice A3 n3 c3, .int .i64 x4, .int .i64 x5, .int .i64 x6, .int .i64 x7] :: Asn.row 3 1 (.slice A1 n1 c1) n1 (x1.flatMap eI) :: Asn.row 3 1 (.slice A3 n3 c3) n3 (x3.flatMap eI) :: X)) (hM : m_impl_Poll_hear x0 x1 x2 x3 x4 x5 x6 x7 = some r) :
    Calls Try.prog 42 #[.pointer (some ⟨g0, 0, none⟩)] w (fun e w' => ∃ (B0 : Option Addr) (N0 D0 : Nat) (B1 : Option Addr) (N1 D1 : Nat), e = .returned (.tuple #[]) ∧ N0 = r.2.1.length ∧ N1 = r.2.2.2.1.length ∧ St w0 w' (Asn.box g0 28 #[.int .i64 r.1, .slice B0 N0 D0, .int .i64 r.2.2.1, .slice B1 N1 D1, .int .i64 r.2.2.2.2.1, .int .i64 r.2.2.2.2.2.1, .int .i64 r.2.2.2.2.2.2.1, .int .i64 r.2.2.2.2.2.2.2] :: Asn.row 3 1 (.slice B0 N0 D0) N0 (r.2.1.flatMap eI) :: Asn.row 3 1 (.slice B1 N1 D1) N1 (r.2.2.2.1.flatMap eI) :: X)) := by
  obtain rfl := h1
  obtain rfl := h3
  unfold m_impl_Poll_hear at hM
  refine calls_gw Try.func42 Try.ntmps42 rfl [(0, .pointer (some ⟨g0, 0, none⟩))] ⟨rfl, trivial⟩ rfl ?_
  intro a hF
  refine wp_seq ?_
  refine wp_seq ?_
  refine region_gw (D := [2, 3, 4, 5, 6, 7, 8, 9, 10]) (Lr := (Asn.box g0 28 #[.int .i64 x0, .slice A1 x1.length c1, .int .i64 x2, .slice A3 x3.length c3, .int .i64 x4, .int .i64 x5, .int .i64 x6, .int .i64 x7] :: Asn.row 3 1 (.slice A1 x1.length c1) x1.length (x1.flatMap eI) :: Asn.row 3 1 (.slice A3 x3.length c3) x3.length (x3.flatMap eI) :: X)) (deps := (fun | 0 => [2] | 1 => [3] | 2 => [4] | 3 => [5] | 4 => [6] | 5 => [7] | 6 => [8] | 7 => [9] | 8 => [10] | _ => [])) (rd := (fun _ => [])) (zr := (fun _ => []))
    (φ := fun i vs => match i, vs with | 0, [v2] => v2 = .pointer (some ⟨g0, 0, none⟩) | 1, [v3] => v3 = .pointer (some ⟨g0, 0, none⟩) | 2, [v4] => v4 = .pointer (some ⟨g0, 5, none⟩) | 3, [v5] => v5 = .int .i64 x5 | 4, [v6] => v6 = .pointer (some ⟨g0, 0, none⟩) | 5, [v7] => v7 = .pointer (some ⟨g0, 0, none⟩) | 6, [v8] => v8 = .pointer (some ⟨g0, 2, none⟩) | 7, [v9] => v9 = .int .i64 x2 | 8, [v10] => v10 = .bool (x5 != x2) | _, _ => True)
    (C := fun _ _ => [])
    (κ := (fun _ => none)) (Z := (fun _ => [])) mixed hF (by kernel_rfl) S ?_ ?_
  · refine ⟨?_, ?_, ?_, ?_, ?_, ?_, ?_, ?_, ?_, trivial⟩
    · intro a u X' hB hu hp hr hz hl S
      replace S : St w0 u ([] ++ X') := S
      exact .inl ⟨rfl, .pointer (some ⟨g0, 0, none⟩), u, (run_move rfl (hF.evB hB rfl rfl)), rfl, S⟩
    · intro a u X' hB hu hp hr hz hl S
      replace S : St w0 u ([] ++ X') := S
      have e2 : sl a 2 = .pointer (some ⟨g0, 0, none⟩) := hp 0 rfl
      exact .inl ⟨rfl, .pointer (some ⟨g0, 0, none⟩), u, (run_nilCheck rfl (ev_sl e2)), rfl, S⟩
    · intro a u X' hB hu hp hr hz hl S
      replace S : St w0 u ([] ++ X') := S
      have e3 : sl a 3 = .pointer (some ⟨g0, 0, none⟩) := hp 1 rfl
      exact .inl ⟨rfl, .pointer (some ⟨g0, 5, none⟩), u, (run_fieldAddr rfl fl28_5 (ev_sl e3) rfl), rfl, S⟩
    · intro a u X' hB hu hp hr hz hl S
      replace S : St w0 u ([] ++ X') := S
      have e4 : sl a 4 = .pointer (some ⟨g0, 5, none⟩) := hp 2 rfl
      exact .inl ⟨rfl, .int .i64 x5, u, (run_load1 rfl one3 (ev_sl e4) ((gr_box S hl 0 rfl).cell rfl)), rfl, S⟩
    · intro a u X' hB hu hp hr hz hl S
      replace S : St w0 u ([] ++ X') := S
      exact .inl ⟨rfl, .pointer (some ⟨g0, 0, none⟩), u, (run_move rfl (hF.evB hB rfl rfl)), rfl, S⟩
    · intro a u X' hB hu hp hr hz hl S
      replace S : St w0 u ([] ++ X') := S
      have e6 : sl a 6 = .pointer (some ⟨g0, 0, none⟩) := hp 4 rfl
      exact .inl ⟨rfl, .pointer (some ⟨g0, 0, none⟩), u, (run_nilCheck rfl (ev_sl e6)), rfl, S⟩
    · intro a u X' hB hu hp hr hz hl S
      replace S : St w0 u ([] ++ X') := S
      have e7 : sl a 7 = .pointer (some ⟨g0, 0, none⟩) := hp 5 rfl
      exact .inl ⟨rfl, .pointer (some ⟨g0, 2, none⟩), u, (run_fieldAddr rfl fl28_2 (ev_sl e7) rfl), rfl, S⟩
    · intro a u X' hB hu hp hr hz hl S
      replace S : St w0 u ([] ++ X') := S
      have e8 : sl a 8 = .pointer (some ⟨g0, 2, none⟩) := hp 6 rfl
      exact .inl ⟨rfl, .int .i64 x2, u, (run_load1 rfl one3 (ev_sl e8) ((gr_box S hl 0 rfl).cell rfl)), rfl, S⟩
    · intro a u X' hB hu hp hr hz hl S
      replace S : St w0 u ([] ++ X') := S
      have e5 : sl a 5 = .int .i64 x5 := hp 3 rfl
      have e9 : sl a 9 = .int .i64 x2 := hp 7 rfl
      exact .inl ⟨rfl, .bool (x5 != x2), u, (run_neq (ev_sl e5) (ev_sl e9) rfl), rfl, S⟩
  · intro a u hB hp S
    obtain ⟨q0, q1, q2, q3, q4, q5, q6, q7, q8, _⟩ := hp
    have e2 : sl a 2 = .pointer (some ⟨g0, 0, none⟩) := q0
    have e3 : sl a 3 = .pointer (some ⟨g0, 0, none⟩) := q1
    have e4 : sl a 4 = .pointer (some ⟨g0, 5, none⟩) := q2
    have e5 : sl a 5 = .int .i64 x5 := q3
    have e6 : sl a 6 = .pointer (some ⟨g0, 0, none⟩) := q4
    have e7 : sl a 7 = .pointer (some ⟨g0, 0, none⟩) := q5
    have e8 : sl a 8 = .pointer (some ⟨g0, 2, none⟩) := q6
    have e9 : sl a 9 = .int .i64 x2 := q7
    have e10 : sl a 10 = .bool (x5 != x2) := q8
    replace S : St w0 u (Asn.box g0 28 #[.int .i64 x0, .slice A1 x1.length c1, .int .i64 x2, .slice A3 x3.length c3, .int .i64 x4, .int .i64 x5, .int .i64 x6, .int .i64 x7] :: Asn.row 3 1 (.slice A1 x1.length c1) x1.length (x1.flatMap eI) :: Asn.row 3 1 (.slice A3 x3.length c3) x3.length (x3.flatMap eI) :: X) := S
    clear q0 q1 q2 q3 q4 q5 q6 q7 q8
    have hF := hF.region hB [(2, .pointer (some ⟨g0, 0, none⟩)), (3, .pointer (some ⟨g0, 0, none⟩)), (4, .pointer (some ⟨g0, 5, none⟩)), (5, .int .i64 x5), (6, .pointer (some ⟨g0, 0, none⟩)), (7, .pointer (some ⟨g0, 0, none⟩)), (8, .pointer (some ⟨g0, 2, none⟩)), (9, .int .i64 x2), (10, .bool (x5 != x2))] (allSl_mem ⟨e2, e3, e4, e5, e6, e7, e8, e9, e10, trivial⟩) rfl
    clear hB e2 e3 e4 e5 e6 e7 e8 e9 e10
    obtain ⟨o102, hM105, hM⟩ := bind_ex hM
    refine wp_cut (fun a u => ∃ (p101 : Int × List Int × Int) (B103 : Option Addr) (d104 : Nat), p101 = o102 ∧ Fr a 58 [(0, .pointer (some ⟨g0, 0, none⟩))] ∧ St w0 u (Asn.box g0 28 #[.int .i64 x0, .slice A1 x1.length c1, .int .i64 p101.1, .slice B103 p101.2.1.length d104, .int .i64 p101.2.2, .int .i64 x5, .int .i64 x6, .int .i64 x7] :: Asn.row 3 1 (.slice A1 x1.length c1) x1.length (x1.flatMap eI) :: Asn.row 3 1 (.slice B103 p101.2.1.length d104) p101.2.1.length (p101.2.1.flatMap eI) :: X)) ?_ ?_
    · have _ := trivial
      cases hc106 : (x5 != x2)
      · replace hM105 := bif_f hc106 hM105
        refine cond_f hF rfl hc106 ?_
        refine wp_skip ?_
        obtain rfl := Option.some.inj hM105
        exact ⟨(x2, x3, x4), A3, c3, rfl, hF.keep _ ⟨rfl, trivial⟩, S.selT (M := [.box g0 28 #[.int .i64 x0, .slice A1 x1.length c1, .int .i64 x2, .slice A3 x3.length c3, .int .i64 x4, .int .i64 x5, .int .i64 x6, .int .i64 x7], .row 3 1 (.slice A1 x1.length c1) x1.length (x1.flatMap eI), .row 3 1 (.slice A3 x3.length c3) x3.length (x3.flatMap eI)]) 3 [0, 1, 2] rfl rfl rfl⟩
      · replace hM105 := bif_t hc106 hM105
        refine cond_t hF rfl hc106 ?_
        refine wp_seq ?_
        refine wp_region_lit ?_
        refine op_val (v := .pointer (some ⟨g0, 0, none⟩)) rfl rfl hF rfl (run_move rfl (hF.ev rfl)) ?_; clear hF; intro a hF
        refine op_val (v := .pointer (some ⟨g0, 0, none⟩)) rfl rfl hF rfl (run_move rfl (hF.ev rfl)) ?_; clear hF; intro a hF
        refine op_val (v := .pointer (some ⟨g0, 0, none⟩)) rfl rfl hF rfl (run_move rfl (hF.ev rfl)) ?_; clear hF; intro a hF
        refine op_val (v := .pointer (some ⟨g0, 0, none⟩)) rfl rfl hF rfl (run_nilCheck rfl (hF.ev rfl)) ?_; clear hF; intro a hF
        refine op_val (v := .pointer (some ⟨g0, 5, none⟩)) rfl rfl hF rfl (run_fieldAddr rfl fl28_5 (hF.ev rfl) rfl) ?_; clear hF; intro a hF
        refine op_val (v := .int .i64 x5) rfl rfl hF rfl (run_load1 rfl one3 (hF.ev rfl) ((S.free 0 rfl).cell rfl)) ?_; clear hF; intro a hF
        refine op_val (v := .pointer (some ⟨g0, 0, none⟩)) rfl rfl hF rfl (run_nilCheck rfl (hF.ev rfl)) ?_; clear hF; intro a hF
        refine op_val (v := .pointer (some ⟨g0, 2, none⟩)) rfl rfl hF rfl (run_fieldAddr rfl fl28_2 (hF.ev rfl) rfl) ?_; clear hF; intro a hF
        refine op_do rfl rfl (run_store (cs' := #[.int .i64 x0, .slice A1 x1.length c1, .int .i64 x5, .slice A3 x3.length c3, .int .i64 x4, .int .i64 x5, .int .i64 x6, .int .i64 x7]) rfl sz3 (hF.ev rfl) (hF.ev rfl) rfl rfl rfl (S.free 0 rfl) rfl rfl) ?_; replace S := S.put 0 rfl (#[.int .i64 x0, .slice A1 x1.length c1, .int .i64 x5, .slice A3 x3.length c3, .int .i64 x4, .int .i64 x5, .int .i64 x6, .int .i64 x7])
        generalize World.setRow _ _ _ = u at S ⊢
        refine op_val (v := .pointer (some ⟨g0, 0, none⟩)) rfl rfl hF rfl (run_nilCheck rfl (hF.ev rfl)) ?_; clear hF; intro a hF
        refine op_val (v := .pointer (some ⟨g0, 4, none⟩)) rfl rfl hF rfl (run_fieldAddr rfl fl28_4 (hF.ev rfl) rfl) ?_; clear hF; intro a hF
        refine op_do rfl rfl (run_store (cs' := #[.int .i64 x0, .slice A1 x1.length c1, .int .i64 x5, .slice A3 x3.length c3, .int .i64 (-1), .int .i64 x5, .int .i64 x6, .int .i64 x7]) rfl sz3 (hF.ev rfl) rfl rfl rfl rfl (S.free 0 rfl) rfl rfl) ?_; replace S := S.put 0 rfl (#[.int .i64 x0, .slice A1 x1.length c1, .int .i64 x5, .slice A3 x3.length c3, .int .i64 (-1), .int .i64 x5, .int .i64 x6, .int .i64 x7])
        generalize World.setRow _ _ _ = u at S ⊢
        refine wpList_nil ?_
        refine wp_seq ?_
        refine wp_region_lit ?_
        refine op_val (v := .pointer (some ⟨g0, 0, none⟩)) rfl rfl hF rfl (run_move rfl (hF.ev rfl)) ?_; clear hF; intro a hF
        refine op_val (v := .pointer (some ⟨g0, 0, none⟩)) rfl rfl hF rfl (run_nilCheck rfl (hF.ev rfl)) ?_; clear hF; intro a hF
        refine op_val (v := .pointer (some ⟨g0, 3, none⟩)) rfl rfl hF rfl (run_fieldAddr rfl fl28_3 (hF.ev rfl) rfl) ?_; clear hF; intro a hF
        refine op_val (v := .slice A3 x3.length c3) rfl rfl hF rfl (run_load1 rfl one22 (hF.ev rfl) ((S.free 0 rfl).cell rfl)) ?_; clear hF; intro a hF
        refine op_val (v := .int .i64 (x3.length : Int)) rfl rfl hF rfl (run_lenL rfl rfl Try.underlying22 (hF.ev rfl)) ?_; clear hF; intro a hF
        refine op_val (v := .bool (ltB 0 (x3.length : Int))) rfl rfl hF rfl (run_gtr (hF.ev rfl) rfl rfl) ?_; clear hF; intro a hF
        refine wpList_nil ?_
        obtain ⟨o108, hM111, hM105⟩ := bind_ex hM105
        refine wp_cut (fun a u => ∃ (p107 : List Int × Int) (B109 : Option Addr) (d110 : Nat), p107 = o108 ∧ Fr a 58 [(0, .pointer (some ⟨g0, 0, none⟩))] ∧ St w0 u (Asn.box g0 28 #[.int .i64 x0, .slice A1 x1.length c1, .int .i64 x5, .slice B109 p107.1.length d110, .int .i64 p107.2, .int .i64 x5, .int .i64 x6, .int .i64 x7] :: Asn.row 3 1 (.slice A1 x1.length c1) x1.length (x1.flatMap eI) :: Asn.row 3 1 (.slice B109 p107.1.length d110) p107.1.length (p107.1.flatMap eI) :: X)) ?_ ?_
        · have _ := trivial
          cases hc112 : (ltB 0 (x3.length : Int))
          · replace hM111 := bif_f hc112 hM111
            refine cond_f hF rfl hc112 ?_
            refine wp_skip ?_
            obtain rfl := Option.some.inj hM111
            exact ⟨(x3, -1), A3, c3, rfl, hF.keep _ ⟨rfl, trivial⟩, S.selT (M := [.box g0 28 #[.int .i64 x0, .slice A1 x1.length c1, .int .i64 x5, .slice A3 x3.length c3, .int .i64 (-1), .int .i64 x5, .int .i64 x6, .int .i64 x7], .row 3 1 (.slice A1 x1.length c1) x1.length (x1.flatMap eI), .row 3 1 (.slice A3 x3.length c3) x3.length (x3.flatMap eI)]) 3 [0, 1, 2] rfl rfl rfl⟩
          · replace hM111 := bif_t hc112 hM111
            refine cond_t hF rfl hc112 ?_
            obtain ⟨hk113, hM111⟩ := chk_ex hM111
            replace hk113 := ixB_t hk113
            obtain ⟨hk114, hM111⟩ := chk_ex hM111
            replace hk114 := slB_t hk114
            refine region_gw (D := [27, 28, 29, 30, 31, 32, 33, 34, 35, 36, 37, 38, 39, 40, 41, 42, 43]) (Lr := (Asn.row 3 1 (.slice A1 x1.length c1) x1.length (x1.flatMap eI) :: X)) (deps := (fun | 0 => [27] | 1 => [28] | 2 => [29] | 3 => [30] | 4 => [31] | 5 => [32] | 6 => [33] | 7 => [34] | 8 => [35] | 9 => [36] | 10 => [37] | 11 => [38] | 12 => [39] | 13 => [40] | 14 => [41] | 15 => [41] | 16 => [42] | 17 => [43] | 18 => [43] | _ => [])) (rd := (fun _ => [])) (zr := (fun | 5 => [15] | 6 => [18] | 7 => [18] | 11 => [15] | 12 => [18] | _ => []))
              (φ := fun i vs => match i, vs with | 0, [v27] => v27 = .pointer (some ⟨g0, 0, none⟩) | 1, [v28] => v28 = .pointer (some ⟨g0, 0, none⟩) | 2, [v29] => v29 = .pointer (some ⟨g0, 0, none⟩) | 3, [v30] => v30 = .pointer (some ⟨g0, 0, none⟩) | 4, [v31] => v31 = .pointer (some ⟨g0, 3, none⟩) | 5, [v32] => v32 = .slice A3 x3.length c3 | 6, [v33] => v33 = .pointer (some ⟨adB A3, adO A3 + ((0 : Int).toNat) * 1, none⟩) | 7, [v34] => v34 = .int .i64 (x3.getD ((0 : Int).toNat) (0 : Int)) | 8, [v35] => v35 = .pointer (some ⟨g0, 0, none⟩) | 9, [v36] => v36 = .pointer (some ⟨g0, 0, none⟩) | 10, [v37] => v37 = .pointer (some ⟨g0, 3, none⟩) | 11, [v38] => v38 = .slice A3 x3.length c3 | 12, [v39] => v39 = .slice (subA c3 ((1 : Int).toNat) 1 A3) ((subL x3 1 (x3.length : Int)).length) (c3 - (1 : Int).toNat) | 13, [v40] => v40 = .pointer (some ⟨g0, 0, none⟩) | 14, [v41] => v41 = .pointer (some ⟨g0, 4, none⟩) | 16, [v42] => v42 = .pointer (some ⟨g0, 0, none⟩) | 17, [v43] => v43 = .pointer (some ⟨g0, 3, none⟩) | _, _ => True)
              (C := fun i vs => match i, vs with | 15, [v41] => [.box g0 28 #[.int .i64 x0, .slice A1 x1.length c1, .int .i64 x5, .slice A3 x3.length c3, .int .i64 (x3.getD ((0 : Int).toNat) (0 : Int)), .int .i64 x5, .int .i64 x6, .int .i64 x7]] | 18, [v43] => [.row 3 1 (.slice (subA c3 ((1 : Int).toNat) 1 A3) ((subL x3 1 (x3.length : Int)).length) (c3 - (1 : Int).toNat)) ((subL x3 1 (x3.length : Int)).length) ((subL x3 1 (x3.length : Int)).flatMap eI), .box g0 28 #[.int .i64 x0, .slice A1 x1.length c1, .int .i64 x5, .slice (subA c3 ((1 : Int).toNat) 1 A3) ((subL x3 1 (x3.length : Int)).length) (c3 - (1 : Int).toNat), .int .i64 (x3.getD ((0 : Int).toNat) (0 : Int)), .int .i64 x5, .int .i64 x6, .int .i64 x7]] | _, _ => [])
              (κ := (fun | 15 => some 18 | _ => none)) (Z := (fun | 15 => [.box g0 28 #[.int .i64 x0, .slice A1 x1.length c1, .int .i64 x5, .slice A3 x3.length c3, .int .i64 (-1), .int .i64 x5, .int .i64 x6, .int .i64 x7]] | 18 => [.row 3 1 (.slice A3 x3.length c3) x3.length (x3.flatMap eI)] | _ => [])) mixed hF (by kernel_rfl) (show St w0 _ (Asn.box g0 28 #[.int .i64 x0, .slice A1 x1.length c1, .int .i64 x5, .slice A3 x3.length c3, .int .i64 (-1), .int .i64 x5, .int .i64 x6, .int .i64 x7] :: Asn.row 3 1 (.slice A3 x3.length c3) x3.length (x3.flatMap eI) :: Asn.row 3 1 (.slice A1 x1.length c1) x1.length (x1.flatMap eI) :: X) from S.selT (M := [.box g0 28 #[.int .i64 x0, .slice A1 x1.length c1, .int .i64 x5, .slice A3 x3.length c3, .int .i64 (-1), .int .i64 x5, .int .i64 x6, .int .i64 x7], .row 3 1 (.slice A3 x3.length c3) x3.length (x3.flatMap eI), .row 3 1 (.slice A1 x1.length c1) x1.length (x1.flatMap eI)]) 3 [0, 2, 1] rfl rfl rfl) ?_ ?_
            · refine ⟨?_, ?_, ?_, ?_, ?_, ?_, ?_, ?_, ?_, ?_, ?_, ?_, ?_, ?_, ?_, ?_, ?_, ?_, ?_, trivial⟩
              · intro a u X' hB hu hp hr hz hl S
                replace S : St w0 u ([] ++ X') := S
                exact .inl ⟨rfl, .pointer (some ⟨g0, 0, none⟩), u, (run_move rfl (hF.evB hB rfl rfl)), rfl, S⟩
              · intro a u X' hB hu hp hr hz hl S
                replace S : St w0 u ([] ++ X') := S
                exact .inl ⟨rfl, .pointer (some ⟨g0, 0, none⟩), u, (run_move rfl (hF.evB hB rfl rfl)), rfl, S⟩
              · intro a u X' hB hu hp hr hz hl S
                replace S : St w0 u ([] ++ X') := S
                exact .inl ⟨rfl, .pointer (some ⟨g0, 0, none⟩), u, (run_move rfl (hF.evB hB rfl rfl)), rfl, S⟩
              · intro a u X' hB hu hp hr hz hl S
                replace S : St w0 u ([] ++ X') := S
                have e29 : sl a 29 = .pointer (some ⟨g0, 0, none⟩) := hp 2 rfl
                exact .inl ⟨rfl, .pointer (some ⟨g0, 0, none⟩), u, (run_nilCheck rfl (ev_sl e29)), rfl, S⟩
              · intro a u X' hB hu hp hr hz hl S
                replace S : St w0 u ([] ++ X') := S
                have e30 : sl a 30 = .pointer (some ⟨g0, 0, none⟩) := hp 3 rfl
                exact .inl ⟨rfl, .pointer (some ⟨g0, 3, none⟩), u, (run_fieldAddr rfl fl28_3 (ev_sl e30) rfl), rfl, S⟩
              · intro a u X' hB hu hp hr hz hl S
                replace S : St w0 u ([] ++ X') := S
                have e31 : sl a 31 = .pointer (some ⟨g0, 3, none⟩) := hp 4 rfl
                exact .inl ⟨rfl, .slice A3 x3.length c3, u, (run_load1 rfl one22 (ev_sl e31) ((show Bk _ _ _ _ from S.mem (List.mem_append_right _ (hz 15 (List.mem_of_getElem? (i := 0) rfl) _ (List.mem_of_getElem? (i := 0) rfl)))).cell rfl)), rfl, S⟩
              · intro a u X' hB hu hp hr hz hl S
                replace S : St w0 u ([] ++ X') := S
                have e32 : sl a 32 = .slice A3 x3.length c3 := hp 5 rfl
                exact .inl ⟨rfl, .pointer (some ⟨adB A3, adO A3 + ((0 : Int).toNat) * 1, none⟩), u, (run_indexAddr (b := adB A3) (off := adO A3) rfl Try.underlying22 sz3 ((ev_sl e32).trans (congrArg (fun A => Value.slice A x3.length c3) ((own_rc (show Ow _ _ _ _ _ _ from S.mem (List.mem_append_right _ (hz 18 (List.mem_of_getElem? (i := 0) rfl) _ (List.mem_of_getElem? (i := 0) rfl))))).rd.ad (ix_pos hk113)))) (ev_const _ _) hk113.1 hk113.2 (k' := adO A3 + ((0 : Int).toNat) * 1) rfl), rfl, S⟩
              · intro a u X' hB hu hp hr hz hl S
                replace S : St w0 u ([] ++ X') := S
                have e33 : sl a 33 = .pointer (some ⟨adB A3, adO A3 + ((0 : Int).toNat) * 1, none⟩) := hp 6 rfl
                exact .inl ⟨rfl, .int .i64 (x3.getD ((0 : Int).toNat) (0 : Int)), u, (run_load1 rfl one3 (ev_sl e33) (rd_el0 (l := x3) (own_rc (show Ow _ _ _ _ _ _ from S.mem (List.mem_append_right _ (hz 18 (List.mem_of_getElem? (i := 0) rfl) _ (List.mem_of_getElem? (i := 0) rfl))))).rd rfl eI_len (0 : Int) (ix_ltn hk113 rfl) rfl)), rfl, S⟩
              · intro a u X' hB hu hp hr hz hl S
                replace S : St w0 u ([] ++ X') := S
                exact .inl ⟨rfl, .pointer (some ⟨g0, 0, none⟩), u, (run_move rfl (hF.evB hB rfl rfl)), rfl, S⟩
              · intro a u X' hB hu hp hr hz hl S
                replace S : St w0 u ([] ++ X') := S
                have e35 : sl a 35 = .pointer (some ⟨g0, 0, none⟩) := hp 8 rfl
                exact .inl ⟨rfl, .pointer (some ⟨g0, 0, none⟩), u, (run_nilCheck rfl (ev_sl e35)), rfl, S⟩
              · intro a u X' hB hu hp hr hz hl S
                replace S : St w0 u ([] ++ X') := S
                have e36 : sl a 36 = .pointer (some ⟨g0, 0, none⟩) := hp 9 rfl
                exact .inl ⟨rfl, .pointer (some ⟨g0, 3, none⟩), u, (run_fieldAddr rfl fl28_3 (ev_sl e36) rfl), rfl, S⟩
              · intro a u X' hB hu hp hr hz hl S
                replace S : St w0 u ([] ++ X') := S
                have e37 : sl a 37 = .pointer (some ⟨g0, 3, none⟩) := hp 10 rfl
                exact .inl ⟨rfl, .slice A3 x3.length c3, u, (run_load1 rfl one22 (ev_sl e37) ((show Bk _ _ _ _ from S.mem (List.mem_append_right _ (hz 15 (List.mem_of_getElem? (i := 0) rfl) _ (List.mem_of_getElem? (i := 0) rfl)))).cell rfl)), rfl, S⟩
              · intro a u X' hB hu hp hr hz hl S
                replace S : St w0 u ([] ++ X') := S
                have e38 : sl a 38 = .slice A3 x3.length c3 := hp 11 rfl
                exact .inl ⟨rfl, .slice (subA c3 ((1 : Int).toNat) 1 A3) ((subL x3 1 (x3.length : Int)).length) (c3 - (1 : Int).toNat), u, (run_slicefrom (l := x3) rfl Try.underlying22 sz3 (ev_sl e38) (ev_const _ _) hk114 rfl (own_rc (show Ow _ _ _ _ _ _ from S.mem (List.mem_append_right _ (hz 18 (List.mem_of_getElem? (i := 0) rfl) _ (List.mem_of_getElem? (i := 0) rfl))))).cap), rfl, S⟩
              · intro a u X' hB hu hp hr hz hl S
                replace S : St w0 u ([] ++ X') := S
                have e27 : sl a 27 = .pointer (some ⟨g0, 0, none⟩) := hp 0 rfl
                exact .inl ⟨rfl, .pointer (some ⟨g0, 0, none⟩), u, (run_nilCheck rfl (ev_sl e27)), rfl, S⟩
              · intro a u X' hB hu hp hr hz hl S
                replace S : St w0 u ([] ++ X') := S
                have e40 : sl a 40 = .pointer (some ⟨g0, 0, none⟩) := hp 13 rfl
                exact .inl ⟨rfl, .pointer (some ⟨g0, 4, none⟩), u, (run_fieldAddr rfl fl28_4 (ev_sl e40) rfl), rfl, S⟩
              · intro a u X' hB hu hp hr hz hl S
                replace S : St w0 u ([.box g0 28 #[.int .i64 x0, .slice A1 x1.length c1, .int .i64 x5, .slice A3 x3.length c3, .int .i64 (-1), .int .i64 x5, .int .i64 x6, .int .i64 x7]] ++ X') := S
                have e34 : sl a 34 = .int .i64 (x3.getD ((0 : Int).toNat) (0 : Int)) := hp 7 rfl
                have e41 : sl a 41 = .pointer (some ⟨g0, 4, none⟩) := hp 14 rfl
                exact .inr (.inl ⟨rfl, _, run_store (cs' := #[.int .i64 x0, .slice A1 x1.length c1, .int .i64 x5, .slice A3 x3.length c3, .int .i64 (x3.getD ((0 : Int).toNat) (0 : Int)), .int .i64 x5, .int .i64 x6, .int .i64 x7]) rfl sz3 (ev_sl e41) (ev_sl e34) rfl rfl rfl (S.free 0 rfl) rfl rfl, trivial, S.put 0 rfl (#[.int .i64 x0, .slice A1 x1.length c1, .int .i64 x5, .slice A3 x3.length c3, .int .i64 (x3.getD ((0 : Int).toNat) (0 : Int)), .int .i64 x5, .int .i64 x6, .int .i64 x7])⟩)
              · intro a u X' hB hu hp hr hz hl S
                replace S : St w0 u ([] ++ X') := S
                have e28 : sl a 28 = .pointer (some ⟨g0, 0, none⟩) := hp 1 rfl
                exact .inl ⟨rfl, .pointer (some ⟨g0, 0, none⟩), u, (run_nilCheck rfl (ev_sl e28)), rfl, S⟩
              · intro a u X' hB hu hp hr hz hl S
                replace S : St w0 u ([] ++ X') := S
                have e42 : sl a 42 = .pointer (some ⟨g0, 0, none⟩) := hp 16 rfl
                exact .inl ⟨rfl, .pointer (some ⟨g0, 3, none⟩), u, (run_fieldAddr rfl fl28_3 (ev_sl e42) rfl), rfl, S⟩
              · intro a u X' hB hu hp hr hz hl S
                replace S : St w0 u ([.row 3 1 (.slice A3 x3.length c3) x3.length (x3.flatMap eI), .box g0 28 #[.int .i64 x0, .slice A1 x1.length c1, .int .i64 x5, .slice A3 x3.length c3, .int .i64 (x3.getD ((0 : Int).toNat) (0 : Int)), .int .i64 x5, .int .i64 x6, .int .i64 x7]] ++ X') := S
                have e39 : sl a 39 = .slice (subA c3 ((1 : Int).toNat) 1 A3) ((subL x3 1 (x3.length : Int)).length) (c3 - (1 : Int).toNat) := hp 12 rfl
                have e43 : sl a 43 = .pointer (some ⟨g0, 3, none⟩) := hp 17 rfl
                replace S := S.subrow 0 rfl eI_len rfl hk114
                exact .inr (.inl ⟨rfl, _, run_store (cs' := #[.int .i64 x0, .slice A1 x1.length c1, .int .i64 x5, .slice (subA c3 ((1 : Int).toNat) 1 A3) ((subL x3 1 (x3.length : Int)).length) (c3 - (1 : Int).toNat), .int .i64 (x3.getD ((0 : Int).toNat) (0 : Int)), .int .i64 x5, .int .i64 x6, .int .i64 x7]) rfl sz22 (ev_sl e43) (ev_sl e39) rfl rfl rfl (S.free 1 rfl) rfl rfl, trivial, S.put 1 rfl (#[.int .i64 x0, .slice A1 x1.length c1, .int .i64 x5, .slice (subA c3 ((1 : Int).toNat) 1 A3) ((subL x3 1 (x3.length : Int)).length) (c3 - (1 : Int).toNat), .int .i64 (x3.getD ((0 : Int).toNat) (0 : Int)), .int .i64 x5, .int .i64 x6, .int .i64 x7])⟩)
            · intro a u hB hp S
              obtain ⟨q0, q1, q2, q3, q4, q5, q6, q7, q8, q9, q10, q11, q12, q13, q14, q15, q16, q17, q18, _⟩ := hp
              have e27 : sl a 27 = .pointer (some ⟨g0, 0, none⟩) := q0
              have e28 : sl a 28 = .pointer (some ⟨g0, 0, none⟩) := q1
              have e29 : sl a 29 = .pointer (some ⟨g0, 0, none⟩) := q2
              have e30 : sl a 30 = .pointer (some ⟨g0, 0, none⟩) := q3
              have e31 : sl a 31 = .pointer (some ⟨g0, 3, none⟩) := q4
              have e32 : sl a 32 = .slice A3 x3.length c3 := q5
              have e33 : sl a 33 = .pointer (some ⟨adB A3, adO A3 + ((0 : Int).toNat) * 1, none⟩) := q6
              have e34 : sl a 34 = .int .i64 (x3.getD ((0 : Int).toNat) (0 : Int)) := q7
              have e35 : sl a 35 = .pointer (some ⟨g0, 0, none⟩) := q8
              have e36 : sl a 36 = .pointer (some ⟨g0, 0, none⟩) := q9
              have e37 : sl a 37 = .pointer (some ⟨g0, 3, none⟩) := q10
              have e38 : sl a 38 = .slice A3 x3.length c3 := q11
              have e39 : sl a 39 = .slice (subA c3 ((1 : Int).toNat) 1 A3) ((subL x3 1 (x3.length : Int)).length) (c3 - (1 : Int).toNat) := q12
              have e40 : sl a 40 = .pointer (some ⟨g0, 0, none⟩) := q13
              have e41 : sl a 41 = .pointer (some ⟨g0, 4, none⟩) := q14
              have e42 : sl a 42 = .pointer (some ⟨g0, 0, none⟩) := q16
              have e43 : sl a 43 = .pointer (some ⟨g0, 3, none⟩) := q17
              replace S : St w0 u (Asn.row 3 1 (.slice (subA c3 ((1 : Int).toNat) 1 A3) ((subL x3 1 (x3.length : Int)).length) (c3 - (1 : Int).toNat)) ((subL x3 1 (x3.length : Int)).length) ((subL x3 1 (x3.length : Int)).flatMap eI) :: Asn.box g0 28 #[.int .i64 x0, .slice A1 x1.length c1, .int .i64 x5, .slice (subA c3 ((1 : Int).toNat) 1 A3) ((subL x3 1 (x3.length : Int)).length) (c3 - (1 : Int).toNat), .int .i64 (x3.getD ((0 : Int).toNat) (0 : Int)), .int .i64 x5, .int .i64 x6, .int .i64 x7] :: Asn.row 3 1 (.slice A1 x1.length c1) x1.length (x1.flatMap eI) :: X) := S
              clear q0 q1 q2 q3 q4 q5 q6 q7 q8 q9 q10 q11 q12 q13 q14 q15 q16 q17 q18
              have hF := hF.region hB [(27, .pointer (some ⟨g0, 0, none⟩)), (28, .pointer (some ⟨g0, 0, none⟩)), (29, .pointer (some ⟨g0, 0, none⟩)), (30, .pointer (some ⟨g0, 0, none⟩)), (31, .pointer (some ⟨g0, 3, none⟩)), (32, .slice A3 x3.length c3), (33, .pointer (some ⟨adB A3, adO A3 + ((0 : Int).toNat) * 1, none⟩)), (34, .int .i64 (x3.getD ((0 : Int).toNat) (0 : Int))), (35, .pointer (some ⟨g0, 0, none⟩)), (36, .pointer (some ⟨g0, 0, none⟩)), (37, .pointer (some ⟨g0, 3, none⟩)), (38, .slice A3 x3.length c3), (39, .slice (subA c3 ((1 : Int).toNat) 1 A3) ((subL x3 1 (x3.length : Int)).length) (c3 - (1 : Int).toNat)), (40, .pointer (some ⟨g0, 0, none⟩)), (41, .pointer (some ⟨g0, 4, none⟩)), (42, .pointer (some ⟨g0, 0, none⟩)), (43, .pointer (some ⟨g0, 3, none⟩))] (allSl_mem ⟨e27, e28, e29, e30, e31, e32, e33, e34, e35, e36, e37, e38, e39, e40, e41, e42, e43, trivial⟩) rfl
              clear hB e27 e28 e29 e30 e31 e32 e33 e34 e35 e36 e37 e38 e39 e40 e41 e42 e43
              obtain rfl := Option.some.inj hM111
              exact ⟨(subL x3 1 (x3.length : Int), (x3.getD ((0 : Int).toNat) (0 : Int))), (subA c3 ((1 : Int).toNat) 1 A3), (c3 - (1 : Int).toNat), rfl, hF.keep _ ⟨rfl, trivial⟩, S.selT (M := [.box g0 28 #[.int .i64 x0, .slice A1 x1.length c1, .int .i64 x5, .slice (subA c3 ((1 : Int).toNat) 1 A3) ((subL x3 1 (x3.length : Int)).length) (c3 - (1 : Int).toNat), .int .i64 (x3.getD ((0 : Int).toNat) (0 : Int)), .int .i64 x5, .int .i64 x6, .int .i64 x7], .row 3 1 (.slice A1 x1.length c1) x1.length (x1.flatMap eI), .row 3 1 (.slice (subA c3 ((1 : Int).toNat) 1 A3) ((subL x3 1 (x3.length : Int)).length) (c3 - (1 : Int).toNat)) ((subL x3 1 (x3.length : Int)).length) ((subL x3 1 (x3.length : Int)).flatMap eI)]) 3 [1, 2, 0] rfl rfl rfl⟩
        · rintro a u ⟨p107, B109, d110, rfl, hF, S⟩
          obtain rfl := Option.some.inj hM105
          exact ⟨(x5, p107.1, p107.2), B109, d110, rfl, hF.keep _ ⟨rfl, trivial⟩, S.selT (M := [.box g0 28 #[.int .i64 x0, .slice A1 x1.length c1, .int .i64 x5, .slice B109 p107.1.length d110, .int .i64 p107.2, .int .i64 x5, .int .i64 x6, .int .i64 x7], .row 3 1 (.slice A1 x1.length c1) x1.length (x1.flatMap eI), .row 3 1 (.slice B109 p107.1.length d110) p107.1.length (p107.1.flatMap eI)]) 3 [0, 1, 2] rfl rfl rfl⟩
    · rintro a u ⟨p101, B103, d104, rfl, hF, S⟩
      refine region_gw (D := [44, 45, 46, 47, 48, 49, 50, 51, 52, 53, 54, 55, 56, 57]) (Lr := (Asn.row 3 1 (.slice A1 x1.length c1) x1.length (x1.flatMap eI) :: Asn.row 3 1 (.slice B103 p101.2.1.length d104) p101.2.1.length (p101.2.1.flatMap eI) :: X)) (deps := (fun | 0 => [44] | 1 => [45] | 2 => [46] | 3 => [47] | 4 => [48] | 5 => [49] | 6 => [50] | 7 => [51] | 8 => [52] | 9 => [53] | 10 => [54] | 11 => [55] | 12 => [55] | 13 => [56] | 14 => [57] | 15 => [57] | _ => [])) (rd := (fun _ => [])) (zr := (fun | 5 => [12] | 9 => [12] | _ => []))
        (φ := fun i vs => match i, vs with | 0, [v44] => v44 = .pointer (some ⟨g0, 0, none⟩) | 1, [v45] => v45 = .pointer (some ⟨g0, 0, none⟩) | 2, [v46] => v46 = .pointer (some ⟨g0, 0, none⟩) | 3, [v47] => v47 = .pointer (some ⟨g0, 0, none⟩) | 4, [v48] => v48 = .pointer (some ⟨g0, 2, none⟩) | 5, [v49] => v49 = .int .i64 p101.1 | 6, [v50] => v50 = .pointer (some ⟨g0, 0, none⟩) | 7, [v51] => v51 = .pointer (some ⟨g0, 0, none⟩) | 8, [v52] => v52 = .pointer (some ⟨g0, 4, none⟩) | 9, [v53] => v53 = .int .i64 p101.2.2 | 10, [v54] => v54 = .pointer (some ⟨g0, 0, none⟩) | 11, [v55] => v55 = .pointer (some ⟨g0, 6, none⟩) | 13, [v56] => v56 = .pointer (some ⟨g0, 0, none⟩) | 14, [v57] => v57 = .pointer (some ⟨g0, 7, none⟩) | _, _ => True)
        (C := fun i vs => match i, vs with | 12, [v55] => [.box g0 28 #[.int .i64 x0, .slice A1 x1.length c1, .int .i64 p101.1, .slice B103 p101.2.1.length d104, .int .i64 p101.2.2, .int .i64 x5, .int .i64 p101.1, .int .i64 x7]] | 15, [v57] => [.box g0 28 #[.int .i64 x0, .slice A1 x1.length c1, .int .i64 p101.1, .slice B103 p101.2.1.length d104, .int .i64 p101.2.2, .int .i64 x5, .int .i64 p101.1, .int .i64 p101.2.2]] | _, _ => [])
        (κ := (fun | 12 => some 15 | _ => none)) (Z := (fun | 12 => [.box g0 28 #[.int .i64 x0, .slice A1 x1.length c1, .int .i64 p101.1, .slice B103 p101.2.1.length d104, .int .i64 p101.2.2, .int .i64 x5, .int .i64 x6, .int .i64 x7]] | _ => [])) mixed hF (by kernel_rfl) (show St w0 _ (Asn.box g0 28 #[.int .i64 x0, .slice A1 x1.length c1, .int .i64 p101.1, .slice B103 p101.2.1.length d104, .int .i64 p101.2.2, .int .i64 x5, .int .i64 x6, .int .i64 x7] :: Asn.row 3 1 (.slice A1 x1.length c1) x1.length (x1.flatMap eI) :: Asn.row 3 1 (.slice B103 p101.2.1.length d104) p101.2.1.length (p101.2.1.flatMap eI) :: X) from S.selT (M := [.box g0 28 #[.int .i64 x0, .slice A1 x1.length c1, .int .i64 p101.1, .slice B103 p101.2.1.length d104, .int .i64 p101.2.2, .int .i64 x5, .int .i64 x6, .int .i64 x7], .row 3 1 (.slice A1 x1.length c1) x1.length (x1.flatMap eI), .row 3 1 (.slice B103 p101.2.1.length d104) p101.2.1.length (p101.2.1.flatMap eI)]) 3 [0, 1, 2] rfl rfl rfl) ?_ ?_
      · refine ⟨?_, ?_, ?_, ?_, ?_, ?_, ?_, ?_, ?_, ?_, ?_, ?_, ?_, ?_, ?_, ?_, trivial⟩
        · intro a u X' hB hu hp hr hz hl S
          replace S : St w0 u ([] ++ X') := S
          exact .inl ⟨rfl, .pointer (some ⟨g0, 0, none⟩), u, (run_move rfl (hF.evB hB rfl rfl)), rfl, S⟩
        · intro a u X' hB hu hp hr hz hl S
          replace S : St w0 u ([] ++ X') := S
          exact .inl ⟨rfl, .pointer (some ⟨g0, 0, none⟩), u, (run_move rfl (hF.evB hB rfl rfl)), rfl, S⟩
        · intro a u X' hB hu hp hr hz hl S
          replace S : St w0 u ([] ++ X') := S
          exact .inl ⟨rfl, .pointer (some ⟨g0, 0, none⟩), u, (run_move rfl (hF.evB hB rfl rfl)), rfl, S⟩
        · intro a u X' hB hu hp hr hz hl S
          replace S : St w0 u ([] ++ X') := S
          have e46 : sl a 46 = .pointer (some ⟨g0, 0, none⟩) := hp 2 rfl
          exact .inl ⟨rfl, .pointer (some ⟨g0, 0, none⟩), u, (run_nilCheck rfl (ev_sl e46)), rfl, S⟩
        · intro a u X' hB hu hp hr hz hl S
          replace S : St w0 u ([] ++ X') := S
          have e47 : sl a 47 = .pointer (some ⟨g0, 0, none⟩) := hp 3 rfl
          exact .inl ⟨rfl, .pointer (some ⟨g0, 2, none⟩), u, (run_fieldAddr rfl fl28_2 (ev_sl e47) rfl), rfl, S⟩
        · intro a u X' hB hu hp hr hz hl S
          replace S : St w0 u ([] ++ X') := S
          have e48 : sl a 48 = .pointer (some ⟨g0, 2, none⟩) := hp 4 rfl
          exact .inl ⟨rfl, .int .i64 p101.1, u, (run_load1 rfl one3 (ev_sl e48) ((show Bk _ _ _ _ from S.mem (List.mem_append_right _ (hz 12 (List.mem_of_getElem? (i := 0) rfl) _ (List.mem_of_getElem? (i := 0) rfl)))).cell rfl)), rfl, S⟩
        · intro a u X' hB hu hp hr hz hl S
          replace S : St w0 u ([] ++ X') := S
          exact .inl ⟨rfl, .pointer (some ⟨g0, 0, none⟩), u, (run_move rfl (hF.evB hB rfl rfl)), rfl, S⟩
        · intro a u X' hB hu hp hr hz hl S
          replace S : St w0 u ([] ++ X') := S
          have e50 : sl a 50 = .pointer (some ⟨g0, 0, none⟩) := hp 6 rfl
          exact .inl ⟨rfl, .pointer (some ⟨g0, 0, none⟩), u, (run_nilCheck rfl (ev_sl e50)), rfl, S⟩
        · intro a u X' hB hu hp hr hz hl S
          replace S : St w0 u ([] ++ X') := S
          have e51 : sl a 51 = .pointer (some ⟨g0, 0, none⟩) := hp 7 rfl
          exact .inl ⟨rfl, .pointer (some ⟨g0, 4, none⟩), u, (run_fieldAddr rfl fl28_4 (ev_sl e51) rfl), rfl, S⟩
        · intro a u X' hB hu hp hr hz hl S
          replace S : St w0 u ([] ++ X') := S
          have e52 : sl a 52 = .pointer (some ⟨g0, 4, none⟩) := hp 8 rfl
          exact .inl ⟨rfl, .int .i64 p101.2.2, u, (run_load1 rfl one3 (ev_sl e52) ((show Bk _ _ _ _ from S.mem (List.mem_append_right _ (hz 12 (List.mem_of_getElem? (i := 0) rfl) _ (List.mem_of_getElem? (i := 0) rfl)))).cell rfl)), rfl, S⟩
        · intro a u X' hB hu hp hr hz hl S
          replace S : St w0 u ([] ++ X') := S
          have e44 : sl a 44 = .pointer (some ⟨g0, 0, none⟩) := hp 0 rfl
          exact .inl ⟨rfl, .pointer (some ⟨g0, 0, none⟩), u, (run_nilCheck rfl (ev_sl e44)), rfl, S⟩
        · intro a u X' hB hu hp hr hz hl S
          replace S : St w0 u ([] ++ X') := S
          have e54 : sl a 54 = .pointer (some ⟨g0, 0, none⟩) := hp 10 rfl
          exact .inl ⟨rfl, .pointer (some ⟨g0, 6, none⟩), u, (run_fieldAddr rfl fl28_6 (ev_sl e54) rfl), rfl, S⟩
        · intro a u X' hB hu hp hr hz hl S
          replace S : St w0 u ([.box g0 28 #[.int .i64 x0, .slice A1 x1.length c1, .int .i64 p101.1, .slice B103 p101.2.1.length d104, .int .i64 p101.2.2, .int .i64 x5, .int .i64 x6, .int .i64 x7]] ++ X') := S
          have e49 : sl a 49 = .int .i64 p101.1 := hp 5 rfl
          have e55 : sl a 55 = .pointer (some ⟨g0, 6, none⟩) := hp 11 rfl
          exact .inr (.inl ⟨rfl, _, run_store (cs' := #[.int .i64 x0, .slice A1 x1.length c1, .int .i64 p101.1, .slice B103 p101.2.1.length d104, .int .i64 p101.2.2, .int .i64 x5, .int .i64 p101.1, .int .i64 x7]) rfl sz3 (ev_sl e55) (ev_sl e49) rfl rfl rfl (S.free 0 rfl) rfl rfl, trivial, S.put 0 rfl (#[.int .i64 x0, .slice A1 x1.length c1, .int .i64 p101.1, .slice B103 p101.2.1.length d104, .int .i64 p101.2.2, .int .i64 x5, .int .i64 p101.1, .int .i64 x7])⟩)
        · intro a u X' hB hu hp hr hz hl S
          replace S : St w0 u ([] ++ X') := S
          have e45 : sl a 45 = .pointer (some ⟨g0, 0, none⟩) := hp 1 rfl
          exact .inl ⟨rfl, .pointer (some ⟨g0, 0, none⟩), u, (run_nilCheck rfl (ev_sl e45)), rfl, S⟩
        · intro a u X' hB hu hp hr hz hl S
          replace S : St w0 u ([] ++ X') := S
          have e56 : sl a 56 = .pointer (some ⟨g0, 0, none⟩) := hp 13 rfl
          exact .inl ⟨rfl, .pointer (some ⟨g0, 7, none⟩), u, (run_fieldAddr rfl fl28_7 (ev_sl e56) rfl), rfl, S⟩
        · intro a u X' hB hu hp hr hz hl S
          replace S : St w0 u ([.box g0 28 #[.int .i64 x0, .slice A1 x1.length c1, .int .i64 p101.1, .slice B103 p101.2.1.length d104, .int .i64 p101.2.2, .int .i64 x5, .int .i64 p101.1, .int .i64 x7]] ++ X') := S
          have e53 : sl a 53 = .int .i64 p101.2.2 := hp 9 rfl
          have e57 : sl a 57 = .pointer (some ⟨g0, 7, none⟩) := hp 14 rfl
          exact .inr (.inl ⟨rfl, _, run_store (cs' := #[.int .i64 x0, .slice A1 x1.length c1, .int .i64 p101.1, .slice B103 p101.2.1.length d104, .int .i64 p101.2.2, .int .i64 x5, .int .i64 p101.1, .int .i64 p101.2.2]) rfl sz3 (ev_sl e57) (ev_sl e53) rfl rfl rfl (S.free 0 rfl) rfl rfl, trivial, S.put 0 rfl (#[.int .i64 x0, .slice A1 x1.length c1, .int .i64 p101.1, .slice B103 p101.2.1.length d104, .int .i64 p101.2.2, .int .i64 x5, .int .i64 p101.1, .int .i64 p101.2.2])⟩)
      · intro a u hB hp S
        obtain ⟨q0, q1, q2, q3, q4, q5, q6, q7, q8, q9, q10, q11, q12, q13, q14, q15, _⟩ := hp
        have e44 : sl a 44 = .pointer (some ⟨g0, 0, none⟩) := q0
        have e45 : sl a 45 = .pointer (some ⟨g0, 0, none⟩) := q1
        have e46 : sl a 46 = .pointer (some ⟨g0, 0, none⟩) := q2
        have e47 : sl a 47 = .pointer (some ⟨g0, 0, none⟩) := q3
        have e48 : sl a 48 = .pointer (some ⟨g0, 2, none⟩) := q4
        have e49 : sl a 49 = .int .i64 p101.1 := q5
        have e50 : sl a 50 = .pointer (some ⟨g0, 0, none⟩) := q6
        have e51 : sl a 51 = .pointer (some ⟨g0, 0, none⟩) := q7
        have e52 : sl a 52 = .pointer (some ⟨g0, 4, none⟩) := q8
        have e53 : sl a 53 = .int .i64 p101.2.2 := q9
        have e54 : sl a 54 = .pointer (some ⟨g0, 0, none⟩) := q10
        have e55 : sl a 55 = .pointer (some ⟨g0, 6, none⟩) := q11
        have e56 : sl a 56 = .pointer (some ⟨g0, 0, none⟩) := q13
        have e57 : sl a 57 = .pointer (some ⟨g0, 7, none⟩) := q14
        replace S : St w0 u (Asn.box g0 28 #[.int .i64 x0, .slice A1 x1.length c1, .int .i64 p101.1, .slice B103 p101.2.1.length d104, .int .i64 p101.2.2, .int .i64 x5, .int .i64 p101.1, .int .i64 p101.2.2] :: Asn.row 3 1 (.slice A1 x1.length c1) x1.length (x1.flatMap eI) :: Asn.row 3 1 (.slice B103 p101.2.1.length d104) p101.2.1.length (p101.2.1.flatMap eI) :: X) := S
        clear q0 q1 q2 q3 q4 q5 q6 q7 q8 q9 q10 q11 q12 q13 q14 q15
        have hF := hF.region hB [(44, .pointer (some ⟨g0, 0, none⟩)), (45, .pointer (some ⟨g0, 0, none⟩)), (46, .pointer (some ⟨g0, 0, none⟩)), (47, .pointer (some ⟨g0, 0, none⟩)), (48, .pointer (some ⟨g0, 2, none⟩)), (49, .int .i64 p101.1), (50, .pointer (some ⟨g0, 0, none⟩)), (51, .pointer (some ⟨g0, 0, none⟩)), (52, .pointer (some ⟨g0, 4, none⟩)), (53, .int .i64 p101.2.2), (54, .pointer (some ⟨g0, 0, none⟩)), (55, .pointer (some ⟨g0, 6, none⟩)), (56, .pointer (some ⟨g0, 0, none⟩)), (57, .pointer (some ⟨g0, 7, none⟩))] (allSl_mem ⟨e44, e45, e46, e47, e48, e49, e50, e51, e52, e53, e54, e55, e56, e57, trivial⟩) rfl
        clear hB e44 e45 e46 e47 e48 e49 e50 e51 e52 e53 e54 e55 e56 e57
        repeat with_reducible (first | refine then_ret ?_ | refine in_ret ?_ | refine in_nrm ?_)
        refine ret0_gw (.inr rfl) hF rfl  ?_
        obtain rfl := Option.some.inj hM
        exact ⟨A1, x1.length, c1, B103, p101.2.1.length, d104, rfl, rfl, rfl, S.selT (M := [.box g0 28 #[.int .i64 x0, .slice A1 x1.length c1, .int .i64 p101.1, .slice B103 p101.2.1.length d104, .int .i64 p101.2.2, .int .i64 x5, .int .i64 p101.1, .int .i64 p101.2.2], .row 3 1 (.slice A1 x1.length c1) x1.length (x1.flatMap eI), .row 3 1 (.slice B103 p101.2.1.length d104) p101.2.1.length (p101.2.1.flatMap eI)]) 3 [0, 1, 2] rfl rfl rfl⟩

set_option maxHeartbeats 4000000 in
theorem c_impl_Poll_do {x0 : Int} {x1 : List Int} {x2 : Int} {x3 : List Int} {x4 : Int} {x5 : Int} {x6 : Int} {x7 : Int} {x8 : Int} {x9 : Int} {A1 : Option Addr} {n1 c1 : Nat} {A3 : Option Addr} {n3 c3 : Nat} {g0 : Nat} {w : World} {r : Bool × Int × List Int × Int × List Int × Int × Int × Int × Int} {w0 : World} {X : List Asn} (h1 : n1 = x1.length) (h3 : n3 = x3.length) (S : St w0 w (Asn.box g0 28 #[.int .i64 x0, .slice A1 n1 c1, .int .i64 x2, .slice A3 n3 c3, .int .i64 x4, .int .i64 x5, .int .i64 x6, .int .i64 x7] :: Asn.row 3 1 (.slice A1 n1 c1) n1 (x1.flatMap eI) :: Asn.row 3 1 (.slice A3 n3 c3) n3 (x3.flatMap eI) :: X)) (hM : m_impl_Poll_do x0 x1 x2 x3 x4 x5 x6 x7 x8 x9 = some r) :
    Calls Try.prog 30 #[.pointer (some ⟨g0, 0, none⟩), .agg #[.int .i64 x8, .int .i64 x9]] w (fun e w' => ∃ (B0 : Option Addr) (N0 D0 : Nat) (B1 : Option Addr) (N1 D1 : Nat), e = .returned (.bool r.1) ∧ N0 = r.2.2.1.length ∧ N1 = r.2.2.2.2.1.length ∧ St w0 w' (Asn.box g0 28 #[.int .i64 r.2.1, .slice B0 N0 D0, .int .i64 r.2.2.2.1, .slice B1 N1 D1, .int .i64 r.2.2.2.2.2.1, .int .i64 r.2.2.2.2.2.2.1, .int .i64 r.2.2.2.2.2.2.2.1, .int .i64 r.2.2.2.2.2.2.2.2] :: Asn.row 3 1 (.slice B0 N0 D0) N0 (r.2.2.1.flatMap eI) :: Asn.row 3 1 (.slice B1 N1 D1) N1 (r.2.2.2.2.1.flatMap eI) :: X)) := by
  obtain rfl := h1
  obtain rfl := h3
  unfold m_impl_Poll_do at hM
  refine calls_gw Try.func30 Try.ntmps30 rfl [(0, .pointer (some ⟨g0, 0, none⟩)), (1, .agg #[.int .i64 x8, .int .i64 x9])] ⟨rfl, rfl, trivial⟩ rfl ?_
  intro a hF
  refine wp_seq ?_
  refine wp_region_lit ?_
  refine op_new (cs := #[.int .i64 x8, .int .i64 x9]) rfl rfl hF rfl S (run_box rfl (hF.ev rfl) rfl) ?_; clear hF S; intro a g101 u hF S
  refine op_val (v := .bool false) rfl rfl hF rfl (run_assign rfl rfl) ?_; clear hF; intro a hF
  refine wpList_nil ?_
  refine wp_seq ?_
  refine wp_seq ?_
  refine wp_region_lit ?_
  refine op_val (v := .pointer (some ⟨g101, 0, none⟩)) rfl rfl hF rfl (run_fieldAddr rfl fl32_0 (hF.ev rfl) rfl) ?_; clear hF; intro a hF
  refine op_val (v := .int .i64 x8) rfl rfl hF rfl (run_load1 rfl one3 (hF.ev rfl) ((S.free 0 rfl).cell rfl)) ?_; clear hF; intro a hF
  refine wpList_nil ?_
  refine wp_block ?_
  refine wp_seq ?_
  refine wp_region_lit ?_
  refine op_val (v := .bool (x8 == 0)) rfl rfl hF rfl (run_eql (hF.ev rfl) rfl rfl) ?_; clear hF; intro a hF
  refine op_val (v := .bool (x8 == 0)) rfl rfl hF rfl (run_assign rfl (hF.ev rfl)) ?_; clear hF; intro a hF
  refine wpList_nil ?_
  obtain ⟨o103, hM108, hM⟩ := bind_ex hM
  refine wp_cut (fun a u => ∃ (p102 : Int × List Int × Int × List Int × Int × Int × Int × Int) (B104 : Option Addr) (d105 : Nat) (B106 : Option Addr) (d107 : Nat), (Sum.inl p102) = o103 ∧ Fr a 70 [(4, .bool false)] ∧ St w0 u (Asn.box g0 28 #[.int .i64 p102.1, .slice B104 p102.2.1.length d105, .int .i64 p102.2.2.1, .slice B106 p102.2.2.2.1.length d107, .int .i64 p102.2.2.2.2.1, .int .i64 p102.2.2.2.2.2.1, .int .i64 p102.2.2.2.2.2.2.1, .int .i64 p102.2.2.2.2.2.2.2] :: Asn.row 3 1 (.slice B104 p102.2.1.length d105) p102.2.1.length (p102.2.1.flatMap eI) :: Asn.row 3 1 (.slice B106 p102.2.2.2.1.length d107) p102.2.2.2.1.length (p102.2.2.2.1.flatMap eI) :: X)) ?_ ?_
  · have _ := trivial
    cases hc109 : (x8 == 0)
    · replace hM108 := bif_f hc109 hM108
      refine cond_f hF rfl hc109 ?_
      refine wp_seq ?_
      refine wp_region_lit ?_
      refine op_val (v := .bool (x8 == 1)) rfl rfl hF rfl (run_eql (hF.ev rfl) rfl rfl) ?_; clear hF; intro a hF
      refine op_val (v := .bool (x8 == 1)) rfl rfl hF rfl (run_assign rfl (hF.ev rfl)) ?_; clear hF; intro a hF
      refine wpList_nil ?_
      obtain ⟨o111, hM116, hM108⟩ := bind_ex hM108
      refine wp_cut (fun a u => ∃ (p110 : Int × List Int × Int × List Int × Int × Int × Int × Int) (B112 : Option Addr) (d113 : Nat) (B114 : Option Addr) (d115 : Nat), (Sum.inl p110) = o111 ∧ Fr a 70 [(4, .bool false)] ∧ St w0 u (Asn.box g0 28 #[.int .i64 p110.1, .slice B112 p110.2.1.length d113, .int .i64 p110.2.2.1, .slice B114 p110.2.2.2.1.length d115, .int .i64 p110.2.2.2.2.1, .int .i64 p110.2.2.2.2.2.1, .int .i64 p110.2.2.2.2.2.2.1, .int .i64 p110.2.2.2.2.2.2.2] :: Asn.row 3 1 (.slice B112 p110.2.1.length d113) p110.2.1.length (p110.2.1.flatMap eI) :: Asn.row 3 1 (.slice B114 p110.2.2.2.1.length d115) p110.2.2.2.1.length (p110.2.2.2.1.flatMap eI) :: X)) ?_ ?_
      · have _ := trivial
        cases hc117 : (x8 == 1)
        · replace hM116 := bif_f hc117 hM116
          refine cond_f hF rfl hc117 ?_
          refine wp_seq ?_
          refine wp_region_lit ?_
          refine op_val (v := .bool (x8 == 2)) rfl rfl hF rfl (run_eql (hF.ev rfl) rfl rfl) ?_; clear hF; intro a hF
          refine op_val (v := .bool (x8 == 2)) rfl rfl hF rfl (run_assign rfl (hF.ev rfl)) ?_; clear hF; intro a hF
          refine wpList_nil ?_
          obtain ⟨o119, hM124, hM116⟩ := bind_ex hM116
          refine wp_cut (fun a u => ∃ (p118 : Int × List Int × Int × List Int × Int × Int × Int × Int) (B120 : Option Addr) (d121 : Nat) (B122 : Option Addr) (d123 : Nat), (Sum.inl p118) = o119 ∧ Fr a 70 [(4, .bool false)] ∧ St w0 u (Asn.box g0 28 #[.int .i64 p118.1, .slice B120 p118.2.1.length d121, .int .i64 p118.2.2.1, .slice B122 p118.2.2.2.1.length d123, .int .i64 p118.2.2.2.2.1, .int .i64 p118.2.2.2.2.2.1, .int .i64 p118.2.2.2.2.2.2.1, .int .i64 p118.2.2.2.2.2.2.2] :: Asn.row 3 1 (.slice B120 p118.2.1.length d121) p118.2.1.length (p118.2.1.flatMap eI) :: Asn.row 3 1 (.slice B122 p118.2.2.2.1.length d123) p118.2.2.2.1.length (p118.2.2.2.1.flatMap eI) :: X)) ?_ ?_
          · have _ := trivial
            cases hc125 : (x8 == 2)
            · replace hM124 := bif_f hc125 hM124
              refine cond_f hF rfl hc125 ?_
              refine wp_seq ?_
              refine wp_region_lit ?_
              refine op_val (v := .bool (x8 == 3)) rfl rfl hF rfl (run_eql (hF.ev rfl) rfl rfl) ?_; clear hF; intro a hF
              refine op_val (v := .bool (x8 == 3)) rfl rfl hF rfl (run_assign rfl (hF.ev rfl)) ?_; clear hF; intro a hF
              refine wpList_nil ?_
              obtain ⟨o127, hM132, hM124⟩ := bind_ex hM124
              refine wp_cut (fun a u => ∃ (p126 : Int × List Int × Int × List Int × Int × Int × Int × Int) (B128 : Option Addr) (d129 : Nat) (B130 : Option Addr) (d131 : Nat), (Sum.inl p126) = o127 ∧ Fr a 70 [(4, .bool false)] ∧ St w0 u (Asn.box g0 28 #[.int .i64 p126.1, .slice B128 p126.2.1.length d129, .int .i64 p126.2.2.1, .slice B130 p126.2.2.2.1.length d131, .int .i64 p126.2.2.2.2.1, .int .i64 p126.2.2.2.2.2.1, .int .i64 p126.2.2.2.2.2.2.1, .int .i64 p126.2.2.2.2.2.2.2] :: Asn.row 3 1 (.slice B128 p126.2.1.length d129) p126.2.1.length (p126.2.1.flatMap eI) :: Asn.row 3 1 (.slice B130 p126.2.2.2.1.length d131) p126.2.2.2.1.length (p126.2.2.2.1.flatMap eI) :: X)) ?_ ?_
              · have _ := trivial
                cases hc133 : (x8 == 3)
                · replace hM132 := bif_f hc133 hM132
                  refine cond_f hF rfl hc133 ?_
                  refine wp_seq ?_
                  refine wp_region_lit ?_
                  refine op_val (v := .bool (x8 == 4)) rfl rfl hF rfl (run_eql (hF.ev rfl) rfl rfl) ?_; clear hF; intro a hF
                  refine op_val (v := .bool (x8 == 4)) rfl rfl hF rfl (run_assign rfl (hF.ev rfl)) ?_; clear hF; intro a hF
                  refine wpList_nil ?_
                  obtain ⟨o135, hM136, hM132⟩ := bind_ex hM132
                  refine wp_cut (fun a u => ∃ (p134 : Int × Int × Int), (Sum.inl p134) = o135 ∧ Fr a 70 [(4, .bool false)] ∧ St w0 u (Asn.box g0 28 #[.int .i64 x0, .slice A1 x1.length c1, .int .i64 x2, .slice A3 x3.length c3, .int .i64 x4, .int .i64 p134.1, .int .i64 p134.2.1, .int .i64 p134.2.2] :: Asn.row 3 1 (.slice A1 x1.length c1) x1.length (x1.flatMap eI) :: Asn.row 3 1 (.slice A3 x3.length c3) x3.length (x3.flatMap eI) :: X)) ?_ ?_
                  · have _ := trivial
                    cases hc137 : (x8 == 4)
                    · replace hM136 := bif_f hc137 hM136
                      refine cond_f hF rfl hc137 ?_
                      refine wp_seq ?_
                      refine wp_region_lit ?_
                      refine op_val (v := .bool (x8 == 5)) rfl rfl hF rfl (run_eql (hF.ev rfl) rfl rfl) ?_; clear hF; intro a hF
                      refine op_val (v := .bool (x8 == 5)) rfl rfl hF rfl (run_assign rfl (hF.ev rfl)) ?_; clear hF; intro a hF
                      refine wpList_nil ?_
                      cases hc138 : (x8 == 5)
                      · replace hM136 := bif_f hc138 hM136
                        refine cond_f hF rfl hc138 ?_
                        refine wp_seq ?_
                        refine wp_region_lit ?_
                        refine op_val (v := .bool false) rfl rfl hF rfl (run_assign rfl rfl) ?_; clear hF; intro a hF
                        refine wpList_nil ?_
                        refine wp_ret ?_
                        repeat with_reducible (first | refine then_ret ?_ | refine in_ret ?_ | refine in_nrm ?_)
                        refine ret1_gw (.inl rfl) hF rfl (res_tmp (hF.ev rfl)) ?_
                        obtain rfl := Option.some.inj hM136
                        obtain rfl := Option.some.inj hM132
                        obtain rfl := Option.some.inj hM124
                        obtain rfl := Option.some.inj hM116
                        obtain rfl := Option.some.inj hM108
                        obtain rfl := Option.some.inj hM
                        exact ⟨A1, x1.length, c1, A3, x3.length, c3, rfl, rfl, rfl, S.selT (M := [.box g0 28 #[.int .i64 x0, .slice A1 x1.length c1, .int .i64 x2, .slice A3 x3.length c3, .int .i64 x4, .int .i64 x5, .int .i64 x6, .int .i64 x7], .row 3 1 (.slice A1 x1.length c1) x1.length (x1.flatMap eI), .row 3 1 (.slice A3 x3.length c3) x3.length (x3.flatMap eI)]) 4 [1, 2, 3] rfl rfl rfl⟩
                      · replace hM136 := bif_t hc138 hM136
                        refine cond_t hF rfl hc138 ?_
                        refine wp_seq ?_
                        refine wp_seq ?_
                        refine wp_region_lit ?_
                        refine op_val (v := .pointer (some ⟨g0, 0, none⟩)) rfl rfl hF rfl (run_move rfl (hF.ev rfl)) ?_; clear hF; intro a hF
                        refine op_val (v := .pointer (some ⟨g0, 0, none⟩)) rfl rfl hF rfl (run_nilCheck rfl (hF.ev rfl)) ?_; clear hF; intro a hF
                        refine op_val (v := .pointer (some ⟨g0, 6, none⟩)) rfl rfl hF rfl (run_fieldAddr rfl fl28_6 (hF.ev rfl) rfl) ?_; clear hF; intro a hF
                        refine op_val (v := .int .i64 x6) rfl rfl hF rfl (run_load1 rfl one3 (hF.ev rfl) ((S.free 1 rfl).cell rfl)) ?_; clear hF; intro a hF
                        refine op_val (v := .bool (x6 == (-1))) rfl rfl hF rfl (run_eql (hF.ev rfl) rfl rfl) ?_; clear hF; intro a hF
                        refine wpList_nil ?_
                        cases hc139 : (x6 == (-1))
                        · replace hM136 := bif_f hc139 hM136
                          refine cond_f hF rfl hc139 ?_
                          refine wp_skip ?_
                          refine wp_region_lit ?_
                          refine op_val (v := .pointer (some ⟨g0, 0, none⟩)) rfl rfl hF rfl (run_move rfl (hF.ev rfl)) ?_; clear hF; intro a hF
                          refine op_val (v := .pointer (some ⟨g0, 0, none⟩)) rfl rfl hF rfl (run_move rfl (hF.ev rfl)) ?_; clear hF; intro a hF
                          refine op_val (v := .pointer (some ⟨g0, 0, none⟩)) rfl rfl hF rfl (run_nilCheck rfl (hF.ev rfl)) ?_; clear hF; intro a hF
                          refine op_val (v := .pointer (some ⟨g0, 6, none⟩)) rfl rfl hF rfl (run_fieldAddr rfl fl28_6 (hF.ev rfl) rfl) ?_; clear hF; intro a hF
                          refine op_do rfl rfl (run_store (cs' := #[.int .i64 x0, .slice A1 x1.length c1, .int .i64 x2, .slice A3 x3.length c3, .int .i64 x4, .int .i64 x5, .int .i64 (-1), .int .i64 x7]) rfl sz3 (hF.ev rfl) rfl rfl rfl rfl (S.free 1 rfl) rfl rfl) ?_; replace S := S.put 1 rfl (#[.int .i64 x0, .slice A1 x1.length c1, .int .i64 x2, .slice A3 x3.length c3, .int .i64 x4, .int .i64 x5, .int .i64 (-1), .int .i64 x7])
                          generalize World.setRow _ _ _ = u at S ⊢
                          refine op_val (v := .pointer (some ⟨g0, 0, none⟩)) rfl rfl hF rfl (run_nilCheck rfl (hF.ev rfl)) ?_; clear hF; intro a hF
                          refine op_val (v := .pointer (some ⟨g0, 7, none⟩)) rfl rfl hF rfl (run_fieldAddr rfl fl28_7 (hF.ev rfl) rfl) ?_; clear hF; intro a hF
                          refine op_do rfl rfl (run_store (cs' := #[.int .i64 x0, .slice A1 x1.length c1, .int .i64 x2, .slice A3 x3.length c3, .int .i64 x4, .int .i64 x5, .int .i64 (-1), .int .i64 (-1)]) rfl sz3 (hF.ev rfl) rfl rfl rfl rfl (S.free 1 rfl) rfl rfl) ?_; replace S := S.put 1 rfl (#[.int .i64 x0, .slice A1 x1.length c1, .int .i64 x2, .slice A3 x3.length c3, .int .i64 x4, .int .i64 x5, .int .i64 (-1), .int .i64 (-1)])
                          generalize World.setRow _ _ _ = u at S ⊢
                          refine wpList_nil ?_
                          obtain rfl := Option.some.inj hM136
                          exact ⟨(x5, -1, -1), rfl, hF.keep _ ⟨rfl, trivial⟩, S.selT (M := [.box g0 28 #[.int .i64 x0, .slice A1 x1.length c1, .int .i64 x2, .slice A3 x3.length c3, .int .i64 x4, .int .i64 x5, .int .i64 (-1), .int .i64 (-1)], .row 3 1 (.slice A1 x1.length c1) x1.length (x1.flatMap eI), .row 3 1 (.slice A3 x3.length c3) x3.length (x3.flatMap eI)]) 4 [1, 2, 3] rfl rfl rfl⟩
                        · replace hM136 := bif_t hc139 hM136
                          refine cond_t hF rfl hc139 ?_
                          refine wp_seq ?_
                          refine wp_region_lit ?_
                          refine op_val (v := .bool false) rfl rfl hF rfl (run_assign rfl rfl) ?_; clear hF; intro a hF
                          refine wpList_nil ?_
                          refine wp_ret ?_
                          repeat with_reducible (first | refine then_ret ?_ | refine in_ret ?_ | refine in_nrm ?_)
                          refine ret1_gw (.inl rfl) hF rfl (res_tmp (hF.ev rfl)) ?_
                          obtain rfl := Option.some.inj hM136
                          obtain rfl := Option.some.inj hM132
                          obtain rfl := Option.some.inj hM124
                          obtain rfl := Option.some.inj hM116
                          obtain rfl := Option.some.inj hM108
                          obtain rfl := Option.some.inj hM
                          exact ⟨A1, x1.length, c1, A3, x3.length, c3, rfl, rfl, rfl, S.selT (M := [.box g0 28 #[.int .i64 x0, .slice A1 x1.length c1, .int .i64 x2, .slice A3 x3.length c3, .int .i64 x4, .int .i64 x5, .int .i64 x6, .int .i64 x7], .row 3 1 (.slice A1 x1.length c1) x1.length (x1.flatMap eI), .row 3 1 (.slice A3 x3.length c3) x3.length (x3.flatMap eI)]) 4 [1, 2, 3] rfl rfl rfl⟩
                    · replace hM136 := bif_t hc137 hM136
                      refine cond_t hF rfl hc137 ?_
                      refine wp_seq ?_
                      refine wp_seq ?_
                      refine wp_region_lit ?_
                      refine op_val (v := .pointer (some ⟨g0, 0, none⟩)) rfl rfl hF rfl (run_move rfl (hF.ev rfl)) ?_; clear hF; intro a hF
                      refine op_val (v := .pointer (some ⟨g0, 0, none⟩)) rfl rfl hF rfl (run_nilCheck rfl (hF.ev rfl)) ?_; clear hF; intro a hF
                      refine op_val (v := .pointer (some ⟨g0, 5, none⟩)) rfl rfl hF rfl (run_fieldAddr rfl fl28_5 (hF.ev rfl) rfl) ?_; clear hF; intro a hF
                      refine op_val (v := .int .i64 x5) rfl rfl hF rfl (run_load1 rfl one3 (hF.ev rfl) ((S.free 1 rfl).cell rfl)) ?_; clear hF; intro a hF
                      refine op_val (v := .bool (x5 == (-1))) rfl rfl hF rfl (run_eql (hF.ev rfl) rfl rfl) ?_; clear hF; intro a hF
                      refine wpList_nil ?_
                      cases hc140 : (x5 == (-1))
                      · replace hM136 := bif_f hc140 hM136
                        refine cond_f hF rfl hc140 ?_
                        refine wp_skip ?_
                        refine wp_region_lit ?_
                        refine op_val (v := .pointer (some ⟨g0, 0, none⟩)) rfl rfl hF rfl (run_move rfl (hF.ev rfl)) ?_; clear hF; intro a hF
                        refine op_val (v := .pointer (some ⟨g0, 0, none⟩)) rfl rfl hF rfl (run_nilCheck rfl (hF.ev rfl)) ?_; clear hF; intro a hF
                        refine op_val (v := .pointer (some ⟨g0, 5, none⟩)) rfl rfl hF rfl (run_fieldAddr rfl fl28_5 (hF.ev rfl) rfl) ?_; clear hF; intro a hF
                        refine op_do rfl rfl (run_store (cs' := #[.int .i64 x0, .slice A1 x1.length c1, .int .i64 x2, .slice A3 x3.length c3, .int .i64 x4, .int .i64 (-1), .int .i64 x6, .int .i64 x7]) rfl sz3 (hF.ev rfl) rfl rfl rfl rfl (S.free 1 rfl) rfl rfl) ?_; replace S := S.put 1 rfl (#[.int .i64 x0, .slice A1 x1.length c1, .int .i64 x2, .slice A3 x3.length c3, .int .i64 x4, .int .i64 (-1), .int .i64 x6, .int .i64 x7])
                        generalize World.setRow _ _ _ = u at S ⊢
                        refine wpList_nil ?_
                        obtain rfl := Option.some.inj hM136
                        exact ⟨(-1, x6, x7), rfl, hF.keep _ ⟨rfl, trivial⟩, S.selT (M := [.box g0 28 #[.int .i64 x0, .slice A1 x1.length c1, .int .i64 x2, .slice A3 x3.length c3, .int .i64 x4, .int .i64 (-1), .int .i64 x6, .int .i64 x7], .row 3 1 (.slice A1 x1.length c1) x1.length (x1.flatMap eI), .row 3 1 (.slice A3 x3.length c3) x3.length (x3.flatMap eI)]) 4 [1, 2, 3] rfl rfl rfl⟩
                      · replace hM136 := bif_t hc140 hM136
                        refine cond_t hF rfl hc140 ?_
                        refine wp_seq ?_
                        refine wp_region_lit ?_
                        refine op_val (v := .bool false) rfl rfl hF rfl (run_assign rfl rfl) ?_; clear hF; intro a hF
                        refine wpList_nil ?_
                        refine wp_ret ?_
                        repeat with_reducible (first | refine then_ret ?_ | refine in_ret ?_ | refine in_nrm ?_)
                        refine ret1_gw (.inl rfl) hF rfl (res_tmp (hF.ev rfl)) ?_
                        obtain rfl := Option.some.inj hM136
                        obtain rfl := Option.some.inj hM132
                        obtain rfl := Option.some.inj hM124
                        obtain rfl := Option.some.inj hM116
                        obtain rfl := Option.some.inj hM108
                        obtain rfl := Option.some.inj hM
                        exact ⟨A1, x1.length, c1, A3, x3.length, c3, rfl, rfl, rfl, S.selT (M := [.box g0 28 #[.int .i64 x0, .slice A1 x1.length c1, .int .i64 x2, .slice A3 x3.length c3, .int .i64 x4, .int .i64 x5, .int .i64 x6, .int .i64 x7], .row 3 1 (.slice A1 x1.length c1) x1.length (x1.flatMap eI), .row 3 1 (.slice A3 x3.length c3) x3.length (x3.flatMap eI)]) 4 [1, 2, 3] rfl rfl rfl⟩
                  · rintro a u ⟨p134, rfl, hF, S⟩
                    replace hM132 := elim_l hM132
                    obtain rfl := Option.some.inj hM132
                    exact ⟨(x0, x1, x2, x3, x4, p134.1, p134.2.1, p134.2.2), A1, c1, A3, c3, rfl, hF.keep _ ⟨rfl, trivial⟩, S.selT (M := [.box g0 28 #[.int .i64 x0, .slice A1 x1.length c1, .int .i64 x2, .slice A3 x3.length c3, .int .i64 x4, .int .i64 p134.1, .int .i64 p134.2.1, .int .i64 p134.2.2], .row 3 1 (.slice A1 x1.length c1) x1.length (x1.flatMap eI), .row 3 1 (.slice A3 x3.length c3) x3.length (x3.flatMap eI)]) 3 [0, 1, 2] rfl rfl rfl⟩
                · replace hM132 := bif_t hc133 hM132
                  refine cond_t hF rfl hc133 ?_
                  refine wp_seq ?_
                  refine wp_seq ?_
                  refine wp_region_lit ?_
                  refine op_val (v := .pointer (some ⟨g0, 0, none⟩)) rfl rfl hF rfl (run_move rfl (hF.ev rfl)) ?_; clear hF; intro a hF
                  refine op_val (v := .pointer (some ⟨g0, 0, none⟩)) rfl rfl hF rfl (run_nilCheck rfl (hF.ev rfl)) ?_; clear hF; intro a hF
                  refine op_val (v := .pointer (some ⟨g0, 6, none⟩)) rfl rfl hF rfl (run_fieldAddr rfl fl28_6 (hF.ev rfl) rfl) ?_; clear hF; intro a hF
                  refine op_val (v := .int .i64 x6) rfl rfl hF rfl (run_load1 rfl one3 (hF.ev rfl) ((S.free 1 rfl).cell rfl)) ?_; clear hF; intro a hF
                  refine op_val (v := .bool (x6 == (-1))) rfl rfl hF rfl (run_eql (hF.ev rfl) rfl rfl) ?_; clear hF; intro a hF
                  refine wpList_nil ?_
                  cases hc141 : (x6 == (-1))
                  · replace hM132 := bif_f hc141 hM132
                    refine cond_f hF rfl hc141 ?_
                    refine wp_skip ?_
                    refine wp_region_lit ?_
                    refine op_val (v := .pointer (some ⟨g0, 0, none⟩)) rfl rfl hF rfl (run_move rfl (hF.ev rfl)) ?_; clear hF; intro a hF
                    obtain ⟨p142, h142, hM132⟩ := bind_ex hM132
                    refine op_call rfl rfl hF rfl (run_call (vs := [.pointer (some ⟨g0, 0, none⟩)]) rfl rfl co43 ⟨(hF.ev rfl), trivial⟩) (c_impl_Poll_take (x0 := x0) (x1 := x1) (x2 := x2) (x3 := x3) (x4 := x4) (x5 := x5) (x6 := x6) (x7 := x7) rfl rfl (show St w0 _ (Asn.box g0 28 #[.int .i64 x0, .slice A1 x1.length c1, .int .i64 x2, .slice A3 x3.length c3, .int .i64 x4, .int .i64 x5, .int .i64 x6, .int .i64 x7] :: Asn.row 3 1 (.slice A1 x1.length c1) x1.length (x1.flatMap eI) :: Asn.row 3 1 (.slice A3 x3.length c3) x3.length (x3.flatMap eI) :: Asn.box g101 32 #[.int .i64 x8, .int .i64 x9] :: X) from S.selT (M := [.box g0 28 #[.int .i64 x0, .slice A1 x1.length c1, .int .i64 x2, .slice A3 x3.length c3, .int .i64 x4, .int .i64 x5, .int .i64 x6, .int .i64 x7], .row 3 1 (.slice A1 x1.length c1) x1.length (x1.flatMap eI), .row 3 1 (.slice A3 x3.length c3) x3.length (x3.flatMap eI), .box g101 32 #[.int .i64 x8, .int .i64 x9]]) 4 [1, 2, 3, 0] rfl rfl rfl) h142) ?_
                    rintro e u ⟨B143, n144, d145, B146, n147, d148, rfl, rfl, rfl, T⟩
                    refine ⟨_, rfl, ?_⟩
                    clear hF; intro a hF
                    clear S; have S := T; clear T
                    refine wpList_nil ?_
                    obtain rfl := Option.some.inj hM132
                    exact ⟨(p142.1, p142.2.1, p142.2.2.1, p142.2.2.2.1, p142.2.2.2.2.1, p142.2.2.2.2.2.1, p142.2.2.2.2.2.2.1, p142.2.2.2.2.2.2.2), B143, d145, B146, d148, rfl, hF.keep _ ⟨rfl, trivial⟩, S.selT (M := [.box g0 28 #[.int .i64 p142.1, .slice B143 p142.2.1.length d145, .int .i64 p142.2.2.1, .slice B146 p142.2.2.2.1.length d148, .int .i64 p142.2.2.2.2.1, .int .i64 p142.2.2.2.2.2.1, .int .i64 p142.2.2.2.2.2.2.1, .int .i64 p142.2.2.2.2.2.2.2], .row 3 1 (.slice B143 p142.2.1.length d145) p142.2.1.length (p142.2.1.flatMap eI), .row 3 1 (.slice B146 p142.2.2.2.1.length d148) p142.2.2.2.1.length (p142.2.2.2.1.flatMap eI)]) 4 [0, 1, 2] rfl rfl rfl⟩
                  · replace hM132 := bif_t hc141 hM132
                    refine cond_t hF rfl hc141 ?_
                    refine wp_seq ?_
                    refine wp_region_lit ?_
                    refine op_val (v := .bool false) rfl rfl hF rfl (run_assign rfl rfl) ?_; clear hF; intro a hF
                    refine wpList_nil ?_
                    refine wp_ret ?_
                    repeat with_reducible (first | refine then_ret ?_ | refine in_ret ?_ | refine in_nrm ?_)
                    refine ret1_gw (.inl rfl) hF rfl (res_tmp (hF.ev rfl)) ?_
                    obtain rfl := Option.some.inj hM132
                    obtain rfl := Option.some.inj hM124
                    obtain rfl := Option.some.inj hM116
                    obtain rfl := Option.some.inj hM108
                    obtain rfl := Option.some.inj hM
                    exact ⟨A1, x1.length, c1, A3, x3.length, c3, rfl, rfl, rfl, S.selT (M := [.box g0 28 #[.int .i64 x0, .slice A1 x1.length c1, .int .i64 x2, .slice A3 x3.length c3, .int .i64 x4, .int .i64 x5, .int .i64 x6, .int .i64 x7], .row 3 1 (.slice A1 x1.length c1) x1.length (x1.flatMap eI), .row 3 1 (.slice A3 x3.length c3) x3.length (x3.flatMap eI)]) 4 [1, 2, 3] rfl rfl rfl⟩
              · rintro a u ⟨p126, B128, d129, B130, d131, rfl, hF, S⟩
                replace hM124 := elim_l hM124
                obtain rfl := Option.some.inj hM124
                exact ⟨(p126.1, p126.2.1, p126.2.2.1, p126.2.2.2.1, p126.2.2.2.2.1, p126.2.2.2.2.2.1, p126.2.2.2.2.2.2.1, p126.2.2.2.2.2.2.2), B128, d129, B130, d131, rfl, hF.keep _ ⟨rfl, trivial⟩, S.selT (M := [.box g0 28 #[.int .i64 p126.1, .slice B128 p126.2.1.length d129, .int .i64 p126.2.2.1, .slice B130 p126.2.2.2.1.length d131, .int .i64 p126.2.2.2.2.1, .int .i64 p126.2.2.2.2.2.1, .int .i64 p126.2.2.2.2.2.2.1, .int .i64 p126.2.2.2.2.2.2.2], .row 3 1 (.slice B128 p126.2.1.length d129) p126.2.1.length (p126.2.1.flatMap eI), .row 3 1 (.slice B130 p126.2.2.2.1.length d131) p126.2.2.2.1.length (p126.2.2.2.1.flatMap eI)]) 3 [0, 1, 2] rfl rfl rfl⟩
            · replace hM124 := bif_t hc125 hM124
              refine cond_t hF rfl hc125 ?_
              refine wp_seq ?_
              refine wp_seq ?_
              refine wp_region_lit ?_
              refine op_val (v := .pointer (some ⟨g0, 0, none⟩)) rfl rfl hF rfl (run_move rfl (hF.ev rfl)) ?_; clear hF; intro a hF
              refine op_val (v := .pointer (some ⟨g0, 0, none⟩)) rfl rfl hF rfl (run_nilCheck rfl (hF.ev rfl)) ?_; clear hF; intro a hF
              refine op_val (v := .pointer (some ⟨g0, 5, none⟩)) rfl rfl hF rfl (run_fieldAddr rfl fl28_5 (hF.ev rfl) rfl) ?_; clear hF; intro a hF
              refine op_val (v := .int .i64 x5) rfl rfl hF rfl (run_load1 rfl one3 (hF.ev rfl) ((S.free 1 rfl).cell rfl)) ?_; clear hF; intro a hF
              refine op_val (v := .bool (x5 == (-1))) rfl rfl hF rfl (run_eql (hF.ev rfl) rfl rfl) ?_; clear hF; intro a hF
              refine wpList_nil ?_
              cases hc149 : (x5 == (-1))
              · replace hM124 := bif_f hc149 hM124
                refine cond_f hF rfl hc149 ?_
                refine wp_skip ?_
                refine wp_region_lit ?_
                refine op_val (v := .pointer (some ⟨g0, 0, none⟩)) rfl rfl hF rfl (run_move rfl (hF.ev rfl)) ?_; clear hF; intro a hF
                obtain ⟨p150, h150, hM124⟩ := bind_ex hM124
                refine op_call rfl rfl hF rfl (run_call (vs := [.pointer (some ⟨g0, 0, none⟩)]) rfl rfl co42 ⟨(hF.ev rfl), trivial⟩) (c_impl_Poll_hear (x0 := x0) (x1 := x1) (x2 := x2) (x3 := x3) (x4 := x4) (x5 := x5) (x6 := x6) (x7 := x7) rfl rfl (show St w0 _ (Asn.box g0 28 #[.int .i64 x0, .slice A1 x1.length c1, .int .i64 x2, .slice A3 x3.length c3, .int .i64 x4, .int .i64 x5, .int .i64 x6, .int .i64 x7] :: Asn.row 3 1 (.slice A1 x1.length c1) x1.length (x1.flatMap eI) :: Asn.row 3 1 (.slice A3 x3.length c3) x3.length (x3.flatMap eI) :: Asn.box g101 32 #[.int .i64 x8, .int .i64 x9] :: X) from S.selT (M := [.box g0 28 #[.int .i64 x0, .slice A1 x1.length c1, .int .i64 x2, .slice A3 x3.length c3, .int .i64 x4, .int .i64 x5, .int .i64 x6, .int .i64 x7], .row 3 1 (.slice A1 x1.length c1) x1.length (x1.flatMap eI), .row 3 1 (.slice A3 x3.length c3) x3.length (x3.flatMap eI), .box g101 32 #[.int .i64 x8, .int .i64 x9]]) 4 [1, 2, 3, 0] rfl rfl rfl) h150) ?_
                rintro e u ⟨B151, n152, d153, B154, n155, d156, rfl, rfl, rfl, T⟩
                refine ⟨_, rfl, ?_⟩
                clear hF; intro a hF
                clear S; have S := T; clear T
                refine wpList_nil ?_
                obtain rfl := Option.some.inj hM124
                exact ⟨(p150.1, p150.2.1, p150.2.2.1, p150.2.2.2.1, p150.2.2.2.2.1, p150.2.2.2.2.2.1, p150.2.2.2.2.2.2.1, p150.2.2.2.2.2.2.2), B151, d153, B154, d156, rfl, hF.keep _ ⟨rfl, trivial⟩, S.selT (M := [.box g0 28 #[.int .i64 p150.1, .slice B151 p150.2.1.length d153, .int .i64 p150.2.2.1, .slice B154 p150.2.2.2.1.length d156, .int .i64 p150.2.2.2.2.1, .int .i64 p150.2.2.2.2.2.1, .int .i64 p150.2.2.2.2.2.2.1, .int .i64 p150.2.2.2.2.2.2.2], .row 3 1 (.slice B151 p150.2.1.length d153) p150.2.1.length (p150.2.1.flatMap eI), .row 3 1 (.slice B154 p150.2.2.2.1.length d156) p150.2.2.2.1.length (p150.2.2.2.1.flatMap eI)]) 4 [0, 1, 2] rfl rfl rfl⟩
              · replace hM124 := bif_t hc149 hM124
                refine cond_t hF rfl hc149 ?_
                refine wp_seq ?_
                refine wp_region_lit ?_
                refine op_val (v := .bool false) rfl rfl hF rfl (run_assign rfl rfl) ?_; clear hF; intro a hF
                refine wpList_nil ?_
                refine wp_ret ?_
                repeat with_reducible (first | refine then_ret ?_ | refine in_ret ?_ | refine in_nrm ?_)
                refine ret1_gw (.inl rfl) hF rfl (res_tmp (hF.ev rfl)) ?_
                obtain rfl := Option.some.inj hM124
                obtain rfl := Option.some.inj hM116
                obtain rfl := Option.some.inj hM108
                obtain rfl := Option.some.inj hM
                exact ⟨A1, x1.length, c1, A3, x3.length, c3, rfl, rfl, rfl, S.selT (M := [.box g0 28 #[.int .i64 x0, .slice A1 x1.length c1, .int .i64 x2, .slice A3 x3.length c3, .int .i64 x4, .int .i64 x5, .int .i64 x6, .int .i64 x7], .row 3 1 (.slice A1 x1.length c1) x1.length (x1.flatMap eI), .row 3 1 (.slice A3 x3.length c3) x3.length (x3.flatMap eI)]) 4 [1, 2, 3] rfl rfl rfl⟩
          · rintro a u ⟨p118, B120, d121, B122, d123, rfl, hF, S⟩
            replace hM116 := elim_l hM116
            obtain rfl := Option.some.inj hM116
            exact ⟨(p118.1, p118.2.1, p118.2.2.1, p118.2.2.2.1, p118.2.2.2.2.1, p118.2.2.2.2.2.1, p118.2.2.2.2.2.2.1, p118.2.2.2.2.2.2.2), B120, d121, B122, d123, rfl, hF.keep _ ⟨rfl, trivial⟩, S.selT (M := [.box g0 28 #[.int .i64 p118.1, .slice B120 p118.2.1.length d121, .int .i64 p118.2.2.1, .slice B122 p118.2.2.2.1.length d123, .int .i64 p118.2.2.2.2.1, .int .i64 p118.2.2.2.2.2.1, .int .i64 p118.2.2.2.2.2.2.1, .int .i64 p118.2.2.2.2.2.2.2], .row 3 1 (.slice B120 p118.2.1.length d121) p118.2.1.length (p118.2.1.flatMap eI), .row 3 1 (.slice B122 p118.2.2.2.1.length d123) p118.2.2.2.1.length (p118.2.2.2.1.flatMap eI)]) 3 [0, 1, 2] rfl rfl rfl⟩
        · replace hM116 := bif_t hc117 hM116
          refine cond_t hF rfl hc117 ?_
          refine wp_region_lit ?_
          refine op_val (v := .pointer (some ⟨g0, 0, none⟩)) rfl rfl hF rfl (run_move rfl (hF.ev rfl)) ?_; clear hF; intro a hF
          refine op_val (v := .pointer (some ⟨g0, 0, none⟩)) rfl rfl hF rfl (run_move rfl (hF.ev rfl)) ?_; clear hF; intro a hF
          refine op_val (v := .pointer (some ⟨g0, 0, none⟩)) rfl rfl hF rfl (run_nilCheck rfl (hF.ev rfl)) ?_; clear hF; intro a hF
          refine op_val (v := .pointer (some ⟨g0, 0, none⟩)) rfl rfl hF rfl (run_fieldAddr rfl fl28_0 (hF.ev rfl) rfl) ?_; clear hF; intro a hF
          refine op_val (v := .int .i64 x0) rfl rfl hF rfl (run_load1 rfl one3 (hF.ev rfl) ((S.free 1 rfl).cell rfl)) ?_; clear hF; intro a hF
          refine op_val (v := .pointer (some ⟨g0, 0, none⟩)) rfl rfl hF rfl (run_nilCheck rfl (hF.ev rfl)) ?_; clear hF; intro a hF
          refine op_val (v := .pointer (some ⟨g0, 5, none⟩)) rfl rfl hF rfl (run_fieldAddr rfl fl28_5 (hF.ev rfl) rfl) ?_; clear hF; intro a hF
          refine op_do rfl rfl (run_store (cs' := #[.int .i64 x0, .slice A1 x1.length c1, .int .i64 x2, .slice A3 x3.length c3, .int .i64 x4, .int .i64 x0, .int .i64 x6, .int .i64 x7]) rfl sz3 (hF.ev rfl) (hF.ev rfl) rfl rfl rfl (S.free 1 rfl) rfl rfl) ?_; replace S := S.put 1 rfl (#[.int .i64 x0, .slice A1 x1.length c1, .int .i64 x2, .slice A3 x3.length c3, .int .i64 x4, .int .i64 x0, .int .i64 x6, .int .i64 x7])
          generalize World.setRow _ _ _ = u at S ⊢
          refine wpList_nil ?_
          obtain rfl := Option.some.inj hM116
          exact ⟨(x0, x1, x2, x3, x4, x0, x6, x7), A1, c1, A3, c3, rfl, hF.keep _ ⟨rfl, trivial⟩, S.selT (M := [.box g0 28 #[.int .i64 x0, .slice A1 x1.length c1, .int .i64 x2, .slice A3 x3.length c3, .int .i64 x4, .int .i64 x0, .int .i64 x6, .int .i64 x7], .row 3 1 (.slice A1 x1.length c1) x1.length (x1.flatMap eI), .row 3 1 (.slice A3 x3.length c3) x3.length (x3.flatMap eI)]) 4 [1, 2, 3] rfl rfl rfl⟩
      · rintro a u ⟨p110, B112, d113, B114, d115, rfl, hF, S⟩
        replace hM108 := elim_l hM108
        obtain rfl := Option.some.inj hM108
        exact ⟨(p110.1, p110.2.1, p110.2.2.1, p110.2.2.2.1, p110.2.2.2.2.1, p110.2.2.2.2.2.1, p110.2.2.2.2.2.2.1, p110.2.2.2.2.2.2.2), B112, d113, B114, d115, rfl, hF.keep _ ⟨rfl, trivial⟩, S.selT (M := [.box g0 28 #[.int .i64 p110.1, .slice B112 p110.2.1.length d113, .int .i64 p110.2.2.1, .slice B114 p110.2.2.2.1.length d115, .int .i64 p110.2.2.2.2.1, .int .i64 p110.2.2.2.2.2.1, .int .i64 p110.2.2.2.2.2.2.1, .int .i64 p110.2.2.2.2.2.2.2], .row 3 1 (.slice B112 p110.2.1.length d113) p110.2.1.length (p110.2.1.flatMap eI), .row 3 1 (.slice B114 p110.2.2.2.1.length d115) p110.2.2.2.1.length (p110.2.2.2.1.flatMap eI)]) 3 [0, 1, 2] rfl rfl rfl⟩
    · replace hM108 := bif_t hc109 hM108
      refine cond_t hF rfl hc109 ?_
      obtain ⟨hk157, hM108⟩ := chk_ex hM108
      replace hk157 := apB_t hk157
      refine region_gw (D := [9, 10, 11, 12, 13, 14, 15, 16, 17, 18, 19]) (Lr := (Asn.box g101 32 #[.int .i64 x8, .int .i64 x9] :: Asn.row 3 1 (.slice A1 x1.length c1) x1.length (x1.flatMap eI) :: X)) (deps := (fun | 0 => [9] | 1 => [10] | 2 => [11] | 3 => [12] | 4 => [13] | 5 => [14] | 6 => [15] | 7 => [16] | 8 => [17] | 9 => [18] | 10 => [19] | 11 => [19, 17] | _ => [])) (rd := (fun | 8 => [7] | _ => [])) (zr := (fun | 4 => [11] | _ => []))
        (φ := fun i vs => match i, vs with | 0, [v9] => v9 = .pointer (some ⟨g0, 0, none⟩) | 1, [v10] => v10 = .pointer (some ⟨g0, 0, none⟩) | 2, [v11] => v11 = .pointer (some ⟨g0, 0, none⟩) | 3, [v12] => v12 = .pointer (some ⟨g0, 3, none⟩) | 4, [v13] => v13 = .slice A3 x3.length c3 | 5, [v14] => v14 = .pointer (some ⟨g101, 1, none⟩) | 6, [v15] => v15 = .int .i64 x9 | 7, [v16] => v16 = .slice (slA v16) ((([x9] : List Int) : List Int).length) ((([x9] : List Int) : List Int).length) | 8, [v17] => v17 = .slice (slA v17) ((x3 ++ ([x9] : List Int)).length) (slC v17) | 9, [v18] => v18 = .pointer (some ⟨g0, 0, none⟩) | 10, [v19] => v19 = .pointer (some ⟨g0, 3, none⟩) | _, _ => True)
        (C := fun i vs => match i, vs with | 7, [v16] => [.row 3 1 (.slice (slA v16) ((([x9] : List Int) : List Int).length) ((([x9] : List Int) : List Int).length)) ((([x9] : List Int) : List Int).length) (([x9] : List Int).flatMap eI)] | 8, [v17] => [.row 3 1 (.slice (slA v17) ((x3 ++ ([x9] : List Int)).length) (slC v17)) ((x3 ++ ([x9] : List Int)).length) ((x3 ++ ([x9] : List Int)).flatMap eI)] | 11, [v19, v17] => [.box g0 28 #[.int .i64 x0, .slice A1 x1.length c1, .int .i64 x2, .slice (slA v17) ((x3 ++ ([x9] : List Int)).length) (slC v17), .int .i64 x4, .int .i64 x5, .int .i64 x6, .int .i64 x7]] | _, _ => [])
        (κ := (fun _ => none)) (Z := (fun | 8 => [.row 3 1 (.slice A3 x3.length c3) x3.length (x3.flatMap eI)] | 11 => [.box g0 28 #[.int .i64 x0, .slice A1 x1.length c1, .int .i64 x2, .slice A3 x3.length c3, .int .i64 x4, .int .i64 x5, .int .i64 x6, .int .i64 x7]] | _ => [])) mixed hF (by kernel_rfl) (show St w0 _ (Asn.row 3 1 (.slice A3 x3.length c3) x3.length (x3.flatMap eI) :: Asn.box g0 28 #[.int .i64 x0, .slice A1 x1.length c1, .int .i64 x2, .slice A3 x3.length c3, .int .i64 x4, .int .i64 x5, .int .i64 x6, .int .i64 x7] :: Asn.box g101 32 #[.int .i64 x8, .int .i64 x9] :: Asn.row 3 1 (.slice A1 x1.length c1) x1.length (x1.flatMap eI) :: X) from S.selT (M := [.row 3 1 (.slice A3 x3.length c3) x3.length (x3.flatMap eI), .box g0 28 #[.int .i64 x0, .slice A1 x1.length c1, .int .i64 x2, .slice A3 x3.length c3, .int .i64 x4, .int .i64 x5, .int .i64 x6, .int .i64 x7], .box g101 32 #[.int .i64 x8, .int .i64 x9], .row 3 1 (.slice A1 x1.length c1) x1.length (x1.flatMap eI)]) 4 [3, 1, 0, 2] rfl rfl rfl) ?_ ?_
      · refine ⟨?_, ?_, ?_, ?_, ?_, ?_, ?_, ?_, ?_, ?_, ?_, ?_, trivial⟩
        · intro a u X' hB hu hp hr hz hl S
          replace S : St w0 u ([] ++ X') := S
          exact .inl ⟨rfl, .pointer (some ⟨g0, 0, none⟩), u, (run_move rfl (hF.evB hB rfl rfl)), rfl, S⟩
        · intro a u X' hB hu hp hr hz hl S
          replace S : St w0 u ([] ++ X') := S
          exact .inl ⟨rfl, .pointer (some ⟨g0, 0, none⟩), u, (run_move rfl (hF.evB hB rfl rfl)), rfl, S⟩
        · intro a u X' hB hu hp hr hz hl S
          replace S : St w0 u ([] ++ X') := S
          have e10 : sl a 10 = .pointer (some ⟨g0, 0, none⟩) := hp 1 rfl
          exact .inl ⟨rfl, .pointer (some ⟨g0, 0, none⟩), u, (run_nilCheck rfl (ev_sl e10)), rfl, S⟩
        · intro a u X' hB hu hp hr hz hl S
          replace S : St w0 u ([] ++ X') := S
          have e11 : sl a 11 = .pointer (some ⟨g0, 0, none⟩) := hp 2 rfl
          exact .inl ⟨rfl, .pointer (some ⟨g0, 3, none⟩), u, (run_fieldAddr rfl fl28_3 (ev_sl e11) rfl), rfl, S⟩
        · intro a u X' hB hu hp hr hz hl S
          replace S : St w0 u ([] ++ X') := S
          have e12 : sl a 12 = .pointer (some ⟨g0, 3, none⟩) := hp 3 rfl
          exact .inl ⟨rfl, .slice A3 x3.length c3, u, (run_load1 rfl one22 (ev_sl e12) ((show Bk _ _ _ _ from S.mem (List.mem_append_right _ (hz 11 (List.mem_of_getElem? (i := 0) rfl) _ (List.mem_of_getElem? (i := 0) rfl)))).cell rfl)), rfl, S⟩
        · intro a u X' hB hu hp hr hz hl S
          replace S : St w0 u ([] ++ X') := S
          exact .inl ⟨rfl, .pointer (some ⟨g101, 1, none⟩), u, (run_fieldAddr rfl fl32_1 (hF.evB hB rfl rfl) rfl), rfl, S⟩
        · intro a u X' hB hu hp hr hz hl S
          replace S : St w0 u ([] ++ X') := S
          have e14 : sl a 14 = .pointer (some ⟨g101, 1, none⟩) := hp 5 rfl
          exact .inl ⟨rfl, .int .i64 x9, u, (run_load1 rfl one3 (ev_sl e14) ((gr_box S hl 0 rfl).cell rfl)), rfl, S⟩
        · intro a u X' hB hu hp hr hz hl S
          replace S : St w0 u ([] ++ X') := S
          have e15 : sl a 15 = .int .i64 x9 := hp 6 rfl
          exact .inl ⟨rfl, _, _, run_buildS (vs := [(0, .int .i64 x9)]) rfl ⟨⟨rfl, (ev_sl e15)⟩, trivial⟩ (bs22_1_0 rfl), rfl, S.newrowL (e := eI) (ls := ([x9] : List Int)) rfl eI_len (Nat.le_of_ble_eq_true rfl)⟩
        · intro a u X' hB hu hp hr hz hl S
          replace S : St w0 u ([.row 3 1 (.slice A3 x3.length c3) x3.length (x3.flatMap eI)] ++ X') := S
          have e13 : sl a 13 = .slice A3 x3.length c3 := hp 4 rfl
          have e16 : sl a 16 = .slice (slA (sl a 16)) ((([x9] : List Int) : List Int).length) ((([x9] : List Int) : List Int).length) := hp 7 rfl
          obtain ⟨B, d, w', hrun, S'⟩ := S.appendL (i := 0) (P := Try.prog) (ty := 22) (lx := x3) (ly := ([x9] : List Int)) (c' := ((([x9] : List Int) : List Int).length)) rfl rfl Try.underlying22 inf3 rfl (by decide) (own_rc (show Ow _ _ _ _ _ _ from S.mem (List.mem_append_right _ (hr 7 (List.mem_of_getElem? (i := 0) rfl) _ (List.mem_of_getElem? (i := 0) rfl))))).rd rfl eI_one hk157 (by decide)
          exact .inl ⟨rfl, _, w', run_append rfl (ev_sl e13) (ev_sl e16) hrun, rfl, S'⟩
        · intro a u X' hB hu hp hr hz hl S
          replace S : St w0 u ([] ++ X') := S
          have e9 : sl a 9 = .pointer (some ⟨g0, 0, none⟩) := hp 0 rfl
          exact .inl ⟨rfl, .pointer (some ⟨g0, 0, none⟩), u, (run_nilCheck rfl (ev_sl e9)), rfl, S⟩
        · intro a u X' hB hu hp hr hz hl S
          replace S : St w0 u ([] ++ X') := S
          have e18 : sl a 18 = .pointer (some ⟨g0, 0, none⟩) := hp 9 rfl
          exact .inl ⟨rfl, .pointer (some ⟨g0, 3, none⟩), u, (run_fieldAddr rfl fl28_3 (ev_sl e18) rfl), rfl, S⟩
        · intro a u X' hB hu hp hr hz hl S
          replace S : St w0 u ([.box g0 28 #[.int .i64 x0, .slice A1 x1.length c1, .int .i64 x2, .slice A3 x3.length c3, .int .i64 x4, .int .i64 x5, .int .i64 x6, .int .i64 x7]] ++ X') := S
          have e17 : sl a 17 = .slice (slA (sl a 17)) ((x3 ++ ([x9] : List Int)).length) (slC (sl a 17)) := hp 8 rfl
          have e19 : sl a 19 = .pointer (some ⟨g0, 3, none⟩) := hp 10 rfl
          exact .inr (.inl ⟨rfl, _, run_store (cs' := #[.int .i64 x0, .slice A1 x1.length c1, .int .i64 x2, .slice (slA (sl a 17)) ((x3 ++ ([x9] : List Int)).length) (slC (sl a 17)), .int .i64 x4, .int .i64 x5, .int .i64 x6, .int .i64 x7]) rfl sz22 (ev_sl e19) (ev_sl e17) rfl rfl rfl (S.free 0 rfl) rfl rfl, trivial, S.put 0 rfl (#[.int .i64 x0, .slice A1 x1.length c1, .int .i64 x2, .slice (slA (sl a 17)) ((x3 ++ ([x9] : List Int)).length) (slC (sl a 17)), .int .i64 x4, .int .i64 x5, .int .i64 x6, .int .i64 x7])⟩)
      · intro a u hB hp S
        obtain ⟨q0, q1, q2, q3, q4, q5, q6, q7, q8, q9, q10, q11, _⟩ := hp
        have e9 : sl a 9 = .pointer (some ⟨g0, 0, none⟩) := q0
        have e10 : sl a 10 = .pointer (some ⟨g0, 0, none⟩) := q1
        have e11 : sl a 11 = .pointer (some ⟨g0, 0, none⟩) := q2
        have e12 : sl a 12 = .pointer (some ⟨g0, 3, none⟩) := q3
        have e13 : sl a 13 = .slice A3 x3.length c3 := q4
        have e14 : sl a 14 = .pointer (some ⟨g101, 1, none⟩) := q5
        have e15 : sl a 15 = .int .i64 x9 := q6
        have e16 : sl a 16 = .slice (slA (sl a 16)) ((([x9] : List Int) : List Int).length) ((([x9] : List Int) : List Int).length) := q7
        have e17 : sl a 17 = .slice (slA (sl a 17)) ((x3 ++ ([x9] : List Int)).length) (slC (sl a 17)) := q8
        have e18 : sl a 18 = .pointer (some ⟨g0, 0, none⟩) := q9
        have e19 : sl a 19 = .pointer (some ⟨g0, 3, none⟩) := q10
        replace S : St w0 u (Asn.row 3 1 (.slice (slA (sl a 16)) ((([x9] : List Int) : List Int).length) ((([x9] : List Int) : List Int).length)) ((([x9] : List Int) : List Int).length) (([x9] : List Int).flatMap eI) :: Asn.row 3 1 (.slice (slA (sl a 17)) ((x3 ++ ([x9] : List Int)).length) (slC (sl a 17))) ((x3 ++ ([x9] : List Int)).length) ((x3 ++ ([x9] : List Int)).flatMap eI) :: Asn.box g0 28 #[.int .i64 x0, .slice A1 x1.length c1, .int .i64 x2, .slice (slA (sl a 17)) ((x3 ++ ([x9] : List Int)).length) (slC (sl a 17)), .int .i64 x4, .int .i64 x5, .int .i64 x6, .int .i64 x7] :: Asn.box g101 32 #[.int .i64 x8, .int .i64 x9] :: Asn.row 3 1 (.slice A1 x1.length c1) x1.length (x1.flatMap eI) :: X) := S
        clear q0 q1 q2 q3 q4 q5 q6 q7 q8 q9 q10 q11
        generalize slA (sl a 16) = B158 at *
        generalize slA (sl a 17) = B159 at *
        generalize slC (sl a 17) = d160 at *
        have hF := hF.region hB [(9, .pointer (some ⟨g0, 0, none⟩)), (10, .pointer (some ⟨g0, 0, none⟩)), (11, .pointer (some ⟨g0, 0, none⟩)), (12, .pointer (some ⟨g0, 3, none⟩)), (13, .slice A3 x3.length c3), (14, .pointer (some ⟨g101, 1, none⟩)), (15, .int .i64 x9), (16, .slice B158 ((([x9] : List Int) : List Int).length) ((([x9] : List Int) : List Int).length)), (17, .slice B159 ((x3 ++ ([x9] : List Int)).length) d160), (18, .pointer (some ⟨g0, 0, none⟩)), (19, .pointer (some ⟨g0, 3, none⟩))] (allSl_mem ⟨e9, e10, e11, e12, e13, e14, e15, e16, e17, e18, e19, trivial⟩) rfl
        clear hB e9 e10 e11 e12 e13 e14 e15 e16 e17 e18 e19
        obtain rfl := Option.some.inj hM108
        exact ⟨(x0, x1, x2, x3 ++ ([x9] : List Int), x4, x5, x6, x7), A1, c1, B159, d160, rfl, hF.keep _ ⟨rfl, trivial⟩, S.selT (M := [.box g0 28 #[.int .i64 x0, .slice A1 x1.length c1, .int .i64 x2, .slice B159 ((x3 ++ ([x9] : List Int)).length) d160, .int .i64 x4, .int .i64 x5, .int .i64 x6, .int .i64 x7], .row 3 1 (.slice A1 x1.length c1) x1.length (x1.flatMap eI), .row 3 1 (.slice B159 ((x3 ++ ([x9] : List Int)).length) d160) ((x3 ++ ([x9] : List Int)).length) ((x3 ++ ([x9] : List Int)).flatMap eI)]) 5 [2, 4, 1] rfl rfl rfl⟩
  · rintro a u ⟨p102, B104, d105, B106, d107, rfl, hF, S⟩
    replace hM := elim_l hM
    refine wp_seq ?_
    refine wp_region_lit ?_
    refine op_val (v := .bool true) rfl rfl hF rfl (run_assign rfl rfl) ?_; clear hF; intro a hF
    refine wpList_nil ?_
    refine wp_ret ?_
    repeat with_reducible (first | refine then_ret ?_ | refine in_ret ?_ | refine in_nrm ?_)
    refine ret1_gw (.inl rfl) hF rfl (res_tmp (hF.ev rfl)) ?_
    obtain rfl := Option.some.inj hM
    exact ⟨B104, p102.2.1.length, d105, B106, p102.2.2.2.1.length, d107, rfl, rfl, rfl, S.selT (M := [.box g0 28 #[.int .i64 p102.1, .slice B104 p102.2.1.length d105, .int .i64 p102.2.2.1, .slice B106 p102.2.2.2.1.length d107, .int .i64 p102.2.2.2.2.1, .int .i64 p102.2.2.2.2.2.1, .int .i64 p102.2.2.2.2.2.2.1, .int .i64 p102.2.2.2.2.2.2.2], .row 3 1 (.slice B104 p102.2.1.length d105) p102.2.1.length (p102.2.1.flatMap eI), .row 3 1 (.slice B106 p102.2.2.2.1.length d107) p102.2.2.2.1.length (p102.2.2.2.1.flatMap eI)]) 3 [0, 1, 2] rfl rfl rfl⟩

set_option maxHeartbeats 4000000 in
theorem c_impl_PollDo {x0 : Int} {x1 : List Int} {x2 : Int} {x3 : List Int} {x4 : Int} {x5 : Int} {x6 : Int} {x7 : Int} {x8 : Int} {x9 : Int} {A1 : Option Addr} {n1 c1 : Nat} {A3 : Option Addr} {n3 c3 : Nat} {w : World} {r : Int × List Int × Int × List Int × Int × Int × Int × Int × Bool} (h1 : Rt w 1 eI A1 n1 c1 x1) (h3 : Rt w 1 eI A3 n3 c3 x3) (hM : m_impl_PollDo x0 x1 x2 x3 x4 x5 x6 x7 x8 x9 = some r) :
    Calls Try.prog 10 #[.agg #[.int .i64 x0, .slice A1 n1 c1, .int .i64 x2, .slice A3 n3 c3, .int .i64 x4, .int .i64 x5, .int .i64 x6, .int .i64 x7], .agg #[.int .i64 x8, .int .i64 x9]] w (fun e w' => ∃ (B0 : Option Addr) (N0 D0 : Nat) (B1 : Option Addr) (N1 D1 : Nat), e = .returned (.tuple #[.agg #[.int .i64 r.1, .slice B0 N0 D0, .int .i64 r.2.2.1, .slice B1 N1 D1, .int .i64 r.2.2.2.2.1, .int .i64 r.2.2.2.2.2.1, .int .i64 r.2.2.2.2.2.2.1, .int .i64 r.2.2.2.2.2.2.2.1], .bool r.2.2.2.2.2.2.2.2]) ∧ N0 = r.2.1.length ∧ N1 = r.2.2.2.1.length ∧ St w w' [.row 3 1 (.slice B0 N0 D0) N0 (r.2.1.flatMap eI), .row 3 1 (.slice B1 N1 D1) N1 (r.2.2.2.1.flatMap eI)]) := by
  obtain rfl := h1.len
  obtain rfl := h3.len
  unfold m_impl_PollDo at hM
  refine calls_gw Try.func10 Try.ntmps10 rfl [(0, .agg #[.int .i64 x0, .slice A1 x1.length c1, .int .i64 x2, .slice A3 x3.length c3, .int .i64 x4, .int .i64 x5, .int .i64 x6, .int .i64 x7]), (1, .agg #[.int .i64 x8, .int .i64 x9])] ⟨rfl, rfl, trivial⟩ rfl ?_
  intro a hF
  have S := St.nil w
  refine wp_seq ?_
  refine wp_region_lit ?_
  refine op_new (cs := #[.int .i64 x0, .slice A1 x1.length c1, .int .i64 x2, .slice A3 x3.length c3, .int .i64 x4, .int .i64 x5, .int .i64 x6, .int .i64 x7]) rfl rfl hF rfl S (run_box rfl (hF.ev rfl) rfl) ?_; clear hF S; intro a g101 u hF S
  refine op_new (cs := #[.int .i64 x8, .int .i64 x9]) rfl rfl hF rfl S (run_box rfl (hF.ev rfl) rfl) ?_; clear hF S; intro a g102 u hF S
  refine op_new (cs := #[.int .i64 0, .slice none 0 0, .int .i64 0, .slice none 0 0, .int .i64 0, .int .i64 0, .int .i64 0, .int .i64 0]) rfl rfl hF rfl S (run_allocZ rfl zr28) ?_; clear hF S; intro a g103 u hF S
  refine op_val (v := .bool false) rfl rfl hF rfl (run_assign rfl rfl) ?_; clear hF; intro a hF
  refine wpList_nil ?_
  refine wp_seq ?_
  refine wp_seq ?_
  refine wp_region_lit ?_
  refine op_val (v := .agg #[.int .i64 x0, .slice A1 x1.length c1, .int .i64 x2, .slice A3 x3.length c3, .int .i64 x4, .int .i64 x5, .int .i64 x6, .int .i64 x7]) rfl rfl hF rfl (run_loadN rfl ag28 (hF.ev rfl) rfl ((S.free 2 rfl).cells 0 #[.int .i64 x0, .slice A1 x1.length c1, .int .i64 x2, .slice A3 x3.length c3, .int .i64 x4, .int .i64 x5, .int .i64 x6, .int .i64 x7] rfl)) ?_; clear hF; intro a hF
  obtain ⟨p104, h104, hM⟩ := bind_ex hM
  refine op_call rfl rfl hF rfl (run_call (vs := [.agg #[.int .i64 x0, .slice A1 x1.length c1, .int .i64 x2, .slice A3 x3.length c3, .int .i64 x4, .int .i64 x5, .int .i64 x6, .int .i64 x7]]) rfl rfl co28 ⟨(hF.ev rfl), trivial⟩) (c_impl_PollValid (x0 := x0) (x1 := x1) (x2 := x2) (x3 := x3) (x4 := x4) (x5 := x5) (x6 := x6) (x7 := x7) ⟨(S.rc0 h1.rc), rfl⟩ ⟨(S.rc0 h3.rc), rfl⟩ h104) ?_
  rintro e u ⟨rfl, T⟩
  refine ⟨_, rfl, ?_⟩
  clear hF; intro a hF
  replace S := S.call0 T; clear T
  refine op_val (v := .bool (!p104)) rfl rfl hF rfl (run_not rfl (hF.ev rfl)) ?_; clear hF; intro a hF
  refine wpList_nil ?_
  cases hc105 : (p104)
  · replace hM := bif_f hc105 hM
    refine cond_t hF rfl (not_t hc105) ?_
    refine wp_seq ?_
    refine wp_region_lit ?_
    refine op_val (v := .agg #[.int .i64 0, .slice none 0 0, .int .i64 0, .slice none 0 0, .int .i64 0, .int .i64 0, .int .i64 0, .int .i64 0]) rfl rfl hF rfl (run_build (vs := []) rfl trivial (bd28 )) ?_; clear hF; intro a hF
    refine op_do rfl rfl (run_store (cs' := #[.int .i64 0, .slice none 0 0, .int .i64 0, .slice none 0 0, .int .i64 0, .int .i64 0, .int .i64 0, .int .i64 0]) rfl sz28 (hF.ev rfl) (hF.ev rfl) rfl rfl rfl (S.free 0 rfl) rfl rfl) ?_; replace S := S.put 0 rfl (#[.int .i64 0, .slice none 0 0, .int .i64 0, .slice none 0 0, .int .i64 0, .int .i64 0, .int .i64 0, .int .i64 0])
    generalize World.setRow _ _ _ = u at S ⊢
    refine op_val (v := .bool false) rfl rfl hF rfl (run_assign rfl rfl) ?_; clear hF; intro a hF
    refine wpList_nil ?_
    refine wp_ret ?_
    repeat with_reducible (first | refine then_ret ?_ | refine in_ret ?_ | refine in_nrm ?_)
    refine ret2_gw (.inl rfl) hF rfl (res_cell (hF.ev rfl) (res_loadN ag28 rfl (S.cells 0 rfl 0 #[.int .i64 0, .slice none 0 0, .int .i64 0, .slice none 0 0, .int .i64 0, .int .i64 0, .int .i64 0, .int .i64 0] rfl))) (res_tmp (hF.ev rfl)) ?_
    obtain rfl := Option.some.inj hM
    replace S := S.nilrow 3 1
    replace S := S.nilrow 3 1
    exact ⟨none, 0, 0, none, 0, 0, rfl, rfl, rfl, S.sel [1, 0] rfl rfl⟩
  · replace hM := bif_t hc105 hM
    refine cond_f hF rfl (not_f hc105) ?_
    refine wp_skip ?_
    refine wp_seq ?_
    refine wp_region_lit ?_
    refine op_val (v := .agg #[.int .i64 x0, .slice A1 x1.length c1, .int .i64 x2, .slice A3 x3.length c3, .int .i64 x4, .int .i64 x5, .int .i64 x6, .int .i64 x7]) rfl rfl hF rfl (run_loadN rfl ag28 (hF.ev rfl) rfl ((S.free 2 rfl).cells 0 #[.int .i64 x0, .slice A1 x1.length c1, .int .i64 x2, .slice A3 x3.length c3, .int .i64 x4, .int .i64 x5, .int .i64 x6, .int .i64 x7] rfl)) ?_; clear hF; intro a hF
    obtain ⟨p106, h106, hM⟩ := bind_ex hM
    refine op_call rfl rfl hF rfl (run_call (vs := [.agg #[.int .i64 x0, .slice A1 x1.length c1, .int .i64 x2, .slice A3 x3.length c3, .int .i64 x4, .int .i64 x5, .int .i64 x6, .int .i64 x7]]) rfl rfl co29 ⟨(hF.ev rfl), trivial⟩) (c_impl_Poll_clone (x0 := x0) (x1 := x1) (x2 := x2) (x3 := x3) (x4 := x4) (x5 := x5) (x6 := x6) (x7 := x7) ⟨(S.rc0 h1.rc), rfl⟩ ⟨(S.rc0 h3.rc), rfl⟩ h106) ?_
    rintro e u ⟨B107, n108, d109, B110, n111, d112, rfl, rfl, rfl, T⟩
    refine ⟨_, rfl, ?_⟩
    clear hF; intro a hF
    replace S := S.call2 T; clear T
    refine op_new (cs := #[.int .i64 0, .slice none 0 0, .int .i64 0, .slice none 0 0, .int .i64 0, .int .i64 0, .int .i64 0, .int .i64 0]) rfl rfl hF rfl S (run_allocZ rfl zr28) ?_; clear hF S; intro a g113 u hF S
    refine op_do rfl rfl (run_store (cs' := #[.int .i64 p106.1, .slice B107 p106.2.1.length d109, .int .i64 p106.2.2.1, .slice B110 p106.2.2.2.1.length d112, .int .i64 p106.2.2.2.2.1, .int .i64 p106.2.2.2.2.2.1, .int .i64 p106.2.2.2.2.2.2.1, .int .i64 p106.2.2.2.2.2.2.2]) rfl sz28 (hF.ev rfl) (hF.ev rfl) rfl rfl rfl (S.free 0 rfl) rfl rfl) ?_; replace S := S.put 0 rfl (#[.int .i64 p106.1, .slice B107 p106.2.1.length d109, .int .i64 p106.2.2.1, .slice B110 p106.2.2.2.1.length d112, .int .i64 p106.2.2.2.2.1, .int .i64 p106.2.2.2.2.2.1, .int .i64 p106.2.2.2.2.2.2.1, .int .i64 p106.2.2.2.2.2.2.2])
    generalize World.setRow _ _ _ = u at S ⊢
    refine wpList_nil ?_
    refine wp_seq ?_
    refine wp_seq ?_
    refine wp_region_lit ?_
    refine op_val (v := .agg #[.int .i64 x8, .int .i64 x9]) rfl rfl hF rfl (run_loadN rfl ag32 (hF.ev rfl) rfl ((S.free 4 rfl).cells 0 #[.int .i64 x8, .int .i64 x9] rfl)) ?_; clear hF; intro a hF
    obtain ⟨p114, h114, hM⟩ := bind_ex hM
    refine op_call rfl rfl hF rfl (run_call (vs := [.pointer (some ⟨g113, 0, none⟩), .agg #[.int .i64 x8, .int .i64 x9]]) rfl rfl co30 ⟨(hF.ev rfl), (hF.ev rfl), trivial⟩) (c_impl_Poll_do (x0 := p106.1) (x1 := p106.2.1) (x2 := p106.2.2.1) (x3 := p106.2.2.2.1) (x4 := p106.2.2.2.2.1) (x5 := p106.2.2.2.2.2.1) (x6 := p106.2.2.2.2.2.2.1) (x7 := p106.2.2.2.2.2.2.2) (x8 := x8) (x9 := x9) rfl rfl (show St w _ [.box g113 28 #[.int .i64 p106.1, .slice B107 p106.2.1.length d109, .int .i64 p106.2.2.1, .slice B110 p106.2.2.2.1.length d112, .int .i64 p106.2.2.2.2.1, .int .i64 p106.2.2.2.2.2.1, .int .i64 p106.2.2.2.2.2.2.1, .int .i64 p106.2.2.2.2.2.2.2], .row 3 1 (.slice B107 p106.2.1.length d109) p106.2.1.length (p106.2.1.flatMap eI), .row 3 1 (.slice B110 p106.2.2.2.1.length d112) p106.2.2.2.1.length (p106.2.2.2.1.flatMap eI), .box g103 28 #[.int .i64 0, .slice none 0 0, .int .i64 0, .slice none 0 0, .int .i64 0, .int .i64 0, .int .i64 0, .int .i64 0], .box g102 32 #[.int .i64 x8, .int .i64 x9], .box g101 28 #[.int .i64 x0, .slice A1 x1.length c1, .int .i64 x2, .slice A3 x3.length c3, .int .i64 x4, .int .i64 x5, .int .i64 x6, .int .i64 x7]] from S.sel [0, 1, 2, 3, 4, 5] rfl rfl) h114) ?_
    rintro e u ⟨B115, n116, d117, B118, n119, d120, rfl, rfl, rfl, T⟩
    refine ⟨_, rfl, ?_⟩
    clear hF; intro a hF
    clear S; have S := T; clear T
    refine op_val (v := .bool (!p114.1)) rfl rfl hF rfl (run_not rfl (hF.ev rfl)) ?_; clear hF; intro a hF
    refine op_val (v := .bool (!p114.1)) rfl rfl hF rfl (run_move rfl (hF.ev rfl)) ?_; clear hF; intro a hF
    refine op_gv (v := .agg #[.int .i64 p114.2.1, .slice B115 p114.2.2.1.length d117, .int .i64 p114.2.2.2.1, .slice B118 p114.2.2.2.2.1.length d120, .int .i64 p114.2.2.2.2.2.1, .int .i64 p114.2.2.2.2.2.2.1, .int .i64 p114.2.2.2.2.2.2.2.1, .int .i64 p114.2.2.2.2.2.2.2.2]) rfl rfl hF rfl (yf (gw_yield hF rfl rfl rfl)) (fun hg => (run_loadN rfl ag28 (hF.ev rfl) rfl ((S.free 0 rfl).cells 0 #[.int .i64 p114.2.1, .slice B115 p114.2.2.1.length d117, .int .i64 p114.2.2.2.1, .slice B118 p114.2.2.2.2.1.length d120, .int .i64 p114.2.2.2.2.2.1, .int .i64 p114.2.2.2.2.2.2.1, .int .i64 p114.2.2.2.2.2.2.2.1, .int .i64 p114.2.2.2.2.2.2.2.2] rfl))) ?_; clear hF; intro a hF
    obtain ⟨p121, h121, hM⟩ := bind_ex hM
    refine op_gcall (v := .bool p121) rfl rfl hF rfl S (yf (gw_yield hF rfl rfl rfl)) (fun hg => (run_call (vs := [.agg #[.int .i64 p114.2.1, .slice B115 p114.2.2.1.length d117, .int .i64 p114.2.2.2.1, .slice B118 p114.2.2.2.2.1.length d120, .int .i64 p114.2.2.2.2.2.1, .int .i64 p114.2.2.2.2.2.2.1, .int .i64 p114.2.2.2.2.2.2.2.1, .int .i64 p114.2.2.2.2.2.2.2.2]]) rfl rfl co28 ⟨((hF.ev rfl).trans (gv_t hg)), trivial⟩)) (fun hg => c_impl_PollValid (x0 := p114.2.1) (x1 := p114.2.2.1) (x2 := p114.2.2.2.1) (x3 := p114.2.2.2.2.1) (x4 := p114.2.2.2.2.2.1) (x5 := p114.2.2.2.2.2.2.1) (x6 := p114.2.2.2.2.2.2.2.1) (x7 := p114.2.2.2.2.2.2.2.2) ⟨(S.rc 1 rfl), rfl⟩ ⟨(S.rc 2 rfl), rfl⟩ (gb_t h121 hg)) ?_; clear hF S; intro a u hF S
    refine op_gv (v := .bool (!p121)) rfl rfl hF rfl (yf (gw_yield hF rfl rfl rfl)) (fun hg => (run_not rfl ((hF.ev rfl).trans (gv_t hg)))) ?_; clear hF; intro a hF
    refine op_val (v := .bool ((!p114.1) || (!p121))) rfl rfl hF rfl (run_pick_or rfl (hF.ev rfl) rfl (fun hp => ((hF.ev rfl).trans (gv_t (not_t hp))))) ?_; clear hF; intro a hF
    refine wpList_nil ?_
    cases hc122 : ((!p114.1) || (!p121))
    · replace hM := bif_f hc122 hM
      refine cond_f hF rfl hc122 ?_
      refine wp_skip ?_
      refine wp_seq ?_
      refine wp_region_lit ?_
      refine op_val (v := .agg #[.int .i64 p114.2.1, .slice B115 p114.2.2.1.length d117, .int .i64 p114.2.2.2.1, .slice B118 p114.2.2.2.2.1.length d120, .int .i64 p114.2.2.2.2.2.1, .int .i64 p114.2.2.2.2.2.2.1, .int .i64 p114.2.2.2.2.2.2.2.1, .int .i64 p114.2.2.2.2.2.2.2.2]) rfl rfl hF rfl (run_loadN rfl ag28 (hF.ev rfl) rfl ((S.free 0 rfl).cells 0 #[.int .i64 p114.2.1, .slice B115 p114.2.2.1.length d117, .int .i64 p114.2.2.2.1, .slice B118 p114.2.2.2.2.1.length d120, .int .i64 p114.2.2.2.2.2.1, .int .i64 p114.2.2.2.2.2.2.1, .int .i64 p114.2.2.2.2.2.2.2.1, .int .i64 p114.2.2.2.2.2.2.2.2] rfl)) ?_; clear hF; intro a hF
      refine op_do rfl rfl (run_store (cs' := #[.int .i64 p114.2.1, .slice B115 p114.2.2.1.length d117, .int .i64 p114.2.2.2.1, .slice B118 p114.2.2.2.2.1.length d120, .int .i64 p114.2.2.2.2.2.1, .int .i64 p114.2.2.2.2.2.2.1, .int .i64 p114.2.2.2.2.2.2.2.1, .int .i64 p114.2.2.2.2.2.2.2.2]) rfl sz28 (hF.ev rfl) (hF.ev rfl) rfl rfl rfl (S.free 3 rfl) rfl rfl) ?_; replace S := S.put 3 rfl (#[.int .i64 p114.2.1, .slice B115 p114.2.2.1.length d117, .int .i64 p114.2.2.2.1, .slice B118 p114.2.2.2.2.1.length d120, .int .i64 p114.2.2.2.2.2.1, .int .i64 p114.2.2.2.2.2.2.1, .int .i64 p114.2.2.2.2.2.2.2.1, .int .i64 p114.2.2.2.2.2.2.2.2])
      generalize World.setRow _ _ _ = u at S ⊢
      refine op_val (v := .bool true) rfl rfl hF rfl (run_assign rfl rfl) ?_; clear hF; intro a hF
      refine wpList_nil ?_
      refine wp_ret ?_
      repeat with_reducible (first | refine then_ret ?_ | refine in_ret ?_ | refine in_nrm ?_)
      refine ret2_gw (.inl rfl) hF rfl (res_cell (hF.ev rfl) (res_loadN ag28 rfl (S.cells 3 rfl 0 #[.int .i64 p114.2.1, .slice B115 p114.2.2.1.length d117, .int .i64 p114.2.2.2.1, .slice B118 p114.2.2.2.2.1.length d120, .int .i64 p114.2.2.2.2.2.1, .int .i64 p114.2.2.2.2.2.2.1, .int .i64 p114.2.2.2.2.2.2.2.1, .int .i64 p114.2.2.2.2.2.2.2.2] rfl))) (res_tmp (hF.ev rfl)) ?_
      obtain rfl := Option.some.inj hM
      exact ⟨B115, p114.2.2.1.length, d117, B118, p114.2.2.2.2.1.length, d120, rfl, rfl, rfl, S.sel [1, 2] rfl rfl⟩
    · replace hM := bif_t hc122 hM
      refine cond_t hF rfl hc122 ?_
      refine wp_seq ?_
      refine wp_region_lit ?_
      refine op_val (v := .agg #[.int .i64 x0, .slice A1 x1.length c1, .int .i64 x2, .slice A3 x3.length c3, .int .i64 x4, .int .i64 x5, .int .i64 x6, .int .i64 x7]) rfl rfl hF rfl (run_loadN rfl ag28 (hF.ev rfl) rfl ((S.free 5 rfl).cells 0 #[.int .i64 x0, .slice A1 x1.length c1, .int .i64 x2, .slice A3 x3.length c3, .int .i64 x4, .int .i64 x5, .int .i64 x6, .int .i64 x7] rfl)) ?_; clear hF; intro a hF
      obtain ⟨p123, h123, hM⟩ := bind_ex hM
      refine op_call rfl rfl hF rfl (run_call (vs := [.agg #[.int .i64 x0, .slice A1 x1.length c1, .int .i64 x2, .slice A3 x3.length c3, .int .i64 x4, .int .i64 x5, .int .i64 x6, .int .i64 x7]]) rfl rfl co29 ⟨(hF.ev rfl), trivial⟩) (c_impl_Poll_clone (x0 := x0) (x1 := x1) (x2 := x2) (x3 := x3) (x4 := x4) (x5 := x5) (x6 := x6) (x7 := x7) ⟨(S.rc0 h1.rc), rfl⟩ ⟨(S.rc0 h3.rc), rfl⟩ h123) ?_
      rintro e u ⟨B124, n125, d126, B127, n128, d129, rfl, rfl, rfl, T⟩
      refine ⟨_, rfl, ?_⟩
      clear hF; intro a hF
      replace S := S.call2 T; clear T
      refine op_do rfl rfl (run_store (cs' := #[.int .i64 p123.1, .slice B124 p123.2.1.length d126, .int .i64 p123.2.2.1, .slice B127 p123.2.2.2.1.length d129, .int .i64 p123.2.2.2.2.1, .int .i64 p123.2.2.2.2.2.1, .int .i64 p123.2.2.2.2.2.2.1, .int .i64 p123.2.2.2.2.2.2.2]) rfl sz28 (hF.ev rfl) (hF.ev rfl) rfl rfl rfl (S.free 5 rfl) rfl rfl) ?_; replace S := S.put 5 rfl (#[.int .i64 p123.1, .slice B124 p123.2.1.length d126, .int .i64 p123.2.2.1, .slice B127 p123.2.2.2.1.length d129, .int .i64 p123.2.2.2.2.1, .int .i64 p123.2.2.2.2.2.1, .int .i64 p123.2.2.2.2.2.2.1, .int .i64 p123.2.2.2.2.2.2.2])
      generalize World.setRow _ _ _ = u at S ⊢
      refine op_val (v := .bool false) rfl rfl hF rfl (run_assign rfl rfl) ?_; clear hF; intro a hF
      refine wpList_nil ?_
      refine wp_ret ?_
      repeat with_reducible (first | refine then_ret ?_ | refine in_ret ?_ | refine in_nrm ?_)
      refine ret2_gw (.inl rfl) hF rfl (res_cell (hF.ev rfl) (res_loadN ag28 rfl (S.cells 5 rfl 0 #[.int .i64 p123.1, .slice B124 p123.2.1.length d126, .int .i64 p123.2.2.1, .slice B127 p123.2.2.2.1.length d129, .int .i64 p123.2.2.2.2.1, .int .i64 p123.2.2.2.2.2.1, .int .i64 p123.2.2.2.2.2.2.1, .int .i64 p123.2.2.2.2.2.2.2] rfl))) (res_tmp (hF.ev rfl)) ?_
      obtain rfl := Option.some.inj hM
      exact ⟨B124, p123.2.1.length, d126, B127, p123.2.2.2.1.length, d129, rfl, rfl, rfl, S.sel [0, 1] rfl rfl⟩

set_option maxHeartbeats 4000000 in
theorem c_laws_eqIntS {x0 : List Int} {x1 : List Int} {A0 : Option Addr} {n0 c0 : Nat} {A1 : Option Addr} {n1 c1 : Nat} {w : World} {r : Bool} (h0 : Rt w 1 eI A0 n0 c0 x0) (h1 : Rt w 1 eI A1 n1 c1 x1) (hM : m_laws_eqIntS x0 x1 = some r) :
    Calls Try.prog 31 #[.slice A0 n0 c0, .slice A1 n1 c1] w (fun e w' => e = .returned (.bool r) ∧ St w w' []) := by
  obtain rfl := h0.len
  obtain rfl := h1.len
  unfold m_laws_eqIntS at hM
  refine calls_gw Try.func31 Try.ntmps31 rfl [(0, .slice A0 x0.length c0), (1, .slice A1 x1.length c1)] ⟨rfl, rfl, trivial⟩ rfl ?_
  intro a hF
  have S := St.nil w
  refine wp_seq ?_
  refine wp_region_lit ?_
  refine op_val (v := .bool false) rfl rfl hF rfl (run_assign rfl rfl) ?_; clear hF; intro a hF
  refine wpList_nil ?_
  refine wp_seq ?_
  refine wp_seq ?_
  refine wp_region_lit ?_
  refine op_val (v := .slice A0 x0.length c0) rfl rfl hF rfl (run_move rfl (hF.ev rfl)) ?_; clear hF; intro a hF
  refine op_val (v := .int .i64 (x0.length : Int)) rfl rfl hF rfl (run_lenL rfl rfl Try.underlying22 (hF.ev rfl)) ?_; clear hF; intro a hF
  refine op_val (v := .slice A1 x1.length c1) rfl rfl hF rfl (run_move rfl (hF.ev rfl)) ?_; clear hF; intro a hF
  refine op_val (v := .int .i64 (x1.length : Int)) rfl rfl hF rfl (run_lenL rfl rfl Try.underlying22 (hF.ev rfl)) ?_; clear hF; intro a hF
  refine op_val (v := .bool ((x0.length : Int) != (x1.length : Int))) rfl rfl hF rfl (run_neq (hF.ev rfl) (hF.ev rfl) rfl) ?_; clear hF; intro a hF
  refine wpList_nil ?_
  cases hc101 : ((x0.length : Int) != (x1.length : Int))
  · replace hM := bif_f hc101 hM
    refine cond_f hF rfl hc101 ?_
    refine wp_skip ?_
    refine wp_seq ?_
    refine wp_seq ?_
    refine wp_region_lit ?_
    refine op_val (v := .int .i64 0) rfl rfl hF rfl (run_assign rfl rfl) ?_; clear hF; intro a hF
    refine wpList_nil ?_
    obtain ⟨o103, hM104, hM⟩ := bind_ex hM
    refine wp_cut (fun a u => ∃ (p102 : Unit), (Sum.inl p102) = o103 ∧ Fr a 26 [(4, .bool false)] ∧ St w u []) ?_ ?_
    · have _ := trivial
      refine wp_block ?_
      refine loop_gw (fun m a u => ∃ (p105 : Int), m_laws_eqIntS_l1 x0 x1 m p105 = some _ ∧ Fr a 26 [(0, .slice A0 x0.length c0), (1, .slice A1 x1.length c1), (4, .bool false), (5, .int .i64 p105)] ∧ St w u []) FUEL ⟨0, hM104, hF.keep _ ⟨rfl, rfl, rfl, rfl, trivial⟩, S.sel [] rfl rfl⟩ ?_
      clear hF S hM104; rintro m a u ⟨p105, hM104, hF, S⟩
      rcases m with _ | f1
      · exact none_some hM104
      rw [m_laws_eqIntS_l1.eq_2] at hM104
      refine wp_seq ?_
      refine wp_seq ?_
      refine wp_region_lit ?_
      refine op_val (v := .int .i64 p105) rfl rfl hF rfl (run_move rfl (hF.ev rfl)) ?_; clear hF; intro a hF
      refine op_val (v := .slice A0 x0.length c0) rfl rfl hF rfl (run_move rfl (hF.ev rfl)) ?_; clear hF; intro a hF
      refine op_val (v := .int .i64 (x0.length : Int)) rfl rfl hF rfl (run_lenL rfl rfl Try.underlying22 (hF.ev rfl)) ?_; clear hF; intro a hF
      refine op_val (v := .bool (ltB p105 (x0.length : Int))) rfl rfl hF rfl (run_lss (hF.ev rfl) (hF.ev rfl) rfl) ?_; clear hF; intro a hF
      refine wpList_nil ?_
      cases hc106 : (ltB p105 (x0.length : Int))
      · replace hM104 := bif_f hc106 hM104
        refine cond_f hF rfl hc106 ?_
        refine wp_exit ?_
        repeat with_reducible (first | refine then_exit ?_ | refine in_hit ?_ | refine in_miss rfl ?_)
        obtain rfl := Option.some.inj hM104
        exact ⟨(), rfl, hF.keep _ ⟨rfl, trivial⟩, S.sel [] rfl rfl⟩
      · replace hM104 := bif_t hc106 hM104
        refine cond_t hF rfl hc106 ?_
        refine wp_skip ?_
        refine wp_seq ?_
        refine wp_block ?_
        refine wp_seq ?_
        obtain ⟨hk107, hM104⟩ := chk_ex hM104
        replace hk107 := ixB_t hk107
        obtain ⟨hk108, hM104⟩ := chk_ex hM104
        replace hk108 := ixB_t hk108
        refine region_gw (D := [17, 18, 19, 20, 21, 22, 23, 24, 25]) (Lr := []) (deps := (fun | 0 => [17] | 1 => [18] | 2 => [19] | 3 => [20] | 4 => [21] | 5 => [22] | 6 => [23] | 7 => [24] | 8 => [25] | _ => [])) (rd := (fun _ => [])) (zr := (fun _ => []))
          (φ := fun i vs => match i, vs with | 0, [v17] => v17 = .slice A0 x0.length c0 | 1, [v18] => v18 = .int .i64 p105 | 2, [v19] => v19 = .pointer (some ⟨adB A0, adO A0 + p105.toNat * 1, none⟩) | 3, [v20] => v20 = .int .i64 (x0.getD p105.toNat (0 : Int)) | 4, [v21] => v21 = .slice A1 x1.length c1 | 5, [v22] => v22 = .int .i64 p105 | 6, [v23] => v23 = .pointer (some ⟨adB A1, adO A1 + p105.toNat * 1, none⟩) | 7, [v24] => v24 = .int .i64 (x1.getD p105.toNat (0 : Int)) | 8, [v25] => v25 = .bool ((x0.getD p105.toNat (0 : Int)) != (x1.getD p105.toNat (0 : Int))) | _, _ => True)
          (C := fun _ _ => [])
          (κ := (fun _ => none)) (Z := (fun _ => [])) mixed hF (by kernel_rfl) S ?_ ?_
        · refine ⟨?_, ?_, ?_, ?_, ?_, ?_, ?_, ?_, ?_, trivial⟩
          · intro a u X hB hu hp hr hz hl S
            replace S : St w u ([] ++ X) := S
            exact .inl ⟨rfl, .slice A0 x0.length c0, u, (run_move rfl (hF.evB hB rfl rfl)), rfl, S⟩
          · intro a u X hB hu hp hr hz hl S
            replace S : St w u ([] ++ X) := S
            exact .inl ⟨rfl, .int .i64 p105, u, (run_move rfl (hF.evB hB rfl rfl)), rfl, S⟩
          · intro a u X hB hu hp hr hz hl S
            replace S : St w u ([] ++ X) := S
            have e17 : sl a 17 = .slice A0 x0.length c0 := hp 0 rfl
            have e18 : sl a 18 = .int .i64 p105 := hp 1 rfl
            exact .inl ⟨rfl, .pointer (some ⟨adB A0, adO A0 + p105.toNat * 1, none⟩), u, (run_indexAddr (b := adB A0) (off := adO A0) rfl Try.underlying22 sz3 ((ev_sl e17).trans (congrArg (fun A => Value.slice A x0.length c0) ((S.rc0 h0.rc).rd.ad (ix_pos hk107)))) (ev_sl e18) hk107.1 hk107.2 (k' := adO A0 + p105.toNat * 1) rfl), rfl, S⟩
          · intro a u X hB hu hp hr hz hl S
            replace S : St w u ([] ++ X) := S
            have e19 : sl a 19 = .pointer (some ⟨adB A0, adO A0 + p105.toNat * 1, none⟩) := hp 2 rfl
            exact .inl ⟨rfl, .int .i64 (x0.getD p105.toNat (0 : Int)), u, (run_load1 rfl one3 (ev_sl e19) (rd_el0 (l := x0) (S.rc0 h0.rc).rd rfl eI_len (0 : Int) (ix_ltn hk107 rfl) rfl)), rfl, S⟩
          · intro a u X hB hu hp hr hz hl S
            replace S : St w u ([] ++ X) := S
            exact .inl ⟨rfl, .slice A1 x1.length c1, u, (run_move rfl (hF.evB hB rfl rfl)), rfl, S⟩
          · intro a u X hB hu hp hr hz hl S
            replace S : St w u ([] ++ X) := S
            exact .inl ⟨rfl, .int .i64 p105, u, (run_move rfl (hF.evB hB rfl rfl)), rfl, S⟩
          · intro a u X hB hu hp hr hz hl S
            replace S : St w u ([] ++ X) := S
            have e21 : sl a 21 = .slice A1 x1.length c1 := hp 4 rfl
            have e22 : sl a 22 = .int .i64 p105 := hp 5 rfl
            exact .inl ⟨rfl, .pointer (some ⟨adB A1, adO A1 + p105.toNat * 1, none⟩), u, (run_indexAddr (b := adB A1) (off := adO A1) rfl Try.underlying22 sz3 ((ev_sl e21).trans (congrArg (fun A => Value.slice A x1.length c1) ((S.rc0 h1.rc).rd.ad (ix_pos hk108)))) (ev_sl e22) hk108.1 hk108.2 (k' := adO A1 + p105.toNat * 1) rfl), rfl, S⟩
          · intro a u X hB hu hp hr hz hl S
            replace S : St w u ([] ++ X) := S
            have e23 : sl a 23 = .pointer (some ⟨adB A1, adO A1 + p105.toNat * 1, none⟩) := hp 6 rfl
            exact .inl ⟨rfl, .int .i64 (x1.getD p105.toNat (0 : Int)), u, (run_load1 rfl one3 (ev_sl e23) (rd_el0 (l := x1) (S.rc0 h1.rc).rd rfl eI_len (0 : Int) (ix_ltn hk108 rfl) rfl)), rfl, S⟩
          · intro a u X hB hu hp hr hz hl S
            replace S : St w u ([] ++ X) := S
            have e20 : sl a 20 = .int .i64 (x0.getD p105.toNat (0 : Int)) := hp 3 rfl
            have e24 : sl a 24 = .int .i64 (x1.getD p105.toNat (0 : Int)) := hp 7 rfl
            exact .inl ⟨rfl, .bool ((x0.getD p105.toNat (0 : Int)) != (x1.getD p105.toNat (0 : Int))), u, (run_neq (ev_sl e20) (ev_sl e24) rfl), rfl, S⟩
        · intro a u hB hp S
          obtain ⟨q0, q1, q2, q3, q4, q5, q6, q7, q8, _⟩ := hp
          have e17 : sl a 17 = .slice A0 x0.length c0 := q0
          have e18 : sl a 18 = .int .i64 p105 := q1
          have e19 : sl a 19 = .pointer (some ⟨adB A0, adO A0 + p105.toNat * 1, none⟩) := q2
          have e20 : sl a 20 = .int .i64 (x0.getD p105.toNat (0 : Int)) := q3
          have e21 : sl a 21 = .slice A1 x1.length c1 := q4
          have e22 : sl a 22 = .int .i64 p105 := q5
          have e23 : sl a 23 = .pointer (some ⟨adB A1, adO A1 + p105.toNat * 1, none⟩) := q6
          have e24 : sl a 24 = .int .i64 (x1.getD p105.toNat (0 : Int)) := q7
          have e25 : sl a 25 = .bool ((x0.getD p105.toNat (0 : Int)) != (x1.getD p105.toNat (0 : Int))) := q8
          replace S : St w u [] := S
          clear q0 q1 q2 q3 q4 q5 q6 q7 q8
          have hF := hF.region hB [(17, .slice A0 x0.length c0), (18, .int .i64 p105), (19, .pointer (some ⟨adB A0, adO A0 + p105.toNat * 1, none⟩)), (20, .int .i64 (x0.getD p105.toNat (0 : Int))), (21, .slice A1 x1.length c1), (22, .int .i64 p105), (23, .pointer (some ⟨adB A1, adO A1 + p105.toNat * 1, none⟩)), (24, .int .i64 (x1.getD p105.toNat (0 : Int))), (25, .bool ((x0.getD p105.toNat (0 : Int)) != (x1.getD p105.toNat (0 : Int))))] (allSl_mem ⟨e17, e18, e19, e20, e21, e22, e23, e24, e25, trivial⟩) rfl
          clear hB e17 e18 e19 e20 e21 e22 e23 e24 e25
          cases hc109 : ((x0.getD p105.toNat (0 : Int)) != (x1.getD p105.toNat (0 : Int)))
          · replace hM104 := bif_f hc109 hM104
            refine cond_f hF rfl hc109 ?_
            refine wp_skip ?_
            refine wp_region_lit ?_
            refine op_val (v := .int .i64 p105) rfl rfl hF rfl (run_move rfl (hF.ev rfl)) ?_; clear hF; intro a hF
            refine op_val (v := .int .i64 (w64 (p105 + 1))) rfl rfl hF rfl (run_add (z := w64 (p105 + 1)) (hF.ev rfl) rfl rfl rfl) ?_; clear hF; intro a hF
            refine op_val (v := .int .i64 (w64 (p105 + 1))) rfl rfl hF rfl (run_assign rfl (hF.ev rfl)) ?_; clear hF; intro a hF
            refine wpList_nil ?_
            exact ⟨f1, Nat.lt_succ_self _, w64 (p105 + 1), hM104, hF.keep _ ⟨rfl, rfl, rfl, rfl, trivial⟩, S.sel [] rfl rfl⟩
          · replace hM104 := bif_t hc109 hM104
            refine cond_t hF rfl hc109 ?_
            refine wp_seq ?_
            refine wp_region_lit ?_
            refine op_val (v := .bool false) rfl rfl hF rfl (run_assign rfl rfl) ?_; clear hF; intro a hF
            refine wpList_nil ?_
            refine wp_ret ?_
            repeat with_reducible (first | refine then_ret ?_ | refine in_ret ?_ | refine in_nrm ?_)
            refine ret1_gw (.inl rfl) hF rfl (res_tmp (hF.ev rfl)) ?_
            obtain rfl := Option.some.inj hM104
            obtain rfl := Option.some.inj hM
            exact ⟨rfl, S.sel [] rfl rfl⟩
    · rintro a u ⟨p102, rfl, hF, S⟩
      replace hM := elim_l hM
      refine wp_seq ?_
      refine wp_region_lit ?_
      refine op_val (v := .bool true) rfl rfl hF rfl (run_assign rfl rfl) ?_; clear hF; intro a hF
      refine wpList_nil ?_
      refine wp_ret ?_
      repeat with_reducible (first | refine then_ret ?_ | refine in_ret ?_ | refine in_nrm ?_)
      refine ret1_gw (.inl rfl) hF rfl (res_tmp (hF.ev rfl)) ?_
      obtain rfl := Option.some.inj hM
      exact ⟨rfl, S.sel [] rfl rfl⟩
  · replace hM := bif_t hc101 hM
    refine cond_t hF rfl hc101 ?_
    refine wp_seq ?_
    refine wp_region_lit ?_
    refine op_val (v := .bool false) rfl rfl hF rfl (run_assign rfl rfl) ?_; clear hF; intro a hF
    refine wpList_nil ?_
    refine wp_ret ?_
    repeat with_reducible (first | refine then_ret ?_ | refine in_ret ?_ | refine in_nrm ?_)
    refine ret1_gw (.inl rfl) hF rfl (res_tmp (hF.ev rfl)) ?_
    obtain rfl := Option.some.inj hM
    exact ⟨rfl, S.sel [] rfl rfl⟩

set_option maxHeartbeats 4000000 in
theorem c_laws_eqPoll {x0 : Int} {x1 : List Int} {x2 : Int} {x3 : List Int} {x4 : Int} {x5 : Int} {x6 : Int} {x7 : Int} {x8 : Int} {x9 : List Int} {x10 : Int} {x11 : List Int} {x12 : Int} {x13 : Int} {x14 : Int} {x15 : Int} {A1 : Option Addr} {n1 c1 : Nat} {A3 : Option Addr} {n3 c3 : Nat} {A9 : Option Addr} {n9 c9 : Nat} {A11 : Option Addr} {n11 c11 : Nat} {w : World} {r : Bool} (h1 : Rt w 1 eI A1 n1 c1 x1) (h3 : Rt w 1 eI A3 n3 c3 x3) (h9 : Rt w 1 eI A9 n9 c9 x9) (h11 : Rt w 1 eI A11 n11 c11 x11) (hM : m_laws_eqPoll x0 x1 x2 x3 x4 x5 x6 x7 x8 x9 x10 x11 x12 x13 x14 x15 = some r) :
    Calls Try.prog 11 #[.agg #[.int .i64 x0, .slice A1 n1 c1, .int .i64 x2, .slice A3 n3 c3, .int .i64 x4, .int .i64 x5, .int .i64 x6, .int .i64 x7], .agg #[.int .i64 x8, .slice A9 n9 c9, .int .i64 x10, .slice A11 n11 c11, .int .i64 x12, .int .i64 x13, .int .i64 x14, .int .i64 x15]] w (fun e w' => e = .returned (.bool r) ∧ St w w' []) := by
  obtain rfl := h1.len
  obtain rfl := h3.len
  obtain rfl := h9.len
  obtain rfl := h11.len
  unfold m_laws_eqPoll at hM
  refine calls_gw Try.func11 Try.ntmps11 rfl [(0, .agg #[.int .i64 x0, .slice A1 x1.length c1, .int .i64 x2, .slice A3 x3.length c3, .int .i64 x4, .int .i64 x5, .int .i64 x6, .int .i64 x7]), (1, .agg #[.int .i64 x8, .slice A9 x9.length c9, .int .i64 x10, .slice A11 x11.length c11, .int .i64 x12, .int .i64 x13, .int .i64 x14, .int .i64 x15])] ⟨rfl, rfl, trivial⟩ rfl ?_
  intro a hF
  have S := St.nil w
  refine wp_seq ?_
  refine wp_region_lit ?_
  refine op_new (cs := #[.int .i64 x0, .slice A1 x1.length c1, .int .i64 x2, .slice A3 x3.length c3, .int .i64 x4, .int .i64 x5, .int .i64 x6, .int .i64 x7]) rfl rfl hF rfl S (run_box rfl (hF.ev rfl) rfl) ?_; clear hF S; intro a g101 u hF S
  refine op_new (cs := #[.int .i64 x8, .slice A9 x9.length c9, .int .i64 x10, .slice A11 x11.length c11, .int .i64 x12, .int .i64 x13, .int .i64 x14, .int .i64 x15]) rfl rfl hF rfl S (run_box rfl (hF.ev rfl) rfl) ?_; clear hF S; intro a g102 u hF S
  refine op_val (v := .bool false) rfl rfl hF rfl (run_assign rfl rfl) ?_; clear hF; intro a hF
  refine wpList_nil ?_
  refine wp_seq ?_
  refine wp_seq ?_
  refine wp_region_lit ?_
  refine op_val (v := .pointer (some ⟨g101, 0, none⟩)) rfl rfl hF rfl (run_fieldAddr rfl fl28_0 (hF.ev rfl) rfl) ?_; clear hF; intro a hF
  refine op_val (v := .int .i64 x0) rfl rfl hF rfl (run_load1 rfl one3 (hF.ev rfl) ((S.free 1 rfl).cell rfl)) ?_; clear hF; intro a hF
  refine op_val (v := .pointer (some ⟨g102, 0, none⟩)) rfl rfl hF rfl (run_fieldAddr rfl fl28_0 (hF.ev rfl) rfl) ?_; clear hF; intro a hF
  refine op_val (v := .int .i64 x8) rfl rfl hF rfl (run_load1 rfl one3 (hF.ev rfl) ((S.free 0 rfl).cell rfl)) ?_; clear hF; intro a hF
  refine op_val (v := .bool (x0 != x8)) rfl rfl hF rfl (run_neq (hF.ev rfl) (hF.ev rfl) rfl) ?_; clear hF; intro a hF
  refine wpList_nil ?_
  cases hc103 : (x0 != x8)
  · replace hM := bif_f hc103 hM
    refine cond_f hF rfl hc103 ?_
    refine wp_skip ?_
    refine wp_seq ?_
    refine wp_seq ?_
    refine wp_region_lit ?_
    refine op_val (v := .pointer (some ⟨g101, 1, none⟩)) rfl rfl hF rfl (run_fieldAddr rfl fl28_1 (hF.ev rfl) rfl) ?_; clear hF; intro a hF
    refine op_val (v := .slice A1 x1.length c1) rfl rfl hF rfl (run_load1 rfl one22 (hF.ev rfl) ((S.free 1 rfl).cell rfl)) ?_; clear hF; intro a hF
    refine op_val (v := .pointer (some ⟨g102, 1, none⟩)) rfl rfl hF rfl (run_fieldAddr rfl fl28_1 (hF.ev rfl) rfl) ?_; clear hF; intro a hF
    refine op_val (v := .slice A9 x9.length c9) rfl rfl hF rfl (run_load1 rfl one22 (hF.ev rfl) ((S.free 0 rfl).cell rfl)) ?_; clear hF; intro a hF
    obtain ⟨p104, h104, hM⟩ := bind_ex hM
    refine op_call rfl rfl hF rfl (run_call (vs := [.slice A1 x1.length c1, .slice A9 x9.length c9]) rfl rfl co31 ⟨(hF.ev rfl), (hF.ev rfl), trivial⟩) (c_laws_eqIntS (x0 := x1) (x1 := x9) ⟨(S.rc0 h1.rc), rfl⟩ ⟨(S.rc0 h9.rc), rfl⟩ h104) ?_
    rintro e u ⟨rfl, T⟩
    refine ⟨_, rfl, ?_⟩
    clear hF; intro a hF
    replace S := S.call0 T; clear T
    refine op_val (v := .bool (!p104)) rfl rfl hF rfl (run_not rfl (hF.ev rfl)) ?_; clear hF; intro a hF
    refine wpList_nil ?_
    cases hc105 : (p104)
    · replace hM := bif_f hc105 hM
      refine cond_t hF rfl (not_t hc105) ?_
      refine wp_seq ?_
      refine wp_region_lit ?_
      refine op_val (v := .bool false) rfl rfl hF rfl (run_assign rfl rfl) ?_; clear hF; intro a hF
      refine wpList_nil ?_
      refine wp_ret ?_
      repeat with_reducible (first | refine then_ret ?_ | refine in_ret ?_ | refine in_nrm ?_)
      refine ret1_gw (.inl rfl) hF rfl (res_tmp (hF.ev rfl)) ?_
      obtain rfl := Option.some.inj hM
      exact ⟨rfl, S.sel [] rfl rfl⟩
    · replace hM := bif_t hc105 hM
      refine cond_f hF rfl (not_f hc105) ?_
      refine wp_skip ?_
      refine wp_seq ?_
      refine wp_seq ?_
      refine wp_region_lit ?_
      refine op_val (v := .pointer (some ⟨g101, 2, none⟩)) rfl rfl hF rfl (run_fieldAddr rfl fl28_2 (hF.ev rfl) rfl) ?_; clear hF; intro a hF
      refine op_val (v := .int .i64 x2) rfl rfl hF rfl (run_load1 rfl one3 (hF.ev rfl) ((S.free 1 rfl).cell rfl)) ?_; clear hF; intro a hF
      refine op_val (v := .pointer (some ⟨g102, 2, none⟩)) rfl rfl hF rfl (run_fieldAddr rfl fl28_2 (hF.ev rfl) rfl) ?_; clear hF; intro a hF
      refine op_val (v := .int .i64 x10) rfl rfl hF rfl (run_load1 rfl one3 (hF.ev rfl) ((S.free 0 rfl).cell rfl)) ?_; clear hF; intro a hF
      refine op_val (v := .bool (x2 != x10)) rfl rfl hF rfl (run_neq (hF.ev rfl) (hF.ev rfl) rfl) ?_; clear hF; intro a hF
      refine wpList_nil ?_
      cases hc106 : (x2 != x10)
      · replace hM := bif_f hc106 hM
        refine cond_f hF rfl hc106 ?_
        refine wp_skip ?_
        refine wp_seq ?_
        refine wp_seq ?_
        refine wp_region_lit ?_
        refine op_val (v := .pointer (some ⟨g101, 3, none⟩)) rfl rfl hF rfl (run_fieldAddr rfl fl28_3 (hF.ev rfl) rfl) ?_; clear hF; intro a hF
        refine op_val (v := .slice A3 x3.length c3) rfl rfl hF rfl (run_load1 rfl one22 (hF.ev rfl) ((S.free 1 rfl).cell rfl)) ?_; clear hF; intro a hF
        refine op_val (v := .pointer (some ⟨g102, 3, none⟩)) rfl rfl hF rfl (run_fieldAddr rfl fl28_3 (hF.ev rfl) rfl) ?_; clear hF; intro a hF
        refine op_val (v := .slice A11 x11.length c11) rfl rfl hF rfl (run_load1 rfl one22 (hF.ev rfl) ((S.free 0 rfl).cell rfl)) ?_; clear hF; intro a hF
        obtain ⟨p107, h107, hM⟩ := bind_ex hM
        refine op_call rfl rfl hF rfl (run_call (vs := [.slice A3 x3.length c3, .slice A11 x11.length c11]) rfl rfl co31 ⟨(hF.ev rfl), (hF.ev rfl), trivial⟩) (c_laws_eqIntS (x0 := x3) (x1 := x11) ⟨(S.rc0 h3.rc), rfl⟩ ⟨(S.rc0 h11.rc), rfl⟩ h107) ?_
        rintro e u ⟨rfl, T⟩
        refine ⟨_, rfl, ?_⟩
        clear hF; intro a hF
        replace S := S.call0 T; clear T
        refine op_val (v := .bool (!p107)) rfl rfl hF rfl (run_not rfl (hF.ev rfl)) ?_; clear hF; intro a hF
        refine wpList_nil ?_
        cases hc108 : (p107)
        · replace hM := bif_f hc108 hM
          refine cond_t hF rfl (not_t hc108) ?_
          refine wp_seq ?_
          refine wp_region_lit ?_
          refine op_val (v := .bool false) rfl rfl hF rfl (run_assign rfl rfl) ?_; clear hF; intro a hF
          refine wpList_nil ?_
          refine wp_ret ?_
          repeat with_reducible (first | refine then_ret ?_ | refine in_ret ?_ | refine in_nrm ?_)
          refine ret1_gw (.inl rfl) hF rfl (res_tmp (hF.ev rfl)) ?_
          obtain rfl := Option.some.inj hM
          exact ⟨rfl, S.sel [] rfl rfl⟩
        · replace hM := bif_t hc108 hM
          refine cond_f hF rfl (not_f hc108) ?_
          refine wp_skip ?_
          refine wp_seq ?_
          refine wp_seq ?_
          refine wp_region_lit ?_
          refine op_val (v := .pointer (some ⟨g101, 4, none⟩)) rfl rfl hF rfl (run_fieldAddr rfl fl28_4 (hF.ev rfl) rfl) ?_; clear hF; intro a hF
          refine op_val (v := .int .i64 x4) rfl rfl hF rfl (run_load1 rfl one3 (hF.ev rfl) ((S.free 1 rfl).cell rfl)) ?_; clear hF; intro a hF
          refine op_val (v := .pointer (some ⟨g102, 4, none⟩)) rfl rfl hF rfl (run_fieldAddr rfl fl28_4 (hF.ev rfl) rfl) ?_; clear hF; intro a hF
          refine op_val (v := .int .i64 x12) rfl rfl hF rfl (run_load1 rfl one3 (hF.ev rfl) ((S.free 0 rfl).cell rfl)) ?_; clear hF; intro a hF
          refine op_val (v := .bool (x4 != x12)) rfl rfl hF rfl (run_neq (hF.ev rfl) (hF.ev rfl) rfl) ?_; clear hF; intro a hF
          refine wpList_nil ?_
          cases hc109 : (x4 != x12)
          · replace hM := bif_f hc109 hM
            refine cond_f hF rfl hc109 ?_
            refine wp_skip ?_
            refine wp_seq ?_
            refine wp_seq ?_
            refine wp_region_lit ?_
            refine op_val (v := .pointer (some ⟨g101, 5, none⟩)) rfl rfl hF rfl (run_fieldAddr rfl fl28_5 (hF.ev rfl) rfl) ?_; clear hF; intro a hF
            refine op_val (v := .int .i64 x5) rfl rfl hF rfl (run_load1 rfl one3 (hF.ev rfl) ((S.free 1 rfl).cell rfl)) ?_; clear hF; intro a hF
            refine op_val (v := .pointer (some ⟨g102, 5, none⟩)) rfl rfl hF rfl (run_fieldAddr rfl fl28_5 (hF.ev rfl) rfl) ?_; clear hF; intro a hF
            refine op_val (v := .int .i64 x13) rfl rfl hF rfl (run_load1 rfl one3 (hF.ev rfl) ((S.free 0 rfl).cell rfl)) ?_; clear hF; intro a hF
            refine op_val (v := .bool (x5 != x13)) rfl rfl hF rfl (run_neq (hF.ev rfl) (hF.ev rfl) rfl) ?_; clear hF; intro a hF
            refine wpList_nil ?_
            cases hc110 : (x5 != x13)
            · replace hM := bif_f hc110 hM
              refine cond_f hF rfl hc110 ?_
              refine wp_skip ?_
              refine wp_seq ?_
              refine wp_seq ?_
              refine wp_region_lit ?_
              refine op_val (v := .pointer (some ⟨g101, 6, none⟩)) rfl rfl hF rfl (run_fieldAddr rfl fl28_6 (hF.ev rfl) rfl) ?_; clear hF; intro a hF
              refine op_val (v := .int .i64 x6) rfl rfl hF rfl (run_load1 rfl one3 (hF.ev rfl) ((S.free 1 rfl).cell rfl)) ?_; clear hF; intro a hF
              refine op_val (v := .pointer (some ⟨g102, 6, none⟩)) rfl rfl hF rfl (run_fieldAddr rfl fl28_6 (hF.ev rfl) rfl) ?_; clear hF; intro a hF
              refine op_val (v := .int .i64 x14) rfl rfl hF rfl (run_load1 rfl one3 (hF.ev rfl) ((S.free 0 rfl).cell rfl)) ?_; clear hF; intro a hF
              refine op_val (v := .bool (x6 != x14)) rfl rfl hF rfl (run_neq (hF.ev rfl) (hF.ev rfl) rfl) ?_; clear hF; intro a hF
              refine wpList_nil ?_
              cases hc111 : (x6 != x14)
              · replace hM := bif_f hc111 hM
                refine cond_f hF rfl hc111 ?_
                refine wp_skip ?_
                refine wp_seq ?_
                refine wp_seq ?_
                refine wp_region_lit ?_
                refine op_val (v := .pointer (some ⟨g101, 7, none⟩)) rfl rfl hF rfl (run_fieldAddr rfl fl28_7 (hF.ev rfl) rfl) ?_; clear hF; intro a hF
                refine op_val (v := .int .i64 x7) rfl rfl hF rfl (run_load1 rfl one3 (hF.ev rfl) ((S.free 1 rfl).cell rfl)) ?_; clear hF; intro a hF
                refine op_val (v := .pointer (some ⟨g102, 7, none⟩)) rfl rfl hF rfl (run_fieldAddr rfl fl28_7 (hF.ev rfl) rfl) ?_; clear hF; intro a hF
                refine op_val (v := .int .i64 x15) rfl rfl hF rfl (run_load1 rfl one3 (hF.ev rfl) ((S.free 0 rfl).cell rfl)) ?_; clear hF; intro a hF
                refine op_val (v := .bool (x7 != x15)) rfl rfl hF rfl (run_neq (hF.ev rfl) (hF.ev rfl) rfl) ?_; clear hF; intro a hF
                refine wpList_nil ?_
                cases hc112 : (x7 != x15)
                · replace hM := bif_f hc112 hM
                  refine cond_f hF rfl hc112 ?_
                  refine wp_skip ?_
                  refine wp_seq ?_
                  refine wp_region_lit ?_
                  refine op_val (v := .bool true) rfl rfl hF rfl (run_assign rfl rfl) ?_; clear hF; intro a hF
                  refine wpList_nil ?_
                  refine wp_ret ?_
                  repeat with_reducible (first | refine then_ret ?_ | refine in_ret ?_ | refine in_nrm ?_)
                  refine ret1_gw (.inl rfl) hF rfl (res_tmp (hF.ev rfl)) ?_
                  obtain rfl := Option.some.inj hM
                  exact ⟨rfl, S.sel [] rfl rfl⟩
                · replace hM := bif_t hc112 hM
                  refine cond_t hF rfl hc112 ?_
                  refine wp_seq ?_
                  refine wp_region_lit ?_
                  refine op_val (v := .bool false) rfl rfl hF rfl (run_assign rfl rfl) ?_; clear hF; intro a hF
                  refine wpList_nil ?_
                  refine wp_ret ?_
                  repeat with_reducible (first | refine then_ret ?_ | refine in_ret ?_ | refine in_nrm ?_)
                  refine ret1_gw (.inl rfl) hF rfl (res_tmp (hF.ev rfl)) ?_
                  obtain rfl := Option.some.inj hM
                  exact ⟨rfl, S.sel [] rfl rfl⟩
              · replace hM := bif_t hc111 hM
                refine cond_t hF rfl hc111 ?_
                refine wp_seq ?_
                refine wp_region_lit ?_
                refine op_val (v := .bool false) rfl rfl hF rfl (run_assign rfl rfl) ?_; clear hF; intro a hF
                refine wpList_nil ?_
                refine wp_ret ?_
                repeat with_reducible (first | refine then_ret ?_ | refine in_ret ?_ | refine in_nrm ?_)
                refine ret1_gw (.inl rfl) hF rfl (res_tmp (hF.ev rfl)) ?_
                obtain rfl := Option.some.inj hM
                exact ⟨rfl, S.sel [] rfl rfl⟩
            · replace hM := bif_t hc110 hM
              refine cond_t hF rfl hc110 ?_
              refine wp_seq ?_
              refine wp_region_lit ?_
              refine op_val (v := .bool false) rfl rfl hF rfl (run_assign rfl rfl) ?_; clear hF; intro a hF
              refine wpList_nil ?_
              refine wp_ret ?_
              repeat with_reducible (first | refine then_ret ?_ | refine in_ret ?_ | refine in_nrm ?_)
              refine ret1_gw (.inl rfl) hF rfl (res_tmp (hF.ev rfl)) ?_
              obtain rfl := Option.some.inj hM
              exact ⟨rfl, S.sel [] rfl rfl⟩
          · replace hM := bif_t hc109 hM
            refine cond_t hF rfl hc109 ?_
            refine wp_seq ?_
            refine wp_region_lit ?_
            refine op_val (v := .bool false) rfl rfl hF rfl (run_assign rfl rfl) ?_; clear hF; intro a hF
            refine wpList_nil ?_
            refine wp_ret ?_
            repeat with_reducible (first | refine then_ret ?_ | refine in_ret ?_ | refine in_nrm ?_)
            refine ret1_gw (.inl rfl) hF rfl (res_tmp (hF.ev rfl)) ?_
            obtain rfl := Option.some.inj hM
            exact ⟨rfl, S.sel [] rfl rfl⟩
      · replace hM := bif_t hc106 hM
        refine cond_t hF rfl hc106 ?_
        refine wp_seq ?_
        refine wp_region_lit ?_
        refine op_val (v := .bool false) rfl rfl hF rfl (run_assign rfl rfl) ?_; clear hF; intro a hF
        refine wpList_nil ?_
        refine wp_ret ?_
        repeat with_reducible (first | refine then_ret ?_ | refine in_ret ?_ | refine in_nrm ?_)
        refine ret1_gw (.inl rfl) hF rfl (res_tmp (hF.ev rfl)) ?_
        obtain rfl := Option.some.inj hM
        exact ⟨rfl, S.sel [] rfl rfl⟩
  · replace hM := bif_t hc103 hM
    refine cond_t hF rfl hc103 ?_
    refine wp_seq ?_
    refine wp_region_lit ?_
    refine op_val (v := .bool false) rfl rfl hF rfl (run_assign rfl rfl) ?_; clear hF; intro a hF
    refine wpList_nil ?_
    refine wp_ret ?_
    repeat with_reducible (first | refine then_ret ?_ | refine in_ret ?_ | refine in_nrm ?_)
    refine ret1_gw (.inl rfl) hF rfl (res_tmp (hF.ev rfl)) ?_
    obtain rfl := Option.some.inj hM
    exact ⟨rfl, S.sel [] rfl rfl⟩

set_option maxHeartbeats 4000000 in
theorem c_laws_markIntS {x0 : List Int} {x1 : Int} {A0 : Option Addr} {n0 c0 : Nat} {w : World} {r : Int × List Int} {w0 : World} {X : List Asn} (h0 : n0 = x0.length) (S : St w0 w (Asn.row 3 1 (.slice A0 n0 c0) n0 (x0.flatMap eI) :: X)) (hM : m_laws_markIntS x0 x1 = some r) :
    Calls Try.prog 32 #[.slice A0 n0 c0, .int .i64 x1] w (fun e w' => e = .returned (.int .i64 r.1) ∧ n0 = r.2.length ∧ St w0 w' (Asn.row 3 1 (.slice A0 n0 c0) n0 (r.2.flatMap eI) :: X)) := by
  obtain rfl := h0
  unfold m_laws_markIntS at hM
  refine calls_gw Try.func32 Try.ntmps32 rfl [(0, .slice A0 x0.length c0), (1, .int .i64 x1)] ⟨rfl, rfl, trivial⟩ rfl ?_
  intro a hF
  refine wp_seq ?_
  refine wp_region_lit ?_
  refine op_val (v := .int .i64 0) rfl rfl hF rfl (run_assign rfl rfl) ?_; clear hF; intro a hF
  refine wpList_nil ?_
  refine wp_seq ?_
  refine wp_seq ?_
  refine wp_region_lit ?_
  refine op_val (v := .int .i64 0) rfl rfl hF rfl (run_assign rfl rfl) ?_; clear hF; intro a hF
  refine wpList_nil ?_
  obtain ⟨o102, hM104, hM⟩ := bind_ex hM
  refine wp_cut (fun a u => ∃ (p101 : Int × List Int), p101 = o102 ∧ x0.length = p101.2.length ∧ Fr a 19 [(1, .int .i64 p101.1), (4, .int .i64 0)] ∧ St w0 u (Asn.row 3 1 (.slice A0 x0.length c0) x0.length (p101.2.flatMap eI) :: X)) ?_ ?_
  · have _ := trivial
    refine wp_block ?_
    refine loop_gw (fun m a u => ∃ (p105 : List Int × Int × Int), m_laws_markIntS_l1 x0 m p105 = some _ ∧ x0.length = p105.1.length ∧ Fr a 19 [(0, .slice A0 x0.length c0), (1, .int .i64 p105.2.1), (4, .int .i64 0), (5, .int .i64 p105.2.2)] ∧ St w0 u (Asn.row 3 1 (.slice A0 x0.length c0) x0.length (p105.1.flatMap eI) :: X)) FUEL ⟨(x0, x1, 0), hM104, rfl, hF.keep _ ⟨rfl, rfl, rfl, rfl, trivial⟩, S.selT (M := [.row 3 1 (.slice A0 x0.length c0) x0.length (x0.flatMap eI)]) 1 [0] rfl rfl rfl⟩ ?_
    clear hF S hM104; rintro m a u ⟨p105, hM104, hn106, hF, S⟩
    rcases m with _ | f1
    · exact none_some hM104
    rw [m_laws_markIntS_l1.eq_2] at hM104
    refine wp_seq ?_
    refine wp_seq ?_
    refine wp_region_lit ?_
    refine op_val (v := .int .i64 p105.2.2) rfl rfl hF rfl (run_move rfl (hF.ev rfl)) ?_; clear hF; intro a hF
    refine op_val (v := .slice A0 x0.length c0) rfl rfl hF rfl (run_move rfl (hF.ev rfl)) ?_; clear hF; intro a hF
    refine op_val (v := .int .i64 (x0.length : Int)) rfl rfl hF rfl (run_lenL rfl rfl Try.underlying22 (hF.ev rfl)) ?_; clear hF; intro a hF
    refine op_val (v := .bool (ltB p105.2.2 (x0.length : Int))) rfl rfl hF rfl (run_lss (hF.ev rfl) (hF.ev rfl) rfl) ?_; clear hF; intro a hF
    refine wpList_nil ?_
    cases hc107 : (ltB p105.2.2 (x0.length : Int))
    · replace hM104 := bif_f hc107 hM104
      refine cond_f hF rfl hc107 ?_
      refine wp_exit ?_
      repeat with_reducible (first | refine then_exit ?_ | refine in_hit ?_ | refine in_miss rfl ?_)
      obtain rfl := Option.some.inj hM104
      exact ⟨(p105.2.1, p105.1), rfl, hn106, hF.keep _ ⟨rfl, rfl, trivial⟩, S.selT (M := [.row 3 1 (.slice A0 x0.length c0) x0.length (p105.1.flatMap eI)]) 1 [0] rfl rfl rfl⟩
    · replace hM104 := bif_t hc107 hM104
      refine cond_t hF rfl hc107 ?_
      refine wp_skip ?_
      refine wp_seq ?_
      refine wp_block ?_
      refine wp_seq ?_
      refine wp_region_lit ?_
      refine op_val (v := .slice A0 x0.length c0) rfl rfl hF rfl (run_move rfl (hF.ev rfl)) ?_; clear hF; intro a hF
      refine op_val (v := .int .i64 p105.2.2) rfl rfl hF rfl (run_move rfl (hF.ev rfl)) ?_; clear hF; intro a hF
      refine op_val (v := .int .i64 p105.2.1) rfl rfl hF rfl (run_move rfl (hF.ev rfl)) ?_; clear hF; intro a hF
      obtain ⟨hk108, hM104⟩ := chk_ex hM104
      replace hk108 := ixB_t hk108
      refine op_val (v := .pointer (some ⟨adB A0, adO A0 + p105.2.2.toNat * 1, none⟩)) rfl rfl hF rfl (run_indexAddr (b := adB A0) (off := adO A0) rfl Try.underlying22 sz3 ((hF.ev rfl).trans (congrArg (fun A => Value.slice A x0.length c0) ((S.rc 0 rfl).rd.ad (ix_pos hk108)))) (hF.ev rfl) hk108.1 hk108.2 (k' := adO A0 + p105.2.2.toNat * 1) rfl) ?_; clear hF; intro a hF
      obtain ⟨w', hrun, S'⟩ := run_storeElN (P := Try.prog) (ρ := a.eval) (y0 := p105.2.1) (off := 0) S 3 (.tmp 15) (.tmp 14) (i := 0) sz3 (hF.ev rfl) (hF.ev rfl) rfl rfl rfl rfl hn106 eI_len (0 : Int) (ix_ltn hk108 hn106) rfl rfl
      refine op_do rfl rfl (hrun _ rfl) ?_; clear hrun S; have S := S'; clear S'; generalize w' = u at S ⊢
      refine wpList_nil ?_
      refine wp_region_lit ?_
      refine op_val (v := .int .i64 p105.2.1) rfl rfl hF rfl (run_move rfl (hF.ev rfl)) ?_; clear hF; intro a hF
      refine op_val (v := .int .i64 (w64 (p105.2.1 + 1))) rfl rfl hF rfl (run_add (z := w64 (p105.2.1 + 1)) (hF.ev rfl) rfl rfl rfl) ?_; clear hF; intro a hF
      refine op_val (v := .int .i64 (w64 (p105.2.1 + 1))) rfl rfl hF rfl (run_assign rfl (hF.ev rfl)) ?_; clear hF; intro a hF
      refine wpList_nil ?_
      refine wp_region_lit ?_
      refine op_val (v := .int .i64 p105.2.2) rfl rfl hF rfl (run_move rfl (hF.ev rfl)) ?_; clear hF; intro a hF
      refine op_val (v := .int .i64 (w64 (p105.2.2 + 1))) rfl rfl hF rfl (run_add (z := w64 (p105.2.2 + 1)) (hF.ev rfl) rfl rfl rfl) ?_; clear hF; intro a hF
      refine op_val (v := .int .i64 (w64 (p105.2.2 + 1))) rfl rfl hF rfl (run_assign rfl (hF.ev rfl)) ?_; clear hF; intro a hF
      refine wpList_nil ?_
      exact ⟨f1, Nat.lt_succ_self _, (p105.1.set p105.2.2.toNat p105.2.1, w64 (p105.2.1 + 1), w64 (p105.2.2 + 1)), hM104, (len_set hn106), hF.keep _ ⟨rfl, rfl, rfl, rfl, trivial⟩, S.selT (M := [.row 3 1 (.slice A0 x0.length c0) x0.length ((p105.1.set p105.2.2.toNat p105.2.1).flatMap eI)]) 1 [0] rfl rfl rfl⟩
  · rintro a u ⟨p101, rfl, hn103, hF, S⟩
    refine wp_seq ?_
    refine wp_region_lit ?_
    refine op_val (v := .int .i64 p101.1) rfl rfl hF rfl (run_move rfl (hF.ev rfl)) ?_; clear hF; intro a hF
    refine op_val (v := .int .i64 p101.1) rfl rfl hF rfl (run_assign rfl (hF.ev rfl)) ?_; clear hF; intro a hF
    refine wpList_nil ?_
    refine wp_ret ?_
    repeat with_reducible (first | refine then_ret ?_ | refine in_ret ?_ | refine in_nrm ?_)
    refine ret1_gw (.inl rfl) hF rfl (res_tmp (hF.ev rfl)) ?_
    obtain rfl := Option.some.inj hM
    exact ⟨rfl, hn103, S.selT (M := [.row 3 1 (.slice A0 x0.length c0) x0.length (p101.2.flatMap eI)]) 1 [0] rfl rfl rfl⟩

set_option maxHeartbeats 4000000 in
theorem c_laws_markPoll {x0 : Int} {x1 : List Int} {x2 : Int} {x3 : List Int} {x4 : Int} {x5 : Int} {x6 : Int} {x7 : Int} {x8 : Int} {A1 : Option Addr} {n1 c1 : Nat} {A3 : Option Addr} {n3 c3 : Nat} {w : World} {r : Int × List Int × List Int} {w0 : World} {X : List Asn} (h1 : n1 = x1.length) (h3 : n3 = x3.length) (S : St w0 w (Asn.row 3 1 (.slice A1 n1 c1) n1 (x1.flatMap eI) :: Asn.row 3 1 (.slice A3 n3 c3) n3 (x3.flatMap eI) :: X)) (hM : m_laws_markPoll x0 x1 x2 x3 x4 x5 x6 x7 x8 = some r) :
    Calls Try.prog 12 #[.agg #[.int .i64 x0, .slice A1 n1 c1, .int .i64 x2, .slice A3 n3 c3, .int .i64 x4, .int .i64 x5, .int .i64 x6, .int .i64 x7], .int .i64 x8] w (fun e w' => e = .returned (.int .i64 r.1) ∧ n1 = r.2.1.length ∧ n3 = r.2.2.length ∧ St w0 w' (Asn.row 3 1 (.slice A1 n1 c1) n1 (r.2.1.flatMap eI) :: Asn.row 3 1 (.slice A3 n3 c3) n3 (r.2.2.flatMap eI) :: X)) := by
  obtain rfl := h1
  obtain rfl := h3
  unfold m_laws_markPoll at hM
  refine calls_gw Try.func12 Try.ntmps12 rfl [(0, .agg #[.int .i64 x0, .slice A1 x1.length c1, .int .i64 x2, .slice A3 x3.length c3, .int .i64 x4, .int .i64 x5, .int .i64 x6, .int .i64 x7]), (1, .int .i64 x8)] ⟨rfl, rfl, trivial⟩ rfl ?_
  intro a hF
  refine wp_seq ?_
  refine wp_region_lit ?_
  refine op_new (cs := #[.int .i64 x0, .slice A1 x1.length c1, .int .i64 x2, .slice A3 x3.length c3, .int .i64 x4, .int .i64 x5, .int .i64 x6, .int .i64 x7]) rfl rfl hF rfl S (run_box rfl (hF.ev rfl) rfl) ?_; clear hF S; intro a g101 u hF S
  refine op_val (v := .int .i64 0) rfl rfl hF rfl (run_assign rfl rfl) ?_; clear hF; intro a hF
  refine wpList_nil ?_
  refine wp_seq ?_
  refine wp_region_lit ?_
  refine op_val (v := .pointer (some ⟨g101, 1, none⟩)) rfl rfl hF rfl (run_fieldAddr rfl fl28_1 (hF.ev rfl) rfl) ?_; clear hF; intro a hF
  refine op_val (v := .slice A1 x1.length c1) rfl rfl hF rfl (run_load1 rfl one22 (hF.ev rfl) ((S.free 0 rfl).cell rfl)) ?_; clear hF; intro a hF
  refine op_val (v := .int .i64 x8) rfl rfl hF rfl (run_move rfl (hF.ev rfl)) ?_; clear hF; intro a hF
  obtain ⟨p102, h102, hM⟩ := bind_ex hM
  refine op_call rfl rfl hF rfl (run_call (vs := [.slice A1 x1.length c1, .int .i64 x8]) rfl rfl co32 ⟨(hF.ev rfl), (hF.ev rfl), trivial⟩) (c_laws_markIntS (x0 := x1) (x1 := x8) rfl (show St w0 _ (Asn.row 3 1 (.slice A1 x1.length c1) x1.length (x1.flatMap eI) :: Asn.box g101 28 #[.int .i64 x0, .slice A1 x1.length c1, .int .i64 x2, .slice A3 x3.length c3, .int .i64 x4, .int .i64 x5, .int .i64 x6, .int .i64 x7] :: Asn.row 3 1 (.slice A3 x3.length c3) x3.length (x3.flatMap eI) :: X) from S.selT (M := [.row 3 1 (.slice A1 x1.length c1) x1.length (x1.flatMap eI), .box g101 28 #[.int .i64 x0, .slice A1 x1.length c1, .int .i64 x2, .slice A3 x3.length c3, .int .i64 x4, .int .i64 x5, .int .i64 x6, .int .i64 x7], .row 3 1 (.slice A3 x3.length c3) x3.length (x3.flatMap eI)]) 3 [1, 0, 2] rfl rfl rfl) h102) ?_
  rintro e u ⟨rfl, hn103, T⟩
  refine ⟨_, rfl, ?_⟩
  clear hF; intro a hF
  clear S; have S := T; clear T
  refine op_val (v := .int .i64 p102.1) rfl rfl hF rfl (run_assign rfl (hF.ev rfl)) ?_; clear hF; intro a hF
  refine wpList_nil ?_
  refine wp_seq ?_
  refine wp_region_lit ?_
  refine op_val (v := .pointer (some ⟨g101, 3, none⟩)) rfl rfl hF rfl (run_fieldAddr rfl fl28_3 (hF.ev rfl) rfl) ?_; clear hF; intro a hF
  refine op_val (v := .slice A3 x3.length c3) rfl rfl hF rfl (run_load1 rfl one22 (hF.ev rfl) ((S.free 1 rfl).cell rfl)) ?_; clear hF; intro a hF
  refine op_val (v := .int .i64 p102.1) rfl rfl hF rfl (run_move rfl (hF.ev rfl)) ?_; clear hF; intro a hF
  obtain ⟨p104, h104, hM⟩ := bind_ex hM
  refine op_call rfl rfl hF rfl (run_call (vs := [.slice A3 x3.length c3, .int .i64 p102.1]) rfl rfl co32 ⟨(hF.ev rfl), (hF.ev rfl), trivial⟩) (c_laws_markIntS (x0 := x3) (x1 := p102.1) rfl (show St w0 _ (Asn.row 3 1 (.slice A3 x3.length c3) x3.length (x3.flatMap eI) :: Asn.row 3 1 (.slice A1 x1.length c1) x1.length (p102.2.flatMap eI) :: Asn.box g101 28 #[.int .i64 x0, .slice A1 x1.length c1, .int .i64 x2, .slice A3 x3.length c3, .int .i64 x4, .int .i64 x5, .int .i64 x6, .int .i64 x7] :: X) from S.selT (M := [.row 3 1 (.slice A3 x3.length c3) x3.length (x3.flatMap eI), .row 3 1 (.slice A1 x1.length c1) x1.length (p102.2.flatMap eI), .box g101 28 #[.int .i64 x0, .slice A1 x1.length c1, .int .i64 x2, .slice A3 x3.length c3, .int .i64 x4, .int .i64 x5, .int .i64 x6, .int .i64 x7]]) 3 [2, 0, 1] rfl rfl rfl) h104) ?_
  rintro e u ⟨rfl, hn105, T⟩
  refine ⟨_, rfl, ?_⟩
  clear hF; intro a hF
  clear S; have S := T; clear T
  refine op_val (v := .int .i64 p104.1) rfl rfl hF rfl (run_assign rfl (hF.ev rfl)) ?_; clear hF; intro a hF
  refine wpList_nil ?_
  refine wp_seq ?_
  refine wp_region_lit ?_
  refine op_val (v := .int .i64 p104.1) rfl rfl hF rfl (run_move rfl (hF.ev rfl)) ?_; clear hF; intro a hF
  refine op_val (v := .int .i64 p104.1) rfl rfl hF rfl (run_assign rfl (hF.ev rfl)) ?_; clear hF; intro a hF
  refine wpList_nil ?_
  refine wp_ret ?_
  repeat with_reducible (first | refine then_ret ?_ | refine in_ret ?_ | refine in_nrm ?_)
  refine ret1_gw (.inl rfl) hF rfl (res_tmp (hF.ev rfl)) ?_
  obtain rfl := Option.some.inj hM
  exact ⟨rfl, hn103, hn105, S.selT (M := [.row 3 1 (.slice A1 x1.length c1) x1.length (p102.2.flatMap eI), .row 3 1 (.slice A3 x3.length c3) x3.length (p104.2.flatMap eI)]) 3 [1, 0] rfl rfl rfl⟩

set_option maxHeartbeats 4000000 in
theorem c_laws_heldIntS {x0 : List Int} {x1 : Int} {A0 : Option Addr} {n0 c0 : Nat} {w : World} {r : Int} (h0 : Rt w 1 eI A0 n0 c0 x0) (hM : m_laws_heldIntS x0 x1 = some r) :
    Calls Try.prog 33 #[.slice A0 n0 c0, .int .i64 x1] w (fun e w' => e = .returned (.int .i64 r) ∧ St w w' []) := by
  obtain rfl := h0.len
  unfold m_laws_heldIntS at hM
  refine calls_gw Try.func33 Try.ntmps33 rfl [(0, .slice A0 x0.length c0), (1, .int .i64 x1)] ⟨rfl, rfl, trivial⟩ rfl ?_
  intro a hF
  have S := St.nil w
  refine wp_seq ?_
  refine wp_region_lit ?_
  refine op_val (v := .int .i64 0) rfl rfl hF rfl (run_assign rfl rfl) ?_; clear hF; intro a hF
  refine wpList_nil ?_
  refine wp_seq ?_
  refine wp_seq ?_
  refine wp_region_lit ?_
  refine op_val (v := .int .i64 0) rfl rfl hF rfl (run_assign rfl rfl) ?_; clear hF; intro a hF
  refine wpList_nil ?_
  obtain ⟨o102, hM103, hM⟩ := bind_ex hM
  refine wp_cut (fun a u => ∃ (p101 : Int), (Sum.inl p101) = o102 ∧ Fr a 21 [(1, .int .i64 p101), (4, .int .i64 0)] ∧ St w u []) ?_ ?_
  · have _ := trivial
    refine wp_block ?_
    refine loop_gw (fun m a u => ∃ (p104 : Int × Int), m_laws_heldIntS_l1 x0 m p104 = some _ ∧ Fr a 21 [(0, .slice A0 x0.length c0), (1, .int .i64 p104.1), (4, .int .i64 0), (5, .int .i64 p104.2)] ∧ St w u []) FUEL ⟨(x1, 0), hM103, hF.keep _ ⟨rfl, rfl, rfl, rfl, trivial⟩, S.sel [] rfl rfl⟩ ?_
    clear hF S hM103; rintro m a u ⟨p104, hM103, hF, S⟩
    rcases m with _ | f1
    · exact none_some hM103
    rw [m_laws_heldIntS_l1.eq_2] at hM103
    refine wp_seq ?_
    refine wp_seq ?_
    refine wp_region_lit ?_
    refine op_val (v := .int .i64 p104.2) rfl rfl hF rfl (run_move rfl (hF.ev rfl)) ?_; clear hF; intro a hF
    refine op_val (v := .slice A0 x0.length c0) rfl rfl hF rfl (run_move rfl (hF.ev rfl)) ?_; clear hF; intro a hF
    refine op_val (v := .int .i64 (x0.length : Int)) rfl rfl hF rfl (run_lenL rfl rfl Try.underlying22 (hF.ev rfl)) ?_; clear hF; intro a hF
    refine op_val (v := .bool (ltB p104.2 (x0.length : Int))) rfl rfl hF rfl (run_lss (hF.ev rfl) (hF.ev rfl) rfl) ?_; clear hF; intro a hF
    refine wpList_nil ?_
    cases hc105 : (ltB p104.2 (x0.length : Int))
    · replace hM103 := bif_f hc105 hM103
      refine cond_f hF rfl hc105 ?_
      refine wp_exit ?_
      repeat with_reducible (first | refine then_exit ?_ | refine in_hit ?_ | refine in_miss rfl ?_)
      obtain rfl := Option.some.inj hM103
      exact ⟨p104.1, rfl, hF.keep _ ⟨rfl, rfl, trivial⟩, S.sel [] rfl rfl⟩
    · replace hM103 := bif_t hc105 hM103
      refine cond_t hF rfl hc105 ?_
      refine wp_skip ?_
      refine wp_seq ?_
      refine wp_block ?_
      refine wp_seq ?_
      refine wp_seq ?_
      refine wp_region_lit ?_
      refine op_val (v := .slice A0 x0.length c0) rfl rfl hF rfl (run_move rfl (hF.ev rfl)) ?_; clear hF; intro a hF
      refine op_val (v := .int .i64 p104.2) rfl rfl hF rfl (run_move rfl (hF.ev rfl)) ?_; clear hF; intro a hF
      obtain ⟨hk106, hM103⟩ := chk_ex hM103
      replace hk106 := ixB_t hk106
      refine op_val (v := .pointer (some ⟨adB A0, adO A0 + p104.2.toNat * 1, none⟩)) rfl rfl hF rfl (run_indexAddr (b := adB A0) (off := adO A0) rfl Try.underlying22 sz3 ((hF.ev rfl).trans (congrArg (fun A => Value.slice A x0.length c0) ((S.rc0 h0.rc).rd.ad (ix_pos hk106)))) (hF.ev rfl) hk106.1 hk106.2 (k' := adO A0 + p104.2.toNat * 1) rfl) ?_; clear hF; intro a hF
      refine op_val (v := .int .i64 (x0.getD p104.2.toNat (0 : Int))) rfl rfl hF rfl (run_load1 rfl one3 (hF.ev rfl) (rd_el0 (l := x0) (S.rc0 h0.rc).rd rfl eI_len (0 : Int) (ix_ltn hk106 rfl) rfl)) ?_; clear hF; intro a hF
      refine op_val (v := .int .i64 p104.1) rfl rfl hF rfl (run_move rfl (hF.ev rfl)) ?_; clear hF; intro a hF
      refine op_val (v := .bool ((x0.getD p104.2.toNat (0 : Int)) != p104.1)) rfl rfl hF rfl (run_neq (hF.ev rfl) (hF.ev rfl) rfl) ?_; clear hF; intro a hF
      refine wpList_nil ?_
      cases hc107 : ((x0.getD p104.2.toNat (0 : Int)) != p104.1)
      · replace hM103 := bif_f hc107 hM103
        refine cond_f hF rfl hc107 ?_
        refine wp_skip ?_
        refine wp_region_lit ?_
        refine op_val (v := .int .i64 p104.1) rfl rfl hF rfl (run_move rfl (hF.ev rfl)) ?_; clear hF; intro a hF
        refine op_val (v := .int .i64 (w64 (p104.1 + 1))) rfl rfl hF rfl (run_add (z := w64 (p104.1 + 1)) (hF.ev rfl) rfl rfl rfl) ?_; clear hF; intro a hF
        refine op_val (v := .int .i64 (w64 (p104.1 + 1))) rfl rfl hF rfl (run_assign rfl (hF.ev rfl)) ?_; clear hF; intro a hF
        refine wpList_nil ?_
        refine wp_region_lit ?_
        refine op_val (v := .int .i64 p104.2) rfl rfl hF rfl (run_move rfl (hF.ev rfl)) ?_; clear hF; intro a hF
        refine op_val (v := .int .i64 (w64 (p104.2 + 1))) rfl rfl hF rfl (run_add (z := w64 (p104.2 + 1)) (hF.ev rfl) rfl rfl rfl) ?_; clear hF; intro a hF
        refine op_val (v := .int .i64 (w64 (p104.2 + 1))) rfl rfl hF rfl (run_assign rfl (hF.ev rfl)) ?_; clear hF; intro a hF
        refine wpList_nil ?_
        exact ⟨f1, Nat.lt_succ_self _, (w64 (p104.1 + 1), w64 (p104.2 + 1)), hM103, hF.keep _ ⟨rfl, rfl, rfl, rfl, trivial⟩, S.sel [] rfl rfl⟩
      · replace hM103 := bif_t hc107 hM103
        refine cond_t hF rfl hc107 ?_
        refine wp_seq ?_
        refine wp_region_lit ?_
        refine op_val (v := .int .i64 (-1)) rfl rfl hF rfl (run_assign rfl rfl) ?_; clear hF; intro a hF
        refine wpList_nil ?_
        refine wp_ret ?_
        repeat with_reducible (first | refine then_ret ?_ | refine in_ret ?_ | refine in_nrm ?_)
        refine ret1_gw (.inl rfl) hF rfl (res_tmp (hF.ev rfl)) ?_
        obtain rfl := Option.some.inj hM103
        obtain rfl := Option.some.inj hM
        exact ⟨rfl, S.sel [] rfl rfl⟩
  · rintro a u ⟨p101, rfl, hF, S⟩
    replace hM := elim_l hM
    refine wp_seq ?_
    refine wp_region_lit ?_
    refine op_val (v := .int .i64 p101) rfl rfl hF rfl (run_move rfl (hF.ev rfl)) ?_; clear hF; intro a hF
    refine op_val (v := .int .i64 p101) rfl rfl hF rfl (run_assign rfl (hF.ev rfl)) ?_; clear hF; intro a hF
    refine wpList_nil ?_
    refine wp_ret ?_
    repeat with_reducible (first | refine then_ret ?_ | refine in_ret ?_ | refine in_nrm ?_)
    refine ret1_gw (.inl rfl) hF rfl (res_tmp (hF.ev rfl)) ?_
    obtain rfl := Option.some.inj hM
    exact ⟨rfl, S.sel [] rfl rfl⟩

set_option maxHeartbeats 4000000 in
theorem c_laws_heldPoll {x0 : Int} {x1 : List Int} {x2 : Int} {x3 : List Int} {x4 : Int} {x5 : Int} {x6 : Int} {x7 : Int} {x8 : Int} {A1 : Option Addr} {n1 c1 : Nat} {A3 : Option Addr} {n3 c3 : Nat} {w : World} {r : Int} (h1 : Rt w 1 eI A1 n1 c1 x1) (h3 : Rt w 1 eI A3 n3 c3 x3) (hM : m_laws_heldPoll x0 x1 x2 x3 x4 x5 x6 x7 x8 = some r) :
    Calls Try.prog 13 #[.agg #[.int .i64 x0, .slice A1 n1 c1, .int .i64 x2, .slice A3 n3 c3, .int .i64 x4, .int .i64 x5, .int .i64 x6, .int .i64 x7], .int .i64 x8] w (fun e w' => e = .returned (.int .i64 r) ∧ St w w' []) := by
  obtain rfl := h1.len
  obtain rfl := h3.len
  unfold m_laws_heldPoll at hM
  refine calls_gw Try.func13 Try.ntmps13 rfl [(0, .agg #[.int .i64 x0, .slice A1 x1.length c1, .int .i64 x2, .slice A3 x3.length c3, .int .i64 x4, .int .i64 x5, .int .i64 x6, .int .i64 x7]), (1, .int .i64 x8)] ⟨rfl, rfl, trivial⟩ rfl ?_
  intro a hF
  have S := St.nil w
  refine wp_seq ?_
  refine wp_region_lit ?_
  refine op_new (cs := #[.int .i64 x0, .slice A1 x1.length c1, .int .i64 x2, .slice A3 x3.length c3, .int .i64 x4, .int .i64 x5, .int .i64 x6, .int .i64 x7]) rfl rfl hF rfl S (run_box rfl (hF.ev rfl) rfl) ?_; clear hF S; intro a g101 u hF S
  refine op_val (v := .int .i64 0) rfl rfl hF rfl (run_assign rfl rfl) ?_; clear hF; intro a hF
  refine wpList_nil ?_
  refine wp_seq ?_
  refine wp_region_lit ?_
  refine op_val (v := .pointer (some ⟨g101, 1, none⟩)) rfl rfl hF rfl (run_fieldAddr rfl fl28_1 (hF.ev rfl) rfl) ?_; clear hF; intro a hF
  refine op_val (v := .slice A1 x1.length c1) rfl rfl hF rfl (run_load1 rfl one22 (hF.ev rfl) ((S.free 0 rfl).cell rfl)) ?_; clear hF; intro a hF
  refine op_val (v := .int .i64 x8) rfl rfl hF rfl (run_move rfl (hF.ev rfl)) ?_; clear hF; intro a hF
  obtain ⟨p102, h102, hM⟩ := bind_ex hM
  refine op_call rfl rfl hF rfl (run_call (vs := [.slice A1 x1.length c1, .int .i64 x8]) rfl rfl co33 ⟨(hF.ev rfl), (hF.ev rfl), trivial⟩) (c_laws_heldIntS (x0 := x1) (x1 := x8) ⟨(S.rc0 h1.rc), rfl⟩ h102) ?_
  rintro e u ⟨rfl, T⟩
  refine ⟨_, rfl, ?_⟩
  clear hF; intro a hF
  replace S := S.call0 T; clear T
  refine op_val (v := .int .i64 p102) rfl rfl hF rfl (run_assign rfl (hF.ev rfl)) ?_; clear hF; intro a hF
  refine wpList_nil ?_
  refine wp_seq ?_
  refine wp_seq ?_
  refine wp_region_lit ?_
  refine op_val (v := .int .i64 p102) rfl rfl hF rfl (run_move rfl (hF.ev rfl)) ?_; clear hF; intro a hF
  refine op_val (v := .bool (ltB p102 0)) rfl rfl hF rfl (run_lss (hF.ev rfl) rfl rfl) ?_; clear hF; intro a hF
  refine wpList_nil ?_
  cases hc103 : (ltB p102 0)
  · replace hM := bif_f hc103 hM
    refine cond_f hF rfl hc103 ?_
    refine wp_skip ?_
    refine wp_seq ?_
    refine wp_region_lit ?_
    refine op_val (v := .pointer (some ⟨g101, 3, none⟩)) rfl rfl hF rfl (run_fieldAddr rfl fl28_3 (hF.ev rfl) rfl) ?_; clear hF; intro a hF
    refine op_val (v := .slice A3 x3.length c3) rfl rfl hF rfl (run_load1 rfl one22 (hF.ev rfl) ((S.free 0 rfl).cell rfl)) ?_; clear hF; intro a hF
    refine op_val (v := .int .i64 p102) rfl rfl hF rfl (run_move rfl (hF.ev rfl)) ?_; clear hF; intro a hF
    obtain ⟨p104, h104, hM⟩ := bind_ex hM
    refine op_call rfl rfl hF rfl (run_call (vs := [.slice A3 x3.length c3, .int .i64 p102]) rfl rfl co33 ⟨(hF.ev rfl), (hF.ev rfl), trivial⟩) (c_laws_heldIntS (x0 := x3) (x1 := p102) ⟨(S.rc0 h3.rc), rfl⟩ h104) ?_
    rintro e u ⟨rfl, T⟩
    refine ⟨_, rfl, ?_⟩
    clear hF; intro a hF
    replace S := S.call0 T; clear T
    refine op_val (v := .int .i64 p104) rfl rfl hF rfl (run_assign rfl (hF.ev rfl)) ?_; clear hF; intro a hF
    refine wpList_nil ?_
    refine wp_seq ?_
    refine wp_seq ?_
    refine wp_region_lit ?_
    refine op_val (v := .int .i64 p104) rfl rfl hF rfl (run_move rfl (hF.ev rfl)) ?_; clear hF; intro a hF
    refine op_val (v := .bool (ltB p104 0)) rfl rfl hF rfl (run_lss (hF.ev rfl) rfl rfl) ?_; clear hF; intro a hF
    refine wpList_nil ?_
    cases hc105 : (ltB p104 0)
    · replace hM := bif_f hc105 hM
      refine cond_f hF rfl hc105 ?_
      refine wp_skip ?_
      refine wp_seq ?_
      refine wp_region_lit ?_
      refine op_val (v := .int .i64 p104) rfl rfl hF rfl (run_move rfl (hF.ev rfl)) ?_; clear hF; intro a hF
      refine op_val (v := .int .i64 p104) rfl rfl hF rfl (run_assign rfl (hF.ev rfl)) ?_; clear hF; intro a hF
      refine wpList_nil ?_
      refine wp_ret ?_
      repeat with_reducible (first | refine then_ret ?_ | refine in_ret ?_ | refine in_nrm ?_)
      refine ret1_gw (.inl rfl) hF rfl (res_tmp (hF.ev rfl)) ?_
      obtain rfl := Option.some.inj hM
      exact ⟨rfl, S.sel [] rfl rfl⟩
    · replace hM := bif_t hc105 hM
      refine cond_t hF rfl hc105 ?_
      refine wp_seq ?_
      refine wp_region_lit ?_
      refine op_val (v := .int .i64 (-1)) rfl rfl hF rfl (run_assign rfl rfl) ?_; clear hF; intro a hF
      refine wpList_nil ?_
      refine wp_ret ?_
      repeat with_reducible (first | refine then_ret ?_ | refine in_ret ?_ | refine in_nrm ?_)
      refine ret1_gw (.inl rfl) hF rfl (res_tmp (hF.ev rfl)) ?_
      obtain rfl := Option.some.inj hM
      exact ⟨rfl, S.sel [] rfl rfl⟩
  · replace hM := bif_t hc103 hM
    refine cond_t hF rfl hc103 ?_
    refine wp_seq ?_
    refine wp_region_lit ?_
    refine op_val (v := .int .i64 (-1)) rfl rfl hF rfl (run_assign rfl rfl) ?_; clear hF; intro a hF
    refine wpList_nil ?_
    refine wp_ret ?_
    repeat with_reducible (first | refine then_ret ?_ | refine in_ret ?_ | refine in_nrm ?_)
    refine ret1_gw (.inl rfl) hF rfl (res_tmp (hF.ev rfl)) ?_
    obtain rfl := Option.some.inj hM
    exact ⟨rfl, S.sel [] rfl rfl⟩

end Go.Proofs.Ytceghkdjpkegaaa
