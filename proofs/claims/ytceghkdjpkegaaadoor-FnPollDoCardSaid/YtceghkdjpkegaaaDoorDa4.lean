/- Calls return what the models say. -/
import Derived.Test.YtceghkdjpkegaaaDoorDa3
namespace Go.Proofs.YtceghkdjpkegaaaDoor
open Go.ChangeShapes Go.WideShapes Go.ChangeAt Go.RowKit
set_option linter.unusedVariables false
set_option linter.unusedSimpArgs false

set_option maxHeartbeats 4000000 in
theorem c_laws_fresh {x0 : List (Int × Int)} {A0 : Option Addr} {n0 c0 : Nat} {w : World} {r : Int × List Int × Int × List Int × Int × Int × Int × Int × List Int} (h0 : Rt w 2 ePollDeed A0 n0 c0 x0) (hM : m_laws_fresh x0 = some r) :
    Calls Tryd.prog 19 #[.slice A0 n0 c0] w (fun e w' => ∃ (B0 : Option Addr) (N0 D0 : Nat) (B1 : Option Addr) (N1 D1 : Nat) (B2 : Option Addr) (N2 D2 : Nat), e = .returned (.tuple #[.agg #[.int .i64 r.1, .slice B0 N0 D0, .int .i64 r.2.2.1, .slice B1 N1 D1, .int .i64 r.2.2.2.2.1, .int .i64 r.2.2.2.2.2.1, .int .i64 r.2.2.2.2.2.2.1, .int .i64 r.2.2.2.2.2.2.2.1], .slice B2 N2 D2]) ∧ N0 = r.2.1.length ∧ N1 = r.2.2.2.1.length ∧ N2 = r.2.2.2.2.2.2.2.2.length ∧ St w w' [.row 3 1 (.slice B0 N0 D0) N0 (r.2.1.flatMap eI), .row 3 1 (.slice B1 N1 D1) N1 (r.2.2.2.1.flatMap eI), .row 3 1 (.slice B2 N2 D2) N2 (r.2.2.2.2.2.2.2.2.flatMap eI)]) := by
  obtain rfl := h0.len
  unfold m_laws_fresh at hM
  refine calls_gw Tryd.func19 Tryd.ntmps19 rfl [(0, .slice A0 x0.length c0)] ⟨rfl, trivial⟩ rfl ?_
  intro a hF
  have S := St.nil w
  refine wp_seq ?_
  refine wp_region_lit ?_
  refine op_new (cs := #[.int .i64 0, .slice none 0 0, .int .i64 0, .slice none 0 0, .int .i64 0, .int .i64 0, .int .i64 0, .int .i64 0]) rfl rfl hF rfl S (run_allocZ rfl zr25) ?_; clear hF S; intro a g101 u hF S
  refine op_val (v := .slice none 0 0) rfl rfl hF rfl (run_assign rfl rfl) ?_; clear hF; intro a hF
  refine wpList_nil ?_
  refine wp_seq ?_
  refine wp_region_lit ?_
  obtain ⟨p102, h102, hM⟩ := bind_ex hM
  refine op_call rfl rfl hF rfl (run_call (vs := []) rfl rfl co7 trivial) (c_impl_PollNew   h102) ?_
  rintro e u ⟨B103, n104, d105, B106, n107, d108, rfl, rfl, rfl, T⟩
  refine ⟨_, rfl, ?_⟩
  clear hF; intro a hF
  replace S := S.call2 T; clear T
  refine op_new (cs := #[.int .i64 0, .slice none 0 0, .int .i64 0, .slice none 0 0, .int .i64 0, .int .i64 0, .int .i64 0, .int .i64 0]) rfl rfl hF rfl S (run_allocZ rfl zr25) ?_; clear hF S; intro a g109 u hF S
  refine op_do rfl rfl (run_store (cs' := #[.int .i64 p102.1, .slice B103 p102.2.1.length d105, .int .i64 p102.2.2.1, .slice B106 p102.2.2.2.1.length d108, .int .i64 p102.2.2.2.2.1, .int .i64 p102.2.2.2.2.2.1, .int .i64 p102.2.2.2.2.2.2.1, .int .i64 p102.2.2.2.2.2.2.2]) rfl sz25 (hF.ev rfl) (hF.ev rfl) rfl rfl rfl (S.free 0 rfl) rfl rfl) ?_; replace S := S.put 0 rfl (#[.int .i64 p102.1, .slice B103 p102.2.1.length d105, .int .i64 p102.2.2.1, .slice B106 p102.2.2.2.1.length d108, .int .i64 p102.2.2.2.2.1, .int .i64 p102.2.2.2.2.2.1, .int .i64 p102.2.2.2.2.2.2.1, .int .i64 p102.2.2.2.2.2.2.2])
  generalize World.setRow _ _ _ = u at S ⊢
  refine wpList_nil ?_
  refine wp_seq ?_
  refine wp_region_lit ?_
  refine op_newrow (cs := #[]) (size := 1) rfl rfl hF rfl S (run_buildSlice0 rfl Tryd.underlying23 (congrArg Option.isSome sz3)) rfl (Nat.zero_le _) ?_; clear hF S; intro a g110 u hF S
  refine op_val (v := .slice (some ⟨g110, 0, none⟩) 0 0) rfl rfl hF rfl (run_assign rfl (hF.ev rfl)) ?_; clear hF; intro a hF
  refine wpList_nil ?_
  refine wp_seq ?_
  refine wp_seq ?_
  refine wp_region_lit ?_
  refine op_val (v := .int .i64 0) rfl rfl hF rfl (run_assign rfl rfl) ?_; clear hF; intro a hF
  refine wpList_nil ?_
  obtain ⟨o112, hM119, hM⟩ := bind_ex hM
  refine wp_cut (fun a u => ∃ (p111 : List Int × Int × List Int × Int × List Int × Int × Int × Int × Int) (B113 : Option Addr) (d114 : Nat) (B115 : Option Addr) (d116 : Nat) (B117 : Option Addr) (d118 : Nat), p111 = o112 ∧ Fr a 46 [(2, .pointer (some ⟨g101, 0, none⟩)), (3, .slice none 0 0), (4, .pointer (some ⟨g109, 0, none⟩)), (5, .slice B113 p111.1.length d114)] ∧ St w u [.box g109 25 #[.int .i64 p111.2.1, .slice B115 p111.2.2.1.length d116, .int .i64 p111.2.2.2.1, .slice B117 p111.2.2.2.2.1.length d118, .int .i64 p111.2.2.2.2.2.1, .int .i64 p111.2.2.2.2.2.2.1, .int .i64 p111.2.2.2.2.2.2.2.1, .int .i64 p111.2.2.2.2.2.2.2.2], .box g101 25 #[.int .i64 0, .slice none 0 0, .int .i64 0, .slice none 0 0, .int .i64 0, .int .i64 0, .int .i64 0, .int .i64 0], .row 3 1 (.slice B113 p111.1.length d114) p111.1.length (p111.1.flatMap eI), .row 3 1 (.slice B115 p111.2.2.1.length d116) p111.2.2.1.length (p111.2.2.1.flatMap eI), .row 3 1 (.slice B117 p111.2.2.2.2.1.length d118) p111.2.2.2.2.1.length (p111.2.2.2.2.1.flatMap eI)]) ?_ ?_
  · have _ := trivial
    refine wp_block ?_
    refine loop_gw (fun m a u => ∃ (p120 : List Int × Int × Int × List Int × Int × List Int × Int × Int × Int × Int) (B121 : Option Addr) (d122 : Nat) (B123 : Option Addr) (d124 : Nat) (B125 : Option Addr) (d126 : Nat), m_laws_fresh_l1 x0 m p120 = some _ ∧ Fr a 46 [(0, .slice A0 x0.length c0), (2, .pointer (some ⟨g101, 0, none⟩)), (3, .slice none 0 0), (4, .pointer (some ⟨g109, 0, none⟩)), (5, .slice B121 p120.1.length d122), (6, .int .i64 p120.2.1)] ∧ St w u [.box g109 25 #[.int .i64 p120.2.2.1, .slice B123 p120.2.2.2.1.length d124, .int .i64 p120.2.2.2.2.1, .slice B125 p120.2.2.2.2.2.1.length d126, .int .i64 p120.2.2.2.2.2.2.1, .int .i64 p120.2.2.2.2.2.2.2.1, .int .i64 p120.2.2.2.2.2.2.2.2.1, .int .i64 p120.2.2.2.2.2.2.2.2.2], .box g101 25 #[.int .i64 0, .slice none 0 0, .int .i64 0, .slice none 0 0, .int .i64 0, .int .i64 0, .int .i64 0, .int .i64 0], .row 3 1 (.slice B121 p120.1.length d122) p120.1.length (p120.1.flatMap eI), .row 3 1 (.slice B123 p120.2.2.2.1.length d124) p120.2.2.2.1.length (p120.2.2.2.1.flatMap eI), .row 3 1 (.slice B125 p120.2.2.2.2.2.1.length d126) p120.2.2.2.2.2.1.length (p120.2.2.2.2.2.1.flatMap eI)]) FUEL ⟨(([] : List Int), 0, p102.1, p102.2.1, p102.2.2.1, p102.2.2.2.1, p102.2.2.2.2.1, p102.2.2.2.2.2.1, p102.2.2.2.2.2.2.1, p102.2.2.2.2.2.2.2), (some ⟨g110, 0, none⟩), 0, B103, d105, B106, d108, hM119, hF.keep _ ⟨rfl, rfl, rfl, rfl, rfl, rfl, trivial⟩, S.sel [1, 4, 0, 2, 3] rfl rfl⟩ ?_
    clear hF S hM119; rintro m a u ⟨p120, B121, d122, B123, d124, B125, d126, hM119, hF, S⟩
    rcases m with _ | f1
    · exact none_some hM119
    rw [m_laws_fresh_l1.eq_2] at hM119
    refine wp_seq ?_
    refine wp_seq ?_
    refine wp_region_lit ?_
    refine op_val (v := .int .i64 p120.2.1) rfl rfl hF rfl (run_move rfl (hF.ev rfl)) ?_; clear hF; intro a hF
    refine op_val (v := .slice A0 x0.length c0) rfl rfl hF rfl (run_move rfl (hF.ev rfl)) ?_; clear hF; intro a hF
    refine op_val (v := .int .i64 (x0.length : Int)) rfl rfl hF rfl (run_lenL rfl rfl Tryd.underlying38 (hF.ev rfl)) ?_; clear hF; intro a hF
    refine op_val (v := .bool (ltB p120.2.1 (x0.length : Int))) rfl rfl hF rfl (run_lss (hF.ev rfl) (hF.ev rfl) rfl) ?_; clear hF; intro a hF
    refine wpList_nil ?_
    cases hc127 : (ltB p120.2.1 (x0.length : Int))
    · replace hM119 := bif_f hc127 hM119
      refine cond_f hF rfl hc127 ?_
      refine wp_exit ?_
      repeat with_reducible (first | refine then_exit ?_ | refine in_hit ?_ | refine in_miss rfl ?_)
      obtain rfl := Option.some.inj hM119
      exact ⟨(p120.1, p120.2.2.1, p120.2.2.2.1, p120.2.2.2.2.1, p120.2.2.2.2.2.1, p120.2.2.2.2.2.2.1, p120.2.2.2.2.2.2.2.1, p120.2.2.2.2.2.2.2.2.1, p120.2.2.2.2.2.2.2.2.2), B121, d122, B123, d124, B125, d126, rfl, hF.keep _ ⟨rfl, rfl, rfl, rfl, trivial⟩, S.sel [0, 1, 2, 3, 4] rfl rfl⟩
    · replace hM119 := bif_t hc127 hM119
      refine cond_t hF rfl hc127 ?_
      refine wp_skip ?_
      refine wp_seq ?_
      refine wp_block ?_
      refine wp_seq ?_
      obtain ⟨hk128, hM119⟩ := chk_ex hM119
      replace hk128 := ixB_t hk128
      obtain ⟨p129, h129, hM119⟩ := bind_ex hM119
      refine region_gw (D := [18, 19, 20, 21, 22, 23, 17, 24, 25, 7, 8]) (Lr := [.box g109 25 #[.int .i64 p120.2.2.1, .slice B123 p120.2.2.2.1.length d124, .int .i64 p120.2.2.2.2.1, .slice B125 p120.2.2.2.2.2.1.length d126, .int .i64 p120.2.2.2.2.2.2.1, .int .i64 p120.2.2.2.2.2.2.2.1, .int .i64 p120.2.2.2.2.2.2.2.2.1, .int .i64 p120.2.2.2.2.2.2.2.2.2], .box g101 25 #[.int .i64 0, .slice none 0 0, .int .i64 0, .slice none 0 0, .int .i64 0, .int .i64 0, .int .i64 0, .int .i64 0], .row 3 1 (.slice B121 p120.1.length d122) p120.1.length (p120.1.flatMap eI), .row 3 1 (.slice B123 p120.2.2.2.1.length d124) p120.2.2.2.1.length (p120.2.2.2.1.flatMap eI), .row 3 1 (.slice B125 p120.2.2.2.2.2.1.length d126) p120.2.2.2.2.2.1.length (p120.2.2.2.2.2.1.flatMap eI)]) (deps := (fun | 0 => [18] | 1 => [19] | 2 => [20] | 3 => [21] | 4 => [22] | 5 => [23] | 6 => [17, 23] | 7 => [24, 23] | 8 => [25] | 9 => [7] | 10 => [7, 23] | 11 => [8] | _ => [])) (rd := (fun _ => [])) (zr := (fun _ => []))
        (φ := fun i vs => match i, vs with | 0, [v18] => v18 = .agg #[.int .i64 p120.2.2.1, .slice B123 p120.2.2.2.1.length d124, .int .i64 p120.2.2.2.2.1, .slice B125 p120.2.2.2.2.2.1.length d126, .int .i64 p120.2.2.2.2.2.2.1, .int .i64 p120.2.2.2.2.2.2.2.1, .int .i64 p120.2.2.2.2.2.2.2.2.1, .int .i64 p120.2.2.2.2.2.2.2.2.2] | 1, [v19] => v19 = .slice A0 x0.length c0 | 2, [v20] => v20 = .int .i64 p120.2.1 | 3, [v21] => v21 = .pointer (some ⟨adB A0, adO A0 + p120.2.1.toNat * 2, none⟩) | 4, [v22] => v22 = .agg #[.int .i64 ((x0.getD p120.2.1.toNat ((0, 0) : Int × Int)).1), .int .i64 ((x0.getD p120.2.1.toNat ((0, 0) : Int × Int)).2)] | 5, [v23] => v23 = .tuple #[.agg #[.int .i64 p129.1, .slice (slA (vtup (vtup v23 0) 1)) p129.2.1.length (slC (vtup (vtup v23 0) 1)), .int .i64 p129.2.2.1, .slice (slA (vtup (vtup v23 0) 3)) p129.2.2.2.1.length (slC (vtup (vtup v23 0) 3)), .int .i64 p129.2.2.2.2.1, .int .i64 p129.2.2.2.2.2.1, .int .i64 p129.2.2.2.2.2.2.1, .int .i64 p129.2.2.2.2.2.2.2.1], .bool p129.2.2.2.2.2.2.2.2] | 6, [v17, v23] => v17 = .tuple #[.agg #[.int .i64 p129.1, .slice (slA (vtup (vtup v23 0) 1)) p129.2.1.length (slC (vtup (vtup v23 0) 1)), .int .i64 p129.2.2.1, .slice (slA (vtup (vtup v23 0) 3)) p129.2.2.2.1.length (slC (vtup (vtup v23 0) 3)), .int .i64 p129.2.2.2.2.1, .int .i64 p129.2.2.2.2.2.1, .int .i64 p129.2.2.2.2.2.2.1, .int .i64 p129.2.2.2.2.2.2.2.1], .bool p129.2.2.2.2.2.2.2.2] | 7, [v24, v23] => v24 = .agg #[.int .i64 p129.1, .slice (slA (vtup (vtup v23 0) 1)) p129.2.1.length (slC (vtup (vtup v23 0) 1)), .int .i64 p129.2.2.1, .slice (slA (vtup (vtup v23 0) 3)) p129.2.2.2.1.length (slC (vtup (vtup v23 0) 3)), .int .i64 p129.2.2.2.2.1, .int .i64 p129.2.2.2.2.2.1, .int .i64 p129.2.2.2.2.2.2.1, .int .i64 p129.2.2.2.2.2.2.2.1] | 8, [v25] => v25 = .bool p129.2.2.2.2.2.2.2.2 | 9, [v7] => v7 = .pointer (some ⟨ptB v7, 0, none⟩) | 11, [v8] => v8 = .bool p129.2.2.2.2.2.2.2.2 | _, _ => True)
        (C := fun i vs => match i, vs with | 5, [v23] => [.row 3 1 (.slice (slA (vtup (vtup v23 0) 1)) p129.2.1.length (slC (vtup (vtup v23 0) 1))) p129.2.1.length (p129.2.1.flatMap eI), .row 3 1 (.slice (slA (vtup (vtup v23 0) 3)) p129.2.2.2.1.length (slC (vtup (vtup v23 0) 3))) p129.2.2.2.1.length (p129.2.2.2.1.flatMap eI)] | 9, [v7] => [.box (ptB v7) 25 #[.int .i64 0, .slice none 0 0, .int .i64 0, .slice none 0 0, .int .i64 0, .int .i64 0, .int .i64 0, .int .i64 0]] | 10, [v7, v23] => [.box (ptB v7) 25 #[.int .i64 p129.1, .slice (slA (vtup (vtup v23 0) 1)) p129.2.1.length (slC (vtup (vtup v23 0) 1)), .int .i64 p129.2.2.1, .slice (slA (vtup (vtup v23 0) 3)) p129.2.2.2.1.length (slC (vtup (vtup v23 0) 3)), .int .i64 p129.2.2.2.2.1, .int .i64 p129.2.2.2.2.2.1, .int .i64 p129.2.2.2.2.2.2.1, .int .i64 p129.2.2.2.2.2.2.2.1]] | _, _ => [])
        (κ := (fun | 9 => some 10 | _ => none)) (Z := (fun _ => [])) mixed hF (by kernel_rfl) S ?_ ?_
      · refine ⟨?_, ?_, ?_, ?_, ?_, ?_, ?_, ?_, ?_, ?_, ?_, ?_, trivial⟩
        · intro a u X hB hu hp hr hz hl S
          replace S : St w u ([] ++ X) := S
          exact .inl ⟨rfl, .agg #[.int .i64 p120.2.2.1, .slice B123 p120.2.2.2.1.length d124, .int .i64 p120.2.2.2.2.1, .slice B125 p120.2.2.2.2.2.1.length d126, .int .i64 p120.2.2.2.2.2.2.1, .int .i64 p120.2.2.2.2.2.2.2.1, .int .i64 p120.2.2.2.2.2.2.2.2.1, .int .i64 p120.2.2.2.2.2.2.2.2.2], u, (run_loadN rfl ag25 (hF.evB hB rfl rfl) rfl ((gr_box S hl 0 rfl).cells 0 #[.int .i64 p120.2.2.1, .slice B123 p120.2.2.2.1.length d124, .int .i64 p120.2.2.2.2.1, .slice B125 p120.2.2.2.2.2.1.length d126, .int .i64 p120.2.2.2.2.2.2.1, .int .i64 p120.2.2.2.2.2.2.2.1, .int .i64 p120.2.2.2.2.2.2.2.2.1, .int .i64 p120.2.2.2.2.2.2.2.2.2] rfl)), rfl, S⟩
        · intro a u X hB hu hp hr hz hl S
          replace S : St w u ([] ++ X) := S
          exact .inl ⟨rfl, .slice A0 x0.length c0, u, (run_move rfl (hF.evB hB rfl rfl)), rfl, S⟩
        · intro a u X hB hu hp hr hz hl S
          replace S : St w u ([] ++ X) := S
          exact .inl ⟨rfl, .int .i64 p120.2.1, u, (run_move rfl (hF.evB hB rfl rfl)), rfl, S⟩
        · intro a u X hB hu hp hr hz hl S
          replace S : St w u ([] ++ X) := S
          have e19 : sl a 19 = .slice A0 x0.length c0 := hp 1 rfl
          have e20 : sl a 20 = .int .i64 p120.2.1 := hp 2 rfl
          exact .inl ⟨rfl, .pointer (some ⟨adB A0, adO A0 + p120.2.1.toNat * 2, none⟩), u, (run_indexAddr (b := adB A0) (off := adO A0) rfl Tryd.underlying38 sz31 ((ev_sl e19).trans (congrArg (fun A => Value.slice A x0.length c0) ((S.rc0 h0.rc).rd.ad (ix_pos hk128)))) (ev_sl e20) hk128.1 hk128.2 (k' := adO A0 + p120.2.1.toNat * 2) rfl), rfl, S⟩
        · intro a u X hB hu hp hr hz hl S
          replace S : St w u ([] ++ X) := S
          have e21 : sl a 21 = .pointer (some ⟨adB A0, adO A0 + p120.2.1.toNat * 2, none⟩) := hp 3 rfl
          exact .inl ⟨rfl, .agg #[.int .i64 ((x0.getD p120.2.1.toNat ((0, 0) : Int × Int)).1), .int .i64 ((x0.getD p120.2.1.toNat ((0, 0) : Int × Int)).2)], u, (run_loadN (cs := #[.int .i64 ((x0.getD p120.2.1.toNat ((0, 0) : Int × Int)).1), .int .i64 ((x0.getD p120.2.1.toNat ((0, 0) : Int × Int)).2)]) rfl ag31 (ev_sl e21) rfl (rd_elN (l := x0) (S.rc0 h0.rc).rd rfl ePollDeed_len ((0, 0) : Int × Int) (ix_ltn hk128 rfl) rfl)), rfl, S⟩
        · intro a u X hB hu hp hr hz hl S
          replace S : St w u ([] ++ X) := S
          have e18 : sl a 18 = .agg #[.int .i64 p120.2.2.1, .slice B123 p120.2.2.2.1.length d124, .int .i64 p120.2.2.2.2.1, .slice B125 p120.2.2.2.2.2.1.length d126, .int .i64 p120.2.2.2.2.2.2.1, .int .i64 p120.2.2.2.2.2.2.2.1, .int .i64 p120.2.2.2.2.2.2.2.2.1, .int .i64 p120.2.2.2.2.2.2.2.2.2] := hp 0 rfl
          have e22 : sl a 22 = .agg #[.int .i64 ((x0.getD p120.2.1.toNat ((0, 0) : Int × Int)).1), .int .i64 ((x0.getD p120.2.1.toNat ((0, 0) : Int × Int)).2)] := hp 4 rfl
          refine .inr (.inr (.inl ⟨rfl, _, _, (run_call (vs := [.agg #[.int .i64 p120.2.2.1, .slice B123 p120.2.2.2.1.length d124, .int .i64 p120.2.2.2.2.1, .slice B125 p120.2.2.2.2.2.1.length d126, .int .i64 p120.2.2.2.2.2.2.1, .int .i64 p120.2.2.2.2.2.2.2.1, .int .i64 p120.2.2.2.2.2.2.2.2.1, .int .i64 p120.2.2.2.2.2.2.2.2.2], .agg #[.int .i64 ((x0.getD p120.2.1.toNat ((0, 0) : Int × Int)).1), .int .i64 ((x0.getD p120.2.1.toNat ((0, 0) : Int × Int)).2)]]) rfl rfl co10 ⟨(ev_sl e18), (ev_sl e22), trivial⟩), ?_⟩))
          refine Calls.mono (c_impl_PollDo (x0 := p120.2.2.1) (x1 := p120.2.2.2.1) (x2 := p120.2.2.2.2.1) (x3 := p120.2.2.2.2.2.1) (x4 := p120.2.2.2.2.2.2.1) (x5 := p120.2.2.2.2.2.2.2.1) (x6 := p120.2.2.2.2.2.2.2.2.1) (x7 := p120.2.2.2.2.2.2.2.2.2) (x8 := (x0.getD p120.2.1.toNat ((0, 0) : Int × Int)).1) (x9 := (x0.getD p120.2.1.toNat ((0, 0) : Int × Int)).2) ⟨(gr_rc S hl 3 rfl), rfl⟩ ⟨(gr_rc S hl 4 rfl), rfl⟩ h129) ?_
          rintro e w1 ⟨B130, n131, d132, B133, n134, d135, rfl, rfl, rfl, T⟩
          exact ⟨_, rfl, rfl, S.call2 T⟩
        · intro a u X hB hu hp hr hz hl S
          replace S : St w u ([] ++ X) := S
          have e23 : sl a 23 = .tuple #[.agg #[.int .i64 p129.1, .slice (slA (vtup (vtup (sl a 23) 0) 1)) p129.2.1.length (slC (vtup (vtup (sl a 23) 0) 1)), .int .i64 p129.2.2.1, .slice (slA (vtup (vtup (sl a 23) 0) 3)) p129.2.2.2.1.length (slC (vtup (vtup (sl a 23) 0) 3)), .int .i64 p129.2.2.2.2.1, .int .i64 p129.2.2.2.2.2.1, .int .i64 p129.2.2.2.2.2.2.1, .int .i64 p129.2.2.2.2.2.2.2.1], .bool p129.2.2.2.2.2.2.2.2] := hp 5 rfl
          exact .inl ⟨rfl, .tuple #[.agg #[.int .i64 p129.1, .slice (slA (vtup (vtup (sl a 23) 0) 1)) p129.2.1.length (slC (vtup (vtup (sl a 23) 0) 1)), .int .i64 p129.2.2.1, .slice (slA (vtup (vtup (sl a 23) 0) 3)) p129.2.2.2.1.length (slC (vtup (vtup (sl a 23) 0) 3)), .int .i64 p129.2.2.2.2.1, .int .i64 p129.2.2.2.2.2.1, .int .i64 p129.2.2.2.2.2.2.1, .int .i64 p129.2.2.2.2.2.2.2.1], .bool p129.2.2.2.2.2.2.2.2], u, (run_move rfl (ev_sl e23)), rfl, S⟩
        · intro a u X hB hu hp hr hz hl S
          replace S : St w u ([] ++ X) := S
          have e17 : sl a 17 = .tuple #[.agg #[.int .i64 p129.1, .slice (slA (vtup (vtup (sl a 23) 0) 1)) p129.2.1.length (slC (vtup (vtup (sl a 23) 0) 1)), .int .i64 p129.2.2.1, .slice (slA (vtup (vtup (sl a 23) 0) 3)) p129.2.2.2.1.length (slC (vtup (vtup (sl a 23) 0) 3)), .int .i64 p129.2.2.2.2.1, .int .i64 p129.2.2.2.2.2.1, .int .i64 p129.2.2.2.2.2.2.1, .int .i64 p129.2.2.2.2.2.2.2.1], .bool p129.2.2.2.2.2.2.2.2] := hp 6 rfl
          exact .inl ⟨rfl, .agg #[.int .i64 p129.1, .slice (slA (vtup (vtup (sl a 23) 0) 1)) p129.2.1.length (slC (vtup (vtup (sl a 23) 0) 1)), .int .i64 p129.2.2.1, .slice (slA (vtup (vtup (sl a 23) 0) 3)) p129.2.2.2.1.length (slC (vtup (vtup (sl a 23) 0) 3)), .int .i64 p129.2.2.2.2.1, .int .i64 p129.2.2.2.2.2.1, .int .i64 p129.2.2.2.2.2.2.1, .int .i64 p129.2.2.2.2.2.2.2.1], u, (run_extract rfl (ev_sl e17) rfl), rfl, S⟩
        · intro a u X hB hu hp hr hz hl S
          replace S : St w u ([] ++ X) := S
          have e17 : sl a 17 = .tuple #[.agg #[.int .i64 p129.1, .slice (slA (vtup (vtup (sl a 23) 0) 1)) p129.2.1.length (slC (vtup (vtup (sl a 23) 0) 1)), .int .i64 p129.2.2.1, .slice (slA (vtup (vtup (sl a 23) 0) 3)) p129.2.2.2.1.length (slC (vtup (vtup (sl a 23) 0) 3)), .int .i64 p129.2.2.2.2.1, .int .i64 p129.2.2.2.2.2.1, .int .i64 p129.2.2.2.2.2.2.1, .int .i64 p129.2.2.2.2.2.2.2.1], .bool p129.2.2.2.2.2.2.2.2] := hp 6 rfl
          exact .inl ⟨rfl, .bool p129.2.2.2.2.2.2.2.2, u, (run_extract rfl (ev_sl e17) rfl), rfl, S⟩
        · intro a u X hB hu hp hr hz hl S
          replace S : St w u ([] ++ X) := S
          exact .inl ⟨rfl, _, _, (run_allocZ rfl zr25), rfl, S.alloc _ _⟩
        · intro a u X hB hu hp hr hz hl S
          replace S : St w u ([.box (ptB (sl a 7)) 25 #[.int .i64 0, .slice none 0 0, .int .i64 0, .slice none 0 0, .int .i64 0, .int .i64 0, .int .i64 0, .int .i64 0]] ++ X) := S
          have e7 : sl a 7 = .pointer (some ⟨ptB (sl a 7), 0, none⟩) := hp 9 rfl
          have e24 : sl a 24 = .agg #[.int .i64 p129.1, .slice (slA (vtup (vtup (sl a 23) 0) 1)) p129.2.1.length (slC (vtup (vtup (sl a 23) 0) 1)), .int .i64 p129.2.2.1, .slice (slA (vtup (vtup (sl a 23) 0) 3)) p129.2.2.2.1.length (slC (vtup (vtup (sl a 23) 0) 3)), .int .i64 p129.2.2.2.2.1, .int .i64 p129.2.2.2.2.2.1, .int .i64 p129.2.2.2.2.2.2.1, .int .i64 p129.2.2.2.2.2.2.2.1] := hp 7 rfl
          exact .inr (.inl ⟨rfl, _, run_store (cs' := #[.int .i64 p129.1, .slice (slA (vtup (vtup (sl a 23) 0) 1)) p129.2.1.length (slC (vtup (vtup (sl a 23) 0) 1)), .int .i64 p129.2.2.1, .slice (slA (vtup (vtup (sl a 23) 0) 3)) p129.2.2.2.1.length (slC (vtup (vtup (sl a 23) 0) 3)), .int .i64 p129.2.2.2.2.1, .int .i64 p129.2.2.2.2.2.1, .int .i64 p129.2.2.2.2.2.2.1, .int .i64 p129.2.2.2.2.2.2.2.1]) rfl sz25 (ev_sl e7) (ev_sl e24) rfl rfl rfl (S.free 0 rfl) rfl rfl, trivial, S.put 0 rfl (#[.int .i64 p129.1, .slice (slA (vtup (vtup (sl a 23) 0) 1)) p129.2.1.length (slC (vtup (vtup (sl a 23) 0) 1)), .int .i64 p129.2.2.1, .slice (slA (vtup (vtup (sl a 23) 0) 3)) p129.2.2.2.1.length (slC (vtup (vtup (sl a 23) 0) 3)), .int .i64 p129.2.2.2.2.1, .int .i64 p129.2.2.2.2.2.1, .int .i64 p129.2.2.2.2.2.2.1, .int .i64 p129.2.2.2.2.2.2.2.1])⟩)
        · intro a u X hB hu hp hr hz hl S
          replace S : St w u ([] ++ X) := S
          have e25 : sl a 25 = .bool p129.2.2.2.2.2.2.2.2 := hp 8 rfl
          exact .inl ⟨rfl, .bool p129.2.2.2.2.2.2.2.2, u, (run_assign rfl (ev_sl e25)), rfl, S⟩
      · intro a u hB hp S
        obtain ⟨q0, q1, q2, q3, q4, q5, q6, q7, q8, q9, q10, q11, _⟩ := hp
        have e18 : sl a 18 = .agg #[.int .i64 p120.2.2.1, .slice B123 p120.2.2.2.1.length d124, .int .i64 p120.2.2.2.2.1, .slice B125 p120.2.2.2.2.2.1.length d126, .int .i64 p120.2.2.2.2.2.2.1, .int .i64 p120.2.2.2.2.2.2.2.1, .int .i64 p120.2.2.2.2.2.2.2.2.1, .int .i64 p120.2.2.2.2.2.2.2.2.2] := q0
        have e19 : sl a 19 = .slice A0 x0.length c0 := q1
        have e20 : sl a 20 = .int .i64 p120.2.1 := q2
        have e21 : sl a 21 = .pointer (some ⟨adB A0, adO A0 + p120.2.1.toNat * 2, none⟩) := q3
        have e22 : sl a 22 = .agg #[.int .i64 ((x0.getD p120.2.1.toNat ((0, 0) : Int × Int)).1), .int .i64 ((x0.getD p120.2.1.toNat ((0, 0) : Int × Int)).2)] := q4
        have e23 : sl a 23 = .tuple #[.agg #[.int .i64 p129.1, .slice (slA (vtup (vtup (sl a 23) 0) 1)) p129.2.1.length (slC (vtup (vtup (sl a 23) 0) 1)), .int .i64 p129.2.2.1, .slice (slA (vtup (vtup (sl a 23) 0) 3)) p129.2.2.2.1.length (slC (vtup (vtup (sl a 23) 0) 3)), .int .i64 p129.2.2.2.2.1, .int .i64 p129.2.2.2.2.2.1, .int .i64 p129.2.2.2.2.2.2.1, .int .i64 p129.2.2.2.2.2.2.2.1], .bool p129.2.2.2.2.2.2.2.2] := q5
        have e17 : sl a 17 = .tuple #[.agg #[.int .i64 p129.1, .slice (slA (vtup (vtup (sl a 23) 0) 1)) p129.2.1.length (slC (vtup (vtup (sl a 23) 0) 1)), .int .i64 p129.2.2.1, .slice (slA (vtup (vtup (sl a 23) 0) 3)) p129.2.2.2.1.length (slC (vtup (vtup (sl a 23) 0) 3)), .int .i64 p129.2.2.2.2.1, .int .i64 p129.2.2.2.2.2.1, .int .i64 p129.2.2.2.2.2.2.1, .int .i64 p129.2.2.2.2.2.2.2.1], .bool p129.2.2.2.2.2.2.2.2] := q6
        have e24 : sl a 24 = .agg #[.int .i64 p129.1, .slice (slA (vtup (vtup (sl a 23) 0) 1)) p129.2.1.length (slC (vtup (vtup (sl a 23) 0) 1)), .int .i64 p129.2.2.1, .slice (slA (vtup (vtup (sl a 23) 0) 3)) p129.2.2.2.1.length (slC (vtup (vtup (sl a 23) 0) 3)), .int .i64 p129.2.2.2.2.1, .int .i64 p129.2.2.2.2.2.1, .int .i64 p129.2.2.2.2.2.2.1, .int .i64 p129.2.2.2.2.2.2.2.1] := q7
        have e25 : sl a 25 = .bool p129.2.2.2.2.2.2.2.2 := q8
        have e7 : sl a 7 = .pointer (some ⟨ptB (sl a 7), 0, none⟩) := q9
        have e8 : sl a 8 = .bool p129.2.2.2.2.2.2.2.2 := q11
        replace S : St w u [.row 3 1 (.slice (slA (vtup (vtup (sl a 23) 0) 1)) p129.2.1.length (slC (vtup (vtup (sl a 23) 0) 1))) p129.2.1.length (p129.2.1.flatMap eI), .row 3 1 (.slice (slA (vtup (vtup (sl a 23) 0) 3)) p129.2.2.2.1.length (slC (vtup (vtup (sl a 23) 0) 3))) p129.2.2.2.1.length (p129.2.2.2.1.flatMap eI), .box (ptB (sl a 7)) 25 #[.int .i64 p129.1, .slice (slA (vtup (vtup (sl a 23) 0) 1)) p129.2.1.length (slC (vtup (vtup (sl a 23) 0) 1)), .int .i64 p129.2.2.1, .slice (slA (vtup (vtup (sl a 23) 0) 3)) p129.2.2.2.1.length (slC (vtup (vtup (sl a 23) 0) 3)), .int .i64 p129.2.2.2.2.1, .int .i64 p129.2.2.2.2.2.1, .int .i64 p129.2.2.2.2.2.2.1, .int .i64 p129.2.2.2.2.2.2.2.1], .box g109 25 #[.int .i64 p120.2.2.1, .slice B123 p120.2.2.2.1.length d124, .int .i64 p120.2.2.2.2.1, .slice B125 p120.2.2.2.2.2.1.length d126, .int .i64 p120.2.2.2.2.2.2.1, .int .i64 p120.2.2.2.2.2.2.2.1, .int .i64 p120.2.2.2.2.2.2.2.2.1, .int .i64 p120.2.2.2.2.2.2.2.2.2], .box g101 25 #[.int .i64 0, .slice none 0 0, .int .i64 0, .slice none 0 0, .int .i64 0, .int .i64 0, .int .i64 0, .int .i64 0], .row 3 1 (.slice B121 p120.1.length d122) p120.1.length (p120.1.flatMap eI), .row 3 1 (.slice B123 p120.2.2.2.1.length d124) p120.2.2.2.1.length (p120.2.2.2.1.flatMap eI), .row 3 1 (.slice B125 p120.2.2.2.2.2.1.length d126) p120.2.2.2.2.2.1.length (p120.2.2.2.2.2.1.flatMap eI)] := S
        clear q0 q1 q2 q3 q4 q5 q6 q7 q8 q9 q10 q11
        generalize slA (vtup (vtup (sl a 23) 0) 1) = B136 at *
        generalize slC (vtup (vtup (sl a 23) 0) 1) = d137 at *
        generalize slA (vtup (vtup (sl a 23) 0) 3) = B138 at *
        generalize slC (vtup (vtup (sl a 23) 0) 3) = d139 at *
        generalize ptB (sl a 7) = g140 at *
        have hF := hF.region hB [(18, .agg #[.int .i64 p120.2.2.1, .slice B123 p120.2.2.2.1.length d124, .int .i64 p120.2.2.2.2.1, .slice B125 p120.2.2.2.2.2.1.length d126, .int .i64 p120.2.2.2.2.2.2.1, .int .i64 p120.2.2.2.2.2.2.2.1, .int .i64 p120.2.2.2.2.2.2.2.2.1, .int .i64 p120.2.2.2.2.2.2.2.2.2]), (19, .slice A0 x0.length c0), (20, .int .i64 p120.2.1), (21, .pointer (some ⟨adB A0, adO A0 + p120.2.1.toNat * 2, none⟩)), (22, .agg #[.int .i64 ((x0.getD p120.2.1.toNat ((0, 0) : Int × Int)).1), .int .i64 ((x0.getD p120.2.1.toNat ((0, 0) : Int × Int)).2)]), (23, .tuple #[.agg #[.int .i64 p129.1, .slice B136 p129.2.1.length d137, .int .i64 p129.2.2.1, .slice B138 p129.2.2.2.1.length d139, .int .i64 p129.2.2.2.2.1, .int .i64 p129.2.2.2.2.2.1, .int .i64 p129.2.2.2.2.2.2.1, .int .i64 p129.2.2.2.2.2.2.2.1], .bool p129.2.2.2.2.2.2.2.2]), (17, .tuple #[.agg #[.int .i64 p129.1, .slice B136 p129.2.1.length d137, .int .i64 p129.2.2.1, .slice B138 p129.2.2.2.1.length d139, .int .i64 p129.2.2.2.2.1, .int .i64 p129.2.2.2.2.2.1, .int .i64 p129.2.2.2.2.2.2.1, .int .i64 p129.2.2.2.2.2.2.2.1], .bool p129.2.2.2.2.2.2.2.2]), (24, .agg #[.int .i64 p129.1, .slice B136 p129.2.1.length d137, .int .i64 p129.2.2.1, .slice B138 p129.2.2.2.1.length d139, .int .i64 p129.2.2.2.2.1, .int .i64 p129.2.2.2.2.2.1, .int .i64 p129.2.2.2.2.2.2.1, .int .i64 p129.2.2.2.2.2.2.2.1]), (25, .bool p129.2.2.2.2.2.2.2.2), (7, .pointer (some ⟨g140, 0, none⟩)), (8, .bool p129.2.2.2.2.2.2.2.2)] (allSl_mem ⟨e18, e19, e20, e21, e22, e23, e17, e24, e25, e7, e8, trivial⟩) rfl
        clear hB e18 e19 e20 e21 e22 e23 e17 e24 e25 e7 e8
        refine wp_seq ?_
        refine wp_seq ?_
        refine wp_region_lit ?_
        refine op_val (v := .bool p129.2.2.2.2.2.2.2.2) rfl rfl hF rfl (run_move rfl (hF.ev rfl)) ?_; clear hF; intro a hF
        refine op_val (v := .bool p129.2.2.2.2.2.2.2.2) rfl rfl hF rfl (run_move rfl (hF.ev rfl)) ?_; clear hF; intro a hF
        refine op_gv (v := .slice A0 x0.length c0) rfl rfl hF rfl (yt (gw_yield hF rfl rfl rfl)) (fun hg => (run_move rfl (hF.ev rfl))) ?_; clear hF; intro a hF
        refine op_gv (v := .int .i64 p120.2.1) rfl rfl hF rfl (yt (gw_yield hF rfl rfl rfl)) (fun hg => (run_move rfl (hF.ev rfl))) ?_; clear hF; intro a hF
        obtain ⟨hk141, hM119⟩ := chk_ex hM119
        replace hk141 := fun hg => ixB_t (imp_t hk141 hg)
        refine op_gv (v := .pointer (some ⟨adB A0, adO A0 + p120.2.1.toNat * 2, none⟩)) rfl rfl hF rfl (yt (gw_yield hF rfl rfl rfl)) (fun hg => (run_indexAddr (b := adB A0) (off := adO A0) rfl Tryd.underlying38 sz31 (((hF.ev rfl).trans (gv_t hg)).trans (congrArg (fun A => Value.slice A x0.length c0) ((S.rc0 h0.rc).rd.ad (ix_pos (hk141 hg))))) ((hF.ev rfl).trans (gv_t hg)) (hk141 hg).1 (hk141 hg).2 (k' := adO A0 + p120.2.1.toNat * 2) rfl)) ?_; clear hF; intro a hF
        refine op_gv (v := .pointer (some ⟨adB A0, adO A0 + p120.2.1.toNat * 2, none⟩)) rfl rfl hF rfl (yt (gw_yield hF rfl rfl rfl)) (fun hg => (run_fieldAddr rfl fl31_0 ((hF.ev rfl).trans (gv_t hg)) rfl)) ?_; clear hF; intro a hF
        refine op_gv (v := .int .i64 ((x0.getD p120.2.1.toNat ((0, 0) : Int × Int)).1)) rfl rfl hF rfl (yt (gw_yield hF rfl rfl rfl)) (fun hg => (run_load1 rfl one3 ((hF.ev rfl).trans (gv_t hg)) (rd_el0 (l := x0) (S.rc0 h0.rc).rd rfl ePollDeed_len ((0, 0) : Int × Int) (ix_ltn (hk141 hg) rfl) rfl))) ?_; clear hF; intro a hF
        refine op_gv (v := .bool (((x0.getD p120.2.1.toNat ((0, 0) : Int × Int)).1) == 0)) rfl rfl hF rfl (yt (gw_yield hF rfl rfl rfl)) (fun hg => (run_eql ((hF.ev rfl).trans (gv_t hg)) rfl rfl)) ?_; clear hF; intro a hF
        refine op_val (v := .bool (p129.2.2.2.2.2.2.2.2 && (((x0.getD p120.2.1.toNat ((0, 0) : Int × Int)).1) == 0))) rfl rfl hF rfl (run_pick_and rfl (hF.ev rfl) (fun hp => ((hF.ev rfl).trans (gv_t hp))) rfl) ?_; clear hF; intro a hF
        refine wpList_nil ?_
        obtain ⟨o143, hM146, hM119⟩ := bind_ex hM119
        refine wp_cut (fun a u => ∃ (p142 : List Int) (B144 : Option Addr) (d145 : Nat), p142 = o143 ∧ Fr a 46 [(0, .slice A0 x0.length c0), (2, .pointer (some ⟨g101, 0, none⟩)), (3, .slice none 0 0), (4, .pointer (some ⟨g109, 0, none⟩)), (5, .slice B144 p142.length d145), (6, .int .i64 p120.2.1), (7, .pointer (some ⟨g140, 0, none⟩))] ∧ St w u [.box g140 25 #[.int .i64 p129.1, .slice B136 p129.2.1.length d137, .int .i64 p129.2.2.1, .slice B138 p129.2.2.2.1.length d139, .int .i64 p129.2.2.2.2.1, .int .i64 p129.2.2.2.2.2.1, .int .i64 p129.2.2.2.2.2.2.1, .int .i64 p129.2.2.2.2.2.2.2.1], .box g109 25 #[.int .i64 p120.2.2.1, .slice B123 p120.2.2.2.1.length d124, .int .i64 p120.2.2.2.2.1, .slice B125 p120.2.2.2.2.2.1.length d126, .int .i64 p120.2.2.2.2.2.2.1, .int .i64 p120.2.2.2.2.2.2.2.1, .int .i64 p120.2.2.2.2.2.2.2.2.1, .int .i64 p120.2.2.2.2.2.2.2.2.2], .box g101 25 #[.int .i64 0, .slice none 0 0, .int .i64 0, .slice none 0 0, .int .i64 0, .int .i64 0, .int .i64 0, .int .i64 0], .row 3 1 (.slice B144 p142.length d145) p142.length (p142.flatMap eI), .row 3 1 (.slice B136 p129.2.1.length d137) p129.2.1.length (p129.2.1.flatMap eI), .row 3 1 (.slice B138 p129.2.2.2.1.length d139) p129.2.2.2.1.length (p129.2.2.2.1.flatMap eI), .row 3 1 (.slice B123 p120.2.2.2.1.length d124) p120.2.2.2.1.length (p120.2.2.2.1.flatMap eI), .row 3 1 (.slice B125 p120.2.2.2.2.2.1.length d126) p120.2.2.2.2.2.1.length (p120.2.2.2.2.2.1.flatMap eI)]) ?_ ?_
        · have _ := trivial
          cases hc147 : (p129.2.2.2.2.2.2.2.2 && (((x0.getD p120.2.1.toNat ((0, 0) : Int × Int)).1) == 0))
          · replace hM146 := bif_f hc147 hM146
            refine cond_f hF rfl hc147 ?_
            refine wp_skip ?_
            obtain rfl := Option.some.inj hM146
            exact ⟨p120.1, B121, d122, rfl, hF.keep _ ⟨rfl, rfl, rfl, rfl, rfl, rfl, rfl, trivial⟩, S.sel [2, 3, 4, 5, 0, 1, 6, 7] rfl rfl⟩
          · replace hM146 := bif_t hc147 hM146
            refine cond_t hF rfl hc147 ?_
            refine wp_region_lit ?_
            refine op_val (v := .slice B121 p120.1.length d122) rfl rfl hF rfl (run_move rfl (hF.ev rfl)) ?_; clear hF; intro a hF
            refine op_val (v := .slice A0 x0.length c0) rfl rfl hF rfl (run_move rfl (hF.ev rfl)) ?_; clear hF; intro a hF
            refine op_val (v := .int .i64 p120.2.1) rfl rfl hF rfl (run_move rfl (hF.ev rfl)) ?_; clear hF; intro a hF
            obtain ⟨hk148, hM146⟩ := chk_ex hM146
            replace hk148 := ixB_t hk148
            refine op_val (v := .pointer (some ⟨adB A0, adO A0 + p120.2.1.toNat * 2, none⟩)) rfl rfl hF rfl (run_indexAddr (b := adB A0) (off := adO A0) rfl Tryd.underlying38 sz31 ((hF.ev rfl).trans (congrArg (fun A => Value.slice A x0.length c0) ((S.rc0 h0.rc).rd.ad (ix_pos hk148)))) (hF.ev rfl) hk148.1 hk148.2 (k' := adO A0 + p120.2.1.toNat * 2) rfl) ?_; clear hF; intro a hF
            refine op_val (v := .pointer (some ⟨adB A0, adO A0 + p120.2.1.toNat * 2 + 1, none⟩)) rfl rfl hF rfl (run_fieldAddr rfl fl31_1 (hF.ev rfl) rfl) ?_; clear hF; intro a hF
            refine op_val (v := .int .i64 ((x0.getD p120.2.1.toNat ((0, 0) : Int × Int)).2)) rfl rfl hF rfl (run_load1 rfl one3 (hF.ev rfl) (rd_el (l := x0) (S.rc0 h0.rc).rd rfl ePollDeed_len ((0, 0) : Int × Int) (ix_ltn hk148 rfl) rfl)) ?_; clear hF; intro a hF
            refine op_newrowL (ls := (([(x0.getD p120.2.1.toNat ((0, 0) : Int × Int)).2] : List Int) : List Int)) (e := eI) rfl rfl hF rfl S (run_buildS (vs := [(0, .int .i64 ((x0.getD p120.2.1.toNat ((0, 0) : Int × Int)).2))]) rfl ⟨⟨rfl, (hF.ev rfl)⟩, trivial⟩ (bs23_1_0 rfl)) rfl eI_len (Nat.le_of_ble_eq_true rfl) ?_; clear hF S; intro a g149 u hF S
            obtain ⟨hk152, hM146⟩ := chk_ex hM146
            replace hk152 := apB_t hk152
            refine op_appendL (lx := p120.1) (ly := ([(x0.getD p120.2.1.toNat ((0, 0) : Int × Int)).2] : List Int)) rfl rfl hF rfl S rfl (hF.ev rfl) (hF.ev rfl) (i := 6) rfl rfl Tryd.underlying23 inf3 rfl (by decide) (S.rc 0 rfl).rd rfl eI_one hk152 (by decide) ?_; clear hF S; intro a B150 d151 u hF S
            refine op_val (v := .slice B150 ((p120.1 ++ ([(x0.getD p120.2.1.toNat ((0, 0) : Int × Int)).2] : List Int)).length) d151) rfl rfl hF rfl (run_assign rfl (hF.ev rfl)) ?_; clear hF; intro a hF
            refine wpList_nil ?_
            obtain rfl := Option.some.inj hM146
            exact ⟨p120.1 ++ ([(x0.getD p120.2.1.toNat ((0, 0) : Int × Int)).2] : List Int), B150, d151, rfl, hF.keep _ ⟨rfl, rfl, rfl, rfl, rfl, rfl, rfl, trivial⟩, S.sel [3, 4, 5, 6, 1, 2, 7, 8] rfl rfl⟩
        · rintro a u ⟨p142, B144, d145, rfl, hF, S⟩
          refine wp_region_lit ?_
          refine op_val (v := .agg #[.int .i64 p129.1, .slice B136 p129.2.1.length d137, .int .i64 p129.2.2.1, .slice B138 p129.2.2.2.1.length d139, .int .i64 p129.2.2.2.2.1, .int .i64 p129.2.2.2.2.2.1, .int .i64 p129.2.2.2.2.2.2.1, .int .i64 p129.2.2.2.2.2.2.2.1]) rfl rfl hF rfl (run_loadN rfl ag25 (hF.ev rfl) rfl ((S.free 0 rfl).cells 0 #[.int .i64 p129.1, .slice B136 p129.2.1.length d137, .int .i64 p129.2.2.1, .slice B138 p129.2.2.2.1.length d139, .int .i64 p129.2.2.2.2.1, .int .i64 p129.2.2.2.2.2.1, .int .i64 p129.2.2.2.2.2.2.1, .int .i64 p129.2.2.2.2.2.2.2.1] rfl)) ?_; clear hF; intro a hF
          refine op_do rfl rfl (run_store (cs' := #[.int .i64 p129.1, .slice B136 p129.2.1.length d137, .int .i64 p129.2.2.1, .slice B138 p129.2.2.2.1.length d139, .int .i64 p129.2.2.2.2.1, .int .i64 p129.2.2.2.2.2.1, .int .i64 p129.2.2.2.2.2.2.1, .int .i64 p129.2.2.2.2.2.2.2.1]) rfl sz25 (hF.ev rfl) (hF.ev rfl) rfl rfl rfl (S.free 1 rfl) rfl rfl) ?_; replace S := S.put 1 rfl (#[.int .i64 p129.1, .slice B136 p129.2.1.length d137, .int .i64 p129.2.2.1, .slice B138 p129.2.2.2.1.length d139, .int .i64 p129.2.2.2.2.1, .int .i64 p129.2.2.2.2.2.1, .int .i64 p129.2.2.2.2.2.2.1, .int .i64 p129.2.2.2.2.2.2.2.1])
          generalize World.setRow _ _ _ = u at S ⊢
          refine wpList_nil ?_
          refine wp_region_lit ?_
          refine op_val (v := .int .i64 p120.2.1) rfl rfl hF rfl (run_move rfl (hF.ev rfl)) ?_; clear hF; intro a hF
          refine op_val (v := .int .i64 (w64 (p120.2.1 + 1))) rfl rfl hF rfl (run_add (z := w64 (p120.2.1 + 1)) (hF.ev rfl) rfl rfl rfl) ?_; clear hF; intro a hF
          refine op_val (v := .int .i64 (w64 (p120.2.1 + 1))) rfl rfl hF rfl (run_assign rfl (hF.ev rfl)) ?_; clear hF; intro a hF
          refine wpList_nil ?_
          exact ⟨f1, Nat.lt_succ_self _, (p142, w64 (p120.2.1 + 1), p129.1, p129.2.1, p129.2.2.1, p129.2.2.2.1, p129.2.2.2.2.1, p129.2.2.2.2.2.1, p129.2.2.2.2.2.2.1, p129.2.2.2.2.2.2.2.1), B144, d145, B136, d137, B138, d139, hM119, hF.keep _ ⟨rfl, rfl, rfl, rfl, rfl, rfl, trivial⟩, S.sel [1, 2, 3, 4, 5] rfl rfl⟩
  · rintro a u ⟨p111, B113, d114, B115, d116, B117, d118, rfl, hF, S⟩
    refine wp_seq ?_
    refine wp_region_lit ?_
    refine op_val (v := .agg #[.int .i64 p111.2.1, .slice B115 p111.2.2.1.length d116, .int .i64 p111.2.2.2.1, .slice B117 p111.2.2.2.2.1.length d118, .int .i64 p111.2.2.2.2.2.1, .int .i64 p111.2.2.2.2.2.2.1, .int .i64 p111.2.2.2.2.2.2.2.1, .int .i64 p111.2.2.2.2.2.2.2.2]) rfl rfl hF rfl (run_loadN rfl ag25 (hF.ev rfl) rfl ((S.free 0 rfl).cells 0 #[.int .i64 p111.2.1, .slice B115 p111.2.2.1.length d116, .int .i64 p111.2.2.2.1, .slice B117 p111.2.2.2.2.1.length d118, .int .i64 p111.2.2.2.2.2.1, .int .i64 p111.2.2.2.2.2.2.1, .int .i64 p111.2.2.2.2.2.2.2.1, .int .i64 p111.2.2.2.2.2.2.2.2] rfl)) ?_; clear hF; intro a hF
    refine op_val (v := .slice B113 p111.1.length d114) rfl rfl hF rfl (run_move rfl (hF.ev rfl)) ?_; clear hF; intro a hF
    refine op_do rfl rfl (run_store (cs' := #[.int .i64 p111.2.1, .slice B115 p111.2.2.1.length d116, .int .i64 p111.2.2.2.1, .slice B117 p111.2.2.2.2.1.length d118, .int .i64 p111.2.2.2.2.2.1, .int .i64 p111.2.2.2.2.2.2.1, .int .i64 p111.2.2.2.2.2.2.2.1, .int .i64 p111.2.2.2.2.2.2.2.2]) rfl sz25 (hF.ev rfl) (hF.ev rfl) rfl rfl rfl (S.free 1 rfl) rfl rfl) ?_; replace S := S.put 1 rfl (#[.int .i64 p111.2.1, .slice B115 p111.2.2.1.length d116, .int .i64 p111.2.2.2.1, .slice B117 p111.2.2.2.2.1.length d118, .int .i64 p111.2.2.2.2.2.1, .int .i64 p111.2.2.2.2.2.2.1, .int .i64 p111.2.2.2.2.2.2.2.1, .int .i64 p111.2.2.2.2.2.2.2.2])
    generalize World.setRow _ _ _ = u at S ⊢
    refine op_val (v := .slice B113 p111.1.length d114) rfl rfl hF rfl (run_assign rfl (hF.ev rfl)) ?_; clear hF; intro a hF
    refine wpList_nil ?_
    refine wp_ret ?_
    repeat with_reducible (first | refine then_ret ?_ | refine in_ret ?_ | refine in_nrm ?_)
    refine ret2_gw (.inl rfl) hF rfl (res_cell (hF.ev rfl) (res_loadN ag25 rfl (S.cells 1 rfl 0 #[.int .i64 p111.2.1, .slice B115 p111.2.2.1.length d116, .int .i64 p111.2.2.2.1, .slice B117 p111.2.2.2.2.1.length d118, .int .i64 p111.2.2.2.2.2.1, .int .i64 p111.2.2.2.2.2.2.1, .int .i64 p111.2.2.2.2.2.2.2.1, .int .i64 p111.2.2.2.2.2.2.2.2] rfl))) (res_tmp (hF.ev rfl)) ?_
    obtain rfl := Option.some.inj hM
    exact ⟨B115, p111.2.2.1.length, d116, B117, p111.2.2.2.2.1.length, d118, B113, p111.1.length, d114, rfl, rfl, rfl, rfl, S.sel [3, 4, 2] rfl rfl⟩

set_option maxHeartbeats 4000000 in
theorem c_laws_FnPollRun {x0 : List Int} {A0 : Option Addr} {n0 c0 : Nat} {w : World} {r : Bool} (h0 : Rt w 1 eU A0 n0 c0 x0) (hM : m_laws_FnPollRun x0 = some r) :
    Calls Tryd.prog 5 #[.slice A0 n0 c0] w (fun e w' => e = .returned (.bool r) ∧ St w w' []) := by
  obtain rfl := h0.len
  unfold m_laws_FnPollRun at hM
  refine calls_gw Tryd.func5 Tryd.ntmps5 rfl [(0, .slice A0 x0.length c0)] ⟨rfl, trivial⟩ rfl ?_
  intro a hF
  have S := St.nil w
  refine wp_seq ?_
  refine wp_region_lit ?_
  refine op_val (v := .bool false) rfl rfl hF rfl (run_assign rfl rfl) ?_; clear hF; intro a hF
  refine wpList_nil ?_
  refine wp_seq ?_
  refine wp_seq ?_
  refine wp_region_lit ?_
  refine op_val (v := .slice A0 x0.length c0) rfl rfl hF rfl (run_move rfl (hF.ev rfl)) ?_; clear hF; intro a hF
  refine op_val (v := .int .i64 (x0.length : Int)) rfl rfl hF rfl (run_lenL rfl rfl Tryd.underlying22 (hF.ev rfl)) ?_; clear hF; intro a hF
  refine op_val (v := .bool (ltB 1048576 (x0.length : Int))) rfl rfl hF rfl (run_gtr (hF.ev rfl) rfl rfl) ?_; clear hF; intro a hF
  refine wpList_nil ?_
  cases hc101 : (ltB 1048576 (x0.length : Int))
  · replace hM := bif_f hc101 hM
    refine cond_f hF rfl hc101 ?_
    refine wp_skip ?_
    refine wp_seq ?_
    refine wp_region_lit ?_
    refine op_val (v := .slice A0 x0.length c0) rfl rfl hF rfl (run_move rfl (hF.ev rfl)) ?_; clear hF; intro a hF
    obtain ⟨p102, h102, hM⟩ := bind_ex hM
    refine op_call rfl rfl hF rfl (run_call (vs := [.slice A0 x0.length c0]) rfl rfl co16 ⟨(hF.ev rfl), trivial⟩) (c_spec_DrawPollRun (x0 := x0) ⟨(S.rc0 h0.rc), rfl⟩ h102) ?_
    rintro e u ⟨B103, n104, d105, B106, n107, d108, B109, n110, d111, rfl, rfl, rfl, rfl, T⟩
    refine ⟨_, rfl, ?_⟩
    clear hF; intro a hF
    replace S := S.call3 T; clear T
    refine op_val (v := .tuple #[.agg #[.int .i64 p102.1, .slice B103 p102.2.1.length d105, .int .i64 p102.2.2.1, .slice B106 p102.2.2.2.1.length d108, .int .i64 p102.2.2.2.2.1, .int .i64 p102.2.2.2.2.2.1, .int .i64 p102.2.2.2.2.2.2.1, .int .i64 p102.2.2.2.2.2.2.2.1], .slice B109 p102.2.2.2.2.2.2.2.2.length d111]) rfl rfl hF rfl (run_move rfl (hF.ev rfl)) ?_; clear hF; intro a hF
    refine op_val (v := .agg #[.int .i64 p102.1, .slice B103 p102.2.1.length d105, .int .i64 p102.2.2.1, .slice B106 p102.2.2.2.1.length d108, .int .i64 p102.2.2.2.2.1, .int .i64 p102.2.2.2.2.2.1, .int .i64 p102.2.2.2.2.2.2.1, .int .i64 p102.2.2.2.2.2.2.2.1]) rfl rfl hF rfl (run_extract rfl (hF.ev rfl) rfl) ?_; clear hF; intro a hF
    refine op_val (v := .slice B109 p102.2.2.2.2.2.2.2.2.length d111) rfl rfl hF rfl (run_extract rfl (hF.ev rfl) rfl) ?_; clear hF; intro a hF
    refine op_new (cs := #[.int .i64 0, .slice none 0 0, .int .i64 0, .slice none 0 0, .int .i64 0, .int .i64 0, .int .i64 0, .int .i64 0]) rfl rfl hF rfl S (run_allocZ rfl zr25) ?_; clear hF S; intro a g112 u hF S
    refine op_do rfl rfl (run_store (cs' := #[.int .i64 p102.1, .slice B103 p102.2.1.length d105, .int .i64 p102.2.2.1, .slice B106 p102.2.2.2.1.length d108, .int .i64 p102.2.2.2.2.1, .int .i64 p102.2.2.2.2.2.1, .int .i64 p102.2.2.2.2.2.2.1, .int .i64 p102.2.2.2.2.2.2.2.1]) rfl sz25 (hF.ev rfl) (hF.ev rfl) rfl rfl rfl (S.free 0 rfl) rfl rfl) ?_; replace S := S.put 0 rfl (#[.int .i64 p102.1, .slice B103 p102.2.1.length d105, .int .i64 p102.2.2.1, .slice B106 p102.2.2.2.1.length d108, .int .i64 p102.2.2.2.2.1, .int .i64 p102.2.2.2.2.2.1, .int .i64 p102.2.2.2.2.2.2.1, .int .i64 p102.2.2.2.2.2.2.2.1])
    generalize World.setRow _ _ _ = u at S ⊢
    refine op_val (v := .slice B109 p102.2.2.2.2.2.2.2.2.length d111) rfl rfl hF rfl (run_assign rfl (hF.ev rfl)) ?_; clear hF; intro a hF
    refine wpList_nil ?_
    refine wp_seq ?_
    refine wp_region_lit ?_
    refine op_val (v := .agg #[.int .i64 p102.1, .slice B103 p102.2.1.length d105, .int .i64 p102.2.2.1, .slice B106 p102.2.2.2.1.length d108, .int .i64 p102.2.2.2.2.1, .int .i64 p102.2.2.2.2.2.1, .int .i64 p102.2.2.2.2.2.2.1, .int .i64 p102.2.2.2.2.2.2.2.1]) rfl rfl hF rfl (run_loadN rfl ag25 (hF.ev rfl) rfl ((S.free 0 rfl).cells 0 #[.int .i64 p102.1, .slice B103 p102.2.1.length d105, .int .i64 p102.2.2.1, .slice B106 p102.2.2.2.1.length d108, .int .i64 p102.2.2.2.2.1, .int .i64 p102.2.2.2.2.2.1, .int .i64 p102.2.2.2.2.2.2.1, .int .i64 p102.2.2.2.2.2.2.2.1] rfl)) ?_; clear hF; intro a hF
    refine op_val (v := .slice B109 p102.2.2.2.2.2.2.2.2.length d111) rfl rfl hF rfl (run_move rfl (hF.ev rfl)) ?_; clear hF; intro a hF
    obtain ⟨p113, h113, hM⟩ := bind_ex hM
    refine op_call rfl rfl hF rfl (run_call (vs := [.agg #[.int .i64 p102.1, .slice B103 p102.2.1.length d105, .int .i64 p102.2.2.1, .slice B106 p102.2.2.2.1.length d108, .int .i64 p102.2.2.2.2.1, .int .i64 p102.2.2.2.2.2.1, .int .i64 p102.2.2.2.2.2.2.1, .int .i64 p102.2.2.2.2.2.2.2.1], .slice B109 p102.2.2.2.2.2.2.2.2.length d111]) rfl rfl co17 ⟨(hF.ev rfl), (hF.ev rfl), trivial⟩) (c_impl_PollRun (x0 := p102.1) (x1 := p102.2.1) (x2 := p102.2.2.1) (x3 := p102.2.2.2.1) (x4 := p102.2.2.2.2.1) (x5 := p102.2.2.2.2.2.1) (x6 := p102.2.2.2.2.2.2.1) (x7 := p102.2.2.2.2.2.2.2.1) (x8 := p102.2.2.2.2.2.2.2.2) ⟨(S.rc 1 rfl), rfl⟩ ⟨(S.rc 2 rfl), rfl⟩ ⟨(S.rc 3 rfl), rfl⟩ h113) ?_
    rintro e u ⟨B114, n115, d116, B117, n118, d119, rfl, rfl, rfl, T⟩
    refine ⟨_, rfl, ?_⟩
    clear hF; intro a hF
    replace S := S.call2 T; clear T
    refine op_val (v := .tuple #[.agg #[.int .i64 p113.1, .slice B114 p113.2.1.length d116, .int .i64 p113.2.2.1, .slice B117 p113.2.2.2.1.length d119, .int .i64 p113.2.2.2.2.1, .int .i64 p113.2.2.2.2.2.1, .int .i64 p113.2.2.2.2.2.2.1, .int .i64 p113.2.2.2.2.2.2.2.1], .int .i64 p113.2.2.2.2.2.2.2.2]) rfl rfl hF rfl (run_move rfl (hF.ev rfl)) ?_; clear hF; intro a hF
    refine op_val (v := .agg #[.int .i64 p113.1, .slice B114 p113.2.1.length d116, .int .i64 p113.2.2.1, .slice B117 p113.2.2.2.1.length d119, .int .i64 p113.2.2.2.2.1, .int .i64 p113.2.2.2.2.2.1, .int .i64 p113.2.2.2.2.2.2.1, .int .i64 p113.2.2.2.2.2.2.2.1]) rfl rfl hF rfl (run_extract rfl (hF.ev rfl) rfl) ?_; clear hF; intro a hF
    refine op_val (v := .int .i64 p113.2.2.2.2.2.2.2.2) rfl rfl hF rfl (run_extract rfl (hF.ev rfl) rfl) ?_; clear hF; intro a hF
    refine op_new (cs := #[.int .i64 0, .slice none 0 0, .int .i64 0, .slice none 0 0, .int .i64 0, .int .i64 0, .int .i64 0, .int .i64 0]) rfl rfl hF rfl S (run_allocZ rfl zr25) ?_; clear hF S; intro a g120 u hF S
    refine op_do rfl rfl (run_store (cs' := #[.int .i64 p113.1, .slice B114 p113.2.1.length d116, .int .i64 p113.2.2.1, .slice B117 p113.2.2.2.1.length d119, .int .i64 p113.2.2.2.2.1, .int .i64 p113.2.2.2.2.2.1, .int .i64 p113.2.2.2.2.2.2.1, .int .i64 p113.2.2.2.2.2.2.2.1]) rfl sz25 (hF.ev rfl) (hF.ev rfl) rfl rfl rfl (S.free 0 rfl) rfl rfl) ?_; replace S := S.put 0 rfl (#[.int .i64 p113.1, .slice B114 p113.2.1.length d116, .int .i64 p113.2.2.1, .slice B117 p113.2.2.2.1.length d119, .int .i64 p113.2.2.2.2.1, .int .i64 p113.2.2.2.2.2.1, .int .i64 p113.2.2.2.2.2.2.1, .int .i64 p113.2.2.2.2.2.2.2.1])
    generalize World.setRow _ _ _ = u at S ⊢
    refine op_val (v := .int .i64 p113.2.2.2.2.2.2.2.2) rfl rfl hF rfl (run_assign rfl (hF.ev rfl)) ?_; clear hF; intro a hF
    refine wpList_nil ?_
    refine wp_seq ?_
    refine wp_region_lit ?_
    refine op_val (v := .agg #[.int .i64 p102.1, .slice B103 p102.2.1.length d105, .int .i64 p102.2.2.1, .slice B106 p102.2.2.2.1.length d108, .int .i64 p102.2.2.2.2.1, .int .i64 p102.2.2.2.2.2.1, .int .i64 p102.2.2.2.2.2.2.1, .int .i64 p102.2.2.2.2.2.2.2.1]) rfl rfl hF rfl (run_loadN rfl ag25 (hF.ev rfl) rfl ((S.free 3 rfl).cells 0 #[.int .i64 p102.1, .slice B103 p102.2.1.length d105, .int .i64 p102.2.2.1, .slice B106 p102.2.2.2.1.length d108, .int .i64 p102.2.2.2.2.1, .int .i64 p102.2.2.2.2.2.1, .int .i64 p102.2.2.2.2.2.2.1, .int .i64 p102.2.2.2.2.2.2.2.1] rfl)) ?_; clear hF; intro a hF
    refine op_val (v := .slice B109 p102.2.2.2.2.2.2.2.2.length d111) rfl rfl hF rfl (run_move rfl (hF.ev rfl)) ?_; clear hF; intro a hF
    obtain ⟨p121, h121, hM⟩ := bind_ex hM
    refine op_call rfl rfl hF rfl (run_call (vs := [.agg #[.int .i64 p102.1, .slice B103 p102.2.1.length d105, .int .i64 p102.2.2.1, .slice B106 p102.2.2.2.1.length d108, .int .i64 p102.2.2.2.2.1, .int .i64 p102.2.2.2.2.2.1, .int .i64 p102.2.2.2.2.2.2.1, .int .i64 p102.2.2.2.2.2.2.2.1], .slice B109 p102.2.2.2.2.2.2.2.2.length d111]) rfl rfl co18 ⟨(hF.ev rfl), (hF.ev rfl), trivial⟩) (c_spec_PollRun (x0 := p102.1) (x1 := p102.2.1) (x2 := p102.2.2.1) (x3 := p102.2.2.2.1) (x4 := p102.2.2.2.2.1) (x5 := p102.2.2.2.2.2.1) (x6 := p102.2.2.2.2.2.2.1) (x7 := p102.2.2.2.2.2.2.2.1) (x8 := p102.2.2.2.2.2.2.2.2) ⟨(S.rc 4 rfl), rfl⟩ ⟨(S.rc 5 rfl), rfl⟩ ⟨(S.rc 6 rfl), rfl⟩ h121) ?_
    rintro e u ⟨B122, n123, d124, B125, n126, d127, rfl, rfl, rfl, T⟩
    refine ⟨_, rfl, ?_⟩
    clear hF; intro a hF
    replace S := S.call2 T; clear T
    refine op_val (v := .tuple #[.agg #[.int .i64 p121.1, .slice B122 p121.2.1.length d124, .int .i64 p121.2.2.1, .slice B125 p121.2.2.2.1.length d127, .int .i64 p121.2.2.2.2.1, .int .i64 p121.2.2.2.2.2.1, .int .i64 p121.2.2.2.2.2.2.1, .int .i64 p121.2.2.2.2.2.2.2.1], .int .i64 p121.2.2.2.2.2.2.2.2]) rfl rfl hF rfl (run_move rfl (hF.ev rfl)) ?_; clear hF; intro a hF
    refine op_val (v := .agg #[.int .i64 p121.1, .slice B122 p121.2.1.length d124, .int .i64 p121.2.2.1, .slice B125 p121.2.2.2.1.length d127, .int .i64 p121.2.2.2.2.1, .int .i64 p121.2.2.2.2.2.1, .int .i64 p121.2.2.2.2.2.2.1, .int .i64 p121.2.2.2.2.2.2.2.1]) rfl rfl hF rfl (run_extract rfl (hF.ev rfl) rfl) ?_; clear hF; intro a hF
    refine op_val (v := .int .i64 p121.2.2.2.2.2.2.2.2) rfl rfl hF rfl (run_extract rfl (hF.ev rfl) rfl) ?_; clear hF; intro a hF
    refine op_new (cs := #[.int .i64 0, .slice none 0 0, .int .i64 0, .slice none 0 0, .int .i64 0, .int .i64 0, .int .i64 0, .int .i64 0]) rfl rfl hF rfl S (run_allocZ rfl zr25) ?_; clear hF S; intro a g128 u hF S
    refine op_do rfl rfl (run_store (cs' := #[.int .i64 p121.1, .slice B122 p121.2.1.length d124, .int .i64 p121.2.2.1, .slice B125 p121.2.2.2.1.length d127, .int .i64 p121.2.2.2.2.1, .int .i64 p121.2.2.2.2.2.1, .int .i64 p121.2.2.2.2.2.2.1, .int .i64 p121.2.2.2.2.2.2.2.1]) rfl sz25 (hF.ev rfl) (hF.ev rfl) rfl rfl rfl (S.free 0 rfl) rfl rfl) ?_; replace S := S.put 0 rfl (#[.int .i64 p121.1, .slice B122 p121.2.1.length d124, .int .i64 p121.2.2.1, .slice B125 p121.2.2.2.1.length d127, .int .i64 p121.2.2.2.2.1, .int .i64 p121.2.2.2.2.2.1, .int .i64 p121.2.2.2.2.2.2.1, .int .i64 p121.2.2.2.2.2.2.2.1])
    generalize World.setRow _ _ _ = u at S ⊢
    refine op_val (v := .int .i64 p121.2.2.2.2.2.2.2.2) rfl rfl hF rfl (run_assign rfl (hF.ev rfl)) ?_; clear hF; intro a hF
    refine wpList_nil ?_
    refine wp_seq ?_
    refine wp_seq ?_
    refine wp_region_lit ?_
    refine op_val (v := .agg #[.int .i64 p113.1, .slice B114 p113.2.1.length d116, .int .i64 p113.2.2.1, .slice B117 p113.2.2.2.1.length d119, .int .i64 p113.2.2.2.2.1, .int .i64 p113.2.2.2.2.2.1, .int .i64 p113.2.2.2.2.2.2.1, .int .i64 p113.2.2.2.2.2.2.2.1]) rfl rfl hF rfl (run_loadN rfl ag25 (hF.ev rfl) rfl ((S.free 3 rfl).cells 0 #[.int .i64 p113.1, .slice B114 p113.2.1.length d116, .int .i64 p113.2.2.1, .slice B117 p113.2.2.2.1.length d119, .int .i64 p113.2.2.2.2.1, .int .i64 p113.2.2.2.2.2.1, .int .i64 p113.2.2.2.2.2.2.1, .int .i64 p113.2.2.2.2.2.2.2.1] rfl)) ?_; clear hF; intro a hF
    refine op_val (v := .agg #[.int .i64 p121.1, .slice B122 p121.2.1.length d124, .int .i64 p121.2.2.1, .slice B125 p121.2.2.2.1.length d127, .int .i64 p121.2.2.2.2.1, .int .i64 p121.2.2.2.2.2.1, .int .i64 p121.2.2.2.2.2.2.1, .int .i64 p121.2.2.2.2.2.2.2.1]) rfl rfl hF rfl (run_loadN rfl ag25 (hF.ev rfl) rfl ((S.free 0 rfl).cells 0 #[.int .i64 p121.1, .slice B122 p121.2.1.length d124, .int .i64 p121.2.2.1, .slice B125 p121.2.2.2.1.length d127, .int .i64 p121.2.2.2.2.1, .int .i64 p121.2.2.2.2.2.1, .int .i64 p121.2.2.2.2.2.2.1, .int .i64 p121.2.2.2.2.2.2.2.1] rfl)) ?_; clear hF; intro a hF
    obtain ⟨p129, h129, hM⟩ := bind_ex hM
    refine op_call rfl rfl hF rfl (run_call (vs := [.agg #[.int .i64 p113.1, .slice B114 p113.2.1.length d116, .int .i64 p113.2.2.1, .slice B117 p113.2.2.2.1.length d119, .int .i64 p113.2.2.2.2.1, .int .i64 p113.2.2.2.2.2.1, .int .i64 p113.2.2.2.2.2.2.1, .int .i64 p113.2.2.2.2.2.2.2.1], .agg #[.int .i64 p121.1, .slice B122 p121.2.1.length d124, .int .i64 p121.2.2.1, .slice B125 p121.2.2.2.1.length d127, .int .i64 p121.2.2.2.2.1, .int .i64 p121.2.2.2.2.2.1, .int .i64 p121.2.2.2.2.2.2.1, .int .i64 p121.2.2.2.2.2.2.2.1]]) rfl rfl co8 ⟨(hF.ev rfl), (hF.ev rfl), trivial⟩) (c_laws_samePoll (x0 := p113.1) (x1 := p113.2.1) (x2 := p113.2.2.1) (x3 := p113.2.2.2.1) (x4 := p113.2.2.2.2.1) (x5 := p113.2.2.2.2.2.1) (x6 := p113.2.2.2.2.2.2.1) (x7 := p113.2.2.2.2.2.2.2.1) (x8 := p121.1) (x9 := p121.2.1) (x10 := p121.2.2.1) (x11 := p121.2.2.2.1) (x12 := p121.2.2.2.2.1) (x13 := p121.2.2.2.2.2.1) (x14 := p121.2.2.2.2.2.2.1) (x15 := p121.2.2.2.2.2.2.2.1) ⟨(S.rc 4 rfl), rfl⟩ ⟨(S.rc 5 rfl), rfl⟩ ⟨(S.rc 1 rfl), rfl⟩ ⟨(S.rc 2 rfl), rfl⟩ h129) ?_
    rintro e u ⟨rfl, T⟩
    refine ⟨_, rfl, ?_⟩
    clear hF; intro a hF
    replace S := S.call0 T; clear T
    refine op_val (v := .bool (!p129)) rfl rfl hF rfl (run_not rfl (hF.ev rfl)) ?_; clear hF; intro a hF
    refine op_val (v := .bool (!p129)) rfl rfl hF rfl (run_move rfl (hF.ev rfl)) ?_; clear hF; intro a hF
    refine op_gv (v := .int .i64 p113.2.2.2.2.2.2.2.2) rfl rfl hF rfl (yf (gw_yield hF rfl rfl rfl)) (fun hg => (run_move rfl (hF.ev rfl))) ?_; clear hF; intro a hF
    refine op_gv (v := .int .i64 p121.2.2.2.2.2.2.2.2) rfl rfl hF rfl (yf (gw_yield hF rfl rfl rfl)) (fun hg => (run_move rfl (hF.ev rfl))) ?_; clear hF; intro a hF
    refine op_gv (v := .bool (p113.2.2.2.2.2.2.2.2 != p121.2.2.2.2.2.2.2.2)) rfl rfl hF rfl (yf (gw_yield hF rfl rfl rfl)) (fun hg => (run_neq ((hF.ev rfl).trans (gv_t hg)) ((hF.ev rfl).trans (gv_t hg)) rfl)) ?_; clear hF; intro a hF
    refine op_val (v := .bool ((!p129) || (p113.2.2.2.2.2.2.2.2 != p121.2.2.2.2.2.2.2.2))) rfl rfl hF rfl (run_pick_or rfl (hF.ev rfl) rfl (fun hp => ((hF.ev rfl).trans (gv_t (not_t hp))))) ?_; clear hF; intro a hF
    refine wpList_nil ?_
    cases hc130 : ((!p129) || (p113.2.2.2.2.2.2.2.2 != p121.2.2.2.2.2.2.2.2))
    · replace hM := bif_f hc130 hM
      refine cond_f hF rfl hc130 ?_
      refine wp_skip ?_
      refine wp_seq ?_
      refine wp_region_lit ?_
      refine op_val (v := .slice B109 p102.2.2.2.2.2.2.2.2.length d111) rfl rfl hF rfl (run_move rfl (hF.ev rfl)) ?_; clear hF; intro a hF
      obtain ⟨p131, h131, hM⟩ := bind_ex hM
      refine op_call rfl rfl hF rfl (run_call (vs := [.slice B109 p102.2.2.2.2.2.2.2.2.length d111]) rfl rfl co19 ⟨(hF.ev rfl), trivial⟩) (c_laws_fresh (x0 := p102.2.2.2.2.2.2.2.2) ⟨(S.rc 9 rfl), rfl⟩ h131) ?_
      rintro e u ⟨B132, n133, d134, B135, n136, d137, B138, n139, d140, rfl, rfl, rfl, rfl, T⟩
      refine ⟨_, rfl, ?_⟩
      clear hF; intro a hF
      replace S := S.call3 T; clear T
      refine op_val (v := .tuple #[.agg #[.int .i64 p131.1, .slice B132 p131.2.1.length d134, .int .i64 p131.2.2.1, .slice B135 p131.2.2.2.1.length d137, .int .i64 p131.2.2.2.2.1, .int .i64 p131.2.2.2.2.2.1, .int .i64 p131.2.2.2.2.2.2.1, .int .i64 p131.2.2.2.2.2.2.2.1], .slice B138 p131.2.2.2.2.2.2.2.2.length d140]) rfl rfl hF rfl (run_move rfl (hF.ev rfl)) ?_; clear hF; intro a hF
      refine op_val (v := .agg #[.int .i64 p131.1, .slice B132 p131.2.1.length d134, .int .i64 p131.2.2.1, .slice B135 p131.2.2.2.1.length d137, .int .i64 p131.2.2.2.2.1, .int .i64 p131.2.2.2.2.2.1, .int .i64 p131.2.2.2.2.2.2.1, .int .i64 p131.2.2.2.2.2.2.2.1]) rfl rfl hF rfl (run_extract rfl (hF.ev rfl) rfl) ?_; clear hF; intro a hF
      refine op_val (v := .slice B138 p131.2.2.2.2.2.2.2.2.length d140) rfl rfl hF rfl (run_extract rfl (hF.ev rfl) rfl) ?_; clear hF; intro a hF
      refine op_new (cs := #[.int .i64 0, .slice none 0 0, .int .i64 0, .slice none 0 0, .int .i64 0, .int .i64 0, .int .i64 0, .int .i64 0]) rfl rfl hF rfl S (run_allocZ rfl zr25) ?_; clear hF S; intro a g141 u hF S
      refine op_do rfl rfl (run_store (cs' := #[.int .i64 p131.1, .slice B132 p131.2.1.length d134, .int .i64 p131.2.2.1, .slice B135 p131.2.2.2.1.length d137, .int .i64 p131.2.2.2.2.1, .int .i64 p131.2.2.2.2.2.1, .int .i64 p131.2.2.2.2.2.2.1, .int .i64 p131.2.2.2.2.2.2.2.1]) rfl sz25 (hF.ev rfl) (hF.ev rfl) rfl rfl rfl (S.free 0 rfl) rfl rfl) ?_; replace S := S.put 0 rfl (#[.int .i64 p131.1, .slice B132 p131.2.1.length d134, .int .i64 p131.2.2.1, .slice B135 p131.2.2.2.1.length d137, .int .i64 p131.2.2.2.2.1, .int .i64 p131.2.2.2.2.2.1, .int .i64 p131.2.2.2.2.2.2.1, .int .i64 p131.2.2.2.2.2.2.2.1])
      generalize World.setRow _ _ _ = u at S ⊢
      refine op_val (v := .slice B138 p131.2.2.2.2.2.2.2.2.length d140) rfl rfl hF rfl (run_assign rfl (hF.ev rfl)) ?_; clear hF; intro a hF
      refine wpList_nil ?_
      refine wp_seq ?_
      refine wp_region_lit ?_
      refine op_val (v := .agg #[.int .i64 p131.1, .slice B132 p131.2.1.length d134, .int .i64 p131.2.2.1, .slice B135 p131.2.2.2.1.length d137, .int .i64 p131.2.2.2.2.1, .int .i64 p131.2.2.2.2.2.1, .int .i64 p131.2.2.2.2.2.2.1, .int .i64 p131.2.2.2.2.2.2.2.1]) rfl rfl hF rfl (run_loadN rfl ag25 (hF.ev rfl) rfl ((S.free 0 rfl).cells 0 #[.int .i64 p131.1, .slice B132 p131.2.1.length d134, .int .i64 p131.2.2.1, .slice B135 p131.2.2.2.1.length d137, .int .i64 p131.2.2.2.2.1, .int .i64 p131.2.2.2.2.2.1, .int .i64 p131.2.2.2.2.2.2.1, .int .i64 p131.2.2.2.2.2.2.2.1] rfl)) ?_; clear hF; intro a hF
      obtain ⟨p142, h142, hM⟩ := bind_ex hM
      refine op_call rfl rfl hF rfl (run_call (vs := [.agg #[.int .i64 p131.1, .slice B132 p131.2.1.length d134, .int .i64 p131.2.2.1, .slice B135 p131.2.2.2.1.length d137, .int .i64 p131.2.2.2.2.1, .int .i64 p131.2.2.2.2.2.1, .int .i64 p131.2.2.2.2.2.2.1, .int .i64 p131.2.2.2.2.2.2.2.1]]) rfl rfl co11 ⟨(hF.ev rfl), trivial⟩) (c_impl_PollAll (x0 := p131.1) (x1 := p131.2.1) (x2 := p131.2.2.1) (x3 := p131.2.2.2.1) (x4 := p131.2.2.2.2.1) (x5 := p131.2.2.2.2.2.1) (x6 := p131.2.2.2.2.2.2.1) (x7 := p131.2.2.2.2.2.2.2.1) ⟨(S.rc 1 rfl), rfl⟩ ⟨(S.rc 2 rfl), rfl⟩ h142) ?_
      rintro e u ⟨B143, n144, d145, rfl, rfl, T⟩
      refine ⟨_, rfl, ?_⟩
      clear hF; intro a hF
      replace S := S.call1 T; clear T
      refine op_val (v := .slice B143 p142.length d145) rfl rfl hF rfl (run_assign rfl (hF.ev rfl)) ?_; clear hF; intro a hF
      refine wpList_nil ?_
      refine wp_seq ?_
      obtain ⟨p146, h146, hM⟩ := bind_ex hM
      obtain ⟨hk147, hM⟩ := chk_ex hM
      replace hk147 := fun hg => slB_t (imp_t hk147 hg)
      obtain ⟨p148, h148, hM⟩ := bind_ex hM
      obtain ⟨p149, h149, hM⟩ := bind_ex hM
      refine region_gw (D := [48, 49, 50, 51, 52, 53, 54, 55, 56, 57, 58, 59, 60, 61, 62, 63, 64, 65, 66, 67, 68, 69, 70, 71, 72, 73, 74, 2]) (Lr := [.row 3 1 (.slice B143 p142.length d145) p142.length (p142.flatMap eI), .box g141 25 #[.int .i64 p131.1, .slice B132 p131.2.1.length d134, .int .i64 p131.2.2.1, .slice B135 p131.2.2.2.1.length d137, .int .i64 p131.2.2.2.2.1, .int .i64 p131.2.2.2.2.2.1, .int .i64 p131.2.2.2.2.2.2.1, .int .i64 p131.2.2.2.2.2.2.2.1], .row 3 1 (.slice B132 p131.2.1.length d134) p131.2.1.length (p131.2.1.flatMap eI), .row 3 1 (.slice B135 p131.2.2.2.1.length d137) p131.2.2.2.1.length (p131.2.2.2.1.flatMap eI), .row 3 1 (.slice B138 p131.2.2.2.2.2.2.2.2.length d140) p131.2.2.2.2.2.2.2.2.length (p131.2.2.2.2.2.2.2.2.flatMap eI), .box g128 25 #[.int .i64 p121.1, .slice B122 p121.2.1.length d124, .int .i64 p121.2.2.1, .slice B125 p121.2.2.2.1.length d127, .int .i64 p121.2.2.2.2.1, .int .i64 p121.2.2.2.2.2.1, .int .i64 p121.2.2.2.2.2.2.1, .int .i64 p121.2.2.2.2.2.2.2.1], .row 3 1 (.slice B122 p121.2.1.length d124) p121.2.1.length (p121.2.1.flatMap eI), .row 3 1 (.slice B125 p121.2.2.2.1.length d127) p121.2.2.2.1.length (p121.2.2.2.1.flatMap eI), .box g120 25 #[.int .i64 p113.1, .slice B114 p113.2.1.length d116, .int .i64 p113.2.2.1, .slice B117 p113.2.2.2.1.length d119, .int .i64 p113.2.2.2.2.1, .int .i64 p113.2.2.2.2.2.1, .int .i64 p113.2.2.2.2.2.2.1, .int .i64 p113.2.2.2.2.2.2.2.1], .row 3 1 (.slice B114 p113.2.1.length d116) p113.2.1.length (p113.2.1.flatMap eI), .row 3 1 (.slice B117 p113.2.2.2.1.length d119) p113.2.2.2.1.length (p113.2.2.2.1.flatMap eI), .box g112 25 #[.int .i64 p102.1, .slice B103 p102.2.1.length d105, .int .i64 p102.2.2.1, .slice B106 p102.2.2.2.1.length d108, .int .i64 p102.2.2.2.2.1, .int .i64 p102.2.2.2.2.2.1, .int .i64 p102.2.2.2.2.2.2.1, .int .i64 p102.2.2.2.2.2.2.2.1], .row 3 1 (.slice B103 p102.2.1.length d105) p102.2.1.length (p102.2.1.flatMap eI), .row 3 1 (.slice B106 p102.2.2.2.1.length d108) p102.2.2.2.1.length (p102.2.2.2.1.flatMap eI), .row 31 2 (.slice B109 p102.2.2.2.2.2.2.2.2.length d111) p102.2.2.2.2.2.2.2.2.length (p102.2.2.2.2.2.2.2.2.flatMap ePollDeed)]) (deps := (fun | 0 => [48] | 1 => [49] | 2 => [50] | 3 => [51] | 4 => [52] | 5 => [53] | 6 => [54] | 7 => [55] | 8 => [56] | 9 => [57] | 10 => [58] | 11 => [59] | 12 => [60] | 13 => [61] | 14 => [62] | 15 => [63] | 16 => [64] | 17 => [65] | 18 => [66] | 19 => [67] | 20 => [68] | 21 => [69] | 22 => [70] | 23 => [71] | 24 => [72] | 25 => [73] | 26 => [74] | 27 => [2] | _ => [])) (rd := (fun _ => [])) (zr := (fun _ => []))
        (φ := fun i vs => match i, vs with | 0, [v48] => v48 = .slice B143 p142.length d145 | 1, [v49] => v49 = .slice B138 p131.2.2.2.2.2.2.2.2.length d140 | 2, [v50] => v50 = .bool p146 | 3, [v51] => v51 = .bool p146 | 4, [v52] => v52 = gv p146 (.pointer (some ⟨g141, 1, none⟩)) | 5, [v53] => v53 = gv p146 (.slice B132 p131.2.1.length d134) | 6, [v54] => v54 = gv p146 (.int .i64 (p131.2.1.length : Int)) | 7, [v55] => v55 = gv p146 (.slice B138 p131.2.2.2.2.2.2.2.2.length d140) | 8, [v56] => v56 = gv p146 (.int .i64 (p131.2.2.2.2.2.2.2.2.length : Int)) | 9, [v57] => v57 = gv p146 (.bool (leB (p131.2.1.length : Int) (p131.2.2.2.2.2.2.2.2.length : Int))) | 10, [v58] => v58 = .bool (p146 && (leB (p131.2.1.length : Int) (p131.2.2.2.2.2.2.2.2.length : Int))) | 11, [v59] => v59 = .bool (p146 && (leB (p131.2.1.length : Int) (p131.2.2.2.2.2.2.2.2.length : Int))) | 12, [v60] => v60 = gv (p146 && (leB (p131.2.1.length : Int) (p131.2.2.2.2.2.2.2.2.length : Int))) (.pointer (some ⟨g141, 1, none⟩)) | 13, [v61] => v61 = gv (p146 && (leB (p131.2.1.length : Int) (p131.2.2.2.2.2.2.2.2.length : Int))) (.slice B132 p131.2.1.length d134) | 14, [v62] => v62 = gv (p146 && (leB (p131.2.1.length : Int) (p131.2.2.2.2.2.2.2.2.length : Int))) (.slice B138 p131.2.2.2.2.2.2.2.2.length d140) | 15, [v63] => v63 = gv (p146 && (leB (p131.2.1.length : Int) (p131.2.2.2.2.2.2.2.2.length : Int))) (.pointer (some ⟨g141, 1, none⟩)) | 16, [v64] => v64 = gv (p146 && (leB (p131.2.1.length : Int) (p131.2.2.2.2.2.2.2.2.length : Int))) (.slice B132 p131.2.1.length d134) | 17, [v65] => v65 = gv (p146 && (leB (p131.2.1.length : Int) (p131.2.2.2.2.2.2.2.2.length : Int))) (.int .i64 (p131.2.1.length : Int)) | 18, [v66] => v66 = gv (p146 && (leB (p131.2.1.length : Int) (p131.2.2.2.2.2.2.2.2.length : Int))) (.slice B138 p131.2.2.2.2.2.2.2.2.length d140) | 19, [v67] => v67 = gv (p146 && (leB (p131.2.1.length : Int) (p131.2.2.2.2.2.2.2.2.length : Int))) (.int .i64 (p131.2.2.2.2.2.2.2.2.length : Int)) | 20, [v68] => v68 = gv (p146 && (leB (p131.2.1.length : Int) (p131.2.2.2.2.2.2.2.2.length : Int))) (.int .i64 (min (p131.2.1.length : Int) (p131.2.2.2.2.2.2.2.2.length : Int))) | 21, [v69] => v69 = gv (p146 && (leB (p131.2.1.length : Int) (p131.2.2.2.2.2.2.2.2.length : Int))) (.slice (subA d140 ((0 : Int).toNat) 1 B138) ((subL p131.2.2.2.2.2.2.2.2 0 (min (p131.2.1.length : Int) (p131.2.2.2.2.2.2.2.2.length : Int))).length) (d140 - (0 : Int).toNat)) | 22, [v70] => v70 = gv (p146 && (leB (p131.2.1.length : Int) (p131.2.2.2.2.2.2.2.2.length : Int))) (.bool p148) | 23, [v71] => v71 = .bool ((p146 && (leB (p131.2.1.length : Int) (p131.2.2.2.2.2.2.2.2.length : Int))) && p148) | 24, [v72] => v72 = .bool ((p146 && (leB (p131.2.1.length : Int) (p131.2.2.2.2.2.2.2.2.length : Int))) && p148) | 25, [v73] => v73 = gv ((p146 && (leB (p131.2.1.length : Int) (p131.2.2.2.2.2.2.2.2.length : Int))) && p148) (.bool p149) | 26, [v74] => v74 = .bool (((p146 && (leB (p131.2.1.length : Int) (p131.2.2.2.2.2.2.2.2.length : Int))) && p148) && p149) | 27, [v2] => v2 = .bool (((p146 && (leB (p131.2.1.length : Int) (p131.2.2.2.2.2.2.2.2.length : Int))) && p148) && p149) | _, _ => True)
        (C := fun _ _ => [])
        (κ := (fun _ => none)) (Z := (fun _ => [])) mixed hF (by kernel_rfl) S ?_ ?_
      · refine ⟨?_, ?_, ?_, ?_, ?_, ?_, ?_, ?_, ?_, ?_, ?_, ?_, ?_, ?_, ?_, ?_, ?_, ?_, ?_, ?_, ?_, ?_, ?_, ?_, ?_, ?_, ?_, ?_, trivial⟩
        · intro a u X hB hu hp hr hz hl S
          replace S : St w u ([] ++ X) := S
          exact .inl ⟨rfl, .slice B143 p142.length d145, u, (run_move rfl (hF.evB hB rfl rfl)), rfl, S⟩
        · intro a u X hB hu hp hr hz hl S
          replace S : St w u ([] ++ X) := S
          exact .inl ⟨rfl, .slice B138 p131.2.2.2.2.2.2.2.2.length d140, u, (run_move rfl (hF.evB hB rfl rfl)), rfl, S⟩
        · intro a u X hB hu hp hr hz hl S
          replace S : St w u ([] ++ X) := S
          have e48 : sl a 48 = .slice B143 p142.length d145 := hp 0 rfl
          have e49 : sl a 49 = .slice B138 p131.2.2.2.2.2.2.2.2.length d140 := hp 1 rfl
          refine .inr (.inr (.inl ⟨rfl, _, _, (run_call (vs := [.slice B143 p142.length d145, .slice B138 p131.2.2.2.2.2.2.2.2.length d140]) rfl rfl co20 ⟨(ev_sl e48), (ev_sl e49), trivial⟩), ?_⟩))
          refine Calls.mono (c_laws_sameInts (x0 := p142) (x1 := p131.2.2.2.2.2.2.2.2) ⟨(gr_rc S hl 0 rfl), rfl⟩ ⟨(gr_rc S hl 4 rfl), rfl⟩ h146) ?_
          rintro e w1 ⟨rfl, T⟩
          exact ⟨_, rfl, rfl, S.call0 T⟩
        · intro a u X hB hu hp hr hz hl S
          replace S : St w u ([] ++ X) := S
          have e50 : sl a 50 = .bool p146 := hp 2 rfl
          exact .inl ⟨rfl, .bool p146, u, (run_move rfl (ev_sl e50)), rfl, S⟩
        · intro a u X hB hu hp hr hz hl S
          replace S : St w u ([] ++ X) := S
          have e51 : sl a 51 = .bool p146 := hp 3 rfl
          rcases (Bool.eq_false_or_eq_true (p146)).symm with hg | hg
          · exact .inr (.inr (.inr ⟨gr_eg rfl (yt (gr_yield rfl rfl e51)) hg, (gv_f hg).symm, S⟩))
          · exact .inl ⟨gr_eg rfl (yt (gr_yield rfl rfl e51)) hg, .pointer (some ⟨g141, 1, none⟩), u, (run_fieldAddr rfl fl25_1 (hF.evB hB rfl rfl) rfl), (gv_t hg).symm, S⟩
        · intro a u X hB hu hp hr hz hl S
          replace S : St w u ([] ++ X) := S
          have e51 : sl a 51 = .bool p146 := hp 3 rfl
          have e52 : sl a 52 = gv p146 (.pointer (some ⟨g141, 1, none⟩)) := hp 4 rfl
          rcases (Bool.eq_false_or_eq_true (p146)).symm with hg | hg
          · exact .inr (.inr (.inr ⟨gr_eg rfl (yt (gr_yield rfl rfl e51)) hg, (gv_f hg).symm, S⟩))
          · exact .inl ⟨gr_eg rfl (yt (gr_yield rfl rfl e51)) hg, .slice B132 p131.2.1.length d134, u, (run_load1 rfl one23 ((ev_sl e52).trans (gv_t hg)) ((gr_box S hl 1 rfl).cell rfl)), (gv_t hg).symm, S⟩
        · intro a u X hB hu hp hr hz hl S
          replace S : St w u ([] ++ X) := S
          have e51 : sl a 51 = .bool p146 := hp 3 rfl
          have e53 : sl a 53 = gv p146 (.slice B132 p131.2.1.length d134) := hp 5 rfl
          rcases (Bool.eq_false_or_eq_true (p146)).symm with hg | hg
          · exact .inr (.inr (.inr ⟨gr_eg rfl (yt (gr_yield rfl rfl e51)) hg, (gv_f hg).symm, S⟩))
          · exact .inl ⟨gr_eg rfl (yt (gr_yield rfl rfl e51)) hg, .int .i64 (p131.2.1.length : Int), u, (run_lenL rfl rfl Tryd.underlying23 ((ev_sl e53).trans (gv_t hg))), (gv_t hg).symm, S⟩
        · intro a u X hB hu hp hr hz hl S
          replace S : St w u ([] ++ X) := S
          have e51 : sl a 51 = .bool p146 := hp 3 rfl
          rcases (Bool.eq_false_or_eq_true (p146)).symm with hg | hg
          · exact .inr (.inr (.inr ⟨gr_eg rfl (yt (gr_yield rfl rfl e51)) hg, (gv_f hg).symm, S⟩))
          · exact .inl ⟨gr_eg rfl (yt (gr_yield rfl rfl e51)) hg, .slice B138 p131.2.2.2.2.2.2.2.2.length d140, u, (run_move rfl (hF.evB hB rfl rfl)), (gv_t hg).symm, S⟩
        · intro a u X hB hu hp hr hz hl S
          replace S : St w u ([] ++ X) := S
          have e51 : sl a 51 = .bool p146 := hp 3 rfl
          have e55 : sl a 55 = gv p146 (.slice B138 p131.2.2.2.2.2.2.2.2.length d140) := hp 7 rfl
          rcases (Bool.eq_false_or_eq_true (p146)).symm with hg | hg
          · exact .inr (.inr (.inr ⟨gr_eg rfl (yt (gr_yield rfl rfl e51)) hg, (gv_f hg).symm, S⟩))
          · exact .inl ⟨gr_eg rfl (yt (gr_yield rfl rfl e51)) hg, .int .i64 (p131.2.2.2.2.2.2.2.2.length : Int), u, (run_lenL rfl rfl Tryd.underlying23 ((ev_sl e55).trans (gv_t hg))), (gv_t hg).symm, S⟩
        · intro a u X hB hu hp hr hz hl S
          replace S : St w u ([] ++ X) := S
          have e51 : sl a 51 = .bool p146 := hp 3 rfl
          have e54 : sl a 54 = gv p146 (.int .i64 (p131.2.1.length : Int)) := hp 6 rfl
          have e56 : sl a 56 = gv p146 (.int .i64 (p131.2.2.2.2.2.2.2.2.length : Int)) := hp 8 rfl
          rcases (Bool.eq_false_or_eq_true (p146)).symm with hg | hg
          · exact .inr (.inr (.inr ⟨gr_eg rfl (yt (gr_yield rfl rfl e51)) hg, (gv_f hg).symm, S⟩))
          · exact .inl ⟨gr_eg rfl (yt (gr_yield rfl rfl e51)) hg, .bool (leB (p131.2.1.length : Int) (p131.2.2.2.2.2.2.2.2.length : Int)), u, (run_leq ((ev_sl e54).trans (gv_t hg)) ((ev_sl e56).trans (gv_t hg)) rfl), (gv_t hg).symm, S⟩
        · intro a u X hB hu hp hr hz hl S
          replace S : St w u ([] ++ X) := S
          have e51 : sl a 51 = .bool p146 := hp 3 rfl
          have e57 : sl a 57 = gv p146 (.bool (leB (p131.2.1.length : Int) (p131.2.2.2.2.2.2.2.2.length : Int))) := hp 9 rfl
          exact .inl ⟨rfl, .bool (p146 && (leB (p131.2.1.length : Int) (p131.2.2.2.2.2.2.2.2.length : Int))), u, (run_pick_and rfl (ev_sl e51) (fun hp => ((ev_sl e57).trans (gv_t hp))) (ev_const _ _)), rfl, S⟩
        · intro a u X hB hu hp hr hz hl S
          replace S : St w u ([] ++ X) := S
          have e58 : sl a 58 = .bool (p146 && (leB (p131.2.1.length : Int) (p131.2.2.2.2.2.2.2.2.length : Int))) := hp 10 rfl
          exact .inl ⟨rfl, .bool (p146 && (leB (p131.2.1.length : Int) (p131.2.2.2.2.2.2.2.2.length : Int))), u, (run_move rfl (ev_sl e58)), rfl, S⟩
        · intro a u X hB hu hp hr hz hl S
          replace S : St w u ([] ++ X) := S
          have e59 : sl a 59 = .bool (p146 && (leB (p131.2.1.length : Int) (p131.2.2.2.2.2.2.2.2.length : Int))) := hp 11 rfl
          rcases (Bool.eq_false_or_eq_true (p146 && (leB (p131.2.1.length : Int) (p131.2.2.2.2.2.2.2.2.length : Int)))).symm with hg | hg
          · exact .inr (.inr (.inr ⟨gr_eg rfl (yt (gr_yield rfl rfl e59)) hg, (gv_f hg).symm, S⟩))
          · exact .inl ⟨gr_eg rfl (yt (gr_yield rfl rfl e59)) hg, .pointer (some ⟨g141, 1, none⟩), u, (run_fieldAddr rfl fl25_1 (hF.evB hB rfl rfl) rfl), (gv_t hg).symm, S⟩
        · intro a u X hB hu hp hr hz hl S
          replace S : St w u ([] ++ X) := S
          have e59 : sl a 59 = .bool (p146 && (leB (p131.2.1.length : Int) (p131.2.2.2.2.2.2.2.2.length : Int))) := hp 11 rfl
          have e60 : sl a 60 = gv (p146 && (leB (p131.2.1.length : Int) (p131.2.2.2.2.2.2.2.2.length : Int))) (.pointer (some ⟨g141, 1, none⟩)) := hp 12 rfl
          rcases (Bool.eq_false_or_eq_true (p146 && (leB (p131.2.1.length : Int) (p131.2.2.2.2.2.2.2.2.length : Int)))).symm with hg | hg
          · exact .inr (.inr (.inr ⟨gr_eg rfl (yt (gr_yield rfl rfl e59)) hg, (gv_f hg).symm, S⟩))
          · exact .inl ⟨gr_eg rfl (yt (gr_yield rfl rfl e59)) hg, .slice B132 p131.2.1.length d134, u, (run_load1 rfl one23 ((ev_sl e60).trans (gv_t hg)) ((gr_box S hl 1 rfl).cell rfl)), (gv_t hg).symm, S⟩
        · intro a u X hB hu hp hr hz hl S
          replace S : St w u ([] ++ X) := S
          have e59 : sl a 59 = .bool (p146 && (leB (p131.2.1.length : Int) (p131.2.2.2.2.2.2.2.2.length : Int))) := hp 11 rfl
          rcases (Bool.eq_false_or_eq_true (p146 && (leB (p131.2.1.length : Int) (p131.2.2.2.2.2.2.2.2.length : Int)))).symm with hg | hg
          · exact .inr (.inr (.inr ⟨gr_eg rfl (yt (gr_yield rfl rfl e59)) hg, (gv_f hg).symm, S⟩))
          · exact .inl ⟨gr_eg rfl (yt (gr_yield rfl rfl e59)) hg, .slice B138 p131.2.2.2.2.2.2.2.2.length d140, u, (run_move rfl (hF.evB hB rfl rfl)), (gv_t hg).symm, S⟩
        · intro a u X hB hu hp hr hz hl S
          replace S : St w u ([] ++ X) := S
          have e59 : sl a 59 = .bool (p146 && (leB (p131.2.1.length : Int) (p131.2.2.2.2.2.2.2.2.length : Int))) := hp 11 rfl
          rcases (Bool.eq_false_or_eq_true (p146 && (leB (p131.2.1.length : Int) (p131.2.2.2.2.2.2.2.2.length : Int)))).symm with hg | hg
          · exact .inr (.inr (.inr ⟨gr_eg rfl (yt (gr_yield rfl rfl e59)) hg, (gv_f hg).symm, S⟩))
          · exact .inl ⟨gr_eg rfl (yt (gr_yield rfl rfl e59)) hg, .pointer (some ⟨g141, 1, none⟩), u, (run_fieldAddr rfl fl25_1 (hF.evB hB rfl rfl) rfl), (gv_t hg).symm, S⟩
        · intro a u X hB hu hp hr hz hl S
          replace S : St w u ([] ++ X) := S
          have e59 : sl a 59 = .bool (p146 && (leB (p131.2.1.length : Int) (p131.2.2.2.2.2.2.2.2.length : Int))) := hp 11 rfl
          have e63 : sl a 63 = gv (p146 && (leB (p131.2.1.length : Int) (p131.2.2.2.2.2.2.2.2.length : Int))) (.pointer (some ⟨g141, 1, none⟩)) := hp 15 rfl
          rcases (Bool.eq_false_or_eq_true (p146 && (leB (p131.2.1.length : Int) (p131.2.2.2.2.2.2.2.2.length : Int)))).symm with hg | hg
          · exact .inr (.inr (.inr ⟨gr_eg rfl (yt (gr_yield rfl rfl e59)) hg, (gv_f hg).symm, S⟩))
          · exact .inl ⟨gr_eg rfl (yt (gr_yield rfl rfl e59)) hg, .slice B132 p131.2.1.length d134, u, (run_load1 rfl one23 ((ev_sl e63).trans (gv_t hg)) ((gr_box S hl 1 rfl).cell rfl)), (gv_t hg).symm, S⟩
        · intro a u X hB hu hp hr hz hl S
          replace S : St w u ([] ++ X) := S
          have e59 : sl a 59 = .bool (p146 && (leB (p131.2.1.length : Int) (p131.2.2.2.2.2.2.2.2.length : Int))) := hp 11 rfl
          have e64 : sl a 64 = gv (p146 && (leB (p131.2.1.length : Int) (p131.2.2.2.2.2.2.2.2.length : Int))) (.slice B132 p131.2.1.length d134) := hp 16 rfl
          rcases (Bool.eq_false_or_eq_true (p146 && (leB (p131.2.1.length : Int) (p131.2.2.2.2.2.2.2.2.length : Int)))).symm with hg | hg
          · exact .inr (.inr (.inr ⟨gr_eg rfl (yt (gr_yield rfl rfl e59)) hg, (gv_f hg).symm, S⟩))
          · exact .inl ⟨gr_eg rfl (yt (gr_yield rfl rfl e59)) hg, .int .i64 (p131.2.1.length : Int), u, (run_lenL rfl rfl Tryd.underlying23 ((ev_sl e64).trans (gv_t hg))), (gv_t hg).symm, S⟩
        · intro a u X hB hu hp hr hz hl S
          replace S : St w u ([] ++ X) := S
          have e59 : sl a 59 = .bool (p146 && (leB (p131.2.1.length : Int) (p131.2.2.2.2.2.2.2.2.length : Int))) := hp 11 rfl
          rcases (Bool.eq_false_or_eq_true (p146 && (leB (p131.2.1.length : Int) (p131.2.2.2.2.2.2.2.2.length : Int)))).symm with hg | hg
          · exact .inr (.inr (.inr ⟨gr_eg rfl (yt (gr_yield rfl rfl e59)) hg, (gv_f hg).symm, S⟩))
          · exact .inl ⟨gr_eg rfl (yt (gr_yield rfl rfl e59)) hg, .slice B138 p131.2.2.2.2.2.2.2.2.length d140, u, (run_move rfl (hF.evB hB rfl rfl)), (gv_t hg).symm, S⟩
        · intro a u X hB hu hp hr hz hl S
          replace S : St w u ([] ++ X) := S
          have e59 : sl a 59 = .bool (p146 && (leB (p131.2.1.length : Int) (p131.2.2.2.2.2.2.2.2.length : Int))) := hp 11 rfl
          have e66 : sl a 66 = gv (p146 && (leB (p131.2.1.length : Int) (p131.2.2.2.2.2.2.2.2.length : Int))) (.slice B138 p131.2.2.2.2.2.2.2.2.length d140) := hp 18 rfl
          rcases (Bool.eq_false_or_eq_true (p146 && (leB (p131.2.1.length : Int) (p131.2.2.2.2.2.2.2.2.length : Int)))).symm with hg | hg
          · exact .inr (.inr (.inr ⟨gr_eg rfl (yt (gr_yield rfl rfl e59)) hg, (gv_f hg).symm, S⟩))
          · exact .inl ⟨gr_eg rfl (yt (gr_yield rfl rfl e59)) hg, .int .i64 (p131.2.2.2.2.2.2.2.2.length : Int), u, (run_lenL rfl rfl Tryd.underlying23 ((ev_sl e66).trans (gv_t hg))), (gv_t hg).symm, S⟩
        · intro a u X hB hu hp hr hz hl S
          replace S : St w u ([] ++ X) := S
          have e59 : sl a 59 = .bool (p146 && (leB (p131.2.1.length : Int) (p131.2.2.2.2.2.2.2.2.length : Int))) := hp 11 rfl
          have e65 : sl a 65 = gv (p146 && (leB (p131.2.1.length : Int) (p131.2.2.2.2.2.2.2.2.length : Int))) (.int .i64 (p131.2.1.length : Int)) := hp 17 rfl
          have e67 : sl a 67 = gv (p146 && (leB (p131.2.1.length : Int) (p131.2.2.2.2.2.2.2.2.length : Int))) (.int .i64 (p131.2.2.2.2.2.2.2.2.length : Int)) := hp 19 rfl
          rcases (Bool.eq_false_or_eq_true (p146 && (leB (p131.2.1.length : Int) (p131.2.2.2.2.2.2.2.2.length : Int)))).symm with hg | hg
          · exact .inr (.inr (.inr ⟨gr_eg rfl (yt (gr_yield rfl rfl e59)) hg, (gv_f hg).symm, S⟩))
          · exact .inl ⟨gr_eg rfl (yt (gr_yield rfl rfl e59)) hg, .int .i64 (min (p131.2.1.length : Int) (p131.2.2.2.2.2.2.2.2.length : Int)), u, (run_min rfl ((ev_sl e65).trans (gv_t hg)) ((ev_sl e67).trans (gv_t hg))), (gv_t hg).symm, S⟩
        · intro a u X hB hu hp hr hz hl S
          replace S : St w u ([] ++ X) := S
          have e59 : sl a 59 = .bool (p146 && (leB (p131.2.1.length : Int) (p131.2.2.2.2.2.2.2.2.length : Int))) := hp 11 rfl
          have e62 : sl a 62 = gv (p146 && (leB (p131.2.1.length : Int) (p131.2.2.2.2.2.2.2.2.length : Int))) (.slice B138 p131.2.2.2.2.2.2.2.2.length d140) := hp 14 rfl
          have e68 : sl a 68 = gv (p146 && (leB (p131.2.1.length : Int) (p131.2.2.2.2.2.2.2.2.length : Int))) (.int .i64 (min (p131.2.1.length : Int) (p131.2.2.2.2.2.2.2.2.length : Int))) := hp 20 rfl
          rcases (Bool.eq_false_or_eq_true (p146 && (leB (p131.2.1.length : Int) (p131.2.2.2.2.2.2.2.2.length : Int)))).symm with hg | hg
          · exact .inr (.inr (.inr ⟨gr_eg rfl (yt (gr_yield rfl rfl e59)) hg, (gv_f hg).symm, S⟩))
          · exact .inl ⟨gr_eg rfl (yt (gr_yield rfl rfl e59)) hg, .slice (subA d140 ((0 : Int).toNat) 1 B138) ((subL p131.2.2.2.2.2.2.2.2 0 (min (p131.2.1.length : Int) (p131.2.2.2.2.2.2.2.2.length : Int))).length) (d140 - (0 : Int).toNat), u, (run_sliceH (l := p131.2.2.2.2.2.2.2.2) rfl Tryd.underlying23 sz3 ((ev_sl e62).trans (gv_t hg)) ((ev_sl e68).trans (gv_t hg)) (hk147 hg) rfl (gr_rc S hl 4 rfl).cap), (gv_t hg).symm, S⟩
        · intro a u X hB hu hp hr hz hl S
          replace S : St w u ([] ++ X) := S
          have e59 : sl a 59 = .bool (p146 && (leB (p131.2.1.length : Int) (p131.2.2.2.2.2.2.2.2.length : Int))) := hp 11 rfl
          have e61 : sl a 61 = gv (p146 && (leB (p131.2.1.length : Int) (p131.2.2.2.2.2.2.2.2.length : Int))) (.slice B132 p131.2.1.length d134) := hp 13 rfl
          have e69 : sl a 69 = gv (p146 && (leB (p131.2.1.length : Int) (p131.2.2.2.2.2.2.2.2.length : Int))) (.slice (subA d140 ((0 : Int).toNat) 1 B138) ((subL p131.2.2.2.2.2.2.2.2 0 (min (p131.2.1.length : Int) (p131.2.2.2.2.2.2.2.2.length : Int))).length) (d140 - (0 : Int).toNat)) := hp 21 rfl
          rcases (Bool.eq_false_or_eq_true (p146 && (leB (p131.2.1.length : Int) (p131.2.2.2.2.2.2.2.2.length : Int)))).symm with hg | hg
          · exact .inr (.inr (.inr ⟨gr_eg rfl (yt (gr_yield rfl rfl e59)) hg, (gv_f hg).symm, S⟩))
          · refine .inr (.inr (.inl ⟨gr_eg rfl (yt (gr_yield rfl rfl e59)) hg, _, _, (run_call (vs := [.slice B132 p131.2.1.length d134, .slice (subA d140 ((0 : Int).toNat) 1 B138) ((subL p131.2.2.2.2.2.2.2.2 0 (min (p131.2.1.length : Int) (p131.2.2.2.2.2.2.2.2.length : Int))).length) (d140 - (0 : Int).toNat)]) rfl rfl co20 ⟨((ev_sl e61).trans (gv_t hg)), ((ev_sl e69).trans (gv_t hg)), trivial⟩), ?_⟩))
            refine Calls.mono (c_laws_sameInts (x0 := p131.2.1) (x1 := subL p131.2.2.2.2.2.2.2.2 0 (min (p131.2.1.length : Int) (p131.2.2.2.2.2.2.2.2.length : Int))) ⟨(gr_rc S hl 2 rfl), rfl⟩ ⟨(rc_sub eI_len (hk147 hg) rfl (gr_rc S hl 4 rfl)), rfl⟩ (gb_t h148 hg)) ?_
            rintro e w1 ⟨rfl, T⟩
            exact ⟨_, rfl, (gv_t hg).symm, S.call0 T⟩
        · intro a u X hB hu hp hr hz hl S
          replace S : St w u ([] ++ X) := S
          have e59 : sl a 59 = .bool (p146 && (leB (p131.2.1.length : Int) (p131.2.2.2.2.2.2.2.2.length : Int))) := hp 11 rfl
          have e70 : sl a 70 = gv (p146 && (leB (p131.2.1.length : Int) (p131.2.2.2.2.2.2.2.2.length : Int))) (.bool p148) := hp 22 rfl
          exact .inl ⟨rfl, .bool ((p146 && (leB (p131.2.1.length : Int) (p131.2.2.2.2.2.2.2.2.length : Int))) && p148), u, (run_pick_and rfl (ev_sl e59) (fun hp => ((ev_sl e70).trans (gv_t hp))) (ev_const _ _)), rfl, S⟩
        · intro a u X hB hu hp hr hz hl S
          replace S : St w u ([] ++ X) := S
          have e71 : sl a 71 = .bool ((p146 && (leB (p131.2.1.length : Int) (p131.2.2.2.2.2.2.2.2.length : Int))) && p148) := hp 23 rfl
          exact .inl ⟨rfl, .bool ((p146 && (leB (p131.2.1.length : Int) (p131.2.2.2.2.2.2.2.2.length : Int))) && p148), u, (run_move rfl (ev_sl e71)), rfl, S⟩
        · intro a u X hB hu hp hr hz hl S
          replace S : St w u ([] ++ X) := S
          have e72 : sl a 72 = .bool ((p146 && (leB (p131.2.1.length : Int) (p131.2.2.2.2.2.2.2.2.length : Int))) && p148) := hp 24 rfl
          rcases (Bool.eq_false_or_eq_true ((p146 && (leB (p131.2.1.length : Int) (p131.2.2.2.2.2.2.2.2.length : Int))) && p148)).symm with hg | hg
          · exact .inr (.inr (.inr ⟨gr_eg rfl (yt (gr_yield rfl rfl e72)) hg, (gv_f hg).symm, S⟩))
          · refine .inr (.inr (.inl ⟨gr_eg rfl (yt (gr_yield rfl rfl e72)) hg, _, _, (run_call (vs := []) rfl rfl co12 trivial), ?_⟩))
            refine Calls.mono (c_laws_alive   (gb_t h149 hg)) ?_
            rintro e w1 ⟨rfl, T⟩
            exact ⟨_, rfl, (gv_t hg).symm, S.call0 T⟩
        · intro a u X hB hu hp hr hz hl S
          replace S : St w u ([] ++ X) := S
          have e72 : sl a 72 = .bool ((p146 && (leB (p131.2.1.length : Int) (p131.2.2.2.2.2.2.2.2.length : Int))) && p148) := hp 24 rfl
          have e73 : sl a 73 = gv ((p146 && (leB (p131.2.1.length : Int) (p131.2.2.2.2.2.2.2.2.length : Int))) && p148) (.bool p149) := hp 25 rfl
          exact .inl ⟨rfl, .bool (((p146 && (leB (p131.2.1.length : Int) (p131.2.2.2.2.2.2.2.2.length : Int))) && p148) && p149), u, (run_pick_and rfl (ev_sl e72) (fun hp => ((ev_sl e73).trans (gv_t hp))) (ev_const _ _)), rfl, S⟩
        · intro a u X hB hu hp hr hz hl S
          replace S : St w u ([] ++ X) := S
          have e74 : sl a 74 = .bool (((p146 && (leB (p131.2.1.length : Int) (p131.2.2.2.2.2.2.2.2.length : Int))) && p148) && p149) := hp 26 rfl
          exact .inl ⟨rfl, .bool (((p146 && (leB (p131.2.1.length : Int) (p131.2.2.2.2.2.2.2.2.length : Int))) && p148) && p149), u, (run_assign rfl (ev_sl e74)), rfl, S⟩
      · intro a u hB hp S
        obtain ⟨q0, q1, q2, q3, q4, q5, q6, q7, q8, q9, q10, q11, q12, q13, q14, q15, q16, q17, q18, q19, q20, q21, q22, q23, q24, q25, q26, q27, _⟩ := hp
        have e48 : sl a 48 = .slice B143 p142.length d145 := q0
        have e49 : sl a 49 = .slice B138 p131.2.2.2.2.2.2.2.2.length d140 := q1
        have e50 : sl a 50 = .bool p146 := q2
        have e51 : sl a 51 = .bool p146 := q3
        have e52 : sl a 52 = gv p146 (.pointer (some ⟨g141, 1, none⟩)) := q4
        have e53 : sl a 53 = gv p146 (.slice B132 p131.2.1.length d134) := q5
        have e54 : sl a 54 = gv p146 (.int .i64 (p131.2.1.length : Int)) := q6
        have e55 : sl a 55 = gv p146 (.slice B138 p131.2.2.2.2.2.2.2.2.length d140) := q7
        have e56 : sl a 56 = gv p146 (.int .i64 (p131.2.2.2.2.2.2.2.2.length : Int)) := q8
        have e57 : sl a 57 = gv p146 (.bool (leB (p131.2.1.length : Int) (p131.2.2.2.2.2.2.2.2.length : Int))) := q9
        have e58 : sl a 58 = .bool (p146 && (leB (p131.2.1.length : Int) (p131.2.2.2.2.2.2.2.2.length : Int))) := q10
        have e59 : sl a 59 = .bool (p146 && (leB (p131.2.1.length : Int) (p131.2.2.2.2.2.2.2.2.length : Int))) := q11
        have e60 : sl a 60 = gv (p146 && (leB (p131.2.1.length : Int) (p131.2.2.2.2.2.2.2.2.length : Int))) (.pointer (some ⟨g141, 1, none⟩)) := q12
        have e61 : sl a 61 = gv (p146 && (leB (p131.2.1.length : Int) (p131.2.2.2.2.2.2.2.2.length : Int))) (.slice B132 p131.2.1.length d134) := q13
        have e62 : sl a 62 = gv (p146 && (leB (p131.2.1.length : Int) (p131.2.2.2.2.2.2.2.2.length : Int))) (.slice B138 p131.2.2.2.2.2.2.2.2.length d140) := q14
        have e63 : sl a 63 = gv (p146 && (leB (p131.2.1.length : Int) (p131.2.2.2.2.2.2.2.2.length : Int))) (.pointer (some ⟨g141, 1, none⟩)) := q15
        have e64 : sl a 64 = gv (p146 && (leB (p131.2.1.length : Int) (p131.2.2.2.2.2.2.2.2.length : Int))) (.slice B132 p131.2.1.length d134) := q16
        have e65 : sl a 65 = gv (p146 && (leB (p131.2.1.length : Int) (p131.2.2.2.2.2.2.2.2.length : Int))) (.int .i64 (p131.2.1.length : Int)) := q17
        have e66 : sl a 66 = gv (p146 && (leB (p131.2.1.length : Int) (p131.2.2.2.2.2.2.2.2.length : Int))) (.slice B138 p131.2.2.2.2.2.2.2.2.length d140) := q18
        have e67 : sl a 67 = gv (p146 && (leB (p131.2.1.length : Int) (p131.2.2.2.2.2.2.2.2.length : Int))) (.int .i64 (p131.2.2.2.2.2.2.2.2.length : Int)) := q19
        have e68 : sl a 68 = gv (p146 && (leB (p131.2.1.length : Int) (p131.2.2.2.2.2.2.2.2.length : Int))) (.int .i64 (min (p131.2.1.length : Int) (p131.2.2.2.2.2.2.2.2.length : Int))) := q20
        have e69 : sl a 69 = gv (p146 && (leB (p131.2.1.length : Int) (p131.2.2.2.2.2.2.2.2.length : Int))) (.slice (subA d140 ((0 : Int).toNat) 1 B138) ((subL p131.2.2.2.2.2.2.2.2 0 (min (p131.2.1.length : Int) (p131.2.2.2.2.2.2.2.2.length : Int))).length) (d140 - (0 : Int).toNat)) := q21
        have e70 : sl a 70 = gv (p146 && (leB (p131.2.1.length : Int) (p131.2.2.2.2.2.2.2.2.length : Int))) (.bool p148) := q22
        have e71 : sl a 71 = .bool ((p146 && (leB (p131.2.1.length : Int) (p131.2.2.2.2.2.2.2.2.length : Int))) && p148) := q23
        have e72 : sl a 72 = .bool ((p146 && (leB (p131.2.1.length : Int) (p131.2.2.2.2.2.2.2.2.length : Int))) && p148) := q24
        have e73 : sl a 73 = gv ((p146 && (leB (p131.2.1.length : Int) (p131.2.2.2.2.2.2.2.2.length : Int))) && p148) (.bool p149) := q25
        have e74 : sl a 74 = .bool (((p146 && (leB (p131.2.1.length : Int) (p131.2.2.2.2.2.2.2.2.length : Int))) && p148) && p149) := q26
        have e2 : sl a 2 = .bool (((p146 && (leB (p131.2.1.length : Int) (p131.2.2.2.2.2.2.2.2.length : Int))) && p148) && p149) := q27
        replace S : St w u [.row 3 1 (.slice B143 p142.length d145) p142.length (p142.flatMap eI), .box g141 25 #[.int .i64 p131.1, .slice B132 p131.2.1.length d134, .int .i64 p131.2.2.1, .slice B135 p131.2.2.2.1.length d137, .int .i64 p131.2.2.2.2.1, .int .i64 p131.2.2.2.2.2.1, .int .i64 p131.2.2.2.2.2.2.1, .int .i64 p131.2.2.2.2.2.2.2.1], .row 3 1 (.slice B132 p131.2.1.length d134) p131.2.1.length (p131.2.1.flatMap eI), .row 3 1 (.slice B135 p131.2.2.2.1.length d137) p131.2.2.2.1.length (p131.2.2.2.1.flatMap eI), .row 3 1 (.slice B138 p131.2.2.2.2.2.2.2.2.length d140) p131.2.2.2.2.2.2.2.2.length (p131.2.2.2.2.2.2.2.2.flatMap eI), .box g128 25 #[.int .i64 p121.1, .slice B122 p121.2.1.length d124, .int .i64 p121.2.2.1, .slice B125 p121.2.2.2.1.length d127, .int .i64 p121.2.2.2.2.1, .int .i64 p121.2.2.2.2.2.1, .int .i64 p121.2.2.2.2.2.2.1, .int .i64 p121.2.2.2.2.2.2.2.1], .row 3 1 (.slice B122 p121.2.1.length d124) p121.2.1.length (p121.2.1.flatMap eI), .row 3 1 (.slice B125 p121.2.2.2.1.length d127) p121.2.2.2.1.length (p121.2.2.2.1.flatMap eI), .box g120 25 #[.int .i64 p113.1, .slice B114 p113.2.1.length d116, .int .i64 p113.2.2.1, .slice B117 p113.2.2.2.1.length d119, .int .i64 p113.2.2.2.2.1, .int .i64 p113.2.2.2.2.2.1, .int .i64 p113.2.2.2.2.2.2.1, .int .i64 p113.2.2.2.2.2.2.2.1], .row 3 1 (.slice B114 p113.2.1.length d116) p113.2.1.length (p113.2.1.flatMap eI), .row 3 1 (.slice B117 p113.2.2.2.1.length d119) p113.2.2.2.1.length (p113.2.2.2.1.flatMap eI), .box g112 25 #[.int .i64 p102.1, .slice B103 p102.2.1.length d105, .int .i64 p102.2.2.1, .slice B106 p102.2.2.2.1.length d108, .int .i64 p102.2.2.2.2.1, .int .i64 p102.2.2.2.2.2.1, .int .i64 p102.2.2.2.2.2.2.1, .int .i64 p102.2.2.2.2.2.2.2.1], .row 3 1 (.slice B103 p102.2.1.length d105) p102.2.1.length (p102.2.1.flatMap eI), .row 3 1 (.slice B106 p102.2.2.2.1.length d108) p102.2.2.2.1.length (p102.2.2.2.1.flatMap eI), .row 31 2 (.slice B109 p102.2.2.2.2.2.2.2.2.length d111) p102.2.2.2.2.2.2.2.2.length (p102.2.2.2.2.2.2.2.2.flatMap ePollDeed)] := S
        clear q0 q1 q2 q3 q4 q5 q6 q7 q8 q9 q10 q11 q12 q13 q14 q15 q16 q17 q18 q19 q20 q21 q22 q23 q24 q25 q26 q27
        have hF := hF.region hB [(48, .slice B143 p142.length d145), (49, .slice B138 p131.2.2.2.2.2.2.2.2.length d140), (50, .bool p146), (51, .bool p146), (52, gv p146 (.pointer (some ⟨g141, 1, none⟩))), (53, gv p146 (.slice B132 p131.2.1.length d134)), (54, gv p146 (.int .i64 (p131.2.1.length : Int))), (55, gv p146 (.slice B138 p131.2.2.2.2.2.2.2.2.length d140)), (56, gv p146 (.int .i64 (p131.2.2.2.2.2.2.2.2.length : Int))), (57, gv p146 (.bool (leB (p131.2.1.length : Int) (p131.2.2.2.2.2.2.2.2.length : Int)))), (58, .bool (p146 && (leB (p131.2.1.length : Int) (p131.2.2.2.2.2.2.2.2.length : Int)))), (59, .bool (p146 && (leB (p131.2.1.length : Int) (p131.2.2.2.2.2.2.2.2.length : Int)))), (60, gv (p146 && (leB (p131.2.1.length : Int) (p131.2.2.2.2.2.2.2.2.length : Int))) (.pointer (some ⟨g141, 1, none⟩))), (61, gv (p146 && (leB (p131.2.1.length : Int) (p131.2.2.2.2.2.2.2.2.length : Int))) (.slice B132 p131.2.1.length d134)), (62, gv (p146 && (leB (p131.2.1.length : Int) (p131.2.2.2.2.2.2.2.2.length : Int))) (.slice B138 p131.2.2.2.2.2.2.2.2.length d140)), (63, gv (p146 && (leB (p131.2.1.length : Int) (p131.2.2.2.2.2.2.2.2.length : Int))) (.pointer (some ⟨g141, 1, none⟩))), (64, gv (p146 && (leB (p131.2.1.length : Int) (p131.2.2.2.2.2.2.2.2.length : Int))) (.slice B132 p131.2.1.length d134)), (65, gv (p146 && (leB (p131.2.1.length : Int) (p131.2.2.2.2.2.2.2.2.length : Int))) (.int .i64 (p131.2.1.length : Int))), (66, gv (p146 && (leB (p131.2.1.length : Int) (p131.2.2.2.2.2.2.2.2.length : Int))) (.slice B138 p131.2.2.2.2.2.2.2.2.length d140)), (67, gv (p146 && (leB (p131.2.1.length : Int) (p131.2.2.2.2.2.2.2.2.length : Int))) (.int .i64 (p131.2.2.2.2.2.2.2.2.length : Int))), (68, gv (p146 && (leB (p131.2.1.length : Int) (p131.2.2.2.2.2.2.2.2.length : Int))) (.int .i64 (min (p131.2.1.length : Int) (p131.2.2.2.2.2.2.2.2.length : Int)))), (69, gv (p146 && (leB (p131.2.1.length : Int) (p131.2.2.2.2.2.2.2.2.length : Int))) (.slice (subA d140 ((0 : Int).toNat) 1 B138) ((subL p131.2.2.2.2.2.2.2.2 0 (min (p131.2.1.length : Int) (p131.2.2.2.2.2.2.2.2.length : Int))).length) (d140 - (0 : Int).toNat))), (70, gv (p146 && (leB (p131.2.1.length : Int) (p131.2.2.2.2.2.2.2.2.length : Int))) (.bool p148)), (71, .bool ((p146 && (leB (p131.2.1.length : Int) (p131.2.2.2.2.2.2.2.2.length : Int))) && p148)), (72, .bool ((p146 && (leB (p131.2.1.length : Int) (p131.2.2.2.2.2.2.2.2.length : Int))) && p148)), (73, gv ((p146 && (leB (p131.2.1.length : Int) (p131.2.2.2.2.2.2.2.2.length : Int))) && p148) (.bool p149)), (74, .bool (((p146 && (leB (p131.2.1.length : Int) (p131.2.2.2.2.2.2.2.2.length : Int))) && p148) && p149)), (2, .bool (((p146 && (leB (p131.2.1.length : Int) (p131.2.2.2.2.2.2.2.2.length : Int))) && p148) && p149))] (allSl_mem ⟨e48, e49, e50, e51, e52, e53, e54, e55, e56, e57, e58, e59, e60, e61, e62, e63, e64, e65, e66, e67, e68, e69, e70, e71, e72, e73, e74, e2, trivial⟩) rfl
        clear hB e48 e49 e50 e51 e52 e53 e54 e55 e56 e57 e58 e59 e60 e61 e62 e63 e64 e65 e66 e67 e68 e69 e70 e71 e72 e73 e74 e2
        refine wp_ret ?_
        repeat with_reducible (first | refine then_ret ?_ | refine in_ret ?_ | refine in_nrm ?_)
        refine ret1_gw (.inl rfl) hF rfl (res_tmp (hF.ev rfl)) ?_
        obtain rfl := Option.some.inj hM
        exact ⟨rfl, S.sel [] rfl rfl⟩
    · replace hM := bif_t hc130 hM
      refine cond_t hF rfl hc130 ?_
      refine wp_seq ?_
      refine wp_region_lit ?_
      refine op_val (v := .bool false) rfl rfl hF rfl (run_assign rfl rfl) ?_; clear hF; intro a hF
      refine wpList_nil ?_
      refine wp_ret ?_
      repeat with_reducible (first | refine then_ret ?_ | refine in_ret ?_ | refine in_nrm ?_)
      refine ret1_gw (.inl rfl) hF rfl (res_tmp (hF.ev rfl)) ?_
      obtain rfl := Option.some.inj hM
      exact ⟨rfl, S.sel [] rfl rfl⟩
  · replace hM := bif_t hc101 hM
    refine cond_t hF rfl hc101 ?_
    refine wp_seq ?_
    refine wp_region_lit ?_
    refine op_val (v := .bool true) rfl rfl hF rfl (run_assign rfl rfl) ?_; clear hF; intro a hF
    refine wpList_nil ?_
    refine wp_ret ?_
    repeat with_reducible (first | refine then_ret ?_ | refine in_ret ?_ | refine in_nrm ?_)
    refine ret1_gw (.inl rfl) hF rfl (res_tmp (hF.ev rfl)) ?_
    obtain rfl := Option.some.inj hM
    exact ⟨rfl, S.sel [] rfl rfl⟩

set_option maxHeartbeats 4000000 in
theorem c_spec_DrawPollDrain {x0 : List Int} {A0 : Option Addr} {n0 c0 : Nat} {w : World} {r : Int × List Int × Int × List Int × Int × Int × Int × Int} (h0 : Rt w 1 eU A0 n0 c0 x0) (hM : m_spec_DrawPollDrain x0 = some r) :
    Calls Tryd.prog 21 #[.slice A0 n0 c0] w (fun e w' => ∃ (B0 : Option Addr) (N0 D0 : Nat) (B1 : Option Addr) (N1 D1 : Nat), e = .returned (.agg #[.int .i64 r.1, .slice B0 N0 D0, .int .i64 r.2.2.1, .slice B1 N1 D1, .int .i64 r.2.2.2.2.1, .int .i64 r.2.2.2.2.2.1, .int .i64 r.2.2.2.2.2.2.1, .int .i64 r.2.2.2.2.2.2.2]) ∧ N0 = r.2.1.length ∧ N1 = r.2.2.2.1.length ∧ St w w' [.row 3 1 (.slice B0 N0 D0) N0 (r.2.1.flatMap eI), .row 3 1 (.slice B1 N1 D1) N1 (r.2.2.2.1.flatMap eI)]) := by
  obtain rfl := h0.len
  unfold m_spec_DrawPollDrain at hM
  refine calls_gw Tryd.func21 Tryd.ntmps21 rfl [(0, .slice A0 x0.length c0)] ⟨rfl, trivial⟩ rfl ?_
  intro a hF
  have S := St.nil w
  refine wp_seq ?_
  refine wp_region_lit ?_
  refine op_new (cs := #[.int .i64 0, .slice none 0 0, .int .i64 0, .slice none 0 0, .int .i64 0, .int .i64 0, .int .i64 0, .int .i64 0]) rfl rfl hF rfl S (run_allocZ rfl zr25) ?_; clear hF S; intro a g101 u hF S
  refine wpList_nil ?_
  refine wp_seq ?_
  refine wp_region_lit ?_
  refine op_val (v := .slice A0 x0.length c0) rfl rfl hF rfl (run_move rfl (hF.ev rfl)) ?_; clear hF; intro a hF
  refine op_call rfl rfl hF rfl (run_call (vs := [.slice A0 x0.length c0]) rfl rfl co29 ⟨(hF.ev rfl), trivial⟩) (c_spec_l20Open ⟨(S.rc0 h0.rc), rfl⟩) ?_
  rintro e u ⟨g102, rfl, T⟩
  refine ⟨_, rfl, ?_⟩
  clear hF; intro a hF
  replace S := S.call1 T; clear T
  obtain ⟨p103, h103, hM⟩ := bind_ex hM
  refine op_call rfl rfl hF rfl (run_call (vs := [.pointer (some ⟨g102, 0, none⟩), .int .i64 9]) rfl rfl co30 ⟨(hF.ev rfl), rfl, trivial⟩) (c_spec_l20Poll (x0 := x0.take 2000) (x1 := 0) (x2 := 9) ⟨(op_rc h0.rc rfl), rfl⟩ (show St w _ [.box g102 77 #[.slice (opA c0 x0.length A0) ((x0.take 2000).length) c0, .int .i64 0], .box g101 25 #[.int .i64 0, .slice none 0 0, .int .i64 0, .slice none 0 0, .int .i64 0, .int .i64 0, .int .i64 0, .int .i64 0]] from S.sel [0, 1] rfl rfl) h103) ?_
  rintro e u ⟨B104, n105, d106, B107, n108, d109, rfl, rfl, rfl, T⟩
  refine ⟨_, rfl, ?_⟩
  clear hF; intro a hF
  clear S; have S := T; clear T
  refine op_do rfl rfl (run_store (cs' := #[.int .i64 p103.1, .slice B104 p103.2.1.length d106, .int .i64 p103.2.2.1, .slice B107 p103.2.2.2.1.length d109, .int .i64 p103.2.2.2.2.1, .int .i64 p103.2.2.2.2.2.1, .int .i64 p103.2.2.2.2.2.2.1, .int .i64 p103.2.2.2.2.2.2.2.1]) rfl sz25 (hF.ev rfl) (hF.ev rfl) rfl rfl rfl (S.free 3 rfl) rfl rfl) ?_; replace S := S.put 3 rfl (#[.int .i64 p103.1, .slice B104 p103.2.1.length d106, .int .i64 p103.2.2.1, .slice B107 p103.2.2.2.1.length d109, .int .i64 p103.2.2.2.2.1, .int .i64 p103.2.2.2.2.2.1, .int .i64 p103.2.2.2.2.2.2.1, .int .i64 p103.2.2.2.2.2.2.2.1])
  generalize World.setRow _ _ _ = u at S ⊢
  refine wpList_nil ?_
  refine wp_ret ?_
  repeat with_reducible (first | refine then_ret ?_ | refine in_ret ?_ | refine in_nrm ?_)
  refine ret1_gw (.inl rfl) hF rfl (res_cell (hF.ev rfl) (res_loadN ag25 rfl (S.cells 3 rfl 0 #[.int .i64 p103.1, .slice B104 p103.2.1.length d106, .int .i64 p103.2.2.1, .slice B107 p103.2.2.2.1.length d109, .int .i64 p103.2.2.2.2.1, .int .i64 p103.2.2.2.2.2.1, .int .i64 p103.2.2.2.2.2.2.1, .int .i64 p103.2.2.2.2.2.2.2.1] rfl))) ?_
  obtain rfl := Option.some.inj hM
  exact ⟨B104, p103.2.1.length, d106, B107, p103.2.2.2.1.length, d109, rfl, rfl, rfl, S.sel [0, 1] rfl rfl⟩

set_option maxHeartbeats 4000000 in
theorem c_impl_PollDrain {x0 : Int} {x1 : List Int} {x2 : Int} {x3 : List Int} {x4 : Int} {x5 : Int} {x6 : Int} {x7 : Int} {A1 : Option Addr} {n1 c1 : Nat} {A3 : Option Addr} {n3 c3 : Nat} {w : World} {r : Int × List Int × Int × List Int × Int × Int × Int × Int} (h1 : Rt w 1 eI A1 n1 c1 x1) (h3 : Rt w 1 eI A3 n3 c3 x3) (hM : m_impl_PollDrain x0 x1 x2 x3 x4 x5 x6 x7 = some r) :
    Calls Tryd.prog 22 #[.agg #[.int .i64 x0, .slice A1 n1 c1, .int .i64 x2, .slice A3 n3 c3, .int .i64 x4, .int .i64 x5, .int .i64 x6, .int .i64 x7]] w (fun e w' => ∃ (B0 : Option Addr) (N0 D0 : Nat) (B1 : Option Addr) (N1 D1 : Nat), e = .returned (.agg #[.int .i64 r.1, .slice B0 N0 D0, .int .i64 r.2.2.1, .slice B1 N1 D1, .int .i64 r.2.2.2.2.1, .int .i64 r.2.2.2.2.2.1, .int .i64 r.2.2.2.2.2.2.1, .int .i64 r.2.2.2.2.2.2.2]) ∧ N0 = r.2.1.length ∧ N1 = r.2.2.2.1.length ∧ St w w' [.row 3 1 (.slice B0 N0 D0) N0 (r.2.1.flatMap eI), .row 3 1 (.slice B1 N1 D1) N1 (r.2.2.2.1.flatMap eI)]) := by
  obtain rfl := h1.len
  obtain rfl := h3.len
  unfold m_impl_PollDrain at hM
  refine calls_gw Tryd.func22 Tryd.ntmps22 rfl [(0, .agg #[.int .i64 x0, .slice A1 x1.length c1, .int .i64 x2, .slice A3 x3.length c3, .int .i64 x4, .int .i64 x5, .int .i64 x6, .int .i64 x7])] ⟨rfl, trivial⟩ rfl ?_
  intro a hF
  have S := St.nil w
  refine wp_seq ?_
  refine wp_region_lit ?_
  refine op_new (cs := #[.int .i64 x0, .slice A1 x1.length c1, .int .i64 x2, .slice A3 x3.length c3, .int .i64 x4, .int .i64 x5, .int .i64 x6, .int .i64 x7]) rfl rfl hF rfl S (run_box rfl (hF.ev rfl) rfl) ?_; clear hF S; intro a g101 u hF S
  refine op_new (cs := #[.int .i64 0, .slice none 0 0, .int .i64 0, .slice none 0 0, .int .i64 0, .int .i64 0, .int .i64 0, .int .i64 0]) rfl rfl hF rfl S (run_allocZ rfl zr25) ?_; clear hF S; intro a g102 u hF S
  refine wpList_nil ?_
  refine wp_seq ?_
  refine wp_region_lit ?_
  refine op_val (v := .pointer (some ⟨g101, 3, none⟩)) rfl rfl hF rfl (run_fieldAddr rfl fl25_3 (hF.ev rfl) rfl) ?_; clear hF; intro a hF
  refine op_val (v := .slice A3 x3.length c3) rfl rfl hF rfl (run_load1 rfl one23 (hF.ev rfl) ((S.free 1 rfl).cell rfl)) ?_; clear hF; intro a hF
  refine op_val (v := .int .i64 (x3.length : Int)) rfl rfl hF rfl (run_lenL rfl rfl Tryd.underlying23 (hF.ev rfl)) ?_; clear hF; intro a hF
  refine op_val (v := .int .i64 (w64 ((x3.length : Int) + 1))) rfl rfl hF rfl (run_add (z := w64 ((x3.length : Int) + 1)) (hF.ev rfl) rfl rfl rfl) ?_; clear hF; intro a hF
  refine op_val (v := .int .i64 (w64 ((x3.length : Int) + 1))) rfl rfl hF rfl (run_assign rfl (hF.ev rfl)) ?_; clear hF; intro a hF
  refine wpList_nil ?_
  refine wp_seq ?_
  refine wp_seq ?_
  refine wp_region_lit ?_
  refine op_val (v := .agg #[.int .i64 x0, .slice A1 x1.length c1, .int .i64 x2, .slice A3 x3.length c3, .int .i64 x4, .int .i64 x5, .int .i64 x6, .int .i64 x7]) rfl rfl hF rfl (run_loadN rfl ag25 (hF.ev rfl) rfl ((S.free 1 rfl).cells 0 #[.int .i64 x0, .slice A1 x1.length c1, .int .i64 x2, .slice A3 x3.length c3, .int .i64 x4, .int .i64 x5, .int .i64 x6, .int .i64 x7] rfl)) ?_; clear hF; intro a hF
  obtain ⟨p103, h103, hM⟩ := bind_ex hM
  refine op_call rfl rfl hF rfl (run_call (vs := [.agg #[.int .i64 x0, .slice A1 x1.length c1, .int .i64 x2, .slice A3 x3.length c3, .int .i64 x4, .int .i64 x5, .int .i64 x6, .int .i64 x7]]) rfl rfl co15 ⟨(hF.ev rfl), trivial⟩) (c_impl_PollValid (x0 := x0) (x1 := x1) (x2 := x2) (x3 := x3) (x4 := x4) (x5 := x5) (x6 := x6) (x7 := x7) ⟨(S.rc0 h1.rc), rfl⟩ ⟨(S.rc0 h3.rc), rfl⟩ h103) ?_
  rintro e u ⟨rfl, T⟩
  refine ⟨_, rfl, ?_⟩
  clear hF; intro a hF
  replace S := S.call0 T; clear T
  refine op_val (v := .bool (!p103)) rfl rfl hF rfl (run_not rfl (hF.ev rfl)) ?_; clear hF; intro a hF
  refine wpList_nil ?_
  cases hc104 : (p103)
  · replace hM := bif_f hc104 hM
    refine cond_t hF rfl (not_t hc104) ?_
    refine wp_seq ?_
    refine wp_region_lit ?_
    refine op_val (v := .agg #[.int .i64 0, .slice none 0 0, .int .i64 0, .slice none 0 0, .int .i64 0, .int .i64 0, .int .i64 0, .int .i64 0]) rfl rfl hF rfl (run_build (vs := []) rfl trivial (bd25 )) ?_; clear hF; intro a hF
    refine op_do rfl rfl (run_store (cs' := #[.int .i64 0, .slice none 0 0, .int .i64 0, .slice none 0 0, .int .i64 0, .int .i64 0, .int .i64 0, .int .i64 0]) rfl sz25 (hF.ev rfl) (hF.ev rfl) rfl rfl rfl (S.free 0 rfl) rfl rfl) ?_; replace S := S.put 0 rfl (#[.int .i64 0, .slice none 0 0, .int .i64 0, .slice none 0 0, .int .i64 0, .int .i64 0, .int .i64 0, .int .i64 0])
    generalize World.setRow _ _ _ = u at S ⊢
    refine wpList_nil ?_
    refine wp_ret ?_
    repeat with_reducible (first | refine then_ret ?_ | refine in_ret ?_ | refine in_nrm ?_)
    refine ret1_gw (.inl rfl) hF rfl (res_cell (hF.ev rfl) (res_loadN ag25 rfl (S.cells 0 rfl 0 #[.int .i64 0, .slice none 0 0, .int .i64 0, .slice none 0 0, .int .i64 0, .int .i64 0, .int .i64 0, .int .i64 0] rfl))) ?_
    obtain rfl := Option.some.inj hM
    replace S := S.nilrow 3 1
    replace S := S.nilrow 3 1
    exact ⟨none, 0, 0, none, 0, 0, rfl, rfl, rfl, S.sel [1, 0] rfl rfl⟩
  · replace hM := bif_t hc104 hM
    refine cond_f hF rfl (not_f hc104) ?_
    refine wp_skip ?_
    refine wp_seq ?_
    refine wp_seq ?_
    refine wp_region_lit ?_
    refine op_val (v := .int .i64 (w64 ((x3.length : Int) + 1))) rfl rfl hF rfl (run_move rfl (hF.ev rfl)) ?_; clear hF; intro a hF
    refine op_val (v := .int .i64 0) rfl rfl hF rfl (run_move rfl rfl) ?_; clear hF; intro a hF
    refine wpList_nil ?_
    obtain ⟨o106, hM111, hM⟩ := bind_ex hM
    refine wp_cut (fun a u => ∃ (p105 : Int × List Int × Bool × Int × List Int × Bool × Int × Int × Int × Int) (B107 : Option Addr) (d108 : Nat) (B109 : Option Addr) (d110 : Nat), p105 = o106 ∧ Fr a 26 [(1, .pointer (some ⟨g101, 0, none⟩)), (2, .pointer (some ⟨g102, 0, none⟩))] ∧ St w u [.box g102 25 #[.int .i64 0, .slice none 0 0, .int .i64 0, .slice none 0 0, .int .i64 0, .int .i64 0, .int .i64 0, .int .i64 0], .box g101 25 #[.int .i64 p105.1, .slice B107 p105.2.1.length d108, .int .i64 p105.2.2.2.1, .slice B109 p105.2.2.2.2.1.length d110, .int .i64 p105.2.2.2.2.2.2.1, .int .i64 p105.2.2.2.2.2.2.2.1, .int .i64 p105.2.2.2.2.2.2.2.2.1, .int .i64 p105.2.2.2.2.2.2.2.2.2], mrow p105.2.2.1 w.heap.size 3 1 (.slice B107 p105.2.1.length d108) p105.2.1.length (p105.2.1.flatMap eI), mrow p105.2.2.2.2.2.1 w.heap.size 3 1 (.slice B109 p105.2.2.2.2.1.length d110) p105.2.2.2.2.1.length (p105.2.2.2.2.1.flatMap eI)]) ?_ ?_
    · have _ := trivial
      refine wp_block ?_
      replace S := S.addold h1.rc (by decide)
      replace S := S.addold h3.rc (by decide)
      refine loop_gw (fun m a u => ∃ (p112 : Int × Int × List Int × Bool × Int × List Int × Bool × Int × Int × Int × Int) (B113 : Option Addr) (d114 : Nat) (B115 : Option Addr) (d116 : Nat), m_impl_PollDrain_l1 x3 m p112 = some _ ∧ Fr a 26 [(1, .pointer (some ⟨g101, 0, none⟩)), (2, .pointer (some ⟨g102, 0, none⟩)), (12, .int .i64 (w64 ((x3.length : Int) + 1))), (13, .int .i64 p112.1)] ∧ St w u [.box g102 25 #[.int .i64 0, .slice none 0 0, .int .i64 0, .slice none 0 0, .int .i64 0, .int .i64 0, .int .i64 0, .int .i64 0], .box g101 25 #[.int .i64 p112.2.1, .slice B113 p112.2.2.1.length d114, .int .i64 p112.2.2.2.2.1, .slice B115 p112.2.2.2.2.2.1.length d116, .int .i64 p112.2.2.2.2.2.2.2.1, .int .i64 p112.2.2.2.2.2.2.2.2.1, .int .i64 p112.2.2.2.2.2.2.2.2.2.1, .int .i64 p112.2.2.2.2.2.2.2.2.2.2], mrow p112.2.2.2.1 w.heap.size 3 1 (.slice B113 p112.2.2.1.length d114) p112.2.2.1.length (p112.2.2.1.flatMap eI), mrow p112.2.2.2.2.2.2.1 w.heap.size 3 1 (.slice B115 p112.2.2.2.2.2.1.length d116) p112.2.2.2.2.2.1.length (p112.2.2.2.2.2.1.flatMap eI)]) FUEL ⟨(0, x0, x1, false, x2, x3, false, x4, x5, x6, x7), A1, c1, A3, c3, hM111, hF.keep _ ⟨rfl, rfl, rfl, rfl, trivial⟩, S.sel [2, 3, 1, 0] rfl rfl⟩ ?_
      clear hF S hM111; rintro m a u ⟨p112, B113, d114, B115, d116, hM111, hF, S⟩
      rcases m with _ | f1
      · exact none_some hM111
      rw [m_impl_PollDrain_l1.eq_2] at hM111
      refine wp_seq ?_
      refine wp_region_lit ?_
      refine op_val (v := .bool (ltB p112.1 (w64 ((x3.length : Int) + 1)))) rfl rfl hF rfl (run_lss (hF.ev rfl) (hF.ev rfl) rfl) ?_; clear hF; intro a hF
      refine wpList_nil ?_
      refine wp_seq ?_
      cases hc117 : (ltB p112.1 (w64 ((x3.length : Int) + 1)))
      · replace hM111 := bif_f hc117 hM111
        refine cond_f hF rfl hc117 ?_
        refine wp_exit ?_
        repeat with_reducible (first | refine then_exit ?_ | refine in_hit ?_ | refine in_miss rfl ?_)
        obtain rfl := Option.some.inj hM111
        exact ⟨(p112.2.1, p112.2.2.1, p112.2.2.2.1, p112.2.2.2.2.1, p112.2.2.2.2.2.1, p112.2.2.2.2.2.2.1, p112.2.2.2.2.2.2.2.1, p112.2.2.2.2.2.2.2.2.1, p112.2.2.2.2.2.2.2.2.2.1, p112.2.2.2.2.2.2.2.2.2.2), B113, d114, B115, d116, rfl, hF.keep _ ⟨rfl, rfl, trivial⟩, S.sel [0, 1, 2, 3] rfl rfl⟩
      · replace hM111 := bif_t hc117 hM111
        refine cond_t hF rfl hc117 ?_
        refine wp_skip ?_
        refine wp_seq ?_
        refine wp_block ?_
        refine wp_region_lit ?_
        refine op_val (v := .agg #[.int .i64 p112.2.1, .slice B113 p112.2.2.1.length d114, .int .i64 p112.2.2.2.2.1, .slice B115 p112.2.2.2.2.2.1.length d116, .int .i64 p112.2.2.2.2.2.2.2.1, .int .i64 p112.2.2.2.2.2.2.2.2.1, .int .i64 p112.2.2.2.2.2.2.2.2.2.1, .int .i64 p112.2.2.2.2.2.2.2.2.2.2]) rfl rfl hF rfl (run_loadN rfl ag25 (hF.ev rfl) rfl ((S.free 1 rfl).cells 0 #[.int .i64 p112.2.1, .slice B113 p112.2.2.1.length d114, .int .i64 p112.2.2.2.2.1, .slice B115 p112.2.2.2.2.2.1.length d116, .int .i64 p112.2.2.2.2.2.2.2.1, .int .i64 p112.2.2.2.2.2.2.2.2.1, .int .i64 p112.2.2.2.2.2.2.2.2.2.1, .int .i64 p112.2.2.2.2.2.2.2.2.2.2] rfl)) ?_; clear hF; intro a hF
        refine op_val (v := .agg #[.int .i64 1, .int .i64 0]) rfl rfl hF rfl (run_build (vs := [(0, .int .i64 1)]) rfl ⟨⟨rfl, rfl⟩, trivial⟩ (bd31_0 rfl)) ?_; clear hF; intro a hF
        refine op_val (v := .agg #[.int .i64 2, .int .i64 0]) rfl rfl hF rfl (run_build (vs := [(0, .int .i64 2)]) rfl ⟨⟨rfl, rfl⟩, trivial⟩ (bd31_0 rfl)) ?_; clear hF; intro a hF
        refine op_val (v := .agg #[.int .i64 3, .int .i64 0]) rfl rfl hF rfl (run_build (vs := [(0, .int .i64 3)]) rfl ⟨⟨rfl, rfl⟩, trivial⟩ (bd31_0 rfl)) ?_; clear hF; intro a hF
        refine op_newrowL (ls := (([(1, 0), (2, 0), (3, 0)] : List (Int × Int)) : List (Int × Int))) (e := ePollDeed) rfl rfl hF rfl S (run_buildS (vs := [(0, .agg #[.int .i64 1, .int .i64 0]), (1, .agg #[.int .i64 2, .int .i64 0]), (2, .agg #[.int .i64 3, .int .i64 0])]) rfl ⟨⟨rfl, (hF.ev rfl)⟩, ⟨rfl, (hF.ev rfl)⟩, ⟨rfl, (hF.ev rfl)⟩, trivial⟩ (bs38_3_2_2_2 )) rfl ePollDeed_len (Nat.le_of_ble_eq_true rfl) ?_; clear hF S; intro a g118 u hF S
        obtain ⟨p119, h119, hM111⟩ := bind_ex hM111
        refine op_call rfl rfl hF rfl (run_call (vs := [.agg #[.int .i64 p112.2.1, .slice B113 p112.2.2.1.length d114, .int .i64 p112.2.2.2.2.1, .slice B115 p112.2.2.2.2.2.1.length d116, .int .i64 p112.2.2.2.2.2.2.2.1, .int .i64 p112.2.2.2.2.2.2.2.2.1, .int .i64 p112.2.2.2.2.2.2.2.2.2.1, .int .i64 p112.2.2.2.2.2.2.2.2.2.2], .slice (some ⟨g118, 0, none⟩) (([(1, 0), (2, 0), (3, 0)] : List (Int × Int)).length) (([(1, 0), (2, 0), (3, 0)] : List (Int × Int)).length)]) rfl rfl co17 ⟨(hF.ev rfl), (hF.ev rfl), trivial⟩) (c_impl_PollRun (x0 := p112.2.1) (x1 := p112.2.2.1) (x2 := p112.2.2.2.2.1) (x3 := p112.2.2.2.2.2.1) (x4 := p112.2.2.2.2.2.2.2.1) (x5 := p112.2.2.2.2.2.2.2.2.1) (x6 := p112.2.2.2.2.2.2.2.2.2.1) (x7 := p112.2.2.2.2.2.2.2.2.2.2) (x8 := ([(1, 0), (2, 0), (3, 0)] : List (Int × Int))) ⟨(S.rcm 3 rfl), rfl⟩ ⟨(S.rcm 4 rfl), rfl⟩ ⟨(S.rc 0 rfl), rfl⟩ h119) ?_
        rintro e u ⟨B120, n121, d122, B123, n124, d125, rfl, rfl, rfl, T⟩
        refine ⟨_, rfl, ?_⟩
        clear hF; intro a hF
        replace S := S.call2 T; clear T
        refine op_val (v := .tuple #[.agg #[.int .i64 p119.1, .slice B120 p119.2.1.length d122, .int .i64 p119.2.2.1, .slice B123 p119.2.2.2.1.length d125, .int .i64 p119.2.2.2.2.1, .int .i64 p119.2.2.2.2.2.1, .int .i64 p119.2.2.2.2.2.2.1, .int .i64 p119.2.2.2.2.2.2.2.1], .int .i64 p119.2.2.2.2.2.2.2.2]) rfl rfl hF rfl (run_move rfl (hF.ev rfl)) ?_; clear hF; intro a hF
        refine op_val (v := .agg #[.int .i64 p119.1, .slice B120 p119.2.1.length d122, .int .i64 p119.2.2.1, .slice B123 p119.2.2.2.1.length d125, .int .i64 p119.2.2.2.2.1, .int .i64 p119.2.2.2.2.2.1, .int .i64 p119.2.2.2.2.2.2.1, .int .i64 p119.2.2.2.2.2.2.2.1]) rfl rfl hF rfl (run_extract rfl (hF.ev rfl) rfl) ?_; clear hF; intro a hF
        refine op_val (v := .int .i64 p119.2.2.2.2.2.2.2.2) rfl rfl hF rfl (run_extract rfl (hF.ev rfl) rfl) ?_; clear hF; intro a hF
        refine op_do rfl rfl (run_store (cs' := #[.int .i64 p119.1, .slice B120 p119.2.1.length d122, .int .i64 p119.2.2.1, .slice B123 p119.2.2.2.1.length d125, .int .i64 p119.2.2.2.2.1, .int .i64 p119.2.2.2.2.2.1, .int .i64 p119.2.2.2.2.2.2.1, .int .i64 p119.2.2.2.2.2.2.2.1]) rfl sz25 (hF.ev rfl) (hF.ev rfl) rfl rfl rfl (S.free 4 rfl) rfl rfl) ?_; replace S := S.put 4 rfl (#[.int .i64 p119.1, .slice B120 p119.2.1.length d122, .int .i64 p119.2.2.1, .slice B123 p119.2.2.2.1.length d125, .int .i64 p119.2.2.2.2.1, .int .i64 p119.2.2.2.2.2.1, .int .i64 p119.2.2.2.2.2.2.1, .int .i64 p119.2.2.2.2.2.2.2.1])
        generalize World.setRow _ _ _ = u at S ⊢
        refine wpList_nil ?_
        refine wp_region_lit ?_
        refine op_val (v := .int .i64 (w64 (p112.1 + 1))) rfl rfl hF rfl (run_add (z := w64 (p112.1 + 1)) (hF.ev rfl) rfl rfl rfl) ?_; clear hF; intro a hF
        refine op_val (v := .int .i64 (w64 (p112.1 + 1))) rfl rfl hF rfl (run_move rfl (hF.ev rfl)) ?_; clear hF; intro a hF
        refine wpList_nil ?_
        exact ⟨f1, Nat.lt_succ_self _, (w64 (p112.1 + 1), p119.1, p119.2.1, true, p119.2.2.1, p119.2.2.2.1, true, p119.2.2.2.2.1, p119.2.2.2.2.2.1, p119.2.2.2.2.2.2.1, p119.2.2.2.2.2.2.2.1), B120, d122, B123, d125, hM111, hF.keep _ ⟨rfl, rfl, rfl, rfl, trivial⟩, S.sel [3, 4, 0, 1] rfl rfl⟩
    · rintro a u ⟨p105, B107, d108, B109, d110, rfl, hF, S⟩
      refine wp_seq ?_
      refine wp_region_lit ?_
      refine op_val (v := .agg #[.int .i64 p105.1, .slice B107 p105.2.1.length d108, .int .i64 p105.2.2.2.1, .slice B109 p105.2.2.2.2.1.length d110, .int .i64 p105.2.2.2.2.2.2.1, .int .i64 p105.2.2.2.2.2.2.2.1, .int .i64 p105.2.2.2.2.2.2.2.2.1, .int .i64 p105.2.2.2.2.2.2.2.2.2]) rfl rfl hF rfl (run_loadN rfl ag25 (hF.ev rfl) rfl ((S.free 1 rfl).cells 0 #[.int .i64 p105.1, .slice B107 p105.2.1.length d108, .int .i64 p105.2.2.2.1, .slice B109 p105.2.2.2.2.1.length d110, .int .i64 p105.2.2.2.2.2.2.1, .int .i64 p105.2.2.2.2.2.2.2.1, .int .i64 p105.2.2.2.2.2.2.2.2.1, .int .i64 p105.2.2.2.2.2.2.2.2.2] rfl)) ?_; clear hF; intro a hF
      refine op_do rfl rfl (run_store (cs' := #[.int .i64 p105.1, .slice B107 p105.2.1.length d108, .int .i64 p105.2.2.2.1, .slice B109 p105.2.2.2.2.1.length d110, .int .i64 p105.2.2.2.2.2.2.1, .int .i64 p105.2.2.2.2.2.2.2.1, .int .i64 p105.2.2.2.2.2.2.2.2.1, .int .i64 p105.2.2.2.2.2.2.2.2.2]) rfl sz25 (hF.ev rfl) (hF.ev rfl) rfl rfl rfl (S.free 0 rfl) rfl rfl) ?_; replace S := S.put 0 rfl (#[.int .i64 p105.1, .slice B107 p105.2.1.length d108, .int .i64 p105.2.2.2.1, .slice B109 p105.2.2.2.2.1.length d110, .int .i64 p105.2.2.2.2.2.2.1, .int .i64 p105.2.2.2.2.2.2.2.1, .int .i64 p105.2.2.2.2.2.2.2.2.1, .int .i64 p105.2.2.2.2.2.2.2.2.2])
      generalize World.setRow _ _ _ = u at S ⊢
      refine wpList_nil ?_
      refine wp_ret ?_
      repeat with_reducible (first | refine then_ret ?_ | refine in_ret ?_ | refine in_nrm ?_)
      refine ret1_gw (.inl rfl) hF rfl (res_cell (hF.ev rfl) (res_loadN ag25 rfl (S.cells 0 rfl 0 #[.int .i64 p105.1, .slice B107 p105.2.1.length d108, .int .i64 p105.2.2.2.1, .slice B109 p105.2.2.2.2.1.length d110, .int .i64 p105.2.2.2.2.2.2.1, .int .i64 p105.2.2.2.2.2.2.2.1, .int .i64 p105.2.2.2.2.2.2.2.2.1, .int .i64 p105.2.2.2.2.2.2.2.2.2] rfl))) ?_
      obtain ⟨hk126, hM⟩ := chk_ex hM
      obtain ⟨hk127, hM⟩ := chk_ex hM
      obtain rfl := Option.some.inj hM
      replace S := S.mrow_t 2 rfl hk126
      replace S := S.mrow_t 3 rfl hk127
      exact ⟨B107, p105.2.1.length, d108, B109, p105.2.2.2.2.1.length, d110, rfl, rfl, rfl, S.sel [2, 3] rfl rfl⟩

set_option maxHeartbeats 4000000 in
theorem c_spec_PollDrain {x0 : Int} {x1 : List Int} {x2 : Int} {x3 : List Int} {x4 : Int} {x5 : Int} {x6 : Int} {x7 : Int} {A1 : Option Addr} {n1 c1 : Nat} {A3 : Option Addr} {n3 c3 : Nat} {w : World} {r : Int × List Int × Int × List Int × Int × Int × Int × Int} (h1 : Rt w 1 eI A1 n1 c1 x1) (h3 : Rt w 1 eI A3 n3 c3 x3) (hM : m_spec_PollDrain x0 x1 x2 x3 x4 x5 x6 x7 = some r) :
    Calls Tryd.prog 23 #[.agg #[.int .i64 x0, .slice A1 n1 c1, .int .i64 x2, .slice A3 n3 c3, .int .i64 x4, .int .i64 x5, .int .i64 x6, .int .i64 x7]] w (fun e w' => ∃ (B0 : Option Addr) (N0 D0 : Nat) (B1 : Option Addr) (N1 D1 : Nat), e = .returned (.agg #[.int .i64 r.1, .slice B0 N0 D0, .int .i64 r.2.2.1, .slice B1 N1 D1, .int .i64 r.2.2.2.2.1, .int .i64 r.2.2.2.2.2.1, .int .i64 r.2.2.2.2.2.2.1, .int .i64 r.2.2.2.2.2.2.2]) ∧ N0 = r.2.1.length ∧ N1 = r.2.2.2.1.length ∧ St w w' [.row 3 1 (.slice B0 N0 D0) N0 (r.2.1.flatMap eI), .row 3 1 (.slice B1 N1 D1) N1 (r.2.2.2.1.flatMap eI)]) := by
  obtain rfl := h1.len
  obtain rfl := h3.len
  unfold m_spec_PollDrain at hM
  refine calls_gw Tryd.func23 Tryd.ntmps23 rfl [(0, .agg #[.int .i64 x0, .slice A1 x1.length c1, .int .i64 x2, .slice A3 x3.length c3, .int .i64 x4, .int .i64 x5, .int .i64 x6, .int .i64 x7])] ⟨rfl, trivial⟩ rfl ?_
  intro a hF
  have S := St.nil w
  refine wp_seq ?_
  refine wp_region_lit ?_
  refine op_new (cs := #[.int .i64 x0, .slice A1 x1.length c1, .int .i64 x2, .slice A3 x3.length c3, .int .i64 x4, .int .i64 x5, .int .i64 x6, .int .i64 x7]) rfl rfl hF rfl S (run_box rfl (hF.ev rfl) rfl) ?_; clear hF S; intro a g101 u hF S
  refine op_new (cs := #[.int .i64 0, .slice none 0 0, .int .i64 0, .slice none 0 0, .int .i64 0, .int .i64 0, .int .i64 0, .int .i64 0]) rfl rfl hF rfl S (run_allocZ rfl zr25) ?_; clear hF S; intro a g102 u hF S
  refine wpList_nil ?_
  refine wp_seq ?_
  refine wp_seq ?_
  refine wp_region_lit ?_
  refine op_val (v := .agg #[.int .i64 x0, .slice A1 x1.length c1, .int .i64 x2, .slice A3 x3.length c3, .int .i64 x4, .int .i64 x5, .int .i64 x6, .int .i64 x7]) rfl rfl hF rfl (run_loadN rfl ag25 (hF.ev rfl) rfl ((S.free 1 rfl).cells 0 #[.int .i64 x0, .slice A1 x1.length c1, .int .i64 x2, .slice A3 x3.length c3, .int .i64 x4, .int .i64 x5, .int .i64 x6, .int .i64 x7] rfl)) ?_; clear hF; intro a hF
  obtain ⟨p103, h103, hM⟩ := bind_ex hM
  refine op_call rfl rfl hF rfl (run_call (vs := [.agg #[.int .i64 x0, .slice A1 x1.length c1, .int .i64 x2, .slice A3 x3.length c3, .int .i64 x4, .int .i64 x5, .int .i64 x6, .int .i64 x7]]) rfl rfl co32 ⟨(hF.ev rfl), trivial⟩) (c_spec_PollValid (x0 := x0) (x1 := x1) (x2 := x2) (x3 := x3) (x4 := x4) (x5 := x5) (x6 := x6) (x7 := x7) ⟨(S.rc0 h1.rc), rfl⟩ ⟨(S.rc0 h3.rc), rfl⟩ h103) ?_
  rintro e u ⟨rfl, T⟩
  refine ⟨_, rfl, ?_⟩
  clear hF; intro a hF
  replace S := S.call0 T; clear T
  refine op_val (v := .bool (!p103)) rfl rfl hF rfl (run_not rfl (hF.ev rfl)) ?_; clear hF; intro a hF
  refine wpList_nil ?_
  cases hc104 : (p103)
  · replace hM := bif_f hc104 hM
    refine cond_t hF rfl (not_t hc104) ?_
    refine wp_seq ?_
    refine wp_region_lit ?_
    refine op_val (v := .agg #[.int .i64 0, .slice none 0 0, .int .i64 0, .slice none 0 0, .int .i64 0, .int .i64 0, .int .i64 0, .int .i64 0]) rfl rfl hF rfl (run_build (vs := []) rfl trivial (bd25 )) ?_; clear hF; intro a hF
    refine op_do rfl rfl (run_store (cs' := #[.int .i64 0, .slice none 0 0, .int .i64 0, .slice none 0 0, .int .i64 0, .int .i64 0, .int .i64 0, .int .i64 0]) rfl sz25 (hF.ev rfl) (hF.ev rfl) rfl rfl rfl (S.free 0 rfl) rfl rfl) ?_; replace S := S.put 0 rfl (#[.int .i64 0, .slice none 0 0, .int .i64 0, .slice none 0 0, .int .i64 0, .int .i64 0, .int .i64 0, .int .i64 0])
    generalize World.setRow _ _ _ = u at S ⊢
    refine wpList_nil ?_
    refine wp_ret ?_
    repeat with_reducible (first | refine then_ret ?_ | refine in_ret ?_ | refine in_nrm ?_)
    refine ret1_gw (.inl rfl) hF rfl (res_cell (hF.ev rfl) (res_loadN ag25 rfl (S.cells 0 rfl 0 #[.int .i64 0, .slice none 0 0, .int .i64 0, .slice none 0 0, .int .i64 0, .int .i64 0, .int .i64 0, .int .i64 0] rfl))) ?_
    obtain rfl := Option.some.inj hM
    replace S := S.nilrow 3 1
    replace S := S.nilrow 3 1
    exact ⟨none, 0, 0, none, 0, 0, rfl, rfl, rfl, S.sel [1, 0] rfl rfl⟩
  · replace hM := bif_t hc104 hM
    refine cond_f hF rfl (not_f hc104) ?_
    refine wp_skip ?_
    refine wp_seq ?_
    refine wp_region_lit ?_
    refine op_val (v := .agg #[.int .i64 x0, .slice A1 x1.length c1, .int .i64 x2, .slice A3 x3.length c3, .int .i64 x4, .int .i64 x5, .int .i64 x6, .int .i64 x7]) rfl rfl hF rfl (run_loadN rfl ag25 (hF.ev rfl) rfl ((S.free 1 rfl).cells 0 #[.int .i64 x0, .slice A1 x1.length c1, .int .i64 x2, .slice A3 x3.length c3, .int .i64 x4, .int .i64 x5, .int .i64 x6, .int .i64 x7] rfl)) ?_; clear hF; intro a hF
    obtain ⟨p105, h105, hM⟩ := bind_ex hM
    refine op_call rfl rfl hF rfl (run_call (vs := [.agg #[.int .i64 x0, .slice A1 x1.length c1, .int .i64 x2, .slice A3 x3.length c3, .int .i64 x4, .int .i64 x5, .int .i64 x6, .int .i64 x7]]) rfl rfl co33 ⟨(hF.ev rfl), trivial⟩) (c_spec_l27Copy (x0 := x0) (x1 := x1) (x2 := x2) (x3 := x3) (x4 := x4) (x5 := x5) (x6 := x6) (x7 := x7) ⟨(S.rc0 h1.rc), rfl⟩ ⟨(S.rc0 h3.rc), rfl⟩ h105) ?_
    rintro e u ⟨B106, n107, d108, B109, n110, d111, rfl, rfl, rfl, T⟩
    refine ⟨_, rfl, ?_⟩
    clear hF; intro a hF
    replace S := S.call2 T; clear T
    refine op_new (cs := #[.int .i64 0, .slice none 0 0, .int .i64 0, .slice none 0 0, .int .i64 0, .int .i64 0, .int .i64 0, .int .i64 0]) rfl rfl hF rfl S (run_allocZ rfl zr25) ?_; clear hF S; intro a g112 u hF S
    refine op_do rfl rfl (run_store (cs' := #[.int .i64 p105.1, .slice B106 p105.2.1.length d108, .int .i64 p105.2.2.1, .slice B109 p105.2.2.2.1.length d111, .int .i64 p105.2.2.2.2.1, .int .i64 p105.2.2.2.2.2.1, .int .i64 p105.2.2.2.2.2.2.1, .int .i64 p105.2.2.2.2.2.2.2]) rfl sz25 (hF.ev rfl) (hF.ev rfl) rfl rfl rfl (S.free 0 rfl) rfl rfl) ?_; replace S := S.put 0 rfl (#[.int .i64 p105.1, .slice B106 p105.2.1.length d108, .int .i64 p105.2.2.1, .slice B109 p105.2.2.2.1.length d111, .int .i64 p105.2.2.2.2.1, .int .i64 p105.2.2.2.2.2.1, .int .i64 p105.2.2.2.2.2.2.1, .int .i64 p105.2.2.2.2.2.2.2])
    generalize World.setRow _ _ _ = u at S ⊢
    refine wpList_nil ?_
    refine wp_seq ?_
    refine wp_seq ?_
    refine wp_region_lit ?_
    refine op_val (v := .int .i64 0) rfl rfl hF rfl (run_assign rfl rfl) ?_; clear hF; intro a hF
    refine wpList_nil ?_
    obtain ⟨o114, hM119, hM⟩ := bind_ex hM
    refine wp_cut (fun a u => ∃ (p113 : Int × List Int × Int × List Int × Int × Int × Int × Int) (B115 : Option Addr) (d116 : Nat) (B117 : Option Addr) (d118 : Nat), p113 = o114 ∧ Fr a 31 [(2, .pointer (some ⟨g102, 0, none⟩)), (3, .pointer (some ⟨g112, 0, none⟩))] ∧ St w u [.box g112 25 #[.int .i64 p113.1, .slice B115 p113.2.1.length d116, .int .i64 p113.2.2.1, .slice B117 p113.2.2.2.1.length d118, .int .i64 p113.2.2.2.2.1, .int .i64 p113.2.2.2.2.2.1, .int .i64 p113.2.2.2.2.2.2.1, .int .i64 p113.2.2.2.2.2.2.2], .box g102 25 #[.int .i64 0, .slice none 0 0, .int .i64 0, .slice none 0 0, .int .i64 0, .int .i64 0, .int .i64 0, .int .i64 0], .row 3 1 (.slice B115 p113.2.1.length d116) p113.2.1.length (p113.2.1.flatMap eI), .row 3 1 (.slice B117 p113.2.2.2.1.length d118) p113.2.2.2.1.length (p113.2.2.2.1.flatMap eI)]) ?_ ?_
    · have _ := trivial
      refine wp_block ?_
      refine loop_gw (fun m a u => ∃ (p120 : Int × Int × List Int × Int × List Int × Int × Int × Int × Int) (B121 : Option Addr) (d122 : Nat) (B123 : Option Addr) (d124 : Nat), m_spec_PollDrain_l1 x3 m p120 = some _ ∧ Fr a 31 [(1, .pointer (some ⟨g101, 0, none⟩)), (2, .pointer (some ⟨g102, 0, none⟩)), (3, .pointer (some ⟨g112, 0, none⟩)), (4, .int .i64 p120.1)] ∧ St w u [.box g112 25 #[.int .i64 p120.2.1, .slice B121 p120.2.2.1.length d122, .int .i64 p120.2.2.2.1, .slice B123 p120.2.2.2.2.1.length d124, .int .i64 p120.2.2.2.2.2.1, .int .i64 p120.2.2.2.2.2.2.1, .int .i64 p120.2.2.2.2.2.2.2.1, .int .i64 p120.2.2.2.2.2.2.2.2], .box g102 25 #[.int .i64 0, .slice none 0 0, .int .i64 0, .slice none 0 0, .int .i64 0, .int .i64 0, .int .i64 0, .int .i64 0], .box g101 25 #[.int .i64 x0, .slice A1 x1.length c1, .int .i64 x2, .slice A3 x3.length c3, .int .i64 x4, .int .i64 x5, .int .i64 x6, .int .i64 x7], .row 3 1 (.slice B121 p120.2.2.1.length d122) p120.2.2.1.length (p120.2.2.1.flatMap eI), .row 3 1 (.slice B123 p120.2.2.2.2.1.length d124) p120.2.2.2.2.1.length (p120.2.2.2.2.1.flatMap eI)]) FUEL ⟨(0, p105.1, p105.2.1, p105.2.2.1, p105.2.2.2.1, p105.2.2.2.2.1, p105.2.2.2.2.2.1, p105.2.2.2.2.2.2.1, p105.2.2.2.2.2.2.2), B106, d108, B109, d111, hM119, hF.keep _ ⟨rfl, rfl, rfl, rfl, trivial⟩, S.sel [0, 3, 4, 1, 2] rfl rfl⟩ ?_
      clear hF S hM119; rintro m a u ⟨p120, B121, d122, B123, d124, hM119, hF, S⟩
      rcases m with _ | f1
      · exact none_some hM119
      rw [m_spec_PollDrain_l1.eq_2] at hM119
      refine wp_seq ?_
      refine wp_seq ?_
      refine wp_region_lit ?_
      refine op_val (v := .int .i64 p120.1) rfl rfl hF rfl (run_move rfl (hF.ev rfl)) ?_; clear hF; intro a hF
      refine op_val (v := .pointer (some ⟨g101, 3, none⟩)) rfl rfl hF rfl (run_fieldAddr rfl fl25_3 (hF.ev rfl) rfl) ?_; clear hF; intro a hF
      refine op_val (v := .slice A3 x3.length c3) rfl rfl hF rfl (run_load1 rfl one23 (hF.ev rfl) ((S.free 2 rfl).cell rfl)) ?_; clear hF; intro a hF
      refine op_val (v := .int .i64 (x3.length : Int)) rfl rfl hF rfl (run_lenL rfl rfl Tryd.underlying23 (hF.ev rfl)) ?_; clear hF; intro a hF
      refine op_val (v := .bool (leB p120.1 (x3.length : Int))) rfl rfl hF rfl (run_leq (hF.ev rfl) (hF.ev rfl) rfl) ?_; clear hF; intro a hF
      refine wpList_nil ?_
      cases hc125 : (leB p120.1 (x3.length : Int))
      · replace hM119 := bif_f hc125 hM119
        refine cond_f hF rfl hc125 ?_
        refine wp_exit ?_
        repeat with_reducible (first | refine then_exit ?_ | refine in_hit ?_ | refine in_miss rfl ?_)
        obtain rfl := Option.some.inj hM119
        exact ⟨(p120.2.1, p120.2.2.1, p120.2.2.2.1, p120.2.2.2.2.1, p120.2.2.2.2.2.1, p120.2.2.2.2.2.2.1, p120.2.2.2.2.2.2.2.1, p120.2.2.2.2.2.2.2.2), B121, d122, B123, d124, rfl, hF.keep _ ⟨rfl, rfl, trivial⟩, S.sel [0, 1, 3, 4] rfl rfl⟩
      · replace hM119 := bif_t hc125 hM119
        refine cond_t hF rfl hc125 ?_
        refine wp_skip ?_
        refine wp_seq ?_
        refine wp_block ?_
        refine wp_seq ?_
        refine wp_region_lit ?_
        refine op_val (v := .agg #[.int .i64 p120.2.1, .slice B121 p120.2.2.1.length d122, .int .i64 p120.2.2.2.1, .slice B123 p120.2.2.2.2.1.length d124, .int .i64 p120.2.2.2.2.2.1, .int .i64 p120.2.2.2.2.2.2.1, .int .i64 p120.2.2.2.2.2.2.2.1, .int .i64 p120.2.2.2.2.2.2.2.2]) rfl rfl hF rfl (run_loadN rfl ag25 (hF.ev rfl) rfl ((S.free 0 rfl).cells 0 #[.int .i64 p120.2.1, .slice B121 p120.2.2.1.length d122, .int .i64 p120.2.2.2.1, .slice B123 p120.2.2.2.2.1.length d124, .int .i64 p120.2.2.2.2.2.1, .int .i64 p120.2.2.2.2.2.2.1, .int .i64 p120.2.2.2.2.2.2.2.1, .int .i64 p120.2.2.2.2.2.2.2.2] rfl)) ?_; clear hF; intro a hF
        refine op_val (v := .agg #[.int .i64 1, .int .i64 0]) rfl rfl hF rfl (run_build (vs := [(0, .int .i64 1)]) rfl ⟨⟨rfl, rfl⟩, trivial⟩ (bd31_0 rfl)) ?_; clear hF; intro a hF
        refine op_val (v := .agg #[.int .i64 2, .int .i64 0]) rfl rfl hF rfl (run_build (vs := [(0, .int .i64 2)]) rfl ⟨⟨rfl, rfl⟩, trivial⟩ (bd31_0 rfl)) ?_; clear hF; intro a hF
        refine op_val (v := .agg #[.int .i64 3, .int .i64 0]) rfl rfl hF rfl (run_build (vs := [(0, .int .i64 3)]) rfl ⟨⟨rfl, rfl⟩, trivial⟩ (bd31_0 rfl)) ?_; clear hF; intro a hF
        refine op_newrowL (ls := (([(1, 0), (2, 0), (3, 0)] : List (Int × Int)) : List (Int × Int))) (e := ePollDeed) rfl rfl hF rfl S (run_buildS (vs := [(0, .agg #[.int .i64 1, .int .i64 0]), (1, .agg #[.int .i64 2, .int .i64 0]), (2, .agg #[.int .i64 3, .int .i64 0])]) rfl ⟨⟨rfl, (hF.ev rfl)⟩, ⟨rfl, (hF.ev rfl)⟩, ⟨rfl, (hF.ev rfl)⟩, trivial⟩ (bs38_3_2_2_2 )) rfl ePollDeed_len (Nat.le_of_ble_eq_true rfl) ?_; clear hF S; intro a g126 u hF S
        obtain ⟨p127, h127, hM119⟩ := bind_ex hM119
        refine op_call rfl rfl hF rfl (run_call (vs := [.agg #[.int .i64 p120.2.1, .slice B121 p120.2.2.1.length d122, .int .i64 p120.2.2.2.1, .slice B123 p120.2.2.2.2.1.length d124, .int .i64 p120.2.2.2.2.2.1, .int .i64 p120.2.2.2.2.2.2.1, .int .i64 p120.2.2.2.2.2.2.2.1, .int .i64 p120.2.2.2.2.2.2.2.2], .slice (some ⟨g126, 0, none⟩) (([(1, 0), (2, 0), (3, 0)] : List (Int × Int)).length) (([(1, 0), (2, 0), (3, 0)] : List (Int × Int)).length)]) rfl rfl co18 ⟨(hF.ev rfl), (hF.ev rfl), trivial⟩) (c_spec_PollRun (x0 := p120.2.1) (x1 := p120.2.2.1) (x2 := p120.2.2.2.1) (x3 := p120.2.2.2.2.1) (x4 := p120.2.2.2.2.2.1) (x5 := p120.2.2.2.2.2.2.1) (x6 := p120.2.2.2.2.2.2.2.1) (x7 := p120.2.2.2.2.2.2.2.2) (x8 := ([(1, 0), (2, 0), (3, 0)] : List (Int × Int))) ⟨(S.rc 4 rfl), rfl⟩ ⟨(S.rc 5 rfl), rfl⟩ ⟨(S.rc 0 rfl), rfl⟩ h127) ?_
        rintro e u ⟨B128, n129, d130, B131, n132, d133, rfl, rfl, rfl, T⟩
        refine ⟨_, rfl, ?_⟩
        clear hF; intro a hF
        replace S := S.call2 T; clear T
        refine op_val (v := .tuple #[.agg #[.int .i64 p127.1, .slice B128 p127.2.1.length d130, .int .i64 p127.2.2.1, .slice B131 p127.2.2.2.1.length d133, .int .i64 p127.2.2.2.2.1, .int .i64 p127.2.2.2.2.2.1, .int .i64 p127.2.2.2.2.2.2.1, .int .i64 p127.2.2.2.2.2.2.2.1], .int .i64 p127.2.2.2.2.2.2.2.2]) rfl rfl hF rfl (run_move rfl (hF.ev rfl)) ?_; clear hF; intro a hF
        refine op_val (v := .agg #[.int .i64 p127.1, .slice B128 p127.2.1.length d130, .int .i64 p127.2.2.1, .slice B131 p127.2.2.2.1.length d133, .int .i64 p127.2.2.2.2.1, .int .i64 p127.2.2.2.2.2.1, .int .i64 p127.2.2.2.2.2.2.1, .int .i64 p127.2.2.2.2.2.2.2.1]) rfl rfl hF rfl (run_extract rfl (hF.ev rfl) rfl) ?_; clear hF; intro a hF
        refine op_val (v := .int .i64 p127.2.2.2.2.2.2.2.2) rfl rfl hF rfl (run_extract rfl (hF.ev rfl) rfl) ?_; clear hF; intro a hF
        refine op_new (cs := #[.int .i64 0, .slice none 0 0, .int .i64 0, .slice none 0 0, .int .i64 0, .int .i64 0, .int .i64 0, .int .i64 0]) rfl rfl hF rfl S (run_allocZ rfl zr25) ?_; clear hF S; intro a g134 u hF S
        refine op_do rfl rfl (run_store (cs' := #[.int .i64 p127.1, .slice B128 p127.2.1.length d130, .int .i64 p127.2.2.1, .slice B131 p127.2.2.2.1.length d133, .int .i64 p127.2.2.2.2.1, .int .i64 p127.2.2.2.2.2.1, .int .i64 p127.2.2.2.2.2.2.1, .int .i64 p127.2.2.2.2.2.2.2.1]) rfl sz25 (hF.ev rfl) (hF.ev rfl) rfl rfl rfl (S.free 0 rfl) rfl rfl) ?_; replace S := S.put 0 rfl (#[.int .i64 p127.1, .slice B128 p127.2.1.length d130, .int .i64 p127.2.2.1, .slice B131 p127.2.2.2.1.length d133, .int .i64 p127.2.2.2.2.1, .int .i64 p127.2.2.2.2.2.1, .int .i64 p127.2.2.2.2.2.2.1, .int .i64 p127.2.2.2.2.2.2.2.1])
        generalize World.setRow _ _ _ = u at S ⊢
        refine op_val (v := .int .i64 p127.2.2.2.2.2.2.2.2) rfl rfl hF rfl (run_assign rfl (hF.ev rfl)) ?_; clear hF; intro a hF
        refine wpList_nil ?_
        refine wp_region_lit ?_
        refine op_val (v := .agg #[.int .i64 p127.1, .slice B128 p127.2.1.length d130, .int .i64 p127.2.2.1, .slice B131 p127.2.2.2.1.length d133, .int .i64 p127.2.2.2.2.1, .int .i64 p127.2.2.2.2.2.1, .int .i64 p127.2.2.2.2.2.2.1, .int .i64 p127.2.2.2.2.2.2.2.1]) rfl rfl hF rfl (run_loadN rfl ag25 (hF.ev rfl) rfl ((S.free 0 rfl).cells 0 #[.int .i64 p127.1, .slice B128 p127.2.1.length d130, .int .i64 p127.2.2.1, .slice B131 p127.2.2.2.1.length d133, .int .i64 p127.2.2.2.2.1, .int .i64 p127.2.2.2.2.2.1, .int .i64 p127.2.2.2.2.2.2.1, .int .i64 p127.2.2.2.2.2.2.2.1] rfl)) ?_; clear hF; intro a hF
        refine op_do rfl rfl (run_store (cs' := #[.int .i64 p127.1, .slice B128 p127.2.1.length d130, .int .i64 p127.2.2.1, .slice B131 p127.2.2.2.1.length d133, .int .i64 p127.2.2.2.2.1, .int .i64 p127.2.2.2.2.2.1, .int .i64 p127.2.2.2.2.2.2.1, .int .i64 p127.2.2.2.2.2.2.2.1]) rfl sz25 (hF.ev rfl) (hF.ev rfl) rfl rfl rfl (S.free 4 rfl) rfl rfl) ?_; replace S := S.put 4 rfl (#[.int .i64 p127.1, .slice B128 p127.2.1.length d130, .int .i64 p127.2.2.1, .slice B131 p127.2.2.2.1.length d133, .int .i64 p127.2.2.2.2.1, .int .i64 p127.2.2.2.2.2.1, .int .i64 p127.2.2.2.2.2.2.1, .int .i64 p127.2.2.2.2.2.2.2.1])
        generalize World.setRow _ _ _ = u at S ⊢
        refine wpList_nil ?_
        refine wp_region_lit ?_
        refine op_val (v := .int .i64 p120.1) rfl rfl hF rfl (run_move rfl (hF.ev rfl)) ?_; clear hF; intro a hF
        refine op_val (v := .int .i64 (w64 (p120.1 + 1))) rfl rfl hF rfl (run_add (z := w64 (p120.1 + 1)) (hF.ev rfl) rfl rfl rfl) ?_; clear hF; intro a hF
        refine op_val (v := .int .i64 (w64 (p120.1 + 1))) rfl rfl hF rfl (run_assign rfl (hF.ev rfl)) ?_; clear hF; intro a hF
        refine wpList_nil ?_
        exact ⟨f1, Nat.lt_succ_self _, (w64 (p120.1 + 1), p127.1, p127.2.1, p127.2.2.1, p127.2.2.2.1, p127.2.2.2.2.1, p127.2.2.2.2.2.1, p127.2.2.2.2.2.2.1, p127.2.2.2.2.2.2.2.1), B128, d130, B131, d133, hM119, hF.keep _ ⟨rfl, rfl, rfl, rfl, trivial⟩, S.sel [4, 5, 6, 1, 2] rfl rfl⟩
    · rintro a u ⟨p113, B115, d116, B117, d118, rfl, hF, S⟩
      refine wp_seq ?_
      refine wp_region_lit ?_
      refine op_val (v := .agg #[.int .i64 p113.1, .slice B115 p113.2.1.length d116, .int .i64 p113.2.2.1, .slice B117 p113.2.2.2.1.length d118, .int .i64 p113.2.2.2.2.1, .int .i64 p113.2.2.2.2.2.1, .int .i64 p113.2.2.2.2.2.2.1, .int .i64 p113.2.2.2.2.2.2.2]) rfl rfl hF rfl (run_loadN rfl ag25 (hF.ev rfl) rfl ((S.free 0 rfl).cells 0 #[.int .i64 p113.1, .slice B115 p113.2.1.length d116, .int .i64 p113.2.2.1, .slice B117 p113.2.2.2.1.length d118, .int .i64 p113.2.2.2.2.1, .int .i64 p113.2.2.2.2.2.1, .int .i64 p113.2.2.2.2.2.2.1, .int .i64 p113.2.2.2.2.2.2.2] rfl)) ?_; clear hF; intro a hF
      refine op_do rfl rfl (run_store (cs' := #[.int .i64 p113.1, .slice B115 p113.2.1.length d116, .int .i64 p113.2.2.1, .slice B117 p113.2.2.2.1.length d118, .int .i64 p113.2.2.2.2.1, .int .i64 p113.2.2.2.2.2.1, .int .i64 p113.2.2.2.2.2.2.1, .int .i64 p113.2.2.2.2.2.2.2]) rfl sz25 (hF.ev rfl) (hF.ev rfl) rfl rfl rfl (S.free 1 rfl) rfl rfl) ?_; replace S := S.put 1 rfl (#[.int .i64 p113.1, .slice B115 p113.2.1.length d116, .int .i64 p113.2.2.1, .slice B117 p113.2.2.2.1.length d118, .int .i64 p113.2.2.2.2.1, .int .i64 p113.2.2.2.2.2.1, .int .i64 p113.2.2.2.2.2.2.1, .int .i64 p113.2.2.2.2.2.2.2])
      generalize World.setRow _ _ _ = u at S ⊢
      refine wpList_nil ?_
      refine wp_ret ?_
      repeat with_reducible (first | refine then_ret ?_ | refine in_ret ?_ | refine in_nrm ?_)
      refine ret1_gw (.inl rfl) hF rfl (res_cell (hF.ev rfl) (res_loadN ag25 rfl (S.cells 1 rfl 0 #[.int .i64 p113.1, .slice B115 p113.2.1.length d116, .int .i64 p113.2.2.1, .slice B117 p113.2.2.2.1.length d118, .int .i64 p113.2.2.2.2.1, .int .i64 p113.2.2.2.2.2.1, .int .i64 p113.2.2.2.2.2.2.1, .int .i64 p113.2.2.2.2.2.2.2] rfl))) ?_
      obtain rfl := Option.some.inj hM
      exact ⟨B115, p113.2.1.length, d116, B117, p113.2.2.2.1.length, d118, rfl, rfl, rfl, S.sel [2, 3] rfl rfl⟩

set_option maxHeartbeats 4000000 in
theorem c_laws_FnPollDrain {x0 : List Int} {A0 : Option Addr} {n0 c0 : Nat} {w : World} {r : Bool} (h0 : Rt w 1 eU A0 n0 c0 x0) (hM : m_laws_FnPollDrain x0 = some r) :
    Calls Tryd.prog 6 #[.slice A0 n0 c0] w (fun e w' => e = .returned (.bool r) ∧ St w w' []) := by
  obtain rfl := h0.len
  unfold m_laws_FnPollDrain at hM
  refine calls_gw Tryd.func6 Tryd.ntmps6 rfl [(0, .slice A0 x0.length c0)] ⟨rfl, trivial⟩ rfl ?_
  intro a hF
  have S := St.nil w
  refine wp_seq ?_
  refine wp_region_lit ?_
  refine op_val (v := .bool false) rfl rfl hF rfl (run_assign rfl rfl) ?_; clear hF; intro a hF
  refine wpList_nil ?_
  refine wp_seq ?_
  refine wp_seq ?_
  refine wp_region_lit ?_
  refine op_val (v := .slice A0 x0.length c0) rfl rfl hF rfl (run_move rfl (hF.ev rfl)) ?_; clear hF; intro a hF
  refine op_val (v := .int .i64 (x0.length : Int)) rfl rfl hF rfl (run_lenL rfl rfl Tryd.underlying22 (hF.ev rfl)) ?_; clear hF; intro a hF
  refine op_val (v := .bool (ltB 1048576 (x0.length : Int))) rfl rfl hF rfl (run_gtr (hF.ev rfl) rfl rfl) ?_; clear hF; intro a hF
  refine wpList_nil ?_
  cases hc101 : (ltB 1048576 (x0.length : Int))
  · replace hM := bif_f hc101 hM
    refine cond_f hF rfl hc101 ?_
    refine wp_skip ?_
    refine wp_seq ?_
    refine wp_region_lit ?_
    refine op_val (v := .slice A0 x0.length c0) rfl rfl hF rfl (run_move rfl (hF.ev rfl)) ?_; clear hF; intro a hF
    obtain ⟨p102, h102, hM⟩ := bind_ex hM
    refine op_call rfl rfl hF rfl (run_call (vs := [.slice A0 x0.length c0]) rfl rfl co21 ⟨(hF.ev rfl), trivial⟩) (c_spec_DrawPollDrain (x0 := x0) ⟨(S.rc0 h0.rc), rfl⟩ h102) ?_
    rintro e u ⟨B103, n104, d105, B106, n107, d108, rfl, rfl, rfl, T⟩
    refine ⟨_, rfl, ?_⟩
    clear hF; intro a hF
    replace S := S.call2 T; clear T
    refine op_new (cs := #[.int .i64 0, .slice none 0 0, .int .i64 0, .slice none 0 0, .int .i64 0, .int .i64 0, .int .i64 0, .int .i64 0]) rfl rfl hF rfl S (run_allocZ rfl zr25) ?_; clear hF S; intro a g109 u hF S
    refine op_do rfl rfl (run_store (cs' := #[.int .i64 p102.1, .slice B103 p102.2.1.length d105, .int .i64 p102.2.2.1, .slice B106 p102.2.2.2.1.length d108, .int .i64 p102.2.2.2.2.1, .int .i64 p102.2.2.2.2.2.1, .int .i64 p102.2.2.2.2.2.2.1, .int .i64 p102.2.2.2.2.2.2.2]) rfl sz25 (hF.ev rfl) (hF.ev rfl) rfl rfl rfl (S.free 0 rfl) rfl rfl) ?_; replace S := S.put 0 rfl (#[.int .i64 p102.1, .slice B103 p102.2.1.length d105, .int .i64 p102.2.2.1, .slice B106 p102.2.2.2.1.length d108, .int .i64 p102.2.2.2.2.1, .int .i64 p102.2.2.2.2.2.1, .int .i64 p102.2.2.2.2.2.2.1, .int .i64 p102.2.2.2.2.2.2.2])
    generalize World.setRow _ _ _ = u at S ⊢
    refine wpList_nil ?_
    refine wp_seq ?_
    refine wp_region_lit ?_
    refine op_val (v := .agg #[.int .i64 p102.1, .slice B103 p102.2.1.length d105, .int .i64 p102.2.2.1, .slice B106 p102.2.2.2.1.length d108, .int .i64 p102.2.2.2.2.1, .int .i64 p102.2.2.2.2.2.1, .int .i64 p102.2.2.2.2.2.2.1, .int .i64 p102.2.2.2.2.2.2.2]) rfl rfl hF rfl (run_loadN rfl ag25 (hF.ev rfl) rfl ((S.free 0 rfl).cells 0 #[.int .i64 p102.1, .slice B103 p102.2.1.length d105, .int .i64 p102.2.2.1, .slice B106 p102.2.2.2.1.length d108, .int .i64 p102.2.2.2.2.1, .int .i64 p102.2.2.2.2.2.1, .int .i64 p102.2.2.2.2.2.2.1, .int .i64 p102.2.2.2.2.2.2.2] rfl)) ?_; clear hF; intro a hF
    obtain ⟨p110, h110, hM⟩ := bind_ex hM
    refine op_call rfl rfl hF rfl (run_call (vs := [.agg #[.int .i64 p102.1, .slice B103 p102.2.1.length d105, .int .i64 p102.2.2.1, .slice B106 p102.2.2.2.1.length d108, .int .i64 p102.2.2.2.2.1, .int .i64 p102.2.2.2.2.2.1, .int .i64 p102.2.2.2.2.2.2.1, .int .i64 p102.2.2.2.2.2.2.2]]) rfl rfl co22 ⟨(hF.ev rfl), trivial⟩) (c_impl_PollDrain (x0 := p102.1) (x1 := p102.2.1) (x2 := p102.2.2.1) (x3 := p102.2.2.2.1) (x4 := p102.2.2.2.2.1) (x5 := p102.2.2.2.2.2.1) (x6 := p102.2.2.2.2.2.2.1) (x7 := p102.2.2.2.2.2.2.2) ⟨(S.rc 1 rfl), rfl⟩ ⟨(S.rc 2 rfl), rfl⟩ h110) ?_
    rintro e u ⟨B111, n112, d113, B114, n115, d116, rfl, rfl, rfl, T⟩
    refine ⟨_, rfl, ?_⟩
    clear hF; intro a hF
    replace S := S.call2 T; clear T
    refine op_new (cs := #[.int .i64 0, .slice none 0 0, .int .i64 0, .slice none 0 0, .int .i64 0, .int .i64 0, .int .i64 0, .int .i64 0]) rfl rfl hF rfl S (run_allocZ rfl zr25) ?_; clear hF S; intro a g117 u hF S
    refine op_do rfl rfl (run_store (cs' := #[.int .i64 p110.1, .slice B111 p110.2.1.length d113, .int .i64 p110.2.2.1, .slice B114 p110.2.2.2.1.length d116, .int .i64 p110.2.2.2.2.1, .int .i64 p110.2.2.2.2.2.1, .int .i64 p110.2.2.2.2.2.2.1, .int .i64 p110.2.2.2.2.2.2.2]) rfl sz25 (hF.ev rfl) (hF.ev rfl) rfl rfl rfl (S.free 0 rfl) rfl rfl) ?_; replace S := S.put 0 rfl (#[.int .i64 p110.1, .slice B111 p110.2.1.length d113, .int .i64 p110.2.2.1, .slice B114 p110.2.2.2.1.length d116, .int .i64 p110.2.2.2.2.1, .int .i64 p110.2.2.2.2.2.1, .int .i64 p110.2.2.2.2.2.2.1, .int .i64 p110.2.2.2.2.2.2.2])
    generalize World.setRow _ _ _ = u at S ⊢
    refine wpList_nil ?_
    refine wp_seq ?_
    refine wp_seq ?_
    obtain ⟨p118, h118, hM⟩ := bind_ex hM
    obtain ⟨p125, h125, hM⟩ := bind_ex hM
    refine region_gw (D := [17, 18, 19, 20, 21]) (Lr := [.box g117 25 #[.int .i64 p110.1, .slice B111 p110.2.1.length d113, .int .i64 p110.2.2.1, .slice B114 p110.2.2.2.1.length d116, .int .i64 p110.2.2.2.2.1, .int .i64 p110.2.2.2.2.2.1, .int .i64 p110.2.2.2.2.2.2.1, .int .i64 p110.2.2.2.2.2.2.2], .row 3 1 (.slice B111 p110.2.1.length d113) p110.2.1.length (p110.2.1.flatMap eI), .row 3 1 (.slice B114 p110.2.2.2.1.length d116) p110.2.2.2.1.length (p110.2.2.2.1.flatMap eI), .box g109 25 #[.int .i64 p102.1, .slice B103 p102.2.1.length d105, .int .i64 p102.2.2.1, .slice B106 p102.2.2.2.1.length d108, .int .i64 p102.2.2.2.2.1, .int .i64 p102.2.2.2.2.2.1, .int .i64 p102.2.2.2.2.2.2.1, .int .i64 p102.2.2.2.2.2.2.2], .row 3 1 (.slice B103 p102.2.1.length d105) p102.2.1.length (p102.2.1.flatMap eI), .row 3 1 (.slice B106 p102.2.2.2.1.length d108) p102.2.2.2.1.length (p102.2.2.2.1.flatMap eI)]) (deps := (fun | 0 => [17] | 1 => [18] | 2 => [19] | 3 => [20] | 4 => [21] | _ => [])) (rd := (fun | 3 => [2] | _ => [])) (zr := (fun _ => []))
      (φ := fun i vs => match i, vs with | 0, [v17] => v17 = .agg #[.int .i64 p110.1, .slice B111 p110.2.1.length d113, .int .i64 p110.2.2.1, .slice B114 p110.2.2.2.1.length d116, .int .i64 p110.2.2.2.2.1, .int .i64 p110.2.2.2.2.2.1, .int .i64 p110.2.2.2.2.2.2.1, .int .i64 p110.2.2.2.2.2.2.2] | 1, [v18] => v18 = .agg #[.int .i64 p102.1, .slice B103 p102.2.1.length d105, .int .i64 p102.2.2.1, .slice B106 p102.2.2.2.1.length d108, .int .i64 p102.2.2.2.2.1, .int .i64 p102.2.2.2.2.2.1, .int .i64 p102.2.2.2.2.2.2.1, .int .i64 p102.2.2.2.2.2.2.2] | 2, [v19] => v19 = .agg #[.int .i64 p118.1, .slice (slA (vtup v19 1)) p118.2.1.length (slC (vtup v19 1)), .int .i64 p118.2.2.1, .slice (slA (vtup v19 3)) p118.2.2.2.1.length (slC (vtup v19 3)), .int .i64 p118.2.2.2.2.1, .int .i64 p118.2.2.2.2.2.1, .int .i64 p118.2.2.2.2.2.2.1, .int .i64 p118.2.2.2.2.2.2.2] | 3, [v20] => v20 = .bool p125 | 4, [v21] => v21 = .bool (!p125) | _, _ => True)
      (C := fun i vs => match i, vs with | 2, [v19] => [.row 3 1 (.slice (slA (vtup v19 1)) p118.2.1.length (slC (vtup v19 1))) p118.2.1.length (p118.2.1.flatMap eI), .row 3 1 (.slice (slA (vtup v19 3)) p118.2.2.2.1.length (slC (vtup v19 3))) p118.2.2.2.1.length (p118.2.2.2.1.flatMap eI)] | _, _ => [])
      (κ := (fun _ => none)) (Z := (fun _ => [])) mixed hF (by kernel_rfl) S ?_ ?_
    · refine ⟨?_, ?_, ?_, ?_, ?_, trivial⟩
      · intro a u X hB hu hp hr hz hl S
        replace S : St w u ([] ++ X) := S
        exact .inl ⟨rfl, .agg #[.int .i64 p110.1, .slice B111 p110.2.1.length d113, .int .i64 p110.2.2.1, .slice B114 p110.2.2.2.1.length d116, .int .i64 p110.2.2.2.2.1, .int .i64 p110.2.2.2.2.2.1, .int .i64 p110.2.2.2.2.2.2.1, .int .i64 p110.2.2.2.2.2.2.2], u, (run_loadN rfl ag25 (hF.evB hB rfl rfl) rfl ((gr_box S hl 0 rfl).cells 0 #[.int .i64 p110.1, .slice B111 p110.2.1.length d113, .int .i64 p110.2.2.1, .slice B114 p110.2.2.2.1.length d116, .int .i64 p110.2.2.2.2.1, .int .i64 p110.2.2.2.2.2.1, .int .i64 p110.2.2.2.2.2.2.1, .int .i64 p110.2.2.2.2.2.2.2] rfl)), rfl, S⟩
      · intro a u X hB hu hp hr hz hl S
        replace S : St w u ([] ++ X) := S
        exact .inl ⟨rfl, .agg #[.int .i64 p102.1, .slice B103 p102.2.1.length d105, .int .i64 p102.2.2.1, .slice B106 p102.2.2.2.1.length d108, .int .i64 p102.2.2.2.2.1, .int .i64 p102.2.2.2.2.2.1, .int .i64 p102.2.2.2.2.2.2.1, .int .i64 p102.2.2.2.2.2.2.2], u, (run_loadN rfl ag25 (hF.evB hB rfl rfl) rfl ((gr_box S hl 3 rfl).cells 0 #[.int .i64 p102.1, .slice B103 p102.2.1.length d105, .int .i64 p102.2.2.1, .slice B106 p102.2.2.2.1.length d108, .int .i64 p102.2.2.2.2.1, .int .i64 p102.2.2.2.2.2.1, .int .i64 p102.2.2.2.2.2.2.1, .int .i64 p102.2.2.2.2.2.2.2] rfl)), rfl, S⟩
      · intro a u X hB hu hp hr hz hl S
        replace S : St w u ([] ++ X) := S
        have e18 : sl a 18 = .agg #[.int .i64 p102.1, .slice B103 p102.2.1.length d105, .int .i64 p102.2.2.1, .slice B106 p102.2.2.2.1.length d108, .int .i64 p102.2.2.2.2.1, .int .i64 p102.2.2.2.2.2.1, .int .i64 p102.2.2.2.2.2.2.1, .int .i64 p102.2.2.2.2.2.2.2] := hp 1 rfl
        refine .inr (.inr (.inl ⟨rfl, _, _, (run_call (vs := [.agg #[.int .i64 p102.1, .slice B103 p102.2.1.length d105, .int .i64 p102.2.2.1, .slice B106 p102.2.2.2.1.length d108, .int .i64 p102.2.2.2.2.1, .int .i64 p102.2.2.2.2.2.1, .int .i64 p102.2.2.2.2.2.2.1, .int .i64 p102.2.2.2.2.2.2.2]]) rfl rfl co23 ⟨(ev_sl e18), trivial⟩), ?_⟩))
        refine Calls.mono (c_spec_PollDrain (x0 := p102.1) (x1 := p102.2.1) (x2 := p102.2.2.1) (x3 := p102.2.2.2.1) (x4 := p102.2.2.2.2.1) (x5 := p102.2.2.2.2.2.1) (x6 := p102.2.2.2.2.2.2.1) (x7 := p102.2.2.2.2.2.2.2) ⟨(gr_rc S hl 4 rfl), rfl⟩ ⟨(gr_rc S hl 5 rfl), rfl⟩ h118) ?_
        rintro e w1 ⟨B119, n120, d121, B122, n123, d124, rfl, rfl, rfl, T⟩
        exact ⟨_, rfl, rfl, S.call2 T⟩
      · intro a u X hB hu hp hr hz hl S
        replace S : St w u ([] ++ X) := S
        have e17 : sl a 17 = .agg #[.int .i64 p110.1, .slice B111 p110.2.1.length d113, .int .i64 p110.2.2.1, .slice B114 p110.2.2.2.1.length d116, .int .i64 p110.2.2.2.2.1, .int .i64 p110.2.2.2.2.2.1, .int .i64 p110.2.2.2.2.2.2.1, .int .i64 p110.2.2.2.2.2.2.2] := hp 0 rfl
        have e19 : sl a 19 = .agg #[.int .i64 p118.1, .slice (slA (vtup (sl a 19) 1)) p118.2.1.length (slC (vtup (sl a 19) 1)), .int .i64 p118.2.2.1, .slice (slA (vtup (sl a 19) 3)) p118.2.2.2.1.length (slC (vtup (sl a 19) 3)), .int .i64 p118.2.2.2.2.1, .int .i64 p118.2.2.2.2.2.1, .int .i64 p118.2.2.2.2.2.2.1, .int .i64 p118.2.2.2.2.2.2.2] := hp 2 rfl
        refine .inr (.inr (.inl ⟨rfl, _, _, (run_call (vs := [.agg #[.int .i64 p110.1, .slice B111 p110.2.1.length d113, .int .i64 p110.2.2.1, .slice B114 p110.2.2.2.1.length d116, .int .i64 p110.2.2.2.2.1, .int .i64 p110.2.2.2.2.2.1, .int .i64 p110.2.2.2.2.2.2.1, .int .i64 p110.2.2.2.2.2.2.2], .agg #[.int .i64 p118.1, .slice (slA (vtup (sl a 19) 1)) p118.2.1.length (slC (vtup (sl a 19) 1)), .int .i64 p118.2.2.1, .slice (slA (vtup (sl a 19) 3)) p118.2.2.2.1.length (slC (vtup (sl a 19) 3)), .int .i64 p118.2.2.2.2.1, .int .i64 p118.2.2.2.2.2.1, .int .i64 p118.2.2.2.2.2.2.1, .int .i64 p118.2.2.2.2.2.2.2]]) rfl rfl co8 ⟨(ev_sl e17), (ev_sl e19), trivial⟩), ?_⟩))
        refine Calls.mono (c_laws_samePoll (x0 := p110.1) (x1 := p110.2.1) (x2 := p110.2.2.1) (x3 := p110.2.2.2.1) (x4 := p110.2.2.2.2.1) (x5 := p110.2.2.2.2.2.1) (x6 := p110.2.2.2.2.2.2.1) (x7 := p110.2.2.2.2.2.2.2) (x8 := p118.1) (x9 := p118.2.1) (x10 := p118.2.2.1) (x11 := p118.2.2.2.1) (x12 := p118.2.2.2.2.1) (x13 := p118.2.2.2.2.2.1) (x14 := p118.2.2.2.2.2.2.1) (x15 := p118.2.2.2.2.2.2.2) ⟨(gr_rc S hl 1 rfl), rfl⟩ ⟨(gr_rc S hl 2 rfl), rfl⟩ ⟨(own_rc (show Ow _ _ _ _ _ _ from S.mem (List.mem_append_right _ (hr 2 (List.mem_of_getElem? (i := 0) rfl) _ (List.mem_of_getElem? (i := 0) rfl))))), rfl⟩ ⟨(own_rc (show Ow _ _ _ _ _ _ from S.mem (List.mem_append_right _ (hr 2 (List.mem_of_getElem? (i := 0) rfl) _ (List.mem_of_getElem? (i := 1) rfl))))), rfl⟩ h125) ?_
        rintro e w1 ⟨rfl, T⟩
        exact ⟨_, rfl, rfl, S.call0 T⟩
      · intro a u X hB hu hp hr hz hl S
        replace S : St w u ([] ++ X) := S
        have e20 : sl a 20 = .bool p125 := hp 3 rfl
        exact .inl ⟨rfl, .bool (!p125), u, (run_not rfl (ev_sl e20)), rfl, S⟩
    · intro a u hB hp S
      obtain ⟨q0, q1, q2, q3, q4, _⟩ := hp
      have e17 : sl a 17 = .agg #[.int .i64 p110.1, .slice B111 p110.2.1.length d113, .int .i64 p110.2.2.1, .slice B114 p110.2.2.2.1.length d116, .int .i64 p110.2.2.2.2.1, .int .i64 p110.2.2.2.2.2.1, .int .i64 p110.2.2.2.2.2.2.1, .int .i64 p110.2.2.2.2.2.2.2] := q0
      have e18 : sl a 18 = .agg #[.int .i64 p102.1, .slice B103 p102.2.1.length d105, .int .i64 p102.2.2.1, .slice B106 p102.2.2.2.1.length d108, .int .i64 p102.2.2.2.2.1, .int .i64 p102.2.2.2.2.2.1, .int .i64 p102.2.2.2.2.2.2.1, .int .i64 p102.2.2.2.2.2.2.2] := q1
      have e19 : sl a 19 = .agg #[.int .i64 p118.1, .slice (slA (vtup (sl a 19) 1)) p118.2.1.length (slC (vtup (sl a 19) 1)), .int .i64 p118.2.2.1, .slice (slA (vtup (sl a 19) 3)) p118.2.2.2.1.length (slC (vtup (sl a 19) 3)), .int .i64 p118.2.2.2.2.1, .int .i64 p118.2.2.2.2.2.1, .int .i64 p118.2.2.2.2.2.2.1, .int .i64 p118.2.2.2.2.2.2.2] := q2
      have e20 : sl a 20 = .bool p125 := q3
      have e21 : sl a 21 = .bool (!p125) := q4
      replace S : St w u [.row 3 1 (.slice (slA (vtup (sl a 19) 1)) p118.2.1.length (slC (vtup (sl a 19) 1))) p118.2.1.length (p118.2.1.flatMap eI), .row 3 1 (.slice (slA (vtup (sl a 19) 3)) p118.2.2.2.1.length (slC (vtup (sl a 19) 3))) p118.2.2.2.1.length (p118.2.2.2.1.flatMap eI), .box g117 25 #[.int .i64 p110.1, .slice B111 p110.2.1.length d113, .int .i64 p110.2.2.1, .slice B114 p110.2.2.2.1.length d116, .int .i64 p110.2.2.2.2.1, .int .i64 p110.2.2.2.2.2.1, .int .i64 p110.2.2.2.2.2.2.1, .int .i64 p110.2.2.2.2.2.2.2], .row 3 1 (.slice B111 p110.2.1.length d113) p110.2.1.length (p110.2.1.flatMap eI), .row 3 1 (.slice B114 p110.2.2.2.1.length d116) p110.2.2.2.1.length (p110.2.2.2.1.flatMap eI), .box g109 25 #[.int .i64 p102.1, .slice B103 p102.2.1.length d105, .int .i64 p102.2.2.1, .slice B106 p102.2.2.2.1.length d108, .int .i64 p102.2.2.2.2.1, .int .i64 p102.2.2.2.2.2.1, .int .i64 p102.2.2.2.2.2.2.1, .int .i64 p102.2.2.2.2.2.2.2], .row 3 1 (.slice B103 p102.2.1.length d105) p102.2.1.length (p102.2.1.flatMap eI), .row 3 1 (.slice B106 p102.2.2.2.1.length d108) p102.2.2.2.1.length (p102.2.2.2.1.flatMap eI)] := S
      clear q0 q1 q2 q3 q4
      generalize slA (vtup (sl a 19) 1) = B126 at *
      generalize slC (vtup (sl a 19) 1) = d127 at *
      generalize slA (vtup (sl a 19) 3) = B128 at *
      generalize slC (vtup (sl a 19) 3) = d129 at *
      have hF := hF.region hB [(17, .agg #[.int .i64 p110.1, .slice B111 p110.2.1.length d113, .int .i64 p110.2.2.1, .slice B114 p110.2.2.2.1.length d116, .int .i64 p110.2.2.2.2.1, .int .i64 p110.2.2.2.2.2.1, .int .i64 p110.2.2.2.2.2.2.1, .int .i64 p110.2.2.2.2.2.2.2]), (18, .agg #[.int .i64 p102.1, .slice B103 p102.2.1.length d105, .int .i64 p102.2.2.1, .slice B106 p102.2.2.2.1.length d108, .int .i64 p102.2.2.2.2.1, .int .i64 p102.2.2.2.2.2.1, .int .i64 p102.2.2.2.2.2.2.1, .int .i64 p102.2.2.2.2.2.2.2]), (19, .agg #[.int .i64 p118.1, .slice B126 p118.2.1.length d127, .int .i64 p118.2.2.1, .slice B128 p118.2.2.2.1.length d129, .int .i64 p118.2.2.2.2.1, .int .i64 p118.2.2.2.2.2.1, .int .i64 p118.2.2.2.2.2.2.1, .int .i64 p118.2.2.2.2.2.2.2]), (20, .bool p125), (21, .bool (!p125))] (allSl_mem ⟨e17, e18, e19, e20, e21, trivial⟩) rfl
      clear hB e17 e18 e19 e20 e21
      cases hc130 : (p125)
      · replace hM := bif_f hc130 hM
        refine cond_t hF rfl (not_t hc130) ?_
        refine wp_seq ?_
        refine wp_region_lit ?_
        refine op_val (v := .bool false) rfl rfl hF rfl (run_assign rfl rfl) ?_; clear hF; intro a hF
        refine wpList_nil ?_
        refine wp_ret ?_
        repeat with_reducible (first | refine then_ret ?_ | refine in_ret ?_ | refine in_nrm ?_)
        refine ret1_gw (.inl rfl) hF rfl (res_tmp (hF.ev rfl)) ?_
        obtain rfl := Option.some.inj hM
        exact ⟨rfl, S.sel [] rfl rfl⟩
      · replace hM := bif_t hc130 hM
        refine cond_f hF rfl (not_f hc130) ?_
        refine wp_skip ?_
        refine wp_seq ?_
        refine wp_region_lit ?_
        refine op_val (v := .slice A0 x0.length c0) rfl rfl hF rfl (run_move rfl (hF.ev rfl)) ?_; clear hF; intro a hF
        obtain ⟨p131, h131, hM⟩ := bind_ex hM
        refine op_call rfl rfl hF rfl (run_call (vs := [.slice A0 x0.length c0]) rfl rfl co16 ⟨(hF.ev rfl), trivial⟩) (c_spec_DrawPollRun (x0 := x0) ⟨(S.rc0 h0.rc), rfl⟩ h131) ?_
        rintro e u ⟨B132, n133, d134, B135, n136, d137, B138, n139, d140, rfl, rfl, rfl, rfl, T⟩
        refine ⟨_, rfl, ?_⟩
        clear hF; intro a hF
        replace S := S.call3 T; clear T
        refine op_val (v := .tuple #[.agg #[.int .i64 p131.1, .slice B132 p131.2.1.length d134, .int .i64 p131.2.2.1, .slice B135 p131.2.2.2.1.length d137, .int .i64 p131.2.2.2.2.1, .int .i64 p131.2.2.2.2.2.1, .int .i64 p131.2.2.2.2.2.2.1, .int .i64 p131.2.2.2.2.2.2.2.1], .slice B138 p131.2.2.2.2.2.2.2.2.length d140]) rfl rfl hF rfl (run_move rfl (hF.ev rfl)) ?_; clear hF; intro a hF
        refine op_val (v := .agg #[.int .i64 p131.1, .slice B132 p131.2.1.length d134, .int .i64 p131.2.2.1, .slice B135 p131.2.2.2.1.length d137, .int .i64 p131.2.2.2.2.1, .int .i64 p131.2.2.2.2.2.1, .int .i64 p131.2.2.2.2.2.2.1, .int .i64 p131.2.2.2.2.2.2.2.1]) rfl rfl hF rfl (run_extract rfl (hF.ev rfl) rfl) ?_; clear hF; intro a hF
        refine op_val (v := .slice B138 p131.2.2.2.2.2.2.2.2.length d140) rfl rfl hF rfl (run_extract rfl (hF.ev rfl) rfl) ?_; clear hF; intro a hF
        refine op_new (cs := #[.int .i64 0, .slice none 0 0, .int .i64 0, .slice none 0 0, .int .i64 0, .int .i64 0, .int .i64 0, .int .i64 0]) rfl rfl hF rfl S (run_allocZ rfl zr25) ?_; clear hF S; intro a g141 u hF S
        refine op_do rfl rfl (run_store (cs' := #[.int .i64 p131.1, .slice B132 p131.2.1.length d134, .int .i64 p131.2.2.1, .slice B135 p131.2.2.2.1.length d137, .int .i64 p131.2.2.2.2.1, .int .i64 p131.2.2.2.2.2.1, .int .i64 p131.2.2.2.2.2.2.1, .int .i64 p131.2.2.2.2.2.2.2.1]) rfl sz25 (hF.ev rfl) (hF.ev rfl) rfl rfl rfl (S.free 0 rfl) rfl rfl) ?_; replace S := S.put 0 rfl (#[.int .i64 p131.1, .slice B132 p131.2.1.length d134, .int .i64 p131.2.2.1, .slice B135 p131.2.2.2.1.length d137, .int .i64 p131.2.2.2.2.1, .int .i64 p131.2.2.2.2.2.1, .int .i64 p131.2.2.2.2.2.2.1, .int .i64 p131.2.2.2.2.2.2.2.1])
        generalize World.setRow _ _ _ = u at S ⊢
        refine op_val (v := .slice B138 p131.2.2.2.2.2.2.2.2.length d140) rfl rfl hF rfl (run_assign rfl (hF.ev rfl)) ?_; clear hF; intro a hF
        refine wpList_nil ?_
        refine wp_seq ?_
        refine wp_region_lit ?_
        refine op_val (v := .slice B138 p131.2.2.2.2.2.2.2.2.length d140) rfl rfl hF rfl (run_move rfl (hF.ev rfl)) ?_; clear hF; intro a hF
        obtain ⟨p142, h142, hM⟩ := bind_ex hM
        refine op_call rfl rfl hF rfl (run_call (vs := [.slice B138 p131.2.2.2.2.2.2.2.2.length d140]) rfl rfl co19 ⟨(hF.ev rfl), trivial⟩) (c_laws_fresh (x0 := p131.2.2.2.2.2.2.2.2) ⟨(S.rc 3 rfl), rfl⟩ h142) ?_
        rintro e u ⟨B143, n144, d145, B146, n147, d148, B149, n150, d151, rfl, rfl, rfl, rfl, T⟩
        refine ⟨_, rfl, ?_⟩
        clear hF; intro a hF
        replace S := S.call3 T; clear T
        refine op_val (v := .tuple #[.agg #[.int .i64 p142.1, .slice B143 p142.2.1.length d145, .int .i64 p142.2.2.1, .slice B146 p142.2.2.2.1.length d148, .int .i64 p142.2.2.2.2.1, .int .i64 p142.2.2.2.2.2.1, .int .i64 p142.2.2.2.2.2.2.1, .int .i64 p142.2.2.2.2.2.2.2.1], .slice B149 p142.2.2.2.2.2.2.2.2.length d151]) rfl rfl hF rfl (run_move rfl (hF.ev rfl)) ?_; clear hF; intro a hF
        refine op_val (v := .agg #[.int .i64 p142.1, .slice B143 p142.2.1.length d145, .int .i64 p142.2.2.1, .slice B146 p142.2.2.2.1.length d148, .int .i64 p142.2.2.2.2.1, .int .i64 p142.2.2.2.2.2.1, .int .i64 p142.2.2.2.2.2.2.1, .int .i64 p142.2.2.2.2.2.2.2.1]) rfl rfl hF rfl (run_extract rfl (hF.ev rfl) rfl) ?_; clear hF; intro a hF
        refine op_val (v := .slice B149 p142.2.2.2.2.2.2.2.2.length d151) rfl rfl hF rfl (run_extract rfl (hF.ev rfl) rfl) ?_; clear hF; intro a hF
        refine op_new (cs := #[.int .i64 0, .slice none 0 0, .int .i64 0, .slice none 0 0, .int .i64 0, .int .i64 0, .int .i64 0, .int .i64 0]) rfl rfl hF rfl S (run_allocZ rfl zr25) ?_; clear hF S; intro a g152 u hF S
        refine op_do rfl rfl (run_store (cs' := #[.int .i64 p142.1, .slice B143 p142.2.1.length d145, .int .i64 p142.2.2.1, .slice B146 p142.2.2.2.1.length d148, .int .i64 p142.2.2.2.2.1, .int .i64 p142.2.2.2.2.2.1, .int .i64 p142.2.2.2.2.2.2.1, .int .i64 p142.2.2.2.2.2.2.2.1]) rfl sz25 (hF.ev rfl) (hF.ev rfl) rfl rfl rfl (S.free 0 rfl) rfl rfl) ?_; replace S := S.put 0 rfl (#[.int .i64 p142.1, .slice B143 p142.2.1.length d145, .int .i64 p142.2.2.1, .slice B146 p142.2.2.2.1.length d148, .int .i64 p142.2.2.2.2.1, .int .i64 p142.2.2.2.2.2.1, .int .i64 p142.2.2.2.2.2.2.1, .int .i64 p142.2.2.2.2.2.2.2.1])
        generalize World.setRow _ _ _ = u at S ⊢
        refine op_val (v := .slice B149 p142.2.2.2.2.2.2.2.2.length d151) rfl rfl hF rfl (run_assign rfl (hF.ev rfl)) ?_; clear hF; intro a hF
        refine wpList_nil ?_
        refine wp_seq ?_
        refine wp_region_lit ?_
        refine op_val (v := .agg #[.int .i64 p142.1, .slice B143 p142.2.1.length d145, .int .i64 p142.2.2.1, .slice B146 p142.2.2.2.1.length d148, .int .i64 p142.2.2.2.2.1, .int .i64 p142.2.2.2.2.2.1, .int .i64 p142.2.2.2.2.2.2.1, .int .i64 p142.2.2.2.2.2.2.2.1]) rfl rfl hF rfl (run_loadN rfl ag25 (hF.ev rfl) rfl ((S.free 0 rfl).cells 0 #[.int .i64 p142.1, .slice B143 p142.2.1.length d145, .int .i64 p142.2.2.1, .slice B146 p142.2.2.2.1.length d148, .int .i64 p142.2.2.2.2.1, .int .i64 p142.2.2.2.2.2.1, .int .i64 p142.2.2.2.2.2.2.1, .int .i64 p142.2.2.2.2.2.2.2.1] rfl)) ?_; clear hF; intro a hF
        obtain ⟨p153, h153, hM⟩ := bind_ex hM
        refine op_call rfl rfl hF rfl (run_call (vs := [.agg #[.int .i64 p142.1, .slice B143 p142.2.1.length d145, .int .i64 p142.2.2.1, .slice B146 p142.2.2.2.1.length d148, .int .i64 p142.2.2.2.2.1, .int .i64 p142.2.2.2.2.2.1, .int .i64 p142.2.2.2.2.2.2.1, .int .i64 p142.2.2.2.2.2.2.2.1]]) rfl rfl co22 ⟨(hF.ev rfl), trivial⟩) (c_impl_PollDrain (x0 := p142.1) (x1 := p142.2.1) (x2 := p142.2.2.1) (x3 := p142.2.2.2.1) (x4 := p142.2.2.2.2.1) (x5 := p142.2.2.2.2.2.1) (x6 := p142.2.2.2.2.2.2.1) (x7 := p142.2.2.2.2.2.2.2.1) ⟨(S.rc 1 rfl), rfl⟩ ⟨(S.rc 2 rfl), rfl⟩ h153) ?_
        rintro e u ⟨B154, n155, d156, B157, n158, d159, rfl, rfl, rfl, T⟩
        refine ⟨_, rfl, ?_⟩
        clear hF; intro a hF
        replace S := S.call2 T; clear T
        refine op_new (cs := #[.int .i64 0, .slice none 0 0, .int .i64 0, .slice none 0 0, .int .i64 0, .int .i64 0, .int .i64 0, .int .i64 0]) rfl rfl hF rfl S (run_allocZ rfl zr25) ?_; clear hF S; intro a g160 u hF S
        refine op_do rfl rfl (run_store (cs' := #[.int .i64 p153.1, .slice B154 p153.2.1.length d156, .int .i64 p153.2.2.1, .slice B157 p153.2.2.2.1.length d159, .int .i64 p153.2.2.2.2.1, .int .i64 p153.2.2.2.2.2.1, .int .i64 p153.2.2.2.2.2.2.1, .int .i64 p153.2.2.2.2.2.2.2]) rfl sz25 (hF.ev rfl) (hF.ev rfl) rfl rfl rfl (S.free 0 rfl) rfl rfl) ?_; replace S := S.put 0 rfl (#[.int .i64 p153.1, .slice B154 p153.2.1.length d156, .int .i64 p153.2.2.1, .slice B157 p153.2.2.2.1.length d159, .int .i64 p153.2.2.2.2.1, .int .i64 p153.2.2.2.2.2.1, .int .i64 p153.2.2.2.2.2.2.1, .int .i64 p153.2.2.2.2.2.2.2])
        generalize World.setRow _ _ _ = u at S ⊢
        refine wpList_nil ?_
        refine wp_seq ?_
        refine wp_region_lit ?_
        refine op_val (v := .pointer (some ⟨g160, 1, none⟩)) rfl rfl hF rfl (run_fieldAddr rfl fl25_1 (hF.ev rfl) rfl) ?_; clear hF; intro a hF
        refine op_val (v := .slice B154 p153.2.1.length d156) rfl rfl hF rfl (run_load1 rfl one23 (hF.ev rfl) ((S.free 0 rfl).cell rfl)) ?_; clear hF; intro a hF
        refine op_val (v := .slice B149 p142.2.2.2.2.2.2.2.2.length d151) rfl rfl hF rfl (run_move rfl (hF.ev rfl)) ?_; clear hF; intro a hF
        obtain ⟨p161, h161, hM⟩ := bind_ex hM
        refine op_call rfl rfl hF rfl (run_call (vs := [.slice B154 p153.2.1.length d156, .slice B149 p142.2.2.2.2.2.2.2.2.length d151]) rfl rfl co20 ⟨(hF.ev rfl), (hF.ev rfl), trivial⟩) (c_laws_sameInts (x0 := p153.2.1) (x1 := p142.2.2.2.2.2.2.2.2) ⟨(S.rc 1 rfl), rfl⟩ ⟨(S.rc 6 rfl), rfl⟩ h161) ?_
        rintro e u ⟨rfl, T⟩
        refine ⟨_, rfl, ?_⟩
        clear hF; intro a hF
        replace S := S.call0 T; clear T
        refine op_val (v := .bool p161) rfl rfl hF rfl (run_move rfl (hF.ev rfl)) ?_; clear hF; intro a hF
        refine op_gv (v := .pointer (some ⟨g160, 3, none⟩)) rfl rfl hF rfl (yt (gw_yield hF rfl rfl rfl)) (fun hg => (run_fieldAddr rfl fl25_3 (hF.ev rfl) rfl)) ?_; clear hF; intro a hF
        refine op_gv (v := .slice B157 p153.2.2.2.1.length d159) rfl rfl hF rfl (yt (gw_yield hF rfl rfl rfl)) (fun hg => (run_load1 rfl one23 ((hF.ev rfl).trans (gv_t hg)) ((S.free 0 rfl).cell rfl))) ?_; clear hF; intro a hF
        refine op_gv (v := .int .i64 (p153.2.2.2.1.length : Int)) rfl rfl hF rfl (yt (gw_yield hF rfl rfl rfl)) (fun hg => (run_lenL rfl rfl Tryd.underlying23 ((hF.ev rfl).trans (gv_t hg)))) ?_; clear hF; intro a hF
        refine op_gv (v := .bool ((p153.2.2.2.1.length : Int) == 0)) rfl rfl hF rfl (yt (gw_yield hF rfl rfl rfl)) (fun hg => (run_eql ((hF.ev rfl).trans (gv_t hg)) rfl rfl)) ?_; clear hF; intro a hF
        refine op_val (v := .bool (p161 && ((p153.2.2.2.1.length : Int) == 0))) rfl rfl hF rfl (run_pick_and rfl (hF.ev rfl) (fun hp => ((hF.ev rfl).trans (gv_t hp))) rfl) ?_; clear hF; intro a hF
        refine op_val (v := .bool (p161 && ((p153.2.2.2.1.length : Int) == 0))) rfl rfl hF rfl (run_move rfl (hF.ev rfl)) ?_; clear hF; intro a hF
        obtain ⟨p162, h162, hM⟩ := bind_ex hM
        refine op_gcall (v := .bool p162) rfl rfl hF rfl S (yt (gw_yield hF rfl rfl rfl)) (fun hg => (run_call (vs := []) rfl rfl co12 trivial)) (fun hg => c_laws_alive   (gb_t h162 hg)) ?_; clear hF S; intro a u hF S
        refine op_val (v := .bool ((p161 && ((p153.2.2.2.1.length : Int) == 0)) && p162)) rfl rfl hF rfl (run_pick_and rfl (hF.ev rfl) (fun hp => ((hF.ev rfl).trans (gv_t hp))) rfl) ?_; clear hF; intro a hF
        refine op_val (v := .bool ((p161 && ((p153.2.2.2.1.length : Int) == 0)) && p162)) rfl rfl hF rfl (run_assign rfl (hF.ev rfl)) ?_; clear hF; intro a hF
        refine wpList_nil ?_
        refine wp_ret ?_
        repeat with_reducible (first | refine then_ret ?_ | refine in_ret ?_ | refine in_nrm ?_)
        refine ret1_gw (.inl rfl) hF rfl (res_tmp (hF.ev rfl)) ?_
        obtain rfl := Option.some.inj hM
        exact ⟨rfl, S.sel [] rfl rfl⟩
  · replace hM := bif_t hc101 hM
    refine cond_t hF rfl hc101 ?_
    refine wp_seq ?_
    refine wp_region_lit ?_
    refine op_val (v := .bool true) rfl rfl hF rfl (run_assign rfl rfl) ?_; clear hF; intro a hF
    refine wpList_nil ?_
    refine wp_ret ?_
    repeat with_reducible (first | refine then_ret ?_ | refine in_ret ?_ | refine in_nrm ?_)
    refine ret1_gw (.inl rfl) hF rfl (res_tmp (hF.ev rfl)) ?_
    obtain rfl := Option.some.inj hM
    exact ⟨rfl, S.sel [] rfl rfl⟩

end Go.Proofs.YtceghkdjpkegaaaDoor
