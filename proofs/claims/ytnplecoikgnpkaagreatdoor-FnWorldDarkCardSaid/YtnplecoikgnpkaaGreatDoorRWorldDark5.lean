/- Texts of the claim, one behind the other: Da1, Da2, Pu, Draw, Yd, Sm, WkA, WkP. -/
import Derived.Test.YtnplecoikgnpkaaGreatDoorRWorldDark4
namespace Go.Proofs.YtnplecoikgnpkaaGreatDoor
open Go.ChangeShapes Go.WideShapes Go.ChangeAt Go.RowKit
set_option linter.unusedVariables false
set_option linter.unusedSimpArgs false
set_option maxRecDepth 100000
noncomputable section
def tys : List (Nat × TyI) := [(3, ⟨.int .i64, 1, 8, [.int .i64 0], (.int .i64)⟩), (4, ⟨.bo, 1, 1, [.bool false], .b⟩), (5, ⟨.int .u8, 1, 1, [.int .u8 0], (.int .u8)⟩), (9, ⟨.st, 1, 16, [.str ByteArray.empty], .s⟩), (22, ⟨.sl 5, 1, 24, [.ns], .b⟩), (23, ⟨.sl 71, 1, 24, [.ns], .b⟩), (25, ⟨.ag [(0, 1), (1, 1)], 2, 32, [.int .i64 0, .ns], .b⟩), (26, ⟨.sl 42, 1, 24, [.ns], .b⟩), (27, ⟨.sl 4, 1, 24, [.ns], .b⟩), (28, ⟨.sl 93, 1, 24, [.ns], .b⟩), (30, ⟨.ag [(0, 1), (1, 1), (2, 1)], 3, 72, [.ns, .ns, .ns], .b⟩), (31, ⟨.sl 3, 1, 24, [.ns], .b⟩), (33, ⟨.ag [(0, 2), (2, 1), (3, 3), (6, 1)], 7, 152, [.int .i64 0, .ns, .ns, .ns, .ns, .ns, .ns], .b⟩), (42, ⟨.ag [(0, 1), (1, 1)], 2, 16, [.int .i64 0, .int .i64 0], (.p (.int .i64) (.int .i64))⟩), (46, ⟨.ag [(0, 1), (1, 1), (2, 1)], 3, 24, [.int .i64 0, .int .i64 0, .int .i64 0], (.p (.int .i64) (.p (.int .i64) (.int .i64)))⟩), (49, ⟨.sl 46, 1, 24, [.ns], .b⟩), (64, ⟨.ot, 1, 8, [.np], .b⟩), (71, ⟨.ag [(0, 1), (1, 1), (2, 1)], 3, 24, [.int .i64 0, .int .i64 0, .int .i64 0], (.p (.int .i64) (.p (.int .i64) (.int .i64)))⟩), (73, ⟨.sl 3, 1, 24, [.ns], .b⟩), (75, ⟨.ar 8 3, 8, 64, [.int .i64 0, .int .i64 0, .int .i64 0, .int .i64 0, .int .i64 0, .int .i64 0, .int .i64 0, .int .i64 0], .b⟩), (77, ⟨.ag [(0, 8), (8, 8)], 16, 128, [.int .i64 0, .int .i64 0, .int .i64 0, .int .i64 0, .int .i64 0, .int .i64 0, .int .i64 0, .int .i64 0, .int .i64 0, .int .i64 0, .int .i64 0, .int .i64 0, .int .i64 0, .int .i64 0, .int .i64 0, .int .i64 0], (.p (.int .i64) (.p (.int .i64) (.p (.int .i64) (.p (.int .i64) (.p (.int .i64) (.p (.int .i64) (.p (.int .i64) (.p (.int .i64) (.p (.int .i64) (.p (.int .i64) (.p (.int .i64) (.p (.int .i64) (.p (.int .i64) (.p (.int .i64) (.p (.int .i64) (.int .i64))))))))))))))))⟩), (85, ⟨.ar 3 3, 3, 24, [.int .i64 0, .int .i64 0, .int .i64 0], .b⟩), (87, ⟨.sl 91, 1, 24, [.ns], .b⟩), (91, ⟨.ag [(0, 1), (1, 1)], 2, 16, [.int .i64 0, .bool false], (.p (.int .i64) .b)⟩), (93, ⟨.ag [(0, 1), (1, 1)], 2, 16, [.int .i64 0, .int .i64 0], (.p (.int .i64) (.int .i64))⟩), (102, ⟨.ag [(0, 2), (2, 1), (3, 1), (4, 1)], 5, 104, [.int .i64 0, .ns, .ns, .ns, .ns], .b⟩), (110, ⟨.ag [(0, 1), (1, 1)], 2, 32, [.ns, .int .i64 0], .b⟩), (119, ⟨.ag [(0, 1), (1, 1)], 2, 32, [.np, .ns], .b⟩), (151, ⟨.int .u64, 1, 8, [.int .u64 0], .b⟩)]
theorem tys_ok : tysOk Tryz.prog tys = true := by kernel_rfl
def eqt : List (Nat × EK) := [(42, (.p (.int .i64) (.int .i64))), (46, (.p (.int .i64) (.p (.int .i64) (.int .i64)))), (71, (.p (.int .i64) (.p (.int .i64) (.int .i64)))), (93, (.p (.int .i64) (.int .i64)))]
theorem c_spec_l20Open {x0 : List Int} {A0 : Option Addr} {n0 c0 : Nat} {w : World} (h0 : Rt w 1 eU A0 n0 c0 x0) :
    Calls Tryz.prog 37 #[.slice A0 n0 c0] w (fun e w' => ∃ G0, e = .returned (.pointer (some ⟨G0, 0, none⟩)) ∧ St w w' [.box G0 110 #[.slice (opA c0 n0 A0) (x0.take 2000).length c0, .int .i64 0]]) := by
  obtain rfl := h0.len
  refine calls_gw Tryz.func37 Tryz.ntmps37 rfl [(0, .slice A0 x0.length c0)] ⟨rfl, trivial⟩ rfl ?_
  intro a hF
  have S := St.nil w
  refine wp_seq ?_
  refine wp_region_lit ?_
  refine op_val (v := .pointer none) rfl rfl hF rfl (run_assign rfl rfl) ?_; clear hF; intro a hF
  refine wpList_nil ?_
  refine wp_seq ?_
  refine wp_seq ?_
  refine wp_region_lit ?_
  refine op_val (v := .slice A0 x0.length c0) rfl rfl hF rfl (run_move rfl (hF.ev rfl)) ?_; clear hF; intro a hF
  refine op_val (v := .int .i64 (x0.length : Int)) rfl rfl hF rfl (run_lenL rfl rfl Tryz.underlying22 (hF.ev rfl)) ?_; clear hF; intro a hF
  refine op_val (v := .bool (ltB 2000 (x0.length : Int))) rfl rfl hF rfl (run_gtr (hF.ev rfl) rfl rfl) ?_; clear hF; intro a hF
  refine wpList_nil ?_
  cases hc101 : (ltB 2000 (x0.length : Int))
  · have hc101_ := hc101
    refine cond_f hF rfl hc101 ?_
    refine wp_skip ?_
    refine wp_seq ?_
    refine wp_region_lit ?_
    refine op_val (v := .slice A0 x0.length c0) rfl rfl hF rfl (run_move rfl (hF.ev rfl)) ?_; clear hF; intro a hF
    refine op_val (v := .agg #[.slice A0 x0.length c0, .int .i64 0]) rfl rfl hF rfl (run_build (vs := [(0, .slice A0 x0.length c0)]) rfl ⟨⟨rfl, (hF.ev rfl)⟩, trivial⟩ (bd110_0 rfl)) ?_; clear hF; intro a hF
    refine op_new (cs := #[.slice A0 x0.length c0, .int .i64 0]) rfl rfl hF rfl S (run_box rfl (hF.ev rfl) rfl) ?_; clear hF S; intro a g102 u hF S
    refine op_val (v := .pointer (some ⟨g102, 0, none⟩)) rfl rfl hF rfl (run_assign rfl (hF.ev rfl)) ?_; clear hF; intro a hF
    refine wpList_nil ?_
    refine wp_ret ?_
    repeat with_reducible (first | refine then_ret ?_ | refine in_ret ?_ | refine in_nrm ?_)
    refine ret1_gw (.inl rfl) hF rfl (res_tmp (hF.ev rfl)) ?_
    have q1 := ltB_f hc101
    rw [opA, if_neg (by omega), List.take_of_length_le (by omega)]
    exact ⟨g102, rfl, S.sel [0] rfl rfl⟩
  · have hc101_ := hc101
    refine cond_t hF rfl hc101 ?_
    refine wp_region_lit ?_
    refine op_val (v := .slice A0 x0.length c0) rfl rfl hF rfl (run_move rfl (hF.ev rfl)) ?_; clear hF; intro a hF
    have hk103 := slB_t (show slB 0 2000 x0.length = true by have := ltB_t hc101; simp [slB]; omega)
    refine op_val (v := .slice (subA c0 ((0 : Int).toNat) 1 A0) ((subL x0 0 2000).length) (c0 - (0 : Int).toNat)) rfl rfl hF rfl (run_sliceH (l := x0) rfl Tryz.underlying22 sz5 (hF.ev rfl) rfl hk103 rfl (S.rc0 h0.rc).cap) ?_; clear hF; intro a hF
    refine op_val (v := .slice (subA c0 ((0 : Int).toNat) 1 A0) ((subL x0 0 2000).length) (c0 - (0 : Int).toNat)) rfl rfl hF rfl (run_assign rfl (hF.ev rfl)) ?_; clear hF; intro a hF
    refine wpList_nil ?_
    refine wp_seq ?_
    refine wp_region_lit ?_
    refine op_val (v := .slice (subA c0 ((0 : Int).toNat) 1 A0) ((subL x0 0 2000).length) (c0 - (0 : Int).toNat)) rfl rfl hF rfl (run_move rfl (hF.ev rfl)) ?_; clear hF; intro a hF
    refine op_val (v := .agg #[.slice (subA c0 ((0 : Int).toNat) 1 A0) ((subL x0 0 2000).length) (c0 - (0 : Int).toNat), .int .i64 0]) rfl rfl hF rfl (run_build (vs := [(0, .slice (subA c0 ((0 : Int).toNat) 1 A0) ((subL x0 0 2000).length) (c0 - (0 : Int).toNat))]) rfl ⟨⟨rfl, (hF.ev rfl)⟩, trivial⟩ (bd110_0 rfl)) ?_; clear hF; intro a hF
    refine op_new (cs := #[.slice (subA c0 ((0 : Int).toNat) 1 A0) ((subL x0 0 2000).length) (c0 - (0 : Int).toNat), .int .i64 0]) rfl rfl hF rfl S (run_box rfl (hF.ev rfl) rfl) ?_; clear hF S; intro a g104 u hF S
    refine op_val (v := .pointer (some ⟨g104, 0, none⟩)) rfl rfl hF rfl (run_assign rfl (hF.ev rfl)) ?_; clear hF; intro a hF
    refine wpList_nil ?_
    refine wp_ret ?_
    repeat with_reducible (first | refine then_ret ?_ | refine in_ret ?_ | refine in_nrm ?_)
    refine ret1_gw (.inl rfl) hF rfl (res_tmp (hF.ev rfl)) ?_
    have q1 := ltB_t hc101
    rw [opA, if_pos (by omega), take_sub]
    exact ⟨g104, rfl, S.sel [0] rfl rfl⟩
def opn : List (Nat × Nat) := [(37, 110)]
theorem opn_ok : Opens Tryz.prog opn := ⟨open_ok ⟨by kernel_rfl⟩ c_spec_l20Open, trivial⟩
theorem eqt_ok : Eqps Tryz.prog eqt := ⟨⟨eg42, fun w x y => eq42⟩, ⟨eg46, fun w x y => eq46⟩, ⟨eg71, fun w x y => eq71⟩, ⟨eg93, fun w x y => eq93⟩, trivial⟩
def k_impl_Net_hasBus : Ctr := ⟨118, [.g [.int .i64, .sl .ro 71 (.p (.int .i64) (.p (.int .i64) (.int .i64)))], .o (.int .i64)], [.o .b], false, fun x => m_impl_Net_hasBus x.1 x.2.1 x.2.2⟩
theorem d_impl_Net_hasBus : Cok Tryz.prog k_impl_Net_hasBus := cok (op := opn) (cs := []) (rv := [.tmp 4]) (crt := .q .z (.q .z .z)) tys_ok eqt_ok rfl trivial opn_ok co118 Tryz.func118 rfl Tryz.ntmps118 rfl rfl (fun _ => by kernel_rfl)
def m_impl_NetValid_l1s (x0 : Int) (x1 : List (Int × Int × Int)) (rec : Int → Option (Unit ⊕ Bool)) (p106 : Int) : Option (Unit ⊕ Bool) := (bif ltB p106 (x1.length : Int) then chk (ixB p106 x1.length) (Option.bind (m_impl_Net_hasBus x0 x1 ((x1.getD p106.toNat ((0, 0, 0) : Int × Int × Int)).1)) (fun (p110 : Bool) => Option.bind (gb (!(!p110)) (m_impl_Net_hasBus x0 x1 ((x1.getD p106.toNat ((0, 0, 0) : Int × Int × Int)).2.1))) (fun (p111 : Bool) => (bif ((((!p110) || (!p111)) || (((x1.getD p106.toNat ((0, 0, 0) : Int × Int × Int)).1) == ((x1.getD p106.toNat ((0, 0, 0) : Int × Int × Int)).2.1))) || (ltB ((x1.getD p106.toNat ((0, 0, 0) : Int × Int × Int)).2.2) 1)) || (ltB 999 ((x1.getD p106.toNat ((0, 0, 0) : Int × Int × Int)).2.2)) then some (Sum.inr false) else rec (w64 (p106 + 1)))))) else some (Sum.inl ()))
def m_impl_NetValid_l1i (x0 : Int) (x1 : List (Int × Int × Int)) : Nat → Int → Option (Unit ⊕ Bool) := itr (m_impl_NetValid_l1s x0 x1)
theorem q_m_impl_NetValid_l1 : @m_impl_NetValid_l1 = @m_impl_NetValid_l1i := by
  funext x0 x1 n
  induction n with
  | zero => rfl
  | succ n ih =>
    funext p
    show _ = m_impl_NetValid_l1s x0 x1 (m_impl_NetValid_l1i x0 x1 n) p
    rw [← ih]
    rfl
def m_impl_NetValidi (x0 : Int) (x1 : List (Int × Int × Int)) : Option (Bool) := (bif ((ltB x0 1) || (ltB 8 x0)) || (ltB 10 (x1.length : Int)) then some false else Option.bind (m_impl_NetValid_l1i x0 x1 FUEL 0 : Option (Unit ⊕ Bool)) (Sum.elim (fun (p103 : Unit) => some true) (fun (r : Bool) => some r)))
theorem q_m_impl_NetValid : @m_impl_NetValid = @m_impl_NetValidi := by
  funext x0 x1
  unfold m_impl_NetValidi
  rw [← q_m_impl_NetValid_l1]
  rfl
def k_impl_NetValid : Ctr := ⟨84, [.g [.int .i64, .sl .ro 71 (.p (.int .i64) (.p (.int .i64) (.int .i64)))]], [.o .b], false, fun x => m_impl_NetValid x.1 x.2⟩
theorem d_impl_NetValid : Cok Tryz.prog k_impl_NetValid := cok (op := opn) (cs := [k_impl_Net_hasBus]) (rv := [.tmp 2]) (crt := .q .z (.q (.q .z (.q (.q .z .z) .z)) (.q (.q .z (.cut ⟨[(2, .o .k)], [], []⟩ [.rt] (.b (.lp ⟨[(1, .o .k), (2, .o .k), (20, .o .k), (21, .o .k), (22, .o (.i .i64))], [(1, [.k, .k])], []⟩ (.q .z (.q (.q .z .z) (.q (.b (.q .z (.q .z (.q (.q .z .z) .z)))) .z))))))) (.q .z .z)))) tys_ok eqt_ok rfl ⟨d_impl_Net_hasBus, trivial⟩ opn_ok co84 Tryz.func84 rfl Tryz.ntmps84 rfl rfl (fun x => by
  show m_impl_NetValid x.1 x.2 = _
  rw [q_m_impl_NetValid]
  kernel_rfl)
theorem c_impl_NetValid {x0 : Int} {x1 : List (Int × Int × Int)} {A1 : Option Addr} {n1 c1 : Nat} {w : World} {r : Bool} (h1 : Rt w 3 eLine A1 n1 c1 x1) (hM : m_impl_NetValid x0 x1 = some r) :
    Calls Tryz.prog 84 #[.agg #[.int .i64 x0, .slice A1 n1 c1]] w (fun e w' => e = .returned (.bool r) ∧ St w w' []) := by
  obtain rfl := h1.len
  exact law_c d_impl_NetValid (x := (x0, x1)) hM (e := parE [(none, 0), (A1, c1)]) trivial ⟨_, _, rfl, ⟨_, _, rfl⟩, ⟨_, _, rfl, ⟨_, rfl, fun _ _ S _ => S.rc0 h1.rc⟩, rfl⟩⟩ rfl rfl rfl
theorem c_impl_NetText_bad {x0 : Int} {x1 : List (Int × Int × Int)} {A1 : Option Addr} {n1 c1 : Nat} {w : World} (h1 : Rt w 3 eLine A1 n1 c1 x1) (hv : m_impl_NetValid x0 x1 = some false) :
    Calls Tryz.prog 46 #[.agg #[.int .i64 x0, .slice A1 n1 c1]] w (fun e w' => e = .returned (.string ({ data := #[] } : ByteArray)) ∧ St w w' []) := by
  obtain rfl := h1.len
  refine calls_gw Tryz.func46 Tryz.ntmps46 rfl [(0, .agg #[.int .i64 x0, .slice A1 x1.length c1])] ⟨rfl, trivial⟩ rfl ?_
  intro a hF
  have S := St.nil w
  refine wp_seq ?_
  refine wp_region_lit ?_
  refine op_new (cs := #[.int .i64 x0, .slice A1 x1.length c1]) rfl rfl hF rfl S (run_box rfl (hF.ev rfl) rfl) ?_; clear hF S; intro a g101 u hF S
  refine op_val (v := .string ({ data := #[] } : ByteArray)) rfl rfl hF rfl (run_assign rfl rfl) ?_; clear hF; intro a hF
  refine wpList_nil ?_
  refine wp_seq ?_
  refine wp_seq ?_
  refine wp_region_lit ?_
  refine op_val (v := .agg #[.int .i64 x0, .slice A1 x1.length c1]) rfl rfl hF rfl (run_loadN rfl ag25 (hF.ev rfl) rfl ((S.free 0 rfl).cells 0 #[.int .i64 x0, .slice A1 x1.length c1] rfl)) ?_; clear hF; intro a hF
  refine op_call rfl rfl hF rfl (run_call (vs := [.agg #[.int .i64 x0, .slice A1 x1.length c1]]) rfl rfl co84 ⟨(hF.ev rfl), trivial⟩) (c_impl_NetValid ⟨(S.rc0 h1.rc), rfl⟩ hv) ?_
  rintro e u ⟨rfl, T⟩
  refine ⟨_, rfl, ?_⟩
  clear hF; intro a hF
  replace S := S.call0 T; clear T
  refine op_val (v := .bool (!false)) rfl rfl hF rfl (run_not rfl (hF.ev rfl)) ?_; clear hF; intro a hF
  refine wpList_nil ?_
  refine cond_t hF rfl (not_t rfl) ?_
  refine wp_seq ?_
  refine wp_region_lit ?_
  refine op_val (v := .string ({ data := #[] } : ByteArray)) rfl rfl hF rfl (run_assign rfl rfl) ?_; clear hF; intro a hF
  refine wpList_nil ?_
  refine wp_ret ?_
  repeat with_reducible (first | refine then_ret ?_ | refine in_ret ?_ | refine in_nrm ?_)
  refine ret1_gw (.inl rfl) hF rfl (res_tmp (hF.ev rfl)) ?_
  exact ⟨rfl, S.sel [] rfl rfl⟩
def k_impl_NetText : Ctr := ⟨46, [.g [.int .i64, .sl .ro 71 (.p (.int .i64) (.p (.int .i64) (.int .i64)))]], [.o .s], false, fun x => m_impl_NetText_bad x.1 x.2⟩
theorem d_impl_NetText : Cok Tryz.prog k_impl_NetText := ⟨co46, fun x res hm e w0 w X _ hp hS => by
  obtain ⟨p, hv, hk⟩ := bind_ex (show m_impl_NetText_bad x.1 x.2 = some res from hm)
  cases p with
  | true => cases hk
  | false =>
  injection hk with hk
  subst hk
  obtain ⟨v0, r0, q0, l0, p1⟩ := hp
  obtain ⟨v1, r1, q1, l1, p2⟩ := p1
  replace q1 := (List.tail_eq_of_cons_eq q0).trans q1
  obtain ⟨z1, m1, hro1⟩ := l1
  replace m1 := (List.head_eq_of_cons_eq q1).trans m1
  injection m1 with _ m1
  subst m1
  refine (c_impl_NetText_bad (w := w) (A1 := e.a 1) (n1 := List.length x.2) (c1 := e.c 1) ⟨hro1 w _ hS (fun y hy => List.mem_append_right _ hy), rfl⟩ hv).mono ?_
  rintro en w' ⟨rfl, S⟩
  exact ⟨[_], [], rfl, ⟨[_], [], [], [], [], [], rfl, rfl, ⟨_, [], _, [], [], [], rfl, rfl, rfl, ⟨_, rfl, rfl, rfl⟩, rfl, rfl, rfl⟩, ⟨rfl, rfl⟩, ⟨[], [], [], [], rfl, rfl, ⟨rfl, rfl⟩, ⟨rfl, rfl⟩⟩⟩, hS.call0 S⟩⟩
def k_spec_l20Rd_pick : Ctr := ⟨59, [.bx 110 [.sl .ro 5 (.int .u8), .int .i64], .o (.int .i64)], [.o (.int .i64)], true, fun x => m_spec_l20Rd_pick x.1 x.2.1 x.2.2⟩
theorem d_spec_l20Rd_pick : Cok Tryz.prog k_spec_l20Rd_pick := cok (op := opn) (cs := []) (rv := [.tmp 4]) (crt := .q .z (.q .z (.q (.q .z (.q (.q .z .z) .z)) (.q .z (.q (.q .z (.q (.q .z .z) .z)) (.q .z (.q .z (.q .z .z)))))))) tys_ok eqt_ok rfl trivial opn_ok co59 Tryz.func59 rfl Tryz.ntmps59 rfl rfl (fun _ => by kernel_rfl)
def k_spec_l20Rd_odd : Ctr := ⟨76, [.bx 110 [.sl .ro 5 (.int .u8), .int .i64], .o (.int .i64)], [.o .b], true, fun x => m_spec_l20Rd_odd x.1 x.2.1 x.2.2⟩
theorem d_spec_l20Rd_odd : Cok Tryz.prog k_spec_l20Rd_odd := cok (op := opn) (cs := [k_spec_l20Rd_pick]) (rv := [.tmp 4]) (crt := .q .z (.q (.cut ⟨[(4, .o .b)], [(4096, [.k, .i .i64])], []⟩ [] .z) .z)) tys_ok eqt_ok rfl ⟨d_spec_l20Rd_pick, trivial⟩ opn_ok co76 Tryz.func76 rfl Tryz.ntmps76 rfl rfl (fun _ => by kernel_rfl)
def m_spec_l20Radial_l1s (x0 : List Int) (p102 : Int × Int) (p106 : Int × Int) (rec : (List Bool × List (Int × Int) × Int × Int × List (Int × Int × Int)) → Option ((List Bool × List (Int × Int) × Int × List (Int × Int × Int)))) (p116 : (List Bool × List (Int × Int) × Int × Int × List (Int × Int × Int))) : Option ((List Bool × List (Int × Int) × Int × List (Int × Int × Int))) := (bif ltB p116.2.2.1 (w64 (2 + p102.1)) then Option.bind (bif ltB 0 p116.2.2.1 then Option.bind (m_spec_l20Rd_pick x0 p116.2.2.2.1 p116.2.2.1) (fun (p132 : Int × Int) => Option.bind (m_spec_l20Rd_pick x0 p132.2 90) (fun (p133 : Int × Int) => chk (apB p116.2.2.2.2.length ([(p132.1, p116.2.2.1, w64 (10 + p133.1))] : List (Int × Int × Int)).length) (Option.bind (bif p106.1 == 0 then chk (apB p116.1.length ([true] : List Bool).length) (some (p116.1 ++ ([true] : List Bool), p133.2)) else Option.bind (m_spec_l20Rd_pick x0 p133.2 6) (fun (p144 : Int × Int) => chk (apB p116.1.length ([ltB 0 p144.1] : List Bool).length) (some (p116.1 ++ ([ltB 0 p144.1] : List Bool), p144.2)))) (fun (p138 : List Bool × Int) => some (p138.1, p138.2, p116.2.2.2.2 ++ ([(p132.1, p116.2.2.1, w64 (10 + p133.1))] : List (Int × Int × Int))))))) else some (p116.1, p116.2.2.2.1, p116.2.2.2.2)) (fun (p124 : List Bool × Int × List (Int × Int × Int)) => Option.bind (m_spec_l20Rd_pick x0 p124.2.1 20) (fun (p153 : Int × Int) => chk (apB p116.2.1.length ([(0, p153.1)] : List (Int × Int)).length) (rec (p124.1, p116.2.1 ++ ([(0, p153.1)] : List (Int × Int)), w64 (p116.2.2.1 + 1), p153.2, p124.2.2)))) else some (p116.1, p116.2.1, p116.2.2.2.1, p116.2.2.2.2))
def m_spec_l20Radial_l1i (x0 : List Int) (p102 : Int × Int) (p106 : Int × Int) : Nat → (List Bool × List (Int × Int) × Int × Int × List (Int × Int × Int)) → Option ((List Bool × List (Int × Int) × Int × List (Int × Int × Int))) := itr (m_spec_l20Radial_l1s x0 p102 p106)
theorem q_m_spec_l20Radial_l1 : @m_spec_l20Radial_l1 = @m_spec_l20Radial_l1i := by
  funext x0 p102 p106 n
  induction n with
  | zero => rfl
  | succ n ih =>
    funext p
    show _ = m_spec_l20Radial_l1s x0 p102 p106 (m_spec_l20Radial_l1i x0 p102 p106 n) p
    rw [← ih]
    rfl
def m_spec_l20Radial_l2s (x0 : List Int) (p102 : Int × Int) (rec : (List Bool × Int × Int × List (Int × Int × Int)) → Option ((List Bool × Int × List (Int × Int × Int)))) (p166 : (List Bool × Int × Int × List (Int × Int × Int))) : Option ((List Bool × Int × List (Int × Int × Int))) := (bif ltB 0 p166.2.1 then Option.bind (m_spec_l20Rd_pick x0 p166.2.2.1 (w64 (2 + p102.1))) (fun (p172 : Int × Int) => Option.bind (m_spec_l20Rd_pick x0 p172.2 (w64 ((w64 (2 + p102.1)) - 1))) (fun (p173 : Int × Int) => chk (nzB (w64 (2 + p102.1))) (Option.bind (m_spec_l20Rd_pick x0 p173.2 50) (fun (p175 : Int × Int) => chk (apB p166.2.2.2.length ([(p172.1, Int.tmod (w64 ((w64 (p172.1 + 1)) + p173.1)) (w64 (2 + p102.1)), w64 (10 + p175.1))] : List (Int × Int × Int)).length) (chk (apB p166.1.length ([false] : List Bool).length) (rec (p166.1 ++ ([false] : List Bool), w64 (p166.2.1 - 1), p175.2, p166.2.2.2 ++ ([(p172.1, Int.tmod (w64 ((w64 (p172.1 + 1)) + p173.1)) (w64 (2 + p102.1)), w64 (10 + p175.1))] : List (Int × Int × Int))))))))) else some (p166.1, p166.2.2.1, p166.2.2.2))
def m_spec_l20Radial_l2i (x0 : List Int) (p102 : Int × Int) : Nat → (List Bool × Int × Int × List (Int × Int × Int)) → Option ((List Bool × Int × List (Int × Int × Int))) := itr (m_spec_l20Radial_l2s x0 p102)
theorem q_m_spec_l20Radial_l2 : @m_spec_l20Radial_l2 = @m_spec_l20Radial_l2i := by
  funext x0 p102 n
  induction n with
  | zero => rfl
  | succ n ih =>
    funext p
    show _ = m_spec_l20Radial_l2s x0 p102 (m_spec_l20Radial_l2i x0 p102 n) p
    rw [← ih]
    rfl
def m_spec_l20Radial_l3s (p159 : List Bool × Int × List (Int × Int × Int)) (rec : (List Bool × Int) → Option ((List Bool))) (p240 : (List Bool × Int)) : Option ((List Bool)) := (bif ltB p240.2 (p159.1.length : Int) then chk (ixB p240.2 p159.1.length) (rec (p240.1.set p240.2.toNat true, w64 (p240.2 + 1))) else some p240.1)
def m_spec_l20Radial_l3i (p159 : List Bool × Int × List (Int × Int × Int)) : Nat → (List Bool × Int) → Option ((List Bool)) := itr (m_spec_l20Radial_l3s p159)
theorem q_m_spec_l20Radial_l3 : @m_spec_l20Radial_l3 = @m_spec_l20Radial_l3i := by
  funext p159 n
  induction n with
  | zero => rfl
  | succ n ih =>
    funext p
    show _ = m_spec_l20Radial_l3s p159 (m_spec_l20Radial_l3i p159 n) p
    rw [← ih]
    rfl
def m_spec_l20Radiali (x0 : List Int) (x1 : Int) (x2 : Int) : Option (Int × List (Int × Int × Int) × List Bool × List (Int × Int) × Int) := Option.bind (m_spec_l20Rd_pick x0 x1 6) (fun (p102 : Int × Int) => Option.bind (m_spec_l20Rd_pick x0 p102.2 2) (fun (p106 : Int × Int) => Option.bind (m_spec_l20Radial_l1i x0 p102 p106 FUEL (([] : List Bool), ([] : List (Int × Int)), 0, p106.2, ([] : List (Int × Int × Int)))) (fun (p107 : List Bool × List (Int × Int) × Int × List (Int × Int × Int)) => Option.bind (m_spec_l20Rd_pick x0 p107.2.2.1 4) (fun (p158 : Int × Int) => Option.bind (m_spec_l20Radial_l2i x0 p102 FUEL (p107.1, p158.1, p158.2, p107.2.2.2)) (fun (p159 : List Bool × Int × List (Int × Int × Int)) => Option.bind (m_spec_l20Rd_pick x0 p159.2.1 100) (fun (p184 : Int × Int) => chk (ixB 0 p107.2.1.length) (Option.bind (m_spec_l20Rd_pick x0 p184.2 2) (fun (p186 : Int × Int) => Option.bind (bif p186.1 == 0 then Option.bind (m_spec_l20Rd_pick x0 p186.2 (w64 ((w64 (2 + p102.1)) - 1))) (fun (p193 : Int × Int) => Option.bind (m_spec_l20Rd_pick x0 p193.2 60) (fun (p194 : Int × Int) => chk (ixB (w64 (1 + p193.1)) p107.2.1.length) (chk (ixB (w64 ((w64 (1 + p193.1)) - 1)) p159.1.length) (some (p159.1.set ((w64 ((w64 (1 + p193.1)) - 1)).toNat) false, (p107.2.1.set ((0 : Int).toNat) (w64 (60 + p184.1), (p107.2.1.getD ((0 : Int).toNat) ((0, 0) : Int × Int)).2)).set ((w64 (1 + p193.1)).toNat) (w64 (30 + p194.1), ((p107.2.1.set ((0 : Int).toNat) (w64 (60 + p184.1), (p107.2.1.getD ((0 : Int).toNat) ((0, 0) : Int × Int)).2)).getD ((w64 (1 + p193.1)).toNat) ((0, 0) : Int × Int)).2), p194.2))))) else some (p159.1, p107.2.1.set ((0 : Int).toNat) (w64 (60 + p184.1), (p107.2.1.getD ((0 : Int).toNat) ((0, 0) : Int × Int)).2), p186.2)) (fun (p187 : List Bool × List (Int × Int) × Int) => Option.bind (m_spec_l20Rd_odd x0 p187.2.2 x2) (fun (p197 : Bool × Int) => Option.bind (bif p197.1 then Option.bind (m_spec_l20Rd_pick x0 p197.2 4) (fun (p206 : Int × Int) => Option.bind (bif p206.1 == 0 then chk (ixB (w64 ((w64 (2 + p102.1)) - 1)) p107.2.1.length) (chk (ixB (w64 ((w64 (2 + p102.1)) - 2)) p107.2.1.length) (some (p187.1, (p187.2.1.set ((w64 ((w64 (2 + p102.1)) - 1)).toNat) (5, (p187.2.1.getD ((w64 ((w64 (2 + p102.1)) - 1)).toNat) ((0, 0) : Int × Int)).2)).set ((w64 ((w64 (2 + p102.1)) - 2)).toNat) (5, ((p187.2.1.set ((w64 ((w64 (2 + p102.1)) - 1)).toNat) (5, (p187.2.1.getD ((w64 ((w64 (2 + p102.1)) - 1)).toNat) ((0, 0) : Int × Int)).2)).getD ((w64 ((w64 (2 + p102.1)) - 2)).toNat) ((0, 0) : Int × Int)).2)))) else Option.bind (bif p206.1 == 1 then Option.bind (m_spec_l20Radial_l3i p159 FUEL (p187.1, 0)) (fun (p236 : List Bool) => some (p236, p187.2.1)) else Option.bind (bif p206.1 == 2 then chk (apB p187.1.length ([false] : List Bool).length) (some (p187.1 ++ ([false] : List Bool), p187.2.1)) else chk (slB 1 (p107.2.1.length : Int) p107.2.1.length) (some (p187.1, subL p187.2.1 1 (p107.2.1.length : Int)))) (fun (p223 : List Bool × List (Int × Int)) => some (p223.1, p223.2))) (fun (p215 : List Bool × List (Int × Int)) => some (p215.1, p215.2))) (fun (p207 : List Bool × List (Int × Int)) => some (p207.1, p207.2, p206.2))) else some (p187.1, p187.2.1, p197.2)) (fun (p198 : List Bool × List (Int × Int) × Int) => some (w64 (2 + p102.1), p159.2.2, p198.1, p198.2.1, p198.2.2))))))))))))
theorem q_m_spec_l20Radial : @m_spec_l20Radial = @m_spec_l20Radiali := by
  funext x0 x1 x2
  unfold m_spec_l20Radiali
  rw [← q_m_spec_l20Radial_l1, ← q_m_spec_l20Radial_l2, ← q_m_spec_l20Radial_l3]
  rfl
def k_spec_l20Radial : Ctr := ⟨73, [.bx 110 [.sl .ro 5 (.int .u8), .int .i64], .o (.int .i64)], [.g [.int .i64, .row 71 (.p (.int .i64) (.p (.int .i64) (.int .i64)))], .o (.row 4 .b), .o (.row 42 (.p (.int .i64) (.int .i64)))], true, fun x => m_spec_l20Radial x.1 x.2.1 x.2.2⟩
theorem d_spec_l20Radial : Cok Tryz.prog k_spec_l20Radial := cok (op := opn) (cs := [k_spec_l20Rd_pick, k_spec_l20Rd_odd]) (rv := [.cell 4 25, .tmp 5, .tmp 6]) (crt := .q .z (.q .z (.q .z (.q .z (.q .z (.q (.q .z (.cut ⟨[(0, .o .k), (1, .o .k), (4, .o .k), (5, .o .k), (6, .o .k), (7, .o .k), (8, .o (.r 4 .b)), (9, .o (.r 42 (.p (.int .i64) (.int .i64))))], [(4096, [.k, .i .i64]), (7, [.k, .r 71 (.p (.int .i64) (.p (.int .i64) (.int .i64)))]), (4, [.k, .k])], []⟩ [] (.b (.lp ⟨[(0, .o .k), (1, .o .k), (4, .o .k), (5, .o .k), (6, .o .k), (7, .o .k), (8, .o (.r 4 .b)), (9, .o (.r 42 (.p (.int .i64) (.int .i64)))), (10, .o .k), (11, .o (.i .i64))], [(4096, [.k, .i .i64]), (7, [.k, .r 71 (.p (.int .i64) (.p (.int .i64) (.int .i64)))]), (4, [.k, .k])], []⟩ (.q (.q .z (.q .z .z)) (.q (.b (.q (.q .z (.cut ⟨[(0, .o .k), (1, .o .k), (4, .o .k), (5, .o .k), (6, .o .k), (7, .o .k), (8, .o (.r 4 .b)), (9, .o .k), (10, .o .k), (11, .o .k)], [(4096, [.k, .i .i64]), (7, [.k, .r 71 (.p (.int .i64) (.p (.int .i64) (.int .i64)))]), (4, [.k, .k])], []⟩ [] (.q (.q .z (.cut ⟨[(0, .o .k), (1, .o .k), (4, .o .k), (5, .o .k), (6, .o .k), (7, .o .k), (8, .o (.r 4 .b)), (9, .o .k), (10, .o .k), (11, .o .k)], [(4096, [.k, .i .i64]), (7, [.k, .k]), (4, [.k, .k])], []⟩ [] .z)) .z))) .z)) .z)))))) (.q (.q .z (.cut ⟨[(0, .o .k), (1, .o .k), (4, .o .k), (5, .o .k), (6, .o .k), (7, .o .k), (8, .o (.r 4 .b)), (9, .o .k)], [(4096, [.k, .i .i64]), (7, [.k, .r 71 (.p (.int .i64) (.p (.int .i64) (.int .i64)))]), (4, [.k, .k])], []⟩ [] (.b (.lp ⟨[(0, .o .k), (1, .o .k), (4, .o .k), (5, .o .k), (6, .o .k), (7, .o .k), (8, .o (.r 4 .b)), (9, .o .k), (12, .o (.i .i64))], [(4096, [.k, .i .i64]), (7, [.k, .r 71 (.p (.int .i64) (.p (.int .i64) (.int .i64)))]), (4, [.k, .k])], []⟩ (.q (.q .z (.q .z .z)) (.q (.b (.q .z (.q .z .z))) .z)))))) (.q .z (.q (.q .z (.cut ⟨[(0, .o .k), (1, .o .k), (4, .o .k), (5, .o .k), (6, .o .k), (7, .o .k), (8, .o (.w 4 .b)), (9, .o (.w 42 (.p (.int .i64) (.int .i64))))], [(4096, [.k, .i .i64]), (7, [.k, .k]), (4, [.k, .k])], []⟩ [] (.q (.q .z (.q .z .z)) .z))) (.q (.q .z (.cut ⟨[(4, .o .k), (5, .o .k), (6, .o .k), (7, .o .k), (8, .o (.r 4 .b)), (9, .o (.r 42 (.p (.int .i64) (.int .i64))))], [(4096, [.k, .i .i64]), (7, [.k, .k]), (4, [.k, .k])], []⟩ [] (.q (.q .z (.b (.q .z (.cut ⟨[(4, .o .k), (5, .o .k), (6, .o .k), (7, .o .k), (8, .o (.r 4 .b)), (9, .o (.r 42 (.p (.int .i64) (.int .i64))))], [(4096, [.k, .k]), (7, [.k, .k]), (4, [.k, .k])], []⟩ [] (.q (.q .z .z) (.q .z (.cut ⟨[(4, .o .k), (5, .o .k), (6, .o .k), (7, .o .k), (8, .o (.r 4 .b)), (9, .o (.r 42 (.p (.int .i64) (.int .i64))))], [(4096, [.k, .k]), (7, [.k, .k]), (4, [.k, .k])], []⟩ [] (.q (.q .z (.cut ⟨[(4, .o .k), (5, .o .k), (6, .o .k), (7, .o .k), (8, .o (.w 4 .b)), (9, .o .k)], [(4096, [.k, .k]), (7, [.k, .k]), (4, [.k, .k])], []⟩ [] (.b (.lp ⟨[(4, .o .k), (5, .o .k), (6, .o .k), (7, .o .k), (8, .o (.w 4 .b)), (9, .o .k), (15, .o (.i .i64))], [(4096, [.k, .k]), (7, [.k, .k]), (4, [.k, .k])], []⟩ (.q (.q .z (.q .z .z)) (.q (.b .z) .z)))))) (.q .z (.cut ⟨[(4, .o .k), (5, .o .k), (6, .o .k), (7, .o .k), (8, .o (.r 4 .b)), (9, .o (.r 42 (.p (.int .i64) (.int .i64))))], [(4096, [.k, .k]), (7, [.k, .k]), (4, [.k, .k])], []⟩ [] (.q .z .z))))))))))) .z))) (.q .z .z))))))))))) tys_ok eqt_ok rfl ⟨d_spec_l20Rd_pick, d_spec_l20Rd_odd, trivial⟩ opn_ok co73 Tryz.func73 rfl Tryz.ntmps73 rfl rfl (fun x => by
  show m_spec_l20Radial x.1 x.2.1 x.2.2 = _
  rw [q_m_spec_l20Radial]
  kernel_rfl)
def k_spec_l20WorldDeed : Ctr := ⟨75, [.bx 110 [.sl .ro 5 (.int .u8), .int .i64], .g [.int .i64, .sl .ro 71 (.p (.int .i64) (.p (.int .i64) (.int .i64))), .sl .ro 42 (.p (.int .i64) (.int .i64)), .sl .ro 4 .b, .sl .ro 4 .b, .sl .ro 93 (.p (.int .i64) (.int .i64)), .sl .ro 3 (.int .i64)]], [.g [.int .i64, .int .i64, .int .i64]], true, fun x => m_spec_l20WorldDeed x.1 x.2.1 x.2.2.1 x.2.2.2.1 x.2.2.2.2.1 x.2.2.2.2.2.1 x.2.2.2.2.2.2.1 x.2.2.2.2.2.2.2.1 x.2.2.2.2.2.2.2.2⟩
theorem d_spec_l20WorldDeed : Cok Tryz.prog k_spec_l20WorldDeed := cok (op := opn) (cs := [k_spec_l20Rd_pick]) (rv := [.cell 4 46]) (crt := .q .z (.q .z (.q (.q (.cut ⟨[(0, .o .k), (3, .o .k), (4, .o .k), (5, .o .k), (40, .o .b)], [(4096, [.k, .i .i64]), (5, [.k, .k, .k]), (4, [.k, .k, .k]), (3, [.k, .k, .k, .k, .k, .k, .k])], []⟩ [] .z) (.q (.q .z (.q .z .z)) .z)) (.q .z .z)))) tys_ok eqt_ok rfl ⟨d_spec_l20Rd_pick, trivial⟩ opn_ok co75 Tryz.func75 rfl Tryz.ntmps75 rfl rfl (fun _ => by kernel_rfl)
def k_spec_l1In : Ctr := ⟨43, [.o (.int .i64), .o (.int .i64), .o (.int .i64)], [.o .b], false, fun x => m_spec_l1In x.1 x.2.1 x.2.2⟩
theorem d_spec_l1In : Cok Tryz.prog k_spec_l1In := cok (op := opn) (cs := []) (rv := [.tmp 6]) (crt := .q .z (.q .z .z)) tys_ok eqt_ok rfl trivial opn_ok co43 Tryz.func43 rfl Tryz.ntmps43 rfl rfl (fun _ => by kernel_rfl)
def m_spec_NetValid_l1s (x0 : Int) (x1 : List (Int × Int × Int)) (rec : Int → Option (Unit ⊕ Bool)) (p107 : Int) : Option (Unit ⊕ Bool) := (bif ltB p107 (x1.length : Int) then chk (ixB p107 x1.length) (Option.bind (m_spec_l1In ((x1.getD p107.toNat ((0, 0, 0) : Int × Int × Int)).1) 0 (w64 (x0 - 1))) (fun (p111 : Bool) => Option.bind (gb (!(!p111)) (m_spec_l1In ((x1.getD p107.toNat ((0, 0, 0) : Int × Int × Int)).2.1) 0 (w64 (x0 - 1)))) (fun (p112 : Bool) => Option.bind (gb (!(((!p111) || (!p112)) || (((x1.getD p107.toNat ((0, 0, 0) : Int × Int × Int)).1) == ((x1.getD p107.toNat ((0, 0, 0) : Int × Int × Int)).2.1)))) (m_spec_l1In ((x1.getD p107.toNat ((0, 0, 0) : Int × Int × Int)).2.2) 1 999)) (fun (p113 : Bool) => (bif (((!p111) || (!p112)) || (((x1.getD p107.toNat ((0, 0, 0) : Int × Int × Int)).1) == ((x1.getD p107.toNat ((0, 0, 0) : Int × Int × Int)).2.1))) || (!p113) then some (Sum.inr false) else rec (w64 (p107 + 1))))))) else some (Sum.inl ()))
def m_spec_NetValid_l1i (x0 : Int) (x1 : List (Int × Int × Int)) : Nat → Int → Option (Unit ⊕ Bool) := itr (m_spec_NetValid_l1s x0 x1)
theorem q_m_spec_NetValid_l1 : @m_spec_NetValid_l1 = @m_spec_NetValid_l1i := by
  funext x0 x1 n
  induction n with
  | zero => rfl
  | succ n ih =>
    funext p
    show _ = m_spec_NetValid_l1s x0 x1 (m_spec_NetValid_l1i x0 x1 n) p
    rw [← ih]
    rfl
def m_spec_NetValidi (x0 : Int) (x1 : List (Int × Int × Int)) : Option (Bool) := Option.bind (m_spec_l1In x0 1 8) (fun (p102 : Bool) => (bif (!p102) || (ltB 10 (x1.length : Int)) then some false else Option.bind (m_spec_NetValid_l1i x0 x1 FUEL 0 : Option (Unit ⊕ Bool)) (Sum.elim (fun (p104 : Unit) => some true) (fun (r : Bool) => some r))))
theorem q_m_spec_NetValid : @m_spec_NetValid = @m_spec_NetValidi := by
  funext x0 x1
  unfold m_spec_NetValidi
  rw [← q_m_spec_NetValid_l1]
  rfl
def k_spec_NetValid : Ctr := ⟨80, [.g [.int .i64, .sl .ro 71 (.p (.int .i64) (.p (.int .i64) (.int .i64)))]], [.o .b], false, fun x => m_spec_NetValid x.1 x.2⟩
theorem d_spec_NetValid : Cok Tryz.prog k_spec_NetValid := cok (op := opn) (cs := [k_spec_l1In]) (rv := [.tmp 2]) (crt := .q .z (.q (.q .z (.q (.q .z .z) .z)) (.q (.q .z (.cut ⟨[(2, .o .k)], [], []⟩ [.rt] (.b (.lp ⟨[(1, .o .k), (2, .o .k), (3, .o (.i .i64))], [(1, [.k, .k])], []⟩ (.q (.q .z (.q .z .z)) (.q (.b (.q .z (.q .z (.q (.q .z .z) .z)))) .z)))))) (.q .z .z)))) tys_ok eqt_ok rfl ⟨d_spec_l1In, trivial⟩ opn_ok co80 Tryz.func80 rfl Tryz.ntmps80 rfl rfl (fun x => by
  show m_spec_NetValid x.1 x.2 = _
  rw [q_m_spec_NetValid]
  kernel_rfl)
def m_spec_BusesValid_l1s (x2 : List (Int × Int)) (rec : Int → Option (Unit ⊕ Bool)) (p105 : Int) : Option (Unit ⊕ Bool) := (bif ltB p105 (x2.length : Int) then chk (ixB p105 x2.length) (Option.bind (m_spec_l1In ((x2.getD p105.toNat ((0, 0) : Int × Int)).1) 0 999) (fun (p108 : Bool) => chk (!(!(!p108)) || ixB p105 x2.length) (Option.bind (gb (!(!p108)) (m_spec_l1In ((x2.getD p105.toNat ((0, 0) : Int × Int)).2) 0 999)) (fun (p110 : Bool) => (bif (!p108) || (!p110) then some (Sum.inr false) else rec (w64 (p105 + 1))))))) else some (Sum.inl ()))
def m_spec_BusesValid_l1i (x2 : List (Int × Int)) : Nat → Int → Option (Unit ⊕ Bool) := itr (m_spec_BusesValid_l1s x2)
theorem q_m_spec_BusesValid_l1 : @m_spec_BusesValid_l1 = @m_spec_BusesValid_l1i := by
  funext x2 n
  induction n with
  | zero => rfl
  | succ n ih =>
    funext p
    show _ = m_spec_BusesValid_l1s x2 (m_spec_BusesValid_l1i x2 n) p
    rw [← ih]
    rfl
def m_spec_BusesValidi (x0 : Int) (x1 : List (Int × Int × Int)) (x2 : List (Int × Int)) : Option (Bool) := Option.bind (m_spec_BusesValid_l1i x2 FUEL 0 : Option (Unit ⊕ Bool)) (Sum.elim (fun (p102 : Unit) => Option.bind (m_spec_NetValid x0 x1) (fun (p112 : Bool) => some (p112 && ((x2.length : Int) == x0)))) (fun (r : Bool) => some r))
theorem q_m_spec_BusesValid : @m_spec_BusesValid = @m_spec_BusesValidi := by
  funext x0 x1 x2
  unfold m_spec_BusesValidi
  rw [← q_m_spec_BusesValid_l1]
  rfl
def k_spec_BusesValid : Ctr := ⟨41, [.g [.int .i64, .sl .ro 71 (.p (.int .i64) (.p (.int .i64) (.int .i64)))], .o (.sl .ro 42 (.p (.int .i64) (.int .i64)))], [.o .b], false, fun x => m_spec_BusesValid x.1 x.2.1 x.2.2⟩
theorem d_spec_BusesValid : Cok Tryz.prog k_spec_BusesValid := cok (op := opn) (cs := [k_spec_l1In, k_spec_NetValid]) (rv := [.tmp 4]) (crt := .q .z (.q (.q .z (.cut ⟨[(1, .o .k), (2, .o .k), (4, .o .k)], [(2, [.k, .k])], []⟩ [.rt] (.b (.lp ⟨[(1, .o .k), (2, .o .k), (4, .o .k), (5, .o (.i .i64))], [(2, [.k, .k])], []⟩ (.q (.q .z (.q .z .z)) (.q (.b (.q .z (.q (.q .z .z) .z))) .z)))))) (.q .z .z))) tys_ok eqt_ok rfl ⟨d_spec_l1In, d_spec_NetValid, trivial⟩ opn_ok co41 Tryz.func41 rfl Tryz.ntmps41 rfl rfl (fun x => by
  show m_spec_BusesValid x.1 x.2.1 x.2.2 = _
  rw [q_m_spec_BusesValid]
  kernel_rfl)
def m_spec_l12Find_l1s (x0 : List (Int × Int)) (x1 : Int) (x2 : Int) (rec : Int → Option (Unit ⊕ Int)) (p105 : Int) : Option (Unit ⊕ Int) := (bif ltB p105 (x0.length : Int) then chk (ixB p105 x0.length) ((bif (((x0.getD p105.toNat ((0, 0) : Int × Int)).1) == x1) && (((x0.getD p105.toNat ((0, 0) : Int × Int)).2) == x2) then some (Sum.inr p105) else rec (w64 (p105 + 1)))) else some (Sum.inl ()))
def m_spec_l12Find_l1i (x0 : List (Int × Int)) (x1 : Int) (x2 : Int) : Nat → Int → Option (Unit ⊕ Int) := itr (m_spec_l12Find_l1s x0 x1 x2)
theorem q_m_spec_l12Find_l1 : @m_spec_l12Find_l1 = @m_spec_l12Find_l1i := by
  funext x0 x1 x2 n
  induction n with
  | zero => rfl
  | succ n ih =>
    funext p
    show _ = m_spec_l12Find_l1s x0 x1 x2 (m_spec_l12Find_l1i x0 x1 x2 n) p
    rw [← ih]
    rfl
def m_spec_l12Findi (x0 : List (Int × Int)) (x1 : Int) (x2 : Int) : Option (Int) := Option.bind (m_spec_l12Find_l1i x0 x1 x2 FUEL 0 : Option (Unit ⊕ Int)) (Sum.elim (fun (p102 : Unit) => some (-1)) (fun (r : Int) => some r))
theorem q_m_spec_l12Find : @m_spec_l12Find = @m_spec_l12Findi := by
  funext x0 x1 x2
  unfold m_spec_l12Findi
  rw [← q_m_spec_l12Find_l1]
  rfl
def k_spec_l12Find : Ctr := ⟨81, [.o (.sl .ro 93 (.p (.int .i64) (.int .i64))), .g [.int .i64, .int .i64]], [.o (.int .i64)], false, fun x => m_spec_l12Find x.1 x.2.1 x.2.2⟩
theorem d_spec_l12Find : Cok Tryz.prog k_spec_l12Find := cok (op := opn) (cs := []) (rv := [.tmp 4]) (crt := .q .z (.q (.q .z (.cut ⟨[(4, .o .k)], [], []⟩ [.rt] (.b (.lp ⟨[(0, .o .k), (3, .o .k), (4, .o .k), (5, .o (.i .i64))], [(3, [.k, .k])], []⟩ (.q (.q .z (.q .z .z)) (.q (.b (.q .z (.q (.q .z .z) .z))) .z)))))) (.q .z .z))) tys_ok eqt_ok rfl trivial opn_ok co81 Tryz.func81 rfl Tryz.ntmps81 rfl rfl (fun x => by
  show m_spec_l12Find x.1 x.2.1 x.2.2 = _
  rw [q_m_spec_l12Find]
  kernel_rfl)
def m_spec_WorkValid_l1s (x0 : List Bool) (x1 : List Bool) (rec : Int → Option (Unit ⊕ Bool)) (p107 : Int) : Option (Unit ⊕ Bool) := (bif ltB p107 (x0.length : Int) then chk (ixB p107 x0.length) (chk (!(x0.getD p107.toNat false) || ixB p107 x1.length) ((bif (x0.getD p107.toNat false) && (x1.getD p107.toNat false) then some (Sum.inr false) else rec (w64 (p107 + 1))))) else some (Sum.inl ()))
def m_spec_WorkValid_l1i (x0 : List Bool) (x1 : List Bool) : Nat → Int → Option (Unit ⊕ Bool) := itr (m_spec_WorkValid_l1s x0 x1)
theorem q_m_spec_WorkValid_l1 : @m_spec_WorkValid_l1 = @m_spec_WorkValid_l1i := by
  funext x0 x1 n
  induction n with
  | zero => rfl
  | succ n ih =>
    funext p
    show _ = m_spec_WorkValid_l1s x0 x1 (m_spec_WorkValid_l1i x0 x1 n) p
    rw [← ih]
    rfl
def m_spec_WorkValid_l2s (x0 : List Bool) (x1 : List Bool) (x2 : List (Int × Int)) (rec : Int → Option (Unit ⊕ Bool)) (p115 : Int) : Option (Unit ⊕ Bool) := (bif ltB p115 (x2.length : Int) then chk (ixB p115 x2.length) (Option.bind (m_spec_l1In ((x2.getD p115.toNat ((0, 0) : Int × Int)).1) 0 9) (fun (p119 : Bool) => Option.bind (gb (!(!p119)) (m_spec_l1In ((x2.getD p115.toNat ((0, 0) : Int × Int)).2) 0 (w64 ((x0.length : Int) - 1)))) (fun (p120 : Bool) => chk (!(!((!p119) || (!p120))) || ixB ((x2.getD p115.toNat ((0, 0) : Int × Int)).2) x1.length) (Option.bind (gb (!(((!p119) || (!p120)) || (!(x1.getD (((x2.getD p115.toNat ((0, 0) : Int × Int)).2).toNat) false)))) (m_spec_l12Find x2 ((x2.getD p115.toNat ((0, 0) : Int × Int)).1) ((x2.getD p115.toNat ((0, 0) : Int × Int)).2))) (fun (p122 : Int) => (bif (((!p119) || (!p120)) || (!(x1.getD (((x2.getD p115.toNat ((0, 0) : Int × Int)).2).toNat) false))) || (ltB p122 p115) then some (Sum.inr false) else rec (w64 (p115 + 1)))))))) else some (Sum.inl ()))
def m_spec_WorkValid_l2i (x0 : List Bool) (x1 : List Bool) (x2 : List (Int × Int)) : Nat → Int → Option (Unit ⊕ Bool) := itr (m_spec_WorkValid_l2s x0 x1 x2)
theorem q_m_spec_WorkValid_l2 : @m_spec_WorkValid_l2 = @m_spec_WorkValid_l2i := by
  funext x0 x1 x2 n
  induction n with
  | zero => rfl
  | succ n ih =>
    funext p
    show _ = m_spec_WorkValid_l2s x0 x1 x2 (m_spec_WorkValid_l2i x0 x1 x2 n) p
    rw [← ih]
    rfl
def m_spec_WorkValidi (x0 : List Bool) (x1 : List Bool) (x2 : List (Int × Int)) : Option (Bool) := Option.bind (m_spec_l1In (x0.length : Int) 1 10) (fun (p102 : Bool) => (bif ((!p102) || ((x0.length : Int) != (x1.length : Int))) || (ltB 6 (x2.length : Int)) then some false else Option.bind (m_spec_WorkValid_l1i x0 x1 FUEL 0 : Option (Unit ⊕ Bool)) (Sum.elim (fun (p104 : Unit) => Option.bind (m_spec_WorkValid_l2i x0 x1 x2 FUEL 0 : Option (Unit ⊕ Bool)) (Sum.elim (fun (p112 : Unit) => some true) (fun (r : Bool) => some r))) (fun (r : Bool) => some r))))
theorem q_m_spec_WorkValid : @m_spec_WorkValid = @m_spec_WorkValidi := by
  funext x0 x1 x2
  unfold m_spec_WorkValidi
  rw [← q_m_spec_WorkValid_l1, ← q_m_spec_WorkValid_l2]
  rfl
def k_spec_WorkValid : Ctr := ⟨42, [.g [.sl .ro 4 .b, .sl .ro 4 .b, .sl .ro 93 (.p (.int .i64) (.int .i64))]], [.o .b], false, fun x => m_spec_WorkValid x.1 x.2.1 x.2.2⟩
theorem d_spec_WorkValid : Cok Tryz.prog k_spec_WorkValid := cok (op := opn) (cs := [k_spec_l1In, k_spec_l12Find]) (rv := [.tmp 2]) (crt := .q .z (.q (.q .z (.q (.q .z .z) .z)) (.q (.q .z (.cut ⟨[(1, .o .k), (2, .o .k)], [(1, [.k, .k, .k])], []⟩ [.rt] (.b (.lp ⟨[(1, .o .k), (2, .o .k), (3, .o (.i .i64))], [(1, [.k, .k, .k])], []⟩ (.q (.q .z (.q .z .z)) (.q (.b (.q .z (.q (.q .z .z) .z))) .z)))))) (.q (.q .z (.cut ⟨[(2, .o .k)], [], []⟩ [.rt] (.b (.lp ⟨[(1, .o .k), (2, .o .k), (4, .o (.i .i64))], [(1, [.k, .k, .k])], []⟩ (.q (.q .z (.q .z .z)) (.q (.b (.q .z (.q .z (.q (.q .z .z) .z)))) .z)))))) (.q .z .z))))) tys_ok eqt_ok rfl ⟨d_spec_l1In, d_spec_l12Find, trivial⟩ opn_ok co42 Tryz.func42 rfl Tryz.ntmps42 rfl rfl (fun x => by
  show m_spec_WorkValid x.1 x.2.1 x.2.2 = _
  rw [q_m_spec_WorkValid]
  kernel_rfl)
def k_spec_StateValid : Ctr := ⟨115, [.g [.int .i64, .sl .ro 71 (.p (.int .i64) (.p (.int .i64) (.int .i64)))], .o (.sl .ro 4 .b)], [.o .b], false, fun x => m_spec_StateValid x.1 x.2.1 x.2.2⟩
theorem d_spec_StateValid : Cok Tryz.prog k_spec_StateValid := cok (op := opn) (cs := [k_spec_NetValid]) (rv := [.tmp 4]) (crt := .q .z (.q .z .z)) tys_ok eqt_ok rfl ⟨d_spec_NetValid, trivial⟩ opn_ok co115 Tryz.func115 rfl Tryz.ntmps115 rfl rfl (fun _ => by kernel_rfl)
def k_spec_l5Ok : Ctr := ⟨78, [.g [.int .i64, .sl .ro 71 (.p (.int .i64) (.p (.int .i64) (.int .i64)))], .o (.sl .ro 4 .b), .o (.sl .ro 42 (.p (.int .i64) (.int .i64)))], [.o .b], false, fun x => m_spec_l5Ok x.1 x.2.1 x.2.2.1 x.2.2.2⟩
theorem d_spec_l5Ok : Cok Tryz.prog k_spec_l5Ok := cok (op := opn) (cs := [k_spec_StateValid, k_spec_BusesValid]) (rv := [.tmp 6]) (crt := .q .z (.q .z .z)) tys_ok eqt_ok rfl ⟨d_spec_StateValid, d_spec_BusesValid, trivial⟩ opn_ok co78 Tryz.func78 rfl Tryz.ntmps78 rfl rfl (fun _ => by kernel_rfl)
def k_spec_l2Copy : Ctr := ⟨147, [.o (.sl .ro 4 .b)], [.o (.row 4 .b)], false, fun x => m_spec_l2Copy x⟩
theorem d_spec_l2Copy : Cok Tryz.prog k_spec_l2Copy := cok (op := opn) (cs := []) (rv := [.tmp 2]) (crt := .q .z (.q .z .z)) tys_ok eqt_ok rfl trivial opn_ok co147 Tryz.func147 rfl Tryz.ntmps147 rfl rfl (fun _ => by kernel_rfl)
def k_spec_SwitchLine : Ctr := ⟨139, [.g [.int .i64, .sl .ro 71 (.p (.int .i64) (.p (.int .i64) (.int .i64)))], .o (.sl .ro 4 .b), .o (.int .i64), .o .b], [.o (.row 4 .b), .o .b], false, fun x => m_spec_SwitchLine x.1 x.2.1 x.2.2.1 x.2.2.2.1 x.2.2.2.2⟩
theorem d_spec_SwitchLine : Cok Tryz.prog k_spec_SwitchLine := cok (op := opn) (cs := [k_spec_StateValid, k_spec_l2Copy, k_spec_l1In]) (rv := [.tmp 8, .tmp 9]) (crt := .q .z (.q (.q .z (.q (.q .z .z) .z)) (.q .z (.q (.q .z (.q (.q .z .z) .z)) (.q .z (.q .z .z)))))) tys_ok eqt_ok rfl ⟨d_spec_StateValid, d_spec_l2Copy, d_spec_l1In, trivial⟩ opn_ok co139 Tryz.func139 rfl Tryz.ntmps139 rfl rfl (fun _ => by kernel_rfl)
def m_spec_l3Reach_l2s (x0 : Int) (x1 : List (Int × Int × Int)) (x2 : List Bool) (rec : (List Bool × Int) → Option ((List Bool))) (p116 : (List Bool × Int)) : Option ((List Bool)) := (bif ltB p116.2 (x1.length : Int) then chk (ixB p116.2 x1.length) (chk (ixB p116.2 x2.length) (chk (!(x2.getD p116.2.toNat false) || ixB ((x1.getD p116.2.toNat ((0, 0, 0) : Int × Int × Int)).1) x0.toNat) (chk (!((x2.getD p116.2.toNat false) && (!(p116.1.getD (((x1.getD p116.2.toNat ((0, 0, 0) : Int × Int × Int)).1).toNat) false))) || ixB ((x1.getD p116.2.toNat ((0, 0, 0) : Int × Int × Int)).2.1) x0.toNat) (Option.bind (bif (x2.getD p116.2.toNat false) && ((p116.1.getD (((x1.getD p116.2.toNat ((0, 0, 0) : Int × Int × Int)).1).toNat) false) || (p116.1.getD (((x1.getD p116.2.toNat ((0, 0, 0) : Int × Int × Int)).2.1).toNat) false)) then chk (ixB ((x1.getD p116.2.toNat ((0, 0, 0) : Int × Int × Int)).1) x0.toNat) (chk (ixB ((x1.getD p116.2.toNat ((0, 0, 0) : Int × Int × Int)).2.1) x0.toNat) (some ((p116.1.set (((x1.getD p116.2.toNat ((0, 0, 0) : Int × Int × Int)).1).toNat) true).set (((x1.getD p116.2.toNat ((0, 0, 0) : Int × Int × Int)).2.1).toNat) true))) else some p116.1) (fun (p124 : List Bool) => rec (p124, w64 (p116.2 + 1))))))) else some p116.1)
def m_spec_l3Reach_l2i (x0 : Int) (x1 : List (Int × Int × Int)) (x2 : List Bool) : Nat → (List Bool × Int) → Option ((List Bool)) := itr (m_spec_l3Reach_l2s x0 x1 x2)
theorem q_m_spec_l3Reach_l2 : @m_spec_l3Reach_l2 = @m_spec_l3Reach_l2i := by
  funext x0 x1 x2 n
  induction n with
  | zero => rfl
  | succ n ih =>
    funext p
    show _ = m_spec_l3Reach_l2s x0 x1 x2 (m_spec_l3Reach_l2i x0 x1 x2 n) p
    rw [← ih]
    rfl
def m_spec_l3Reach_l1s (x0 : Int) (x1 : List (Int × Int × Int)) (x2 : List Bool) (rec : (List Bool × Int) → Option ((List Bool))) (p109 : (List Bool × Int)) : Option ((List Bool)) := (bif ltB p109.2 x0 then Option.bind (m_spec_l3Reach_l2i x0 x1 x2 FUEL (p109.1, 0)) (fun (p112 : List Bool) => rec (p112, w64 (p109.2 + 1))) else some p109.1)
def m_spec_l3Reach_l1i (x0 : Int) (x1 : List (Int × Int × Int)) (x2 : List Bool) : Nat → (List Bool × Int) → Option ((List Bool)) := itr (m_spec_l3Reach_l1s x0 x1 x2)
theorem q_m_spec_l3Reach_l1 : @m_spec_l3Reach_l1 = @m_spec_l3Reach_l1i := by
  funext x0 x1 x2 n
  induction n with
  | zero => rfl
  | succ n ih =>
    funext p
    show _ = m_spec_l3Reach_l1s x0 x1 x2 (m_spec_l3Reach_l1i x0 x1 x2 n) p
    rw [← ih]
    unfold m_spec_l3Reach_l1s
    rw [← q_m_spec_l3Reach_l2]
    rfl
def m_spec_l3Reachi (x0 : Int) (x1 : List (Int × Int × Int)) (x2 : List Bool) (x3 : Int) : Option (List Bool) := chk (mkB x0) (chk (ixB x3 x0.toNat) (Option.bind (m_spec_l3Reach_l1i x0 x1 x2 FUEL ((List.replicate x0.toNat false).set x3.toNat true, 0)) (fun (p105 : List Bool) => some p105)))
theorem q_m_spec_l3Reach : @m_spec_l3Reach = @m_spec_l3Reachi := by
  funext x0 x1 x2 x3
  unfold m_spec_l3Reachi
  rw [← q_m_spec_l3Reach_l1]
  rfl
def k_spec_l3Reach : Ctr := ⟨138, [.g [.int .i64, .sl .ro 71 (.p (.int .i64) (.p (.int .i64) (.int .i64)))], .o (.sl .ro 4 .b), .o (.int .i64)], [.o (.row 4 .b)], false, fun x => m_spec_l3Reach x.1 x.2.1 x.2.2.1 x.2.2.2⟩
theorem d_spec_l3Reach : Cok Tryz.prog k_spec_l3Reach := cok (op := opn) (cs := []) (rv := [.tmp 6]) (crt := .q .z (.q .z (.q .z (.q (.q .z (.cut ⟨[(6, .o .k), (7, .o (.w 4 .b))], [], []⟩ [] (.b (.lp ⟨[(1, .o .k), (3, .o .k), (6, .o .k), (7, .o (.w 4 .b)), (8, .o (.i .i64))], [(3, [.k, .k])], []⟩ (.q (.q .z (.q .z .z)) (.q (.b (.q .z (.cut ⟨[(1, .o .k), (3, .o .k), (6, .o .k), (7, .o (.w 4 .b)), (8, .o .k)], [(3, [.k, .k])], []⟩ [] (.b (.lp ⟨[(1, .o .k), (3, .o .k), (6, .o .k), (7, .o (.w 4 .b)), (8, .o .k), (9, .o (.i .i64))], [(3, [.k, .k])], []⟩ (.q (.q .z (.q .z .z)) (.q (.b (.q .z (.q .z (.cut ⟨[(1, .o .k), (3, .o .k), (6, .o .k), (7, .o (.w 4 .b)), (8, .o .k), (9, .o .k)], [(3, [.k, .k])], []⟩ [] (.q (.q .z .z) .z))))) .z))))))) .z)))))) (.q .z .z))))) tys_ok eqt_ok rfl trivial opn_ok co138 Tryz.func138 rfl Tryz.ntmps138 rfl rfl (fun x => by
  show m_spec_l3Reach x.1 x.2.1 x.2.2.1 x.2.2.2 = _
  rw [q_m_spec_l3Reach]
  kernel_rfl)
def m_spec_Reached_l1s (x0 : Int) (p106 : List Bool) (rec : (List Int × Int) → Option ((List Int))) (p115 : (List Int × Int)) : Option ((List Int)) := (bif ltB p115.2 x0 then chk (ixB p115.2 p106.length) (Option.bind (bif p106.getD p115.2.toNat false then chk (apB p115.1.length ([p115.2] : List Int).length) (some (p115.1 ++ ([p115.2] : List Int))) else some p115.1) (fun (p120 : List Int) => rec (p120, w64 (p115.2 + 1)))) else some p115.1)
def m_spec_Reached_l1i (x0 : Int) (p106 : List Bool) : Nat → (List Int × Int) → Option ((List Int)) := itr (m_spec_Reached_l1s x0 p106)
theorem q_m_spec_Reached_l1 : @m_spec_Reached_l1 = @m_spec_Reached_l1i := by
  funext x0 p106 n
  induction n with
  | zero => rfl
  | succ n ih =>
    funext p
    show _ = m_spec_Reached_l1s x0 p106 (m_spec_Reached_l1i x0 p106 n) p
    rw [← ih]
    rfl
def m_spec_Reachedi (x0 : Int) (x1 : List (Int × Int × Int)) (x2 : List Bool) (x3 : Int) : Option (List Int) := Option.bind (m_spec_StateValid x0 x1 x2) (fun (p103 : Bool) => Option.bind (gb (!(!p103)) (m_spec_l1In x3 0 (w64 (x0 - 1)))) (fun (p104 : Bool) => (bif (!p103) || (!p104) then some ([] : List Int) else Option.bind (m_spec_l3Reach x0 x1 x2 x3) (fun (p106 : List Bool) => Option.bind (m_spec_Reached_l1i x0 p106 FUEL (([] : List Int), 0)) (fun (p110 : List Int) => some p110)))))
theorem q_m_spec_Reached : @m_spec_Reached = @m_spec_Reachedi := by
  funext x0 x1 x2 x3
  unfold m_spec_Reachedi
  rw [← q_m_spec_Reached_l1]
  rfl
def k_spec_Reached : Ctr := ⟨116, [.g [.int .i64, .sl .ro 71 (.p (.int .i64) (.p (.int .i64) (.int .i64)))], .o (.sl .ro 4 .b), .o (.int .i64)], [.o (.row 3 (.int .i64))], false, fun x => m_spec_Reached x.1 x.2.1 x.2.2.1 x.2.2.2⟩
theorem d_spec_Reached : Cok Tryz.prog k_spec_Reached := cok (op := opn) (cs := [k_spec_StateValid, k_spec_l1In, k_spec_l3Reach]) (rv := [.tmp 6]) (crt := .q .z (.q .z (.q (.q .z (.q (.q .z .z) .z)) (.q .z (.q (.q .z (.cut ⟨[(6, .o .k), (7, .o (.r 3 (.int .i64)))], [], []⟩ [] (.b (.lp ⟨[(3, .o .k), (6, .o .k), (7, .o (.r 3 (.int .i64))), (8, .o .k), (9, .o (.i .i64))], [(3, [.k, .k])], []⟩ (.q (.q .z (.q .z .z)) (.q (.b (.q .z (.cut ⟨[(3, .o .k), (6, .o .k), (7, .o (.r 3 (.int .i64))), (8, .o .k), (9, .o .k)], [(3, [.k, .k])], []⟩ [] (.q .z .z)))) .z)))))) (.q .z .z)))))) tys_ok eqt_ok rfl ⟨d_spec_StateValid, d_spec_l1In, d_spec_l3Reach, trivial⟩ opn_ok co116 Tryz.func116 rfl Tryz.ntmps116 rfl rfl (fun x => by
  show m_spec_Reached x.1 x.2.1 x.2.2.1 x.2.2.2 = _
  rw [q_m_spec_Reached]
  kernel_rfl)
def m_spec_l1Has_l1s (x0 : List Int) (x1 : Int) (rec : Int → Option (Unit ⊕ Bool)) (p104 : Int) : Option (Unit ⊕ Bool) := (bif ltB p104 (x0.length : Int) then chk (ixB p104 x0.length) ((bif (x0.getD p104.toNat (0 : Int)) == x1 then some (Sum.inr true) else rec (w64 (p104 + 1)))) else some (Sum.inl ()))
def m_spec_l1Has_l1i (x0 : List Int) (x1 : Int) : Nat → Int → Option (Unit ⊕ Bool) := itr (m_spec_l1Has_l1s x0 x1)
theorem q_m_spec_l1Has_l1 : @m_spec_l1Has_l1 = @m_spec_l1Has_l1i := by
  funext x0 x1 n
  induction n with
  | zero => rfl
  | succ n ih =>
    funext p
    show _ = m_spec_l1Has_l1s x0 x1 (m_spec_l1Has_l1i x0 x1 n) p
    rw [← ih]
    rfl
def m_spec_l1Hasi (x0 : List Int) (x1 : Int) : Option (Bool) := Option.bind (m_spec_l1Has_l1i x0 x1 FUEL 0 : Option (Unit ⊕ Bool)) (Sum.elim (fun (p101 : Unit) => some false) (fun (r : Bool) => some r))
theorem q_m_spec_l1Has : @m_spec_l1Has = @m_spec_l1Hasi := by
  funext x0 x1
  unfold m_spec_l1Hasi
  rw [← q_m_spec_l1Has_l1]
  rfl
def k_spec_l1Has : Ctr := ⟨40, [.o (.sl .ro 3 (.int .i64)), .o (.int .i64)], [.o .b], false, fun x => m_spec_l1Has x.1 x.2⟩
theorem d_spec_l1Has : Cok Tryz.prog k_spec_l1Has := cok (op := opn) (cs := []) (rv := [.tmp 4]) (crt := .q .z (.q (.q .z (.cut ⟨[(4, .o .k)], [], []⟩ [.rt] (.b (.lp ⟨[(0, .o .k), (1, .o .k), (4, .o .k), (5, .o (.i .i64))], [], []⟩ (.q (.q .z (.q .z .z)) (.q (.b (.q .z (.q (.q .z .z) .z))) .z)))))) (.q .z .z))) tys_ok eqt_ok rfl trivial opn_ok co40 Tryz.func40 rfl Tryz.ntmps40 rfl rfl (fun x => by
  show m_spec_l1Has x.1 x.2 = _
  rw [q_m_spec_l1Has]
  kernel_rfl)
def k_spec_SameIsland : Ctr := ⟨83, [.g [.int .i64, .sl .ro 71 (.p (.int .i64) (.p (.int .i64) (.int .i64)))], .o (.sl .ro 4 .b), .o (.int .i64), .o (.int .i64)], [.o .b], false, fun x => m_spec_SameIsland x.1 x.2.1 x.2.2.1 x.2.2.2.1 x.2.2.2.2⟩
theorem d_spec_SameIsland : Cok Tryz.prog k_spec_SameIsland := cok (op := opn) (cs := [k_spec_Reached, k_spec_l1Has]) (rv := [.tmp 8]) (crt := .q .z (.q .z .z)) tys_ok eqt_ok rfl ⟨d_spec_Reached, d_spec_l1Has, trivial⟩ opn_ok co83 Tryz.func83 rfl Tryz.ntmps83 rfl rfl (fun _ => by kernel_rfl)
def m_spec_CycleLines_l1s (x0 : Int) (x1 : List (Int × Int × Int)) (x2 : List Bool) (rec : (List Int × Int) → Option ((List Int))) (p108 : (List Int × Int)) : Option ((List Int)) := Option.bind (gb (ltB p108.2 (x2.length : Int)) (m_spec_StateValid x0 x1 x2)) (fun (p111 : Bool) => (bif (ltB p108.2 (x2.length : Int)) && p111 then Option.bind (m_spec_SwitchLine x0 x1 x2 p108.2 false) (fun (p113 : List Bool × Bool) => chk (ixB p108.2 x2.length) (chk (!(x2.getD p108.2.toNat false) || ixB p108.2 x1.length) (chk (!(x2.getD p108.2.toNat false) || ixB p108.2 x1.length) (Option.bind (gb (x2.getD p108.2.toNat false) (m_spec_SameIsland x0 x1 p113.1 ((x1.getD p108.2.toNat ((0, 0, 0) : Int × Int × Int)).1) ((x1.getD p108.2.toNat ((0, 0, 0) : Int × Int × Int)).2.1))) (fun (p120 : Bool) => Option.bind (bif (x2.getD p108.2.toNat false) && p120 then chk (apB p108.1.length ([p108.2] : List Int).length) (some (p108.1 ++ ([p108.2] : List Int))) else some p108.1) (fun (p121 : List Int) => rec (p121, w64 (p108.2 + 1)))))))) else some p108.1))
def m_spec_CycleLines_l1i (x0 : Int) (x1 : List (Int × Int × Int)) (x2 : List Bool) : Nat → (List Int × Int) → Option ((List Int)) := itr (m_spec_CycleLines_l1s x0 x1 x2)
theorem q_m_spec_CycleLines_l1 : @m_spec_CycleLines_l1 = @m_spec_CycleLines_l1i := by
  funext x0 x1 x2 n
  induction n with
  | zero => rfl
  | succ n ih =>
    funext p
    show _ = m_spec_CycleLines_l1s x0 x1 x2 (m_spec_CycleLines_l1i x0 x1 x2 n) p
    rw [← ih]
    rfl
def m_spec_CycleLinesi (x0 : Int) (x1 : List (Int × Int × Int)) (x2 : List Bool) : Option (List Int) := Option.bind (m_spec_CycleLines_l1i x0 x1 x2 FUEL (([] : List Int), 0)) (fun (p103 : List Int) => some p103)
theorem q_m_spec_CycleLines : @m_spec_CycleLines = @m_spec_CycleLinesi := by
  funext x0 x1 x2
  unfold m_spec_CycleLinesi
  rw [← q_m_spec_CycleLines_l1]
  rfl
def k_spec_CycleLines : Ctr := ⟨117, [.g [.int .i64, .sl .ro 71 (.p (.int .i64) (.p (.int .i64) (.int .i64)))], .o (.sl .ro 4 .b)], [.o (.row 3 (.int .i64))], false, fun x => m_spec_CycleLines x.1 x.2.1 x.2.2⟩
theorem d_spec_CycleLines : Cok Tryz.prog k_spec_CycleLines := cok (op := opn) (cs := [k_spec_StateValid, k_spec_SwitchLine, k_spec_SameIsland]) (rv := [.tmp 4]) (crt := .q .z (.q .z (.q (.q .z (.cut ⟨[(4, .o .k), (5, .o (.r 3 (.int .i64)))], [], []⟩ [] (.b (.lp ⟨[(1, .o .k), (2, .o .k), (4, .o .k), (5, .o (.r 3 (.int .i64))), (6, .o (.i .i64))], [(2, [.k, .k])], []⟩ (.q (.q .z (.q .z .z)) (.q (.b (.q .z (.q .z (.cut ⟨[(1, .o .k), (2, .o .k), (4, .o .k), (5, .o (.r 3 (.int .i64))), (6, .o .k)], [(2, [.k, .k])], []⟩ [] (.q .z .z))))) .z)))))) (.q .z .z)))) tys_ok eqt_ok rfl ⟨d_spec_StateValid, d_spec_SwitchLine, d_spec_SameIsland, trivial⟩ opn_ok co117 Tryz.func117 rfl Tryz.ntmps117 rfl rfl (fun x => by
  show m_spec_CycleLines x.1 x.2.1 x.2.2 = _
  rw [q_m_spec_CycleLines]
  kernel_rfl)
def k_spec_HasCycle : Ctr := ⟨82, [.g [.int .i64, .sl .ro 71 (.p (.int .i64) (.p (.int .i64) (.int .i64)))], .o (.sl .ro 4 .b)], [.o .b], false, fun x => m_spec_HasCycle x.1 x.2.1 x.2.2⟩
theorem d_spec_HasCycle : Cok Tryz.prog k_spec_HasCycle := cok (op := opn) (cs := [k_spec_CycleLines]) (rv := [.tmp 4]) (crt := .q .z (.q .z .z)) tys_ok eqt_ok rfl ⟨d_spec_CycleLines, trivial⟩ opn_ok co82 Tryz.func82 rfl Tryz.ntmps82 rfl rfl (fun _ => by kernel_rfl)
def m_spec_Radial_l2s (x0 : Int) (x1 : List (Int × Int × Int)) (x2 : List Bool) (x3 : List (Int × Int)) (p108 : Int) (rec : Int → Option (Unit ⊕ Bool)) (p113 : Int) : Option (Unit ⊕ Bool) := (bif ltB p113 p108 then chk (ixB p108 x3.length) (chk (!(ltB 0 ((x3.getD p108.toNat ((0, 0) : Int × Int)).1)) || ixB p113 x3.length) (Option.bind (gb ((ltB 0 ((x3.getD p108.toNat ((0, 0) : Int × Int)).1)) && (ltB 0 ((x3.getD p113.toNat ((0, 0) : Int × Int)).1))) (m_spec_SameIsland x0 x1 x2 p113 p108)) (fun (p117 : Bool) => (bif ((ltB 0 ((x3.getD p108.toNat ((0, 0) : Int × Int)).1)) && (ltB 0 ((x3.getD p113.toNat ((0, 0) : Int × Int)).1))) && p117 then some (Sum.inr false) else rec (w64 (p113 + 1)))))) else some (Sum.inl ()))
def m_spec_Radial_l2i (x0 : Int) (x1 : List (Int × Int × Int)) (x2 : List Bool) (x3 : List (Int × Int)) (p108 : Int) : Nat → Int → Option (Unit ⊕ Bool) := itr (m_spec_Radial_l2s x0 x1 x2 x3 p108)
theorem q_m_spec_Radial_l2 : @m_spec_Radial_l2 = @m_spec_Radial_l2i := by
  funext x0 x1 x2 x3 p108 n
  induction n with
  | zero => rfl
  | succ n ih =>
    funext p
    show _ = m_spec_Radial_l2s x0 x1 x2 x3 p108 (m_spec_Radial_l2i x0 x1 x2 x3 p108 n) p
    rw [← ih]
    rfl
def m_spec_Radial_l1s (x0 : Int) (x1 : List (Int × Int × Int)) (x2 : List Bool) (x3 : List (Int × Int)) (rec : Int → Option (Unit ⊕ Bool)) (p108 : Int) : Option (Unit ⊕ Bool) := (bif ltB p108 x0 then Option.bind (m_spec_Radial_l2i x0 x1 x2 x3 p108 FUEL 0 : Option (Unit ⊕ Bool)) (Sum.elim (fun (p110 : Unit) => rec (w64 (p108 + 1))) (fun (r : Bool) => some (Sum.inr r))) else some (Sum.inl ()))
def m_spec_Radial_l1i (x0 : Int) (x1 : List (Int × Int × Int)) (x2 : List Bool) (x3 : List (Int × Int)) : Nat → Int → Option (Unit ⊕ Bool) := itr (m_spec_Radial_l1s x0 x1 x2 x3)
theorem q_m_spec_Radial_l1 : @m_spec_Radial_l1 = @m_spec_Radial_l1i := by
  funext x0 x1 x2 x3 n
  induction n with
  | zero => rfl
  | succ n ih =>
    funext p
    show _ = m_spec_Radial_l1s x0 x1 x2 x3 (m_spec_Radial_l1i x0 x1 x2 x3 n) p
    rw [← ih]
    unfold m_spec_Radial_l1s
    rw [← q_m_spec_Radial_l2]
    rfl
def m_spec_Radiali (x0 : Int) (x1 : List (Int × Int × Int)) (x2 : List Bool) (x3 : List (Int × Int)) : Option (Bool) := Option.bind (m_spec_l5Ok x0 x1 x2 x3) (fun (p102 : Bool) => Option.bind (gb (!(!p102)) (m_spec_HasCycle x0 x1 x2)) (fun (p103 : Bool) => (bif (!p102) || p103 then some false else Option.bind (m_spec_Radial_l1i x0 x1 x2 x3 FUEL 0 : Option (Unit ⊕ Bool)) (Sum.elim (fun (p105 : Unit) => some true) (fun (r : Bool) => some r)))))
theorem q_m_spec_Radial : @m_spec_Radial = @m_spec_Radiali := by
  funext x0 x1 x2 x3
  unfold m_spec_Radiali
  rw [← q_m_spec_Radial_l1]
  rfl
def k_spec_Radial : Ctr := ⟨44, [.g [.int .i64, .sl .ro 71 (.p (.int .i64) (.p (.int .i64) (.int .i64)))], .o (.sl .ro 4 .b), .o (.sl .ro 42 (.p (.int .i64) (.int .i64)))], [.o .b], false, fun x => m_spec_Radial x.1 x.2.1 x.2.2.1 x.2.2.2⟩
theorem d_spec_Radial : Cok Tryz.prog k_spec_Radial := cok (op := opn) (cs := [k_spec_l5Ok, k_spec_HasCycle, k_spec_SameIsland]) (rv := [.tmp 6]) (crt := .q .z (.q (.q .z (.q (.q .z .z) .z)) (.q (.q .z (.cut ⟨[(6, .o .k)], [], []⟩ [.rt] (.b (.lp ⟨[(1, .o .k), (2, .o .k), (3, .o .k), (6, .o .k), (7, .o (.i .i64))], [(3, [.k, .k])], []⟩ (.q (.q .z (.q .z .z)) (.q (.b (.q .z (.cut ⟨[(1, .o .k), (2, .o .k), (3, .o .k), (6, .o .k), (7, .o .k)], [(3, [.k, .k])], []⟩ [.rt] (.b (.lp ⟨[(1, .o .k), (2, .o .k), (3, .o .k), (6, .o .k), (7, .o .k), (8, .o (.i .i64))], [(3, [.k, .k])], []⟩ (.q (.q .z (.q .z .z)) (.q (.b (.q .z (.q (.q .z .z) .z))) .z))))))) .z)))))) (.q .z .z)))) tys_ok eqt_ok rfl ⟨d_spec_l5Ok, d_spec_HasCycle, d_spec_SameIsland, trivial⟩ opn_ok co44 Tryz.func44 rfl Tryz.ntmps44 rfl rfl (fun x => by
  show m_spec_Radial x.1 x.2.1 x.2.2.1 x.2.2.2 = _
  rw [q_m_spec_Radial]
  kernel_rfl)
def m_spec_WorldValid_l1s (x3 : List Bool) (x6 : List Int) (rec : Int → Option (Unit ⊕ Bool)) (p108 : Int) : Option (Unit ⊕ Bool) := (bif ltB p108 (x6.length : Int) then chk (ixB p108 x6.length) (Option.bind (m_spec_l1In (x6.getD p108.toNat (0 : Int)) 0 (w64 ((x3.length : Int) - 1))) (fun (p111 : Bool) => chk (!((!(!p111)) && (ltB 0 p108)) || ixB (w64 (p108 - 1)) x6.length) (chk (!((!(!p111)) && (ltB 0 p108)) || ixB p108 x6.length) (chk (!(!((!p111) || ((ltB 0 p108) && (leB (x6.getD p108.toNat (0 : Int)) (x6.getD ((w64 (p108 - 1)).toNat) (0 : Int)))))) || ixB p108 x6.length) (chk (!(!((!p111) || ((ltB 0 p108) && (leB (x6.getD p108.toNat (0 : Int)) (x6.getD ((w64 (p108 - 1)).toNat) (0 : Int)))))) || ixB (x6.getD p108.toNat (0 : Int)) x3.length) ((bif ((!p111) || ((ltB 0 p108) && (leB (x6.getD p108.toNat (0 : Int)) (x6.getD ((w64 (p108 - 1)).toNat) (0 : Int))))) || (x3.getD ((x6.getD p108.toNat (0 : Int)).toNat) false) then some (Sum.inr false) else rec (w64 (p108 + 1))))))))) else some (Sum.inl ()))
def m_spec_WorldValid_l1i (x3 : List Bool) (x6 : List Int) : Nat → Int → Option (Unit ⊕ Bool) := itr (m_spec_WorldValid_l1s x3 x6)
theorem q_m_spec_WorldValid_l1 : @m_spec_WorldValid_l1 = @m_spec_WorldValid_l1i := by
  funext x3 x6 n
  induction n with
  | zero => rfl
  | succ n ih =>
    funext p
    show _ = m_spec_WorldValid_l1s x3 x6 (m_spec_WorldValid_l1i x3 x6 n) p
    rw [← ih]
    rfl
def m_spec_WorldValidi (x0 : Int) (x1 : List (Int × Int × Int)) (x2 : List (Int × Int)) (x3 : List Bool) (x4 : List Bool) (x5 : List (Int × Int)) (x6 : List Int) : Option (Bool) := Option.bind (m_spec_BusesValid x0 x1 x2) (fun (p102 : Bool) => Option.bind (gb (!(!p102)) (m_spec_WorkValid x3 x4 x5)) (fun (p103 : Bool) => (bif ((!p102) || (!p103)) || ((x3.length : Int) != (x1.length : Int)) then some false else Option.bind (m_spec_WorldValid_l1i x3 x6 FUEL 0 : Option (Unit ⊕ Bool)) (Sum.elim (fun (p105 : Unit) => Option.bind (m_spec_Radial x0 x1 x3 x2) (fun (p117 : Bool) => some p117)) (fun (r : Bool) => some r)))))
theorem q_m_spec_WorldValid : @m_spec_WorldValid = @m_spec_WorldValidi := by
  funext x0 x1 x2 x3 x4 x5 x6
  unfold m_spec_WorldValidi
  rw [← q_m_spec_WorldValid_l1]
  rfl
def k_spec_WorldValid : Ctr := ⟨11, [.g [.int .i64, .sl .ro 71 (.p (.int .i64) (.p (.int .i64) (.int .i64))), .sl .ro 42 (.p (.int .i64) (.int .i64)), .sl .ro 4 .b, .sl .ro 4 .b, .sl .ro 93 (.p (.int .i64) (.int .i64)), .sl .ro 3 (.int .i64)]], [.o .b], false, fun x => m_spec_WorldValid x.1 x.2.1 x.2.2.1 x.2.2.2.1 x.2.2.2.2.1 x.2.2.2.2.2.1 x.2.2.2.2.2.2⟩
theorem d_spec_WorldValid : Cok Tryz.prog k_spec_WorldValid := cok (op := opn) (cs := [k_spec_BusesValid, k_spec_WorkValid, k_spec_l1In, k_spec_Radial]) (rv := [.tmp 2]) (crt := .q .z (.q (.q .z (.q (.q .z .z) .z)) (.q (.q .z (.cut ⟨[(1, .o .k), (2, .o .k)], [(1, [.k, .k, .k, .k, .k, .k, .k])], []⟩ [.rt] (.b (.lp ⟨[(1, .o .k), (2, .o .k), (3, .o (.i .i64))], [(1, [.k, .k, .k, .k, .k, .k, .k])], []⟩ (.q (.q .z (.q .z .z)) (.q (.b (.q .z (.q (.q .z .z) .z))) .z)))))) (.q .z .z)))) tys_ok eqt_ok rfl ⟨d_spec_BusesValid, d_spec_WorkValid, d_spec_l1In, d_spec_Radial, trivial⟩ opn_ok co11 Tryz.func11 rfl Tryz.ntmps11 rfl rfl (fun x => by
  show m_spec_WorldValid x.1 x.2.1 x.2.2.1 x.2.2.2.1 x.2.2.2.2.1 x.2.2.2.2.2.1 x.2.2.2.2.2.2 = _
  rw [q_m_spec_WorldValid]
  kernel_rfl)
def k_spec_l12Copy : Ctr := ⟨134, [.g [.sl .ro 4 .b, .sl .ro 4 .b, .sl .ro 93 (.p (.int .i64) (.int .i64))]], [.g [.row 4 .b, .row 4 .b, .row 93 (.p (.int .i64) (.int .i64))]], false, fun x => m_spec_l12Copy x.1 x.2.1 x.2.2⟩
theorem d_spec_l12Copy : Cok Tryz.prog k_spec_l12Copy := cok (op := opn) (cs := [k_spec_l2Copy]) (rv := [.cell 2 30]) (crt := .q .z (.q .z .z)) tys_ok eqt_ok rfl ⟨d_spec_l2Copy, trivial⟩ opn_ok co134 Tryz.func134 rfl Tryz.ntmps134 rfl rfl (fun _ => by kernel_rfl)
def k_spec_l39Copy : Ctr := ⟨105, [.g [.int .i64, .sl .ro 71 (.p (.int .i64) (.p (.int .i64) (.int .i64))), .sl .ro 42 (.p (.int .i64) (.int .i64)), .sl .ro 4 .b, .sl .ro 4 .b, .sl .ro 93 (.p (.int .i64) (.int .i64)), .sl .ro 3 (.int .i64)]], [.g [.int .i64, .row 71 (.p (.int .i64) (.p (.int .i64) (.int .i64))), .row 42 (.p (.int .i64) (.int .i64)), .row 4 .b, .row 4 .b, .row 93 (.p (.int .i64) (.int .i64)), .row 3 (.int .i64)]], false, fun x => m_spec_l39Copy x.1 x.2.1 x.2.2.1 x.2.2.2.1 x.2.2.2.2.1 x.2.2.2.2.2.1 x.2.2.2.2.2.2⟩
theorem d_spec_l39Copy : Cok Tryz.prog k_spec_l39Copy := cok (op := opn) (cs := [k_spec_l12Copy]) (rv := [.cell 2 33]) (crt := .q .z (.q .z (.q .z .z))) tys_ok eqt_ok rfl ⟨d_spec_l12Copy, trivial⟩ opn_ok co105 Tryz.func105 rfl Tryz.ntmps105 rfl rfl (fun _ => by kernel_rfl)
def m_spec_WorkHeld_l1s (x0 : List Bool) (x1 : List Bool) (x2 : List (Int × Int)) (x3 : Int) (rec : (List Int × Int) → Option ((List Int))) (p108 : (List Int × Int)) : Option ((List Int)) := Option.bind (gb (ltB p108.2 (x2.length : Int)) (m_spec_WorkValid x0 x1 x2)) (fun (p111 : Bool) => (bif (ltB p108.2 (x2.length : Int)) && p111 then chk (ixB p108.2 x2.length) (Option.bind (bif ((x2.getD p108.2.toNat ((0, 0) : Int × Int)).2) == x3 then chk (ixB p108.2 x2.length) (chk (apB p108.1.length ([(x2.getD p108.2.toNat ((0, 0) : Int × Int)).1] : List Int).length) (some (p108.1 ++ ([(x2.getD p108.2.toNat ((0, 0) : Int × Int)).1] : List Int)))) else some p108.1) (fun (p114 : List Int) => rec (p114, w64 (p108.2 + 1)))) else some p108.1))
def m_spec_WorkHeld_l1i (x0 : List Bool) (x1 : List Bool) (x2 : List (Int × Int)) (x3 : Int) : Nat → (List Int × Int) → Option ((List Int)) := itr (m_spec_WorkHeld_l1s x0 x1 x2 x3)
theorem q_m_spec_WorkHeld_l1 : @m_spec_WorkHeld_l1 = @m_spec_WorkHeld_l1i := by
  funext x0 x1 x2 x3 n
  induction n with
  | zero => rfl
  | succ n ih =>
    funext p
    show _ = m_spec_WorkHeld_l1s x0 x1 x2 x3 (m_spec_WorkHeld_l1i x0 x1 x2 x3 n) p
    rw [← ih]
    rfl
def m_spec_WorkHeldi (x0 : List Bool) (x1 : List Bool) (x2 : List (Int × Int)) (x3 : Int) : Option (List Int) := Option.bind (m_spec_WorkHeld_l1i x0 x1 x2 x3 FUEL (([] : List Int), 0)) (fun (p103 : List Int) => some p103)
theorem q_m_spec_WorkHeld : @m_spec_WorkHeld = @m_spec_WorkHeldi := by
  funext x0 x1 x2 x3
  unfold m_spec_WorkHeldi
  rw [← q_m_spec_WorkHeld_l1]
  rfl
def k_spec_WorkHeld : Ctr := ⟨112, [.g [.sl .ro 4 .b, .sl .ro 4 .b, .sl .ro 93 (.p (.int .i64) (.int .i64))], .o (.int .i64)], [.o (.row 3 (.int .i64))], false, fun x => m_spec_WorkHeld x.1 x.2.1 x.2.2.1 x.2.2.2⟩
theorem d_spec_WorkHeld : Cok Tryz.prog k_spec_WorkHeld := cok (op := opn) (cs := [k_spec_WorkValid]) (rv := [.tmp 4]) (crt := .q .z (.q .z (.q (.q .z (.cut ⟨[(4, .o .k), (5, .o (.r 3 (.int .i64)))], [], []⟩ [] (.b (.lp ⟨[(1, .o .k), (2, .o .k), (4, .o .k), (5, .o (.r 3 (.int .i64))), (6, .o (.i .i64))], [(2, [.k, .k, .k])], []⟩ (.q (.q .z (.q .z .z)) (.q (.b (.q .z (.cut ⟨[(1, .o .k), (2, .o .k), (4, .o .k), (5, .o (.r 3 (.int .i64))), (6, .o .k)], [(2, [.k, .k, .k])], []⟩ [] (.q .z .z)))) .z)))))) (.q .z .z)))) tys_ok eqt_ok rfl ⟨d_spec_WorkValid, trivial⟩ opn_ok co112 Tryz.func112 rfl Tryz.ntmps112 rfl rfl (fun x => by
  show m_spec_WorkHeld x.1 x.2.1 x.2.2.1 x.2.2.2 = _
  rw [q_m_spec_WorkHeld]
  kernel_rfl)
def m_spec_l39Mend_l1s (x6 : List Int) (x7 : Int) (rec : (Int × List Int) → Option ((List Int))) (p129 : (Int × List Int)) : Option ((List Int)) := (bif ltB p129.1 (x6.length : Int) then chk (ixB p129.1 x6.length) (Option.bind (bif (x6.getD p129.1.toNat (0 : Int)) != x7 then chk (ixB p129.1 x6.length) (chk (apB p129.2.length ([(x6.getD p129.1.toNat (0 : Int))] : List Int).length) (some (p129.2 ++ ([(x6.getD p129.1.toNat (0 : Int))] : List Int)))) else some p129.2) (fun (p134 : List Int) => rec (w64 (p129.1 + 1), p134))) else some p129.2)
def m_spec_l39Mend_l1i (x6 : List Int) (x7 : Int) : Nat → (Int × List Int) → Option ((List Int)) := itr (m_spec_l39Mend_l1s x6 x7)
theorem q_m_spec_l39Mend_l1 : @m_spec_l39Mend_l1 = @m_spec_l39Mend_l1i := by
  funext x6 x7 n
  induction n with
  | zero => rfl
  | succ n ih =>
    funext p
    show _ = m_spec_l39Mend_l1s x6 x7 (m_spec_l39Mend_l1i x6 x7 n) p
    rw [← ih]
    rfl
def m_spec_l39Mendi (x0 : Int) (x1 : List (Int × Int × Int)) (x2 : List (Int × Int)) (x3 : List Bool) (x4 : List Bool) (x5 : List (Int × Int)) (x6 : List Int) (x7 : Int) : Option (Int × List (Int × Int × Int) × List (Int × Int) × List Bool × List Bool × List (Int × Int) × List Int) := Option.bind (m_spec_l39Copy x0 x1 x2 x3 x4 x5 x6) (fun (p103 : Int × List (Int × Int × Int) × List (Int × Int) × List Bool × List Bool × List (Int × Int) × List Int) => Option.bind (m_spec_l39Mend_l1i x6 x7 FUEL (0, ([] : List Int))) (fun (p124 : List Int) => some (p103.1, p103.2.1, p103.2.2.1, p103.2.2.2.1, p103.2.2.2.2.1, p103.2.2.2.2.2.1, p124)))
theorem q_m_spec_l39Mend : @m_spec_l39Mend = @m_spec_l39Mendi := by
  funext x0 x1 x2 x3 x4 x5 x6 x7
  unfold m_spec_l39Mendi
  rw [← q_m_spec_l39Mend_l1]
  rfl
def k_spec_l39Mend : Ctr := ⟨113, [.g [.int .i64, .sl .ro 71 (.p (.int .i64) (.p (.int .i64) (.int .i64))), .sl .ro 42 (.p (.int .i64) (.int .i64)), .sl .ro 4 .b, .sl .ro 4 .b, .sl .ro 93 (.p (.int .i64) (.int .i64)), .sl .ro 3 (.int .i64)], .o (.int .i64)], [.g [.int .i64, .row 71 (.p (.int .i64) (.p (.int .i64) (.int .i64))), .row 42 (.p (.int .i64) (.int .i64)), .row 4 .b, .row 4 .b, .row 93 (.p (.int .i64) (.int .i64)), .row 3 (.int .i64)]], false, fun x => m_spec_l39Mend x.1 x.2.1 x.2.2.1 x.2.2.2.1 x.2.2.2.2.1 x.2.2.2.2.2.1 x.2.2.2.2.2.2.1 x.2.2.2.2.2.2.2⟩
theorem d_spec_l39Mend : Cok Tryz.prog k_spec_l39Mend := cok (op := opn) (cs := [k_spec_l39Copy]) (rv := [.cell 4 33]) (crt := .q .z (.q .z (.q .z (.q (.q .z (.cut ⟨[(4, .o .k), (5, .o .k)], [(5, [.k, .k, .k, .k, .k, .k, .r 3 (.int .i64)]), (4, [.k, .k, .k, .k, .k, .k, .k])], []⟩ [] (.b (.lp ⟨[(1, .o .k), (2, .o .k), (4, .o .k), (5, .o .k), (6, .o (.i .i64))], [(5, [.k, .k, .k, .k, .k, .k, .r 3 (.int .i64)]), (4, [.k, .k, .k, .k, .k, .k, .k]), (2, [.k, .k, .k, .k, .k, .k, .k])], []⟩ (.q (.q .z (.q .z .z)) (.q (.b (.q .z (.cut ⟨[(1, .o .k), (2, .o .k), (4, .o .k), (5, .o .k), (6, .o .k)], [(5, [.k, .k, .k, .k, .k, .k, .r 3 (.int .i64)]), (4, [.k, .k, .k, .k, .k, .k, .k]), (2, [.k, .k, .k, .k, .k, .k, .k])], []⟩ [] (.q .z .z)))) .z)))))) (.q .z .z))))) tys_ok eqt_ok rfl ⟨d_spec_l39Copy, trivial⟩ opn_ok co113 Tryz.func113 rfl Tryz.ntmps113 rfl rfl (fun x => by
  show m_spec_l39Mend x.1 x.2.1 x.2.2.1 x.2.2.2.1 x.2.2.2.2.1 x.2.2.2.2.2.1 x.2.2.2.2.2.2.1 x.2.2.2.2.2.2.2 = _
  rw [q_m_spec_l39Mend]
  kernel_rfl)
def m_spec_l39Break_l1s (x3 : List Bool) (x6 : List Int) (x7 : Int) (rec : (Int × List Int) → Option ((List Int))) (p130 : (Int × List Int)) : Option ((List Int)) := (bif ltB p130.1 (x3.length : Int) then Option.bind (gb (!(p130.1 == x7)) (m_spec_l1Has x6 p130.1)) (fun (p134 : Bool) => Option.bind (bif (p130.1 == x7) || p134 then chk (apB p130.2.length ([p130.1] : List Int).length) (some (p130.2 ++ ([p130.1] : List Int))) else some p130.2) (fun (p135 : List Int) => rec (w64 (p130.1 + 1), p135))) else some p130.2)
def m_spec_l39Break_l1i (x3 : List Bool) (x6 : List Int) (x7 : Int) : Nat → (Int × List Int) → Option ((List Int)) := itr (m_spec_l39Break_l1s x3 x6 x7)
theorem q_m_spec_l39Break_l1 : @m_spec_l39Break_l1 = @m_spec_l39Break_l1i := by
  funext x3 x6 x7 n
  induction n with
  | zero => rfl
  | succ n ih =>
    funext p
    show _ = m_spec_l39Break_l1s x3 x6 x7 (m_spec_l39Break_l1i x3 x6 x7 n) p
    rw [← ih]
    rfl
def m_spec_l39Breaki (x0 : Int) (x1 : List (Int × Int × Int)) (x2 : List (Int × Int)) (x3 : List Bool) (x4 : List Bool) (x5 : List (Int × Int)) (x6 : List Int) (x7 : Int) : Option (Int × List (Int × Int × Int) × List (Int × Int) × List Bool × List Bool × List (Int × Int) × List Int) := Option.bind (m_spec_l39Copy x0 x1 x2 x3 x4 x5 x6) (fun (p103 : Int × List (Int × Int × Int) × List (Int × Int) × List Bool × List Bool × List (Int × Int) × List Int) => chk (ixB x7 p103.2.2.2.1.length) (Option.bind (m_spec_l39Break_l1i x3 x6 x7 FUEL (0, ([] : List Int))) (fun (p125 : List Int) => some (p103.1, p103.2.1, p103.2.2.1, p103.2.2.2.1.set x7.toNat false, p103.2.2.2.2.1, p103.2.2.2.2.2.1, p125))))
theorem q_m_spec_l39Break : @m_spec_l39Break = @m_spec_l39Breaki := by
  funext x0 x1 x2 x3 x4 x5 x6 x7
  unfold m_spec_l39Breaki
  rw [← q_m_spec_l39Break_l1]
  rfl
def k_spec_l39Break : Ctr := ⟨111, [.g [.int .i64, .sl .ro 71 (.p (.int .i64) (.p (.int .i64) (.int .i64))), .sl .ro 42 (.p (.int .i64) (.int .i64)), .sl .ro 4 .b, .sl .ro 4 .b, .sl .ro 93 (.p (.int .i64) (.int .i64)), .sl .ro 3 (.int .i64)], .o (.int .i64)], [.g [.int .i64, .row 71 (.p (.int .i64) (.p (.int .i64) (.int .i64))), .row 42 (.p (.int .i64) (.int .i64)), .row 4 .b, .row 4 .b, .row 93 (.p (.int .i64) (.int .i64)), .row 3 (.int .i64)]], false, fun x => m_spec_l39Break x.1 x.2.1 x.2.2.1 x.2.2.2.1 x.2.2.2.2.1 x.2.2.2.2.2.1 x.2.2.2.2.2.2.1 x.2.2.2.2.2.2.2⟩
theorem d_spec_l39Break : Cok Tryz.prog k_spec_l39Break := cok (op := opn) (cs := [k_spec_l39Copy, k_spec_l1Has]) (rv := [.cell 4 33]) (crt := .q .z (.q .z (.q .z (.q .z (.q (.q .z (.cut ⟨[(4, .o .k), (5, .o .k)], [(5, [.k, .k, .k, .k, .k, .k, .r 3 (.int .i64)]), (4, [.k, .k, .k, .k, .k, .k, .k])], []⟩ [] (.b (.lp ⟨[(1, .o .k), (2, .o .k), (4, .o .k), (5, .o .k), (6, .o (.i .i64))], [(5, [.k, .k, .k, .k, .k, .k, .r 3 (.int .i64)]), (4, [.k, .k, .k, .k, .k, .k, .k]), (2, [.k, .k, .k, .k, .k, .k, .k])], []⟩ (.q (.q .z (.q .z .z)) (.q (.b (.q .z (.cut ⟨[(1, .o .k), (2, .o .k), (4, .o .k), (5, .o .k), (6, .o .k)], [(5, [.k, .k, .k, .k, .k, .k, .r 3 (.int .i64)]), (4, [.k, .k, .k, .k, .k, .k, .k]), (2, [.k, .k, .k, .k, .k, .k, .k])], []⟩ [] (.q .z .z)))) .z)))))) (.q .z .z)))))) tys_ok eqt_ok rfl ⟨d_spec_l39Copy, d_spec_l1Has, trivial⟩ opn_ok co111 Tryz.func111 rfl Tryz.ntmps111 rfl rfl (fun x => by
  show m_spec_l39Break x.1 x.2.1 x.2.2.1 x.2.2.2.1 x.2.2.2.2.1 x.2.2.2.2.2.1 x.2.2.2.2.2.2.1 x.2.2.2.2.2.2.2 = _
  rw [q_m_spec_l39Break]
  kernel_rfl)
def k_spec_l12May : Ctr := ⟨137, [.g [.sl .ro 4 .b, .sl .ro 4 .b, .sl .ro 93 (.p (.int .i64) (.int .i64))], .g [.int .i64, .int .i64, .int .i64]], [.o .b], false, fun x => m_spec_l12May x.1 x.2.1 x.2.2.1 x.2.2.2.1 x.2.2.2.2.1 x.2.2.2.2.2⟩
theorem d_spec_l12May : Cok Tryz.prog k_spec_l12May := cok (op := opn) (cs := [k_spec_l12Find, k_spec_WorkHeld, k_spec_l1In]) (rv := [.tmp 4]) (crt := .q .z (.q .z (.q (.q .z (.b (.q .z (.q (.q .z .z) (.q .z (.q (.q .z .z) (.q .z (.q (.q .z .z) (.q .z (.q (.q (.cut ⟨[(4, .o .b)], [], []⟩ [] .z) .z) (.q .z (.q (.q .z .z) (.q .z (.q (.q .z .z) .z)))))))))))))) (.q .z .z)))) tys_ok eqt_ok rfl ⟨d_spec_l12Find, d_spec_WorkHeld, d_spec_l1In, trivial⟩ opn_ok co137 Tryz.func137 rfl Tryz.ntmps137 rfl rfl (fun _ => by kernel_rfl)
def k_spec_WorkDo : Ctr := ⟨114, [.g [.sl .ro 4 .b, .sl .ro 4 .b, .sl .ro 93 (.p (.int .i64) (.int .i64))], .g [.int .i64, .int .i64, .int .i64]], [.g [.row 4 .b, .row 4 .b, .row 93 (.p (.int .i64) (.int .i64))], .o .b], false, fun x => m_spec_WorkDo x.1 x.2.1 x.2.2.1 x.2.2.2.1 x.2.2.2.2.1 x.2.2.2.2.2⟩
theorem d_spec_WorkDo : Cok Tryz.prog k_spec_WorkDo := cok (op := opn) (cs := [k_spec_WorkValid, k_spec_l12Copy, k_spec_l1In, k_spec_l12May, k_spec_l12Find]) (rv := [.cell 4 30, .tmp 5]) (crt := .q .z (.q (.q .z (.q (.q .z .z) .z)) (.q .z (.q (.q .z (.q (.q .z .z) .z)) (.q (.q .z (.b (.q .z (.cut ⟨[(4, .o .k), (5, .o .k), (6, .o .k)], [(6, [.w 4 .b, .w 4 .b, .r 93 (.p (.int .i64) (.int .i64))]), (4, [.k, .k, .k])], []⟩ [] (.q .z (.q .z (.cut ⟨[(4, .o .k), (5, .o .k), (6, .o .k)], [(6, [.w 4 .b, .w 4 .b, .r 93 (.p (.int .i64) (.int .i64))]), (4, [.k, .k, .k])], []⟩ [] (.q .z (.q .z (.cut ⟨[(4, .o .k), (5, .o .k), (6, .o .k)], [(6, [.k, .w 4 .b, .r 93 (.p (.int .i64) (.int .i64))]), (4, [.k, .k, .k])], []⟩ [] (.q .z (.q .z (.cut ⟨[(4, .o .k), (5, .o .k), (6, .o .k)], [(6, [.k, .w 4 .b, .r 93 (.p (.int .i64) (.int .i64))]), (4, [.k, .k, .k])], []⟩ [] (.q .z (.q .z (.cut ⟨[(4, .o .k), (5, .o .k), (6, .o .k)], [(6, [.k, .k, .r 93 (.p (.int .i64) (.int .i64))]), (4, [.k, .k, .k])], []⟩ [] (.q .z (.q .z .z)))))))))))))))))) (.q .z .z)))))) tys_ok eqt_ok rfl ⟨d_spec_WorkValid, d_spec_l12Copy, d_spec_l1In, d_spec_l12May, d_spec_l12Find, trivial⟩ opn_ok co114 Tryz.func114 rfl Tryz.ntmps114 rfl rfl (fun _ => by kernel_rfl)
def k_spec_WorldDo : Ctr := ⟨74, [.g [.int .i64, .sl .ro 71 (.p (.int .i64) (.p (.int .i64) (.int .i64))), .sl .ro 42 (.p (.int .i64) (.int .i64)), .sl .ro 4 .b, .sl .ro 4 .b, .sl .ro 93 (.p (.int .i64) (.int .i64)), .sl .ro 3 (.int .i64)], .g [.int .i64, .int .i64, .int .i64]], [.g [.int .i64, .row 71 (.p (.int .i64) (.p (.int .i64) (.int .i64))), .row 42 (.p (.int .i64) (.int .i64)), .row 4 .b, .row 4 .b, .row 93 (.p (.int .i64) (.int .i64)), .row 3 (.int .i64)], .o .b], false, fun x => m_spec_WorldDo x.1 x.2.1 x.2.2.1 x.2.2.2.1 x.2.2.2.2.1 x.2.2.2.2.2.1 x.2.2.2.2.2.2.1 x.2.2.2.2.2.2.2.1 x.2.2.2.2.2.2.2.2.1 x.2.2.2.2.2.2.2.2.2⟩
theorem d_spec_WorldDo : Cok Tryz.prog k_spec_WorldDo := cok (op := opn) (cs := [k_spec_WorldValid, k_spec_l1In, k_spec_l39Copy, k_spec_l1Has, k_spec_l39Break, k_spec_WorkHeld, k_spec_l39Mend, k_spec_WorkDo, k_spec_Radial]) (rv := [.cell 4 33, .tmp 5]) (crt := .q .z (.q (.q .z (.q (.q .z .z) .z)) (.q (.q .z (.q (.q .z .z) .z)) (.q .z (.q (.b (.q .z (.q (.q .z .z) (.q (.cut ⟨[(2, .o .k), (3, .o .k), (4, .o .k), (5, .o .k), (6, .o .k), (42, .o .b)], [(4, [.k, .k, .k, .k, .k, .k, .k]), (3, [.k, .k, .k]), (2, [.k, .k, .k, .k, .k, .k, .k])], []⟩ [] .z) (.q (.q .z .z) (.q .z (.q (.q .z .z) .z))))))) (.q .z (.q .z (.q (.q .z (.q (.q .z .z) .z)) (.q .z (.q .z .z)))))))))) tys_ok eqt_ok rfl ⟨d_spec_WorldValid, d_spec_l1In, d_spec_l39Copy, d_spec_l1Has, d_spec_l39Break, d_spec_WorkHeld, d_spec_l39Mend, d_spec_WorkDo, d_spec_Radial, trivial⟩ opn_ok co74 Tryz.func74 rfl Tryz.ntmps74 rfl rfl (fun _ => by kernel_rfl)
def m_spec_l20World_l1s (x0 : List Int) (rec : (Int × Int × Int × List (Int × Int × Int) × List (Int × Int) × List Bool × List Bool × List (Int × Int) × List Int) → Option ((Int × Int × List (Int × Int × Int) × List (Int × Int) × List Bool × List Bool × List (Int × Int) × List Int))) (p132 : (Int × Int × Int × List (Int × Int × Int) × List (Int × Int) × List Bool × List Bool × List (Int × Int) × List Int)) : Option ((Int × Int × List (Int × Int × Int) × List (Int × Int) × List Bool × List Bool × List (Int × Int) × List Int)) := (bif ltB 0 p132.1 then Option.bind (m_spec_l20WorldDeed x0 p132.2.1 p132.2.2.1 p132.2.2.2.1 p132.2.2.2.2.1 p132.2.2.2.2.2.1 p132.2.2.2.2.2.2.1 p132.2.2.2.2.2.2.2.1 p132.2.2.2.2.2.2.2.2) (fun (p146 : Int × Int × Int × Int) => Option.bind (m_spec_WorldDo p132.2.2.1 p132.2.2.2.1 p132.2.2.2.2.1 p132.2.2.2.2.2.1 p132.2.2.2.2.2.2.1 p132.2.2.2.2.2.2.2.1 p132.2.2.2.2.2.2.2.2 p146.1 p146.2.1 p146.2.2.1) (fun (p147 : Int × List (Int × Int × Int) × List (Int × Int) × List Bool × List Bool × List (Int × Int) × List Int × Bool) => Option.bind (bif p147.2.2.2.2.2.2.2 then some (p147.1, p147.2.1, p147.2.2.1, p147.2.2.2.1, p147.2.2.2.2.1, p147.2.2.2.2.2.1, p147.2.2.2.2.2.2.1) else some (p132.2.2.1, p132.2.2.2.1, p132.2.2.2.2.1, p132.2.2.2.2.2.1, p132.2.2.2.2.2.2.1, p132.2.2.2.2.2.2.2.1, p132.2.2.2.2.2.2.2.2)) (fun (p179 : Int × List (Int × Int × Int) × List (Int × Int) × List Bool × List Bool × List (Int × Int) × List Int) => rec (w64 (p132.1 - 1), p146.2.2.2, p179.1, p179.2.1, p179.2.2.1, p179.2.2.2.1, p179.2.2.2.2.1, p179.2.2.2.2.2.1, p179.2.2.2.2.2.2)))) else some (p132.2.1, p132.2.2.1, p132.2.2.2.1, p132.2.2.2.2.1, p132.2.2.2.2.2.1, p132.2.2.2.2.2.2.1, p132.2.2.2.2.2.2.2.1, p132.2.2.2.2.2.2.2.2))
def m_spec_l20World_l1i (x0 : List Int) : Nat → (Int × Int × Int × List (Int × Int × Int) × List (Int × Int) × List Bool × List Bool × List (Int × Int) × List Int) → Option ((Int × Int × List (Int × Int × Int) × List (Int × Int) × List Bool × List Bool × List (Int × Int) × List Int)) := itr (m_spec_l20World_l1s x0)
theorem q_m_spec_l20World_l1 : @m_spec_l20World_l1 = @m_spec_l20World_l1i := by
  funext x0 n
  induction n with
  | zero => rfl
  | succ n ih =>
    funext p
    show _ = m_spec_l20World_l1s x0 (m_spec_l20World_l1i x0 n) p
    rw [← ih]
    rfl
def m_spec_l20World_l2s (p117 : Int × Int × List (Int × Int × Int) × List (Int × Int) × List Bool × List Bool × List (Int × Int) × List Int) (rec : (Int × List Int) → Option ((List Int))) (p267 : (Int × List Int)) : Option ((List Int)) := (bif ltB p267.1 (p117.2.2.2.2.1.length : Int) then chk (ixB p267.1 p117.2.2.2.2.1.length) (Option.bind (bif p117.2.2.2.2.1.getD p267.1.toNat false then some ([p267.1] : List Int) else some p267.2) (fun (p272 : List Int) => rec (w64 (p267.1 + 1), p272))) else some p267.2)
def m_spec_l20World_l2i (p117 : Int × Int × List (Int × Int × Int) × List (Int × Int) × List Bool × List Bool × List (Int × Int) × List Int) : Nat → (Int × List Int) → Option ((List Int)) := itr (m_spec_l20World_l2s p117)
theorem q_m_spec_l20World_l2 : @m_spec_l20World_l2 = @m_spec_l20World_l2i := by
  funext p117 n
  induction n with
  | zero => rfl
  | succ n ih =>
    funext p
    show _ = m_spec_l20World_l2s p117 (m_spec_l20World_l2i p117 n) p
    rw [← ih]
    rfl
def m_spec_l20Worldi (x0 : List Int) (x1 : Int) (x2 : Int) : Option (Int × List (Int × Int × Int) × List (Int × Int) × List Bool × List Bool × List (Int × Int) × List Int × Int) := Option.bind (m_spec_l20Radial x0 x1 0) (fun (p102 : Int × List (Int × Int × Int) × List Bool × List (Int × Int) × Int) => chk (mkB (p102.2.2.1.length : Int)) (Option.bind (m_spec_l20Rd_pick x0 p102.2.2.2.2 10) (fun (p116 : Int × Int) => Option.bind (m_spec_l20World_l1i x0 FUEL (p116.1, p116.2, p102.1, p102.2.1, p102.2.2.2.1, p102.2.2.1, List.replicate p102.2.2.1.length false, ([] : List (Int × Int)), ([] : List Int))) (fun (p117 : Int × Int × List (Int × Int × Int) × List (Int × Int) × List Bool × List Bool × List (Int × Int) × List Int) => Option.bind (m_spec_l20Rd_odd x0 p117.1 x2) (fun (p195 : Bool × Int) => Option.bind (bif p195.1 then Option.bind (m_spec_l20Rd_pick x0 p195.2 5) (fun (p208 : Int × Int) => Option.bind (bif p208.1 == 0 then chk (slB 1 (p117.2.2.2.1.length : Int) p117.2.2.2.1.length) (some (subL p117.2.2.2.1 1 (p117.2.2.2.1.length : Int), p117.2.2.2.2.1, p117.2.2.2.2.2.1, p117.2.2.2.2.2.2.2)) else Option.bind (bif p208.1 == 1 then chk (apB p117.2.2.2.2.2.2.2.length ([(p117.2.2.2.2.1.length : Int)] : List Int).length) (some (p117.2.2.2.1, p117.2.2.2.2.1, p117.2.2.2.2.2.1, p117.2.2.2.2.2.2.2 ++ ([(p117.2.2.2.2.1.length : Int)] : List Int))) else Option.bind (bif p208.1 == 2 then Option.bind (m_spec_l20World_l2i p117 FUEL (0, p117.2.2.2.2.2.2.2)) (fun (p262 : List Int) => some (p117.2.2.2.1, p117.2.2.2.2.1, p117.2.2.2.2.2.1, p262)) else Option.bind (bif p208.1 == 3 then chk (apB p117.2.2.2.2.1.length ([false] : List Bool).length) (chk (apB p117.2.2.2.2.2.1.length ([false] : List Bool).length) (some (p117.2.2.2.1, p117.2.2.2.2.1 ++ ([false] : List Bool), p117.2.2.2.2.2.1 ++ ([false] : List Bool)))) else chk (ixB 0 p117.2.2.2.1.length) (chk (ixB 1 p117.2.2.2.1.length) (some ((p117.2.2.2.1.set ((0 : Int).toNat) (9, (p117.2.2.2.1.getD ((0 : Int).toNat) ((0, 0) : Int × Int)).2)).set ((1 : Int).toNat) (9, ((p117.2.2.2.1.set ((0 : Int).toNat) (9, (p117.2.2.2.1.getD ((0 : Int).toNat) ((0, 0) : Int × Int)).2)).getD ((1 : Int).toNat) ((0, 0) : Int × Int)).2), p117.2.2.2.2.1, p117.2.2.2.2.2.1)))) (fun (p243 : List (Int × Int) × List Bool × List Bool) => some (p243.1, p243.2.1, p243.2.2, p117.2.2.2.2.2.2.2))) (fun (p232 : List (Int × Int) × List Bool × List Bool × List Int) => some (p232.1, p232.2.1, p232.2.2.1, p232.2.2.2))) (fun (p221 : List (Int × Int) × List Bool × List Bool × List Int) => some (p221.1, p221.2.1, p221.2.2.1, p221.2.2.2))) (fun (p209 : List (Int × Int) × List Bool × List Bool × List Int) => some (p208.2, p209.1, p209.2.1, p209.2.2.1, p209.2.2.2))) else some (p195.2, p117.2.2.2.1, p117.2.2.2.2.1, p117.2.2.2.2.2.1, p117.2.2.2.2.2.2.2)) (fun (p196 : Int × List (Int × Int) × List Bool × List Bool × List Int) => some (p117.2.1, p117.2.2.1, p196.2.1, p196.2.2.1, p196.2.2.2.1, p117.2.2.2.2.2.2.1, p196.2.2.2.2, p196.1)))))))
theorem q_m_spec_l20World : @m_spec_l20World = @m_spec_l20Worldi := by
  funext x0 x1 x2
  unfold m_spec_l20Worldi
  rw [← q_m_spec_l20World_l1, ← q_m_spec_l20World_l2]
  rfl
def k_spec_l20World : Ctr := ⟨36, [.bx 110 [.sl .ro 5 (.int .u8), .int .i64], .o (.int .i64)], [.g [.int .i64, .row 71 (.p (.int .i64) (.p (.int .i64) (.int .i64))), .row 42 (.p (.int .i64) (.int .i64)), .row 4 .b, .row 4 .b, .row 93 (.p (.int .i64) (.int .i64)), .row 3 (.int .i64)]], true, fun x => m_spec_l20World x.1 x.2.1 x.2.2⟩
theorem d_spec_l20World : Cok Tryz.prog k_spec_l20World := cok (op := opn) (cs := [k_spec_l20Radial, k_spec_l20Rd_pick, k_spec_l20WorldDeed, k_spec_WorldDo, k_spec_l20Rd_odd]) (rv := [.cell 4 33]) (crt := .q .z (.q .z (.q .z (.q (.q .z (.cut ⟨[(0, .o .k), (1, .o .k), (4, .o .k), (8, .o .k)], [(4096, [.k, .i .i64]), (8, [.i .i64, .r 71 (.p (.int .i64) (.p (.int .i64) (.int .i64))), .r 42 (.p (.int .i64) (.int .i64)), .r 4 .b, .r 4 .b, .r 93 (.p (.int .i64) (.int .i64)), .r 3 (.int .i64)]), (4, [.k, .k, .k, .k, .k, .k, .k])], []⟩ [] (.b (.lp ⟨[(0, .o .k), (1, .o .k), (4, .o .k), (8, .o .k), (9, .o (.i .i64))], [(4096, [.k, .i .i64]), (8, [.i .i64, .r 71 (.p (.int .i64) (.p (.int .i64) (.int .i64))), .r 42 (.p (.int .i64) (.int .i64)), .r 4 .b, .r 4 .b, .r 93 (.p (.int .i64) (.int .i64)), .r 3 (.int .i64)]), (4, [.k, .k, .k, .k, .k, .k, .k])], []⟩ (.q (.q .z (.q .z .z)) (.q (.b (.q .z (.q .z (.cut ⟨[(0, .o .k), (1, .o .k), (4, .o .k), (8, .o .k), (9, .o .k)], [(4096, [.k, .k]), (8, [.i .i64, .r 71 (.p (.int .i64) (.p (.int .i64) (.int .i64))), .r 42 (.p (.int .i64) (.int .i64)), .r 4 .b, .r 4 .b, .r 93 (.p (.int .i64) (.int .i64)), .r 3 (.int .i64)]), (4, [.k, .k, .k, .k, .k, .k, .k])], []⟩ [] (.q .z .z))))) .z)))))) (.q (.q .z (.cut ⟨[(4, .o .k), (8, .o .k)], [(4096, [.k, .i .i64]), (8, [.k, .k, .r 42 (.p (.int .i64) (.int .i64)), .r 4 .b, .r 4 .b, .k, .r 3 (.int .i64)]), (4, [.k, .k, .k, .k, .k, .k, .k])], []⟩ [] (.q (.q .z (.b (.q .z (.cut ⟨[(4, .o .k), (8, .o .k)], [(4096, [.k, .k]), (8, [.k, .k, .r 42 (.p (.int .i64) (.int .i64)), .r 4 .b, .r 4 .b, .k, .r 3 (.int .i64)]), (4, [.k, .k, .k, .k, .k, .k, .k])], []⟩ [] (.q .z (.q .z (.cut ⟨[(4, .o .k), (8, .o .k)], [(4096, [.k, .k]), (8, [.k, .k, .w 42 (.p (.int .i64) (.int .i64)), .r 4 .b, .r 4 .b, .k, .r 3 (.int .i64)]), (4, [.k, .k, .k, .k, .k, .k, .k])], []⟩ [] (.q .z (.q .z (.cut ⟨[(4, .o .k), (8, .o .k)], [(4096, [.k, .k]), (8, [.k, .k, .w 42 (.p (.int .i64) (.int .i64)), .r 4 .b, .r 4 .b, .k, .r 3 (.int .i64)]), (4, [.k, .k, .k, .k, .k, .k, .k])], []⟩ [] (.q (.q .z (.cut ⟨[(4, .o .k), (8, .o .k)], [(4096, [.k, .k]), (8, [.k, .k, .k, .k, .k, .k, .r 3 (.int .i64)]), (4, [.k, .k, .k, .k, .k, .k, .k])], []⟩ [] (.b (.lp ⟨[(4, .o .k), (8, .o .k), (12, .o (.i .i64))], [(4096, [.k, .k]), (8, [.k, .k, .k, .k, .k, .k, .r 3 (.int .i64)]), (4, [.k, .k, .k, .k, .k, .k, .k])], []⟩ (.q (.q .z (.q .z .z)) (.q (.b (.q .z (.cut ⟨[(4, .o .k), (8, .o .k), (12, .o .k)], [(4096, [.k, .k]), (8, [.k, .k, .k, .k, .k, .k, .r 3 (.int .i64)]), (4, [.k, .k, .k, .k, .k, .k, .k])], []⟩ [] (.q .z .z)))) .z)))))) (.q .z (.cut ⟨[(4, .o .k), (8, .o .k)], [(4096, [.k, .k]), (8, [.k, .k, .w 42 (.p (.int .i64) (.int .i64)), .r 4 .b, .r 4 .b, .k, .k]), (4, [.k, .k, .k, .k, .k, .k, .k])], []⟩ [] (.q (.q .z .z) (.q .z .z))))))))))))))) .z))) (.q .z .z)))))) tys_ok eqt_ok rfl ⟨d_spec_l20Radial, d_spec_l20Rd_pick, d_spec_l20WorldDeed, d_spec_WorldDo, d_spec_l20Rd_odd, trivial⟩ opn_ok co36 Tryz.func36 rfl Tryz.ntmps36 rfl rfl (fun x => by
  show m_spec_l20World x.1 x.2.1 x.2.2 = _
  rw [q_m_spec_l20World]
  kernel_rfl)
def k_spec_DrawWorldDark : Ctr := ⟨7, [.o (.sl .ro 5 (.int .u8))], [.g [.int .i64, .row 71 (.p (.int .i64) (.p (.int .i64) (.int .i64))), .row 42 (.p (.int .i64) (.int .i64)), .row 4 .b, .row 4 .b, .row 93 (.p (.int .i64) (.int .i64)), .row 3 (.int .i64)]], false, fun x => m_spec_DrawWorldDark x⟩
theorem d_spec_DrawWorldDark : Cok Tryz.prog k_spec_DrawWorldDark := cok (op := opn) (cs := [k_spec_l20World]) (rv := [.cell 2 33]) (crt := .q .z (.q .z .z)) tys_ok eqt_ok rfl ⟨d_spec_l20World, trivial⟩ opn_ok co7 Tryz.func7 rfl Tryz.ntmps7 rfl rfl (fun _ => by kernel_rfl)
def k_impl_powerValid : Ctr := ⟨106, [.o (.int .i64)], [.o .b], false, fun x => m_impl_powerValid x⟩
theorem d_impl_powerValid : Cok Tryz.prog k_impl_powerValid := cok (op := opn) (cs := []) (rv := [.tmp 2]) (crt := .q .z (.q .z .z)) tys_ok eqt_ok rfl trivial opn_ok co106 Tryz.func106 rfl Tryz.ntmps106 rfl rfl (fun _ => by kernel_rfl)
def m_impl_BusesValid_l1s (x2 : List (Int × Int)) (rec : Int → Option (Unit ⊕ Bool)) (p107 : Int) : Option (Unit ⊕ Bool) := (bif ltB p107 (x2.length : Int) then chk (ixB p107 x2.length) (Option.bind (m_impl_powerValid ((x2.getD p107.toNat ((0, 0) : Int × Int)).1)) (fun (p111 : Bool) => Option.bind (gb (!(!p111)) (m_impl_powerValid ((x2.getD p107.toNat ((0, 0) : Int × Int)).2))) (fun (p112 : Bool) => (bif (!p111) || (!p112) then some (Sum.inr false) else rec (w64 (p107 + 1)))))) else some (Sum.inl ()))
def m_impl_BusesValid_l1i (x2 : List (Int × Int)) : Nat → Int → Option (Unit ⊕ Bool) := itr (m_impl_BusesValid_l1s x2)
theorem q_m_impl_BusesValid_l1 : @m_impl_BusesValid_l1 = @m_impl_BusesValid_l1i := by
  funext x2 n
  induction n with
  | zero => rfl
  | succ n ih =>
    funext p
    show _ = m_impl_BusesValid_l1s x2 (m_impl_BusesValid_l1i x2 n) p
    rw [← ih]
    rfl
def m_impl_BusesValidi (x0 : Int) (x1 : List (Int × Int × Int)) (x2 : List (Int × Int)) : Option (Bool) := Option.bind (m_impl_NetValid x0 x1) (fun (p102 : Bool) => (bif (!p102) || ((x2.length : Int) != x0) then some false else Option.bind (m_impl_BusesValid_l1i x2 FUEL 0 : Option (Unit ⊕ Bool)) (Sum.elim (fun (p104 : Unit) => some true) (fun (r : Bool) => some r))))
theorem q_m_impl_BusesValid : @m_impl_BusesValid = @m_impl_BusesValidi := by
  funext x0 x1 x2
  unfold m_impl_BusesValidi
  rw [← q_m_impl_BusesValid_l1]
  rfl
def k_impl_BusesValid : Ctr := ⟨68, [.g [.int .i64, .sl .ro 71 (.p (.int .i64) (.p (.int .i64) (.int .i64)))], .o (.sl .ro 42 (.p (.int .i64) (.int .i64)))], [.o .b], false, fun x => m_impl_BusesValid x.1 x.2.1 x.2.2⟩
theorem d_impl_BusesValid : Cok Tryz.prog k_impl_BusesValid := cok (op := opn) (cs := [k_impl_NetValid, k_impl_powerValid]) (rv := [.tmp 4]) (crt := .q .z (.q (.q .z (.q (.q .z .z) .z)) (.q (.q .z (.cut ⟨[(4, .o .k)], [], []⟩ [.rt] (.b (.lp ⟨[(4, .o .k), (17, .o .k), (18, .o .k), (19, .o (.i .i64))], [], []⟩ (.q .z (.q (.q .z .z) (.q (.b (.q .z (.q .z (.q (.q .z .z) .z)))) .z))))))) (.q .z .z)))) tys_ok eqt_ok rfl ⟨d_impl_NetValid, d_impl_powerValid, trivial⟩ opn_ok co68 Tryz.func68 rfl Tryz.ntmps68 rfl rfl (fun x => by
  show m_impl_BusesValid x.1 x.2.1 x.2.2 = _
  rw [q_m_impl_BusesValid]
  kernel_rfl)
def m_slices_Index_impl_Permit_impl_Permit_l1s (x0 : List (Int × Int)) (x1 : Int) (x2 : Int) (rec : Int → Option (Unit ⊕ Int)) (p105 : Int) : Option (Unit ⊕ Int) := (bif ltB p105 (x0.length : Int) then chk (ixB p105 x0.length) ((bif (x1 == ((x0.getD p105.toNat ((0, 0) : Int × Int)).1)) && (x2 == ((x0.getD p105.toNat ((0, 0) : Int × Int)).2)) then some (Sum.inr p105) else rec (w64 (p105 + 1)))) else some (Sum.inl ()))
def m_slices_Index_impl_Permit_impl_Permit_l1i (x0 : List (Int × Int)) (x1 : Int) (x2 : Int) : Nat → Int → Option (Unit ⊕ Int) := itr (m_slices_Index_impl_Permit_impl_Permit_l1s x0 x1 x2)
theorem q_m_slices_Index_impl_Permit_impl_Permit_l1 : @m_slices_Index_impl_Permit_impl_Permit_l1 = @m_slices_Index_impl_Permit_impl_Permit_l1i := by
  funext x0 x1 x2 n
  induction n with
  | zero => rfl
  | succ n ih =>
    funext p
    show _ = m_slices_Index_impl_Permit_impl_Permit_l1s x0 x1 x2 (m_slices_Index_impl_Permit_impl_Permit_l1i x0 x1 x2 n) p
    rw [← ih]
    rfl
def m_slices_Index_impl_Permit_impl_Permiti (x0 : List (Int × Int)) (x1 : Int) (x2 : Int) : Option (Int) := Option.bind (m_slices_Index_impl_Permit_impl_Permit_l1i x0 x1 x2 FUEL 0 : Option (Unit ⊕ Int)) (Sum.elim (fun (p102 : Unit) => some (-1)) (fun (r : Int) => some r))
theorem q_m_slices_Index_impl_Permit_impl_Permit : @m_slices_Index_impl_Permit_impl_Permit = @m_slices_Index_impl_Permit_impl_Permiti := by
  funext x0 x1 x2
  unfold m_slices_Index_impl_Permit_impl_Permiti
  rw [← q_m_slices_Index_impl_Permit_impl_Permit_l1]
  rfl
def k_slices_Index_impl_Permit_impl_Permit : Ctr := ⟨126, [.o (.sl .ro 93 (.p (.int .i64) (.int .i64))), .g [.int .i64, .int .i64]], [.o (.int .i64)], false, fun x => m_slices_Index_impl_Permit_impl_Permit x.1 x.2.1 x.2.2⟩
theorem d_slices_Index_impl_Permit_impl_Permit : Cok Tryz.prog k_slices_Index_impl_Permit_impl_Permit := cok (op := opn) (cs := []) (rv := [.tmp 4]) (crt := .q .z (.q (.q .z (.cut ⟨[(4, .o .k)], [], []⟩ [.rt] (.b (.lp ⟨[(0, .o .k), (3, .o .k), (4, .o .k), (7, .o .k), (8, .o (.i .i64))], [(3, [.k, .k])], []⟩ (.q .z (.q (.q .z .z) (.q (.b (.q .z (.q .z (.q (.q .z .z) .z)))) .z))))))) (.q .z .z))) tys_ok eqt_ok rfl trivial opn_ok co126 Tryz.func126 rfl Tryz.ntmps126 rfl rfl (fun x => by
  show m_slices_Index_impl_Permit_impl_Permit x.1 x.2.1 x.2.2 = _
  rw [q_m_slices_Index_impl_Permit_impl_Permit]
  kernel_rfl)
def k_slices_Contains_impl_Permit_impl_Permit : Ctr := ⟨98, [.o (.sl .ro 93 (.p (.int .i64) (.int .i64))), .g [.int .i64, .int .i64]], [.o .b], false, fun x => m_slices_Contains_impl_Permit_impl_Permit x.1 x.2.1 x.2.2⟩
theorem d_slices_Contains_impl_Permit_impl_Permit : Cok Tryz.prog k_slices_Contains_impl_Permit_impl_Permit := cok (op := opn) (cs := [k_slices_Index_impl_Permit_impl_Permit]) (rv := [.tmp 4]) (crt := .q .z (.q .z .z)) tys_ok eqt_ok rfl ⟨d_slices_Index_impl_Permit_impl_Permit, trivial⟩ opn_ok co98 Tryz.func98 rfl Tryz.ntmps98 rfl rfl (fun _ => by kernel_rfl)
def m_impl_WorkValid_l1s (x0 : List Bool) (x1 : List Bool) (rec : Int → Option (Unit ⊕ Bool)) (p106 : Int) : Option (Unit ⊕ Bool) := (bif ltB p106 (x0.length : Int) then chk (ixB p106 x0.length) (chk (!(x0.getD p106.toNat false) || ixB p106 x1.length) ((bif (x0.getD p106.toNat false) && (x1.getD p106.toNat false) then some (Sum.inr false) else rec (w64 (p106 + 1))))) else some (Sum.inl ()))
def m_impl_WorkValid_l1i (x0 : List Bool) (x1 : List Bool) : Nat → Int → Option (Unit ⊕ Bool) := itr (m_impl_WorkValid_l1s x0 x1)
theorem q_m_impl_WorkValid_l1 : @m_impl_WorkValid_l1 = @m_impl_WorkValid_l1i := by
  funext x0 x1 n
  induction n with
  | zero => rfl
  | succ n ih =>
    funext p
    show _ = m_impl_WorkValid_l1s x0 x1 (m_impl_WorkValid_l1i x0 x1 n) p
    rw [← ih]
    rfl
def m_impl_WorkValid_l2s (x0 : List Bool) (x1 : List Bool) (x2 : List (Int × Int)) (rec : Int → Option (Unit ⊕ Bool)) (p114 : Int) : Option (Unit ⊕ Bool) := (bif ltB p114 (x2.length : Int) then chk (ixB p114 x2.length) (chk (!(!((((ltB ((x2.getD p114.toNat ((0, 0) : Int × Int)).1) 0) || (ltB 9 ((x2.getD p114.toNat ((0, 0) : Int × Int)).1))) || (ltB ((x2.getD p114.toNat ((0, 0) : Int × Int)).2) 0)) || (leB (x0.length : Int) ((x2.getD p114.toNat ((0, 0) : Int × Int)).2)))) || ixB ((x2.getD p114.toNat ((0, 0) : Int × Int)).2) x1.length) (chk (!(!(((((ltB ((x2.getD p114.toNat ((0, 0) : Int × Int)).1) 0) || (ltB 9 ((x2.getD p114.toNat ((0, 0) : Int × Int)).1))) || (ltB ((x2.getD p114.toNat ((0, 0) : Int × Int)).2) 0)) || (leB (x0.length : Int) ((x2.getD p114.toNat ((0, 0) : Int × Int)).2))) || (!(x1.getD (((x2.getD p114.toNat ((0, 0) : Int × Int)).2).toNat) false)))) || slB 0 p114 x2.length) (Option.bind (gb (!(((((ltB ((x2.getD p114.toNat ((0, 0) : Int × Int)).1) 0) || (ltB 9 ((x2.getD p114.toNat ((0, 0) : Int × Int)).1))) || (ltB ((x2.getD p114.toNat ((0, 0) : Int × Int)).2) 0)) || (leB (x0.length : Int) ((x2.getD p114.toNat ((0, 0) : Int × Int)).2))) || (!(x1.getD (((x2.getD p114.toNat ((0, 0) : Int × Int)).2).toNat) false)))) (m_slices_Contains_impl_Permit_impl_Permit (subL x2 0 p114) ((x2.getD p114.toNat ((0, 0) : Int × Int)).1) ((x2.getD p114.toNat ((0, 0) : Int × Int)).2))) (fun (p120 : Bool) => (bif (((((ltB ((x2.getD p114.toNat ((0, 0) : Int × Int)).1) 0) || (ltB 9 ((x2.getD p114.toNat ((0, 0) : Int × Int)).1))) || (ltB ((x2.getD p114.toNat ((0, 0) : Int × Int)).2) 0)) || (leB (x0.length : Int) ((x2.getD p114.toNat ((0, 0) : Int × Int)).2))) || (!(x1.getD (((x2.getD p114.toNat ((0, 0) : Int × Int)).2).toNat) false))) || p120 then some (Sum.inr false) else rec (w64 (p114 + 1))))))) else some (Sum.inl ()))
def m_impl_WorkValid_l2i (x0 : List Bool) (x1 : List Bool) (x2 : List (Int × Int)) : Nat → Int → Option (Unit ⊕ Bool) := itr (m_impl_WorkValid_l2s x0 x1 x2)
theorem q_m_impl_WorkValid_l2 : @m_impl_WorkValid_l2 = @m_impl_WorkValid_l2i := by
  funext x0 x1 x2 n
  induction n with
  | zero => rfl
  | succ n ih =>
    funext p
    show _ = m_impl_WorkValid_l2s x0 x1 x2 (m_impl_WorkValid_l2i x0 x1 x2 n) p
    rw [← ih]
    rfl
def m_impl_WorkValidi (x0 : List Bool) (x1 : List Bool) (x2 : List (Int × Int)) : Option (Bool) := (bif (((ltB (x0.length : Int) 1) || (ltB 10 (x0.length : Int))) || ((x1.length : Int) != (x0.length : Int))) || (ltB 6 (x2.length : Int)) then some false else Option.bind (m_impl_WorkValid_l1i x0 x1 FUEL 0 : Option (Unit ⊕ Bool)) (Sum.elim (fun (p103 : Unit) => Option.bind (m_impl_WorkValid_l2i x0 x1 x2 FUEL 0 : Option (Unit ⊕ Bool)) (Sum.elim (fun (p111 : Unit) => some true) (fun (r : Bool) => some r))) (fun (r : Bool) => some r)))
theorem q_m_impl_WorkValid : @m_impl_WorkValid = @m_impl_WorkValidi := by
  funext x0 x1 x2
  unfold m_impl_WorkValidi
  rw [← q_m_impl_WorkValid_l1, ← q_m_impl_WorkValid_l2]
  rfl
def k_impl_WorkValid : Ctr := ⟨69, [.g [.sl .ro 4 .b, .sl .ro 4 .b, .sl .ro 93 (.p (.int .i64) (.int .i64))]], [.o .b], false, fun x => m_impl_WorkValid x.1 x.2.1 x.2.2⟩
theorem d_impl_WorkValid : Cok Tryz.prog k_impl_WorkValid := cok (op := opn) (cs := [k_slices_Contains_impl_Permit_impl_Permit]) (rv := [.tmp 2]) (crt := .q .z (.q (.q .z (.q (.q .z .z) .z)) (.q (.q .z (.cut ⟨[(1, .o .k), (2, .o .k)], [(1, [.k, .k, .k])], []⟩ [.rt] (.b (.lp ⟨[(1, .o .k), (2, .o .k), (33, .o .k), (34, .o (.i .i64))], [(1, [.k, .k, .k])], []⟩ (.q .z (.q (.q .z .z) (.q (.b (.q .z (.q .z (.q (.q .z .z) .z)))) .z))))))) (.q (.q .z (.cut ⟨[(2, .o .k)], [], []⟩ [.rt] (.b (.lp ⟨[(1, .o .k), (2, .o .k), (51, .o .k), (52, .o .k), (53, .o (.i .i64))], [(1, [.k, .k, .k])], []⟩ (.q .z (.q (.q .z .z) (.q (.b (.q .z (.q .z (.q (.q .z .z) .z)))) .z))))))) (.q .z .z))))) tys_ok eqt_ok rfl ⟨d_slices_Contains_impl_Permit_impl_Permit, trivial⟩ opn_ok co69 Tryz.func69 rfl Tryz.ntmps69 rfl rfl (fun x => by
  show m_impl_WorkValid x.1 x.2.1 x.2.2 = _
  rw [q_m_impl_WorkValid]
  kernel_rfl)
def k_impl_Net_hasLine : Ctr := ⟨52, [.g [.int .i64, .sl .ro 71 (.p (.int .i64) (.p (.int .i64) (.int .i64)))], .o (.int .i64)], [.o .b], false, fun x => m_impl_Net_hasLine x.1 x.2.1 x.2.2⟩
theorem d_impl_Net_hasLine : Cok Tryz.prog k_impl_Net_hasLine := cok (op := opn) (cs := []) (rv := [.tmp 4]) (crt := .q .z (.q .z .z)) tys_ok eqt_ok rfl trivial opn_ok co52 Tryz.func52 rfl Tryz.ntmps52 rfl rfl (fun _ => by kernel_rfl)
def k_impl_StateValid : Ctr := ⟨89, [.g [.int .i64, .sl .ro 71 (.p (.int .i64) (.p (.int .i64) (.int .i64)))], .o (.sl .ro 4 .b)], [.o .b], false, fun x => m_impl_StateValid x.1 x.2.1 x.2.2⟩
theorem d_impl_StateValid : Cok Tryz.prog k_impl_StateValid := cok (op := opn) (cs := [k_impl_NetValid]) (rv := [.tmp 4]) (crt := .q .z (.q .z .z)) tys_ok eqt_ok rfl ⟨d_impl_NetValid, trivial⟩ opn_ok co89 Tryz.func89 rfl Tryz.ntmps89 rfl rfl (fun _ => by kernel_rfl)
def k_impl_fedValid : Ctr := ⟨47, [.g [.int .i64, .sl .ro 71 (.p (.int .i64) (.p (.int .i64) (.int .i64)))], .o (.sl .ro 4 .b), .o (.sl .ro 42 (.p (.int .i64) (.int .i64)))], [.o .b], false, fun x => m_impl_fedValid x.1 x.2.1 x.2.2.1 x.2.2.2⟩
theorem d_impl_fedValid : Cok Tryz.prog k_impl_fedValid := cok (op := opn) (cs := [k_impl_StateValid, k_impl_BusesValid]) (rv := [.tmp 6]) (crt := .q .z (.q .z .z)) tys_ok eqt_ok rfl ⟨d_impl_StateValid, d_impl_BusesValid, trivial⟩ opn_ok co47 Tryz.func47 rfl Tryz.ntmps47 rfl rfl (fun _ => by kernel_rfl)
def m_impl_newUnion_l1s (x0 : Int) (rec : (List Int × Int) → Option ((List Int))) (p107 : (List Int × Int)) : Option ((List Int)) := (bif ltB p107.2 (x0.toNat : Int) then chk (ixB p107.2 x0.toNat) (rec (p107.1.set p107.2.toNat p107.2, w64 (p107.2 + 1))) else some p107.1)
def m_impl_newUnion_l1i (x0 : Int) : Nat → (List Int × Int) → Option ((List Int)) := itr (m_impl_newUnion_l1s x0)
theorem q_m_impl_newUnion_l1 : @m_impl_newUnion_l1 = @m_impl_newUnion_l1i := by
  funext x0 n
  induction n with
  | zero => rfl
  | succ n ih =>
    funext p
    show _ = m_impl_newUnion_l1s x0 (m_impl_newUnion_l1i x0 n) p
    rw [← ih]
    rfl
def m_impl_newUnioni (x0 : Int) : Option (List Int) := chk (mkB x0) (Option.bind (m_impl_newUnion_l1i x0 FUEL (List.replicate x0.toNat (0 : Int), 0)) (fun (p103 : List Int) => some p103))
theorem q_m_impl_newUnion : @m_impl_newUnion = @m_impl_newUnioni := by
  funext x0
  unfold m_impl_newUnioni
  rw [← q_m_impl_newUnion_l1]
  rfl
def k_impl_newUnion : Ctr := ⟨90, [.o (.int .i64)], [.o (.row 3 (.int .i64))], false, fun x => m_impl_newUnion x⟩
theorem d_impl_newUnion : Cok Tryz.prog k_impl_newUnion := cok (op := opn) (cs := []) (rv := [.tmp 2]) (crt := .q .z (.q .z (.q (.q .z (.cut ⟨[(2, .o .k), (3, .o (.w 3 (.int .i64)))], [], []⟩ [] (.b (.lp ⟨[(2, .o .k), (3, .o (.w 3 (.int .i64))), (8, .o .k), (9, .o (.i .i64))], [], []⟩ (.q .z (.q (.q .z .z) (.q (.b (.q .z .z)) .z))))))) (.q .z .z)))) tys_ok eqt_ok rfl trivial opn_ok co90 Tryz.func90 rfl Tryz.ntmps90 rfl rfl (fun x => by
  show m_impl_newUnion x = _
  rw [q_m_impl_newUnion]
  kernel_rfl)
def m_impl_union_find_l1s (x0 : List Int) (rec : (List Int × Int) → Option ((Int × List Int))) (p105 : (List Int × Int)) : Option ((Int × List Int)) := chk (ixB p105.2 x0.length) ((bif (p105.1.getD p105.2.toNat (0 : Int)) != p105.2 then chk (ixB p105.2 x0.length) (chk (ixB (p105.1.getD p105.2.toNat (0 : Int)) x0.length) (chk (ixB p105.2 x0.length) (chk (ixB p105.2 x0.length) (rec (p105.1.set p105.2.toNat (p105.1.getD ((p105.1.getD p105.2.toNat (0 : Int)).toNat) (0 : Int)), ((p105.1.set p105.2.toNat (p105.1.getD ((p105.1.getD p105.2.toNat (0 : Int)).toNat) (0 : Int))).getD p105.2.toNat (0 : Int))))))) else some (p105.2, p105.1)))
def m_impl_union_find_l1i (x0 : List Int) : Nat → (List Int × Int) → Option ((Int × List Int)) := itr (m_impl_union_find_l1s x0)
theorem q_m_impl_union_find_l1 : @m_impl_union_find_l1 = @m_impl_union_find_l1i := by
  funext x0 n
  induction n with
  | zero => rfl
  | succ n ih =>
    funext p
    show _ = m_impl_union_find_l1s x0 (m_impl_union_find_l1i x0 n) p
    rw [← ih]
    rfl
def m_impl_union_findi (x0 : List Int) (x1 : Int) : Option (Int × List Int) := Option.bind (m_impl_union_find_l1i x0 FUEL (x0, x1)) (fun (p101 : Int × List Int) => some (p101.1, p101.2))
theorem q_m_impl_union_find : @m_impl_union_find = @m_impl_union_findi := by
  funext x0 x1
  unfold m_impl_union_findi
  rw [← q_m_impl_union_find_l1]
  rfl
def k_impl_union_find : Ctr := ⟨50, [.o (.sl .mu 3 (.int .i64)), .o (.int .i64)], [.o (.int .i64)], true, fun x => m_impl_union_find x.1 x.2⟩
theorem d_impl_union_find : Cok Tryz.prog k_impl_union_find := cok (op := opn) (cs := []) (rv := [.tmp 4]) (crt := .q .z (.q (.cut ⟨[(1, .o (.i .i64)), (4, .o .k)], [], [(0, .r 3 (.int .i64))]⟩ [] (.b (.lp ⟨[(0, .o (.w 3 (.int .i64))), (1, .o (.i .i64)), (4, .o .k)], [], []⟩ (.q (.q .z (.q .z .z)) (.b (.q .z .z)))))) (.q .z .z))) tys_ok eqt_ok rfl trivial opn_ok co50 Tryz.func50 rfl Tryz.ntmps50 rfl rfl (fun x => by
  show m_impl_union_find x.1 x.2 = _
  rw [q_m_impl_union_find]
  kernel_rfl)
def k_impl_union_same : Ctr := ⟨135, [.o (.sl .mu 3 (.int .i64)), .o (.int .i64), .o (.int .i64)], [.o .b], true, fun x => m_impl_union_same x.1 x.2.1 x.2.2⟩
theorem d_impl_union_same : Cok Tryz.prog k_impl_union_same := cok (op := opn) (cs := [k_impl_union_find]) (rv := [.tmp 6]) (crt := .q .z (.q .z .z)) tys_ok eqt_ok rfl ⟨d_impl_union_find, trivial⟩ opn_ok co135 Tryz.func135 rfl Tryz.ntmps135 rfl rfl (fun _ => by kernel_rfl)
def k_impl_union_join : Ctr := ⟨91, [.o (.sl .mu 3 (.int .i64)), .o (.int .i64), .o (.int .i64)], [], true, fun x => m_impl_union_join x.1 x.2.1 x.2.2⟩
theorem d_impl_union_join : Cok Tryz.prog k_impl_union_join := cok (op := opn) (cs := [k_impl_union_find]) (rv := []) (crt := .q .z .z) tys_ok eqt_ok rfl ⟨d_impl_union_find, trivial⟩ opn_ok co91 Tryz.func91 rfl Tryz.ntmps91 rfl rfl (fun _ => by kernel_rfl)
def m_impl_hasCycle_l1s (x1 : List (Int × Int × Int)) (x2 : List Bool) (rec : (List Int × Int) → Option (Unit ⊕ Bool)) (p109 : (List Int × Int)) : Option (Unit ⊕ Bool) := (bif ltB p109.2 (x1.length : Int) then chk (ixB p109.2 x1.length) (chk (ixB p109.2 x2.length) (Option.bind ((bif x2.getD p109.2.toNat false then Option.bind (m_impl_union_same p109.1 ((x1.getD p109.2.toNat ((0, 0, 0) : Int × Int × Int)).1) ((x1.getD p109.2.toNat ((0, 0, 0) : Int × Int × Int)).2.1)) (fun (p120 : Bool × List Int) => (bif p120.1 then some (Sum.inr true) else Option.bind (m_impl_union_join p120.2 ((x1.getD p109.2.toNat ((0, 0, 0) : Int × Int × Int)).1) ((x1.getD p109.2.toNat ((0, 0, 0) : Int × Int × Int)).2.1)) (fun (p123 : List Int) => some (Sum.inl p123)))) else some (Sum.inl p109.1)) : Option ((List Int) ⊕ Bool)) (Sum.elim (fun (p115 : List Int) => rec (p115, w64 (p109.2 + 1))) (fun (r : Bool) => some (Sum.inr r))))) else some (Sum.inl ()))
def m_impl_hasCycle_l1i (x1 : List (Int × Int × Int)) (x2 : List Bool) : Nat → (List Int × Int) → Option (Unit ⊕ Bool) := itr (m_impl_hasCycle_l1s x1 x2)
theorem q_m_impl_hasCycle_l1 : @m_impl_hasCycle_l1 = @m_impl_hasCycle_l1i := by
  funext x1 x2 n
  induction n with
  | zero => rfl
  | succ n ih =>
    funext p
    show _ = m_impl_hasCycle_l1s x1 x2 (m_impl_hasCycle_l1i x1 x2 n) p
    rw [← ih]
    rfl
def m_impl_hasCyclei (x0 : Int) (x1 : List (Int × Int × Int)) (x2 : List Bool) : Option (Bool) := Option.bind (m_impl_newUnion x0) (fun (p102 : List Int) => Option.bind (m_impl_hasCycle_l1i x1 x2 FUEL (p102, 0) : Option (Unit ⊕ Bool)) (Sum.elim (fun (p106 : Unit) => some false) (fun (r : Bool) => some r)))
theorem q_m_impl_hasCycle : @m_impl_hasCycle = @m_impl_hasCyclei := by
  funext x0 x1 x2
  unfold m_impl_hasCyclei
  rw [← q_m_impl_hasCycle_l1]
  rfl
def k_impl_hasCycle : Ctr := ⟨107, [.g [.int .i64, .sl .ro 71 (.p (.int .i64) (.p (.int .i64) (.int .i64)))], .o (.sl .ro 4 .b)], [.o .b], false, fun x => m_impl_hasCycle x.1 x.2.1 x.2.2⟩
theorem d_impl_hasCycle : Cok Tryz.prog k_impl_hasCycle := cok (op := opn) (cs := [k_impl_newUnion, k_impl_union_same, k_impl_union_join]) (rv := [.tmp 4]) (crt := .q .z (.q .z (.q (.q .z (.cut ⟨[(4, .o .k)], [], []⟩ [.rt] (.b (.lp ⟨[(1, .o .k), (4, .o .k), (5, .o (.w 3 (.int .i64))), (12, .o .k), (13, .o .k), (14, .o (.i .i64))], [], []⟩ (.q .z (.q (.q .z .z) (.q (.b (.q .z (.q .z (.cut ⟨[(1, .o .k), (4, .o .k), (5, .o (.w 3 (.int .i64))), (12, .o .k), (13, .o .k), (14, .o .k)], [], []⟩ [.rt] (.q (.q (.q .z (.q (.q .z .z) .z)) .z) .z))))) .z))))))) (.q .z .z)))) tys_ok eqt_ok rfl ⟨d_impl_newUnion, d_impl_union_same, d_impl_union_join, trivial⟩ opn_ok co107 Tryz.func107 rfl Tryz.ntmps107 rfl rfl (fun x => by
  show m_impl_hasCycle x.1 x.2.1 x.2.2 = _
  rw [q_m_impl_hasCycle]
  kernel_rfl)
def k_impl_Line_other : Ctr := ⟨85, [.g [.int .i64, .int .i64, .int .i64], .o (.int .i64)], [.o (.int .i64)], false, fun x => m_impl_Line_other x.1 x.2.1 x.2.2.1 x.2.2.2⟩
theorem d_impl_Line_other : Cok Tryz.prog k_impl_Line_other := cok (op := opn) (cs := []) (rv := [.tmp 4]) (crt := .q .z (.q (.q .z (.b (.q .z (.q (.q .z .z) (.q .z (.q (.q .z .z) .z)))))) (.q .z .z))) tys_ok eqt_ok rfl trivial opn_ok co85 Tryz.func85 rfl Tryz.ntmps85 rfl rfl (fun _ => by kernel_rfl)
def m_impl_tree_search_l2s (x1 : List (Int × Int × Int)) (x2 : List Int) (x3 : List Int) (x5 : List Bool) (x6 : Int) (p112 : Int × List Int × List Int × List Int) (rec : (Int × List Int × List Int × List Int) → Option ((List Int × List Int × List Int))) (p126 : (Int × List Int × List Int × List Int)) : Option ((List Int × List Int × List Int)) := (bif ltB p126.1 (x1.length : Int) then chk (ixB p126.1 x1.length) (Option.bind (m_impl_Line_other ((x1.getD p126.1.toNat ((0, 0, 0) : Int × Int × Int)).1) ((x1.getD p126.1.toNat ((0, 0, 0) : Int × Int × Int)).2.1) ((x1.getD p126.1.toNat ((0, 0, 0) : Int × Int × Int)).2.2) (p112.2.2.2.getD p112.1.toNat (0 : Int))) (fun (p134 : Int) => chk (ixB p126.1 x5.length) (chk (!((x5.getD p126.1.toNat false) && (leB 0 p134)) || ixB p134 x2.length) (Option.bind (bif ((x5.getD p126.1.toNat false) && (leB 0 p134)) && (ltB (p126.2.1.getD p134.toNat (0 : Int)) 0) then chk (ixB p134 x2.length) (chk (ixB p134 x3.length) (chk (apB p126.2.2.2.length ([p134] : List Int).length) (some (p126.2.1.set p134.toNat x6, p126.2.2.1.set p134.toNat p126.1, p126.2.2.2 ++ ([p134] : List Int))))) else some (p126.2.1, p126.2.2.1, p126.2.2.2)) (fun (p137 : List Int × List Int × List Int) => rec (w64 (p126.1 + 1), p137.1, p137.2.1, p137.2.2)))))) else some (p126.2.1, p126.2.2.1, p126.2.2.2))
def m_impl_tree_search_l2i (x1 : List (Int × Int × Int)) (x2 : List Int) (x3 : List Int) (x5 : List Bool) (x6 : Int) (p112 : Int × List Int × List Int × List Int) : Nat → (Int × List Int × List Int × List Int) → Option ((List Int × List Int × List Int)) := itr (m_impl_tree_search_l2s x1 x2 x3 x5 x6 p112)
theorem q_m_impl_tree_search_l2 : @m_impl_tree_search_l2 = @m_impl_tree_search_l2i := by
  funext x1 x2 x3 x5 x6 p112 n
  induction n with
  | zero => rfl
  | succ n ih =>
    funext p
    show _ = m_impl_tree_search_l2s x1 x2 x3 x5 x6 p112 (m_impl_tree_search_l2i x1 x2 x3 x5 x6 p112 n) p
    rw [← ih]
    rfl
def m_impl_tree_search_l1s (x1 : List (Int × Int × Int)) (x2 : List Int) (x3 : List Int) (x5 : List Bool) (x6 : Int) (rec : (Int × List Int × List Int × List Int) → Option ((List Int × List Int × List Int))) (p112 : (Int × List Int × List Int × List Int)) : Option ((List Int × List Int × List Int)) := (bif ltB p112.1 (p112.2.2.2.length : Int) then chk (ixB p112.1 p112.2.2.2.length) (Option.bind (m_impl_tree_search_l2i x1 x2 x3 x5 x6 p112 FUEL (0, p112.2.1, p112.2.2.1, p112.2.2.2)) (fun (p119 : List Int × List Int × List Int) => rec (w64 (p112.1 + 1), p119.1, p119.2.1, p119.2.2))) else some (p112.2.1, p112.2.2.1, p112.2.2.2))
def m_impl_tree_search_l1i (x1 : List (Int × Int × Int)) (x2 : List Int) (x3 : List Int) (x5 : List Bool) (x6 : Int) : Nat → (Int × List Int × List Int × List Int) → Option ((List Int × List Int × List Int)) := itr (m_impl_tree_search_l1s x1 x2 x3 x5 x6)
theorem q_m_impl_tree_search_l1 : @m_impl_tree_search_l1 = @m_impl_tree_search_l1i := by
  funext x1 x2 x3 x5 x6 n
  induction n with
  | zero => rfl
  | succ n ih =>
    funext p
    show _ = m_impl_tree_search_l1s x1 x2 x3 x5 x6 (m_impl_tree_search_l1i x1 x2 x3 x5 x6 n) p
    rw [← ih]
    unfold m_impl_tree_search_l1s
    rw [← q_m_impl_tree_search_l2]
    rfl
def m_impl_tree_searchi (x0 : Int) (x1 : List (Int × Int × Int)) (x2 : List Int) (x3 : List Int) (x4 : List Int) (x5 : List Bool) (x6 : Int) : Option (Int × List Int × List Int × List Int) := chk (apB x4.length ([x6] : List Int).length) (Option.bind (m_impl_tree_search_l1i x1 x2 x3 x5 x6 FUEL ((x4.length : Int), x2, x3, x4 ++ ([x6] : List Int))) (fun (p105 : List Int × List Int × List Int) => some (x0, p105.1, p105.2.1, p105.2.2)))
theorem q_m_impl_tree_search : @m_impl_tree_search = @m_impl_tree_searchi := by
  funext x0 x1 x2 x3 x4 x5 x6
  unfold m_impl_tree_searchi
  rw [← q_m_impl_tree_search_l1]
  rfl
def k_impl_tree_search : Ctr := ⟨108, [.bx 102 [.int .i64, .sl .ro 71 (.p (.int .i64) (.p (.int .i64) (.int .i64))), .sl .mu 3 (.int .i64), .sl .mu 3 (.int .i64), .sl .mu 3 (.int .i64)], .o (.sl .ro 4 .b), .o (.int .i64)], [], true, fun x => m_impl_tree_search x.1 x.2.1 x.2.2.1 x.2.2.2.1 x.2.2.2.2.1 x.2.2.2.2.2.1 x.2.2.2.2.2.2⟩
theorem d_impl_tree_search : Cok Tryz.prog k_impl_tree_search := cok (op := opn) (cs := [k_impl_Line_other]) (rv := []) (crt := .q .z (.q .z (.cut ⟨[], [(4096, [.k, .k, .w 3 (.int .i64), .w 3 (.int .i64), .r 3 (.int .i64)])], []⟩ [] (.b (.lp ⟨[(0, .o .k), (1, .o .k), (2, .o .k), (6, .o (.i .i64))], [(4096, [.k, .k, .w 3 (.int .i64), .w 3 (.int .i64), .r 3 (.int .i64)])], []⟩ (.q (.q .z (.q .z .z)) (.q (.b (.q .z (.q .z (.cut ⟨[(0, .o .k), (1, .o .k), (2, .o .k), (6, .o .k)], [(4096, [.k, .k, .w 3 (.int .i64), .w 3 (.int .i64), .r 3 (.int .i64)])], []⟩ [] (.b (.lp ⟨[(0, .o .k), (1, .o .k), (2, .o .k), (6, .o .k), (7, .o .k), (46, .o .k), (47, .o .k), (48, .o (.i .i64))], [(4096, [.k, .k, .w 3 (.int .i64), .w 3 (.int .i64), .r 3 (.int .i64)])], []⟩ (.q .z (.q (.q .z .z) (.q (.b (.q .z (.q .z (.q .z (.cut ⟨[(0, .o .k), (1, .o .k), (2, .o .k), (6, .o .k), (7, .o .k), (46, .o .k), (47, .o .k), (48, .o .k)], [(4096, [.k, .k, .w 3 (.int .i64), .w 3 (.int .i64), .r 3 (.int .i64)])], []⟩ [] (.q (.q .z .z) .z)))))) .z))))))))) .z))))))) tys_ok eqt_ok rfl ⟨d_impl_Line_other, trivial⟩ opn_ok co108 Tryz.func108 rfl Tryz.ntmps108 rfl rfl (fun x => by
  show m_impl_tree_search x.1 x.2.1 x.2.2.1 x.2.2.2.1 x.2.2.2.2.1 x.2.2.2.2.2.1 x.2.2.2.2.2.2 = _
  rw [q_m_impl_tree_search]
  kernel_rfl)
def m_impl_treeOf_l1s (x0 : Int) (rec : (Int × List Int × List Int) → Option ((List Int × List Int))) (p116 : (Int × List Int × List Int)) : Option ((List Int × List Int)) := (bif ltB p116.1 x0 then chk (ixB p116.1 x0.toNat) (chk (ixB p116.1 x0.toNat) (rec (w64 (p116.1 + 1), p116.2.1.set p116.1.toNat (-1), p116.2.2.set p116.1.toNat (-1)))) else some (p116.2.1, p116.2.2))
def m_impl_treeOf_l1i (x0 : Int) : Nat → (Int × List Int × List Int) → Option ((List Int × List Int)) := itr (m_impl_treeOf_l1s x0)
theorem q_m_impl_treeOf_l1 : @m_impl_treeOf_l1 = @m_impl_treeOf_l1i := by
  funext x0 n
  induction n with
  | zero => rfl
  | succ n ih =>
    funext p
    show _ = m_impl_treeOf_l1s x0 (m_impl_treeOf_l1i x0 n) p
    rw [← ih]
    rfl
def m_impl_treeOf_l2s (x1 : List (Int × Int × Int)) (x2 : List Bool) (x3 : List (Int × Int)) (rec : (Int × Int × List Int × List Int × List Int) → Option ((Int × List Int × List Int × List Int) ⊕ (Int × Bool × List Int × List Int × List Int × Bool))) (p131 : (Int × Int × List Int × List Int × List Int)) : Option ((Int × List Int × List Int × List Int) ⊕ (Int × Bool × List Int × List Int × List Int × Bool)) := (bif ltB p131.1 (x3.length : Int) then Option.bind (chk (ixB p131.1 x3.length) ((bif ((x3.getD p131.1.toNat ((0, 0) : Int × Int)).1) == 0 then some (Sum.inl (p131.2.1, p131.2.2.1, p131.2.2.2.1, p131.2.2.2.2)) else chk (ixB p131.1 p131.2.2.1.length) ((bif leB 0 (p131.2.2.1.getD p131.1.toNat (0 : Int)) then some (Sum.inr (0, false, ([] : List Int), ([] : List Int), ([] : List Int), false)) else chk (ixB p131.1 p131.2.2.1.length) (Option.bind (m_impl_tree_search p131.2.1 x1 (p131.2.2.1.set p131.1.toNat p131.1) p131.2.2.2.1 p131.2.2.2.2 x2 p131.1) (fun (p154 : Int × List Int × List Int × List Int) => some (Sum.inl (p154.1, p154.2.1, p154.2.2.1, p154.2.2.2)))))))) : Option ((Int × List Int × List Int × List Int) ⊕ (Int × Bool × List Int × List Int × List Int × Bool))) (Sum.elim (fun (p139 : Int × List Int × List Int × List Int) => rec (w64 (p131.1 + 1), p139.1, p139.2.1, p139.2.2.1, p139.2.2.2)) (fun (r : (Int × Bool × List Int × List Int × List Int × Bool)) => some (Sum.inr r))) else some (Sum.inl (p131.2.1, p131.2.2.1, p131.2.2.2.1, p131.2.2.2.2)))
def m_impl_treeOf_l2i (x1 : List (Int × Int × Int)) (x2 : List Bool) (x3 : List (Int × Int)) : Nat → (Int × Int × List Int × List Int × List Int) → Option ((Int × List Int × List Int × List Int) ⊕ (Int × Bool × List Int × List Int × List Int × Bool)) := itr (m_impl_treeOf_l2s x1 x2 x3)
theorem q_m_impl_treeOf_l2 : @m_impl_treeOf_l2 = @m_impl_treeOf_l2i := by
  funext x1 x2 x3 n
  induction n with
  | zero => rfl
  | succ n ih =>
    funext p
    show _ = m_impl_treeOf_l2s x1 x2 x3 (m_impl_treeOf_l2i x1 x2 x3 n) p
    rw [← ih]
    rfl
def m_impl_treeOfi (x0 : Int) (x1 : List (Int × Int × Int)) (x2 : List Bool) (x3 : List (Int × Int)) : Option (Int × Bool × List Int × List Int × List Int × Bool) := Option.bind (m_impl_fedValid x0 x1 x2 x3) (fun (p103 : Bool) => Option.bind (gb (!(!p103)) (m_impl_hasCycle x0 x1 x2)) (fun (p104 : Bool) => (bif (!p103) || p104 then some (0, false, ([] : List Int), ([] : List Int), ([] : List Int), false) else chk (mkB x0) (chk (mkB x0) (Option.bind (m_impl_treeOf_l1i x0 FUEL (0, List.replicate x0.toNat (0 : Int), List.replicate x0.toNat (0 : Int))) (fun (p111 : List Int × List Int) => Option.bind (m_impl_treeOf_l2i x1 x2 x3 FUEL (0, x0, p111.1, p111.2, ([] : List Int)) : Option ((Int × List Int × List Int × List Int) ⊕ (Int × Bool × List Int × List Int × List Int × Bool))) (Sum.elim (fun (p122 : Int × List Int × List Int × List Int) => some (p122.1, true, p122.2.1, p122.2.2.1, p122.2.2.2, true)) (fun (r : (Int × Bool × List Int × List Int × List Int × Bool)) => some r))))))))
theorem q_m_impl_treeOf : @m_impl_treeOf = @m_impl_treeOfi := by
  funext x0 x1 x2 x3
  unfold m_impl_treeOfi
  rw [← q_m_impl_treeOf_l1, ← q_m_impl_treeOf_l2]
  rfl
def k_impl_treeOf : Ctr := ⟨71, [.g [.int .i64, .sl .ro 71 (.p (.int .i64) (.p (.int .i64) (.int .i64)))], .o (.sl .ro 4 .b), .o (.sl .ro 42 (.p (.int .i64) (.int .i64)))], [.g [.int .i64, .al 1, .row 3 (.int .i64), .row 3 (.int .i64), .row 3 (.int .i64)], .o .b], false, fun x => m_impl_treeOf x.1 x.2.1 x.2.2.1 x.2.2.2⟩
theorem d_impl_treeOf : Cok Tryz.prog k_impl_treeOf := cok (op := opn) (cs := [k_impl_fedValid, k_impl_hasCycle, k_impl_tree_search]) (rv := [.cell 6 102, .tmp 7]) (crt := .q .z (.q (.q .z (.q (.q .z .z) .z)) (.q .z (.q (.q .z (.cut ⟨[(1, .o .k), (2, .o .k), (6, .o .k), (7, .o .k), (8, .o .k)], [(8, [.k, .k, .w 3 (.int .i64), .w 3 (.int .i64), .k]), (6, [.k, .k, .k, .k, .k])], []⟩ [] (.b (.lp ⟨[(1, .o .k), (2, .o .k), (6, .o .k), (7, .o .k), (8, .o .k), (32, .o .k), (33, .o (.i .i64))], [(8, [.k, .k, .w 3 (.int .i64), .w 3 (.int .i64), .k]), (6, [.k, .k, .k, .k, .k])], []⟩ (.q .z (.q (.q .z .z) (.q (.b (.q .z .z)) .z))))))) (.q (.q .z (.cut ⟨[(6, .o .k), (7, .o .k), (8, .o .k)], [(8, [.i .i64, .k, .r 3 (.int .i64), .r 3 (.int .i64), .r 3 (.int .i64)]), (6, [.k, .k, .k, .k, .k])], []⟩ [.rt] (.b (.lp ⟨[(1, .o .k), (6, .o .k), (7, .o .k), (8, .o .k), (45, .o .k), (46, .o .k), (47, .o (.i .i64))], [(8, [.i .i64, .k, .r 3 (.int .i64), .r 3 (.int .i64), .r 3 (.int .i64)]), (6, [.k, .k, .k, .k, .k])], []⟩ (.q .z (.q (.q .z .z) (.q (.cut ⟨[(1, .o .k), (6, .o .k), (7, .o .k), (8, .o .k), (45, .o .k), (46, .o .k), (47, .o .k)], [(8, [.i .i64, .k, .r 3 (.int .i64), .r 3 (.int .i64), .r 3 (.int .i64)]), (6, [.k, .k, .k, .k, .k])], []⟩ [.rt] (.b (.q .z (.q (.q .z (.q .z .z)) (.q (.q .z (.q (.q .z .z) .z)) (.q .z .z)))))) .z))))))) (.q .z .z)))))) tys_ok eqt_ok rfl ⟨d_impl_fedValid, d_impl_hasCycle, d_impl_tree_search, trivial⟩ opn_ok co71 Tryz.func71 rfl Tryz.ntmps71 rfl rfl (fun x => by
  show m_impl_treeOf x.1 x.2.1 x.2.2.1 x.2.2.2 = _
  rw [q_m_impl_treeOf]
  kernel_rfl)
def k_impl_Radial : Ctr := ⟨70, [.g [.int .i64, .sl .ro 71 (.p (.int .i64) (.p (.int .i64) (.int .i64)))], .o (.sl .ro 4 .b), .o (.sl .ro 42 (.p (.int .i64) (.int .i64)))], [.o .b], false, fun x => m_impl_Radial x.1 x.2.1 x.2.2.1 x.2.2.2⟩
theorem d_impl_Radial : Cok Tryz.prog k_impl_Radial := cok (op := opn) (cs := [k_impl_treeOf]) (rv := [.tmp 6]) (crt := .q .z (.q .z (.q .z .z))) tys_ok eqt_ok rfl ⟨d_impl_treeOf, trivial⟩ opn_ok co70 Tryz.func70 rfl Tryz.ntmps70 rfl rfl (fun _ => by kernel_rfl)
def m_impl_WorldValid_l1s (x0 : Int) (x1 : List (Int × Int × Int)) (x3 : List Bool) (x6 : List Int) (rec : Int → Option (Unit ⊕ Bool)) (p108 : Int) : Option (Unit ⊕ Bool) := (bif ltB p108 (x6.length : Int) then chk (ixB p108 x6.length) (Option.bind (m_impl_Net_hasLine x0 x1 (x6.getD p108.toNat (0 : Int))) (fun (p111 : Bool) => chk (!(!(!p111)) || ixB (x6.getD p108.toNat (0 : Int)) x3.length) (chk (!((!((!p111) || (x3.getD ((x6.getD p108.toNat (0 : Int)).toNat) false))) && (ltB 0 p108)) || ixB (w64 (p108 - 1)) x6.length) ((bif ((!p111) || (x3.getD ((x6.getD p108.toNat (0 : Int)).toNat) false)) || ((ltB 0 p108) && (leB (x6.getD p108.toNat (0 : Int)) (x6.getD ((w64 (p108 - 1)).toNat) (0 : Int)))) then some (Sum.inr false) else rec (w64 (p108 + 1))))))) else some (Sum.inl ()))
def m_impl_WorldValid_l1i (x0 : Int) (x1 : List (Int × Int × Int)) (x3 : List Bool) (x6 : List Int) : Nat → Int → Option (Unit ⊕ Bool) := itr (m_impl_WorldValid_l1s x0 x1 x3 x6)
theorem q_m_impl_WorldValid_l1 : @m_impl_WorldValid_l1 = @m_impl_WorldValid_l1i := by
  funext x0 x1 x3 x6 n
  induction n with
  | zero => rfl
  | succ n ih =>
    funext p
    show _ = m_impl_WorldValid_l1s x0 x1 x3 x6 (m_impl_WorldValid_l1i x0 x1 x3 x6 n) p
    rw [← ih]
    rfl
def m_impl_WorldValidi (x0 : Int) (x1 : List (Int × Int × Int)) (x2 : List (Int × Int)) (x3 : List Bool) (x4 : List Bool) (x5 : List (Int × Int)) (x6 : List Int) : Option (Bool) := Option.bind (m_impl_BusesValid x0 x1 x2) (fun (p102 : Bool) => Option.bind (gb (!(!p102)) (m_impl_WorkValid x3 x4 x5)) (fun (p103 : Bool) => (bif ((!p102) || (!p103)) || ((x3.length : Int) != (x1.length : Int)) then some false else Option.bind (m_impl_WorldValid_l1i x0 x1 x3 x6 FUEL 0 : Option (Unit ⊕ Bool)) (Sum.elim (fun (p105 : Unit) => Option.bind (m_impl_Radial x0 x1 x3 x2) (fun (p115 : Bool) => some p115)) (fun (r : Bool) => some r)))))
theorem q_m_impl_WorldValid : @m_impl_WorldValid = @m_impl_WorldValidi := by
  funext x0 x1 x2 x3 x4 x5 x6
  unfold m_impl_WorldValidi
  rw [← q_m_impl_WorldValid_l1]
  rfl
def k_impl_WorldValid : Ctr := ⟨33, [.g [.int .i64, .sl .ro 71 (.p (.int .i64) (.p (.int .i64) (.int .i64))), .sl .ro 42 (.p (.int .i64) (.int .i64)), .sl .ro 4 .b, .sl .ro 4 .b, .sl .ro 93 (.p (.int .i64) (.int .i64)), .sl .ro 3 (.int .i64)]], [.o .b], false, fun x => m_impl_WorldValid x.1 x.2.1 x.2.2.1 x.2.2.2.1 x.2.2.2.2.1 x.2.2.2.2.2.1 x.2.2.2.2.2.2⟩
theorem d_impl_WorldValid : Cok Tryz.prog k_impl_WorldValid := cok (op := opn) (cs := [k_impl_BusesValid, k_impl_WorkValid, k_impl_Net_hasLine, k_impl_Radial]) (rv := [.tmp 2]) (crt := .q .z (.q (.q .z (.q (.q .z .z) .z)) (.q (.q .z (.cut ⟨[(1, .o .k), (2, .o .k)], [(1, [.k, .k, .k, .k, .k, .k, .k])], []⟩ [.rt] (.b (.lp ⟨[(1, .o .k), (2, .o .k), (29, .o .k), (30, .o .k), (31, .o (.i .i64))], [(1, [.k, .k, .k, .k, .k, .k, .k])], []⟩ (.q .z (.q (.q .z .z) (.q (.b (.q .z (.q .z (.q (.q .z .z) .z)))) .z))))))) (.q .z .z)))) tys_ok eqt_ok rfl ⟨d_impl_BusesValid, d_impl_WorkValid, d_impl_Net_hasLine, d_impl_Radial, trivial⟩ opn_ok co33 Tryz.func33 rfl Tryz.ntmps33 rfl rfl (fun x => by
  show m_impl_WorldValid x.1 x.2.1 x.2.2.1 x.2.2.2.1 x.2.2.2.2.1 x.2.2.2.2.2.1 x.2.2.2.2.2.2 = _
  rw [q_m_impl_WorldValid]
  kernel_rfl)
def m_impl_unionOf_l1s (x1 : List (Int × Int × Int)) (x2 : List Bool) (rec : (List Int × Int) → Option ((List Int))) (p110 : (List Int × Int)) : Option ((List Int)) := (bif ltB p110.2 (x1.length : Int) then chk (ixB p110.2 x1.length) (chk (ixB p110.2 x2.length) (Option.bind (bif x2.getD p110.2.toNat false then Option.bind (m_impl_union_join p110.1 ((x1.getD p110.2.toNat ((0, 0, 0) : Int × Int × Int)).1) ((x1.getD p110.2.toNat ((0, 0, 0) : Int × Int × Int)).2.1)) (fun (p121 : List Int) => some p121) else some p110.1) (fun (p116 : List Int) => rec (p116, w64 (p110.2 + 1))))) else some p110.1)
def m_impl_unionOf_l1i (x1 : List (Int × Int × Int)) (x2 : List Bool) : Nat → (List Int × Int) → Option ((List Int)) := itr (m_impl_unionOf_l1s x1 x2)
theorem q_m_impl_unionOf_l1 : @m_impl_unionOf_l1 = @m_impl_unionOf_l1i := by
  funext x1 x2 n
  induction n with
  | zero => rfl
  | succ n ih =>
    funext p
    show _ = m_impl_unionOf_l1s x1 x2 (m_impl_unionOf_l1i x1 x2 n) p
    rw [← ih]
    rfl
def m_impl_unionOfi (x0 : Int) (x1 : List (Int × Int × Int)) (x2 : List Bool) : Option (List Int) := Option.bind (m_impl_newUnion x0) (fun (p102 : List Int) => Option.bind (m_impl_unionOf_l1i x1 x2 FUEL (p102, 0)) (fun (p106 : List Int) => some p106))
theorem q_m_impl_unionOf : @m_impl_unionOf = @m_impl_unionOfi := by
  funext x0 x1 x2
  unfold m_impl_unionOfi
  rw [← q_m_impl_unionOf_l1]
  rfl
def k_impl_unionOf : Ctr := ⟨48, [.g [.int .i64, .sl .ro 71 (.p (.int .i64) (.p (.int .i64) (.int .i64)))], .o (.sl .ro 4 .b)], [.o (.row 3 (.int .i64))], false, fun x => m_impl_unionOf x.1 x.2.1 x.2.2⟩
theorem d_impl_unionOf : Cok Tryz.prog k_impl_unionOf := cok (op := opn) (cs := [k_impl_newUnion, k_impl_union_join]) (rv := [.tmp 4]) (crt := .q .z (.q .z (.q (.q .z (.cut ⟨[(4, .o .k), (5, .o (.w 3 (.int .i64)))], [], []⟩ [] (.b (.lp ⟨[(1, .o .k), (4, .o .k), (5, .o (.w 3 (.int .i64))), (12, .o .k), (13, .o .k), (14, .o (.i .i64))], [], []⟩ (.q .z (.q (.q .z .z) (.q (.b (.q .z (.q .z (.cut ⟨[(1, .o .k), (4, .o .k), (5, .o (.w 3 (.int .i64))), (12, .o .k), (13, .o .k), (14, .o .k)], [], []⟩ [] (.q .z .z))))) .z))))))) (.q .z .z)))) tys_ok eqt_ok rfl ⟨d_impl_newUnion, d_impl_union_join, trivial⟩ opn_ok co48 Tryz.func48 rfl Tryz.ntmps48 rfl rfl (fun x => by
  show m_impl_unionOf x.1 x.2.1 x.2.2 = _
  rw [q_m_impl_unionOf]
  kernel_rfl)
def m_impl_sumsOf_l1s (x3 : List (Int × Int)) (rec : (List Int × Int × Int × Int × Int × Int × Int × Int × Int × Int × Int × Int × Int × Int × Int × Int × Int × Int) → Option ((Int × Int × Int × Int × Int × Int × Int × Int × Int × Int × Int × Int × Int × Int × Int × Int))) (p111 : (List Int × Int × Int × Int × Int × Int × Int × Int × Int × Int × Int × Int × Int × Int × Int × Int × Int × Int)) : Option ((Int × Int × Int × Int × Int × Int × Int × Int × Int × Int × Int × Int × Int × Int × Int × Int)) := (bif ltB p111.2.1 (x3.length : Int) then chk (ixB p111.2.1 x3.length) (Option.bind (m_impl_union_find p111.1 p111.2.1) (fun (p116 : Int × List Int) => chk (ixB p116.1 8) (chk (ixB p116.1 8) (chk (ixB p116.1 8) (chk (ixB p116.1 8) (rec (p116.2, w64 (p111.2.1 + 1), bif p116.1 == 0 then (w64 ((([p111.2.2.1, p111.2.2.2.1, p111.2.2.2.2.1, p111.2.2.2.2.2.1, p111.2.2.2.2.2.2.1, p111.2.2.2.2.2.2.2.1, p111.2.2.2.2.2.2.2.2.1, p111.2.2.2.2.2.2.2.2.2.1] : List Int).getD p116.1.toNat 0) + ((x3.getD p111.2.1.toNat ((0, 0) : Int × Int)).1))) else p111.2.2.1, bif p116.1 == 1 then (w64 ((([p111.2.2.1, p111.2.2.2.1, p111.2.2.2.2.1, p111.2.2.2.2.2.1, p111.2.2.2.2.2.2.1, p111.2.2.2.2.2.2.2.1, p111.2.2.2.2.2.2.2.2.1, p111.2.2.2.2.2.2.2.2.2.1] : List Int).getD p116.1.toNat 0) + ((x3.getD p111.2.1.toNat ((0, 0) : Int × Int)).1))) else p111.2.2.2.1, bif p116.1 == 2 then (w64 ((([p111.2.2.1, p111.2.2.2.1, p111.2.2.2.2.1, p111.2.2.2.2.2.1, p111.2.2.2.2.2.2.1, p111.2.2.2.2.2.2.2.1, p111.2.2.2.2.2.2.2.2.1, p111.2.2.2.2.2.2.2.2.2.1] : List Int).getD p116.1.toNat 0) + ((x3.getD p111.2.1.toNat ((0, 0) : Int × Int)).1))) else p111.2.2.2.2.1, bif p116.1 == 3 then (w64 ((([p111.2.2.1, p111.2.2.2.1, p111.2.2.2.2.1, p111.2.2.2.2.2.1, p111.2.2.2.2.2.2.1, p111.2.2.2.2.2.2.2.1, p111.2.2.2.2.2.2.2.2.1, p111.2.2.2.2.2.2.2.2.2.1] : List Int).getD p116.1.toNat 0) + ((x3.getD p111.2.1.toNat ((0, 0) : Int × Int)).1))) else p111.2.2.2.2.2.1, bif p116.1 == 4 then (w64 ((([p111.2.2.1, p111.2.2.2.1, p111.2.2.2.2.1, p111.2.2.2.2.2.1, p111.2.2.2.2.2.2.1, p111.2.2.2.2.2.2.2.1, p111.2.2.2.2.2.2.2.2.1, p111.2.2.2.2.2.2.2.2.2.1] : List Int).getD p116.1.toNat 0) + ((x3.getD p111.2.1.toNat ((0, 0) : Int × Int)).1))) else p111.2.2.2.2.2.2.1, bif p116.1 == 5 then (w64 ((([p111.2.2.1, p111.2.2.2.1, p111.2.2.2.2.1, p111.2.2.2.2.2.1, p111.2.2.2.2.2.2.1, p111.2.2.2.2.2.2.2.1, p111.2.2.2.2.2.2.2.2.1, p111.2.2.2.2.2.2.2.2.2.1] : List Int).getD p116.1.toNat 0) + ((x3.getD p111.2.1.toNat ((0, 0) : Int × Int)).1))) else p111.2.2.2.2.2.2.2.1, bif p116.1 == 6 then (w64 ((([p111.2.2.1, p111.2.2.2.1, p111.2.2.2.2.1, p111.2.2.2.2.2.1, p111.2.2.2.2.2.2.1, p111.2.2.2.2.2.2.2.1, p111.2.2.2.2.2.2.2.2.1, p111.2.2.2.2.2.2.2.2.2.1] : List Int).getD p116.1.toNat 0) + ((x3.getD p111.2.1.toNat ((0, 0) : Int × Int)).1))) else p111.2.2.2.2.2.2.2.2.1, bif p116.1 == 7 then (w64 ((([p111.2.2.1, p111.2.2.2.1, p111.2.2.2.2.1, p111.2.2.2.2.2.1, p111.2.2.2.2.2.2.1, p111.2.2.2.2.2.2.2.1, p111.2.2.2.2.2.2.2.2.1, p111.2.2.2.2.2.2.2.2.2.1] : List Int).getD p116.1.toNat 0) + ((x3.getD p111.2.1.toNat ((0, 0) : Int × Int)).1))) else p111.2.2.2.2.2.2.2.2.2.1, bif p116.1 == 0 then (w64 ((([p111.2.2.2.2.2.2.2.2.2.2.1, p111.2.2.2.2.2.2.2.2.2.2.2.1, p111.2.2.2.2.2.2.2.2.2.2.2.2.1, p111.2.2.2.2.2.2.2.2.2.2.2.2.2.1, p111.2.2.2.2.2.2.2.2.2.2.2.2.2.2.1, p111.2.2.2.2.2.2.2.2.2.2.2.2.2.2.2.1, p111.2.2.2.2.2.2.2.2.2.2.2.2.2.2.2.2.1, p111.2.2.2.2.2.2.2.2.2.2.2.2.2.2.2.2.2] : List Int).getD p116.1.toNat 0) + ((x3.getD p111.2.1.toNat ((0, 0) : Int × Int)).2))) else p111.2.2.2.2.2.2.2.2.2.2.1, bif p116.1 == 1 then (w64 ((([p111.2.2.2.2.2.2.2.2.2.2.1, p111.2.2.2.2.2.2.2.2.2.2.2.1, p111.2.2.2.2.2.2.2.2.2.2.2.2.1, p111.2.2.2.2.2.2.2.2.2.2.2.2.2.1, p111.2.2.2.2.2.2.2.2.2.2.2.2.2.2.1, p111.2.2.2.2.2.2.2.2.2.2.2.2.2.2.2.1, p111.2.2.2.2.2.2.2.2.2.2.2.2.2.2.2.2.1, p111.2.2.2.2.2.2.2.2.2.2.2.2.2.2.2.2.2] : List Int).getD p116.1.toNat 0) + ((x3.getD p111.2.1.toNat ((0, 0) : Int × Int)).2))) else p111.2.2.2.2.2.2.2.2.2.2.2.1, bif p116.1 == 2 then (w64 ((([p111.2.2.2.2.2.2.2.2.2.2.1, p111.2.2.2.2.2.2.2.2.2.2.2.1, p111.2.2.2.2.2.2.2.2.2.2.2.2.1, p111.2.2.2.2.2.2.2.2.2.2.2.2.2.1, p111.2.2.2.2.2.2.2.2.2.2.2.2.2.2.1, p111.2.2.2.2.2.2.2.2.2.2.2.2.2.2.2.1, p111.2.2.2.2.2.2.2.2.2.2.2.2.2.2.2.2.1, p111.2.2.2.2.2.2.2.2.2.2.2.2.2.2.2.2.2] : List Int).getD p116.1.toNat 0) + ((x3.getD p111.2.1.toNat ((0, 0) : Int × Int)).2))) else p111.2.2.2.2.2.2.2.2.2.2.2.2.1, bif p116.1 == 3 then (w64 ((([p111.2.2.2.2.2.2.2.2.2.2.1, p111.2.2.2.2.2.2.2.2.2.2.2.1, p111.2.2.2.2.2.2.2.2.2.2.2.2.1, p111.2.2.2.2.2.2.2.2.2.2.2.2.2.1, p111.2.2.2.2.2.2.2.2.2.2.2.2.2.2.1, p111.2.2.2.2.2.2.2.2.2.2.2.2.2.2.2.1, p111.2.2.2.2.2.2.2.2.2.2.2.2.2.2.2.2.1, p111.2.2.2.2.2.2.2.2.2.2.2.2.2.2.2.2.2] : List Int).getD p116.1.toNat 0) + ((x3.getD p111.2.1.toNat ((0, 0) : Int × Int)).2))) else p111.2.2.2.2.2.2.2.2.2.2.2.2.2.1, bif p116.1 == 4 then (w64 ((([p111.2.2.2.2.2.2.2.2.2.2.1, p111.2.2.2.2.2.2.2.2.2.2.2.1, p111.2.2.2.2.2.2.2.2.2.2.2.2.1, p111.2.2.2.2.2.2.2.2.2.2.2.2.2.1, p111.2.2.2.2.2.2.2.2.2.2.2.2.2.2.1, p111.2.2.2.2.2.2.2.2.2.2.2.2.2.2.2.1, p111.2.2.2.2.2.2.2.2.2.2.2.2.2.2.2.2.1, p111.2.2.2.2.2.2.2.2.2.2.2.2.2.2.2.2.2] : List Int).getD p116.1.toNat 0) + ((x3.getD p111.2.1.toNat ((0, 0) : Int × Int)).2))) else p111.2.2.2.2.2.2.2.2.2.2.2.2.2.2.1, bif p116.1 == 5 then (w64 ((([p111.2.2.2.2.2.2.2.2.2.2.1, p111.2.2.2.2.2.2.2.2.2.2.2.1, p111.2.2.2.2.2.2.2.2.2.2.2.2.1, p111.2.2.2.2.2.2.2.2.2.2.2.2.2.1, p111.2.2.2.2.2.2.2.2.2.2.2.2.2.2.1, p111.2.2.2.2.2.2.2.2.2.2.2.2.2.2.2.1, p111.2.2.2.2.2.2.2.2.2.2.2.2.2.2.2.2.1, p111.2.2.2.2.2.2.2.2.2.2.2.2.2.2.2.2.2] : List Int).getD p116.1.toNat 0) + ((x3.getD p111.2.1.toNat ((0, 0) : Int × Int)).2))) else p111.2.2.2.2.2.2.2.2.2.2.2.2.2.2.2.1, bif p116.1 == 6 then (w64 ((([p111.2.2.2.2.2.2.2.2.2.2.1, p111.2.2.2.2.2.2.2.2.2.2.2.1, p111.2.2.2.2.2.2.2.2.2.2.2.2.1, p111.2.2.2.2.2.2.2.2.2.2.2.2.2.1, p111.2.2.2.2.2.2.2.2.2.2.2.2.2.2.1, p111.2.2.2.2.2.2.2.2.2.2.2.2.2.2.2.1, p111.2.2.2.2.2.2.2.2.2.2.2.2.2.2.2.2.1, p111.2.2.2.2.2.2.2.2.2.2.2.2.2.2.2.2.2] : List Int).getD p116.1.toNat 0) + ((x3.getD p111.2.1.toNat ((0, 0) : Int × Int)).2))) else p111.2.2.2.2.2.2.2.2.2.2.2.2.2.2.2.2.1, bif p116.1 == 7 then (w64 ((([p111.2.2.2.2.2.2.2.2.2.2.1, p111.2.2.2.2.2.2.2.2.2.2.2.1, p111.2.2.2.2.2.2.2.2.2.2.2.2.1, p111.2.2.2.2.2.2.2.2.2.2.2.2.2.1, p111.2.2.2.2.2.2.2.2.2.2.2.2.2.2.1, p111.2.2.2.2.2.2.2.2.2.2.2.2.2.2.2.1, p111.2.2.2.2.2.2.2.2.2.2.2.2.2.2.2.2.1, p111.2.2.2.2.2.2.2.2.2.2.2.2.2.2.2.2.2] : List Int).getD p116.1.toNat 0) + ((x3.getD p111.2.1.toNat ((0, 0) : Int × Int)).2))) else p111.2.2.2.2.2.2.2.2.2.2.2.2.2.2.2.2.2))))))) else some (p111.2.2.1, p111.2.2.2.1, p111.2.2.2.2.1, p111.2.2.2.2.2.1, p111.2.2.2.2.2.2.1, p111.2.2.2.2.2.2.2.1, p111.2.2.2.2.2.2.2.2.1, p111.2.2.2.2.2.2.2.2.2.1, p111.2.2.2.2.2.2.2.2.2.2.1, p111.2.2.2.2.2.2.2.2.2.2.2.1, p111.2.2.2.2.2.2.2.2.2.2.2.2.1, p111.2.2.2.2.2.2.2.2.2.2.2.2.2.1, p111.2.2.2.2.2.2.2.2.2.2.2.2.2.2.1, p111.2.2.2.2.2.2.2.2.2.2.2.2.2.2.2.1, p111.2.2.2.2.2.2.2.2.2.2.2.2.2.2.2.2.1, p111.2.2.2.2.2.2.2.2.2.2.2.2.2.2.2.2.2))
def m_impl_sumsOf_l1i (x3 : List (Int × Int)) : Nat → (List Int × Int × Int × Int × Int × Int × Int × Int × Int × Int × Int × Int × Int × Int × Int × Int × Int × Int) → Option ((Int × Int × Int × Int × Int × Int × Int × Int × Int × Int × Int × Int × Int × Int × Int × Int)) := itr (m_impl_sumsOf_l1s x3)
theorem q_m_impl_sumsOf_l1 : @m_impl_sumsOf_l1 = @m_impl_sumsOf_l1i := by
  funext x3 n
  induction n with
  | zero => rfl
  | succ n ih =>
    funext p
    show _ = m_impl_sumsOf_l1s x3 (m_impl_sumsOf_l1i x3 n) p
    rw [← ih]
    rfl
def m_impl_sumsOfi (x0 : Int) (x1 : List (Int × Int × Int)) (x2 : List Bool) (x3 : List (Int × Int)) : Option (Int × Int × Int × Int × Int × Int × Int × Int × Int × Int × Int × Int × Int × Int × Int × Int) := Option.bind (m_impl_unionOf x0 x1 x2) (fun (p104 : List Int) => Option.bind (m_impl_sumsOf_l1i x3 FUEL (p104, 0, 0, 0, 0, 0, 0, 0, 0, 0, 0, 0, 0, 0, 0, 0, 0, 0)) (fun (p108 : Int × Int × Int × Int × Int × Int × Int × Int × Int × Int × Int × Int × Int × Int × Int × Int) => some (p108.1, p108.2.1, p108.2.2.1, p108.2.2.2.1, p108.2.2.2.2.1, p108.2.2.2.2.2.1, p108.2.2.2.2.2.2.1, p108.2.2.2.2.2.2.2.1, p108.2.2.2.2.2.2.2.2.1, p108.2.2.2.2.2.2.2.2.2.1, p108.2.2.2.2.2.2.2.2.2.2.1, p108.2.2.2.2.2.2.2.2.2.2.2.1, p108.2.2.2.2.2.2.2.2.2.2.2.2.1, p108.2.2.2.2.2.2.2.2.2.2.2.2.2.1, p108.2.2.2.2.2.2.2.2.2.2.2.2.2.2.1, p108.2.2.2.2.2.2.2.2.2.2.2.2.2.2.2)))
theorem q_m_impl_sumsOf : @m_impl_sumsOf = @m_impl_sumsOfi := by
  funext x0 x1 x2 x3
  unfold m_impl_sumsOfi
  rw [← q_m_impl_sumsOf_l1]
  rfl
def k_impl_sumsOf : Ctr := ⟨49, [.g [.int .i64, .sl .ro 71 (.p (.int .i64) (.p (.int .i64) (.int .i64)))], .o (.sl .ro 4 .b), .o (.sl .ro 42 (.p (.int .i64) (.int .i64)))], [.g [.int .i64, .int .i64, .int .i64, .int .i64, .int .i64, .int .i64, .int .i64, .int .i64, .int .i64, .int .i64, .int .i64, .int .i64, .int .i64, .int .i64, .int .i64, .int .i64]], false, fun x => m_impl_sumsOf x.1 x.2.1 x.2.2.1 x.2.2.2⟩
theorem d_impl_sumsOf : Cok Tryz.prog k_impl_sumsOf := cok (op := opn) (cs := [k_impl_unionOf, k_impl_union_find]) (rv := [.cell 6 77]) (crt := .q .z (.q .z (.q .z (.q (.q .z (.cut ⟨[(6, .o .k), (7, .o .k)], [(7, [.i .i64, .i .i64, .i .i64, .i .i64, .i .i64, .i .i64, .i .i64, .i .i64, .i .i64, .i .i64, .i .i64, .i .i64, .i .i64, .i .i64, .i .i64, .i .i64]), (6, [.k, .k, .k, .k, .k, .k, .k, .k, .k, .k, .k, .k, .k, .k, .k, .k])], []⟩ [] (.b (.lp ⟨[(6, .o .k), (7, .o .k), (8, .o (.w 3 (.int .i64))), (15, .o .k), (16, .o .k), (17, .o (.i .i64))], [(7, [.i .i64, .i .i64, .i .i64, .i .i64, .i .i64, .i .i64, .i .i64, .i .i64, .i .i64, .i .i64, .i .i64, .i .i64, .i .i64, .i .i64, .i .i64, .i .i64]), (6, [.k, .k, .k, .k, .k, .k, .k, .k, .k, .k, .k, .k, .k, .k, .k, .k])], []⟩ (.q .z (.q (.q .z .z) (.q (.b (.q .z (.q .z (.q .z .z)))) .z))))))) (.q .z .z))))) tys_ok eqt_ok rfl ⟨d_impl_unionOf, d_impl_union_find, trivial⟩ opn_ok co49 Tryz.func49 rfl Tryz.ntmps49 rfl rfl (fun x => by
  show m_impl_sumsOf x.1 x.2.1 x.2.2.1 x.2.2.2 = _
  rw [q_m_impl_sumsOf]
  kernel_rfl)
def m_impl_AliveBuses_l1s (x3 : List (Int × Int)) (p108 : Int × Int × Int × Int × Int × Int × Int × Int × Int × Int × Int × Int × Int × Int × Int × Int) (rec : (List Int × List Int × Int) → Option ((List Int))) (p117 : (List Int × List Int × Int)) : Option ((List Int)) := (bif ltB p117.2.2 (x3.length : Int) then Option.bind (m_impl_union_find p117.1 p117.2.2) (fun (p122 : Int × List Int) => chk (ixB p122.1 8) (Option.bind (bif ltB 0 (([p108.1, p108.2.1, p108.2.2.1, p108.2.2.2.1, p108.2.2.2.2.1, p108.2.2.2.2.2.1, p108.2.2.2.2.2.2.1, p108.2.2.2.2.2.2.2.1] : List Int).getD p122.1.toNat 0) then chk (apB p117.2.1.length ([p117.2.2] : List Int).length) (some (p117.2.1 ++ ([p117.2.2] : List Int))) else some p117.2.1) (fun (p125 : List Int) => rec (p122.2, p125, w64 (p117.2.2 + 1))))) else some p117.2.1)
def m_impl_AliveBuses_l1i (x3 : List (Int × Int)) (p108 : Int × Int × Int × Int × Int × Int × Int × Int × Int × Int × Int × Int × Int × Int × Int × Int) : Nat → (List Int × List Int × Int) → Option ((List Int)) := itr (m_impl_AliveBuses_l1s x3 p108)
theorem q_m_impl_AliveBuses_l1 : @m_impl_AliveBuses_l1 = @m_impl_AliveBuses_l1i := by
  funext x3 p108 n
  induction n with
  | zero => rfl
  | succ n ih =>
    funext p
    show _ = m_impl_AliveBuses_l1s x3 p108 (m_impl_AliveBuses_l1i x3 p108 n) p
    rw [← ih]
    rfl
def m_impl_AliveBusesi (x0 : Int) (x1 : List (Int × Int × Int)) (x2 : List Bool) (x3 : List (Int × Int)) : Option (List Int) := Option.bind (m_impl_fedValid x0 x1 x2 x3) (fun (p102 : Bool) => (bif p102 then Option.bind (m_impl_unionOf x0 x1 x2) (fun (p104 : List Int) => Option.bind (m_impl_sumsOf x0 x1 x2 x3) (fun (p108 : Int × Int × Int × Int × Int × Int × Int × Int × Int × Int × Int × Int × Int × Int × Int × Int) => Option.bind (m_impl_AliveBuses_l1i x3 p108 FUEL (p104, ([] : List Int), 0)) (fun (p112 : List Int) => some p112))) else some ([] : List Int)))
theorem q_m_impl_AliveBuses : @m_impl_AliveBuses = @m_impl_AliveBusesi := by
  funext x0 x1 x2 x3
  unfold m_impl_AliveBusesi
  rw [← q_m_impl_AliveBuses_l1]
  rfl
def k_impl_AliveBuses : Ctr := ⟨13, [.g [.int .i64, .sl .ro 71 (.p (.int .i64) (.p (.int .i64) (.int .i64)))], .o (.sl .ro 4 .b), .o (.sl .ro 42 (.p (.int .i64) (.int .i64)))], [.o (.row 3 (.int .i64))], false, fun x => m_impl_AliveBuses x.1 x.2.1 x.2.2.1 x.2.2.2⟩
theorem d_impl_AliveBuses : Cok Tryz.prog k_impl_AliveBuses := cok (op := opn) (cs := [k_impl_fedValid, k_impl_unionOf, k_impl_sumsOf, k_impl_union_find]) (rv := [.tmp 6]) (crt := .q .z (.q (.q .z (.q (.q .z .z) .z)) (.q .z (.q .z (.q (.q .z (.cut ⟨[(6, .o .k), (9, .o (.r 3 (.int .i64)))], [], []⟩ [] (.b (.lp ⟨[(6, .o .k), (7, .o (.w 3 (.int .i64))), (8, .o .k), (9, .o (.r 3 (.int .i64))), (24, .o .k), (25, .o (.i .i64))], [(8, [.k, .k, .k, .k, .k, .k, .k, .k, .k, .k, .k, .k, .k, .k, .k, .k])], []⟩ (.q .z (.q (.q .z .z) (.q (.b (.q .z (.q .z (.cut ⟨[(6, .o .k), (7, .o .k), (8, .o .k), (9, .o (.r 3 (.int .i64))), (24, .o .k), (25, .o .k)], [(8, [.k, .k, .k, .k, .k, .k, .k, .k, .k, .k, .k, .k, .k, .k, .k, .k])], []⟩ [] (.q .z .z))))) .z))))))) (.q .z .z)))))) tys_ok eqt_ok rfl ⟨d_impl_fedValid, d_impl_unionOf, d_impl_sumsOf, d_impl_union_find, trivial⟩ opn_ok co13 Tryz.func13 rfl Tryz.ntmps13 rfl rfl (fun x => by
  show m_impl_AliveBuses x.1 x.2.1 x.2.2.1 x.2.2.2 = _
  rw [q_m_impl_AliveBuses]
  kernel_rfl)
def m_slices_Index_int_int_l1s (x0 : List Int) (x1 : Int) (rec : Int → Option (Unit ⊕ Int)) (p104 : Int) : Option (Unit ⊕ Int) := (bif ltB p104 (x0.length : Int) then chk (ixB p104 x0.length) ((bif x1 == (x0.getD p104.toNat (0 : Int)) then some (Sum.inr p104) else rec (w64 (p104 + 1)))) else some (Sum.inl ()))
def m_slices_Index_int_int_l1i (x0 : List Int) (x1 : Int) : Nat → Int → Option (Unit ⊕ Int) := itr (m_slices_Index_int_int_l1s x0 x1)
theorem q_m_slices_Index_int_int_l1 : @m_slices_Index_int_int_l1 = @m_slices_Index_int_int_l1i := by
  funext x0 x1 n
  induction n with
  | zero => rfl
  | succ n ih =>
    funext p
    show _ = m_slices_Index_int_int_l1s x0 x1 (m_slices_Index_int_int_l1i x0 x1 n) p
    rw [← ih]
    rfl
def m_slices_Index_int_inti (x0 : List Int) (x1 : Int) : Option (Int) := Option.bind (m_slices_Index_int_int_l1i x0 x1 FUEL 0 : Option (Unit ⊕ Int)) (Sum.elim (fun (p101 : Unit) => some (-1)) (fun (r : Int) => some r))
theorem q_m_slices_Index_int_int : @m_slices_Index_int_int = @m_slices_Index_int_inti := by
  funext x0 x1
  unfold m_slices_Index_int_inti
  rw [← q_m_slices_Index_int_int_l1]
  rfl
def k_slices_Index_int_int : Ctr := ⟨77, [.o (.sl .ro 3 (.int .i64)), .o (.int .i64)], [.o (.int .i64)], false, fun x => m_slices_Index_int_int x.1 x.2⟩
theorem d_slices_Index_int_int : Cok Tryz.prog k_slices_Index_int_int := cok (op := opn) (cs := []) (rv := [.tmp 4]) (crt := .q .z (.q (.q .z (.cut ⟨[(4, .o .k)], [], []⟩ [.rt] (.b (.lp ⟨[(0, .o .k), (1, .o .k), (4, .o .k), (7, .o .k), (8, .o (.i .i64))], [], []⟩ (.q .z (.q (.q .z .z) (.q (.b (.q .z (.q .z (.q (.q .z .z) .z)))) .z))))))) (.q .z .z))) tys_ok eqt_ok rfl trivial opn_ok co77 Tryz.func77 rfl Tryz.ntmps77 rfl rfl (fun x => by
  show m_slices_Index_int_int x.1 x.2 = _
  rw [q_m_slices_Index_int_int]
  kernel_rfl)
def k_slices_Contains_int_int : Ctr := ⟨38, [.o (.sl .ro 3 (.int .i64)), .o (.int .i64)], [.o .b], false, fun x => m_slices_Contains_int_int x.1 x.2⟩
theorem d_slices_Contains_int_int : Cok Tryz.prog k_slices_Contains_int_int := cok (op := opn) (cs := [k_slices_Index_int_int]) (rv := [.tmp 4]) (crt := .q .z (.q .z .z)) tys_ok eqt_ok rfl ⟨d_slices_Index_int_int, trivial⟩ opn_ok co38 Tryz.func38 rfl Tryz.ntmps38 rfl rfl (fun _ => by kernel_rfl)
def m_impl_WorldDark_l1s (x2 : List (Int × Int)) (p104 : List Int) (rec : (List Int × Int) → Option ((List Int))) (p113 : (List Int × Int)) : Option ((List Int)) := (bif ltB p113.2 (x2.length : Int) then chk (ixB p113.2 x2.length) (Option.bind (gb (ltB 0 ((x2.getD p113.2.toNat ((0, 0) : Int × Int)).2)) (m_slices_Contains_int_int p104 p113.2)) (fun (p119 : Bool) => Option.bind (bif (ltB 0 ((x2.getD p113.2.toNat ((0, 0) : Int × Int)).2)) && (!p119) then chk (apB p113.1.length ([p113.2] : List Int).length) (some (p113.1 ++ ([p113.2] : List Int))) else some p113.1) (fun (p120 : List Int) => rec (p120, w64 (p113.2 + 1))))) else some p113.1)
def m_impl_WorldDark_l1i (x2 : List (Int × Int)) (p104 : List Int) : Nat → (List Int × Int) → Option ((List Int)) := itr (m_impl_WorldDark_l1s x2 p104)
theorem q_m_impl_WorldDark_l1 : @m_impl_WorldDark_l1 = @m_impl_WorldDark_l1i := by
  funext x2 p104 n
  induction n with
  | zero => rfl
  | succ n ih =>
    funext p
    show _ = m_impl_WorldDark_l1s x2 p104 (m_impl_WorldDark_l1i x2 p104 n) p
    rw [← ih]
    rfl
def m_impl_WorldDarki (x0 : Int) (x1 : List (Int × Int × Int)) (x2 : List (Int × Int)) (x3 : List Bool) (x4 : List Bool) (x5 : List (Int × Int)) (x6 : List Int) : Option (List Int) := Option.bind (m_impl_WorldValid x0 x1 x2 x3 x4 x5 x6) (fun (p102 : Bool) => (bif p102 then Option.bind (m_impl_AliveBuses x0 x1 x3 x2) (fun (p104 : List Int) => Option.bind (m_impl_WorldDark_l1i x2 p104 FUEL (([] : List Int), 0)) (fun (p108 : List Int) => some p108)) else some ([] : List Int)))
theorem q_m_impl_WorldDark : @m_impl_WorldDark = @m_impl_WorldDarki := by
  funext x0 x1 x2 x3 x4 x5 x6
  unfold m_impl_WorldDarki
  rw [← q_m_impl_WorldDark_l1]
  rfl
def k_impl_WorldDark : Ctr := ⟨8, [.g [.int .i64, .sl .ro 71 (.p (.int .i64) (.p (.int .i64) (.int .i64))), .sl .ro 42 (.p (.int .i64) (.int .i64)), .sl .ro 4 .b, .sl .ro 4 .b, .sl .ro 93 (.p (.int .i64) (.int .i64)), .sl .ro 3 (.int .i64)]], [.o (.row 3 (.int .i64))], false, fun x => m_impl_WorldDark x.1 x.2.1 x.2.2.1 x.2.2.2.1 x.2.2.2.2.1 x.2.2.2.2.2.1 x.2.2.2.2.2.2⟩
theorem d_impl_WorldDark : Cok Tryz.prog k_impl_WorldDark := cok (op := opn) (cs := [k_impl_WorldValid, k_impl_AliveBuses, k_slices_Contains_int_int]) (rv := [.tmp 2]) (crt := .q .z (.q (.q .z (.q (.q .z .z) .z)) (.q .z (.q .z (.q (.q .z (.cut ⟨[(2, .o .k), (4, .o (.r 3 (.int .i64)))], [], []⟩ [] (.b (.lp ⟨[(2, .o .k), (3, .o .k), (4, .o (.r 3 (.int .i64))), (19, .o .k), (20, .o .k), (21, .o (.i .i64))], [], []⟩ (.q .z (.q (.q .z .z) (.q (.b (.q .z (.q .z (.cut ⟨[(2, .o .k), (3, .o .k), (4, .o (.r 3 (.int .i64))), (19, .o .k), (20, .o .k), (21, .o .k)], [], []⟩ [] (.q .z .z))))) .z))))))) (.q .z .z)))))) tys_ok eqt_ok rfl ⟨d_impl_WorldValid, d_impl_AliveBuses, d_slices_Contains_int_int, trivial⟩ opn_ok co8 Tryz.func8 rfl Tryz.ntmps8 rfl rfl (fun x => by
  show m_impl_WorldDark x.1 x.2.1 x.2.2.1 x.2.2.2.1 x.2.2.2.2.1 x.2.2.2.2.2.1 x.2.2.2.2.2.2 = _
  rw [q_m_impl_WorldDark]
  kernel_rfl)
def m_spec_IslandFeed_l1s (x3 : List (Int × Int)) (p105 : List Int) (rec : (Int × Int) → Option (Int)) (p112 : (Int × Int)) : Option (Int) := (bif ltB p112.2 (p105.length : Int) then chk (ixB p112.2 p105.length) (chk (ixB (p105.getD p112.2.toNat (0 : Int)) x3.length) (rec (w64 (p112.1 + ((x3.getD ((p105.getD p112.2.toNat (0 : Int)).toNat) ((0, 0) : Int × Int)).1)), w64 (p112.2 + 1)))) else some p112.1)
def m_spec_IslandFeed_l1i (x3 : List (Int × Int)) (p105 : List Int) : Nat → (Int × Int) → Option (Int) := itr (m_spec_IslandFeed_l1s x3 p105)
theorem q_m_spec_IslandFeed_l1 : @m_spec_IslandFeed_l1 = @m_spec_IslandFeed_l1i := by
  funext x3 p105 n
  induction n with
  | zero => rfl
  | succ n ih =>
    funext p
    show _ = m_spec_IslandFeed_l1s x3 p105 (m_spec_IslandFeed_l1i x3 p105 n) p
    rw [← ih]
    rfl
def m_spec_IslandFeedi (x0 : Int) (x1 : List (Int × Int × Int)) (x2 : List Bool) (x3 : List (Int × Int)) (x4 : Int) : Option (Int) := Option.bind (m_spec_l5Ok x0 x1 x2 x3) (fun (p102 : Bool) => Option.bind (gb (!(!p102)) (m_spec_l1In x4 0 (w64 (x0 - 1)))) (fun (p103 : Bool) => (bif (!p102) || (!p103) then some (-1) else Option.bind (m_spec_Reached x0 x1 x2 x4) (fun (p105 : List Int) => Option.bind (m_spec_IslandFeed_l1i x3 p105 FUEL (0, 0)) (fun (p109 : Int) => some p109)))))
theorem q_m_spec_IslandFeed : @m_spec_IslandFeed = @m_spec_IslandFeedi := by
  funext x0 x1 x2 x3 x4
  unfold m_spec_IslandFeedi
  rw [← q_m_spec_IslandFeed_l1]
  rfl
def k_spec_IslandFeed : Ctr := ⟨79, [.g [.int .i64, .sl .ro 71 (.p (.int .i64) (.p (.int .i64) (.int .i64)))], .o (.sl .ro 4 .b), .o (.sl .ro 42 (.p (.int .i64) (.int .i64))), .o (.int .i64)], [.o (.int .i64)], false, fun x => m_spec_IslandFeed x.1 x.2.1 x.2.2.1 x.2.2.2.1 x.2.2.2.2⟩
theorem d_spec_IslandFeed : Cok Tryz.prog k_spec_IslandFeed := cok (op := opn) (cs := [k_spec_l5Ok, k_spec_l1In, k_spec_Reached]) (rv := [.tmp 8]) (crt := .q .z (.q (.q .z (.q (.q .z .z) .z)) (.q .z (.q .z (.q (.q .z (.cut ⟨[(8, .o .k), (9, .o (.i .i64))], [], []⟩ [] (.b (.lp ⟨[(2, .o .k), (8, .o .k), (9, .o (.i .i64)), (10, .o .k), (11, .o (.i .i64))], [], []⟩ (.q (.q .z (.q .z .z)) (.q (.b .z) .z)))))) (.q .z .z)))))) tys_ok eqt_ok rfl ⟨d_spec_l5Ok, d_spec_l1In, d_spec_Reached, trivial⟩ opn_ok co79 Tryz.func79 rfl Tryz.ntmps79 rfl rfl (fun x => by
  show m_spec_IslandFeed x.1 x.2.1 x.2.2.1 x.2.2.2.1 x.2.2.2.2 = _
  rw [q_m_spec_IslandFeed]
  kernel_rfl)
def m_spec_AliveBuses_l1s (x0 : Int) (x1 : List (Int × Int × Int)) (x2 : List Bool) (x3 : List (Int × Int)) (rec : (List Int × Int) → Option ((List Int))) (p108 : (List Int × Int)) : Option ((List Int)) := Option.bind (gb (ltB p108.2 x0) (m_spec_l5Ok x0 x1 x2 x3)) (fun (p111 : Bool) => (bif (ltB p108.2 x0) && p111 then Option.bind (m_spec_IslandFeed x0 x1 x2 x3 p108.2) (fun (p113 : Int) => Option.bind (bif ltB 0 p113 then chk (apB p108.1.length ([p108.2] : List Int).length) (some (p108.1 ++ ([p108.2] : List Int))) else some p108.1) (fun (p114 : List Int) => rec (p114, w64 (p108.2 + 1)))) else some p108.1))
def m_spec_AliveBuses_l1i (x0 : Int) (x1 : List (Int × Int × Int)) (x2 : List Bool) (x3 : List (Int × Int)) : Nat → (List Int × Int) → Option ((List Int)) := itr (m_spec_AliveBuses_l1s x0 x1 x2 x3)
theorem q_m_spec_AliveBuses_l1 : @m_spec_AliveBuses_l1 = @m_spec_AliveBuses_l1i := by
  funext x0 x1 x2 x3 n
  induction n with
  | zero => rfl
  | succ n ih =>
    funext p
    show _ = m_spec_AliveBuses_l1s x0 x1 x2 x3 (m_spec_AliveBuses_l1i x0 x1 x2 x3 n) p
    rw [← ih]
    rfl
def m_spec_AliveBusesi (x0 : Int) (x1 : List (Int × Int × Int)) (x2 : List Bool) (x3 : List (Int × Int)) : Option (List Int) := Option.bind (m_spec_AliveBuses_l1i x0 x1 x2 x3 FUEL (([] : List Int), 0)) (fun (p103 : List Int) => some p103)
theorem q_m_spec_AliveBuses : @m_spec_AliveBuses = @m_spec_AliveBusesi := by
  funext x0 x1 x2 x3
  unfold m_spec_AliveBusesi
  rw [← q_m_spec_AliveBuses_l1]
  rfl
def k_spec_AliveBuses : Ctr := ⟨39, [.g [.int .i64, .sl .ro 71 (.p (.int .i64) (.p (.int .i64) (.int .i64)))], .o (.sl .ro 4 .b), .o (.sl .ro 42 (.p (.int .i64) (.int .i64)))], [.o (.row 3 (.int .i64))], false, fun x => m_spec_AliveBuses x.1 x.2.1 x.2.2.1 x.2.2.2⟩
theorem d_spec_AliveBuses : Cok Tryz.prog k_spec_AliveBuses := cok (op := opn) (cs := [k_spec_l5Ok, k_spec_IslandFeed]) (rv := [.tmp 6]) (crt := .q .z (.q .z (.q (.q .z (.cut ⟨[(6, .o .k), (7, .o (.r 3 (.int .i64)))], [], []⟩ [] (.b (.lp ⟨[(1, .o .k), (2, .o .k), (3, .o .k), (6, .o .k), (7, .o (.r 3 (.int .i64))), (8, .o (.i .i64))], [(3, [.k, .k])], []⟩ (.q (.q .z (.q .z .z)) (.q (.b (.q .z (.cut ⟨[(1, .o .k), (2, .o .k), (3, .o .k), (6, .o .k), (7, .o (.r 3 (.int .i64))), (8, .o .k)], [(3, [.k, .k])], []⟩ [] (.q .z .z)))) .z)))))) (.q .z .z)))) tys_ok eqt_ok rfl ⟨d_spec_l5Ok, d_spec_IslandFeed, trivial⟩ opn_ok co39 Tryz.func39 rfl Tryz.ntmps39 rfl rfl (fun x => by
  show m_spec_AliveBuses x.1 x.2.1 x.2.2.1 x.2.2.2 = _
  rw [q_m_spec_AliveBuses]
  kernel_rfl)
def m_spec_WorldDark_l1s (x2 : List (Int × Int)) (p105 : List Int) (rec : (List Int × Int) → Option ((List Int))) (p114 : (List Int × Int)) : Option ((List Int)) := (bif ltB p114.2 (x2.length : Int) then Option.bind (m_spec_l1Has p105 p114.2) (fun (p118 : Bool) => chk (!(!p118) || ixB p114.2 x2.length) (Option.bind (bif (!p118) && (ltB 0 ((x2.getD p114.2.toNat ((0, 0) : Int × Int)).2)) then chk (apB p114.1.length ([p114.2] : List Int).length) (some (p114.1 ++ ([p114.2] : List Int))) else some p114.1) (fun (p120 : List Int) => rec (p120, w64 (p114.2 + 1))))) else some p114.1)
def m_spec_WorldDark_l1i (x2 : List (Int × Int)) (p105 : List Int) : Nat → (List Int × Int) → Option ((List Int)) := itr (m_spec_WorldDark_l1s x2 p105)
theorem q_m_spec_WorldDark_l1 : @m_spec_WorldDark_l1 = @m_spec_WorldDark_l1i := by
  funext x2 p105 n
  induction n with
  | zero => rfl
  | succ n ih =>
    funext p
    show _ = m_spec_WorldDark_l1s x2 p105 (m_spec_WorldDark_l1i x2 p105 n) p
    rw [← ih]
    rfl
def m_spec_WorldDarki (x0 : Int) (x1 : List (Int × Int × Int)) (x2 : List (Int × Int)) (x3 : List Bool) (x4 : List Bool) (x5 : List (Int × Int)) (x6 : List Int) : Option (List Int) := Option.bind (m_spec_WorldValid x0 x1 x2 x3 x4 x5 x6) (fun (p103 : Bool) => (bif p103 then Option.bind (m_spec_AliveBuses x0 x1 x3 x2) (fun (p105 : List Int) => Option.bind (m_spec_WorldDark_l1i x2 p105 FUEL (([] : List Int), 0)) (fun (p109 : List Int) => some p109)) else some ([] : List Int)))
theorem q_m_spec_WorldDark : @m_spec_WorldDark = @m_spec_WorldDarki := by
  funext x0 x1 x2 x3 x4 x5 x6
  unfold m_spec_WorldDarki
  rw [← q_m_spec_WorldDark_l1]
  rfl
def k_spec_WorldDark : Ctr := ⟨10, [.g [.int .i64, .sl .ro 71 (.p (.int .i64) (.p (.int .i64) (.int .i64))), .sl .ro 42 (.p (.int .i64) (.int .i64)), .sl .ro 4 .b, .sl .ro 4 .b, .sl .ro 93 (.p (.int .i64) (.int .i64)), .sl .ro 3 (.int .i64)]], [.o (.row 3 (.int .i64))], false, fun x => m_spec_WorldDark x.1 x.2.1 x.2.2.1 x.2.2.2.1 x.2.2.2.2.1 x.2.2.2.2.2.1 x.2.2.2.2.2.2⟩
theorem d_spec_WorldDark : Cok Tryz.prog k_spec_WorldDark := cok (op := opn) (cs := [k_spec_WorldValid, k_spec_AliveBuses, k_spec_l1Has]) (rv := [.tmp 2]) (crt := .q .z (.q .z (.q (.q .z (.q (.q .z .z) .z)) (.q .z (.q (.q .z (.cut ⟨[(2, .o .k), (3, .o (.r 3 (.int .i64)))], [], []⟩ [] (.b (.lp ⟨[(1, .o .k), (2, .o .k), (3, .o (.r 3 (.int .i64))), (4, .o .k), (5, .o (.i .i64))], [(1, [.k, .k, .k, .k, .k, .k, .k])], []⟩ (.q (.q .z (.q .z .z)) (.q (.b (.q .z (.cut ⟨[(1, .o .k), (2, .o .k), (3, .o (.r 3 (.int .i64))), (4, .o .k), (5, .o .k)], [(1, [.k, .k, .k, .k, .k, .k, .k])], []⟩ [] (.q .z .z)))) .z)))))) (.q .z .z)))))) tys_ok eqt_ok rfl ⟨d_spec_WorldValid, d_spec_AliveBuses, d_spec_l1Has, trivial⟩ opn_ok co10 Tryz.func10 rfl Tryz.ntmps10 rfl rfl (fun x => by
  show m_spec_WorldDark x.1 x.2.1 x.2.2.1 x.2.2.2.1 x.2.2.2.2.1 x.2.2.2.2.2.1 x.2.2.2.2.2.2 = _
  rw [q_m_spec_WorldDark]
  kernel_rfl)
def m_laws_sameInts_l1s (x0 : List Int) (x1 : List Int) (rec : Int → Option (Unit ⊕ Bool)) (p105 : Int) : Option (Unit ⊕ Bool) := (bif ltB p105 (x0.length : Int) then chk (ixB p105 x0.length) (chk (ixB p105 x1.length) ((bif (x0.getD p105.toNat (0 : Int)) != (x1.getD p105.toNat (0 : Int)) then some (Sum.inr false) else rec (w64 (p105 + 1))))) else some (Sum.inl ()))
def m_laws_sameInts_l1i (x0 : List Int) (x1 : List Int) : Nat → Int → Option (Unit ⊕ Bool) := itr (m_laws_sameInts_l1s x0 x1)
theorem q_m_laws_sameInts_l1 : @m_laws_sameInts_l1 = @m_laws_sameInts_l1i := by
  funext x0 x1 n
  induction n with
  | zero => rfl
  | succ n ih =>
    funext p
    show _ = m_laws_sameInts_l1s x0 x1 (m_laws_sameInts_l1i x0 x1 n) p
    rw [← ih]
    rfl
def m_laws_sameIntsi (x0 : List Int) (x1 : List Int) : Option (Bool) := (bif (x0.length : Int) != (x1.length : Int) then some false else Option.bind (m_laws_sameInts_l1i x0 x1 FUEL 0 : Option (Unit ⊕ Bool)) (Sum.elim (fun (p102 : Unit) => some true) (fun (r : Bool) => some r)))
theorem q_m_laws_sameInts : @m_laws_sameInts = @m_laws_sameIntsi := by
  funext x0 x1
  unfold m_laws_sameIntsi
  rw [← q_m_laws_sameInts_l1]
  rfl
def k_laws_sameInts : Ctr := ⟨9, [.o (.sl .ro 3 (.int .i64)), .o (.sl .ro 3 (.int .i64))], [.o .b], false, fun x => m_laws_sameInts x.1 x.2⟩
theorem d_laws_sameInts : Cok Tryz.prog k_laws_sameInts := cok (op := opn) (cs := []) (rv := [.tmp 4]) (crt := .q .z (.q (.q .z (.q (.q .z .z) .z)) (.q (.q .z (.cut ⟨[(4, .o .k)], [], []⟩ [.rt] (.b (.lp ⟨[(0, .o .k), (1, .o .k), (4, .o .k), (5, .o (.i .i64))], [], []⟩ (.q (.q .z (.q .z .z)) (.q (.b (.q .z (.q (.q .z .z) .z))) .z)))))) (.q .z .z)))) tys_ok eqt_ok rfl trivial opn_ok co9 Tryz.func9 rfl Tryz.ntmps9 rfl rfl (fun x => by
  show m_laws_sameInts x.1 x.2 = _
  rw [q_m_laws_sameInts]
  kernel_rfl)
def k_impl_OtherEnd : Ctr := ⟨45, [.g [.int .i64, .sl .ro 71 (.p (.int .i64) (.p (.int .i64) (.int .i64)))], .o (.int .i64), .o (.int .i64)], [.o (.int .i64)], false, fun x => m_impl_OtherEnd x.1 x.2.1 x.2.2.1 x.2.2.2⟩
theorem d_impl_OtherEnd : Cok Tryz.prog k_impl_OtherEnd := cok (op := opn) (cs := [k_impl_NetValid, k_impl_Net_hasLine, k_impl_Line_other]) (rv := [.tmp 6]) (crt := .q .z (.q (.q .z (.q (.q .z .z) .z)) (.q .z .z))) tys_ok eqt_ok rfl ⟨d_impl_NetValid, d_impl_Net_hasLine, d_impl_Line_other, trivial⟩ opn_ok co45 Tryz.func45 rfl Tryz.ntmps45 rfl rfl (fun _ => by kernel_rfl)
def k_laws_alive : Ctr := ⟨12, [], [.o .b], false, fun x => m_laws_alive⟩
theorem d_laws_alive : Cok Tryz.prog k_laws_alive := cok (op := opn) (cs := [k_impl_OtherEnd, k_impl_NetText]) (rv := [.tmp 0]) (crt := .q .z (.q .z .z)) tys_ok eqt_ok rfl ⟨d_impl_OtherEnd, d_impl_NetText, trivial⟩ opn_ok co12 Tryz.func12 rfl Tryz.ntmps12 rfl rfl (fun _ => by kernel_rfl)
def m_laws_hasInt_l1s (x0 : List Int) (x1 : Int) (rec : Int → Option (Unit ⊕ Bool)) (p104 : Int) : Option (Unit ⊕ Bool) := (bif ltB p104 (x0.length : Int) then chk (ixB p104 x0.length) ((bif (x0.getD p104.toNat (0 : Int)) == x1 then some (Sum.inr true) else rec (w64 (p104 + 1)))) else some (Sum.inl ()))
def m_laws_hasInt_l1i (x0 : List Int) (x1 : Int) : Nat → Int → Option (Unit ⊕ Bool) := itr (m_laws_hasInt_l1s x0 x1)
theorem q_m_laws_hasInt_l1 : @m_laws_hasInt_l1 = @m_laws_hasInt_l1i := by
  funext x0 x1 n
  induction n with
  | zero => rfl
  | succ n ih =>
    funext p
    show _ = m_laws_hasInt_l1s x0 x1 (m_laws_hasInt_l1i x0 x1 n) p
    rw [← ih]
    rfl
def m_laws_hasInti (x0 : List Int) (x1 : Int) : Option (Bool) := Option.bind (m_laws_hasInt_l1i x0 x1 FUEL 0 : Option (Unit ⊕ Bool)) (Sum.elim (fun (p101 : Unit) => some false) (fun (r : Bool) => some r))
theorem q_m_laws_hasInt : @m_laws_hasInt = @m_laws_hasInti := by
  funext x0 x1
  unfold m_laws_hasInti
  rw [← q_m_laws_hasInt_l1]
  rfl
def k_laws_hasInt : Ctr := ⟨14, [.o (.sl .ro 3 (.int .i64)), .o (.int .i64)], [.o .b], false, fun x => m_laws_hasInt x.1 x.2⟩
theorem d_laws_hasInt : Cok Tryz.prog k_laws_hasInt := cok (op := opn) (cs := []) (rv := [.tmp 4]) (crt := .q .z (.q (.q .z (.cut ⟨[(4, .o .k)], [], []⟩ [.rt] (.b (.lp ⟨[(0, .o .k), (1, .o .k), (4, .o .k), (5, .o (.i .i64))], [], []⟩ (.q (.q .z (.q .z .z)) (.q (.b (.q .z (.q (.q .z .z) .z))) .z)))))) (.q .z .z))) tys_ok eqt_ok rfl trivial opn_ok co14 Tryz.func14 rfl Tryz.ntmps14 rfl rfl (fun x => by
  show m_laws_hasInt x.1 x.2 = _
  rw [q_m_laws_hasInt]
  kernel_rfl)
set_option maxHeartbeats 4000000 in
theorem c_slices_Clone_impl_Line_impl_Line {x0 : List (Int × Int × Int)} {A0 : Option Addr} {n0 c0 : Nat} {w : World} {r : List (Int × Int × Int)} (h0 : Rt w 3 eLine A0 n0 c0 x0) (hM : m_slices_Clone_impl_Line_impl_Line x0 = some r) :
    Calls Tryz.prog 92 #[.slice A0 n0 c0] w (fun e w' => ∃ (B0 : Option Addr) (N0 D0 : Nat), e = .returned (.slice B0 N0 D0) ∧ N0 = r.length ∧ St w w' [.row 71 3 (.slice B0 N0 D0) N0 (r.flatMap eLine)]) := by
  obtain rfl := h0.len
  unfold m_slices_Clone_impl_Line_impl_Line at hM
  obtain ⟨hk, hM⟩ := chk_ex hM
  replace hk := apB_t hk
  obtain rfl := Option.some.inj hM
  refine calls_gw Tryz.func92 Tryz.ntmps92 rfl [(0, .slice A0 x0.length c0)] ⟨rfl, trivial⟩ rfl ?_
  intro a hF
  have S := St.nil w
  refine wp_seq ?_
  refine wp_region_lit ?_
  refine op_val (v := .slice none 0 0) rfl rfl hF rfl (run_assign rfl rfl) ?_; clear hF; intro a hF
  refine wpList_nil ?_
  refine wp_seq ?_
  refine wp_seq ?_
  refine wp_region_lit ?_
  refine op_val (v := .slice A0 x0.length c0) rfl rfl hF rfl (run_move rfl (hF.ev rfl)) ?_; clear hF; intro a hF
  refine op_val (v := .bool (Option.isNone A0)) rfl rfl hF rfl (run_eqlNil rfl Tryz.underlying23 (hF.ev rfl) rfl) ?_; clear hF; intro a hF
  refine wpList_nil ?_
  cases hc101 : (Option.isNone A0)
  · have hx := trivial
    refine cond_f hF rfl hc101 ?_
    refine wp_skip ?_
    refine wp_seq ?_
    refine wp_region_lit ?_
    refine op_newrow (cs := #[]) (size := 3) rfl rfl hF rfl S (run_buildSlice0 rfl Tryz.underlying23 (congrArg Option.isSome sz71)) rfl (Nat.zero_le _) ?_; clear hF S; intro a g102 u hF S
    refine op_val (v := .slice A0 x0.length c0) rfl rfl hF rfl (run_move rfl (hF.ev rfl)) ?_; clear hF; intro a hF
    have hk105 := hk
    refine op_appendL (lx := []) (ly := x0) rfl rfl hF rfl S rfl (hF.ev rfl) (hF.ev rfl) (i := 0) rfl rfl Tryz.underlying23 inf71 rfl (by decide) (S.rc0 h0.rc).rd rfl eLine_one hk105 (by decide) ?_; clear hF S; intro a B103 d104 u hF S
    refine op_val (v := .slice B103 ((([] : List (Int × Int × Int)) ++ x0).length) d104) rfl rfl hF rfl (run_assign rfl (hF.ev rfl)) ?_; clear hF; intro a hF
    refine wpList_nil ?_
    refine wp_ret ?_
    repeat with_reducible (first | refine then_ret ?_ | refine in_ret ?_ | refine in_nrm ?_)
    refine ret1_gw (.inl rfl) hF rfl (res_tmp (hF.ev rfl)) ?_
    exact ⟨B103, ((([] : List (Int × Int × Int)) ++ x0).length), d104, rfl, rfl, S.sel [0] rfl rfl⟩
  · have hx := nil_none h0.rc.rd rfl hc101
    refine cond_t hF rfl hc101 ?_
    refine wp_seq ?_
    refine wp_region_lit ?_
    refine op_val (v := .slice none 0 0) rfl rfl hF rfl (run_assign rfl rfl) ?_; clear hF; intro a hF
    refine wpList_nil ?_
    refine wp_ret ?_
    repeat with_reducible (first | refine then_ret ?_ | refine in_ret ?_ | refine in_nrm ?_)
    refine ret1_gw (.inl rfl) hF rfl (res_tmp (hF.ev rfl)) ?_
    subst hx
    replace S := S.nilrow 71 3
    exact ⟨none, 0, 0, rfl, rfl, S.sel [0] rfl rfl⟩
def k_slices_Clone_impl_Line_impl_Line : Ctr := ⟨92, [.o (.sl .ro 71 (.p (.int .i64) (.p (.int .i64) (.int .i64))))], [.o (.row 71 (.p (.int .i64) (.p (.int .i64) (.int .i64))))], false, fun x => m_slices_Clone_impl_Line_impl_Line x⟩
theorem d_slices_Clone_impl_Line_impl_Line : Cok Tryz.prog k_slices_Clone_impl_Line_impl_Line := ⟨co92, fun x res hm e w0 w X _ hp hS => by
  obtain ⟨v, vr, hv, ⟨l, hl, hro⟩, _⟩ := hp
  have hl := (List.head_eq_of_cons_eq hv).trans hl
  injection hl with _ hl
  subst hl
  refine (c_slices_Clone_impl_Line_impl_Line (A0 := e.a 0) (n0 := List.length x) (c0 := e.c 0) (w := w) ⟨hro w _ hS (fun y hy => List.mem_append_right _ hy), rfl⟩ hm).mono ?_
  rintro en w' ⟨B, N, D, rfl, hN, S⟩
  subst hN
  exact ⟨[_], [_], rfl, ⟨[_], [], [], [_], [], [], rfl, rfl, ⟨_, [], _, [], [_], [], rfl, rfl, rfl, ⟨res, B, D, rfl, rfl, rfl⟩, rfl, rfl, rfl⟩, ⟨rfl, rfl⟩, ⟨[], [], [], [], rfl, rfl, ⟨rfl, rfl⟩, ⟨rfl, rfl⟩⟩⟩, hS.call1 S⟩⟩
set_option maxHeartbeats 4000000 in
theorem c_slices_Clone_impl_Bus_impl_Bus {x0 : List (Int × Int)} {A0 : Option Addr} {n0 c0 : Nat} {w : World} {r : List (Int × Int)} (h0 : Rt w 2 eBus A0 n0 c0 x0) (hM : m_slices_Clone_impl_Bus_impl_Bus x0 = some r) :
    Calls Tryz.prog 93 #[.slice A0 n0 c0] w (fun e w' => ∃ (B0 : Option Addr) (N0 D0 : Nat), e = .returned (.slice B0 N0 D0) ∧ N0 = r.length ∧ St w w' [.row 42 2 (.slice B0 N0 D0) N0 (r.flatMap eBus)]) := by
  obtain rfl := h0.len
  unfold m_slices_Clone_impl_Bus_impl_Bus at hM
  obtain ⟨hk, hM⟩ := chk_ex hM
  replace hk := apB_t hk
  obtain rfl := Option.some.inj hM
  refine calls_gw Tryz.func93 Tryz.ntmps93 rfl [(0, .slice A0 x0.length c0)] ⟨rfl, trivial⟩ rfl ?_
  intro a hF
  have S := St.nil w
  refine wp_seq ?_
  refine wp_region_lit ?_
  refine op_val (v := .slice none 0 0) rfl rfl hF rfl (run_assign rfl rfl) ?_; clear hF; intro a hF
  refine wpList_nil ?_
  refine wp_seq ?_
  refine wp_seq ?_
  refine wp_region_lit ?_
  refine op_val (v := .slice A0 x0.length c0) rfl rfl hF rfl (run_move rfl (hF.ev rfl)) ?_; clear hF; intro a hF
  refine op_val (v := .bool (Option.isNone A0)) rfl rfl hF rfl (run_eqlNil rfl Tryz.underlying26 (hF.ev rfl) rfl) ?_; clear hF; intro a hF
  refine wpList_nil ?_
  cases hc101 : (Option.isNone A0)
  · have hx := trivial
    refine cond_f hF rfl hc101 ?_
    refine wp_skip ?_
    refine wp_seq ?_
    refine wp_region_lit ?_
    refine op_newrow (cs := #[]) (size := 2) rfl rfl hF rfl S (run_buildSlice0 rfl Tryz.underlying26 (congrArg Option.isSome sz42)) rfl (Nat.zero_le _) ?_; clear hF S; intro a g102 u hF S
    refine op_val (v := .slice A0 x0.length c0) rfl rfl hF rfl (run_move rfl (hF.ev rfl)) ?_; clear hF; intro a hF
    have hk105 := hk
    refine op_appendL (lx := []) (ly := x0) rfl rfl hF rfl S rfl (hF.ev rfl) (hF.ev rfl) (i := 0) rfl rfl Tryz.underlying26 inf42 rfl (by decide) (S.rc0 h0.rc).rd rfl eBus_one hk105 (by decide) ?_; clear hF S; intro a B103 d104 u hF S
    refine op_val (v := .slice B103 ((([] : List (Int × Int)) ++ x0).length) d104) rfl rfl hF rfl (run_assign rfl (hF.ev rfl)) ?_; clear hF; intro a hF
    refine wpList_nil ?_
    refine wp_ret ?_
    repeat with_reducible (first | refine then_ret ?_ | refine in_ret ?_ | refine in_nrm ?_)
    refine ret1_gw (.inl rfl) hF rfl (res_tmp (hF.ev rfl)) ?_
    exact ⟨B103, ((([] : List (Int × Int)) ++ x0).length), d104, rfl, rfl, S.sel [0] rfl rfl⟩
  · have hx := nil_none h0.rc.rd rfl hc101
    refine cond_t hF rfl hc101 ?_
    refine wp_seq ?_
    refine wp_region_lit ?_
    refine op_val (v := .slice none 0 0) rfl rfl hF rfl (run_assign rfl rfl) ?_; clear hF; intro a hF
    refine wpList_nil ?_
    refine wp_ret ?_
    repeat with_reducible (first | refine then_ret ?_ | refine in_ret ?_ | refine in_nrm ?_)
    refine ret1_gw (.inl rfl) hF rfl (res_tmp (hF.ev rfl)) ?_
    subst hx
    replace S := S.nilrow 42 2
    exact ⟨none, 0, 0, rfl, rfl, S.sel [0] rfl rfl⟩
def k_slices_Clone_impl_Bus_impl_Bus : Ctr := ⟨93, [.o (.sl .ro 42 (.p (.int .i64) (.int .i64)))], [.o (.row 42 (.p (.int .i64) (.int .i64)))], false, fun x => m_slices_Clone_impl_Bus_impl_Bus x⟩
theorem d_slices_Clone_impl_Bus_impl_Bus : Cok Tryz.prog k_slices_Clone_impl_Bus_impl_Bus := ⟨co93, fun x res hm e w0 w X _ hp hS => by
  obtain ⟨v, vr, hv, ⟨l, hl, hro⟩, _⟩ := hp
  have hl := (List.head_eq_of_cons_eq hv).trans hl
  injection hl with _ hl
  subst hl
  refine (c_slices_Clone_impl_Bus_impl_Bus (A0 := e.a 0) (n0 := List.length x) (c0 := e.c 0) (w := w) ⟨hro w _ hS (fun y hy => List.mem_append_right _ hy), rfl⟩ hm).mono ?_
  rintro en w' ⟨B, N, D, rfl, hN, S⟩
  subst hN
  exact ⟨[_], [_], rfl, ⟨[_], [], [], [_], [], [], rfl, rfl, ⟨_, [], _, [], [_], [], rfl, rfl, rfl, ⟨res, B, D, rfl, rfl, rfl⟩, rfl, rfl, rfl⟩, ⟨rfl, rfl⟩, ⟨[], [], [], [], rfl, rfl, ⟨rfl, rfl⟩, ⟨rfl, rfl⟩⟩⟩, hS.call1 S⟩⟩
set_option maxHeartbeats 4000000 in
theorem c_slices_Clone_bool_bool {x0 : List Bool} {A0 : Option Addr} {n0 c0 : Nat} {w : World} {r : List Bool} (h0 : Rt w 1 eB A0 n0 c0 x0) (hM : m_slices_Clone_bool_bool x0 = some r) :
    Calls Tryz.prog 55 #[.slice A0 n0 c0] w (fun e w' => ∃ (B0 : Option Addr) (N0 D0 : Nat), e = .returned (.slice B0 N0 D0) ∧ N0 = r.length ∧ St w w' [.row 4 1 (.slice B0 N0 D0) N0 (r.flatMap eB)]) := by
  obtain rfl := h0.len
  unfold m_slices_Clone_bool_bool at hM
  obtain ⟨hk, hM⟩ := chk_ex hM
  replace hk := apB_t hk
  obtain rfl := Option.some.inj hM
  refine calls_gw Tryz.func55 Tryz.ntmps55 rfl [(0, .slice A0 x0.length c0)] ⟨rfl, trivial⟩ rfl ?_
  intro a hF
  have S := St.nil w
  refine wp_seq ?_
  refine wp_region_lit ?_
  refine op_val (v := .slice none 0 0) rfl rfl hF rfl (run_assign rfl rfl) ?_; clear hF; intro a hF
  refine wpList_nil ?_
  refine wp_seq ?_
  refine wp_seq ?_
  refine wp_region_lit ?_
  refine op_val (v := .slice A0 x0.length c0) rfl rfl hF rfl (run_move rfl (hF.ev rfl)) ?_; clear hF; intro a hF
  refine op_val (v := .bool (Option.isNone A0)) rfl rfl hF rfl (run_eqlNil rfl Tryz.underlying27 (hF.ev rfl) rfl) ?_; clear hF; intro a hF
  refine wpList_nil ?_
  cases hc101 : (Option.isNone A0)
  · have hx := trivial
    refine cond_f hF rfl hc101 ?_
    refine wp_skip ?_
    refine wp_seq ?_
    refine wp_region_lit ?_
    refine op_newrow (cs := #[]) (size := 1) rfl rfl hF rfl S (run_buildSlice0 rfl Tryz.underlying27 (congrArg Option.isSome sz4)) rfl (Nat.zero_le _) ?_; clear hF S; intro a g102 u hF S
    refine op_val (v := .slice A0 x0.length c0) rfl rfl hF rfl (run_move rfl (hF.ev rfl)) ?_; clear hF; intro a hF
    have hk105 := hk
    refine op_appendL (lx := []) (ly := x0) rfl rfl hF rfl S rfl (hF.ev rfl) (hF.ev rfl) (i := 0) rfl rfl Tryz.underlying27 inf4 rfl (by decide) (S.rc0 h0.rc).rd rfl eB_one hk105 (by decide) ?_; clear hF S; intro a B103 d104 u hF S
    refine op_val (v := .slice B103 ((([] : List Bool) ++ x0).length) d104) rfl rfl hF rfl (run_assign rfl (hF.ev rfl)) ?_; clear hF; intro a hF
    refine wpList_nil ?_
    refine wp_ret ?_
    repeat with_reducible (first | refine then_ret ?_ | refine in_ret ?_ | refine in_nrm ?_)
    refine ret1_gw (.inl rfl) hF rfl (res_tmp (hF.ev rfl)) ?_
    exact ⟨B103, ((([] : List Bool) ++ x0).length), d104, rfl, rfl, S.sel [0] rfl rfl⟩
  · have hx := nil_none h0.rc.rd rfl hc101
    refine cond_t hF rfl hc101 ?_
    refine wp_seq ?_
    refine wp_region_lit ?_
    refine op_val (v := .slice none 0 0) rfl rfl hF rfl (run_assign rfl rfl) ?_; clear hF; intro a hF
    refine wpList_nil ?_
    refine wp_ret ?_
    repeat with_reducible (first | refine then_ret ?_ | refine in_ret ?_ | refine in_nrm ?_)
    refine ret1_gw (.inl rfl) hF rfl (res_tmp (hF.ev rfl)) ?_
    subst hx
    replace S := S.nilrow 4 1
    exact ⟨none, 0, 0, rfl, rfl, S.sel [0] rfl rfl⟩
def k_slices_Clone_bool_bool : Ctr := ⟨55, [.o (.sl .ro 4 .b)], [.o (.row 4 .b)], false, fun x => m_slices_Clone_bool_bool x⟩
theorem d_slices_Clone_bool_bool : Cok Tryz.prog k_slices_Clone_bool_bool := ⟨co55, fun x res hm e w0 w X _ hp hS => by
  obtain ⟨v, vr, hv, ⟨l, hl, hro⟩, _⟩ := hp
  have hl := (List.head_eq_of_cons_eq hv).trans hl
  injection hl with _ hl
  subst hl
  refine (c_slices_Clone_bool_bool (A0 := e.a 0) (n0 := List.length x) (c0 := e.c 0) (w := w) ⟨hro w _ hS (fun y hy => List.mem_append_right _ hy), rfl⟩ hm).mono ?_
  rintro en w' ⟨B, N, D, rfl, hN, S⟩
  subst hN
  exact ⟨[_], [_], rfl, ⟨[_], [], [], [_], [], [], rfl, rfl, ⟨_, [], _, [], [_], [], rfl, rfl, rfl, ⟨res, B, D, rfl, rfl, rfl⟩, rfl, rfl, rfl⟩, ⟨rfl, rfl⟩, ⟨[], [], [], [], rfl, rfl, ⟨rfl, rfl⟩, ⟨rfl, rfl⟩⟩⟩, hS.call1 S⟩⟩
set_option maxHeartbeats 4000000 in
theorem c_slices_Clone_impl_Permit_impl_Permit {x0 : List (Int × Int)} {A0 : Option Addr} {n0 c0 : Nat} {w : World} {r : List (Int × Int)} (h0 : Rt w 2 ePermit A0 n0 c0 x0) (hM : m_slices_Clone_impl_Permit_impl_Permit x0 = some r) :
    Calls Tryz.prog 121 #[.slice A0 n0 c0] w (fun e w' => ∃ (B0 : Option Addr) (N0 D0 : Nat), e = .returned (.slice B0 N0 D0) ∧ N0 = r.length ∧ St w w' [.row 93 2 (.slice B0 N0 D0) N0 (r.flatMap ePermit)]) := by
  obtain rfl := h0.len
  unfold m_slices_Clone_impl_Permit_impl_Permit at hM
  obtain ⟨hk, hM⟩ := chk_ex hM
  replace hk := apB_t hk
  obtain rfl := Option.some.inj hM
  refine calls_gw Tryz.func121 Tryz.ntmps121 rfl [(0, .slice A0 x0.length c0)] ⟨rfl, trivial⟩ rfl ?_
  intro a hF
  have S := St.nil w
  refine wp_seq ?_
  refine wp_region_lit ?_
  refine op_val (v := .slice none 0 0) rfl rfl hF rfl (run_assign rfl rfl) ?_; clear hF; intro a hF
  refine wpList_nil ?_
  refine wp_seq ?_
  refine wp_seq ?_
  refine wp_region_lit ?_
  refine op_val (v := .slice A0 x0.length c0) rfl rfl hF rfl (run_move rfl (hF.ev rfl)) ?_; clear hF; intro a hF
  refine op_val (v := .bool (Option.isNone A0)) rfl rfl hF rfl (run_eqlNil rfl Tryz.underlying28 (hF.ev rfl) rfl) ?_; clear hF; intro a hF
  refine wpList_nil ?_
  cases hc101 : (Option.isNone A0)
  · have hx := trivial
    refine cond_f hF rfl hc101 ?_
    refine wp_skip ?_
    refine wp_seq ?_
    refine wp_region_lit ?_
    refine op_newrow (cs := #[]) (size := 2) rfl rfl hF rfl S (run_buildSlice0 rfl Tryz.underlying28 (congrArg Option.isSome sz93)) rfl (Nat.zero_le _) ?_; clear hF S; intro a g102 u hF S
    refine op_val (v := .slice A0 x0.length c0) rfl rfl hF rfl (run_move rfl (hF.ev rfl)) ?_; clear hF; intro a hF
    have hk105 := hk
    refine op_appendL (lx := []) (ly := x0) rfl rfl hF rfl S rfl (hF.ev rfl) (hF.ev rfl) (i := 0) rfl rfl Tryz.underlying28 inf93 rfl (by decide) (S.rc0 h0.rc).rd rfl ePermit_one hk105 (by decide) ?_; clear hF S; intro a B103 d104 u hF S
    refine op_val (v := .slice B103 ((([] : List (Int × Int)) ++ x0).length) d104) rfl rfl hF rfl (run_assign rfl (hF.ev rfl)) ?_; clear hF; intro a hF
    refine wpList_nil ?_
    refine wp_ret ?_
    repeat with_reducible (first | refine then_ret ?_ | refine in_ret ?_ | refine in_nrm ?_)
    refine ret1_gw (.inl rfl) hF rfl (res_tmp (hF.ev rfl)) ?_
    exact ⟨B103, ((([] : List (Int × Int)) ++ x0).length), d104, rfl, rfl, S.sel [0] rfl rfl⟩
  · have hx := nil_none h0.rc.rd rfl hc101
    refine cond_t hF rfl hc101 ?_
    refine wp_seq ?_
    refine wp_region_lit ?_
    refine op_val (v := .slice none 0 0) rfl rfl hF rfl (run_assign rfl rfl) ?_; clear hF; intro a hF
    refine wpList_nil ?_
    refine wp_ret ?_
    repeat with_reducible (first | refine then_ret ?_ | refine in_ret ?_ | refine in_nrm ?_)
    refine ret1_gw (.inl rfl) hF rfl (res_tmp (hF.ev rfl)) ?_
    subst hx
    replace S := S.nilrow 93 2
    exact ⟨none, 0, 0, rfl, rfl, S.sel [0] rfl rfl⟩
def k_slices_Clone_impl_Permit_impl_Permit : Ctr := ⟨121, [.o (.sl .ro 93 (.p (.int .i64) (.int .i64)))], [.o (.row 93 (.p (.int .i64) (.int .i64)))], false, fun x => m_slices_Clone_impl_Permit_impl_Permit x⟩
theorem d_slices_Clone_impl_Permit_impl_Permit : Cok Tryz.prog k_slices_Clone_impl_Permit_impl_Permit := ⟨co121, fun x res hm e w0 w X _ hp hS => by
  obtain ⟨v, vr, hv, ⟨l, hl, hro⟩, _⟩ := hp
  have hl := (List.head_eq_of_cons_eq hv).trans hl
  injection hl with _ hl
  subst hl
  refine (c_slices_Clone_impl_Permit_impl_Permit (A0 := e.a 0) (n0 := List.length x) (c0 := e.c 0) (w := w) ⟨hro w _ hS (fun y hy => List.mem_append_right _ hy), rfl⟩ hm).mono ?_
  rintro en w' ⟨B, N, D, rfl, hN, S⟩
  subst hN
  exact ⟨[_], [_], rfl, ⟨[_], [], [], [_], [], [], rfl, rfl, ⟨_, [], _, [], [_], [], rfl, rfl, rfl, ⟨res, B, D, rfl, rfl, rfl⟩, rfl, rfl, rfl⟩, ⟨rfl, rfl⟩, ⟨[], [], [], [], rfl, rfl, ⟨rfl, rfl⟩, ⟨rfl, rfl⟩⟩⟩, hS.call1 S⟩⟩
def k_impl_Work_clone : Ctr := ⟨94, [.g [.sl .ro 4 .b, .sl .ro 4 .b, .sl .ro 93 (.p (.int .i64) (.int .i64))]], [.g [.row 4 .b, .row 4 .b, .row 93 (.p (.int .i64) (.int .i64))]], false, fun x => m_impl_Work_clone x.1 x.2.1 x.2.2⟩
theorem d_impl_Work_clone : Cok Tryz.prog k_impl_Work_clone := cok (op := opn) (cs := [k_slices_Clone_bool_bool, k_slices_Clone_impl_Permit_impl_Permit]) (rv := [.cell 2 30]) (crt := .q .z (.q .z .z)) tys_ok eqt_ok rfl ⟨d_slices_Clone_bool_bool, d_slices_Clone_impl_Permit_impl_Permit, trivial⟩ opn_ok co94 Tryz.func94 rfl Tryz.ntmps94 rfl rfl (fun _ => by kernel_rfl)
set_option maxHeartbeats 4000000 in
theorem c_slices_Clone_int_int {x0 : List Int} {A0 : Option Addr} {n0 c0 : Nat} {w : World} {r : List Int} (h0 : Rt w 1 eI A0 n0 c0 x0) (hM : m_slices_Clone_int_int x0 = some r) :
    Calls Tryz.prog 95 #[.slice A0 n0 c0] w (fun e w' => ∃ (B0 : Option Addr) (N0 D0 : Nat), e = .returned (.slice B0 N0 D0) ∧ N0 = r.length ∧ St w w' [.row 3 1 (.slice B0 N0 D0) N0 (r.flatMap eI)]) := by
  obtain rfl := h0.len
  unfold m_slices_Clone_int_int at hM
  obtain ⟨hk, hM⟩ := chk_ex hM
  replace hk := apB_t hk
  obtain rfl := Option.some.inj hM
  refine calls_gw Tryz.func95 Tryz.ntmps95 rfl [(0, .slice A0 x0.length c0)] ⟨rfl, trivial⟩ rfl ?_
  intro a hF
  have S := St.nil w
  refine wp_seq ?_
  refine wp_region_lit ?_
  refine op_val (v := .slice none 0 0) rfl rfl hF rfl (run_assign rfl rfl) ?_; clear hF; intro a hF
  refine wpList_nil ?_
  refine wp_seq ?_
  refine wp_seq ?_
  refine wp_region_lit ?_
  refine op_val (v := .slice A0 x0.length c0) rfl rfl hF rfl (run_move rfl (hF.ev rfl)) ?_; clear hF; intro a hF
  refine op_val (v := .bool (Option.isNone A0)) rfl rfl hF rfl (run_eqlNil rfl Tryz.underlying31 (hF.ev rfl) rfl) ?_; clear hF; intro a hF
  refine wpList_nil ?_
  cases hc101 : (Option.isNone A0)
  · have hx := trivial
    refine cond_f hF rfl hc101 ?_
    refine wp_skip ?_
    refine wp_seq ?_
    refine wp_region_lit ?_
    refine op_newrow (cs := #[]) (size := 1) rfl rfl hF rfl S (run_buildSlice0 rfl Tryz.underlying31 (congrArg Option.isSome sz3)) rfl (Nat.zero_le _) ?_; clear hF S; intro a g102 u hF S
    refine op_val (v := .slice A0 x0.length c0) rfl rfl hF rfl (run_move rfl (hF.ev rfl)) ?_; clear hF; intro a hF
    have hk105 := hk
    refine op_appendL (lx := []) (ly := x0) rfl rfl hF rfl S rfl (hF.ev rfl) (hF.ev rfl) (i := 0) rfl rfl Tryz.underlying31 inf3 rfl (by decide) (S.rc0 h0.rc).rd rfl eI_one hk105 (by decide) ?_; clear hF S; intro a B103 d104 u hF S
    refine op_val (v := .slice B103 ((([] : List Int) ++ x0).length) d104) rfl rfl hF rfl (run_assign rfl (hF.ev rfl)) ?_; clear hF; intro a hF
    refine wpList_nil ?_
    refine wp_ret ?_
    repeat with_reducible (first | refine then_ret ?_ | refine in_ret ?_ | refine in_nrm ?_)
    refine ret1_gw (.inl rfl) hF rfl (res_tmp (hF.ev rfl)) ?_
    exact ⟨B103, ((([] : List Int) ++ x0).length), d104, rfl, rfl, S.sel [0] rfl rfl⟩
  · have hx := nil_none h0.rc.rd rfl hc101
    refine cond_t hF rfl hc101 ?_
    refine wp_seq ?_
    refine wp_region_lit ?_
    refine op_val (v := .slice none 0 0) rfl rfl hF rfl (run_assign rfl rfl) ?_; clear hF; intro a hF
    refine wpList_nil ?_
    refine wp_ret ?_
    repeat with_reducible (first | refine then_ret ?_ | refine in_ret ?_ | refine in_nrm ?_)
    refine ret1_gw (.inl rfl) hF rfl (res_tmp (hF.ev rfl)) ?_
    subst hx
    replace S := S.nilrow 3 1
    exact ⟨none, 0, 0, rfl, rfl, S.sel [0] rfl rfl⟩
def k_slices_Clone_int_int : Ctr := ⟨95, [.o (.sl .ro 3 (.int .i64))], [.o (.row 3 (.int .i64))], false, fun x => m_slices_Clone_int_int x⟩
theorem d_slices_Clone_int_int : Cok Tryz.prog k_slices_Clone_int_int := ⟨co95, fun x res hm e w0 w X _ hp hS => by
  obtain ⟨v, vr, hv, ⟨l, hl, hro⟩, _⟩ := hp
  have hl := (List.head_eq_of_cons_eq hv).trans hl
  injection hl with _ hl
  subst hl
  refine (c_slices_Clone_int_int (A0 := e.a 0) (n0 := List.length x) (c0 := e.c 0) (w := w) ⟨hro w _ hS (fun y hy => List.mem_append_right _ hy), rfl⟩ hm).mono ?_
  rintro en w' ⟨B, N, D, rfl, hN, S⟩
  subst hN
  exact ⟨[_], [_], rfl, ⟨[_], [], [], [_], [], [], rfl, rfl, ⟨_, [], _, [], [_], [], rfl, rfl, rfl, ⟨res, B, D, rfl, rfl, rfl⟩, rfl, rfl, rfl⟩, ⟨rfl, rfl⟩, ⟨[], [], [], [], rfl, rfl, ⟨rfl, rfl⟩, ⟨rfl, rfl⟩⟩⟩, hS.call1 S⟩⟩
def k_impl_World_clone : Ctr := ⟨51, [.g [.int .i64, .sl .ro 71 (.p (.int .i64) (.p (.int .i64) (.int .i64))), .sl .ro 42 (.p (.int .i64) (.int .i64)), .sl .ro 4 .b, .sl .ro 4 .b, .sl .ro 93 (.p (.int .i64) (.int .i64)), .sl .ro 3 (.int .i64)]], [.g [.int .i64, .row 71 (.p (.int .i64) (.p (.int .i64) (.int .i64))), .row 42 (.p (.int .i64) (.int .i64)), .row 4 .b, .row 4 .b, .row 93 (.p (.int .i64) (.int .i64)), .row 3 (.int .i64)]], false, fun x => m_impl_World_clone x.1 x.2.1 x.2.2.1 x.2.2.2.1 x.2.2.2.2.1 x.2.2.2.2.2.1 x.2.2.2.2.2.2⟩
theorem d_impl_World_clone : Cok Tryz.prog k_impl_World_clone := cok (op := opn) (cs := [k_slices_Clone_impl_Line_impl_Line, k_slices_Clone_impl_Bus_impl_Bus, k_impl_Work_clone, k_slices_Clone_int_int]) (rv := [.cell 2 33]) (crt := .q .z (.q .z .z)) tys_ok eqt_ok rfl ⟨d_slices_Clone_impl_Line_impl_Line, d_slices_Clone_impl_Bus_impl_Bus, d_impl_Work_clone, d_slices_Clone_int_int, trivial⟩ opn_ok co51 Tryz.func51 rfl Tryz.ntmps51 rfl rfl (fun _ => by kernel_rfl)
def k_cmp_isNaN_int : Ctr := ⟨142, [.o (.int .i64)], [.o .b], false, fun x => m_cmp_isNaN_int x⟩
theorem d_cmp_isNaN_int : Cok Tryz.prog k_cmp_isNaN_int := cok (op := opn) (cs := []) (rv := [.tmp 2]) (crt := .q .z (.q .z .z)) tys_ok eqt_ok rfl trivial opn_ok co142 Tryz.func142 rfl Tryz.ntmps142 rfl rfl (fun _ => by kernel_rfl)
def k_cmp_Less_int : Ctr := ⟨122, [.o (.int .i64), .o (.int .i64)], [.o .b], false, fun x => m_cmp_Less_int x.1 x.2⟩
theorem d_cmp_Less_int : Cok Tryz.prog k_cmp_Less_int := cok (op := opn) (cs := [k_cmp_isNaN_int]) (rv := [.tmp 4]) (crt := .q .z (.q .z .z)) tys_ok eqt_ok rfl ⟨d_cmp_isNaN_int, trivial⟩ opn_ok co122 Tryz.func122 rfl Tryz.ntmps122 rfl rfl (fun _ => by kernel_rfl)
def k_slices_isNaN_int : Ctr := ⟨123, [.o (.int .i64)], [.o .b], false, fun x => m_slices_isNaN_int x⟩
theorem d_slices_isNaN_int : Cok Tryz.prog k_slices_isNaN_int := cok (op := opn) (cs := []) (rv := [.tmp 2]) (crt := .q .z (.q .z .z)) tys_ok eqt_ok rfl trivial opn_ok co123 Tryz.func123 rfl Tryz.ntmps123 rfl rfl (fun _ => by kernel_rfl)
def m_slices_BinarySearch_int_int_l1s (x0 : List Int) (x1 : Int) (rec : (Int × Int) → Option (Int)) (p104 : (Int × Int)) : Option (Int) := (bif ltB p104.1 p104.2 then chk (ixB (w64 (bitsShr .u64 (wk .u64 (w64 (p104.1 + p104.2))) 1)) x0.length) (Option.bind (m_cmp_Less_int (x0.getD ((w64 (bitsShr .u64 (wk .u64 (w64 (p104.1 + p104.2))) 1)).toNat) (0 : Int)) x1) (fun (p107 : Bool) => Option.bind (bif p107 then some (w64 ((w64 (bitsShr .u64 (wk .u64 (w64 (p104.1 + p104.2))) 1)) + 1), p104.2) else some (p104.1, w64 (bitsShr .u64 (wk .u64 (w64 (p104.1 + p104.2))) 1))) (fun (p108 : Int × Int) => rec (p108.1, p108.2)))) else some p104.1)
def m_slices_BinarySearch_int_int_l1i (x0 : List Int) (x1 : Int) : Nat → (Int × Int) → Option (Int) := itr (m_slices_BinarySearch_int_int_l1s x0 x1)
theorem q_m_slices_BinarySearch_int_int_l1 : @m_slices_BinarySearch_int_int_l1 = @m_slices_BinarySearch_int_int_l1i := by
  funext x0 x1 n
  induction n with
  | zero => rfl
  | succ n ih =>
    funext p
    show _ = m_slices_BinarySearch_int_int_l1s x0 x1 (m_slices_BinarySearch_int_int_l1i x0 x1 n) p
    rw [← ih]
    rfl
def m_slices_BinarySearch_int_inti (x0 : List Int) (x1 : Int) : Option (Int × Bool) := Option.bind (m_slices_BinarySearch_int_int_l1i x0 x1 FUEL (0, (x0.length : Int))) (fun (p101 : Int) => chk (!(ltB p101 (x0.length : Int)) || ixB p101 x0.length) (chk (!((ltB p101 (x0.length : Int)) && (!((x0.getD p101.toNat (0 : Int)) == x1))) || ixB p101 x0.length) (Option.bind (gb ((ltB p101 (x0.length : Int)) && (!((x0.getD p101.toNat (0 : Int)) == x1))) (m_slices_isNaN_int (x0.getD p101.toNat (0 : Int)))) (fun (p114 : Bool) => Option.bind (gb (((ltB p101 (x0.length : Int)) && (!((x0.getD p101.toNat (0 : Int)) == x1))) && p114) (m_slices_isNaN_int x1)) (fun (p115 : Bool) => some (p101, (ltB p101 (x0.length : Int)) && (((x0.getD p101.toNat (0 : Int)) == x1) || (p114 && p115))))))))
theorem q_m_slices_BinarySearch_int_int : @m_slices_BinarySearch_int_int = @m_slices_BinarySearch_int_inti := by
  funext x0 x1
  unfold m_slices_BinarySearch_int_inti
  rw [← q_m_slices_BinarySearch_int_int_l1]
  rfl
def k_slices_BinarySearch_int_int : Ctr := ⟨96, [.o (.sl .ro 3 (.int .i64)), .o (.int .i64)], [.o (.int .i64), .o .b], false, fun x => m_slices_BinarySearch_int_int x.1 x.2⟩
theorem d_slices_BinarySearch_int_int : Cok Tryz.prog k_slices_BinarySearch_int_int := cok (op := opn) (cs := [k_cmp_Less_int, k_slices_isNaN_int]) (rv := [.tmp 4, .tmp 5]) (crt := .q .z (.q .z (.q .z (.q (.cut ⟨[(0, .o .k), (1, .o .k), (4, .o .k), (5, .o .k), (6, .o .k), (7, .o (.i .i64))], [], []⟩ [] (.b (.lp ⟨[(0, .o .k), (1, .o .k), (4, .o .k), (5, .o .k), (6, .o .k), (7, .o (.i .i64)), (8, .o (.i .i64))], [], []⟩ (.q (.q .z (.q .z .z)) (.b (.q .z (.q .z (.cut ⟨[(0, .o .k), (1, .o .k), (4, .o .k), (5, .o .k), (6, .o .k), (7, .o (.i .i64)), (8, .o (.i .i64))], [], []⟩ [] (.q .z .z))))))))) (.q .z .z))))) tys_ok eqt_ok rfl ⟨d_cmp_Less_int, d_slices_isNaN_int, trivial⟩ opn_ok co96 Tryz.func96 rfl Tryz.ntmps96 rfl rfl (fun x => by
  show m_slices_BinarySearch_int_int x.1 x.2 = _
  rw [q_m_slices_BinarySearch_int_int]
  kernel_rfl)
set_option maxHeartbeats 4000000 in
theorem c_slices_Delete_int_int {x0 : List Int} {x1 : Int} {x2 : Int} {A0 : Option Addr} {n0 c0 : Nat} {w : World} {r : List Int} {w0 : World} {X : List Asn} (h0 : n0 = x0.length) (S : St w0 w (Asn.row 3 1 (.slice A0 n0 c0) n0 (x0.flatMap eI) :: X)) (hM : m_slices_Delete_int_int x0 x1 x2 = some r) :
    Calls Tryz.prog 99 #[.slice A0 n0 c0, .int .i64 x1, .int .i64 x2] w (fun e w' => ∃ (B0 : Option Addr) (N0 D0 : Nat), e = .returned (.slice B0 N0 D0) ∧ N0 = r.length ∧ St w0 w' (Asn.row 3 1 (.slice B0 N0 D0) N0 (r.flatMap eI) :: X)) := by
  obtain rfl := h0
  unfold m_slices_Delete_int_int at hM
  refine calls_gw Tryz.func99 Tryz.ntmps99 rfl [(0, .slice A0 x0.length c0), (1, .int .i64 x1), (2, .int .i64 x2)] ⟨rfl, rfl, rfl, trivial⟩ rfl ?_
  intro a hF
  refine wp_seq ?_
  refine wp_region_lit ?_
  refine op_val (v := .slice none 0 0) rfl rfl hF rfl (run_assign rfl rfl) ?_; clear hF; intro a hF
  refine wpList_nil ?_
  refine wp_seq ?_
  refine wp_region_lit ?_
  refine op_val (v := .slice A0 x0.length c0) rfl rfl hF rfl (run_move rfl (hF.ev rfl)) ?_; clear hF; intro a hF
  refine op_val (v := .int .i64 x1) rfl rfl hF rfl (run_move rfl (hF.ev rfl)) ?_; clear hF; intro a hF
  refine op_val (v := .int .i64 x2) rfl rfl hF rfl (run_move rfl (hF.ev rfl)) ?_; clear hF; intro a hF
  refine op_val (v := .slice A0 x0.length c0) rfl rfl hF rfl (run_move rfl (hF.ev rfl)) ?_; clear hF; intro a hF
  refine op_val (v := .int .i64 (x0.length : Int)) rfl rfl hF rfl (run_lenL rfl rfl Tryz.underlying31 (hF.ev rfl)) ?_; clear hF; intro a hF
  obtain ⟨hk101, hM⟩ := chk_ex hM
  replace hk101 := slB_t hk101
  refine op_val (v := .slice (subA ((x0.length : Int).toNat) x1.toNat 1 A0) (x2.toNat - x1.toNat) ((x0.length : Int).toNat - x1.toNat)) rfl rfl hF rfl (run_slice3 rfl Tryz.underlying31 sz3 (hF.ev rfl) (hF.ev rfl) (hF.ev rfl) (hF.ev rfl) hk101 (Int.ofNat_le.2 (S.rc 0 rfl).cap)) ?_; clear hF; intro a hF
  refine wpList_nil ?_
  refine wp_seq ?_
  refine wp_seq ?_
  refine wp_region_lit ?_
  refine op_val (v := .int .i64 x1) rfl rfl hF rfl (run_move rfl (hF.ev rfl)) ?_; clear hF; intro a hF
  refine op_val (v := .int .i64 x2) rfl rfl hF rfl (run_move rfl (hF.ev rfl)) ?_; clear hF; intro a hF
  refine op_val (v := .bool (x1 == x2)) rfl rfl hF rfl (run_eql (hF.ev rfl) (hF.ev rfl) rfl) ?_; clear hF; intro a hF
  refine wpList_nil ?_
  cases hc102 : (x1 == x2)
  · replace hM := bif_f hc102 hM
    refine cond_f hF rfl hc102 ?_
    refine wp_skip ?_
    refine wp_seq ?_
    refine wp_region_lit ?_
    refine op_val (v := .slice A0 x0.length c0) rfl rfl hF rfl (run_move rfl (hF.ev rfl)) ?_; clear hF; intro a hF
    refine op_val (v := .int .i64 (x0.length : Int)) rfl rfl hF rfl (run_lenL rfl rfl Tryz.underlying31 (hF.ev rfl)) ?_; clear hF; intro a hF
    refine op_val (v := .int .i64 (x0.length : Int)) rfl rfl hF rfl (run_assign rfl (hF.ev rfl)) ?_; clear hF; intro a hF
    refine wpList_nil ?_
    refine wp_seq ?_
    obtain ⟨hk103, hM⟩ := chk_ex hM
    replace hk103 := slB_t hk103
    obtain ⟨hk104, hM⟩ := chk_ex hM
    replace hk104 := slB_t hk104
    obtain ⟨hk105, hM⟩ := chk_ex hM
    replace hk105 := apB_t hk105
    have hp106 := (S.rc 0 rfl).cap
    have hq107 := del_len (l := x0) (p := x1) (q := x2) rfl (by omega)
    refine region_gw (D := [20, 21, 22, 23, 24, 25, 26, 0]) (Lr := (X)) (deps := (fun | 0 => [20] | 1 => [21] | 2 => [22] | 3 => [23] | 4 => [24] | 5 => [25] | 6 => [26] | 7 => [0] | _ => [])) (rd := (fun _ => [])) (zr := (fun | 2 => [6] | 5 => [6] | _ => []))
      (φ := fun i vs => match i, vs with | 0, [v20] => v20 = .slice A0 x0.length c0 | 1, [v21] => v21 = .int .i64 x1 | 2, [v22] => v22 = .slice (subA c0 ((0 : Int).toNat) 1 A0) ((subL x0 0 x1).length) (c0 - (0 : Int).toNat) | 3, [v23] => v23 = .slice A0 x0.length c0 | 4, [v24] => v24 = .int .i64 x2 | 5, [v25] => v25 = .slice (subA c0 x2.toNat 1 A0) ((subL x0 x2 (x0.length : Int)).length) (c0 - x2.toNat) | 6, [v26] => v26 = .slice A0 (((subL x0 0 x1) ++ (subL x0 x2 (x0.length : Int))).length) c0 | 7, [v0] => v0 = .slice A0 (((subL x0 0 x1) ++ (subL x0 x2 (x0.length : Int))).length) c0 | _, _ => True)
      (C := fun i vs => match i, vs with | 6, [v26] => [.row 3 1 (.slice A0 (((subL x0 0 x1) ++ (subL x0 x2 (x0.length : Int))).length) c0) (((subL x0 0 x1) ++ (subL x0 x2 (x0.length : Int))).length) (((subL x0 0 x1) ++ (subL x0 x2 (x0.length : Int))).flatMap eI)] | _, _ => [])
      (κ := (fun _ => none)) (Z := (fun | 6 => [.row 3 1 (.slice A0 x0.length c0) x0.length (x0.flatMap eI)] | _ => [])) mixed hF (by kernel_rfl) (show St w0 _ (Asn.row 3 1 (.slice A0 x0.length c0) x0.length (x0.flatMap eI) :: X) from S.selT (M := [.row 3 1 (.slice A0 x0.length c0) x0.length (x0.flatMap eI)]) 1 [0] rfl rfl rfl) ?_ ?_
    · refine ⟨?_, ?_, ?_, ?_, ?_, ?_, ?_, ?_, trivial⟩
      · intro a u X' hB hu hp hr hz hl S
        replace S : St w0 u ([] ++ X') := S
        exact .inl ⟨rfl, .slice A0 x0.length c0, u, (run_move rfl (hF.evU (hu 7 0 rfl rfl) rfl)), rfl, S⟩
      · intro a u X' hB hu hp hr hz hl S
        replace S : St w0 u ([] ++ X') := S
        exact .inl ⟨rfl, .int .i64 x1, u, (run_move rfl (hF.evB hB rfl rfl)), rfl, S⟩
      · intro a u X' hB hu hp hr hz hl S
        replace S : St w0 u ([] ++ X') := S
        have e20 : sl a 20 = .slice A0 x0.length c0 := hp 0 rfl
        have e21 : sl a 21 = .int .i64 x1 := hp 1 rfl
        exact .inl ⟨rfl, .slice (subA c0 ((0 : Int).toNat) 1 A0) ((subL x0 0 x1).length) (c0 - (0 : Int).toNat), u, (run_sliceH (l := x0) rfl Tryz.underlying31 sz3 (ev_sl e20) (ev_sl e21) hk103 rfl (own_rc (show Ow _ _ _ _ _ _ from S.mem (List.mem_append_right _ (hz 6 (List.mem_of_getElem? (i := 0) rfl) _ (List.mem_of_getElem? (i := 0) rfl))))).cap), rfl, S⟩
      · intro a u X' hB hu hp hr hz hl S
        replace S : St w0 u ([] ++ X') := S
        exact .inl ⟨rfl, .slice A0 x0.length c0, u, (run_move rfl (hF.evU (hu 7 0 rfl rfl) rfl)), rfl, S⟩
      · intro a u X' hB hu hp hr hz hl S
        replace S : St w0 u ([] ++ X') := S
        exact .inl ⟨rfl, .int .i64 x2, u, (run_move rfl (hF.evB hB rfl rfl)), rfl, S⟩
      · intro a u X' hB hu hp hr hz hl S
        replace S : St w0 u ([] ++ X') := S
        have e23 : sl a 23 = .slice A0 x0.length c0 := hp 3 rfl
        have e24 : sl a 24 = .int .i64 x2 := hp 4 rfl
        exact .inl ⟨rfl, .slice (subA c0 x2.toNat 1 A0) ((subL x0 x2 (x0.length : Int)).length) (c0 - x2.toNat), u, (run_slicefrom (l := x0) rfl Tryz.underlying31 sz3 (ev_sl e23) (ev_sl e24) hk104 rfl (own_rc (show Ow _ _ _ _ _ _ from S.mem (List.mem_append_right _ (hz 6 (List.mem_of_getElem? (i := 0) rfl) _ (List.mem_of_getElem? (i := 0) rfl))))).cap), rfl, S⟩
      · intro a u X' hB hu hp hr hz hl S
        replace S : St w0 u ([.row 3 1 (.slice A0 x0.length c0) x0.length (x0.flatMap eI)] ++ X') := S
        have e22 : sl a 22 = .slice (subA c0 ((0 : Int).toNat) 1 A0) ((subL x0 0 x1).length) (c0 - (0 : Int).toNat) := hp 2 rfl
        have e25 : sl a 25 = .slice (subA c0 x2.toNat 1 A0) ((subL x0 x2 (x0.length : Int)).length) (c0 - x2.toNat) := hp 5 rfl
        obtain ⟨w', hrun, S'⟩ := S.delrow (i := 0) (P := Tryz.prog) (ty := 31) (p := x1) (q := x2) rfl rfl eI_len eI_one Tryz.underlying31 sz3 (by omega) (by omega) (by omega)
        exact .inl ⟨rfl, _, w', run_append rfl (ev_sl e22) (ev_sl e25) hrun, rfl, S'⟩
      · intro a u X' hB hu hp hr hz hl S
        replace S : St w0 u ([] ++ X') := S
        have e26 : sl a 26 = .slice A0 (((subL x0 0 x1) ++ (subL x0 x2 (x0.length : Int))).length) c0 := hp 6 rfl
        exact .inl ⟨rfl, .slice A0 (((subL x0 0 x1) ++ (subL x0 x2 (x0.length : Int))).length) c0, u, (run_assign rfl (ev_sl e26)), rfl, S⟩
    · intro a u hB hp S
      obtain ⟨q0, q1, q2, q3, q4, q5, q6, q7, _⟩ := hp
      have e20 : sl a 20 = .slice A0 x0.length c0 := q0
      have e21 : sl a 21 = .int .i64 x1 := q1
      have e22 : sl a 22 = .slice (subA c0 ((0 : Int).toNat) 1 A0) ((subL x0 0 x1).length) (c0 - (0 : Int).toNat) := q2
      have e23 : sl a 23 = .slice A0 x0.length c0 := q3
      have e24 : sl a 24 = .int .i64 x2 := q4
      have e25 : sl a 25 = .slice (subA c0 x2.toNat 1 A0) ((subL x0 x2 (x0.length : Int)).length) (c0 - x2.toNat) := q5
      have e26 : sl a 26 = .slice A0 (((subL x0 0 x1) ++ (subL x0 x2 (x0.length : Int))).length) c0 := q6
      have e0 : sl a 0 = .slice A0 (((subL x0 0 x1) ++ (subL x0 x2 (x0.length : Int))).length) c0 := q7
      replace S : St w0 u (Asn.row 3 1 (.slice A0 (((subL x0 0 x1) ++ (subL x0 x2 (x0.length : Int))).length) c0) (((subL x0 0 x1) ++ (subL x0 x2 (x0.length : Int))).length) (((subL x0 0 x1) ++ (subL x0 x2 (x0.length : Int))).flatMap eI) :: X) := S
      clear q0 q1 q2 q3 q4 q5 q6 q7
      have hF := hF.region hB [(20, .slice A0 x0.length c0), (21, .int .i64 x1), (22, .slice (subA c0 ((0 : Int).toNat) 1 A0) ((subL x0 0 x1).length) (c0 - (0 : Int).toNat)), (23, .slice A0 x0.length c0), (24, .int .i64 x2), (25, .slice (subA c0 x2.toNat 1 A0) ((subL x0 x2 (x0.length : Int)).length) (c0 - x2.toNat)), (26, .slice A0 (((subL x0 0 x1) ++ (subL x0 x2 (x0.length : Int))).length) c0), (0, .slice A0 (((subL x0 0 x1) ++ (subL x0 x2 (x0.length : Int))).length) c0)] (allSl_mem ⟨e20, e21, e22, e23, e24, e25, e26, e0, trivial⟩) rfl
      clear hB e20 e21 e22 e23 e24 e25 e26 e0
      refine wp_seq ?_
      refine wp_region_lit ?_
      refine op_val (v := .slice A0 (((subL x0 0 x1) ++ (subL x0 x2 (x0.length : Int))).length) c0) rfl rfl hF rfl (run_move rfl (hF.ev rfl)) ?_; clear hF; intro a hF
      refine op_val (v := .slice A0 (((subL x0 0 x1) ++ (subL x0 x2 (x0.length : Int))).length) c0) rfl rfl hF rfl (run_move rfl (hF.ev rfl)) ?_; clear hF; intro a hF
      refine op_val (v := .int .i64 ((((subL x0 0 x1) ++ (subL x0 x2 (x0.length : Int))).length) : Int)) rfl rfl hF rfl (run_lenL rfl rfl Tryz.underlying31 (hF.ev rfl)) ?_; clear hF; intro a hF
      refine op_val (v := .int .i64 (x0.length : Int)) rfl rfl hF rfl (run_move rfl (hF.ev rfl)) ?_; clear hF; intro a hF
      refine op_val (v := .slice (subA c0 (((((subL x0 0 x1) ++ (subL x0 x2 (x0.length : Int))).length) : Int).toNat) 1 A0) ((x0.length : Int).toNat - ((((subL x0 0 x1) ++ (subL x0 x2 (x0.length : Int))).length) : Int).toNat) (c0 - ((((subL x0 0 x1) ++ (subL x0 x2 (x0.length : Int))).length) : Int).toNat)) rfl rfl hF rfl (run_slicebey rfl Tryz.underlying31 sz3 (hF.ev rfl) (hF.ev rfl) (hF.ev rfl) ⟨Int.natCast_nonneg _, Int.ofNat_le.2 hq107, Int.ofNat_le.2 hp106⟩) ?_; clear hF; intro a hF
      obtain ⟨w', hrun, S'⟩ := S.clear (i := 0) (P := Tryz.prog) (hi := (x0.length : Int)) rfl rfl eI_len Tryz.underlying31 inf3 rfl rfl ⟨Int.ofNat_le.2 hq107, Int.ofNat_le.2 hp106⟩
      refine op_builtin0 rfl rfl rfl (hF.ev rfl) hrun ?_
      clear S hrun; have S := S'; clear S'; generalize w' = u at S ⊢
      refine wpList_nil ?_
      refine wp_seq ?_
      refine wp_region_lit ?_
      refine op_val (v := .slice A0 (((subL x0 0 x1) ++ (subL x0 x2 (x0.length : Int))).length) c0) rfl rfl hF rfl (run_move rfl (hF.ev rfl)) ?_; clear hF; intro a hF
      refine op_val (v := .slice A0 (((subL x0 0 x1) ++ (subL x0 x2 (x0.length : Int))).length) c0) rfl rfl hF rfl (run_assign rfl (hF.ev rfl)) ?_; clear hF; intro a hF
      refine wpList_nil ?_
      refine wp_ret ?_
      repeat with_reducible (first | refine then_ret ?_ | refine in_ret ?_ | refine in_nrm ?_)
      refine ret1_gw (.inl rfl) hF rfl (res_tmp (hF.ev rfl)) ?_
      obtain rfl := Option.some.inj hM
      exact ⟨A0, (((subL x0 0 x1) ++ (subL x0 x2 (x0.length : Int))).length), c0, rfl, rfl, S.selT (M := [.row 3 1 (.slice A0 (((subL x0 0 x1) ++ (subL x0 x2 (x0.length : Int))).length) c0) (((subL x0 0 x1) ++ (subL x0 x2 (x0.length : Int))).length) (((subL x0 0 x1) ++ (subL x0 x2 (x0.length : Int))).flatMap eI)]) 1 [0] rfl rfl rfl⟩
  · replace hM := bif_t hc102 hM
    refine cond_t hF rfl hc102 ?_
    refine wp_seq ?_
    refine wp_region_lit ?_
    refine op_val (v := .slice A0 x0.length c0) rfl rfl hF rfl (run_move rfl (hF.ev rfl)) ?_; clear hF; intro a hF
    refine op_val (v := .slice A0 x0.length c0) rfl rfl hF rfl (run_assign rfl (hF.ev rfl)) ?_; clear hF; intro a hF
    refine wpList_nil ?_
    refine wp_ret ?_
    repeat with_reducible (first | refine then_ret ?_ | refine in_ret ?_ | refine in_nrm ?_)
    refine ret1_gw (.inl rfl) hF rfl (res_tmp (hF.ev rfl)) ?_
    obtain rfl := Option.some.inj hM
    exact ⟨A0, x0.length, c0, rfl, rfl, S.selT (M := [.row 3 1 (.slice A0 x0.length c0) x0.length (x0.flatMap eI)]) 1 [0] rfl rfl rfl⟩
def k_slices_Delete_int_int : Ctr := ⟨99, [.o (.sl .tk 3 (.int .i64)), .o (.int .i64), .o (.int .i64)], [.o (.row 3 (.int .i64))], true, fun x => m_slices_Delete_int_int x.1 x.2.1 x.2.2⟩
theorem d_slices_Delete_int_int : Cok Tryz.prog k_slices_Delete_int_int := ⟨co99, fun x res hm e w0 w X _ hp hS => (c_slices_Delete_int_int (w := w) (w0 := w0) (X := X) (A0 := e.a 0) (n0 := x.1.length) (c0 := e.c 0) rfl hS hm).mono (by
  rintro en w' ⟨B, N, D, rfl, hN, S⟩
  subst hN
  exact ⟨_, _, rfl, ⟨[_], [], [], [_], [], [], rfl, rfl, ⟨_, [], _, [], [_], [], rfl, rfl, rfl, ⟨res, B, D, rfl, rfl, rfl⟩, rfl, rfl, rfl⟩, ⟨rfl, rfl⟩, ⟨[], [], [], [], rfl, rfl, ⟨rfl, rfl⟩, ⟨[], [], [], [], rfl, rfl, ⟨rfl, rfl⟩, ⟨[], [], [], [], rfl, rfl, ⟨rfl, rfl⟩, ⟨rfl, rfl⟩⟩⟩⟩⟩, S⟩)⟩
set_option maxHeartbeats 4000000 in
theorem c_slices_Insert_int_int {x0 : List Int} {x1 : Int} {x2 : List Int} {A0 : Option Addr} {n0 c0 : Nat} {A2 : Option Addr} {n2 c2 : Nat} {w : World} {r : List Int} {w0 : World} {X : List Asn} (h0 : n0 = x0.length) (h2 : n2 = x2.length) (S : St w0 w (Asn.row 3 1 (.slice A0 n0 c0) n0 (x0.flatMap eI) :: Asn.row 3 1 (.slice A2 n2 c2) n2 (x2.flatMap eI) :: X)) (hM : m_slices_Insert_int_int x0 x1 x2 = some r) :
    Calls Tryz.prog 97 #[.slice A0 n0 c0, .int .i64 x1, .slice A2 n2 c2] w (fun e w' => ∃ (B0 : Option Addr) (N0 D0 : Nat), e = .returned (.slice B0 N0 D0) ∧ N0 = r.length ∧ St w0 w' (Asn.row 3 1 (.slice B0 N0 D0) N0 (r.flatMap eI) :: X)) := by
  obtain rfl := h0
  obtain rfl := h2
  unfold m_slices_Insert_int_int at hM
  obtain ⟨hk1, hM⟩ := chk_ex hM
  obtain ⟨hk2, hM⟩ := chk_ex hM
  obtain ⟨hk3, hM⟩ := chk_ex hM
  obtain rfl := Option.some.inj hM
  replace hk1 := slB_t hk1
  replace hk2 := apB_t hk2
  obtain ⟨y, rfl⟩ : ∃ y, x2 = [y] := List.length_eq_one_iff.1 (by have := eq_of_beq hk3; omega)
  refine (ins_calls S (k := 0) (m := 1) rfl rfl rfl (by decide) ⟨hk1.2.1, hk1.2.2⟩ hk2).mono ?_
  rintro e w' ⟨B, D, rfl, T⟩
  exact ⟨B, _, D, rfl, ins_len hk1.2.1 hk1.2.2, T.sub (.cons_cons _ (.cons _ (List.Sublist.refl _)))⟩
def k_slices_Insert_int_int : Ctr := ⟨97, [.o (.sl .tk 3 (.int .i64)), .o (.int .i64), .o (.sl .tk 3 (.int .i64))], [.o (.row 3 (.int .i64))], true, fun x => m_slices_Insert_int_int x.1 x.2.1 x.2.2⟩
theorem d_slices_Insert_int_int : Cok Tryz.prog k_slices_Insert_int_int := ⟨co97, fun x res hm e w0 w X _ hp hS => (c_slices_Insert_int_int (w := w) (w0 := w0) (X := X) (A0 := e.a 0) (n0 := x.1.length) (c0 := e.c 0) (A2 := e.a 2) (n2 := x.2.2.length) (c2 := e.c 2) rfl rfl hS hm).mono (by
  rintro en w' ⟨B, N, D, rfl, hN, S⟩
  subst hN
  exact ⟨_, _, rfl, ⟨[_], [], [], [_], [], [], rfl, rfl, ⟨_, [], _, [], [_], [], rfl, rfl, rfl, ⟨res, B, D, rfl, rfl, rfl⟩, rfl, rfl, rfl⟩, ⟨rfl, rfl⟩, ⟨[], [], [], [], rfl, rfl, ⟨rfl, rfl⟩, ⟨[], [], [], [], rfl, rfl, ⟨rfl, rfl⟩, ⟨[], [], [], [], rfl, rfl, ⟨rfl, rfl⟩, ⟨rfl, rfl⟩⟩⟩⟩⟩, S⟩)⟩
def m_impl_WorkHeld_l1s (x2 : List (Int × Int)) (x3 : Int) (rec : (List Int × Int) → Option ((List Int))) (p109 : (List Int × Int)) : Option ((List Int)) := (bif ltB p109.2 (x2.length : Int) then chk (ixB p109.2 x2.length) (Option.bind (bif ((x2.getD p109.2.toNat ((0, 0) : Int × Int)).2) == x3 then chk (apB p109.1.length ([(x2.getD p109.2.toNat ((0, 0) : Int × Int)).1] : List Int).length) (some (p109.1 ++ ([(x2.getD p109.2.toNat ((0, 0) : Int × Int)).1] : List Int))) else some p109.1) (fun (p115 : List Int) => rec (p115, w64 (p109.2 + 1)))) else some p109.1)
def m_impl_WorkHeld_l1i (x2 : List (Int × Int)) (x3 : Int) : Nat → (List Int × Int) → Option ((List Int)) := itr (m_impl_WorkHeld_l1s x2 x3)
theorem q_m_impl_WorkHeld_l1 : @m_impl_WorkHeld_l1 = @m_impl_WorkHeld_l1i := by
  funext x2 x3 n
  induction n with
  | zero => rfl
  | succ n ih =>
    funext p
    show _ = m_impl_WorkHeld_l1s x2 x3 (m_impl_WorkHeld_l1i x2 x3 n) p
    rw [← ih]
    rfl
def m_impl_WorkHeldi (x0 : List Bool) (x1 : List Bool) (x2 : List (Int × Int)) (x3 : Int) : Option (List Int) := Option.bind (m_impl_WorkValid x0 x1 x2) (fun (p102 : Bool) => (bif p102 then Option.bind (m_impl_WorkHeld_l1i x2 x3 FUEL (([] : List Int), 0)) (fun (p104 : List Int) => some p104) else some ([] : List Int)))
theorem q_m_impl_WorkHeld : @m_impl_WorkHeld = @m_impl_WorkHeldi := by
  funext x0 x1 x2 x3
  unfold m_impl_WorkHeldi
  rw [← q_m_impl_WorkHeld_l1]
  rfl
def k_impl_WorkHeld : Ctr := ⟨144, [.g [.sl .ro 4 .b, .sl .ro 4 .b, .sl .ro 93 (.p (.int .i64) (.int .i64))], .o (.int .i64)], [.o (.row 3 (.int .i64))], false, fun x => m_impl_WorkHeld x.1 x.2.1 x.2.2.1 x.2.2.2⟩
theorem d_impl_WorkHeld : Cok Tryz.prog k_impl_WorkHeld := cok (op := opn) (cs := [k_impl_WorkValid]) (rv := [.tmp 4]) (crt := .q .z (.q (.q .z (.q (.q .z .z) .z)) (.q .z (.q (.q .z (.cut ⟨[(4, .o .k), (5, .o (.r 3 (.int .i64)))], [], []⟩ [] (.b (.lp ⟨[(1, .o .k), (4, .o .k), (5, .o (.r 3 (.int .i64))), (12, .o .k), (13, .o .k), (14, .o (.i .i64))], [], []⟩ (.q .z (.q (.q .z .z) (.q (.b (.q .z (.q .z (.cut ⟨[(1, .o .k), (4, .o .k), (5, .o (.r 3 (.int .i64))), (12, .o .k), (13, .o .k), (14, .o .k)], [], []⟩ [] (.q .z .z))))) .z))))))) (.q .z .z))))) tys_ok eqt_ok rfl ⟨d_impl_WorkValid, trivial⟩ opn_ok co144 Tryz.func144 rfl Tryz.ntmps144 rfl rfl (fun x => by
  show m_impl_WorkHeld x.1 x.2.1 x.2.2.1 x.2.2.2 = _
  rw [q_m_impl_WorkHeld]
  kernel_rfl)
def k_impl_Work_may : Ctr := ⟨127, [.g [.sl .ro 4 .b, .sl .ro 4 .b, .sl .ro 93 (.p (.int .i64) (.int .i64))], .g [.int .i64, .int .i64, .int .i64]], [.o .b], false, fun x => m_impl_Work_may x.1 x.2.1 x.2.2.1 x.2.2.2.1 x.2.2.2.2.1 x.2.2.2.2.2⟩
theorem d_impl_Work_may : Cok Tryz.prog k_impl_Work_may := cok (op := opn) (cs := [k_slices_Contains_impl_Permit_impl_Permit, k_impl_WorkHeld]) (rv := [.tmp 4]) (crt := .q .z (.q .z (.q .z (.q (.q .z (.b (.q (.q .z (.cut ⟨[(2, .o .k), (3, .o .k), (4, .o .k), (5, .o .k), (6, .o .k), (7, .o .k), (29, .o .k), (30, .o .b)], [(3, [.k, .k, .k]), (2, [.k, .k, .k])], []⟩ [] (.q .z .z))) (.q (.q .z .z) (.q .z (.q (.q .z .z) (.q .z (.q (.q (.cut ⟨[(4, .o .b)], [], []⟩ [] .z) .z) (.q .z (.q (.q .z .z) (.q .z (.q (.q .z .z) .z)))))))))))) (.q .z .z))))) tys_ok eqt_ok rfl ⟨d_slices_Contains_impl_Permit_impl_Permit, d_impl_WorkHeld, trivial⟩ opn_ok co127 Tryz.func127 rfl Tryz.ntmps127 rfl rfl (fun _ => by kernel_rfl)
set_option maxHeartbeats 4000000 in
theorem c_slices_Delete_impl_Permit_impl_Permit {x0 : List (Int × Int)} {x1 : Int} {x2 : Int} {A0 : Option Addr} {n0 c0 : Nat} {w : World} {r : List (Int × Int)} {w0 : World} {X : List Asn} (h0 : n0 = x0.length) (S : St w0 w (Asn.row 93 2 (.slice A0 n0 c0) n0 (x0.flatMap ePermit) :: X)) (hM : m_slices_Delete_impl_Permit_impl_Permit x0 x1 x2 = some r) :
    Calls Tryz.prog 128 #[.slice A0 n0 c0, .int .i64 x1, .int .i64 x2] w (fun e w' => ∃ (B0 : Option Addr) (N0 D0 : Nat), e = .returned (.slice B0 N0 D0) ∧ N0 = r.length ∧ St w0 w' (Asn.row 93 2 (.slice B0 N0 D0) N0 (r.flatMap ePermit) :: X)) := by
  obtain rfl := h0
  unfold m_slices_Delete_impl_Permit_impl_Permit at hM
  refine calls_gw Tryz.func128 Tryz.ntmps128 rfl [(0, .slice A0 x0.length c0), (1, .int .i64 x1), (2, .int .i64 x2)] ⟨rfl, rfl, rfl, trivial⟩ rfl ?_
  intro a hF
  refine wp_seq ?_
  refine wp_region_lit ?_
  refine op_val (v := .slice none 0 0) rfl rfl hF rfl (run_assign rfl rfl) ?_; clear hF; intro a hF
  refine wpList_nil ?_
  refine wp_seq ?_
  refine wp_region_lit ?_
  refine op_val (v := .slice A0 x0.length c0) rfl rfl hF rfl (run_move rfl (hF.ev rfl)) ?_; clear hF; intro a hF
  refine op_val (v := .int .i64 x1) rfl rfl hF rfl (run_move rfl (hF.ev rfl)) ?_; clear hF; intro a hF
  refine op_val (v := .int .i64 x2) rfl rfl hF rfl (run_move rfl (hF.ev rfl)) ?_; clear hF; intro a hF
  refine op_val (v := .slice A0 x0.length c0) rfl rfl hF rfl (run_move rfl (hF.ev rfl)) ?_; clear hF; intro a hF
  refine op_val (v := .int .i64 (x0.length : Int)) rfl rfl hF rfl (run_lenL rfl rfl Tryz.underlying28 (hF.ev rfl)) ?_; clear hF; intro a hF
  obtain ⟨hk101, hM⟩ := chk_ex hM
  replace hk101 := slB_t hk101
  refine op_val (v := .slice (subA ((x0.length : Int).toNat) x1.toNat 2 A0) (x2.toNat - x1.toNat) ((x0.length : Int).toNat - x1.toNat)) rfl rfl hF rfl (run_slice3 rfl Tryz.underlying28 sz93 (hF.ev rfl) (hF.ev rfl) (hF.ev rfl) (hF.ev rfl) hk101 (Int.ofNat_le.2 (S.rc 0 rfl).cap)) ?_; clear hF; intro a hF
  refine wpList_nil ?_
  refine wp_seq ?_
  refine wp_seq ?_
  refine wp_region_lit ?_
  refine op_val (v := .int .i64 x1) rfl rfl hF rfl (run_move rfl (hF.ev rfl)) ?_; clear hF; intro a hF
  refine op_val (v := .int .i64 x2) rfl rfl hF rfl (run_move rfl (hF.ev rfl)) ?_; clear hF; intro a hF
  refine op_val (v := .bool (x1 == x2)) rfl rfl hF rfl (run_eql (hF.ev rfl) (hF.ev rfl) rfl) ?_; clear hF; intro a hF
  refine wpList_nil ?_
  cases hc102 : (x1 == x2)
  · replace hM := bif_f hc102 hM
    refine cond_f hF rfl hc102 ?_
    refine wp_skip ?_
    refine wp_seq ?_
    refine wp_region_lit ?_
    refine op_val (v := .slice A0 x0.length c0) rfl rfl hF rfl (run_move rfl (hF.ev rfl)) ?_; clear hF; intro a hF
    refine op_val (v := .int .i64 (x0.length : Int)) rfl rfl hF rfl (run_lenL rfl rfl Tryz.underlying28 (hF.ev rfl)) ?_; clear hF; intro a hF
    refine op_val (v := .int .i64 (x0.length : Int)) rfl rfl hF rfl (run_assign rfl (hF.ev rfl)) ?_; clear hF; intro a hF
    refine wpList_nil ?_
    refine wp_seq ?_
    obtain ⟨hk103, hM⟩ := chk_ex hM
    replace hk103 := slB_t hk103
    obtain ⟨hk104, hM⟩ := chk_ex hM
    replace hk104 := slB_t hk104
    obtain ⟨hk105, hM⟩ := chk_ex hM
    replace hk105 := apB_t hk105
    have hp106 := (S.rc 0 rfl).cap
    have hq107 := del_len (l := x0) (p := x1) (q := x2) rfl (by omega)
    refine region_gw (D := [20, 21, 22, 23, 24, 25, 26, 0]) (Lr := (X)) (deps := (fun | 0 => [20] | 1 => [21] | 2 => [22] | 3 => [23] | 4 => [24] | 5 => [25] | 6 => [26] | 7 => [0] | _ => [])) (rd := (fun _ => [])) (zr := (fun | 2 => [6] | 5 => [6] | _ => []))
      (φ := fun i vs => match i, vs with | 0, [v20] => v20 = .slice A0 x0.length c0 | 1, [v21] => v21 = .int .i64 x1 | 2, [v22] => v22 = .slice (subA c0 ((0 : Int).toNat) 2 A0) ((subL x0 0 x1).length) (c0 - (0 : Int).toNat) | 3, [v23] => v23 = .slice A0 x0.length c0 | 4, [v24] => v24 = .int .i64 x2 | 5, [v25] => v25 = .slice (subA c0 x2.toNat 2 A0) ((subL x0 x2 (x0.length : Int)).length) (c0 - x2.toNat) | 6, [v26] => v26 = .slice A0 (((subL x0 0 x1) ++ (subL x0 x2 (x0.length : Int))).length) c0 | 7, [v0] => v0 = .slice A0 (((subL x0 0 x1) ++ (subL x0 x2 (x0.length : Int))).length) c0 | _, _ => True)
      (C := fun i vs => match i, vs with | 6, [v26] => [.row 93 2 (.slice A0 (((subL x0 0 x1) ++ (subL x0 x2 (x0.length : Int))).length) c0) (((subL x0 0 x1) ++ (subL x0 x2 (x0.length : Int))).length) (((subL x0 0 x1) ++ (subL x0 x2 (x0.length : Int))).flatMap ePermit)] | _, _ => [])
      (κ := (fun _ => none)) (Z := (fun | 6 => [.row 93 2 (.slice A0 x0.length c0) x0.length (x0.flatMap ePermit)] | _ => [])) mixed hF (by kernel_rfl) (show St w0 _ (Asn.row 93 2 (.slice A0 x0.length c0) x0.length (x0.flatMap ePermit) :: X) from S.selT (M := [.row 93 2 (.slice A0 x0.length c0) x0.length (x0.flatMap ePermit)]) 1 [0] rfl rfl rfl) ?_ ?_
    · refine ⟨?_, ?_, ?_, ?_, ?_, ?_, ?_, ?_, trivial⟩
      · intro a u X' hB hu hp hr hz hl S
        replace S : St w0 u ([] ++ X') := S
        exact .inl ⟨rfl, .slice A0 x0.length c0, u, (run_move rfl (hF.evU (hu 7 0 rfl rfl) rfl)), rfl, S⟩
      · intro a u X' hB hu hp hr hz hl S
        replace S : St w0 u ([] ++ X') := S
        exact .inl ⟨rfl, .int .i64 x1, u, (run_move rfl (hF.evB hB rfl rfl)), rfl, S⟩
      · intro a u X' hB hu hp hr hz hl S
        replace S : St w0 u ([] ++ X') := S
        have e20 : sl a 20 = .slice A0 x0.length c0 := hp 0 rfl
        have e21 : sl a 21 = .int .i64 x1 := hp 1 rfl
        exact .inl ⟨rfl, .slice (subA c0 ((0 : Int).toNat) 2 A0) ((subL x0 0 x1).length) (c0 - (0 : Int).toNat), u, (run_sliceH (l := x0) rfl Tryz.underlying28 sz93 (ev_sl e20) (ev_sl e21) hk103 rfl (own_rc (show Ow _ _ _ _ _ _ from S.mem (List.mem_append_right _ (hz 6 (List.mem_of_getElem? (i := 0) rfl) _ (List.mem_of_getElem? (i := 0) rfl))))).cap), rfl, S⟩
      · intro a u X' hB hu hp hr hz hl S
        replace S : St w0 u ([] ++ X') := S
        exact .inl ⟨rfl, .slice A0 x0.length c0, u, (run_move rfl (hF.evU (hu 7 0 rfl rfl) rfl)), rfl, S⟩
      · intro a u X' hB hu hp hr hz hl S
        replace S : St w0 u ([] ++ X') := S
        exact .inl ⟨rfl, .int .i64 x2, u, (run_move rfl (hF.evB hB rfl rfl)), rfl, S⟩
      · intro a u X' hB hu hp hr hz hl S
        replace S : St w0 u ([] ++ X') := S
        have e23 : sl a 23 = .slice A0 x0.length c0 := hp 3 rfl
        have e24 : sl a 24 = .int .i64 x2 := hp 4 rfl
        exact .inl ⟨rfl, .slice (subA c0 x2.toNat 2 A0) ((subL x0 x2 (x0.length : Int)).length) (c0 - x2.toNat), u, (run_slicefrom (l := x0) rfl Tryz.underlying28 sz93 (ev_sl e23) (ev_sl e24) hk104 rfl (own_rc (show Ow _ _ _ _ _ _ from S.mem (List.mem_append_right _ (hz 6 (List.mem_of_getElem? (i := 0) rfl) _ (List.mem_of_getElem? (i := 0) rfl))))).cap), rfl, S⟩
      · intro a u X' hB hu hp hr hz hl S
        replace S : St w0 u ([.row 93 2 (.slice A0 x0.length c0) x0.length (x0.flatMap ePermit)] ++ X') := S
        have e22 : sl a 22 = .slice (subA c0 ((0 : Int).toNat) 2 A0) ((subL x0 0 x1).length) (c0 - (0 : Int).toNat) := hp 2 rfl
        have e25 : sl a 25 = .slice (subA c0 x2.toNat 2 A0) ((subL x0 x2 (x0.length : Int)).length) (c0 - x2.toNat) := hp 5 rfl
        obtain ⟨w', hrun, S'⟩ := S.delrow (i := 0) (P := Tryz.prog) (ty := 28) (p := x1) (q := x2) rfl rfl ePermit_len ePermit_one Tryz.underlying28 sz93 (by omega) (by omega) (by omega)
        exact .inl ⟨rfl, _, w', run_append rfl (ev_sl e22) (ev_sl e25) hrun, rfl, S'⟩
      · intro a u X' hB hu hp hr hz hl S
        replace S : St w0 u ([] ++ X') := S
        have e26 : sl a 26 = .slice A0 (((subL x0 0 x1) ++ (subL x0 x2 (x0.length : Int))).length) c0 := hp 6 rfl
        exact .inl ⟨rfl, .slice A0 (((subL x0 0 x1) ++ (subL x0 x2 (x0.length : Int))).length) c0, u, (run_assign rfl (ev_sl e26)), rfl, S⟩
    · intro a u hB hp S
      obtain ⟨q0, q1, q2, q3, q4, q5, q6, q7, _⟩ := hp
      have e20 : sl a 20 = .slice A0 x0.length c0 := q0
      have e21 : sl a 21 = .int .i64 x1 := q1
      have e22 : sl a 22 = .slice (subA c0 ((0 : Int).toNat) 2 A0) ((subL x0 0 x1).length) (c0 - (0 : Int).toNat) := q2
      have e23 : sl a 23 = .slice A0 x0.length c0 := q3
      have e24 : sl a 24 = .int .i64 x2 := q4
      have e25 : sl a 25 = .slice (subA c0 x2.toNat 2 A0) ((subL x0 x2 (x0.length : Int)).length) (c0 - x2.toNat) := q5
      have e26 : sl a 26 = .slice A0 (((subL x0 0 x1) ++ (subL x0 x2 (x0.length : Int))).length) c0 := q6
      have e0 : sl a 0 = .slice A0 (((subL x0 0 x1) ++ (subL x0 x2 (x0.length : Int))).length) c0 := q7
      replace S : St w0 u (Asn.row 93 2 (.slice A0 (((subL x0 0 x1) ++ (subL x0 x2 (x0.length : Int))).length) c0) (((subL x0 0 x1) ++ (subL x0 x2 (x0.length : Int))).length) (((subL x0 0 x1) ++ (subL x0 x2 (x0.length : Int))).flatMap ePermit) :: X) := S
      clear q0 q1 q2 q3 q4 q5 q6 q7
      have hF := hF.region hB [(20, .slice A0 x0.length c0), (21, .int .i64 x1), (22, .slice (subA c0 ((0 : Int).toNat) 2 A0) ((subL x0 0 x1).length) (c0 - (0 : Int).toNat)), (23, .slice A0 x0.length c0), (24, .int .i64 x2), (25, .slice (subA c0 x2.toNat 2 A0) ((subL x0 x2 (x0.length : Int)).length) (c0 - x2.toNat)), (26, .slice A0 (((subL x0 0 x1) ++ (subL x0 x2 (x0.length : Int))).length) c0), (0, .slice A0 (((subL x0 0 x1) ++ (subL x0 x2 (x0.length : Int))).length) c0)] (allSl_mem ⟨e20, e21, e22, e23, e24, e25, e26, e0, trivial⟩) rfl
      clear hB e20 e21 e22 e23 e24 e25 e26 e0
      refine wp_seq ?_
      refine wp_region_lit ?_
      refine op_val (v := .slice A0 (((subL x0 0 x1) ++ (subL x0 x2 (x0.length : Int))).length) c0) rfl rfl hF rfl (run_move rfl (hF.ev rfl)) ?_; clear hF; intro a hF
      refine op_val (v := .slice A0 (((subL x0 0 x1) ++ (subL x0 x2 (x0.length : Int))).length) c0) rfl rfl hF rfl (run_move rfl (hF.ev rfl)) ?_; clear hF; intro a hF
      refine op_val (v := .int .i64 ((((subL x0 0 x1) ++ (subL x0 x2 (x0.length : Int))).length) : Int)) rfl rfl hF rfl (run_lenL rfl rfl Tryz.underlying28 (hF.ev rfl)) ?_; clear hF; intro a hF
      refine op_val (v := .int .i64 (x0.length : Int)) rfl rfl hF rfl (run_move rfl (hF.ev rfl)) ?_; clear hF; intro a hF
      refine op_val (v := .slice (subA c0 (((((subL x0 0 x1) ++ (subL x0 x2 (x0.length : Int))).length) : Int).toNat) 2 A0) ((x0.length : Int).toNat - ((((subL x0 0 x1) ++ (subL x0 x2 (x0.length : Int))).length) : Int).toNat) (c0 - ((((subL x0 0 x1) ++ (subL x0 x2 (x0.length : Int))).length) : Int).toNat)) rfl rfl hF rfl (run_slicebey rfl Tryz.underlying28 sz93 (hF.ev rfl) (hF.ev rfl) (hF.ev rfl) ⟨Int.natCast_nonneg _, Int.ofNat_le.2 hq107, Int.ofNat_le.2 hp106⟩) ?_; clear hF; intro a hF
      obtain ⟨w', hrun, S'⟩ := S.clear (i := 0) (P := Tryz.prog) (hi := (x0.length : Int)) rfl rfl ePermit_len Tryz.underlying28 inf93 rfl rfl ⟨Int.ofNat_le.2 hq107, Int.ofNat_le.2 hp106⟩
      refine op_builtin0 rfl rfl rfl (hF.ev rfl) hrun ?_
      clear S hrun; have S := S'; clear S'; generalize w' = u at S ⊢
      refine wpList_nil ?_
      refine wp_seq ?_
      refine wp_region_lit ?_
      refine op_val (v := .slice A0 (((subL x0 0 x1) ++ (subL x0 x2 (x0.length : Int))).length) c0) rfl rfl hF rfl (run_move rfl (hF.ev rfl)) ?_; clear hF; intro a hF
      refine op_val (v := .slice A0 (((subL x0 0 x1) ++ (subL x0 x2 (x0.length : Int))).length) c0) rfl rfl hF rfl (run_assign rfl (hF.ev rfl)) ?_; clear hF; intro a hF
      refine wpList_nil ?_
      refine wp_ret ?_
      repeat with_reducible (first | refine then_ret ?_ | refine in_ret ?_ | refine in_nrm ?_)
      refine ret1_gw (.inl rfl) hF rfl (res_tmp (hF.ev rfl)) ?_
      obtain rfl := Option.some.inj hM
      exact ⟨A0, (((subL x0 0 x1) ++ (subL x0 x2 (x0.length : Int))).length), c0, rfl, rfl, S.selT (M := [.row 93 2 (.slice A0 (((subL x0 0 x1) ++ (subL x0 x2 (x0.length : Int))).length) c0) (((subL x0 0 x1) ++ (subL x0 x2 (x0.length : Int))).length) (((subL x0 0 x1) ++ (subL x0 x2 (x0.length : Int))).flatMap ePermit)]) 1 [0] rfl rfl rfl⟩
  · replace hM := bif_t hc102 hM
    refine cond_t hF rfl hc102 ?_
    refine wp_seq ?_
    refine wp_region_lit ?_
    refine op_val (v := .slice A0 x0.length c0) rfl rfl hF rfl (run_move rfl (hF.ev rfl)) ?_; clear hF; intro a hF
    refine op_val (v := .slice A0 x0.length c0) rfl rfl hF rfl (run_assign rfl (hF.ev rfl)) ?_; clear hF; intro a hF
    refine wpList_nil ?_
    refine wp_ret ?_
    repeat with_reducible (first | refine then_ret ?_ | refine in_ret ?_ | refine in_nrm ?_)
    refine ret1_gw (.inl rfl) hF rfl (res_tmp (hF.ev rfl)) ?_
    obtain rfl := Option.some.inj hM
    exact ⟨A0, x0.length, c0, rfl, rfl, S.selT (M := [.row 93 2 (.slice A0 x0.length c0) x0.length (x0.flatMap ePermit)]) 1 [0] rfl rfl rfl⟩
def k_slices_Delete_impl_Permit_impl_Permit : Ctr := ⟨128, [.o (.sl .tk 93 (.p (.int .i64) (.int .i64))), .o (.int .i64), .o (.int .i64)], [.o (.row 93 (.p (.int .i64) (.int .i64)))], true, fun x => m_slices_Delete_impl_Permit_impl_Permit x.1 x.2.1 x.2.2⟩
theorem d_slices_Delete_impl_Permit_impl_Permit : Cok Tryz.prog k_slices_Delete_impl_Permit_impl_Permit := ⟨co128, fun x res hm e w0 w X _ hp hS => (c_slices_Delete_impl_Permit_impl_Permit (w := w) (w0 := w0) (X := X) (A0 := e.a 0) (n0 := x.1.length) (c0 := e.c 0) rfl hS hm).mono (by
  rintro en w' ⟨B, N, D, rfl, hN, S⟩
  subst hN
  exact ⟨_, _, rfl, ⟨[_], [], [], [_], [], [], rfl, rfl, ⟨_, [], _, [], [_], [], rfl, rfl, rfl, ⟨res, B, D, rfl, rfl, rfl⟩, rfl, rfl, rfl⟩, ⟨rfl, rfl⟩, ⟨[], [], [], [], rfl, rfl, ⟨rfl, rfl⟩, ⟨[], [], [], [], rfl, rfl, ⟨rfl, rfl⟩, ⟨[], [], [], [], rfl, rfl, ⟨rfl, rfl⟩, ⟨rfl, rfl⟩⟩⟩⟩⟩, S⟩)⟩
def k_impl_WorkDo : Ctr := ⟨100, [.g [.sl .ro 4 .b, .sl .ro 4 .b, .sl .ro 93 (.p (.int .i64) (.int .i64))], .g [.int .i64, .int .i64, .int .i64]], [.g [.row 4 .b, .row 4 .b, .row 93 (.p (.int .i64) (.int .i64))], .o .b], false, fun x => m_impl_WorkDo x.1 x.2.1 x.2.2.1 x.2.2.2.1 x.2.2.2.2.1 x.2.2.2.2.2⟩
theorem d_impl_WorkDo : Cok Tryz.prog k_impl_WorkDo := cok (op := opn) (cs := [k_impl_WorkValid, k_impl_Work_clone, k_impl_Work_may, k_slices_Index_impl_Permit_impl_Permit, k_slices_Delete_impl_Permit_impl_Permit]) (rv := [.cell 4 30, .tmp 5]) (crt := .q .z (.q (.q .z (.q (.q .z .z) .z)) (.q .z (.q (.q .z (.q (.q .z .z) .z)) (.q .z (.q (.q .z (.b (.q (.q .z (.cut ⟨[(3, .o .k), (4, .o .k), (5, .o .k), (6, .o .k), (7, .o .k), (39, .o .k), (40, .o .b)], [(7, [.k, .k]), (6, [.k, .k, .k]), (4, [.k, .k, .k]), (3, [.k, .k, .k])], []⟩ [] (.q .z .z))) (.cut ⟨[(4, .o .k), (5, .o .k), (6, .o .k)], [(6, [.w 4 .b, .w 4 .b, .r 93 (.p (.int .i64) (.int .i64))]), (4, [.k, .k, .k])], []⟩ [] (.q .z (.q (.q .z (.cut ⟨[(3, .o .k), (4, .o .k), (5, .o .k), (6, .o .k), (7, .o .k), (39, .o .k), (51, .o .b)], [(7, [.k, .k]), (6, [.k, .k, .k]), (4, [.k, .k, .k]), (3, [.k, .k, .k])], []⟩ [] (.q .z .z))) (.cut ⟨[(4, .o .k), (5, .o .k), (6, .o .k)], [(6, [.k, .w 4 .b, .r 93 (.p (.int .i64) (.int .i64))]), (4, [.k, .k, .k])], []⟩ [] (.q .z (.q .z (.cut ⟨[(4, .o .k), (5, .o .k), (6, .o .k)], [(6, [.k, .k, .r 93 (.p (.int .i64) (.int .i64))]), (4, [.k, .k, .k])], []⟩ [] (.q .z (.q .z (.cut ⟨[(4, .o .k), (5, .o .k), (6, .o .k)], [(6, [.k, .k, .r 93 (.p (.int .i64) (.int .i64))]), (4, [.k, .k, .k])], []⟩ [] (.q (.q .z .z) .z)))))))))))))) (.q .z .z))))))) tys_ok eqt_ok rfl ⟨d_impl_WorkValid, d_impl_Work_clone, d_impl_Work_may, d_slices_Index_impl_Permit_impl_Permit, d_slices_Delete_impl_Permit_impl_Permit, trivial⟩ opn_ok co100 Tryz.func100 rfl Tryz.ntmps100 rfl rfl (fun _ => by kernel_rfl)
def k_impl_World_do : Ctr := ⟨53, [.bx 33 [.int .i64, .sl .mu 71 (.p (.int .i64) (.p (.int .i64) (.int .i64))), .sl .mu 42 (.p (.int .i64) (.int .i64)), .sl .mu 4 .b, .sl .mu 4 .b, .sl .mu 93 (.p (.int .i64) (.int .i64)), .sl .mu 3 (.int .i64)], .g [.int .i64, .int .i64, .int .i64]], [.o .b], true, fun x => m_impl_World_do x.1 x.2.1 x.2.2.1 x.2.2.2.1 x.2.2.2.2.1 x.2.2.2.2.2.1 x.2.2.2.2.2.2.1 x.2.2.2.2.2.2.2.1 x.2.2.2.2.2.2.2.2.1 x.2.2.2.2.2.2.2.2.2⟩
theorem d_impl_World_do : Cok Tryz.prog k_impl_World_do := cok (op := opn) (cs := [k_slices_BinarySearch_int_int, k_slices_Insert_int_int, k_slices_Contains_impl_Permit_impl_Permit, k_slices_Delete_int_int, k_impl_WorkDo, k_impl_Radial]) (rv := [.tmp 4]) (crt := .q .z (.q .z (.q (.q .z (.b (.q .z (.q (.q (.q .z (.q (.q .z .z) .z)) (.q .z (.q .z (.q .z .z)))) (.q .z (.q (.q (.q .z (.q (.q .z .z) .z)) (.q .z (.q .z .z))) (.q .z (.cut ⟨[(0, .o .k), (3, .o .k), (4, .o .k)], [(3, [.k, .k, .k]), (4096, [.k, .k, .k, .k, .k, .k, .k])], []⟩ [.rt] (.q (.q .z (.q (.q .z .z) .z)) .z))))))))) (.q .z (.q .z (.q .z .z)))))) tys_ok eqt_ok rfl ⟨d_slices_BinarySearch_int_int, d_slices_Insert_int_int, d_slices_Contains_impl_Permit_impl_Permit, d_slices_Delete_int_int, d_impl_WorkDo, d_impl_Radial, trivial⟩ opn_ok co53 Tryz.func53 rfl Tryz.ntmps53 rfl rfl (fun _ => by kernel_rfl)
def k_impl_WorldDo : Ctr := ⟨15, [.g [.int .i64, .sl .ro 71 (.p (.int .i64) (.p (.int .i64) (.int .i64))), .sl .ro 42 (.p (.int .i64) (.int .i64)), .sl .ro 4 .b, .sl .ro 4 .b, .sl .ro 93 (.p (.int .i64) (.int .i64)), .sl .ro 3 (.int .i64)], .g [.int .i64, .int .i64, .int .i64]], [.g [.int .i64, .row 71 (.p (.int .i64) (.p (.int .i64) (.int .i64))), .row 42 (.p (.int .i64) (.int .i64)), .row 4 .b, .row 4 .b, .row 93 (.p (.int .i64) (.int .i64)), .row 3 (.int .i64)], .o .b], false, fun x => m_impl_WorldDo x.1 x.2.1 x.2.2.1 x.2.2.2.1 x.2.2.2.2.1 x.2.2.2.2.2.1 x.2.2.2.2.2.2.1 x.2.2.2.2.2.2.2.1 x.2.2.2.2.2.2.2.2.1 x.2.2.2.2.2.2.2.2.2⟩
theorem d_impl_WorldDo : Cok Tryz.prog k_impl_WorldDo := cok (op := opn) (cs := [k_impl_WorldValid, k_impl_World_clone, k_impl_Net_hasLine, k_impl_World_do]) (rv := [.cell 4 33, .tmp 5]) (crt := .q .z (.q (.q .z (.q (.q .z .z) .z)) (.q .z (.q (.q (.cut ⟨[(2, .o .k), (4, .o .k), (5, .o .k), (6, .o .k), (23, .o .b)], [(6, [.i .i64, .r 71 (.p (.int .i64) (.p (.int .i64) (.int .i64))), .r 42 (.p (.int .i64) (.int .i64)), .r 4 .b, .r 4 .b, .r 93 (.p (.int .i64) (.int .i64)), .r 3 (.int .i64)]), (4, [.k, .k, .k, .k, .k, .k, .k]), (2, [.k, .k, .k, .k, .k, .k, .k])], []⟩ [] .z) (.q (.q .z .z) .z)) (.q .z .z))))) tys_ok eqt_ok rfl ⟨d_impl_WorldValid, d_impl_World_clone, d_impl_Net_hasLine, d_impl_World_do, trivial⟩ opn_ok co15 Tryz.func15 rfl Tryz.ntmps15 rfl rfl (fun _ => by kernel_rfl)
def m_laws_within_l1s (x0 : List Int) (x1 : List Int) (rec : Int → Option (Unit ⊕ Bool)) (p104 : Int) : Option (Unit ⊕ Bool) := (bif ltB p104 (x0.length : Int) then chk (ixB p104 x0.length) (Option.bind (m_laws_hasInt x1 (x0.getD p104.toNat (0 : Int))) (fun (p107 : Bool) => (bif p107 then rec (w64 (p104 + 1)) else some (Sum.inr false)))) else some (Sum.inl ()))
def m_laws_within_l1i (x0 : List Int) (x1 : List Int) : Nat → Int → Option (Unit ⊕ Bool) := itr (m_laws_within_l1s x0 x1)
theorem q_m_laws_within_l1 : @m_laws_within_l1 = @m_laws_within_l1i := by
  funext x0 x1 n
  induction n with
  | zero => rfl
  | succ n ih =>
    funext p
    show _ = m_laws_within_l1s x0 x1 (m_laws_within_l1i x0 x1 n) p
    rw [← ih]
    rfl
def m_laws_withini (x0 : List Int) (x1 : List Int) : Option (Bool) := Option.bind (m_laws_within_l1i x0 x1 FUEL 0 : Option (Unit ⊕ Bool)) (Sum.elim (fun (p101 : Unit) => some true) (fun (r : Bool) => some r))
theorem q_m_laws_within : @m_laws_within = @m_laws_withini := by
  funext x0 x1
  unfold m_laws_withini
  rw [← q_m_laws_within_l1]
  rfl
def k_laws_within : Ctr := ⟨16, [.o (.sl .ro 3 (.int .i64)), .o (.sl .ro 3 (.int .i64))], [.o .b], false, fun x => m_laws_within x.1 x.2⟩
theorem d_laws_within : Cok Tryz.prog k_laws_within := cok (op := opn) (cs := [k_laws_hasInt]) (rv := [.tmp 4]) (crt := .q .z (.q (.q .z (.cut ⟨[(4, .o .k)], [], []⟩ [.rt] (.b (.lp ⟨[(0, .o .k), (1, .o .k), (4, .o .k), (5, .o (.i .i64))], [], []⟩ (.q (.q .z (.q .z .z)) (.q (.b (.q .z (.q (.q .z .z) .z))) .z)))))) (.q .z .z))) tys_ok eqt_ok rfl ⟨d_laws_hasInt, trivial⟩ opn_ok co16 Tryz.func16 rfl Tryz.ntmps16 rfl rfl (fun x => by
  show m_laws_within x.1 x.2 = _
  rw [q_m_laws_within]
  kernel_rfl)
def m_laws_ascend_l1s (x0 : List Int) (rec : Int → Option (Unit ⊕ Bool)) (p104 : Int) : Option (Unit ⊕ Bool) := (bif ltB p104 (x0.length : Int) then chk (ixB (w64 (p104 - 1)) x0.length) (chk (ixB p104 x0.length) ((bif leB (x0.getD p104.toNat (0 : Int)) (x0.getD ((w64 (p104 - 1)).toNat) (0 : Int)) then some (Sum.inr false) else rec (w64 (p104 + 1))))) else some (Sum.inl ()))
def m_laws_ascend_l1i (x0 : List Int) : Nat → Int → Option (Unit ⊕ Bool) := itr (m_laws_ascend_l1s x0)
theorem q_m_laws_ascend_l1 : @m_laws_ascend_l1 = @m_laws_ascend_l1i := by
  funext x0 n
  induction n with
  | zero => rfl
  | succ n ih =>
    funext p
    show _ = m_laws_ascend_l1s x0 (m_laws_ascend_l1i x0 n) p
    rw [← ih]
    rfl
def m_laws_ascendi (x0 : List Int) : Option (Bool) := Option.bind (m_laws_ascend_l1i x0 FUEL 1 : Option (Unit ⊕ Bool)) (Sum.elim (fun (p101 : Unit) => some true) (fun (r : Bool) => some r))
theorem q_m_laws_ascend : @m_laws_ascend = @m_laws_ascendi := by
  funext x0
  unfold m_laws_ascendi
  rw [← q_m_laws_ascend_l1]
  rfl
def k_laws_ascend : Ctr := ⟨17, [.o (.sl .ro 3 (.int .i64))], [.o .b], false, fun x => m_laws_ascend x⟩
theorem d_laws_ascend : Cok Tryz.prog k_laws_ascend := cok (op := opn) (cs := []) (rv := [.tmp 2]) (crt := .q .z (.q (.q .z (.cut ⟨[(2, .o .k)], [], []⟩ [.rt] (.b (.lp ⟨[(0, .o .k), (2, .o .k), (3, .o (.i .i64))], [], []⟩ (.q (.q .z (.q .z .z)) (.q (.b (.q .z (.q (.q .z .z) .z))) .z)))))) (.q .z .z))) tys_ok eqt_ok rfl trivial opn_ok co17 Tryz.func17 rfl Tryz.ntmps17 rfl rfl (fun x => by
  show m_laws_ascend x = _
  rw [q_m_laws_ascend]
  kernel_rfl)
def m_laws_FnWorldDark_l1s (p102 : Int × List (Int × Int × Int) × List (Int × Int) × List Bool × List Bool × List (Int × Int) × List Int) (p122 : List Int) (p135 : List Int) (rec : Int → Option (Unit ⊕ Bool)) (p142 : Int) : Option (Unit ⊕ Bool) := (bif ltB p142 (p102.2.2.1.length : Int) then Option.bind (m_laws_hasInt p122 p142) (fun (p144 : Bool) => chk (ixB p142 p102.2.2.1.length) (Option.bind (gb (ltB 0 ((p102.2.2.1.getD p142.toNat ((0, 0) : Int × Int)).2)) (m_laws_hasInt p135 p142)) (fun (p146 : Bool) => (bif p144 != ((ltB 0 ((p102.2.2.1.getD p142.toNat ((0, 0) : Int × Int)).2)) && (!p146)) then some (Sum.inr false) else rec (w64 (p142 + 1)))))) else some (Sum.inl ()))
def m_laws_FnWorldDark_l1i (p102 : Int × List (Int × Int × Int) × List (Int × Int) × List Bool × List Bool × List (Int × Int) × List Int) (p122 : List Int) (p135 : List Int) : Nat → Int → Option (Unit ⊕ Bool) := itr (m_laws_FnWorldDark_l1s p102 p122 p135)
theorem q_m_laws_FnWorldDark_l1 : @m_laws_FnWorldDark_l1 = @m_laws_FnWorldDark_l1i := by
  funext p102 p122 p135 n
  induction n with
  | zero => rfl
  | succ n ih =>
    funext p
    show _ = m_laws_FnWorldDark_l1s p102 p122 p135 (m_laws_FnWorldDark_l1i p102 p122 p135 n) p
    rw [← ih]
    rfl
def m_laws_FnWorldDark_l2s (p102 : Int × List (Int × Int × Int) × List (Int × Int) × List Bool × List Bool × List (Int × Int) × List Int) (p122 : List Int) (rec : Int → Option (Unit ⊕ Bool)) (p151 : Int) : Option (Unit ⊕ Bool) := (bif ltB p151 (p102.2.2.2.1.length : Int) then Option.bind (m_impl_WorldDo p102.1 p102.2.1 p102.2.2.1 p102.2.2.2.1 p102.2.2.2.2.1 p102.2.2.2.2.2.1 p102.2.2.2.2.2.2 6 p151 0) (fun (p153 : Int × List (Int × Int × Int) × List (Int × Int) × List Bool × List Bool × List (Int × Int) × List Int × Bool) => Option.bind (m_impl_WorldDark p153.1 p153.2.1 p153.2.2.1 p153.2.2.2.1 p153.2.2.2.2.1 p153.2.2.2.2.2.1 p153.2.2.2.2.2.2.1) (fun (p173 : List Int) => Option.bind (m_laws_within p122 p173) (fun (p177 : Bool) => (bif p177 then rec (w64 (p151 + 1)) else some (Sum.inr false))))) else some (Sum.inl ()))
def m_laws_FnWorldDark_l2i (p102 : Int × List (Int × Int × Int) × List (Int × Int) × List Bool × List Bool × List (Int × Int) × List Int) (p122 : List Int) : Nat → Int → Option (Unit ⊕ Bool) := itr (m_laws_FnWorldDark_l2s p102 p122)
theorem q_m_laws_FnWorldDark_l2 : @m_laws_FnWorldDark_l2 = @m_laws_FnWorldDark_l2i := by
  funext p102 p122 n
  induction n with
  | zero => rfl
  | succ n ih =>
    funext p
    show _ = m_laws_FnWorldDark_l2s p102 p122 (m_laws_FnWorldDark_l2i p102 p122 n) p
    rw [← ih]
    rfl
def m_laws_FnWorldDarki (x0 : List Int) : Option (Bool) := (bif ltB 1048576 (x0.length : Int) then some true else Option.bind (m_spec_DrawWorldDark x0) (fun (p102 : Int × List (Int × Int × Int) × List (Int × Int) × List Bool × List Bool × List (Int × Int) × List Int) => Option.bind (m_impl_WorldDark p102.1 p102.2.1 p102.2.2.1 p102.2.2.2.1 p102.2.2.2.2.1 p102.2.2.2.2.2.1 p102.2.2.2.2.2.2) (fun (p122 : List Int) => Option.bind (m_spec_WorldDark p102.1 p102.2.1 p102.2.2.1 p102.2.2.2.1 p102.2.2.2.2.1 p102.2.2.2.2.2.1 p102.2.2.2.2.2.2) (fun (p126 : List Int) => Option.bind (m_laws_sameInts p122 p126) (fun (p130 : Bool) => (bif p130 then Option.bind (m_spec_WorldValid p102.1 p102.2.1 p102.2.2.1 p102.2.2.2.1 p102.2.2.2.2.1 p102.2.2.2.2.2.1 p102.2.2.2.2.2.2) (fun (p132 : Bool) => (bif p132 then Option.bind (m_impl_AliveBuses p102.1 p102.2.1 p102.2.2.2.1 p102.2.2.1) (fun (p135 : List Int) => Option.bind (m_laws_FnWorldDark_l1i p102 p122 p135 FUEL 0 : Option (Unit ⊕ Bool)) (Sum.elim (fun (p139 : Unit) => Option.bind (m_laws_FnWorldDark_l2i p102 p122 FUEL 0 : Option (Unit ⊕ Bool)) (Sum.elim (fun (p148 : Unit) => Option.bind (m_laws_ascend p122) (fun (p179 : Bool) => some p179)) (fun (r : Bool) => some r))) (fun (r : Bool) => some r))) else Option.bind (gb ((p122.length : Int) == 0) (m_laws_alive)) (fun (p134 : Bool) => some (((p122.length : Int) == 0) && p134)))) else some false))))))
theorem q_m_laws_FnWorldDark : @m_laws_FnWorldDark = @m_laws_FnWorldDarki := by
  funext x0
  unfold m_laws_FnWorldDarki
  rw [← q_m_laws_FnWorldDark_l1, ← q_m_laws_FnWorldDark_l2]
  rfl
def k_laws_FnWorldDark : Ctr := ⟨3, [.o (.sl .ro 5 (.int .u8))], [.o .b], false, fun x => m_laws_FnWorldDark x⟩
theorem d_laws_FnWorldDark : Cok Tryz.prog k_laws_FnWorldDark := cok (op := opn) (cs := [k_spec_DrawWorldDark, k_impl_WorldDark, k_spec_WorldDark, k_laws_sameInts, k_spec_WorldValid, k_laws_alive, k_impl_AliveBuses, k_laws_hasInt, k_impl_WorldDo, k_laws_within, k_laws_ascend]) (rv := [.tmp 2]) (crt := .q .z (.q (.q .z (.q (.q .z .z) .z)) (.q .z (.q .z (.q (.q .z (.q (.q .z .z) .z)) (.q (.q .z (.q (.q .z .z) .z)) (.q .z (.q (.q .z (.cut ⟨[(2, .o .k), (3, .o .k), (4, .o .k)], [(3, [.k, .k, .k, .k, .k, .k, .k])], []⟩ [.rt] (.b (.lp ⟨[(2, .o .k), (3, .o .k), (4, .o .k), (5, .o .k), (6, .o (.i .i64))], [(3, [.k, .k, .k, .k, .k, .k, .k])], []⟩ (.q (.q .z (.q .z .z)) (.q (.b (.q .z (.q (.q .z .z) .z))) .z)))))) (.q (.q .z (.cut ⟨[(2, .o .k), (4, .o .k)], [], []⟩ [.rt] (.b (.lp ⟨[(2, .o .k), (3, .o .k), (4, .o .k), (7, .o (.i .i64))], [(3, [.k, .k, .k, .k, .k, .k, .k])], []⟩ (.q (.q .z (.q .z .z)) (.q (.b (.q .z (.q .z (.q (.q .z .z) .z)))) .z)))))) (.q .z .z)))))))))) tys_ok eqt_ok rfl ⟨d_spec_DrawWorldDark, d_impl_WorldDark, d_spec_WorldDark, d_laws_sameInts, d_spec_WorldValid, d_laws_alive, d_impl_AliveBuses, d_laws_hasInt, d_impl_WorldDo, d_laws_within, d_laws_ascend, trivial⟩ opn_ok ⟨by kernel_rfl⟩ Tryz.func3 rfl Tryz.ntmps3 rfl rfl (fun x => by
  show m_laws_FnWorldDark x = _
  rw [q_m_laws_FnWorldDark]
  kernel_rfl)
end
end Go.Proofs.YtnplecoikgnpkaaGreatDoor
namespace Go.Proofs.YtnplecoikgnpkaaGreatDoor
open Go.ChangeShapes Go.WideShapes Go.ChangeAt Go.RowKit
set_option linter.unusedVariables false
set_option linter.unusedSimpArgs false
set_option maxRecDepth 100000
noncomputable section
theorem c_laws_FnWorldDark {x0 : List Int} {A0 : Option Addr} {n0 c0 : Nat} {w : World} {r : Bool} (h0 : Rt w 1 eU A0 n0 c0 x0) (hM : m_laws_FnWorldDark x0 = some r) :
    Calls Tryz.prog 3 #[.slice A0 n0 c0] w (fun e w' => e = .returned (.bool r) ∧ St w w' []) := by
  obtain rfl := h0.len
  exact law_c d_laws_FnWorldDark (x := x0) hM (e := parE [(A0, c0)]) trivial ⟨_, _, rfl, ⟨_, rfl, fun _ _ S _ => S.rc0 h0.rc⟩, rfl⟩ rfl rfl rfl
end
end Go.Proofs.YtnplecoikgnpkaaGreatDoor
namespace Go.Proofs.YtnplecoikgnpkaaGreatDoor
set_option linter.unusedVariables false
set_option linter.unusedSimpArgs false
theorem getD_ge {α : Type} {l : List α} {k : Nat} {d : α} (h : k < l.length) : l.getD k d = l[k] := by simp [List.getD, h]
theorem w64_succ {k : Nat} (h : k < 4611686018427387904) : w64 ((k : Int) + 1) = ((k + 1 : Nat) : Int) := by rw [w64_in (by omega) (by omega)]; rfl
theorem fuel_gt {n : Nat} (h : n ≤ 1099511627776) : n < FUEL := by rw [FUEL_eq]; omega
theorem lt_dec {k n : Nat} (h : k < n) : ltB (k : Int) (n : Int) = true := by simp [ltB, h]
theorem ix_dec {k n : Nat} (h : k < n) : ixB (k : Int) n = true := by simp [ixB, h]
theorem nlt_dec {n : Nat} : ltB (n : Int) (n : Int) = false := by simp [ltB]
theorem inB_le (n lo hi : Int) : inB n lo hi = (leB lo n && leB n hi) := rfl
theorem loop_up {σ Out : Type} (L : Nat → σ → Option Out) (st : Nat → σ) (n : Nat) (out : Option Out) (hstep : ∀ k fuel, k < n → L (fuel + 1) (st k) = L fuel (st (k + 1))) (hend : ∀ fuel, L (fuel + 1) (st n) = out) : ∀ j k fuel, k + j = n → j < fuel → L fuel (st k) = out := by
  intro j
  induction j with
  | zero =>
    intro k fuel hk hf
    obtain ⟨f, rfl⟩ : ∃ f, fuel = f + 1 := ⟨fuel - 1, by omega⟩
    obtain rfl : k = n := by omega
    exact hend f
  | succ j ih =>
    intro k fuel hk hf
    obtain ⟨f, rfl⟩ : ∃ f, fuel = f + 1 := ⟨fuel - 1, by omega⟩
    rw [hstep k f (by omega)]
    exact ih (k + 1) f (by omega) (by omega)
theorem loop_all {σ Out : Type} (L : Nat → σ → Option Out) (st : Nat → σ) (n : Nat) (out : Option Out) (hn : n ≤ 1099511627776) (hstep : ∀ k fuel, k < n → L (fuel + 1) (st k) = L fuel (st (k + 1))) (hend : ∀ fuel, L (fuel + 1) (st n) = out) : L FUEL (st 0) = out :=
  loop_up L st n out hstep hend n 0 FUEL (by omega) (fuel_gt hn)
theorem loop_find {σ Out : Type} (L : Nat → σ → Option Out) (st : Nat → σ) (n : Nat) (P : Nat → Bool) (fv out : Option Out) (hn : n ≤ 1099511627776) (hstep : ∀ k fuel, k < n → L (fuel + 1) (st k) = bif P k then fv else L fuel (st (k + 1))) (hend : ∀ fuel, L (fuel + 1) (st n) = out) :
    L FUEL (st 0) = bif (List.range n).any P then fv else out := by
  have key : ∀ j k fuel, k + j = n → j < fuel → L fuel (st k) = bif (List.range' k j).any P then fv else out := by
    intro j
    induction j with
    | zero =>
      intro k fuel hk hf
      obtain ⟨f, rfl⟩ : ∃ f, fuel = f + 1 := ⟨fuel - 1, by omega⟩
      obtain rfl : k = n := by omega
      simpa using hend f
    | succ j ih =>
      intro k fuel hk hf
      obtain ⟨f, rfl⟩ : ∃ f, fuel = f + 1 := ⟨fuel - 1, by omega⟩
      rw [hstep k f (by omega), ih (k + 1) f (by omega) (by omega), List.range'_succ, List.any_cons]
      cases P k <;> simp
  rw [key n 0 FUEL (by omega) (fuel_gt hn), List.range_eq_range']
theorem any_list {α : Type} (l : List α) (d : α) (p : α → Bool) : (List.range l.length).any (fun k => p (l.getD k d)) = l.any p := by
  rw [Bool.eq_iff_iff, List.any_eq_true, List.any_eq_true]
  constructor
  · rintro ⟨k, hk, h⟩
    have hk : k < l.length := by simpa using hk
    exact ⟨l[k], List.getElem_mem hk, by simpa [List.getD, hk] using h⟩
  · rintro ⟨x, hx, h⟩
    obtain ⟨k, hk, rfl⟩ := List.mem_iff_getElem.1 hx
    exact ⟨k, by simpa using hk, by simpa [List.getD, hk] using h⟩
end Go.Proofs.YtnplecoikgnpkaaGreatDoor
namespace Go.Proofs.YtnplecoikgnpkaaGreatDoor
set_option linter.unusedVariables false
set_option linter.unusedSimpArgs false
theorem bitsXor_nn {x y : Int} (hx : 0 ≤ x ∧ x < 4611686018427387904) (hy : 0 ≤ y ∧ y < 4611686018427387904) : 0 ≤ bitsXor .i64 x y ∧ bitsXor .i64 x y < 4611686018427387904 := by
  have hx' : (BitVec.ofInt 64 x).toNat = x.toNat := by rw [BitVec.toNat_ofInt]; omega
  have hy' : (BitVec.ofInt 64 y).toNat = y.toNat := by rw [BitVec.toNat_ofInt]; omega
  have h : (BitVec.ofInt 64 x ^^^ BitVec.ofInt 64 y).toNat < 2 ^ 62 := by
    rw [BitVec.toNat_xor, hx', hy']
    exact Nat.xor_lt_two_pow (by omega) (by omega)
  have e : bitsXor .i64 x y = w64 ((BitVec.ofInt 64 x ^^^ BitVec.ofInt 64 y).toNat : Int) := rfl
  rw [e, w64_in (by omega) (by omega)]
  omega
structure Code (b : List Int) : Prop where
  byte : ∀ z ∈ b, 0 ≤ z ∧ z ≤ 255
  len : b.length ≤ 2000
theorem Code.at_ {b : List Int} (h : Code b) (k : Nat) : 0 ≤ b.getD k 0 ∧ b.getD k 0 ≤ 255 := by
  by_cases hk : k < b.length
  · rw [getD_ge hk]; exact h.byte _ (List.getElem_mem hk)
  · simp [List.getD, List.getElem?_eq_none (Nat.le_of_not_lt hk)]
theorem code_of {x : List Int} (h : ∀ z ∈ x, inU z) : Code (x.take 2000) :=
  ⟨fun z hz => h z (List.mem_of_mem_take hz), by simp; omega⟩
theorem pick_ok {b : List Int} (hb : Code b) {p n : Int} (hp : 0 ≤ p ∧ p ≤ 1000000) (hn : n ≤ 1000000) : ∃ v, m_spec_l20Rd_pick b p n = some (v, p + 1) ∧ 0 ≤ v ∧ (1 ≤ n → v < n) ∧ (n < 1 → v = 0) := by
  unfold m_spec_l20Rd_pick
  have w1 : w64 (p + 1) = p + 1 := w64_in (by omega) (by omega)
  have w2 : w64 (p + 1 - 1) = p := by rw [w64_in (by omega) (by omega)]; omega
  rw [w1, w2]
  have hlen := hb.len
  by_cases h1 : n < 1
  · rw [show ltB n 1 = true from decide_eq_true h1]; exact ⟨0, rfl, by omega, by omega, by omega⟩
  by_cases h2 : (b.length : Int) = 0
  · rw [show ((b.length : Int) == 0) = true by simpa using h2, Bool.or_true]; exact ⟨0, rfl, by omega, by omega, by omega⟩
  rw [show ltB n 1 = false from decide_eq_false h1, show ((b.length : Int) == 0) = false by simpa using h2]
  have hz : nzB n = true := decide_eq_true (by omega)
  have hz2 : nzB (b.length : Int) = true := decide_eq_true (by omega)
  simp only [Bool.or_self, cond_false, hz, hz2, chk_true]
  by_cases h3 : p < (b.length : Int)
  · have hi : ixB p b.length = true := by simp [ixB]; omega
    have hv := hb.at_ p.toNat
    rw [show ltB p (b.length : Int) = true from decide_eq_true h3, cond_true, hi, chk_true, w64_in (by omega) (by omega)]
    exact ⟨_, rfl, Int.tmod_nonneg _ hv.1, fun h => Int.tmod_lt_of_pos _ (by omega), by omega⟩
  · rw [show ltB p (b.length : Int) = false from decide_eq_false h3, cond_false]
    have m1 : w64 (p * 7) = p * 7 := w64_in (by omega) (by omega)
    have m2 : w64 (p * 7 + 3) = p * 7 + 3 := w64_in (by omega) (by omega)
    rw [m1, m2]
    have t1 := Int.tmod_nonneg (b.length : Int) hp.1
    have t2 := Int.tmod_lt_of_pos p (show (0 : Int) < (b.length : Int) by omega)
    have t3 := Int.tmod_nonneg (b.length : Int) (show 0 ≤ p * 7 + 3 by omega)
    have t4 := Int.tmod_lt_of_pos (p * 7 + 3) (show (0 : Int) < (b.length : Int) by omega)
    have i1 : ixB (p.tmod (b.length : Int)) b.length = true := by simp [ixB]; omega
    have i2 : ixB ((p * 7 + 3).tmod (b.length : Int)) b.length = true := by simp [ixB]; omega
    rw [i1, i2]
    simp only [chk_true]
    have v1 := hb.at_ (p.tmod (b.length : Int)).toNat
    have v2 := hb.at_ ((p * 7 + 3).tmod (b.length : Int)).toNat
    generalize b.getD (p.tmod (b.length : Int)).toNat 0 = c1 at *
    generalize b.getD ((p * 7 + 3).tmod (b.length : Int)).toNat 0 = c2 at *
    have q0 : 0 ≤ p.tdiv (b.length : Int) := Int.tdiv_nonneg hp.1 (by omega)
    have q1 : p.tdiv (b.length : Int) ≤ p := Int.tdiv_le_self _ hp.1
    generalize p.tdiv (b.length : Int) = q at *
    have a1 : w64 c1 = c1 := w64_in (by omega) (by omega)
    have a2 : w64 c2 = c2 := w64_in (by omega) (by omega)
    have a3 : w64 (c1 * 131) = c1 * 131 := w64_in (by omega) (by omega)
    have a4 : w64 (c2 * 1117) = c2 * 1117 := w64_in (by omega) (by omega)
    have a5 : w64 (c1 * 131 + c2 * 1117) = c1 * 131 + c2 * 1117 := w64_in (by omega) (by omega)
    have a6 : w64 (p * 29) = p * 29 := w64_in (by omega) (by omega)
    have a7 : w64 (c1 * 131 + c2 * 1117 + p * 29) = c1 * 131 + c2 * 1117 + p * 29 := w64_in (by omega) (by omega)
    have a8 : w64 q = q := w64_in (by omega) (by omega)
    have a9 : w64 (q * 53) = q * 53 := w64_in (by omega) (by omega)
    have a10 : w64 (c1 * 131 + c2 * 1117 + p * 29 + q * 53) = c1 * 131 + c2 * 1117 + p * 29 + q * 53 := w64_in (by omega) (by omega)
    simp only [a1, a2, a3, a4, a5, a6, a7, a8, a9, a10]
    have b0 : 0 ≤ c1 * 131 + c2 * 1117 + p * 29 + q * 53 := by omega
    have b1 : c1 * 131 + c2 * 1117 + p * 29 + q * 53 < 1000000000 := by omega
    generalize c1 * 131 + c2 * 1117 + p * 29 + q * 53 = x at *
    have d0 : 0 ≤ x.tdiv 64 := Int.tdiv_nonneg b0 (by decide)
    have d1 : x.tdiv 64 ≤ x := Int.tdiv_le_self _ b0
    rw [w64_in (by omega : -9223372036854775808 ≤ x.tdiv 64) (by omega)]
    have hx := bitsXor_nn (x := x) (y := x.tdiv 64) ⟨b0, by omega⟩ ⟨d0, by omega⟩
    exact ⟨_, rfl, Int.tmod_nonneg _ hx.1, fun h => Int.tmod_lt_of_pos _ (by omega), by omega⟩
theorem odd_ok {b : List Int} (hb : Code b) {p n : Int} (hp : 0 ≤ p ∧ p ≤ 1000000) (hn : 1 ≤ n ∧ n ≤ 1000000) : ∃ v, m_spec_l20Rd_odd b p n = some (v, p + 1) := by
  obtain ⟨v, h1, _⟩ := pick_ok hb hp hn.2
  unfold m_spec_l20Rd_odd
  rw [show ltB 0 n = true from decide_eq_true (by omega), cond_true, h1]
  exact ⟨_, rfl⟩
theorem alive_ok : m_laws_alive = some true := by
  have h : ∀ fuel, m_impl_NetValid_l1 2 [(0, 1, 1)] (fuel + 2) 0 = some (.inl ()) := by
    intro fuel
    rw [m_impl_NetValid_l1.eq_2]
    have : m_impl_NetValid_l1 2 [(0, 1, 1)] (fuel + 1) 1 = some (.inl ()) := by rw [m_impl_NetValid_l1.eq_2]; rfl
    exact this
  have hF : FUEL = 4611686018427387902 + 2 := FUEL_eq
  have hv : m_impl_NetValid 2 [(0, 1, 1)] = some true := by unfold m_impl_NetValid; rw [hF, h]; rfl
  unfold m_laws_alive m_impl_OtherEnd
  rw [hv]
  simp [gb, m_impl_Net_hasLine, m_impl_Line_other, m_impl_NetText_bad, m_impl_NetValid, ltB, leB, ixB]
end Go.Proofs.YtnplecoikgnpkaaGreatDoor
namespace Go.Proofs.YtnplecoikgnpkaaGreatDoor
set_option linter.unusedVariables false
set_option linter.unusedSimpArgs false
def Ys {α : Type} (m : Option α) (P : α → Prop) : Prop := ∃ r, m = some r ∧ P r
section
variable {α β γ : Type} {P Q : α → Prop} {m x y : Option α} {b g : Bool}
theorem ys_some {a : α} (h : P a) : Ys (some a) P := ⟨a, rfl, h⟩
theorem ys_bind {m : Option β} {f : β → Option α} {Q : β → Prop} (h : Ys m Q) (k : ∀ b, Q b → Ys (f b) P) : Ys (Option.bind m f) P := by
  obtain ⟨b, rfl, h1⟩ := h
  exact k b h1
theorem ys_then {m : Option β} {f : β → Option α} (h : Ys m fun b => Ys (f b) P) : Ys (Option.bind m f) P := ys_bind h fun _ k => k
theorem ys_chk (h : b = true) (k : Ys m P) : Ys (chk b m) P := by subst h; exact k
theorem ys_bif (h1 : b = true → Ys x P) (h2 : b = false → Ys y P) : Ys (bif b then x else y) P := by
  cases b with
  | true => exact h1 rfl
  | false => exact h2 rfl
theorem ys_eq {a : α} (h : m = some a) (k : P a) : Ys m P := ⟨a, h, k⟩
theorem ys_loop {σ : Type} {R : α → Prop} (L : Nat → σ → Option α) (μ : σ → Nat) (I : σ → Prop) (hstep : ∀ fuel s, I s → (∀ s', I s' → μ s' < μ s → Ys (L fuel s') R) → Ys (L (fuel + 1) s) R) : ∀ (fuel : Nat) (s : σ), I s → μ s < fuel → Ys (L fuel s) R := by
  intro fuel
  induction fuel with
  | zero => intro s _ h; omega
  | succ fuel ih => intro s hs hm; exact hstep fuel s hs fun s' h1 h2 => ih s' h1 (by omega)
end
theorem ys_pick {b : List Int} {P : Int × Int → Prop} (hb : Code b) {p n : Int} (hp : 0 ≤ p ∧ p ≤ 1000000) (hn : n ≤ 1000000) (h : ∀ v, 0 ≤ v → (1 ≤ n → v < n) → (n < 1 → v = 0) → P (v, p + 1)) : Ys (m_spec_l20Rd_pick b p n) P := by
  obtain ⟨v, h1, h2, h3, h4⟩ := pick_ok hb hp hn
  exact ⟨_, h1, h v h2 h3 h4⟩
theorem ys_odd {b : List Int} {P : Bool × Int → Prop} (hb : Code b) {p n : Int} (hp : 0 ≤ p ∧ p ≤ 1000000) (hn : 1 ≤ n ∧ n ≤ 1000000) (h : ∀ v, P (v, p + 1)) : Ys (m_spec_l20Rd_odd b p n) P := by
  obtain ⟨v, h1⟩ := odd_ok hb hp hn
  exact ⟨_, h1, h v⟩
theorem wM {n : Int} (h : -1000000000 ≤ n ∧ n ≤ 1000000000) : w64 n = n := w64_in (by omega) (by omega)
end Go.Proofs.YtnplecoikgnpkaaGreatDoor
namespace Go.Proofs.YtnplecoikgnpkaaGreatDoor
set_option linter.unusedVariables false
set_option linter.unusedSimpArgs false
theorem same_loop {α Out : Type} [BEq α] (L : Nat → Int → Option Out) (a b : List α) (d : α) (no yes : Option Out) (hn : a.length ≤ 1099511627776) (hab : a.length = b.length)
    (hstep : ∀ fuel (k : Nat), k < a.length → L (fuel + 1) (k : Int) = bif (a.getD k d != b.getD k d) then no else L fuel ((k + 1 : Nat) : Int)) (hend : ∀ fuel, L (fuel + 1) (a.length : Int) = yes) :
    L FUEL 0 = bif (List.range a.length).any (fun k => a.getD k d != b.getD k d) then no else yes := by
  have h := loop_find L (fun k => (k : Int)) a.length (fun k => a.getD k d != b.getD k d) no yes hn (fun k fuel hk => hstep fuel k hk) hend
  simpa using h
theorem any_ne {α : Type} [BEq α] [LawfulBEq α] [DecidableEq α] (a b : List α) (d : α) (hab : a.length = b.length) : (List.range a.length).any (fun k => a.getD k d != b.getD k d) = !decide (a = b) := by
  rw [Bool.eq_iff_iff]
  simp only [List.any_eq_true, List.mem_range, bne_iff_ne, ne_eq, Bool.not_eq_true', decide_eq_false_iff_not]
  constructor
  · rintro ⟨k, hk, h⟩ rfl; exact h rfl
  · intro h
    refine Classical.byContradiction fun hc => h (List.ext_getElem hab fun k h1 h2 => ?_)
    have := Classical.byContradiction fun hk => hc ⟨k, h1, hk⟩
    rwa [getD_ge h1, getD_ge h2] at this
theorem sameInts_eq (a b : List Int) (hn : a.length ≤ 1099511627776) : m_laws_sameInts a b = some (decide (a = b)) := by
  unfold m_laws_sameInts
  by_cases h : a.length = b.length
  · rw [show ((a.length : Int) != (b.length : Int)) = false by simp [h]]
    rw [same_loop (m_laws_sameInts_l1 a b) a b 0 (some (.inr false)) (some (.inl ())) hn h (fun fuel k hk => by
      rw [m_laws_sameInts_l1.eq_2]
      simp only [lt_dec hk, ix_dec hk, ix_dec (show k < b.length by omega), chk_true, cond_true, Int.toNat_natCast, w64_succ (by omega : k < 4611686018427387904)]) (fun fuel => by rw [m_laws_sameInts_l1.eq_2]; simp [nlt_dec]), any_ne a b 0 h]
    cases decide (a = b) <;> rfl
  · rw [show ((a.length : Int) != (b.length : Int)) = true by simp; omega]
    have : a ≠ b := fun e => h (by rw [e])
    simp [this]
end Go.Proofs.YtnplecoikgnpkaaGreatDoor
namespace Go.Proofs.YtnplecoikgnpkaaGreatDoor
set_option linter.unusedVariables false
set_option linter.unusedSimpArgs false
theorem loop_first {σ Out : Type} (L : Nat → σ → Option Out) (st : Nat → σ) (n : Nat) (P : Nat → Bool) (fv : Nat → Option Out) (out : Option Out) (hn : n ≤ 1099511627776) (hstep : ∀ k fuel, k < n → L (fuel + 1) (st k) = bif P k then fv k else L fuel (st (k + 1))) (hend : ∀ fuel, L (fuel + 1) (st n) = out) :
    L FUEL (st 0) = match (List.range n).find? P with | some k => fv k | none => out := by
  have key : ∀ j k fuel, k + j = n → j < fuel → L fuel (st k) = match (List.range' k j).find? P with | some k => fv k | none => out := by
    intro j
    induction j with
    | zero =>
      intro k fuel hk hf
      obtain ⟨f, rfl⟩ : ∃ f, fuel = f + 1 := ⟨fuel - 1, by omega⟩
      obtain rfl : k = n := by omega
      simpa using hend f
    | succ j ih =>
      intro k fuel hk hf
      obtain ⟨f, rfl⟩ : ∃ f, fuel = f + 1 := ⟨fuel - 1, by omega⟩
      rw [hstep k f (by omega), ih (k + 1) f (by omega) (by omega), List.range'_succ, List.find?_cons]
      cases P k <;> simp
  rw [key n 0 FUEL (by omega) (fuel_gt hn), List.range_eq_range']
abbrev Pm := List (Int × Int)
abbrev Wk := List Bool × List Bool × Pm
def fnd (l : Pm) (p : Int × Int) : Int := match (List.range l.length).find? (fun k => (l.getD k (0, 0)).1 == p.1 && (l.getD k (0, 0)).2 == p.2) with | some k => (k : Int) | none => -1
theorem fnd_spec (l : Pm) (p : Int × Int) : (fnd l p = -1 ∧ p ∉ l) ∨ (∃ k, k < l.length ∧ fnd l p = (k : Int) ∧ l.getD k (0, 0) = p ∧ ∀ j, j < k → l.getD j (0, 0) ≠ p) := by
  unfold fnd
  cases h : (List.range l.length).find? (fun k => (l.getD k (0, 0)).1 == p.1 && (l.getD k (0, 0)).2 == p.2) with
  | none =>
    left
    refine ⟨rfl, fun hp => ?_⟩
    obtain ⟨k, hk, rfl⟩ := List.mem_iff_getElem.1 hp
    have := List.find?_eq_none.1 h k (by simpa using hk)
    rw [getD_ge hk] at this
    simp at this
  | some k =>
    right
    obtain ⟨h1, h2, h3⟩ := List.find?_range_eq_some.1 h
    have hk : k < l.length := by simpa using h2
    simp only [Bool.and_eq_true, beq_iff_eq] at h1
    refine ⟨k, hk, rfl, Prod.ext h1.1 h1.2, fun j hj e => ?_⟩
    have := h3 j hj
    rw [e] at this
    simp at this
theorem fnd_mem {l : Pm} {p : Int × Int} : leB 0 (fnd l p) = decide (p ∈ l) := by
  rcases fnd_spec l p with ⟨h1, h2⟩ | ⟨k, hk, h1, h2, h3⟩
  · rw [h1]; simp [leB, h2]
  · have : p ∈ l := by rw [← h2, getD_ge hk]; exact List.getElem_mem hk
    rw [h1]; simp [leB, this]
theorem mem_take_get {l : Pm} {p : Int × Int} {k : Nat} : p ∈ l.take k ↔ ∃ j, j < k ∧ j < l.length ∧ l.getD j (0, 0) = p := by
  constructor
  · intro h
    obtain ⟨j, hj, rfl⟩ := List.mem_iff_getElem.1 h
    have hj' : j < k ∧ j < l.length := by rw [List.length_take] at hj; omega
    exact ⟨j, hj'.1, hj'.2, by rw [getD_ge hj'.2]; simp⟩
  · rintro ⟨j, h1, h2, rfl⟩
    rw [getD_ge h2]
    exact List.mem_iff_getElem.2 ⟨j, by simp; omega, by simp⟩
theorem fnd_take {l : Pm} {k : Nat} (hk : k < l.length) : ltB (fnd l (l.getD k (0, 0))) (k : Int) = decide (l.getD k (0, 0) ∈ l.take k) := by
  rcases fnd_spec l (l.getD k (0, 0)) with ⟨h1, h2⟩ | ⟨i, hi, h1, h2, h3⟩
  · exact absurd (by rw [getD_ge hk]; exact List.getElem_mem hk) h2
  · rw [h1]
    have hle : i ≤ k := by
      rcases Nat.lt_or_ge k i with h | h
      · exact absurd rfl (h3 k h)
      · exact h
    rcases Nat.lt_or_ge i k with h | h
    · have : l.getD k (0, 0) ∈ l.take k := mem_take_get.2 ⟨i, h, hi, h2⟩
      rw [decide_eq_true this]; exact decide_eq_true (by omega)
    · obtain rfl : i = k := by omega
      have : ¬ l.getD i (0, 0) ∈ l.take i := fun hm => by
        obtain ⟨j, j1, j2, j3⟩ := mem_take_get.1 hm
        exact h3 j j1 j3
      rw [decide_eq_false this]; exact decide_eq_false (by omega)
def pmOk (on earth : List Bool) (pm : Pm) (k : Nat) : Bool :=
  inB (pm.getD k (0, 0)).1 0 9 && (decide (0 ≤ (pm.getD k (0, 0)).2) && decide ((pm.getD k (0, 0)).2 < (on.length : Int))) && earth.getD (pm.getD k (0, 0)).2.toNat false && !decide (pm.getD k (0, 0) ∈ pm.take k)
def workV (on earth : List Bool) (pm : Pm) : Bool :=
  inB (on.length : Int) 1 10 && (earth.length == on.length) && decide (pm.length ≤ 6) && (!(List.range on.length).any fun k => on.getD k false && earth.getD k false) && !(List.range pm.length).any fun k => !pmOk on earth pm k
structure WorkOk (on earth : List Bool) (pm : Pm) : Prop where
  l0 : 1 ≤ on.length
  l1 : on.length ≤ 10
  le : earth.length = on.length
  lp : pm.length ≤ 6
  ne : ∀ k, on.getD k false = true → earth.getD k false = false
  pm : ∀ k, k < pm.length → (0 ≤ (pm.getD k (0, 0)).1 ∧ (pm.getD k (0, 0)).1 ≤ 9) ∧ (0 ≤ (pm.getD k (0, 0)).2 ∧ (pm.getD k (0, 0)).2 < (on.length : Int)) ∧ earth.getD (pm.getD k (0, 0)).2.toNat false = true ∧ pm.getD k (0, 0) ∉ pm.take k
theorem pmOk_iff {on earth : List Bool} {pm : Pm} {k : Nat} : pmOk on earth pm k = true ↔ (0 ≤ (pm.getD k (0, 0)).1 ∧ (pm.getD k (0, 0)).1 ≤ 9) ∧ (0 ≤ (pm.getD k (0, 0)).2 ∧ (pm.getD k (0, 0)).2 < (on.length : Int)) ∧ earth.getD (pm.getD k (0, 0)).2.toNat false = true ∧ pm.getD k (0, 0) ∉ pm.take k := by
  simp only [pmOk, Bool.and_eq_true, inB_iff, decide_eq_true_eq, Bool.not_eq_true', decide_eq_false_iff_not, and_assoc]
theorem any_f {n : Nat} {f : Nat → Bool} : (!(List.range n).any f) = true ↔ ∀ k, k < n → f k = false := by
  rw [Bool.not_eq_true', List.any_eq_false]
  simp only [List.mem_range, Bool.not_eq_true]
theorem workV_iff {on earth : List Bool} {pm : Pm} : workV on earth pm = true ↔ WorkOk on earth pm := by
  unfold workV
  rw [Bool.and_eq_true, any_f, Bool.and_eq_true, any_f, Bool.and_eq_true, Bool.and_eq_true, inB_iff, beq_iff_eq, decide_eq_true_eq]
  constructor
  · rintro ⟨⟨⟨⟨h1, h2⟩, h3⟩, h4⟩, h5⟩
    refine ⟨by omega, by omega, h2, h3, fun k hk => ?_, fun k hk => pmOk_iff.1 (by have := h5 k hk; simpa using this)⟩
    by_cases hl : k < on.length
    · have := h4 k hl
      rw [hk] at this
      simpa using this
    · simp [List.getD, List.getElem?_eq_none (Nat.le_of_not_lt hl)] at hk
  · intro h
    have := h.l0; have := h.l1
    refine ⟨⟨⟨⟨by omega, h.le⟩, h.lp⟩, fun k hk => ?_⟩, fun k hk => by rw [pmOk_iff.2 (h.pm k hk)]; rfl⟩
    cases ho : on.getD k false
    · rfl
    · rw [h.ne k ho]; rfl
theorem inB10 (n : Int) : inB n 1 10 = (!ltB n 1 && !ltB 10 n) := by rw [Bool.eq_iff_iff]; simp [inB, ltB]
theorem lt6 (n : Nat) : ltB 6 (n : Int) = !decide (n ≤ 6) := by rw [Bool.eq_iff_iff]; simp [ltB]; omega
theorem bne_len (a b : Nat) : ((a : Int) != (b : Int)) = !(a == b) := by rw [Bool.eq_iff_iff]; simp; omega
def heldOf (pm : Pm) (line : Int) : List Int := (pm.filter (·.2 == line)).map (·.1)
theorem held_step {pm : Pm} {line : Int} {k : Nat} (hk : k < pm.length) : heldOf (pm.take (k + 1)) line = if (pm.getD k (0, 0)).2 == line then heldOf (pm.take k) line ++ [(pm.getD k (0, 0)).1] else heldOf (pm.take k) line := by
  unfold heldOf
  rw [List.take_succ_eq_append_getElem hk, List.filter_append, List.map_append, getD_ge hk]
  cases h : pm[k].2 == line <;> simp [h]
theorem held_len (pm : Pm) (line : Int) : (heldOf pm line).length ≤ pm.length := by
  unfold heldOf; rw [List.length_map]; exact List.length_filter_le _ _
def wkMay (w : Wk) (kd a who : Int) : Bool :=
  if kd = 0 ∨ kd = 2 then !w.1.getD a.toNat false && !w.2.1.getD a.toNat false
  else if kd = 1 then w.1.getD a.toNat false
  else if kd = 3 then w.2.1.getD a.toNat false && decide (heldOf w.2.2 a = [])
  else if kd = 4 then w.2.1.getD a.toNat false && (inB who 0 9 && !decide ((who, a) ∈ w.2.2) && decide (w.2.2.length < 6))
  else if kd = 5 then decide ((who, a) ∈ w.2.2)
  else false
def wkPut (w : Wk) (kd a who : Int) : Wk :=
  if kd = 0 then (w.1.set a.toNat true, w.2.1, w.2.2)
  else if kd = 1 then (w.1.set a.toNat false, w.2.1, w.2.2)
  else if kd = 2 then (w.1, w.2.1.set a.toNat true, w.2.2)
  else if kd = 3 then (w.1, w.2.1.set a.toNat false, w.2.2)
  else if kd = 4 then (w.1, w.2.1, w.2.2 ++ [(who, a)])
  else (w.1, w.2.1, w.2.2.take (fnd w.2.2 (who, a)).toNat ++ w.2.2.drop ((fnd w.2.2 (who, a)).toNat + 1))
def wkDo (w : Wk) (kd a who : Int) : Wk × Bool :=
  if workV w.1 w.2.1 w.2.2 then (if 0 ≤ a ∧ a < (w.1.length : Int) ∧ wkMay w kd a who = true then (wkPut w kd a who, true) else (w, false)) else (([], [], []), false)
def out4w (r : Wk × Bool) : List Bool × List Bool × Pm × Bool := (r.1.1, r.1.2.1, r.1.2.2, r.2)
theorem nil_dec (l : List Int) : ((l.length : Int) == 0) = decide (l = []) := by cases l <;> simp; omega
theorem put_len (w : Wk) (kd a who : Int) : (wkPut w kd a who).1.length = w.1.length ∧ (wkPut w kd a who).2.1.length = w.2.1.length ∧ (wkPut w kd a who).2.2.length ≤ w.2.2.length + 1 := by
  unfold wkPut
  repeat' split
  all_goals simp
  omega
end Go.Proofs.YtnplecoikgnpkaaGreatDoor
namespace Go.Proofs.YtnplecoikgnpkaaGreatDoor
set_option linter.unusedVariables false
set_option linter.unusedSimpArgs false
theorem gset {α : Type} {l : List α} {k : Nat} {y d : α} (hk : k < l.length) : (l.set k y).getD k d = y := by simp [List.getD, hk]
theorem gset_ne {α : Type} {l : List α} {i j : Nat} {y d : α} (h : i ≠ j) : (l.set i y).getD j d = l.getD j d := by simp [List.getD, List.getElem?_set_ne h]
theorem gout {α : Type} {l : List α} {k : Nat} {d : α} (h : l.length ≤ k) : l.getD k d = d := by simp [List.getD, List.getElem?_eq_none h]
structure WOk (w : Wk) : Prop where
  l0 : 1 ≤ w.1.length
  l1 : w.1.length ≤ 10
  le : w.2.1.length = w.1.length
  lp : w.2.2.length ≤ 6
  ne : ∀ k, w.1.getD k false = true → w.2.1.getD k false = false
  pm : ∀ p ∈ w.2.2, (0 ≤ p.1 ∧ p.1 ≤ 9) ∧ (0 ≤ p.2 ∧ p.2 < (w.1.length : Int)) ∧ w.2.1.getD p.2.toNat false = true
  nd : w.2.2.Nodup
theorem wok_iff {w : Wk} : workV w.1 w.2.1 w.2.2 = true ↔ WOk w := by
  rw [workV_iff]
  constructor
  · intro h
    refine ⟨h.l0, h.l1, h.le, h.lp, h.ne, fun p hp => ?_, ?_⟩
    · obtain ⟨k, hk, rfl⟩ := List.mem_iff_getElem.1 hp
      have := h.pm k hk
      rw [getD_ge hk] at this
      exact ⟨this.1, this.2.1, this.2.2.1⟩
    · rw [List.nodup_iff_pairwise_ne, List.pairwise_iff_getElem]
      intro i j hi hj hij e
      refine (h.pm j hj).2.2.2 (mem_take_get.2 ⟨i, hij, hi, ?_⟩)
      rw [getD_ge hi, getD_ge hj, e]
  · intro h
    refine ⟨h.l0, h.l1, h.le, h.lp, h.ne, fun k hk => ?_⟩
    have hm := h.pm (w.2.2.getD k (0, 0)) (by rw [getD_ge hk]; exact List.getElem_mem hk)
    refine ⟨hm.1, hm.2.1, hm.2.2, fun ht => ?_⟩
    obtain ⟨j, h1, h2, h3⟩ := mem_take_get.1 ht
    have hp := h.nd
    rw [List.nodup_iff_pairwise_ne, List.pairwise_iff_getElem] at hp
    rw [getD_ge h2, getD_ge hk] at h3
    exact hp j k h2 hk h1 h3
theorem ret_split {w : Wk} {a who : Int} (hm : (who, a) ∈ w.2.2) : ∃ A B, w.2.2 = A ++ (who, a) :: B ∧ wkPut w 5 a who = (w.1, w.2.1, A ++ B) := by
  rcases fnd_spec w.2.2 (who, a) with ⟨h1, h2⟩ | ⟨k, hk, h1, h2, h3⟩
  · exact absurd hm h2
  refine ⟨w.2.2.take k, w.2.2.drop (k + 1), ?_, ?_⟩
  · rw [← h2, getD_ge hk]; simp
  · unfold wkPut
    rw [if_neg (by decide), if_neg (by decide), if_neg (by decide), if_neg (by decide), if_neg (by decide), h1, Int.toNat_natCast]
theorem held_mem {pm : Pm} {line x : Int} : x ∈ heldOf pm line ↔ (x, line) ∈ pm := by
  simp only [heldOf, List.mem_map, List.mem_filter, beq_iff_eq]
  constructor
  · rintro ⟨p, ⟨h1, h2⟩, h3⟩
    rw [← h3, ← h2]; exact h1
  · intro h; exact ⟨(x, line), ⟨h, rfl⟩, rfl⟩
theorem nd_mid {A B : Pm} {p : Int × Int} (h : (A ++ p :: B).Nodup) : (A ++ B).Nodup ∧ p ∉ A ++ B := by
  rw [List.nodup_append] at h
  obtain ⟨h1, h2, h3⟩ := h
  rw [List.nodup_cons] at h2
  refine ⟨List.nodup_append.2 ⟨h1, h2.2, fun a ha b hb => h3 a ha b (by simp [hb])⟩, fun hm => ?_⟩
  rcases List.mem_append.1 hm with hm | hm
  · exact h3 p hm p (by simp) rfl
  · exact h2.1 hm
theorem put_ok {w : Wk} {kd a who : Int} (h : WOk w) (ha : 0 ≤ a ∧ a < (w.1.length : Int)) (hm : wkMay w kd a who = true) : WOk (wkPut w kd a who) ∧ wkPut w kd a who ≠ w ∧ wkMay (wkPut w kd a who) kd a who = false := by
  have hal : a.toNat < w.1.length := by omega
  have hae : a.toNat < w.2.1.length := by have := h.le; omega
  by_cases k0 : kd = 0
  · subst k0
    have hm : w.1.getD a.toNat false = false ∧ w.2.1.getD a.toNat false = false := by simpa only [wkMay, true_or, if_true, Bool.and_eq_true, Bool.not_eq_true'] using hm
    have e : wkPut w 0 a who = (w.1.set a.toNat true, w.2.1, w.2.2) := rfl
    rw [e]
    refine ⟨⟨by simpa using h.l0, by simpa using h.l1, by simpa using h.le, h.lp, fun k hk => ?_, fun p hp => by simpa using h.pm p hp, h.nd⟩, fun hc => ?_, ?_⟩
    · by_cases hka : a.toNat = k
      · rw [← hka]; exact hm.2
      · exact h.ne k (by rwa [gset_ne hka] at hk)
    · have := congrArg (fun w : Wk => w.1.getD a.toNat false) hc
      simp only [gset hal, hm.1] at this
      cases this
    · simp only [wkMay, true_or, if_true, gset hal]; rfl
  by_cases k1 : kd = 1
  · subst k1
    have hm : w.1.getD a.toNat false = true := hm
    have e : wkPut w 1 a who = (w.1.set a.toNat false, w.2.1, w.2.2) := rfl
    rw [e]
    refine ⟨⟨by simpa using h.l0, by simpa using h.l1, by simpa using h.le, h.lp, fun k hk => ?_, fun p hp => by simpa using h.pm p hp, h.nd⟩, fun hc => ?_, ?_⟩
    · by_cases hka : a.toNat = k
      · rw [← hka] at hk; rw [gset hal] at hk; cases hk
      · exact h.ne k (by rwa [gset_ne hka] at hk)
    · have := congrArg (fun w : Wk => w.1.getD a.toNat false) hc
      simp only [gset hal, hm] at this
      cases this
    · exact gset hal
  by_cases k2 : kd = 2
  · subst k2
    have hm : w.1.getD a.toNat false = false ∧ w.2.1.getD a.toNat false = false := by simpa only [wkMay, or_true, if_true, Bool.and_eq_true, Bool.not_eq_true'] using hm
    have e : wkPut w 2 a who = (w.1, w.2.1.set a.toNat true, w.2.2) := rfl
    rw [e]
    refine ⟨⟨h.l0, h.l1, by simpa using h.le, h.lp, fun k hk => ?_, fun p hp => ?_, h.nd⟩, fun hc => ?_, ?_⟩
    · by_cases hka : a.toNat = k
      · rw [← hka] at hk; rw [hm.1] at hk; cases hk
      · rw [gset_ne hka]; exact h.ne k hk
    · obtain ⟨p1, p2, p3⟩ := h.pm p hp
      refine ⟨p1, p2, ?_⟩
      by_cases hka : a.toNat = p.2.toNat
      · rw [← hka, gset hae]
      · rw [gset_ne hka]; exact p3
    · have := congrArg (fun w : Wk => w.2.1.getD a.toNat false) hc
      simp only [gset hae, hm.2] at this
      cases this
    · simp only [wkMay, or_true, if_true, gset hae]; simp
  by_cases k3 : kd = 3
  · subst k3
    have hm : w.2.1.getD a.toNat false = true ∧ heldOf w.2.2 a = [] := by
      have : (w.2.1.getD a.toNat false && decide (heldOf w.2.2 a = [])) = true := hm
      simpa only [Bool.and_eq_true, decide_eq_true_eq] using this
    have e : wkPut w 3 a who = (w.1, w.2.1.set a.toNat false, w.2.2) := rfl
    rw [e]
    refine ⟨⟨h.l0, h.l1, by simpa using h.le, h.lp, fun k hk => ?_, fun p hp => ?_, h.nd⟩, fun hc => ?_, ?_⟩
    · by_cases hka : a.toNat = k
      · rw [← hka, gset hae]
      · rw [gset_ne hka]; exact h.ne k hk
    · obtain ⟨p1, p2, p3⟩ := h.pm p hp
      refine ⟨p1, p2, ?_⟩
      have hka : a.toNat ≠ p.2.toNat := fun hka => by
        have hpa : p.2 = a := by omega
        have : p.1 ∈ heldOf w.2.2 a := held_mem.2 (by rw [← hpa]; exact hp)
        rw [hm.2] at this; simp at this
      rw [gset_ne hka]; exact p3
    · have := congrArg (fun w : Wk => w.2.1.getD a.toNat false) hc
      simp only [gset hae, hm.1] at this
      cases this
    · show ((w.2.1.set a.toNat false).getD a.toNat false && _) = false
      rw [gset hae]; rfl
  by_cases k4 : kd = 4
  · subst k4
    have hm : w.2.1.getD a.toNat false = true ∧ (0 ≤ who ∧ who ≤ 9) ∧ (who, a) ∉ w.2.2 ∧ w.2.2.length < 6 := by
      have : (w.2.1.getD a.toNat false && (inB who 0 9 && !decide ((who, a) ∈ w.2.2) && decide (w.2.2.length < 6))) = true := hm
      simp only [Bool.and_eq_true, decide_eq_true_eq, inB_iff, Bool.not_eq_true', decide_eq_false_iff_not] at this
      exact ⟨this.1, this.2.1.1, this.2.1.2, this.2.2⟩
    have e : wkPut w 4 a who = (w.1, w.2.1, w.2.2 ++ [(who, a)]) := rfl
    rw [e]
    refine ⟨⟨h.l0, h.l1, h.le, by simp; omega, h.ne, fun p hp => ?_, ?_⟩, fun hc => ?_, ?_⟩
    · rcases List.mem_append.1 hp with hp | hp
      · exact h.pm p hp
      · have hp : p = (who, a) := by simpa using hp
        subst hp
        exact ⟨hm.2.1, ha, hm.1⟩
    · refine List.nodup_append.2 ⟨h.nd, by simp, fun x hx y hy e => ?_⟩
      have hy : y = (who, a) := by simpa using hy
      rw [e, hy] at hx
      exact hm.2.2.1 hx
    · have := congrArg (fun w : Wk => w.2.2.length) hc
      simp at this
    · show (w.2.1.getD a.toNat false && (inB who 0 9 && !decide ((who, a) ∈ w.2.2 ++ [(who, a)]) && decide ((w.2.2 ++ [(who, a)]).length < 6))) = false
      simp
  by_cases k5 : kd = 5
  · subst k5
    have hmem : (who, a) ∈ w.2.2 := by
      have : decide ((who, a) ∈ w.2.2) = true := hm
      simpa using this
    obtain ⟨A, B, e1, e2⟩ := ret_split hmem
    have hnd := h.nd
    rw [e1] at hnd
    obtain ⟨n1, n2⟩ := nd_mid hnd
    rw [e2]
    have hlp := h.lp
    rw [e1] at hlp
    refine ⟨⟨h.l0, h.l1, h.le, by simp at hlp ⊢; omega, h.ne, fun p hp => h.pm p ?_, n1⟩, fun hc => ?_, ?_⟩
    · rw [e1]
      rcases List.mem_append.1 hp with hp | hp
      · simp [hp]
      · simp [hp]
    · have := congrArg (fun w : Wk => w.2.2.length) hc
      rw [e1] at this
      simp at this <;> omega
    · show decide ((who, a) ∈ A ++ B) = false
      exact decide_eq_false n2
  · simp [wkMay, k0, k1, k2, k3, k4, k5] at hm
theorem do_cases {w : Wk} (h : WOk w) (kd a who : Int) : (wkDo w kd a who = (wkPut w kd a who, true) ∧ (0 ≤ a ∧ a < (w.1.length : Int)) ∧ wkMay w kd a who = true ∧ WOk (wkPut w kd a who)) ∨ (wkDo w kd a who = (w, false) ∧ ¬ ((0 ≤ a ∧ a < (w.1.length : Int)) ∧ wkMay w kd a who = true)) := by
  unfold wkDo
  rw [if_pos (wok_iff.2 h)]
  by_cases hc : 0 ≤ a ∧ a < (w.1.length : Int) ∧ wkMay w kd a who = true
  · rw [if_pos hc]; exact .inl ⟨rfl, ⟨hc.1, hc.2.1⟩, hc.2.2, (put_ok h ⟨hc.1, hc.2.1⟩ hc.2.2).1⟩
  · rw [if_neg hc]; exact .inr ⟨rfl, fun hh => hc ⟨hh.1.1, hh.1.2, hh.2⟩⟩
end Go.Proofs.YtnplecoikgnpkaaGreatDoor
