/- Texts of the claim, one behind the other: Da1, Pu, WkA, WkP. -/
import Derived.Test.YtcmnjaccapbhfaaGreatRExactWorldRun4
namespace Go.Proofs.YtcmnjaccapbhfaaGreat
open Go.ChangeShapes Go.WideShapes Go.ChangeAt Go.RowKit
set_option linter.unusedVariables false
set_option linter.unusedSimpArgs false
set_option maxRecDepth 100000
noncomputable section
def tys : List (Nat × TyI) := [(3, ⟨.int .i64, 1, 8, [.int .i64 0], (.int .i64)⟩), (4, ⟨.bo, 1, 1, [.bool false], .b⟩), (22, ⟨.sl 141, 1, 24, [.ns], .b⟩), (24, ⟨.ag [(0, 1), (1, 1)], 2, 32, [.int .i64 0, .ns], .b⟩), (25, ⟨.sl 112, 1, 24, [.ns], .b⟩), (26, ⟨.sl 4, 1, 24, [.ns], .b⟩), (27, ⟨.sl 143, 1, 24, [.ns], .b⟩), (29, ⟨.ag [(0, 1), (1, 1), (2, 1)], 3, 72, [.ns, .ns, .ns], .b⟩), (30, ⟨.sl 3, 1, 24, [.ns], .b⟩), (32, ⟨.ag [(0, 2), (2, 1), (3, 3), (6, 1)], 7, 152, [.int .i64 0, .ns, .ns, .ns, .ns, .ns, .ns], .b⟩), (35, ⟨.sl 130, 1, 24, [.ns], .b⟩), (37, ⟨.ag [(0, 1), (1, 1)], 2, 32, [.int .i64 0, .ns], .b⟩), (38, ⟨.sl 110, 1, 24, [.ns], .b⟩), (39, ⟨.sl 78, 1, 24, [.ns], .b⟩), (41, ⟨.ag [(0, 1), (1, 1), (2, 1)], 3, 72, [.ns, .ns, .ns], .b⟩), (43, ⟨.ag [(0, 2), (2, 1), (3, 3), (6, 1)], 7, 152, [.int .i64 0, .ns, .ns, .ns, .ns, .ns, .ns], .b⟩), (47, ⟨.sl 56, 1, 24, [.ns], .b⟩), (53, ⟨.ag [(0, 1), (1, 1), (2, 1)], 3, 24, [.int .i64 0, .int .i64 0, .int .i64 0], (.p (.int .i64) (.p (.int .i64) (.int .i64)))⟩), (56, ⟨.ag [(0, 1), (1, 1), (2, 1)], 3, 24, [.int .i64 0, .int .i64 0, .int .i64 0], (.p (.int .i64) (.p (.int .i64) (.int .i64)))⟩), (59, ⟨.sl 53, 1, 24, [.ns], .b⟩), (78, ⟨.ag [(0, 1), (1, 1)], 2, 16, [.int .i64 0, .int .i64 0], (.p (.int .i64) (.int .i64))⟩), (110, ⟨.ag [(0, 1), (1, 1)], 2, 16, [.int .i64 0, .int .i64 0], (.p (.int .i64) (.int .i64))⟩), (112, ⟨.ag [(0, 1), (1, 1)], 2, 16, [.int .i64 0, .int .i64 0], (.p (.int .i64) (.int .i64))⟩), (130, ⟨.ag [(0, 1), (1, 1), (2, 1)], 3, 24, [.int .i64 0, .int .i64 0, .int .i64 0], (.p (.int .i64) (.p (.int .i64) (.int .i64)))⟩), (141, ⟨.ag [(0, 1), (1, 1), (2, 1)], 3, 24, [.int .i64 0, .int .i64 0, .int .i64 0], (.p (.int .i64) (.p (.int .i64) (.int .i64)))⟩), (143, ⟨.ag [(0, 1), (1, 1)], 2, 16, [.int .i64 0, .int .i64 0], (.p (.int .i64) (.int .i64))⟩), (145, ⟨.ag [(0, 2), (2, 1), (3, 1), (4, 1)], 5, 104, [.int .i64 0, .ns, .ns, .ns, .ns], .b⟩), (158, ⟨.int .u64, 1, 8, [.int .u64 0], .b⟩), (171, ⟨.sl 3, 1, 24, [.ns], .b⟩)]
theorem tys_ok : tysOk Tryz.prog tys = true := by kernel_rfl
def eqt : List (Nat × EK) := [(78, (.p (.int .i64) (.int .i64)))]
theorem eqt_ok : Eqps Tryz.prog eqt := ⟨⟨eg78, fun w x y => eq78⟩, trivial⟩
def k_laws_szLineS : Ctr := ⟨65, [.o (.sl .ro 141 (.p (.int .i64) (.p (.int .i64) (.int .i64)))), .o (.int .i64)], [.o (.int .i64)], false, fun x => m_laws_szLineS x.1 x.2⟩
theorem d_laws_szLineS : Cok Tryz.prog k_laws_szLineS := cok (cs := []) (rv := [.tmp 4]) (crt := .q .z (.q .z (.q (.q .z (.q (.q .z .z) .z)) (.q .z .z)))) tys_ok eqt_ok rfl trivial co65 Tryz.func65 rfl Tryz.ntmps65 rfl rfl (fun _ => by kernel_rfl)
def k_laws_szNet : Ctr := ⟨26, [.g [.int .i64, .sl .ro 141 (.p (.int .i64) (.p (.int .i64) (.int .i64)))], .o (.int .i64)], [.o (.int .i64)], false, fun x => m_laws_szNet x.1 x.2.1 x.2.2⟩
theorem d_laws_szNet : Cok Tryz.prog k_laws_szNet := cok (cs := [k_laws_szLineS]) (rv := [.tmp 4]) (crt := .q .z (.q .z (.q (.q .z (.q (.q .z .z) .z)) (.q .z .z)))) tys_ok eqt_ok rfl ⟨d_laws_szLineS, trivial⟩ co26 Tryz.func26 rfl Tryz.ntmps26 rfl rfl (fun _ => by kernel_rfl)
def k_laws_szBusS : Ctr := ⟨27, [.o (.sl .ro 112 (.p (.int .i64) (.int .i64))), .o (.int .i64)], [.o (.int .i64)], false, fun x => m_laws_szBusS x.1 x.2⟩
theorem d_laws_szBusS : Cok Tryz.prog k_laws_szBusS := cok (cs := []) (rv := [.tmp 4]) (crt := .q .z (.q .z (.q (.q .z (.q (.q .z .z) .z)) (.q .z .z)))) tys_ok eqt_ok rfl trivial co27 Tryz.func27 rfl Tryz.ntmps27 rfl rfl (fun _ => by kernel_rfl)
def k_laws_szBoolS : Ctr := ⟨66, [.o (.sl .ro 4 .b), .o (.int .i64)], [.o (.int .i64)], false, fun x => m_laws_szBoolS x.1 x.2⟩
theorem d_laws_szBoolS : Cok Tryz.prog k_laws_szBoolS := cok (cs := []) (rv := [.tmp 4]) (crt := .q .z (.q .z (.q (.q .z (.q (.q .z .z) .z)) (.q .z .z)))) tys_ok eqt_ok rfl trivial co66 Tryz.func66 rfl Tryz.ntmps66 rfl rfl (fun _ => by kernel_rfl)
def k_laws_szPermitS : Ctr := ⟨67, [.o (.sl .ro 143 (.p (.int .i64) (.int .i64))), .o (.int .i64)], [.o (.int .i64)], false, fun x => m_laws_szPermitS x.1 x.2⟩
theorem d_laws_szPermitS : Cok Tryz.prog k_laws_szPermitS := cok (cs := []) (rv := [.tmp 4]) (crt := .q .z (.q .z (.q (.q .z (.q (.q .z .z) .z)) (.q .z .z)))) tys_ok eqt_ok rfl trivial co67 Tryz.func67 rfl Tryz.ntmps67 rfl rfl (fun _ => by kernel_rfl)
def k_laws_szWork : Ctr := ⟨28, [.g [.sl .ro 4 .b, .sl .ro 4 .b, .sl .ro 143 (.p (.int .i64) (.int .i64))], .o (.int .i64)], [.o (.int .i64)], false, fun x => m_laws_szWork x.1 x.2.1 x.2.2.1 x.2.2.2⟩
theorem d_laws_szWork : Cok Tryz.prog k_laws_szWork := cok (cs := [k_laws_szBoolS, k_laws_szPermitS]) (rv := [.tmp 4]) (crt := .q .z (.q .z (.q (.q .z (.q (.q .z .z) .z)) (.q .z (.q (.q .z (.q (.q .z .z) .z)) (.q .z (.q (.q .z (.q (.q .z .z) .z)) (.q .z .z)))))))) tys_ok eqt_ok rfl ⟨d_laws_szBoolS, d_laws_szPermitS, trivial⟩ co28 Tryz.func28 rfl Tryz.ntmps28 rfl rfl (fun _ => by kernel_rfl)
def k_laws_szIntS : Ctr := ⟨29, [.o (.sl .ro 3 (.int .i64)), .o (.int .i64)], [.o (.int .i64)], false, fun x => m_laws_szIntS x.1 x.2⟩
theorem d_laws_szIntS : Cok Tryz.prog k_laws_szIntS := cok (cs := []) (rv := [.tmp 4]) (crt := .q .z (.q .z (.q (.q .z (.q (.q .z .z) .z)) (.q .z .z)))) tys_ok eqt_ok rfl trivial co29 Tryz.func29 rfl Tryz.ntmps29 rfl rfl (fun _ => by kernel_rfl)
def k_laws_szWorld : Ctr := ⟨7, [.g [.int .i64, .sl .ro 141 (.p (.int .i64) (.p (.int .i64) (.int .i64))), .sl .ro 112 (.p (.int .i64) (.int .i64)), .sl .ro 4 .b, .sl .ro 4 .b, .sl .ro 143 (.p (.int .i64) (.int .i64)), .sl .ro 3 (.int .i64)], .o (.int .i64)], [.o (.int .i64)], false, fun x => m_laws_szWorld x.1 x.2.1 x.2.2.1 x.2.2.2.1 x.2.2.2.2.1 x.2.2.2.2.2.1 x.2.2.2.2.2.2.1 x.2.2.2.2.2.2.2⟩
theorem d_laws_szWorld : Cok Tryz.prog k_laws_szWorld := cok (cs := [k_laws_szNet, k_laws_szBusS, k_laws_szWork, k_laws_szIntS]) (rv := [.tmp 4]) (crt := .q .z (.q .z (.q (.q .z (.q (.q .z .z) .z)) (.q .z (.q (.q .z (.q (.q .z .z) .z)) (.q .z (.q (.q .z (.q (.q .z .z) .z)) (.q .z (.q (.q .z (.q (.q .z .z) .z)) (.q .z .z)))))))))) tys_ok eqt_ok rfl ⟨d_laws_szNet, d_laws_szBusS, d_laws_szWork, d_laws_szIntS, trivial⟩ co7 Tryz.func7 rfl Tryz.ntmps7 rfl rfl (fun _ => by kernel_rfl)
def k_laws_szWorkDeedS : Ctr := ⟨22, [.o (.sl .ro 53 (.p (.int .i64) (.p (.int .i64) (.int .i64)))), .o (.int .i64)], [.o (.int .i64)], false, fun x => m_laws_szWorkDeedS x.1 x.2⟩
theorem d_laws_szWorkDeedS : Cok Tryz.prog k_laws_szWorkDeedS := cok (cs := []) (rv := [.tmp 4]) (crt := .q .z (.q .z (.q (.q .z (.q (.q .z .z) .z)) (.q .z .z)))) tys_ok eqt_ok rfl trivial co22 Tryz.func22 rfl Tryz.ntmps22 rfl rfl (fun _ => by kernel_rfl)
def k_laws_toLine : Ctr := ⟨107, [.g [.int .i64, .int .i64, .int .i64]], [.g [.int .i64, .int .i64, .int .i64]], false, fun x => m_laws_toLine x.1 x.2.1 x.2.2⟩
theorem d_laws_toLine : Cok Tryz.prog k_laws_toLine := cok (cs := []) (rv := [.cell 2 130]) (crt := .q .z (.q .z (.q .z (.q .z (.q .z (.q .z .z)))))) tys_ok eqt_ok rfl trivial co107 Tryz.func107 rfl Tryz.ntmps107 rfl rfl (fun _ => by kernel_rfl)
def m_laws_toLineS_l1s (x0 : List (Int × Int × Int)) (rec : (List (Int × Int × Int) × Int) → Option ((List (Int × Int × Int)))) (p107 : (List (Int × Int × Int) × Int)) : Option ((List (Int × Int × Int))) := (bif ltB p107.2 (x0.length : Int) then chk (ixB p107.2 x0.length) (Option.bind (m_laws_toLine ((x0.getD p107.2.toNat ((0, 0, 0) : Int × Int × Int)).1) ((x0.getD p107.2.toNat ((0, 0, 0) : Int × Int × Int)).2.1) ((x0.getD p107.2.toNat ((0, 0, 0) : Int × Int × Int)).2.2)) (fun (p111 : Int × Int × Int) => chk (ixB p107.2 x0.length) (rec (p107.1.set p107.2.toNat (p111.1, p111.2.1, p111.2.2), w64 (p107.2 + 1))))) else some p107.1)
def m_laws_toLineS_l1i (x0 : List (Int × Int × Int)) : Nat → (List (Int × Int × Int) × Int) → Option ((List (Int × Int × Int))) := itr (m_laws_toLineS_l1s x0)
theorem q_m_laws_toLineS_l1 : @m_laws_toLineS_l1 = @m_laws_toLineS_l1i := by
  funext x0 n
  induction n with
  | zero => rfl
  | succ n ih =>
    funext p
    show _ = m_laws_toLineS_l1s x0 (m_laws_toLineS_l1i x0 n) p
    rw [← ih]
    rfl
def m_laws_toLineSi (x0 : List (Int × Int × Int)) : Option (List (Int × Int × Int)) := chk (mkB (x0.length : Int)) (Option.bind (m_laws_toLineS_l1i x0 FUEL (List.replicate x0.length ((0, 0, 0) : Int × Int × Int), 0)) (fun (p103 : List (Int × Int × Int)) => some p103))
theorem q_m_laws_toLineS : @m_laws_toLineS = @m_laws_toLineSi := by
  funext x0
  unfold m_laws_toLineSi
  rw [← q_m_laws_toLineS_l1]
  rfl
def k_laws_toLineS : Ctr := ⟨70, [.o (.sl .ro 141 (.p (.int .i64) (.p (.int .i64) (.int .i64))))], [.o (.row 130 (.p (.int .i64) (.p (.int .i64) (.int .i64))))], false, fun x => m_laws_toLineS x⟩
theorem d_laws_toLineS : Cok Tryz.prog k_laws_toLineS := cok (cs := [k_laws_toLine]) (rv := [.tmp 2]) (crt := .q .z (.q .z (.q (.q .z (.cut ⟨[(2, .o .k), (3, .o (.w 130 (.p (.int .i64) (.p (.int .i64) (.int .i64)))))], [], []⟩ [] (.b (.lp ⟨[(0, .o .k), (2, .o .k), (3, .o (.w 130 (.p (.int .i64) (.p (.int .i64) (.int .i64))))), (4, .o (.i .i64))], [], []⟩ (.q (.q .z (.q .z .z)) (.q (.b .z) .z)))))) (.q .z .z)))) tys_ok eqt_ok rfl ⟨d_laws_toLine, trivial⟩ co70 Tryz.func70 rfl Tryz.ntmps70 rfl rfl (fun x => by
  show m_laws_toLineS x = _
  rw [q_m_laws_toLineS]
  kernel_rfl)
def k_laws_toNet : Ctr := ⟨31, [.g [.int .i64, .sl .ro 141 (.p (.int .i64) (.p (.int .i64) (.int .i64)))]], [.g [.int .i64, .row 130 (.p (.int .i64) (.p (.int .i64) (.int .i64)))]], false, fun x => m_laws_toNet x.1 x.2⟩
theorem d_laws_toNet : Cok Tryz.prog k_laws_toNet := cok (cs := [k_laws_toLineS]) (rv := [.cell 2 37]) (crt := .q .z (.q .z (.q .z (.q .z (.q .z .z))))) tys_ok eqt_ok rfl ⟨d_laws_toLineS, trivial⟩ co31 Tryz.func31 rfl Tryz.ntmps31 rfl rfl (fun _ => by kernel_rfl)
def k_laws_toBus : Ctr := ⟨71, [.g [.int .i64, .int .i64]], [.g [.int .i64, .int .i64]], false, fun x => m_laws_toBus x.1 x.2⟩
theorem d_laws_toBus : Cok Tryz.prog k_laws_toBus := cok (cs := []) (rv := [.cell 2 110]) (crt := .q .z (.q .z (.q .z (.q .z (.q .z .z))))) tys_ok eqt_ok rfl trivial co71 Tryz.func71 rfl Tryz.ntmps71 rfl rfl (fun _ => by kernel_rfl)
def m_laws_toBusS_l1s (x0 : List (Int × Int)) (rec : (List (Int × Int) × Int) → Option ((List (Int × Int)))) (p107 : (List (Int × Int) × Int)) : Option ((List (Int × Int))) := (bif ltB p107.2 (x0.length : Int) then chk (ixB p107.2 x0.length) (Option.bind (m_laws_toBus ((x0.getD p107.2.toNat ((0, 0) : Int × Int)).1) ((x0.getD p107.2.toNat ((0, 0) : Int × Int)).2)) (fun (p111 : Int × Int) => chk (ixB p107.2 x0.length) (rec (p107.1.set p107.2.toNat (p111.1, p111.2), w64 (p107.2 + 1))))) else some p107.1)
def m_laws_toBusS_l1i (x0 : List (Int × Int)) : Nat → (List (Int × Int) × Int) → Option ((List (Int × Int))) := itr (m_laws_toBusS_l1s x0)
theorem q_m_laws_toBusS_l1 : @m_laws_toBusS_l1 = @m_laws_toBusS_l1i := by
  funext x0 n
  induction n with
  | zero => rfl
  | succ n ih =>
    funext p
    show _ = m_laws_toBusS_l1s x0 (m_laws_toBusS_l1i x0 n) p
    rw [← ih]
    rfl
def m_laws_toBusSi (x0 : List (Int × Int)) : Option (List (Int × Int)) := chk (mkB (x0.length : Int)) (Option.bind (m_laws_toBusS_l1i x0 FUEL (List.replicate x0.length ((0, 0) : Int × Int), 0)) (fun (p103 : List (Int × Int)) => some p103))
theorem q_m_laws_toBusS : @m_laws_toBusS = @m_laws_toBusSi := by
  funext x0
  unfold m_laws_toBusSi
  rw [← q_m_laws_toBusS_l1]
  rfl
def k_laws_toBusS : Ctr := ⟨32, [.o (.sl .ro 112 (.p (.int .i64) (.int .i64)))], [.o (.row 110 (.p (.int .i64) (.int .i64)))], false, fun x => m_laws_toBusS x⟩
theorem d_laws_toBusS : Cok Tryz.prog k_laws_toBusS := cok (cs := [k_laws_toBus]) (rv := [.tmp 2]) (crt := .q .z (.q .z (.q (.q .z (.cut ⟨[(2, .o .k), (3, .o (.w 110 (.p (.int .i64) (.int .i64))))], [], []⟩ [] (.b (.lp ⟨[(0, .o .k), (2, .o .k), (3, .o (.w 110 (.p (.int .i64) (.int .i64)))), (4, .o (.i .i64))], [], []⟩ (.q (.q .z (.q .z .z)) (.q (.b .z) .z)))))) (.q .z .z)))) tys_ok eqt_ok rfl ⟨d_laws_toBus, trivial⟩ co32 Tryz.func32 rfl Tryz.ntmps32 rfl rfl (fun x => by
  show m_laws_toBusS x = _
  rw [q_m_laws_toBusS]
  kernel_rfl)
def m_laws_toBoolS_l1s (x0 : List Bool) (rec : (List Bool × Int) → Option ((List Bool))) (p107 : (List Bool × Int)) : Option ((List Bool)) := (bif ltB p107.2 (x0.length : Int) then chk (ixB p107.2 x0.length) (chk (ixB p107.2 x0.length) (rec (p107.1.set p107.2.toNat (x0.getD p107.2.toNat false), w64 (p107.2 + 1)))) else some p107.1)
def m_laws_toBoolS_l1i (x0 : List Bool) : Nat → (List Bool × Int) → Option ((List Bool)) := itr (m_laws_toBoolS_l1s x0)
theorem q_m_laws_toBoolS_l1 : @m_laws_toBoolS_l1 = @m_laws_toBoolS_l1i := by
  funext x0 n
  induction n with
  | zero => rfl
  | succ n ih =>
    funext p
    show _ = m_laws_toBoolS_l1s x0 (m_laws_toBoolS_l1i x0 n) p
    rw [← ih]
    rfl
def m_laws_toBoolSi (x0 : List Bool) : Option (List Bool) := chk (mkB (x0.length : Int)) (Option.bind (m_laws_toBoolS_l1i x0 FUEL (List.replicate x0.length false, 0)) (fun (p103 : List Bool) => some p103))
theorem q_m_laws_toBoolS : @m_laws_toBoolS = @m_laws_toBoolSi := by
  funext x0
  unfold m_laws_toBoolSi
  rw [← q_m_laws_toBoolS_l1]
  rfl
def k_laws_toBoolS : Ctr := ⟨72, [.o (.sl .ro 4 .b)], [.o (.row 4 .b)], false, fun x => m_laws_toBoolS x⟩
theorem d_laws_toBoolS : Cok Tryz.prog k_laws_toBoolS := cok (cs := []) (rv := [.tmp 2]) (crt := .q .z (.q .z (.q (.q .z (.cut ⟨[(2, .o .k), (3, .o (.w 4 .b))], [], []⟩ [] (.b (.lp ⟨[(0, .o .k), (2, .o .k), (3, .o (.w 4 .b)), (4, .o (.i .i64))], [], []⟩ (.q (.q .z (.q .z .z)) (.q (.b .z) .z)))))) (.q .z .z)))) tys_ok eqt_ok rfl trivial co72 Tryz.func72 rfl Tryz.ntmps72 rfl rfl (fun x => by
  show m_laws_toBoolS x = _
  rw [q_m_laws_toBoolS]
  kernel_rfl)
def k_laws_toPermit : Ctr := ⟨108, [.g [.int .i64, .int .i64]], [.g [.int .i64, .int .i64]], false, fun x => m_laws_toPermit x.1 x.2⟩
theorem d_laws_toPermit : Cok Tryz.prog k_laws_toPermit := cok (cs := []) (rv := [.cell 2 78]) (crt := .q .z (.q .z (.q .z (.q .z (.q .z .z))))) tys_ok eqt_ok rfl trivial co108 Tryz.func108 rfl Tryz.ntmps108 rfl rfl (fun _ => by kernel_rfl)
def m_laws_toPermitS_l1s (x0 : List (Int × Int)) (rec : (List (Int × Int) × Int) → Option ((List (Int × Int)))) (p107 : (List (Int × Int) × Int)) : Option ((List (Int × Int))) := (bif ltB p107.2 (x0.length : Int) then chk (ixB p107.2 x0.length) (Option.bind (m_laws_toPermit ((x0.getD p107.2.toNat ((0, 0) : Int × Int)).1) ((x0.getD p107.2.toNat ((0, 0) : Int × Int)).2)) (fun (p111 : Int × Int) => chk (ixB p107.2 x0.length) (rec (p107.1.set p107.2.toNat (p111.1, p111.2), w64 (p107.2 + 1))))) else some p107.1)
def m_laws_toPermitS_l1i (x0 : List (Int × Int)) : Nat → (List (Int × Int) × Int) → Option ((List (Int × Int))) := itr (m_laws_toPermitS_l1s x0)
theorem q_m_laws_toPermitS_l1 : @m_laws_toPermitS_l1 = @m_laws_toPermitS_l1i := by
  funext x0 n
  induction n with
  | zero => rfl
  | succ n ih =>
    funext p
    show _ = m_laws_toPermitS_l1s x0 (m_laws_toPermitS_l1i x0 n) p
    rw [← ih]
    rfl
def m_laws_toPermitSi (x0 : List (Int × Int)) : Option (List (Int × Int)) := chk (mkB (x0.length : Int)) (Option.bind (m_laws_toPermitS_l1i x0 FUEL (List.replicate x0.length ((0, 0) : Int × Int), 0)) (fun (p103 : List (Int × Int)) => some p103))
theorem q_m_laws_toPermitS : @m_laws_toPermitS = @m_laws_toPermitSi := by
  funext x0
  unfold m_laws_toPermitSi
  rw [← q_m_laws_toPermitS_l1]
  rfl
def k_laws_toPermitS : Ctr := ⟨73, [.o (.sl .ro 143 (.p (.int .i64) (.int .i64)))], [.o (.row 78 (.p (.int .i64) (.int .i64)))], false, fun x => m_laws_toPermitS x⟩
theorem d_laws_toPermitS : Cok Tryz.prog k_laws_toPermitS := cok (cs := [k_laws_toPermit]) (rv := [.tmp 2]) (crt := .q .z (.q .z (.q (.q .z (.cut ⟨[(2, .o .k), (3, .o (.w 78 (.p (.int .i64) (.int .i64))))], [], []⟩ [] (.b (.lp ⟨[(0, .o .k), (2, .o .k), (3, .o (.w 78 (.p (.int .i64) (.int .i64)))), (4, .o (.i .i64))], [], []⟩ (.q (.q .z (.q .z .z)) (.q (.b .z) .z)))))) (.q .z .z)))) tys_ok eqt_ok rfl ⟨d_laws_toPermit, trivial⟩ co73 Tryz.func73 rfl Tryz.ntmps73 rfl rfl (fun x => by
  show m_laws_toPermitS x = _
  rw [q_m_laws_toPermitS]
  kernel_rfl)
def k_laws_toWork : Ctr := ⟨33, [.g [.sl .ro 4 .b, .sl .ro 4 .b, .sl .ro 143 (.p (.int .i64) (.int .i64))]], [.g [.row 4 .b, .row 4 .b, .row 78 (.p (.int .i64) (.int .i64))]], false, fun x => m_laws_toWork x.1 x.2.1 x.2.2⟩
theorem d_laws_toWork : Cok Tryz.prog k_laws_toWork := cok (cs := [k_laws_toBoolS, k_laws_toPermitS]) (rv := [.cell 2 41]) (crt := .q .z (.q .z (.q .z (.q .z (.q .z (.q .z .z)))))) tys_ok eqt_ok rfl ⟨d_laws_toBoolS, d_laws_toPermitS, trivial⟩ co33 Tryz.func33 rfl Tryz.ntmps33 rfl rfl (fun _ => by kernel_rfl)
def m_laws_toIntS_l1s (x0 : List Int) (rec : (List Int × Int) → Option ((List Int))) (p107 : (List Int × Int)) : Option ((List Int)) := (bif ltB p107.2 (x0.length : Int) then chk (ixB p107.2 x0.length) (chk (ixB p107.2 x0.length) (rec (p107.1.set p107.2.toNat (x0.getD p107.2.toNat (0 : Int)), w64 (p107.2 + 1)))) else some p107.1)
def m_laws_toIntS_l1i (x0 : List Int) : Nat → (List Int × Int) → Option ((List Int)) := itr (m_laws_toIntS_l1s x0)
theorem q_m_laws_toIntS_l1 : @m_laws_toIntS_l1 = @m_laws_toIntS_l1i := by
  funext x0 n
  induction n with
  | zero => rfl
  | succ n ih =>
    funext p
    show _ = m_laws_toIntS_l1s x0 (m_laws_toIntS_l1i x0 n) p
    rw [← ih]
    rfl
def m_laws_toIntSi (x0 : List Int) : Option (List Int) := chk (mkB (x0.length : Int)) (Option.bind (m_laws_toIntS_l1i x0 FUEL (List.replicate x0.length (0 : Int), 0)) (fun (p103 : List Int) => some p103))
theorem q_m_laws_toIntS : @m_laws_toIntS = @m_laws_toIntSi := by
  funext x0
  unfold m_laws_toIntSi
  rw [← q_m_laws_toIntS_l1]
  rfl
def k_laws_toIntS : Ctr := ⟨34, [.o (.sl .ro 3 (.int .i64))], [.o (.row 3 (.int .i64))], false, fun x => m_laws_toIntS x⟩
theorem d_laws_toIntS : Cok Tryz.prog k_laws_toIntS := cok (cs := []) (rv := [.tmp 2]) (crt := .q .z (.q .z (.q (.q .z (.cut ⟨[(2, .o .k), (3, .o (.w 3 (.int .i64)))], [], []⟩ [] (.b (.lp ⟨[(0, .o .k), (2, .o .k), (3, .o (.w 3 (.int .i64))), (4, .o (.i .i64))], [], []⟩ (.q (.q .z (.q .z .z)) (.q (.b .z) .z)))))) (.q .z .z)))) tys_ok eqt_ok rfl trivial co34 Tryz.func34 rfl Tryz.ntmps34 rfl rfl (fun x => by
  show m_laws_toIntS x = _
  rw [q_m_laws_toIntS]
  kernel_rfl)
def k_laws_toWorld : Ctr := ⟨9, [.g [.int .i64, .sl .ro 141 (.p (.int .i64) (.p (.int .i64) (.int .i64))), .sl .ro 112 (.p (.int .i64) (.int .i64)), .sl .ro 4 .b, .sl .ro 4 .b, .sl .ro 143 (.p (.int .i64) (.int .i64)), .sl .ro 3 (.int .i64)]], [.g [.int .i64, .row 130 (.p (.int .i64) (.p (.int .i64) (.int .i64))), .row 110 (.p (.int .i64) (.int .i64)), .row 4 .b, .row 4 .b, .row 78 (.p (.int .i64) (.int .i64)), .row 3 (.int .i64)]], false, fun x => m_laws_toWorld x.1 x.2.1 x.2.2.1 x.2.2.2.1 x.2.2.2.2.1 x.2.2.2.2.2.1 x.2.2.2.2.2.2⟩
theorem d_laws_toWorld : Cok Tryz.prog k_laws_toWorld := cok (cs := [k_laws_toNet, k_laws_toBusS, k_laws_toWork, k_laws_toIntS]) (rv := [.cell 2 43]) (crt := .q .z (.q .z (.q .z (.q .z (.q .z (.q .z (.q .z .z))))))) tys_ok eqt_ok rfl ⟨d_laws_toNet, d_laws_toBusS, d_laws_toWork, d_laws_toIntS, trivial⟩ co9 Tryz.func9 rfl Tryz.ntmps9 rfl rfl (fun _ => by kernel_rfl)
def k_laws_toWorkDeed : Ctr := ⟨19, [.g [.int .i64, .int .i64, .int .i64]], [.g [.int .i64, .int .i64, .int .i64]], false, fun x => m_laws_toWorkDeed x.1 x.2.1 x.2.2⟩
theorem d_laws_toWorkDeed : Cok Tryz.prog k_laws_toWorkDeed := cok (cs := []) (rv := [.cell 2 56]) (crt := .q .z (.q .z (.q .z (.q .z (.q .z (.q .z .z)))))) tys_ok eqt_ok rfl trivial co19 Tryz.func19 rfl Tryz.ntmps19 rfl rfl (fun _ => by kernel_rfl)
def m_laws_toWorkDeedS_l1s (x0 : List (Int × Int × Int)) (rec : (List (Int × Int × Int) × Int) → Option ((List (Int × Int × Int)))) (p107 : (List (Int × Int × Int) × Int)) : Option ((List (Int × Int × Int))) := (bif ltB p107.2 (x0.length : Int) then chk (ixB p107.2 x0.length) (Option.bind (m_laws_toWorkDeed ((x0.getD p107.2.toNat ((0, 0, 0) : Int × Int × Int)).1) ((x0.getD p107.2.toNat ((0, 0, 0) : Int × Int × Int)).2.1) ((x0.getD p107.2.toNat ((0, 0, 0) : Int × Int × Int)).2.2)) (fun (p111 : Int × Int × Int) => chk (ixB p107.2 x0.length) (rec (p107.1.set p107.2.toNat (p111.1, p111.2.1, p111.2.2), w64 (p107.2 + 1))))) else some p107.1)
def m_laws_toWorkDeedS_l1i (x0 : List (Int × Int × Int)) : Nat → (List (Int × Int × Int) × Int) → Option ((List (Int × Int × Int))) := itr (m_laws_toWorkDeedS_l1s x0)
theorem q_m_laws_toWorkDeedS_l1 : @m_laws_toWorkDeedS_l1 = @m_laws_toWorkDeedS_l1i := by
  funext x0 n
  induction n with
  | zero => rfl
  | succ n ih =>
    funext p
    show _ = m_laws_toWorkDeedS_l1s x0 (m_laws_toWorkDeedS_l1i x0 n) p
    rw [← ih]
    rfl
def m_laws_toWorkDeedSi (x0 : List (Int × Int × Int)) : Option (List (Int × Int × Int)) := chk (mkB (x0.length : Int)) (Option.bind (m_laws_toWorkDeedS_l1i x0 FUEL (List.replicate x0.length ((0, 0, 0) : Int × Int × Int), 0)) (fun (p103 : List (Int × Int × Int)) => some p103))
theorem q_m_laws_toWorkDeedS : @m_laws_toWorkDeedS = @m_laws_toWorkDeedSi := by
  funext x0
  unfold m_laws_toWorkDeedSi
  rw [← q_m_laws_toWorkDeedS_l1]
  rfl
def k_laws_toWorkDeedS : Ctr := ⟨24, [.o (.sl .ro 53 (.p (.int .i64) (.p (.int .i64) (.int .i64))))], [.o (.row 56 (.p (.int .i64) (.p (.int .i64) (.int .i64))))], false, fun x => m_laws_toWorkDeedS x⟩
theorem d_laws_toWorkDeedS : Cok Tryz.prog k_laws_toWorkDeedS := cok (cs := [k_laws_toWorkDeed]) (rv := [.tmp 2]) (crt := .q .z (.q .z (.q (.q .z (.cut ⟨[(2, .o .k), (3, .o (.w 56 (.p (.int .i64) (.p (.int .i64) (.int .i64)))))], [], []⟩ [] (.b (.lp ⟨[(0, .o .k), (2, .o .k), (3, .o (.w 56 (.p (.int .i64) (.p (.int .i64) (.int .i64))))), (4, .o (.i .i64))], [], []⟩ (.q (.q .z (.q .z .z)) (.q (.b .z) .z)))))) (.q .z .z)))) tys_ok eqt_ok rfl ⟨d_laws_toWorkDeed, trivial⟩ co24 Tryz.func24 rfl Tryz.ntmps24 rfl rfl (fun x => by
  show m_laws_toWorkDeedS x = _
  rw [q_m_laws_toWorkDeedS]
  kernel_rfl)
def k_spec_l1In : Ctr := ⟨51, [.o (.int .i64), .o (.int .i64), .o (.int .i64)], [.o .b], false, fun x => m_spec_l1In x.1 x.2.1 x.2.2⟩
theorem d_spec_l1In : Cok Tryz.prog k_spec_l1In := cok (cs := []) (rv := [.tmp 6]) (crt := .q .z (.q .z .z)) tys_ok eqt_ok rfl trivial co51 Tryz.func51 rfl Tryz.ntmps51 rfl rfl (fun _ => by kernel_rfl)
def m_spec_NetValid_l1s (x0 : Int) (x1 : List (Int × Int × Int)) (rec : Int → Option (Unit ⊕ Bool)) (p107 : Int) : Option (Unit ⊕ Bool) := (bif ltB p107 (x1.length : Int) then chk (ixB p107 x1.length) (Option.bind (m_spec_l1In ((x1.getD p107.toNat ((0, 0, 0) : Int × Int × Int)).1) 0 (w64 (x0 - 1))) (fun (p111 : Bool) => Option.bind (gb (!(!p111)) (m_spec_l1In ((x1.getD p107.toNat ((0, 0, 0) : Int × Int × Int)).2.1) 0 (w64 (x0 - 1)))) (fun (p112 : Bool) => Option.bind (gb (!(((!p111) || (!p112)) || (((x1.getD p107.toNat ((0, 0, 0) : Int × Int × Int)).1) == ((x1.getD p107.toNat ((0, 0, 0) : Int × Int × Int)).2.1)))) (m_spec_l1In ((x1.getD p107.toNat ((0, 0, 0) : Int × Int × Int)).2.2) 1 999)) (fun (p113 : Bool) => (bif (((!p111) || (!p112)) || (((x1.getD p107.toNat ((0, 0, 0) : Int × Int × Int)).1) == ((x1.getD p107.toNat ((0, 0, 0) : Int × Int × Int)).2.1))) || (!p113) then some (Sum.inr false) else rec (w64 (p107 + 1))))))) else some (Sum.inl ()))
def m_spec_NetValid_l1i (x0 : Int) (x1 : List (Int × Int × Int)) : Nat → Int → Option (Unit ⊕ Bool) := itr (m_spec_NetValid_l1s x0 x1)
theorem q_m_spec_NetValid_l1 : @m_spec_NetValid_l1 = @m_spec_NetValid_l1i := by
  funext x0 x1 n
  induction n with
  | zero => rfl
  | succ n ih =>
    funext p
    show _ = m_spec_NetValid_l1s x0 x1 (m_spec_NetValid_l1i x0 x1 n) p
    rw [← ih]
    rfl
def m_spec_NetValidi (x0 : Int) (x1 : List (Int × Int × Int)) : Option (Bool) := Option.bind (m_spec_l1In x0 1 8) (fun (p102 : Bool) => (bif (!p102) || (ltB 10 (x1.length : Int)) then some false else Option.bind (m_spec_NetValid_l1i x0 x1 FUEL 0 : Option (Unit ⊕ Bool)) (Sum.elim (fun (p104 : Unit) => some true) (fun (r : Bool) => some r))))
theorem q_m_spec_NetValid : @m_spec_NetValid = @m_spec_NetValidi := by
  funext x0 x1
  unfold m_spec_NetValidi
  rw [← q_m_spec_NetValid_l1]
  rfl
def k_spec_NetValid : Ctr := ⟨106, [.g [.int .i64, .sl .ro 130 (.p (.int .i64) (.p (.int .i64) (.int .i64)))]], [.o .b], false, fun x => m_spec_NetValid x.1 x.2⟩
theorem d_spec_NetValid : Cok Tryz.prog k_spec_NetValid := cok (cs := [k_spec_l1In]) (rv := [.tmp 2]) (crt := .q .z (.q (.q .z (.q (.q .z .z) .z)) (.q (.q .z (.cut ⟨[(2, .o .k)], [], []⟩ [.rt] (.b (.lp ⟨[(1, .o .k), (2, .o .k), (3, .o (.i .i64))], [(1, [.k, .k])], []⟩ (.q (.q .z (.q .z .z)) (.q (.b (.q .z (.q .z (.q (.q .z .z) .z)))) .z)))))) (.q .z .z)))) tys_ok eqt_ok rfl ⟨d_spec_l1In, trivial⟩ co106 Tryz.func106 rfl Tryz.ntmps106 rfl rfl (fun x => by
  show m_spec_NetValid x.1 x.2 = _
  rw [q_m_spec_NetValid]
  kernel_rfl)
def m_spec_BusesValid_l1s (x2 : List (Int × Int)) (rec : Int → Option (Unit ⊕ Bool)) (p105 : Int) : Option (Unit ⊕ Bool) := (bif ltB p105 (x2.length : Int) then chk (ixB p105 x2.length) (Option.bind (m_spec_l1In ((x2.getD p105.toNat ((0, 0) : Int × Int)).1) 0 999) (fun (p108 : Bool) => chk (!(!(!p108)) || ixB p105 x2.length) (Option.bind (gb (!(!p108)) (m_spec_l1In ((x2.getD p105.toNat ((0, 0) : Int × Int)).2) 0 999)) (fun (p110 : Bool) => (bif (!p108) || (!p110) then some (Sum.inr false) else rec (w64 (p105 + 1))))))) else some (Sum.inl ()))
def m_spec_BusesValid_l1i (x2 : List (Int × Int)) : Nat → Int → Option (Unit ⊕ Bool) := itr (m_spec_BusesValid_l1s x2)
theorem q_m_spec_BusesValid_l1 : @m_spec_BusesValid_l1 = @m_spec_BusesValid_l1i := by
  funext x2 n
  induction n with
  | zero => rfl
  | succ n ih =>
    funext p
    show _ = m_spec_BusesValid_l1s x2 (m_spec_BusesValid_l1i x2 n) p
    rw [← ih]
    rfl
def m_spec_BusesValidi (x0 : Int) (x1 : List (Int × Int × Int)) (x2 : List (Int × Int)) : Option (Bool) := Option.bind (m_spec_BusesValid_l1i x2 FUEL 0 : Option (Unit ⊕ Bool)) (Sum.elim (fun (p102 : Unit) => Option.bind (m_spec_NetValid x0 x1) (fun (p112 : Bool) => some (p112 && ((x2.length : Int) == x0)))) (fun (r : Bool) => some r))
theorem q_m_spec_BusesValid : @m_spec_BusesValid = @m_spec_BusesValidi := by
  funext x0 x1 x2
  unfold m_spec_BusesValidi
  rw [← q_m_spec_BusesValid_l1]
  rfl
def k_spec_BusesValid : Ctr := ⟨68, [.g [.int .i64, .sl .ro 130 (.p (.int .i64) (.p (.int .i64) (.int .i64)))], .o (.sl .ro 110 (.p (.int .i64) (.int .i64)))], [.o .b], false, fun x => m_spec_BusesValid x.1 x.2.1 x.2.2⟩
theorem d_spec_BusesValid : Cok Tryz.prog k_spec_BusesValid := cok (cs := [k_spec_l1In, k_spec_NetValid]) (rv := [.tmp 4]) (crt := .q .z (.q (.q .z (.cut ⟨[(1, .o .k), (2, .o .k), (4, .o .k)], [(2, [.k, .k])], []⟩ [.rt] (.b (.lp ⟨[(1, .o .k), (2, .o .k), (4, .o .k), (5, .o (.i .i64))], [(2, [.k, .k])], []⟩ (.q (.q .z (.q .z .z)) (.q (.b (.q .z (.q (.q .z .z) .z))) .z)))))) (.q .z .z))) tys_ok eqt_ok rfl ⟨d_spec_l1In, d_spec_NetValid, trivial⟩ co68 Tryz.func68 rfl Tryz.ntmps68 rfl rfl (fun x => by
  show m_spec_BusesValid x.1 x.2.1 x.2.2 = _
  rw [q_m_spec_BusesValid]
  kernel_rfl)
def m_spec_l12Find_l1s (x0 : List (Int × Int)) (x1 : Int) (x2 : Int) (rec : Int → Option (Unit ⊕ Int)) (p105 : Int) : Option (Unit ⊕ Int) := (bif ltB p105 (x0.length : Int) then chk (ixB p105 x0.length) ((bif (((x0.getD p105.toNat ((0, 0) : Int × Int)).1) == x1) && (((x0.getD p105.toNat ((0, 0) : Int × Int)).2) == x2) then some (Sum.inr p105) else rec (w64 (p105 + 1)))) else some (Sum.inl ()))
def m_spec_l12Find_l1i (x0 : List (Int × Int)) (x1 : Int) (x2 : Int) : Nat → Int → Option (Unit ⊕ Int) := itr (m_spec_l12Find_l1s x0 x1 x2)
theorem q_m_spec_l12Find_l1 : @m_spec_l12Find_l1 = @m_spec_l12Find_l1i := by
  funext x0 x1 x2 n
  induction n with
  | zero => rfl
  | succ n ih =>
    funext p
    show _ = m_spec_l12Find_l1s x0 x1 x2 (m_spec_l12Find_l1i x0 x1 x2 n) p
    rw [← ih]
    rfl
def m_spec_l12Findi (x0 : List (Int × Int)) (x1 : Int) (x2 : Int) : Option (Int) := Option.bind (m_spec_l12Find_l1i x0 x1 x2 FUEL 0 : Option (Unit ⊕ Int)) (Sum.elim (fun (p102 : Unit) => some (-1)) (fun (r : Int) => some r))
theorem q_m_spec_l12Find : @m_spec_l12Find = @m_spec_l12Findi := by
  funext x0 x1 x2
  unfold m_spec_l12Findi
  rw [← q_m_spec_l12Find_l1]
  rfl
def k_spec_l12Find : Ctr := ⟨90, [.o (.sl .ro 78 (.p (.int .i64) (.int .i64))), .g [.int .i64, .int .i64]], [.o (.int .i64)], false, fun x => m_spec_l12Find x.1 x.2.1 x.2.2⟩
theorem d_spec_l12Find : Cok Tryz.prog k_spec_l12Find := cok (cs := []) (rv := [.tmp 4]) (crt := .q .z (.q (.q .z (.cut ⟨[(4, .o .k)], [], []⟩ [.rt] (.b (.lp ⟨[(0, .o .k), (3, .o .k), (4, .o .k), (5, .o (.i .i64))], [(3, [.k, .k])], []⟩ (.q (.q .z (.q .z .z)) (.q (.b (.q .z (.q (.q .z .z) .z))) .z)))))) (.q .z .z))) tys_ok eqt_ok rfl trivial co90 Tryz.func90 rfl Tryz.ntmps90 rfl rfl (fun x => by
  show m_spec_l12Find x.1 x.2.1 x.2.2 = _
  rw [q_m_spec_l12Find]
  kernel_rfl)
def m_spec_WorkValid_l1s (x0 : List Bool) (x1 : List Bool) (rec : Int → Option (Unit ⊕ Bool)) (p107 : Int) : Option (Unit ⊕ Bool) := (bif ltB p107 (x0.length : Int) then chk (ixB p107 x0.length) (chk (!(x0.getD p107.toNat false) || ixB p107 x1.length) ((bif (x0.getD p107.toNat false) && (x1.getD p107.toNat false) then some (Sum.inr false) else rec (w64 (p107 + 1))))) else some (Sum.inl ()))
def m_spec_WorkValid_l1i (x0 : List Bool) (x1 : List Bool) : Nat → Int → Option (Unit ⊕ Bool) := itr (m_spec_WorkValid_l1s x0 x1)
theorem q_m_spec_WorkValid_l1 : @m_spec_WorkValid_l1 = @m_spec_WorkValid_l1i := by
  funext x0 x1 n
  induction n with
  | zero => rfl
  | succ n ih =>
    funext p
    show _ = m_spec_WorkValid_l1s x0 x1 (m_spec_WorkValid_l1i x0 x1 n) p
    rw [← ih]
    rfl
def m_spec_WorkValid_l2s (x0 : List Bool) (x1 : List Bool) (x2 : List (Int × Int)) (rec : Int → Option (Unit ⊕ Bool)) (p115 : Int) : Option (Unit ⊕ Bool) := (bif ltB p115 (x2.length : Int) then chk (ixB p115 x2.length) (Option.bind (m_spec_l1In ((x2.getD p115.toNat ((0, 0) : Int × Int)).1) 0 9) (fun (p119 : Bool) => Option.bind (gb (!(!p119)) (m_spec_l1In ((x2.getD p115.toNat ((0, 0) : Int × Int)).2) 0 (w64 ((x0.length : Int) - 1)))) (fun (p120 : Bool) => chk (!(!((!p119) || (!p120))) || ixB ((x2.getD p115.toNat ((0, 0) : Int × Int)).2) x1.length) (Option.bind (gb (!(((!p119) || (!p120)) || (!(x1.getD (((x2.getD p115.toNat ((0, 0) : Int × Int)).2).toNat) false)))) (m_spec_l12Find x2 ((x2.getD p115.toNat ((0, 0) : Int × Int)).1) ((x2.getD p115.toNat ((0, 0) : Int × Int)).2))) (fun (p122 : Int) => (bif (((!p119) || (!p120)) || (!(x1.getD (((x2.getD p115.toNat ((0, 0) : Int × Int)).2).toNat) false))) || (ltB p122 p115) then some (Sum.inr false) else rec (w64 (p115 + 1)))))))) else some (Sum.inl ()))
def m_spec_WorkValid_l2i (x0 : List Bool) (x1 : List Bool) (x2 : List (Int × Int)) : Nat → Int → Option (Unit ⊕ Bool) := itr (m_spec_WorkValid_l2s x0 x1 x2)
theorem q_m_spec_WorkValid_l2 : @m_spec_WorkValid_l2 = @m_spec_WorkValid_l2i := by
  funext x0 x1 x2 n
  induction n with
  | zero => rfl
  | succ n ih =>
    funext p
    show _ = m_spec_WorkValid_l2s x0 x1 x2 (m_spec_WorkValid_l2i x0 x1 x2 n) p
    rw [← ih]
    rfl
def m_spec_WorkValidi (x0 : List Bool) (x1 : List Bool) (x2 : List (Int × Int)) : Option (Bool) := Option.bind (m_spec_l1In (x0.length : Int) 1 10) (fun (p102 : Bool) => (bif ((!p102) || ((x0.length : Int) != (x1.length : Int))) || (ltB 6 (x2.length : Int)) then some false else Option.bind (m_spec_WorkValid_l1i x0 x1 FUEL 0 : Option (Unit ⊕ Bool)) (Sum.elim (fun (p104 : Unit) => Option.bind (m_spec_WorkValid_l2i x0 x1 x2 FUEL 0 : Option (Unit ⊕ Bool)) (Sum.elim (fun (p112 : Unit) => some true) (fun (r : Bool) => some r))) (fun (r : Bool) => some r))))
theorem q_m_spec_WorkValid : @m_spec_WorkValid = @m_spec_WorkValidi := by
  funext x0 x1 x2
  unfold m_spec_WorkValidi
  rw [← q_m_spec_WorkValid_l1, ← q_m_spec_WorkValid_l2]
  rfl
def k_spec_WorkValid : Ctr := ⟨69, [.g [.sl .ro 4 .b, .sl .ro 4 .b, .sl .ro 78 (.p (.int .i64) (.int .i64))]], [.o .b], false, fun x => m_spec_WorkValid x.1 x.2.1 x.2.2⟩
theorem d_spec_WorkValid : Cok Tryz.prog k_spec_WorkValid := cok (cs := [k_spec_l1In, k_spec_l12Find]) (rv := [.tmp 2]) (crt := .q .z (.q (.q .z (.q (.q .z .z) .z)) (.q (.q .z (.cut ⟨[(1, .o .k), (2, .o .k)], [(1, [.k, .k, .k])], []⟩ [.rt] (.b (.lp ⟨[(1, .o .k), (2, .o .k), (3, .o (.i .i64))], [(1, [.k, .k, .k])], []⟩ (.q (.q .z (.q .z .z)) (.q (.b (.q .z (.q (.q .z .z) .z))) .z)))))) (.q (.q .z (.cut ⟨[(2, .o .k)], [], []⟩ [.rt] (.b (.lp ⟨[(1, .o .k), (2, .o .k), (4, .o (.i .i64))], [(1, [.k, .k, .k])], []⟩ (.q (.q .z (.q .z .z)) (.q (.b (.q .z (.q .z (.q (.q .z .z) .z)))) .z)))))) (.q .z .z))))) tys_ok eqt_ok rfl ⟨d_spec_l1In, d_spec_l12Find, trivial⟩ co69 Tryz.func69 rfl Tryz.ntmps69 rfl rfl (fun x => by
  show m_spec_WorkValid x.1 x.2.1 x.2.2 = _
  rw [q_m_spec_WorkValid]
  kernel_rfl)
def k_spec_StateValid : Ctr := ⟨125, [.g [.int .i64, .sl .ro 130 (.p (.int .i64) (.p (.int .i64) (.int .i64)))], .o (.sl .ro 4 .b)], [.o .b], false, fun x => m_spec_StateValid x.1 x.2.1 x.2.2⟩
theorem d_spec_StateValid : Cok Tryz.prog k_spec_StateValid := cok (cs := [k_spec_NetValid]) (rv := [.tmp 4]) (crt := .q .z (.q .z .z)) tys_ok eqt_ok rfl ⟨d_spec_NetValid, trivial⟩ co125 Tryz.func125 rfl Tryz.ntmps125 rfl rfl (fun _ => by kernel_rfl)
def k_spec_l5Ok : Ctr := ⟨91, [.g [.int .i64, .sl .ro 130 (.p (.int .i64) (.p (.int .i64) (.int .i64)))], .o (.sl .ro 4 .b), .o (.sl .ro 110 (.p (.int .i64) (.int .i64)))], [.o .b], false, fun x => m_spec_l5Ok x.1 x.2.1 x.2.2.1 x.2.2.2⟩
theorem d_spec_l5Ok : Cok Tryz.prog k_spec_l5Ok := cok (cs := [k_spec_StateValid, k_spec_BusesValid]) (rv := [.tmp 6]) (crt := .q .z (.q .z .z)) tys_ok eqt_ok rfl ⟨d_spec_StateValid, d_spec_BusesValid, trivial⟩ co91 Tryz.func91 rfl Tryz.ntmps91 rfl rfl (fun _ => by kernel_rfl)
def k_spec_l2Copy : Ctr := ⟨124, [.o (.sl .ro 4 .b)], [.o (.row 4 .b)], false, fun x => m_spec_l2Copy x⟩
theorem d_spec_l2Copy : Cok Tryz.prog k_spec_l2Copy := cok (cs := []) (rv := [.tmp 2]) (crt := .q .z (.q .z .z)) tys_ok eqt_ok rfl trivial co124 Tryz.func124 rfl Tryz.ntmps124 rfl rfl (fun _ => by kernel_rfl)
def k_spec_SwitchLine : Ctr := ⟨145, [.g [.int .i64, .sl .ro 130 (.p (.int .i64) (.p (.int .i64) (.int .i64)))], .o (.sl .ro 4 .b), .o (.int .i64), .o .b], [.o (.row 4 .b), .o .b], false, fun x => m_spec_SwitchLine x.1 x.2.1 x.2.2.1 x.2.2.2.1 x.2.2.2.2⟩
theorem d_spec_SwitchLine : Cok Tryz.prog k_spec_SwitchLine := cok (cs := [k_spec_StateValid, k_spec_l2Copy, k_spec_l1In]) (rv := [.tmp 8, .tmp 9]) (crt := .q .z (.q (.q .z (.q (.q .z .z) .z)) (.q .z (.q (.q .z (.q (.q .z .z) .z)) (.q .z (.q .z .z)))))) tys_ok eqt_ok rfl ⟨d_spec_StateValid, d_spec_l2Copy, d_spec_l1In, trivial⟩ co145 Tryz.func145 rfl Tryz.ntmps145 rfl rfl (fun _ => by kernel_rfl)
def m_spec_l3Reach_l2s (x0 : Int) (x1 : List (Int × Int × Int)) (x2 : List Bool) (rec : (List Bool × Int) → Option ((List Bool))) (p116 : (List Bool × Int)) : Option ((List Bool)) := (bif ltB p116.2 (x1.length : Int) then chk (ixB p116.2 x1.length) (chk (ixB p116.2 x2.length) (chk (!(x2.getD p116.2.toNat false) || ixB ((x1.getD p116.2.toNat ((0, 0, 0) : Int × Int × Int)).1) x0.toNat) (chk (!((x2.getD p116.2.toNat false) && (!(p116.1.getD (((x1.getD p116.2.toNat ((0, 0, 0) : Int × Int × Int)).1).toNat) false))) || ixB ((x1.getD p116.2.toNat ((0, 0, 0) : Int × Int × Int)).2.1) x0.toNat) (Option.bind (bif (x2.getD p116.2.toNat false) && ((p116.1.getD (((x1.getD p116.2.toNat ((0, 0, 0) : Int × Int × Int)).1).toNat) false) || (p116.1.getD (((x1.getD p116.2.toNat ((0, 0, 0) : Int × Int × Int)).2.1).toNat) false)) then chk (ixB ((x1.getD p116.2.toNat ((0, 0, 0) : Int × Int × Int)).1) x0.toNat) (chk (ixB ((x1.getD p116.2.toNat ((0, 0, 0) : Int × Int × Int)).2.1) x0.toNat) (some ((p116.1.set (((x1.getD p116.2.toNat ((0, 0, 0) : Int × Int × Int)).1).toNat) true).set (((x1.getD p116.2.toNat ((0, 0, 0) : Int × Int × Int)).2.1).toNat) true))) else some p116.1) (fun (p124 : List Bool) => rec (p124, w64 (p116.2 + 1))))))) else some p116.1)
def m_spec_l3Reach_l2i (x0 : Int) (x1 : List (Int × Int × Int)) (x2 : List Bool) : Nat → (List Bool × Int) → Option ((List Bool)) := itr (m_spec_l3Reach_l2s x0 x1 x2)
theorem q_m_spec_l3Reach_l2 : @m_spec_l3Reach_l2 = @m_spec_l3Reach_l2i := by
  funext x0 x1 x2 n
  induction n with
  | zero => rfl
  | succ n ih =>
    funext p
    show _ = m_spec_l3Reach_l2s x0 x1 x2 (m_spec_l3Reach_l2i x0 x1 x2 n) p
    rw [← ih]
    rfl
def m_spec_l3Reach_l1s (x0 : Int) (x1 : List (Int × Int × Int)) (x2 : List Bool) (rec : (List Bool × Int) → Option ((List Bool))) (p109 : (List Bool × Int)) : Option ((List Bool)) := (bif ltB p109.2 x0 then Option.bind (m_spec_l3Reach_l2i x0 x1 x2 FUEL (p109.1, 0)) (fun (p112 : List Bool) => rec (p112, w64 (p109.2 + 1))) else some p109.1)
def m_spec_l3Reach_l1i (x0 : Int) (x1 : List (Int × Int × Int)) (x2 : List Bool) : Nat → (List Bool × Int) → Option ((List Bool)) := itr (m_spec_l3Reach_l1s x0 x1 x2)
theorem q_m_spec_l3Reach_l1 : @m_spec_l3Reach_l1 = @m_spec_l3Reach_l1i := by
  funext x0 x1 x2 n
  induction n with
  | zero => rfl
  | succ n ih =>
    funext p
    show _ = m_spec_l3Reach_l1s x0 x1 x2 (m_spec_l3Reach_l1i x0 x1 x2 n) p
    rw [← ih]
    unfold m_spec_l3Reach_l1s
    rw [← q_m_spec_l3Reach_l2]
    rfl
def m_spec_l3Reachi (x0 : Int) (x1 : List (Int × Int × Int)) (x2 : List Bool) (x3 : Int) : Option (List Bool) := chk (mkB x0) (chk (ixB x3 x0.toNat) (Option.bind (m_spec_l3Reach_l1i x0 x1 x2 FUEL ((List.replicate x0.toNat false).set x3.toNat true, 0)) (fun (p105 : List Bool) => some p105)))
theorem q_m_spec_l3Reach : @m_spec_l3Reach = @m_spec_l3Reachi := by
  funext x0 x1 x2 x3
  unfold m_spec_l3Reachi
  rw [← q_m_spec_l3Reach_l1]
  rfl
def k_spec_l3Reach : Ctr := ⟨146, [.g [.int .i64, .sl .ro 130 (.p (.int .i64) (.p (.int .i64) (.int .i64)))], .o (.sl .ro 4 .b), .o (.int .i64)], [.o (.row 4 .b)], false, fun x => m_spec_l3Reach x.1 x.2.1 x.2.2.1 x.2.2.2⟩
theorem d_spec_l3Reach : Cok Tryz.prog k_spec_l3Reach := cok (cs := []) (rv := [.tmp 6]) (crt := .q .z (.q .z (.q .z (.q (.q .z (.cut ⟨[(6, .o .k), (7, .o (.w 4 .b))], [], []⟩ [] (.b (.lp ⟨[(1, .o .k), (3, .o .k), (6, .o .k), (7, .o (.w 4 .b)), (8, .o (.i .i64))], [(3, [.k, .k])], []⟩ (.q (.q .z (.q .z .z)) (.q (.b (.q .z (.cut ⟨[(1, .o .k), (3, .o .k), (6, .o .k), (7, .o (.w 4 .b)), (8, .o .k)], [(3, [.k, .k])], []⟩ [] (.b (.lp ⟨[(1, .o .k), (3, .o .k), (6, .o .k), (7, .o (.w 4 .b)), (8, .o .k), (9, .o (.i .i64))], [(3, [.k, .k])], []⟩ (.q (.q .z (.q .z .z)) (.q (.b (.q .z (.q .z (.cut ⟨[(1, .o .k), (3, .o .k), (6, .o .k), (7, .o (.w 4 .b)), (8, .o .k), (9, .o .k)], [(3, [.k, .k])], []⟩ [] (.q (.q .z .z) .z))))) .z))))))) .z)))))) (.q .z .z))))) tys_ok eqt_ok rfl trivial co146 Tryz.func146 rfl Tryz.ntmps146 rfl rfl (fun x => by
  show m_spec_l3Reach x.1 x.2.1 x.2.2.1 x.2.2.2 = _
  rw [q_m_spec_l3Reach]
  kernel_rfl)
def m_spec_Reached_l1s (x0 : Int) (p106 : List Bool) (rec : (List Int × Int) → Option ((List Int))) (p115 : (List Int × Int)) : Option ((List Int)) := (bif ltB p115.2 x0 then chk (ixB p115.2 p106.length) (Option.bind (bif p106.getD p115.2.toNat false then chk (apB p115.1.length ([p115.2] : List Int).length) (some (p115.1 ++ ([p115.2] : List Int))) else some p115.1) (fun (p120 : List Int) => rec (p120, w64 (p115.2 + 1)))) else some p115.1)
def m_spec_Reached_l1i (x0 : Int) (p106 : List Bool) : Nat → (List Int × Int) → Option ((List Int)) := itr (m_spec_Reached_l1s x0 p106)
theorem q_m_spec_Reached_l1 : @m_spec_Reached_l1 = @m_spec_Reached_l1i := by
  funext x0 p106 n
  induction n with
  | zero => rfl
  | succ n ih =>
    funext p
    show _ = m_spec_Reached_l1s x0 p106 (m_spec_Reached_l1i x0 p106 n) p
    rw [← ih]
    rfl
def m_spec_Reachedi (x0 : Int) (x1 : List (Int × Int × Int)) (x2 : List Bool) (x3 : Int) : Option (List Int) := Option.bind (m_spec_StateValid x0 x1 x2) (fun (p103 : Bool) => Option.bind (gb (!(!p103)) (m_spec_l1In x3 0 (w64 (x0 - 1)))) (fun (p104 : Bool) => (bif (!p103) || (!p104) then some ([] : List Int) else Option.bind (m_spec_l3Reach x0 x1 x2 x3) (fun (p106 : List Bool) => Option.bind (m_spec_Reached_l1i x0 p106 FUEL (([] : List Int), 0)) (fun (p110 : List Int) => some p110)))))
theorem q_m_spec_Reached : @m_spec_Reached = @m_spec_Reachedi := by
  funext x0 x1 x2 x3
  unfold m_spec_Reachedi
  rw [← q_m_spec_Reached_l1]
  rfl
def k_spec_Reached : Ctr := ⟨127, [.g [.int .i64, .sl .ro 130 (.p (.int .i64) (.p (.int .i64) (.int .i64)))], .o (.sl .ro 4 .b), .o (.int .i64)], [.o (.row 3 (.int .i64))], false, fun x => m_spec_Reached x.1 x.2.1 x.2.2.1 x.2.2.2⟩
theorem d_spec_Reached : Cok Tryz.prog k_spec_Reached := cok (cs := [k_spec_StateValid, k_spec_l1In, k_spec_l3Reach]) (rv := [.tmp 6]) (crt := .q .z (.q .z (.q (.q .z (.q (.q .z .z) .z)) (.q .z (.q (.q .z (.cut ⟨[(6, .o .k), (7, .o (.r 3 (.int .i64)))], [], []⟩ [] (.b (.lp ⟨[(3, .o .k), (6, .o .k), (7, .o (.r 3 (.int .i64))), (8, .o .k), (9, .o (.i .i64))], [(3, [.k, .k])], []⟩ (.q (.q .z (.q .z .z)) (.q (.b (.q .z (.cut ⟨[(3, .o .k), (6, .o .k), (7, .o (.r 3 (.int .i64))), (8, .o .k), (9, .o .k)], [(3, [.k, .k])], []⟩ [] (.q .z .z)))) .z)))))) (.q .z .z)))))) tys_ok eqt_ok rfl ⟨d_spec_StateValid, d_spec_l1In, d_spec_l3Reach, trivial⟩ co127 Tryz.func127 rfl Tryz.ntmps127 rfl rfl (fun x => by
  show m_spec_Reached x.1 x.2.1 x.2.2.1 x.2.2.2 = _
  rw [q_m_spec_Reached]
  kernel_rfl)
def m_spec_l1Has_l1s (x0 : List Int) (x1 : Int) (rec : Int → Option (Unit ⊕ Bool)) (p104 : Int) : Option (Unit ⊕ Bool) := (bif ltB p104 (x0.length : Int) then chk (ixB p104 x0.length) ((bif (x0.getD p104.toNat (0 : Int)) == x1 then some (Sum.inr true) else rec (w64 (p104 + 1)))) else some (Sum.inl ()))
def m_spec_l1Has_l1i (x0 : List Int) (x1 : Int) : Nat → Int → Option (Unit ⊕ Bool) := itr (m_spec_l1Has_l1s x0 x1)
theorem q_m_spec_l1Has_l1 : @m_spec_l1Has_l1 = @m_spec_l1Has_l1i := by
  funext x0 x1 n
  induction n with
  | zero => rfl
  | succ n ih =>
    funext p
    show _ = m_spec_l1Has_l1s x0 x1 (m_spec_l1Has_l1i x0 x1 n) p
    rw [← ih]
    rfl
def m_spec_l1Hasi (x0 : List Int) (x1 : Int) : Option (Bool) := Option.bind (m_spec_l1Has_l1i x0 x1 FUEL 0 : Option (Unit ⊕ Bool)) (Sum.elim (fun (p101 : Unit) => some false) (fun (r : Bool) => some r))
theorem q_m_spec_l1Has : @m_spec_l1Has = @m_spec_l1Hasi := by
  funext x0 x1
  unfold m_spec_l1Hasi
  rw [← q_m_spec_l1Has_l1]
  rfl
def k_spec_l1Has : Ctr := ⟨40, [.o (.sl .ro 3 (.int .i64)), .o (.int .i64)], [.o .b], false, fun x => m_spec_l1Has x.1 x.2⟩
theorem d_spec_l1Has : Cok Tryz.prog k_spec_l1Has := cok (cs := []) (rv := [.tmp 4]) (crt := .q .z (.q (.q .z (.cut ⟨[(4, .o .k)], [], []⟩ [.rt] (.b (.lp ⟨[(0, .o .k), (1, .o .k), (4, .o .k), (5, .o (.i .i64))], [], []⟩ (.q (.q .z (.q .z .z)) (.q (.b (.q .z (.q (.q .z .z) .z))) .z)))))) (.q .z .z))) tys_ok eqt_ok rfl trivial co40 Tryz.func40 rfl Tryz.ntmps40 rfl rfl (fun x => by
  show m_spec_l1Has x.1 x.2 = _
  rw [q_m_spec_l1Has]
  kernel_rfl)
def k_spec_SameIsland : Ctr := ⟨93, [.g [.int .i64, .sl .ro 130 (.p (.int .i64) (.p (.int .i64) (.int .i64)))], .o (.sl .ro 4 .b), .o (.int .i64), .o (.int .i64)], [.o .b], false, fun x => m_spec_SameIsland x.1 x.2.1 x.2.2.1 x.2.2.2.1 x.2.2.2.2⟩
theorem d_spec_SameIsland : Cok Tryz.prog k_spec_SameIsland := cok (cs := [k_spec_Reached, k_spec_l1Has]) (rv := [.tmp 8]) (crt := .q .z (.q .z .z)) tys_ok eqt_ok rfl ⟨d_spec_Reached, d_spec_l1Has, trivial⟩ co93 Tryz.func93 rfl Tryz.ntmps93 rfl rfl (fun _ => by kernel_rfl)
def m_spec_CycleLines_l1s (x0 : Int) (x1 : List (Int × Int × Int)) (x2 : List Bool) (rec : (List Int × Int) → Option ((List Int))) (p108 : (List Int × Int)) : Option ((List Int)) := Option.bind (gb (ltB p108.2 (x2.length : Int)) (m_spec_StateValid x0 x1 x2)) (fun (p111 : Bool) => (bif (ltB p108.2 (x2.length : Int)) && p111 then Option.bind (m_spec_SwitchLine x0 x1 x2 p108.2 false) (fun (p113 : List Bool × Bool) => chk (ixB p108.2 x2.length) (chk (!(x2.getD p108.2.toNat false) || ixB p108.2 x1.length) (chk (!(x2.getD p108.2.toNat false) || ixB p108.2 x1.length) (Option.bind (gb (x2.getD p108.2.toNat false) (m_spec_SameIsland x0 x1 p113.1 ((x1.getD p108.2.toNat ((0, 0, 0) : Int × Int × Int)).1) ((x1.getD p108.2.toNat ((0, 0, 0) : Int × Int × Int)).2.1))) (fun (p120 : Bool) => Option.bind (bif (x2.getD p108.2.toNat false) && p120 then chk (apB p108.1.length ([p108.2] : List Int).length) (some (p108.1 ++ ([p108.2] : List Int))) else some p108.1) (fun (p121 : List Int) => rec (p121, w64 (p108.2 + 1)))))))) else some p108.1))
def m_spec_CycleLines_l1i (x0 : Int) (x1 : List (Int × Int × Int)) (x2 : List Bool) : Nat → (List Int × Int) → Option ((List Int)) := itr (m_spec_CycleLines_l1s x0 x1 x2)
theorem q_m_spec_CycleLines_l1 : @m_spec_CycleLines_l1 = @m_spec_CycleLines_l1i := by
  funext x0 x1 x2 n
  induction n with
  | zero => rfl
  | succ n ih =>
    funext p
    show _ = m_spec_CycleLines_l1s x0 x1 x2 (m_spec_CycleLines_l1i x0 x1 x2 n) p
    rw [← ih]
    rfl
def m_spec_CycleLinesi (x0 : Int) (x1 : List (Int × Int × Int)) (x2 : List Bool) : Option (List Int) := Option.bind (m_spec_CycleLines_l1i x0 x1 x2 FUEL (([] : List Int), 0)) (fun (p103 : List Int) => some p103)
theorem q_m_spec_CycleLines : @m_spec_CycleLines = @m_spec_CycleLinesi := by
  funext x0 x1 x2
  unfold m_spec_CycleLinesi
  rw [← q_m_spec_CycleLines_l1]
  rfl
def k_spec_CycleLines : Ctr := ⟨126, [.g [.int .i64, .sl .ro 130 (.p (.int .i64) (.p (.int .i64) (.int .i64)))], .o (.sl .ro 4 .b)], [.o (.row 3 (.int .i64))], false, fun x => m_spec_CycleLines x.1 x.2.1 x.2.2⟩
theorem d_spec_CycleLines : Cok Tryz.prog k_spec_CycleLines := cok (cs := [k_spec_StateValid, k_spec_SwitchLine, k_spec_SameIsland]) (rv := [.tmp 4]) (crt := .q .z (.q .z (.q (.q .z (.cut ⟨[(4, .o .k), (5, .o (.r 3 (.int .i64)))], [], []⟩ [] (.b (.lp ⟨[(1, .o .k), (2, .o .k), (4, .o .k), (5, .o (.r 3 (.int .i64))), (6, .o (.i .i64))], [(2, [.k, .k])], []⟩ (.q (.q .z (.q .z .z)) (.q (.b (.q .z (.q .z (.cut ⟨[(1, .o .k), (2, .o .k), (4, .o .k), (5, .o (.r 3 (.int .i64))), (6, .o .k)], [(2, [.k, .k])], []⟩ [] (.q .z .z))))) .z)))))) (.q .z .z)))) tys_ok eqt_ok rfl ⟨d_spec_StateValid, d_spec_SwitchLine, d_spec_SameIsland, trivial⟩ co126 Tryz.func126 rfl Tryz.ntmps126 rfl rfl (fun x => by
  show m_spec_CycleLines x.1 x.2.1 x.2.2 = _
  rw [q_m_spec_CycleLines]
  kernel_rfl)
def k_spec_HasCycle : Ctr := ⟨92, [.g [.int .i64, .sl .ro 130 (.p (.int .i64) (.p (.int .i64) (.int .i64)))], .o (.sl .ro 4 .b)], [.o .b], false, fun x => m_spec_HasCycle x.1 x.2.1 x.2.2⟩
theorem d_spec_HasCycle : Cok Tryz.prog k_spec_HasCycle := cok (cs := [k_spec_CycleLines]) (rv := [.tmp 4]) (crt := .q .z (.q .z .z)) tys_ok eqt_ok rfl ⟨d_spec_CycleLines, trivial⟩ co92 Tryz.func92 rfl Tryz.ntmps92 rfl rfl (fun _ => by kernel_rfl)
def m_spec_Radial_l2s (x0 : Int) (x1 : List (Int × Int × Int)) (x2 : List Bool) (x3 : List (Int × Int)) (p108 : Int) (rec : Int → Option (Unit ⊕ Bool)) (p113 : Int) : Option (Unit ⊕ Bool) := (bif ltB p113 p108 then chk (ixB p108 x3.length) (chk (!(ltB 0 ((x3.getD p108.toNat ((0, 0) : Int × Int)).1)) || ixB p113 x3.length) (Option.bind (gb ((ltB 0 ((x3.getD p108.toNat ((0, 0) : Int × Int)).1)) && (ltB 0 ((x3.getD p113.toNat ((0, 0) : Int × Int)).1))) (m_spec_SameIsland x0 x1 x2 p113 p108)) (fun (p117 : Bool) => (bif ((ltB 0 ((x3.getD p108.toNat ((0, 0) : Int × Int)).1)) && (ltB 0 ((x3.getD p113.toNat ((0, 0) : Int × Int)).1))) && p117 then some (Sum.inr false) else rec (w64 (p113 + 1)))))) else some (Sum.inl ()))
def m_spec_Radial_l2i (x0 : Int) (x1 : List (Int × Int × Int)) (x2 : List Bool) (x3 : List (Int × Int)) (p108 : Int) : Nat → Int → Option (Unit ⊕ Bool) := itr (m_spec_Radial_l2s x0 x1 x2 x3 p108)
theorem q_m_spec_Radial_l2 : @m_spec_Radial_l2 = @m_spec_Radial_l2i := by
  funext x0 x1 x2 x3 p108 n
  induction n with
  | zero => rfl
  | succ n ih =>
    funext p
    show _ = m_spec_Radial_l2s x0 x1 x2 x3 p108 (m_spec_Radial_l2i x0 x1 x2 x3 p108 n) p
    rw [← ih]
    rfl
def m_spec_Radial_l1s (x0 : Int) (x1 : List (Int × Int × Int)) (x2 : List Bool) (x3 : List (Int × Int)) (rec : Int → Option (Unit ⊕ Bool)) (p108 : Int) : Option (Unit ⊕ Bool) := (bif ltB p108 x0 then Option.bind (m_spec_Radial_l2i x0 x1 x2 x3 p108 FUEL 0 : Option (Unit ⊕ Bool)) (Sum.elim (fun (p110 : Unit) => rec (w64 (p108 + 1))) (fun (r : Bool) => some (Sum.inr r))) else some (Sum.inl ()))
def m_spec_Radial_l1i (x0 : Int) (x1 : List (Int × Int × Int)) (x2 : List Bool) (x3 : List (Int × Int)) : Nat → Int → Option (Unit ⊕ Bool) := itr (m_spec_Radial_l1s x0 x1 x2 x3)
theorem q_m_spec_Radial_l1 : @m_spec_Radial_l1 = @m_spec_Radial_l1i := by
  funext x0 x1 x2 x3 n
  induction n with
  | zero => rfl
  | succ n ih =>
    funext p
    show _ = m_spec_Radial_l1s x0 x1 x2 x3 (m_spec_Radial_l1i x0 x1 x2 x3 n) p
    rw [← ih]
    unfold m_spec_Radial_l1s
    rw [← q_m_spec_Radial_l2]
    rfl
def m_spec_Radiali (x0 : Int) (x1 : List (Int × Int × Int)) (x2 : List Bool) (x3 : List (Int × Int)) : Option (Bool) := Option.bind (m_spec_l5Ok x0 x1 x2 x3) (fun (p102 : Bool) => Option.bind (gb (!(!p102)) (m_spec_HasCycle x0 x1 x2)) (fun (p103 : Bool) => (bif (!p102) || p103 then some false else Option.bind (m_spec_Radial_l1i x0 x1 x2 x3 FUEL 0 : Option (Unit ⊕ Bool)) (Sum.elim (fun (p105 : Unit) => some true) (fun (r : Bool) => some r)))))
theorem q_m_spec_Radial : @m_spec_Radial = @m_spec_Radiali := by
  funext x0 x1 x2 x3
  unfold m_spec_Radiali
  rw [← q_m_spec_Radial_l1]
  rfl
def k_spec_Radial : Ctr := ⟨57, [.g [.int .i64, .sl .ro 130 (.p (.int .i64) (.p (.int .i64) (.int .i64)))], .o (.sl .ro 4 .b), .o (.sl .ro 110 (.p (.int .i64) (.int .i64)))], [.o .b], false, fun x => m_spec_Radial x.1 x.2.1 x.2.2.1 x.2.2.2⟩
theorem d_spec_Radial : Cok Tryz.prog k_spec_Radial := cok (cs := [k_spec_l5Ok, k_spec_HasCycle, k_spec_SameIsland]) (rv := [.tmp 6]) (crt := .q .z (.q (.q .z (.q (.q .z .z) .z)) (.q (.q .z (.cut ⟨[(6, .o .k)], [], []⟩ [.rt] (.b (.lp ⟨[(1, .o .k), (2, .o .k), (3, .o .k), (6, .o .k), (7, .o (.i .i64))], [(3, [.k, .k])], []⟩ (.q (.q .z (.q .z .z)) (.q (.b (.q .z (.cut ⟨[(1, .o .k), (2, .o .k), (3, .o .k), (6, .o .k), (7, .o .k)], [(3, [.k, .k])], []⟩ [.rt] (.b (.lp ⟨[(1, .o .k), (2, .o .k), (3, .o .k), (6, .o .k), (7, .o .k), (8, .o (.i .i64))], [(3, [.k, .k])], []⟩ (.q (.q .z (.q .z .z)) (.q (.b (.q .z (.q (.q .z .z) .z))) .z))))))) .z)))))) (.q .z .z)))) tys_ok eqt_ok rfl ⟨d_spec_l5Ok, d_spec_HasCycle, d_spec_SameIsland, trivial⟩ co57 Tryz.func57 rfl Tryz.ntmps57 rfl rfl (fun x => by
  show m_spec_Radial x.1 x.2.1 x.2.2.1 x.2.2.2 = _
  rw [q_m_spec_Radial]
  kernel_rfl)
def m_spec_WorldValid_l1s (x3 : List Bool) (x6 : List Int) (rec : Int → Option (Unit ⊕ Bool)) (p108 : Int) : Option (Unit ⊕ Bool) := (bif ltB p108 (x6.length : Int) then chk (ixB p108 x6.length) (Option.bind (m_spec_l1In (x6.getD p108.toNat (0 : Int)) 0 (w64 ((x3.length : Int) - 1))) (fun (p111 : Bool) => chk (!((!(!p111)) && (ltB 0 p108)) || ixB (w64 (p108 - 1)) x6.length) (chk (!((!(!p111)) && (ltB 0 p108)) || ixB p108 x6.length) (chk (!(!((!p111) || ((ltB 0 p108) && (leB (x6.getD p108.toNat (0 : Int)) (x6.getD ((w64 (p108 - 1)).toNat) (0 : Int)))))) || ixB p108 x6.length) (chk (!(!((!p111) || ((ltB 0 p108) && (leB (x6.getD p108.toNat (0 : Int)) (x6.getD ((w64 (p108 - 1)).toNat) (0 : Int)))))) || ixB (x6.getD p108.toNat (0 : Int)) x3.length) ((bif ((!p111) || ((ltB 0 p108) && (leB (x6.getD p108.toNat (0 : Int)) (x6.getD ((w64 (p108 - 1)).toNat) (0 : Int))))) || (x3.getD ((x6.getD p108.toNat (0 : Int)).toNat) false) then some (Sum.inr false) else rec (w64 (p108 + 1))))))))) else some (Sum.inl ()))
def m_spec_WorldValid_l1i (x3 : List Bool) (x6 : List Int) : Nat → Int → Option (Unit ⊕ Bool) := itr (m_spec_WorldValid_l1s x3 x6)
theorem q_m_spec_WorldValid_l1 : @m_spec_WorldValid_l1 = @m_spec_WorldValid_l1i := by
  funext x3 x6 n
  induction n with
  | zero => rfl
  | succ n ih =>
    funext p
    show _ = m_spec_WorldValid_l1s x3 x6 (m_spec_WorldValid_l1i x3 x6 n) p
    rw [← ih]
    rfl
def m_spec_WorldValidi (x0 : Int) (x1 : List (Int × Int × Int)) (x2 : List (Int × Int)) (x3 : List Bool) (x4 : List Bool) (x5 : List (Int × Int)) (x6 : List Int) : Option (Bool) := Option.bind (m_spec_BusesValid x0 x1 x2) (fun (p102 : Bool) => Option.bind (gb (!(!p102)) (m_spec_WorkValid x3 x4 x5)) (fun (p103 : Bool) => (bif ((!p102) || (!p103)) || ((x3.length : Int) != (x1.length : Int)) then some false else Option.bind (m_spec_WorldValid_l1i x3 x6 FUEL 0 : Option (Unit ⊕ Bool)) (Sum.elim (fun (p105 : Unit) => Option.bind (m_spec_Radial x0 x1 x3 x2) (fun (p117 : Bool) => some p117)) (fun (r : Bool) => some r)))))
theorem q_m_spec_WorldValid : @m_spec_WorldValid = @m_spec_WorldValidi := by
  funext x0 x1 x2 x3 x4 x5 x6
  unfold m_spec_WorldValidi
  rw [← q_m_spec_WorldValid_l1]
  rfl
def k_spec_WorldValid : Ctr := ⟨30, [.g [.int .i64, .sl .ro 130 (.p (.int .i64) (.p (.int .i64) (.int .i64))), .sl .ro 110 (.p (.int .i64) (.int .i64)), .sl .ro 4 .b, .sl .ro 4 .b, .sl .ro 78 (.p (.int .i64) (.int .i64)), .sl .ro 3 (.int .i64)]], [.o .b], false, fun x => m_spec_WorldValid x.1 x.2.1 x.2.2.1 x.2.2.2.1 x.2.2.2.2.1 x.2.2.2.2.2.1 x.2.2.2.2.2.2⟩
theorem d_spec_WorldValid : Cok Tryz.prog k_spec_WorldValid := cok (cs := [k_spec_BusesValid, k_spec_WorkValid, k_spec_l1In, k_spec_Radial]) (rv := [.tmp 2]) (crt := .q .z (.q (.q .z (.q (.q .z .z) .z)) (.q (.q .z (.cut ⟨[(1, .o .k), (2, .o .k)], [(1, [.k, .k, .k, .k, .k, .k, .k])], []⟩ [.rt] (.b (.lp ⟨[(1, .o .k), (2, .o .k), (3, .o (.i .i64))], [(1, [.k, .k, .k, .k, .k, .k, .k])], []⟩ (.q (.q .z (.q .z .z)) (.q (.b (.q .z (.q (.q .z .z) .z))) .z)))))) (.q .z .z)))) tys_ok eqt_ok rfl ⟨d_spec_BusesValid, d_spec_WorkValid, d_spec_l1In, d_spec_Radial, trivial⟩ co30 Tryz.func30 rfl Tryz.ntmps30 rfl rfl (fun x => by
  show m_spec_WorldValid x.1 x.2.1 x.2.2.1 x.2.2.2.1 x.2.2.2.2.1 x.2.2.2.2.2.1 x.2.2.2.2.2.2 = _
  rw [q_m_spec_WorldValid]
  kernel_rfl)
def k_spec_l12Copy : Ctr := ⟨88, [.g [.sl .ro 4 .b, .sl .ro 4 .b, .sl .ro 78 (.p (.int .i64) (.int .i64))]], [.g [.row 4 .b, .row 4 .b, .row 78 (.p (.int .i64) (.int .i64))]], false, fun x => m_spec_l12Copy x.1 x.2.1 x.2.2⟩
theorem d_spec_l12Copy : Cok Tryz.prog k_spec_l12Copy := cok (cs := [k_spec_l2Copy]) (rv := [.cell 2 41]) (crt := .q .z (.q .z .z)) tys_ok eqt_ok rfl ⟨d_spec_l2Copy, trivial⟩ co88 Tryz.func88 rfl Tryz.ntmps88 rfl rfl (fun _ => by kernel_rfl)
def k_spec_l39Copy : Ctr := ⟨52, [.g [.int .i64, .sl .ro 130 (.p (.int .i64) (.p (.int .i64) (.int .i64))), .sl .ro 110 (.p (.int .i64) (.int .i64)), .sl .ro 4 .b, .sl .ro 4 .b, .sl .ro 78 (.p (.int .i64) (.int .i64)), .sl .ro 3 (.int .i64)]], [.g [.int .i64, .row 130 (.p (.int .i64) (.p (.int .i64) (.int .i64))), .row 110 (.p (.int .i64) (.int .i64)), .row 4 .b, .row 4 .b, .row 78 (.p (.int .i64) (.int .i64)), .row 3 (.int .i64)]], false, fun x => m_spec_l39Copy x.1 x.2.1 x.2.2.1 x.2.2.2.1 x.2.2.2.2.1 x.2.2.2.2.2.1 x.2.2.2.2.2.2⟩
theorem d_spec_l39Copy : Cok Tryz.prog k_spec_l39Copy := cok (cs := [k_spec_l12Copy]) (rv := [.cell 2 43]) (crt := .q .z (.q .z (.q .z .z))) tys_ok eqt_ok rfl ⟨d_spec_l12Copy, trivial⟩ co52 Tryz.func52 rfl Tryz.ntmps52 rfl rfl (fun _ => by kernel_rfl)
def m_spec_WorkHeld_l1s (x0 : List Bool) (x1 : List Bool) (x2 : List (Int × Int)) (x3 : Int) (rec : (List Int × Int) → Option ((List Int))) (p108 : (List Int × Int)) : Option ((List Int)) := Option.bind (gb (ltB p108.2 (x2.length : Int)) (m_spec_WorkValid x0 x1 x2)) (fun (p111 : Bool) => (bif (ltB p108.2 (x2.length : Int)) && p111 then chk (ixB p108.2 x2.length) (Option.bind (bif ((x2.getD p108.2.toNat ((0, 0) : Int × Int)).2) == x3 then chk (ixB p108.2 x2.length) (chk (apB p108.1.length ([(x2.getD p108.2.toNat ((0, 0) : Int × Int)).1] : List Int).length) (some (p108.1 ++ ([(x2.getD p108.2.toNat ((0, 0) : Int × Int)).1] : List Int)))) else some p108.1) (fun (p114 : List Int) => rec (p114, w64 (p108.2 + 1)))) else some p108.1))
def m_spec_WorkHeld_l1i (x0 : List Bool) (x1 : List Bool) (x2 : List (Int × Int)) (x3 : Int) : Nat → (List Int × Int) → Option ((List Int)) := itr (m_spec_WorkHeld_l1s x0 x1 x2 x3)
theorem q_m_spec_WorkHeld_l1 : @m_spec_WorkHeld_l1 = @m_spec_WorkHeld_l1i := by
  funext x0 x1 x2 x3 n
  induction n with
  | zero => rfl
  | succ n ih =>
    funext p
    show _ = m_spec_WorkHeld_l1s x0 x1 x2 x3 (m_spec_WorkHeld_l1i x0 x1 x2 x3 n) p
    rw [← ih]
    rfl
def m_spec_WorkHeldi (x0 : List Bool) (x1 : List Bool) (x2 : List (Int × Int)) (x3 : Int) : Option (List Int) := Option.bind (m_spec_WorkHeld_l1i x0 x1 x2 x3 FUEL (([] : List Int), 0)) (fun (p103 : List Int) => some p103)
theorem q_m_spec_WorkHeld : @m_spec_WorkHeld = @m_spec_WorkHeldi := by
  funext x0 x1 x2 x3
  unfold m_spec_WorkHeldi
  rw [← q_m_spec_WorkHeld_l1]
  rfl
def k_spec_WorkHeld : Ctr := ⟨54, [.g [.sl .ro 4 .b, .sl .ro 4 .b, .sl .ro 78 (.p (.int .i64) (.int .i64))], .o (.int .i64)], [.o (.row 3 (.int .i64))], false, fun x => m_spec_WorkHeld x.1 x.2.1 x.2.2.1 x.2.2.2⟩
theorem d_spec_WorkHeld : Cok Tryz.prog k_spec_WorkHeld := cok (cs := [k_spec_WorkValid]) (rv := [.tmp 4]) (crt := .q .z (.q .z (.q (.q .z (.cut ⟨[(4, .o .k), (5, .o (.r 3 (.int .i64)))], [], []⟩ [] (.b (.lp ⟨[(1, .o .k), (2, .o .k), (4, .o .k), (5, .o (.r 3 (.int .i64))), (6, .o (.i .i64))], [(2, [.k, .k, .k])], []⟩ (.q (.q .z (.q .z .z)) (.q (.b (.q .z (.cut ⟨[(1, .o .k), (2, .o .k), (4, .o .k), (5, .o (.r 3 (.int .i64))), (6, .o .k)], [(2, [.k, .k, .k])], []⟩ [] (.q .z .z)))) .z)))))) (.q .z .z)))) tys_ok eqt_ok rfl ⟨d_spec_WorkValid, trivial⟩ co54 Tryz.func54 rfl Tryz.ntmps54 rfl rfl (fun x => by
  show m_spec_WorkHeld x.1 x.2.1 x.2.2.1 x.2.2.2 = _
  rw [q_m_spec_WorkHeld]
  kernel_rfl)
def m_spec_l39Mend_l1s (x6 : List Int) (x7 : Int) (rec : (Int × List Int) → Option ((List Int))) (p129 : (Int × List Int)) : Option ((List Int)) := (bif ltB p129.1 (x6.length : Int) then chk (ixB p129.1 x6.length) (Option.bind (bif (x6.getD p129.1.toNat (0 : Int)) != x7 then chk (ixB p129.1 x6.length) (chk (apB p129.2.length ([(x6.getD p129.1.toNat (0 : Int))] : List Int).length) (some (p129.2 ++ ([(x6.getD p129.1.toNat (0 : Int))] : List Int)))) else some p129.2) (fun (p134 : List Int) => rec (w64 (p129.1 + 1), p134))) else some p129.2)
def m_spec_l39Mend_l1i (x6 : List Int) (x7 : Int) : Nat → (Int × List Int) → Option ((List Int)) := itr (m_spec_l39Mend_l1s x6 x7)
theorem q_m_spec_l39Mend_l1 : @m_spec_l39Mend_l1 = @m_spec_l39Mend_l1i := by
  funext x6 x7 n
  induction n with
  | zero => rfl
  | succ n ih =>
    funext p
    show _ = m_spec_l39Mend_l1s x6 x7 (m_spec_l39Mend_l1i x6 x7 n) p
    rw [← ih]
    rfl
def m_spec_l39Mendi (x0 : Int) (x1 : List (Int × Int × Int)) (x2 : List (Int × Int)) (x3 : List Bool) (x4 : List Bool) (x5 : List (Int × Int)) (x6 : List Int) (x7 : Int) : Option (Int × List (Int × Int × Int) × List (Int × Int) × List Bool × List Bool × List (Int × Int) × List Int) := Option.bind (m_spec_l39Copy x0 x1 x2 x3 x4 x5 x6) (fun (p103 : Int × List (Int × Int × Int) × List (Int × Int) × List Bool × List Bool × List (Int × Int) × List Int) => Option.bind (m_spec_l39Mend_l1i x6 x7 FUEL (0, ([] : List Int))) (fun (p124 : List Int) => some (p103.1, p103.2.1, p103.2.2.1, p103.2.2.2.1, p103.2.2.2.2.1, p103.2.2.2.2.2.1, p124)))
theorem q_m_spec_l39Mend : @m_spec_l39Mend = @m_spec_l39Mendi := by
  funext x0 x1 x2 x3 x4 x5 x6 x7
  unfold m_spec_l39Mendi
  rw [← q_m_spec_l39Mend_l1]
  rfl
def k_spec_l39Mend : Ctr := ⟨55, [.g [.int .i64, .sl .ro 130 (.p (.int .i64) (.p (.int .i64) (.int .i64))), .sl .ro 110 (.p (.int .i64) (.int .i64)), .sl .ro 4 .b, .sl .ro 4 .b, .sl .ro 78 (.p (.int .i64) (.int .i64)), .sl .ro 3 (.int .i64)], .o (.int .i64)], [.g [.int .i64, .row 130 (.p (.int .i64) (.p (.int .i64) (.int .i64))), .row 110 (.p (.int .i64) (.int .i64)), .row 4 .b, .row 4 .b, .row 78 (.p (.int .i64) (.int .i64)), .row 3 (.int .i64)]], false, fun x => m_spec_l39Mend x.1 x.2.1 x.2.2.1 x.2.2.2.1 x.2.2.2.2.1 x.2.2.2.2.2.1 x.2.2.2.2.2.2.1 x.2.2.2.2.2.2.2⟩
theorem d_spec_l39Mend : Cok Tryz.prog k_spec_l39Mend := cok (cs := [k_spec_l39Copy]) (rv := [.cell 4 43]) (crt := .q .z (.q .z (.q .z (.q (.q .z (.cut ⟨[(4, .o .k), (5, .o .k)], [(5, [.k, .k, .k, .k, .k, .k, .r 3 (.int .i64)]), (4, [.k, .k, .k, .k, .k, .k, .k])], []⟩ [] (.b (.lp ⟨[(1, .o .k), (2, .o .k), (4, .o .k), (5, .o .k), (6, .o (.i .i64))], [(5, [.k, .k, .k, .k, .k, .k, .r 3 (.int .i64)]), (4, [.k, .k, .k, .k, .k, .k, .k]), (2, [.k, .k, .k, .k, .k, .k, .k])], []⟩ (.q (.q .z (.q .z .z)) (.q (.b (.q .z (.cut ⟨[(1, .o .k), (2, .o .k), (4, .o .k), (5, .o .k), (6, .o .k)], [(5, [.k, .k, .k, .k, .k, .k, .r 3 (.int .i64)]), (4, [.k, .k, .k, .k, .k, .k, .k]), (2, [.k, .k, .k, .k, .k, .k, .k])], []⟩ [] (.q .z .z)))) .z)))))) (.q .z .z))))) tys_ok eqt_ok rfl ⟨d_spec_l39Copy, trivial⟩ co55 Tryz.func55 rfl Tryz.ntmps55 rfl rfl (fun x => by
  show m_spec_l39Mend x.1 x.2.1 x.2.2.1 x.2.2.2.1 x.2.2.2.2.1 x.2.2.2.2.2.1 x.2.2.2.2.2.2.1 x.2.2.2.2.2.2.2 = _
  rw [q_m_spec_l39Mend]
  kernel_rfl)
def m_spec_l39Break_l1s (x3 : List Bool) (x6 : List Int) (x7 : Int) (rec : (Int × List Int) → Option ((List Int))) (p130 : (Int × List Int)) : Option ((List Int)) := (bif ltB p130.1 (x3.length : Int) then Option.bind (gb (!(p130.1 == x7)) (m_spec_l1Has x6 p130.1)) (fun (p134 : Bool) => Option.bind (bif (p130.1 == x7) || p134 then chk (apB p130.2.length ([p130.1] : List Int).length) (some (p130.2 ++ ([p130.1] : List Int))) else some p130.2) (fun (p135 : List Int) => rec (w64 (p130.1 + 1), p135))) else some p130.2)
def m_spec_l39Break_l1i (x3 : List Bool) (x6 : List Int) (x7 : Int) : Nat → (Int × List Int) → Option ((List Int)) := itr (m_spec_l39Break_l1s x3 x6 x7)
theorem q_m_spec_l39Break_l1 : @m_spec_l39Break_l1 = @m_spec_l39Break_l1i := by
  funext x3 x6 x7 n
  induction n with
  | zero => rfl
  | succ n ih =>
    funext p
    show _ = m_spec_l39Break_l1s x3 x6 x7 (m_spec_l39Break_l1i x3 x6 x7 n) p
    rw [← ih]
    rfl
def m_spec_l39Breaki (x0 : Int) (x1 : List (Int × Int × Int)) (x2 : List (Int × Int)) (x3 : List Bool) (x4 : List Bool) (x5 : List (Int × Int)) (x6 : List Int) (x7 : Int) : Option (Int × List (Int × Int × Int) × List (Int × Int) × List Bool × List Bool × List (Int × Int) × List Int) := Option.bind (m_spec_l39Copy x0 x1 x2 x3 x4 x5 x6) (fun (p103 : Int × List (Int × Int × Int) × List (Int × Int) × List Bool × List Bool × List (Int × Int) × List Int) => chk (ixB x7 p103.2.2.2.1.length) (Option.bind (m_spec_l39Break_l1i x3 x6 x7 FUEL (0, ([] : List Int))) (fun (p125 : List Int) => some (p103.1, p103.2.1, p103.2.2.1, p103.2.2.2.1.set x7.toNat false, p103.2.2.2.2.1, p103.2.2.2.2.2.1, p125))))
theorem q_m_spec_l39Break : @m_spec_l39Break = @m_spec_l39Breaki := by
  funext x0 x1 x2 x3 x4 x5 x6 x7
  unfold m_spec_l39Breaki
  rw [← q_m_spec_l39Break_l1]
  rfl
def k_spec_l39Break : Ctr := ⟨53, [.g [.int .i64, .sl .ro 130 (.p (.int .i64) (.p (.int .i64) (.int .i64))), .sl .ro 110 (.p (.int .i64) (.int .i64)), .sl .ro 4 .b, .sl .ro 4 .b, .sl .ro 78 (.p (.int .i64) (.int .i64)), .sl .ro 3 (.int .i64)], .o (.int .i64)], [.g [.int .i64, .row 130 (.p (.int .i64) (.p (.int .i64) (.int .i64))), .row 110 (.p (.int .i64) (.int .i64)), .row 4 .b, .row 4 .b, .row 78 (.p (.int .i64) (.int .i64)), .row 3 (.int .i64)]], false, fun x => m_spec_l39Break x.1 x.2.1 x.2.2.1 x.2.2.2.1 x.2.2.2.2.1 x.2.2.2.2.2.1 x.2.2.2.2.2.2.1 x.2.2.2.2.2.2.2⟩
theorem d_spec_l39Break : Cok Tryz.prog k_spec_l39Break := cok (cs := [k_spec_l39Copy, k_spec_l1Has]) (rv := [.cell 4 43]) (crt := .q .z (.q .z (.q .z (.q .z (.q (.q .z (.cut ⟨[(4, .o .k), (5, .o .k)], [(5, [.k, .k, .k, .k, .k, .k, .r 3 (.int .i64)]), (4, [.k, .k, .k, .k, .k, .k, .k])], []⟩ [] (.b (.lp ⟨[(1, .o .k), (2, .o .k), (4, .o .k), (5, .o .k), (6, .o (.i .i64))], [(5, [.k, .k, .k, .k, .k, .k, .r 3 (.int .i64)]), (4, [.k, .k, .k, .k, .k, .k, .k]), (2, [.k, .k, .k, .k, .k, .k, .k])], []⟩ (.q (.q .z (.q .z .z)) (.q (.b (.q .z (.cut ⟨[(1, .o .k), (2, .o .k), (4, .o .k), (5, .o .k), (6, .o .k)], [(5, [.k, .k, .k, .k, .k, .k, .r 3 (.int .i64)]), (4, [.k, .k, .k, .k, .k, .k, .k]), (2, [.k, .k, .k, .k, .k, .k, .k])], []⟩ [] (.q .z .z)))) .z)))))) (.q .z .z)))))) tys_ok eqt_ok rfl ⟨d_spec_l39Copy, d_spec_l1Has, trivial⟩ co53 Tryz.func53 rfl Tryz.ntmps53 rfl rfl (fun x => by
  show m_spec_l39Break x.1 x.2.1 x.2.2.1 x.2.2.2.1 x.2.2.2.2.1 x.2.2.2.2.2.1 x.2.2.2.2.2.2.1 x.2.2.2.2.2.2.2 = _
  rw [q_m_spec_l39Break]
  kernel_rfl)
def k_spec_l12May : Ctr := ⟨89, [.g [.sl .ro 4 .b, .sl .ro 4 .b, .sl .ro 78 (.p (.int .i64) (.int .i64))], .g [.int .i64, .int .i64, .int .i64]], [.o .b], false, fun x => m_spec_l12May x.1 x.2.1 x.2.2.1 x.2.2.2.1 x.2.2.2.2.1 x.2.2.2.2.2⟩
theorem d_spec_l12May : Cok Tryz.prog k_spec_l12May := cok (cs := [k_spec_l12Find, k_spec_WorkHeld, k_spec_l1In]) (rv := [.tmp 4]) (crt := .q .z (.q .z (.q (.q .z (.b (.q .z (.q (.q .z .z) (.q .z (.q (.q .z .z) (.q .z (.q (.q .z .z) (.q .z (.q (.q (.cut ⟨[(4, .o .b)], [], []⟩ [] .z) .z) (.q .z (.q (.q .z .z) (.q .z (.q (.q .z .z) .z)))))))))))))) (.q .z .z)))) tys_ok eqt_ok rfl ⟨d_spec_l12Find, d_spec_WorkHeld, d_spec_l1In, trivial⟩ co89 Tryz.func89 rfl Tryz.ntmps89 rfl rfl (fun _ => by kernel_rfl)
def k_spec_WorkDo : Ctr := ⟨56, [.g [.sl .ro 4 .b, .sl .ro 4 .b, .sl .ro 78 (.p (.int .i64) (.int .i64))], .g [.int .i64, .int .i64, .int .i64]], [.g [.row 4 .b, .row 4 .b, .row 78 (.p (.int .i64) (.int .i64))], .o .b], false, fun x => m_spec_WorkDo x.1 x.2.1 x.2.2.1 x.2.2.2.1 x.2.2.2.2.1 x.2.2.2.2.2⟩
theorem d_spec_WorkDo : Cok Tryz.prog k_spec_WorkDo := cok (cs := [k_spec_WorkValid, k_spec_l12Copy, k_spec_l1In, k_spec_l12May, k_spec_l12Find]) (rv := [.cell 4 41, .tmp 5]) (crt := .q .z (.q (.q .z (.q (.q .z .z) .z)) (.q .z (.q (.q .z (.q (.q .z .z) .z)) (.q (.q .z (.b (.q .z (.cut ⟨[(4, .o .k), (5, .o .k), (6, .o .k)], [(6, [.w 4 .b, .w 4 .b, .r 78 (.p (.int .i64) (.int .i64))]), (4, [.k, .k, .k])], []⟩ [] (.q .z (.q .z (.cut ⟨[(4, .o .k), (5, .o .k), (6, .o .k)], [(6, [.w 4 .b, .w 4 .b, .r 78 (.p (.int .i64) (.int .i64))]), (4, [.k, .k, .k])], []⟩ [] (.q .z (.q .z (.cut ⟨[(4, .o .k), (5, .o .k), (6, .o .k)], [(6, [.k, .w 4 .b, .r 78 (.p (.int .i64) (.int .i64))]), (4, [.k, .k, .k])], []⟩ [] (.q .z (.q .z (.cut ⟨[(4, .o .k), (5, .o .k), (6, .o .k)], [(6, [.k, .w 4 .b, .r 78 (.p (.int .i64) (.int .i64))]), (4, [.k, .k, .k])], []⟩ [] (.q .z (.q .z (.cut ⟨[(4, .o .k), (5, .o .k), (6, .o .k)], [(6, [.k, .k, .r 78 (.p (.int .i64) (.int .i64))]), (4, [.k, .k, .k])], []⟩ [] (.q .z (.q .z .z)))))))))))))))))) (.q .z .z)))))) tys_ok eqt_ok rfl ⟨d_spec_WorkValid, d_spec_l12Copy, d_spec_l1In, d_spec_l12May, d_spec_l12Find, trivial⟩ co56 Tryz.func56 rfl Tryz.ntmps56 rfl rfl (fun _ => by kernel_rfl)
def k_spec_WorldDo : Ctr := ⟨18, [.g [.int .i64, .sl .ro 130 (.p (.int .i64) (.p (.int .i64) (.int .i64))), .sl .ro 110 (.p (.int .i64) (.int .i64)), .sl .ro 4 .b, .sl .ro 4 .b, .sl .ro 78 (.p (.int .i64) (.int .i64)), .sl .ro 3 (.int .i64)], .g [.int .i64, .int .i64, .int .i64]], [.g [.int .i64, .row 130 (.p (.int .i64) (.p (.int .i64) (.int .i64))), .row 110 (.p (.int .i64) (.int .i64)), .row 4 .b, .row 4 .b, .row 78 (.p (.int .i64) (.int .i64)), .row 3 (.int .i64)], .o .b], false, fun x => m_spec_WorldDo x.1 x.2.1 x.2.2.1 x.2.2.2.1 x.2.2.2.2.1 x.2.2.2.2.2.1 x.2.2.2.2.2.2.1 x.2.2.2.2.2.2.2.1 x.2.2.2.2.2.2.2.2.1 x.2.2.2.2.2.2.2.2.2⟩
theorem d_spec_WorldDo : Cok Tryz.prog k_spec_WorldDo := cok (cs := [k_spec_WorldValid, k_spec_l1In, k_spec_l39Copy, k_spec_l1Has, k_spec_l39Break, k_spec_WorkHeld, k_spec_l39Mend, k_spec_WorkDo, k_spec_Radial]) (rv := [.cell 4 43, .tmp 5]) (crt := .q .z (.q (.q .z (.q (.q .z .z) .z)) (.q (.q .z (.q (.q .z .z) .z)) (.q .z (.q (.b (.q .z (.q (.q .z .z) (.q (.cut ⟨[(2, .o .k), (3, .o .k), (4, .o .k), (5, .o .k), (6, .o .k), (42, .o .b)], [(4, [.k, .k, .k, .k, .k, .k, .k]), (3, [.k, .k, .k]), (2, [.k, .k, .k, .k, .k, .k, .k])], []⟩ [] .z) (.q (.q .z .z) (.q .z (.q (.q .z .z) .z))))))) (.q .z (.q .z (.q (.q .z (.q (.q .z .z) .z)) (.q .z (.q .z .z)))))))))) tys_ok eqt_ok rfl ⟨d_spec_WorldValid, d_spec_l1In, d_spec_l39Copy, d_spec_l1Has, d_spec_l39Break, d_spec_WorkHeld, d_spec_l39Mend, d_spec_WorkDo, d_spec_Radial, trivial⟩ co18 Tryz.func18 rfl Tryz.ntmps18 rfl rfl (fun _ => by kernel_rfl)
def m_spec_WorldRun_l1s (x7 : List (Int × Int × Int)) (rec : (Int × Int × Int × List (Int × Int × Int) × List (Int × Int) × List Bool × List Bool × List (Int × Int) × List Int) → Option ((Int × Int × List (Int × Int × Int) × List (Int × Int) × List Bool × List Bool × List (Int × Int) × List Int))) (p140 : (Int × Int × Int × List (Int × Int × Int) × List (Int × Int) × List Bool × List Bool × List (Int × Int) × List Int)) : Option ((Int × Int × List (Int × Int × Int) × List (Int × Int) × List Bool × List Bool × List (Int × Int) × List Int)) := (bif ltB p140.2.1 (x7.length : Int) then chk (ixB p140.2.1 x7.length) (Option.bind (m_spec_WorldDo p140.2.2.1 p140.2.2.2.1 p140.2.2.2.2.1 p140.2.2.2.2.2.1 p140.2.2.2.2.2.2.1 p140.2.2.2.2.2.2.2.1 p140.2.2.2.2.2.2.2.2 ((x7.getD p140.2.1.toNat ((0, 0, 0) : Int × Int × Int)).1) ((x7.getD p140.2.1.toNat ((0, 0, 0) : Int × Int × Int)).2.1) ((x7.getD p140.2.1.toNat ((0, 0, 0) : Int × Int × Int)).2.2)) (fun (p155 : Int × List (Int × Int × Int) × List (Int × Int) × List Bool × List Bool × List (Int × Int) × List Int × Bool) => Option.bind (bif p155.2.2.2.2.2.2.2 then some (w64 (p140.1 + 1), p155.1, p155.2.1, p155.2.2.1, p155.2.2.2.1, p155.2.2.2.2.1, p155.2.2.2.2.2.1, p155.2.2.2.2.2.2.1) else some (p140.1, p140.2.2.1, p140.2.2.2.1, p140.2.2.2.2.1, p140.2.2.2.2.2.1, p140.2.2.2.2.2.2.1, p140.2.2.2.2.2.2.2.1, p140.2.2.2.2.2.2.2.2)) (fun (p187 : Int × Int × List (Int × Int × Int) × List (Int × Int) × List Bool × List Bool × List (Int × Int) × List Int) => rec (p187.1, w64 (p140.2.1 + 1), p187.2.1, p187.2.2.1, p187.2.2.2.1, p187.2.2.2.2.1, p187.2.2.2.2.2.1, p187.2.2.2.2.2.2.1, p187.2.2.2.2.2.2.2)))) else some (p140.1, p140.2.2.1, p140.2.2.2.1, p140.2.2.2.2.1, p140.2.2.2.2.2.1, p140.2.2.2.2.2.2.1, p140.2.2.2.2.2.2.2.1, p140.2.2.2.2.2.2.2.2))
def m_spec_WorldRun_l1i (x7 : List (Int × Int × Int)) : Nat → (Int × Int × Int × List (Int × Int × Int) × List (Int × Int) × List Bool × List Bool × List (Int × Int) × List Int) → Option ((Int × Int × List (Int × Int × Int) × List (Int × Int) × List Bool × List Bool × List (Int × Int) × List Int)) := itr (m_spec_WorldRun_l1s x7)
theorem q_m_spec_WorldRun_l1 : @m_spec_WorldRun_l1 = @m_spec_WorldRun_l1i := by
  funext x7 n
  induction n with
  | zero => rfl
  | succ n ih =>
    funext p
    show _ = m_spec_WorldRun_l1s x7 (m_spec_WorldRun_l1i x7 n) p
    rw [← ih]
    rfl
def m_spec_WorldRuni (x0 : Int) (x1 : List (Int × Int × Int)) (x2 : List (Int × Int)) (x3 : List Bool) (x4 : List Bool) (x5 : List (Int × Int)) (x6 : List Int) (x7 : List (Int × Int × Int)) : Option (Int × List (Int × Int × Int) × List (Int × Int) × List Bool × List Bool × List (Int × Int) × List Int × Int) := Option.bind (m_spec_WorldValid x0 x1 x2 x3 x4 x5 x6) (fun (p103 : Bool) => (bif p103 then Option.bind (m_spec_l39Copy x0 x1 x2 x3 x4 x5 x6) (fun (p105 : Int × List (Int × Int × Int) × List (Int × Int) × List Bool × List Bool × List (Int × Int) × List Int) => Option.bind (m_spec_WorldRun_l1i x7 FUEL (0, 0, p105.1, p105.2.1, p105.2.2.1, p105.2.2.2.1, p105.2.2.2.2.1, p105.2.2.2.2.2.1, p105.2.2.2.2.2.2)) (fun (p125 : Int × Int × List (Int × Int × Int) × List (Int × Int) × List Bool × List Bool × List (Int × Int) × List Int) => some (p125.2.1, p125.2.2.1, p125.2.2.2.1, p125.2.2.2.2.1, p125.2.2.2.2.2.1, p125.2.2.2.2.2.2.1, p125.2.2.2.2.2.2.2, p125.1))) else some (0, ([] : List (Int × Int × Int)), ([] : List (Int × Int)), ([] : List Bool), ([] : List Bool), ([] : List (Int × Int)), ([] : List Int), 0)))
theorem q_m_spec_WorldRun : @m_spec_WorldRun = @m_spec_WorldRuni := by
  funext x0 x1 x2 x3 x4 x5 x6 x7
  unfold m_spec_WorldRuni
  rw [← q_m_spec_WorldRun_l1]
  rfl
def k_spec_WorldRun : Ctr := ⟨23, [.g [.int .i64, .sl .ro 130 (.p (.int .i64) (.p (.int .i64) (.int .i64))), .sl .ro 110 (.p (.int .i64) (.int .i64)), .sl .ro 4 .b, .sl .ro 4 .b, .sl .ro 78 (.p (.int .i64) (.int .i64)), .sl .ro 3 (.int .i64)], .o (.sl .ro 56 (.p (.int .i64) (.p (.int .i64) (.int .i64))))], [.g [.int .i64, .row 130 (.p (.int .i64) (.p (.int .i64) (.int .i64))), .row 110 (.p (.int .i64) (.int .i64)), .row 4 .b, .row 4 .b, .row 78 (.p (.int .i64) (.int .i64)), .row 3 (.int .i64)], .o (.int .i64)], false, fun x => m_spec_WorldRun x.1 x.2.1 x.2.2.1 x.2.2.2.1 x.2.2.2.2.1 x.2.2.2.2.2.1 x.2.2.2.2.2.2.1 x.2.2.2.2.2.2.2⟩
theorem d_spec_WorldRun : Cok Tryz.prog k_spec_WorldRun := cok (cs := [k_spec_WorldValid, k_spec_l39Copy, k_spec_WorldDo]) (rv := [.cell 4 43, .tmp 5]) (crt := .q .z (.q (.q .z (.q (.q .z .z) .z)) (.q .z (.q .z (.q (.q .z (.cut ⟨[(4, .o .k), (5, .o .k), (6, .o .k), (7, .o (.i .i64))], [(6, [.i .i64, .r 130 (.p (.int .i64) (.p (.int .i64) (.int .i64))), .r 110 (.p (.int .i64) (.int .i64)), .r 4 .b, .r 4 .b, .r 78 (.p (.int .i64) (.int .i64)), .r 3 (.int .i64)]), (4, [.k, .k, .k, .k, .k, .k, .k])], []⟩ [] (.b (.lp ⟨[(1, .o .k), (4, .o .k), (5, .o .k), (6, .o .k), (7, .o (.i .i64)), (8, .o (.i .i64))], [(6, [.i .i64, .r 130 (.p (.int .i64) (.p (.int .i64) (.int .i64))), .r 110 (.p (.int .i64) (.int .i64)), .r 4 .b, .r 4 .b, .r 78 (.p (.int .i64) (.int .i64)), .r 3 (.int .i64)]), (4, [.k, .k, .k, .k, .k, .k, .k])], []⟩ (.q (.q .z (.q .z .z)) (.q (.b (.q .z (.q .z (.cut ⟨[(1, .o .k), (4, .o .k), (5, .o .k), (6, .o .k), (7, .o (.i .i64)), (8, .o .k)], [(6, [.i .i64, .r 130 (.p (.int .i64) (.p (.int .i64) (.int .i64))), .r 110 (.p (.int .i64) (.int .i64)), .r 4 .b, .r 4 .b, .r 78 (.p (.int .i64) (.int .i64)), .r 3 (.int .i64)]), (4, [.k, .k, .k, .k, .k, .k, .k])], []⟩ [] (.q (.q .z .z) .z))))) .z)))))) (.q .z .z)))))) tys_ok eqt_ok rfl ⟨d_spec_WorldValid, d_spec_l39Copy, d_spec_WorldDo, trivial⟩ co23 Tryz.func23 rfl Tryz.ntmps23 rfl rfl (fun x => by
  show m_spec_WorldRun x.1 x.2.1 x.2.2.1 x.2.2.2.1 x.2.2.2.2.1 x.2.2.2.2.2.1 x.2.2.2.2.2.2.1 x.2.2.2.2.2.2.2 = _
  rw [q_m_spec_WorldRun]
  kernel_rfl)
def k_impl_Net_hasBus : Ctr := ⟨136, [.g [.int .i64, .sl .ro 130 (.p (.int .i64) (.p (.int .i64) (.int .i64)))], .o (.int .i64)], [.o .b], false, fun x => m_impl_Net_hasBus x.1 x.2.1 x.2.2⟩
theorem d_impl_Net_hasBus : Cok Tryz.prog k_impl_Net_hasBus := cok (cs := []) (rv := [.tmp 4]) (crt := .q .z (.q .z .z)) tys_ok eqt_ok rfl trivial co136 Tryz.func136 rfl Tryz.ntmps136 rfl rfl (fun _ => by kernel_rfl)
def m_impl_NetValid_l1s (x0 : Int) (x1 : List (Int × Int × Int)) (rec : Int → Option (Unit ⊕ Bool)) (p106 : Int) : Option (Unit ⊕ Bool) := (bif ltB p106 (x1.length : Int) then chk (ixB p106 x1.length) (Option.bind (m_impl_Net_hasBus x0 x1 ((x1.getD p106.toNat ((0, 0, 0) : Int × Int × Int)).1)) (fun (p110 : Bool) => Option.bind (gb (!(!p110)) (m_impl_Net_hasBus x0 x1 ((x1.getD p106.toNat ((0, 0, 0) : Int × Int × Int)).2.1))) (fun (p111 : Bool) => (bif ((((!p110) || (!p111)) || (((x1.getD p106.toNat ((0, 0, 0) : Int × Int × Int)).1) == ((x1.getD p106.toNat ((0, 0, 0) : Int × Int × Int)).2.1))) || (ltB ((x1.getD p106.toNat ((0, 0, 0) : Int × Int × Int)).2.2) 1)) || (ltB 999 ((x1.getD p106.toNat ((0, 0, 0) : Int × Int × Int)).2.2)) then some (Sum.inr false) else rec (w64 (p106 + 1)))))) else some (Sum.inl ()))
def m_impl_NetValid_l1i (x0 : Int) (x1 : List (Int × Int × Int)) : Nat → Int → Option (Unit ⊕ Bool) := itr (m_impl_NetValid_l1s x0 x1)
theorem q_m_impl_NetValid_l1 : @m_impl_NetValid_l1 = @m_impl_NetValid_l1i := by
  funext x0 x1 n
  induction n with
  | zero => rfl
  | succ n ih =>
    funext p
    show _ = m_impl_NetValid_l1s x0 x1 (m_impl_NetValid_l1i x0 x1 n) p
    rw [← ih]
    rfl
def m_impl_NetValidi (x0 : Int) (x1 : List (Int × Int × Int)) : Option (Bool) := (bif ((ltB x0 1) || (ltB 8 x0)) || (ltB 10 (x1.length : Int)) then some false else Option.bind (m_impl_NetValid_l1i x0 x1 FUEL 0 : Option (Unit ⊕ Bool)) (Sum.elim (fun (p103 : Unit) => some true) (fun (r : Bool) => some r)))
theorem q_m_impl_NetValid : @m_impl_NetValid = @m_impl_NetValidi := by
  funext x0 x1
  unfold m_impl_NetValidi
  rw [← q_m_impl_NetValid_l1]
  rfl
def k_impl_NetValid : Ctr := ⟨109, [.g [.int .i64, .sl .ro 130 (.p (.int .i64) (.p (.int .i64) (.int .i64)))]], [.o .b], false, fun x => m_impl_NetValid x.1 x.2⟩
theorem d_impl_NetValid : Cok Tryz.prog k_impl_NetValid := cok (cs := [k_impl_Net_hasBus]) (rv := [.tmp 2]) (crt := .q .z (.q (.q .z (.q (.q .z .z) .z)) (.q (.q .z (.cut ⟨[(2, .o .k)], [], []⟩ [.rt] (.b (.lp ⟨[(1, .o .k), (2, .o .k), (20, .o .k), (21, .o .k), (22, .o (.i .i64))], [(1, [.k, .k])], []⟩ (.q .z (.q (.q .z .z) (.q (.b (.q .z (.q .z (.q (.q .z .z) .z)))) .z))))))) (.q .z .z)))) tys_ok eqt_ok rfl ⟨d_impl_Net_hasBus, trivial⟩ co109 Tryz.func109 rfl Tryz.ntmps109 rfl rfl (fun x => by
  show m_impl_NetValid x.1 x.2 = _
  rw [q_m_impl_NetValid]
  kernel_rfl)
def k_impl_powerValid : Ctr := ⟨110, [.o (.int .i64)], [.o .b], false, fun x => m_impl_powerValid x⟩
theorem d_impl_powerValid : Cok Tryz.prog k_impl_powerValid := cok (cs := []) (rv := [.tmp 2]) (crt := .q .z (.q .z .z)) tys_ok eqt_ok rfl trivial co110 Tryz.func110 rfl Tryz.ntmps110 rfl rfl (fun _ => by kernel_rfl)
def m_impl_BusesValid_l1s (x2 : List (Int × Int)) (rec : Int → Option (Unit ⊕ Bool)) (p107 : Int) : Option (Unit ⊕ Bool) := (bif ltB p107 (x2.length : Int) then chk (ixB p107 x2.length) (Option.bind (m_impl_powerValid ((x2.getD p107.toNat ((0, 0) : Int × Int)).1)) (fun (p111 : Bool) => Option.bind (gb (!(!p111)) (m_impl_powerValid ((x2.getD p107.toNat ((0, 0) : Int × Int)).2))) (fun (p112 : Bool) => (bif (!p111) || (!p112) then some (Sum.inr false) else rec (w64 (p107 + 1)))))) else some (Sum.inl ()))
def m_impl_BusesValid_l1i (x2 : List (Int × Int)) : Nat → Int → Option (Unit ⊕ Bool) := itr (m_impl_BusesValid_l1s x2)
theorem q_m_impl_BusesValid_l1 : @m_impl_BusesValid_l1 = @m_impl_BusesValid_l1i := by
  funext x2 n
  induction n with
  | zero => rfl
  | succ n ih =>
    funext p
    show _ = m_impl_BusesValid_l1s x2 (m_impl_BusesValid_l1i x2 n) p
    rw [← ih]
    rfl
def m_impl_BusesValidi (x0 : Int) (x1 : List (Int × Int × Int)) (x2 : List (Int × Int)) : Option (Bool) := Option.bind (m_impl_NetValid x0 x1) (fun (p102 : Bool) => (bif (!p102) || ((x2.length : Int) != x0) then some false else Option.bind (m_impl_BusesValid_l1i x2 FUEL 0 : Option (Unit ⊕ Bool)) (Sum.elim (fun (p104 : Unit) => some true) (fun (r : Bool) => some r))))
theorem q_m_impl_BusesValid : @m_impl_BusesValid = @m_impl_BusesValidi := by
  funext x0 x1 x2
  unfold m_impl_BusesValidi
  rw [← q_m_impl_BusesValid_l1]
  rfl
def k_impl_BusesValid : Ctr := ⟨74, [.g [.int .i64, .sl .ro 130 (.p (.int .i64) (.p (.int .i64) (.int .i64)))], .o (.sl .ro 110 (.p (.int .i64) (.int .i64)))], [.o .b], false, fun x => m_impl_BusesValid x.1 x.2.1 x.2.2⟩
theorem d_impl_BusesValid : Cok Tryz.prog k_impl_BusesValid := cok (cs := [k_impl_NetValid, k_impl_powerValid]) (rv := [.tmp 4]) (crt := .q .z (.q (.q .z (.q (.q .z .z) .z)) (.q (.q .z (.cut ⟨[(4, .o .k)], [], []⟩ [.rt] (.b (.lp ⟨[(4, .o .k), (17, .o .k), (18, .o .k), (19, .o (.i .i64))], [], []⟩ (.q .z (.q (.q .z .z) (.q (.b (.q .z (.q .z (.q (.q .z .z) .z)))) .z))))))) (.q .z .z)))) tys_ok eqt_ok rfl ⟨d_impl_NetValid, d_impl_powerValid, trivial⟩ co74 Tryz.func74 rfl Tryz.ntmps74 rfl rfl (fun x => by
  show m_impl_BusesValid x.1 x.2.1 x.2.2 = _
  rw [q_m_impl_BusesValid]
  kernel_rfl)
def m_slices_Index_impl_Permit_impl_Permit_l1s (x0 : List (Int × Int)) (x1 : Int) (x2 : Int) (rec : Int → Option (Unit ⊕ Int)) (p105 : Int) : Option (Unit ⊕ Int) := (bif ltB p105 (x0.length : Int) then chk (ixB p105 x0.length) ((bif (x1 == ((x0.getD p105.toNat ((0, 0) : Int × Int)).1)) && (x2 == ((x0.getD p105.toNat ((0, 0) : Int × Int)).2)) then some (Sum.inr p105) else rec (w64 (p105 + 1)))) else some (Sum.inl ()))
def m_slices_Index_impl_Permit_impl_Permit_l1i (x0 : List (Int × Int)) (x1 : Int) (x2 : Int) : Nat → Int → Option (Unit ⊕ Int) := itr (m_slices_Index_impl_Permit_impl_Permit_l1s x0 x1 x2)
theorem q_m_slices_Index_impl_Permit_impl_Permit_l1 : @m_slices_Index_impl_Permit_impl_Permit_l1 = @m_slices_Index_impl_Permit_impl_Permit_l1i := by
  funext x0 x1 x2 n
  induction n with
  | zero => rfl
  | succ n ih =>
    funext p
    show _ = m_slices_Index_impl_Permit_impl_Permit_l1s x0 x1 x2 (m_slices_Index_impl_Permit_impl_Permit_l1i x0 x1 x2 n) p
    rw [← ih]
    rfl
def m_slices_Index_impl_Permit_impl_Permiti (x0 : List (Int × Int)) (x1 : Int) (x2 : Int) : Option (Int) := Option.bind (m_slices_Index_impl_Permit_impl_Permit_l1i x0 x1 x2 FUEL 0 : Option (Unit ⊕ Int)) (Sum.elim (fun (p102 : Unit) => some (-1)) (fun (r : Int) => some r))
theorem q_m_slices_Index_impl_Permit_impl_Permit : @m_slices_Index_impl_Permit_impl_Permit = @m_slices_Index_impl_Permit_impl_Permiti := by
  funext x0 x1 x2
  unfold m_slices_Index_impl_Permit_impl_Permiti
  rw [← q_m_slices_Index_impl_Permit_impl_Permit_l1]
  rfl
def k_slices_Index_impl_Permit_impl_Permit : Ctr := ⟨133, [.o (.sl .ro 78 (.p (.int .i64) (.int .i64))), .g [.int .i64, .int .i64]], [.o (.int .i64)], false, fun x => m_slices_Index_impl_Permit_impl_Permit x.1 x.2.1 x.2.2⟩
theorem d_slices_Index_impl_Permit_impl_Permit : Cok Tryz.prog k_slices_Index_impl_Permit_impl_Permit := cok (cs := []) (rv := [.tmp 4]) (crt := .q .z (.q (.q .z (.cut ⟨[(4, .o .k)], [], []⟩ [.rt] (.b (.lp ⟨[(0, .o .k), (3, .o .k), (4, .o .k), (7, .o .k), (8, .o (.i .i64))], [(3, [.k, .k])], []⟩ (.q .z (.q (.q .z .z) (.q (.b (.q .z (.q .z (.q (.q .z .z) .z)))) .z))))))) (.q .z .z))) tys_ok eqt_ok rfl trivial co133 Tryz.func133 rfl Tryz.ntmps133 rfl rfl (fun x => by
  show m_slices_Index_impl_Permit_impl_Permit x.1 x.2.1 x.2.2 = _
  rw [q_m_slices_Index_impl_Permit_impl_Permit]
  kernel_rfl)
def k_slices_Contains_impl_Permit_impl_Permit : Ctr := ⟨100, [.o (.sl .ro 78 (.p (.int .i64) (.int .i64))), .g [.int .i64, .int .i64]], [.o .b], false, fun x => m_slices_Contains_impl_Permit_impl_Permit x.1 x.2.1 x.2.2⟩
theorem d_slices_Contains_impl_Permit_impl_Permit : Cok Tryz.prog k_slices_Contains_impl_Permit_impl_Permit := cok (cs := [k_slices_Index_impl_Permit_impl_Permit]) (rv := [.tmp 4]) (crt := .q .z (.q .z .z)) tys_ok eqt_ok rfl ⟨d_slices_Index_impl_Permit_impl_Permit, trivial⟩ co100 Tryz.func100 rfl Tryz.ntmps100 rfl rfl (fun _ => by kernel_rfl)
def m_impl_WorkValid_l1s (x0 : List Bool) (x1 : List Bool) (rec : Int → Option (Unit ⊕ Bool)) (p106 : Int) : Option (Unit ⊕ Bool) := (bif ltB p106 (x0.length : Int) then chk (ixB p106 x0.length) (chk (!(x0.getD p106.toNat false) || ixB p106 x1.length) ((bif (x0.getD p106.toNat false) && (x1.getD p106.toNat false) then some (Sum.inr false) else rec (w64 (p106 + 1))))) else some (Sum.inl ()))
def m_impl_WorkValid_l1i (x0 : List Bool) (x1 : List Bool) : Nat → Int → Option (Unit ⊕ Bool) := itr (m_impl_WorkValid_l1s x0 x1)
theorem q_m_impl_WorkValid_l1 : @m_impl_WorkValid_l1 = @m_impl_WorkValid_l1i := by
  funext x0 x1 n
  induction n with
  | zero => rfl
  | succ n ih =>
    funext p
    show _ = m_impl_WorkValid_l1s x0 x1 (m_impl_WorkValid_l1i x0 x1 n) p
    rw [← ih]
    rfl
def m_impl_WorkValid_l2s (x0 : List Bool) (x1 : List Bool) (x2 : List (Int × Int)) (rec : Int → Option (Unit ⊕ Bool)) (p114 : Int) : Option (Unit ⊕ Bool) := (bif ltB p114 (x2.length : Int) then chk (ixB p114 x2.length) (chk (!(!((((ltB ((x2.getD p114.toNat ((0, 0) : Int × Int)).1) 0) || (ltB 9 ((x2.getD p114.toNat ((0, 0) : Int × Int)).1))) || (ltB ((x2.getD p114.toNat ((0, 0) : Int × Int)).2) 0)) || (leB (x0.length : Int) ((x2.getD p114.toNat ((0, 0) : Int × Int)).2)))) || ixB ((x2.getD p114.toNat ((0, 0) : Int × Int)).2) x1.length) (chk (!(!(((((ltB ((x2.getD p114.toNat ((0, 0) : Int × Int)).1) 0) || (ltB 9 ((x2.getD p114.toNat ((0, 0) : Int × Int)).1))) || (ltB ((x2.getD p114.toNat ((0, 0) : Int × Int)).2) 0)) || (leB (x0.length : Int) ((x2.getD p114.toNat ((0, 0) : Int × Int)).2))) || (!(x1.getD (((x2.getD p114.toNat ((0, 0) : Int × Int)).2).toNat) false)))) || slB 0 p114 x2.length) (Option.bind (gb (!(((((ltB ((x2.getD p114.toNat ((0, 0) : Int × Int)).1) 0) || (ltB 9 ((x2.getD p114.toNat ((0, 0) : Int × Int)).1))) || (ltB ((x2.getD p114.toNat ((0, 0) : Int × Int)).2) 0)) || (leB (x0.length : Int) ((x2.getD p114.toNat ((0, 0) : Int × Int)).2))) || (!(x1.getD (((x2.getD p114.toNat ((0, 0) : Int × Int)).2).toNat) false)))) (m_slices_Contains_impl_Permit_impl_Permit (subL x2 0 p114) ((x2.getD p114.toNat ((0, 0) : Int × Int)).1) ((x2.getD p114.toNat ((0, 0) : Int × Int)).2))) (fun (p120 : Bool) => (bif (((((ltB ((x2.getD p114.toNat ((0, 0) : Int × Int)).1) 0) || (ltB 9 ((x2.getD p114.toNat ((0, 0) : Int × Int)).1))) || (ltB ((x2.getD p114.toNat ((0, 0) : Int × Int)).2) 0)) || (leB (x0.length : Int) ((x2.getD p114.toNat ((0, 0) : Int × Int)).2))) || (!(x1.getD (((x2.getD p114.toNat ((0, 0) : Int × Int)).2).toNat) false))) || p120 then some (Sum.inr false) else rec (w64 (p114 + 1))))))) else some (Sum.inl ()))
def m_impl_WorkValid_l2i (x0 : List Bool) (x1 : List Bool) (x2 : List (Int × Int)) : Nat → Int → Option (Unit ⊕ Bool) := itr (m_impl_WorkValid_l2s x0 x1 x2)
theorem q_m_impl_WorkValid_l2 : @m_impl_WorkValid_l2 = @m_impl_WorkValid_l2i := by
  funext x0 x1 x2 n
  induction n with
  | zero => rfl
  | succ n ih =>
    funext p
    show _ = m_impl_WorkValid_l2s x0 x1 x2 (m_impl_WorkValid_l2i x0 x1 x2 n) p
    rw [← ih]
    rfl
def m_impl_WorkValidi (x0 : List Bool) (x1 : List Bool) (x2 : List (Int × Int)) : Option (Bool) := (bif (((ltB (x0.length : Int) 1) || (ltB 10 (x0.length : Int))) || ((x1.length : Int) != (x0.length : Int))) || (ltB 6 (x2.length : Int)) then some false else Option.bind (m_impl_WorkValid_l1i x0 x1 FUEL 0 : Option (Unit ⊕ Bool)) (Sum.elim (fun (p103 : Unit) => Option.bind (m_impl_WorkValid_l2i x0 x1 x2 FUEL 0 : Option (Unit ⊕ Bool)) (Sum.elim (fun (p111 : Unit) => some true) (fun (r : Bool) => some r))) (fun (r : Bool) => some r)))
theorem q_m_impl_WorkValid : @m_impl_WorkValid = @m_impl_WorkValidi := by
  funext x0 x1 x2
  unfold m_impl_WorkValidi
  rw [← q_m_impl_WorkValid_l1, ← q_m_impl_WorkValid_l2]
  rfl
def k_impl_WorkValid : Ctr := ⟨75, [.g [.sl .ro 4 .b, .sl .ro 4 .b, .sl .ro 78 (.p (.int .i64) (.int .i64))]], [.o .b], false, fun x => m_impl_WorkValid x.1 x.2.1 x.2.2⟩
theorem d_impl_WorkValid : Cok Tryz.prog k_impl_WorkValid := cok (cs := [k_slices_Contains_impl_Permit_impl_Permit]) (rv := [.tmp 2]) (crt := .q .z (.q (.q .z (.q (.q .z .z) .z)) (.q (.q .z (.cut ⟨[(1, .o .k), (2, .o .k)], [(1, [.k, .k, .k])], []⟩ [.rt] (.b (.lp ⟨[(1, .o .k), (2, .o .k), (33, .o .k), (34, .o (.i .i64))], [(1, [.k, .k, .k])], []⟩ (.q .z (.q (.q .z .z) (.q (.b (.q .z (.q .z (.q (.q .z .z) .z)))) .z))))))) (.q (.q .z (.cut ⟨[(2, .o .k)], [], []⟩ [.rt] (.b (.lp ⟨[(1, .o .k), (2, .o .k), (51, .o .k), (52, .o .k), (53, .o (.i .i64))], [(1, [.k, .k, .k])], []⟩ (.q .z (.q (.q .z .z) (.q (.b (.q .z (.q .z (.q (.q .z .z) .z)))) .z))))))) (.q .z .z))))) tys_ok eqt_ok rfl ⟨d_slices_Contains_impl_Permit_impl_Permit, trivial⟩ co75 Tryz.func75 rfl Tryz.ntmps75 rfl rfl (fun x => by
  show m_impl_WorkValid x.1 x.2.1 x.2.2 = _
  rw [q_m_impl_WorkValid]
  kernel_rfl)
def k_impl_Net_hasLine : Ctr := ⟨59, [.g [.int .i64, .sl .ro 130 (.p (.int .i64) (.p (.int .i64) (.int .i64)))], .o (.int .i64)], [.o .b], false, fun x => m_impl_Net_hasLine x.1 x.2.1 x.2.2⟩
theorem d_impl_Net_hasLine : Cok Tryz.prog k_impl_Net_hasLine := cok (cs := []) (rv := [.tmp 4]) (crt := .q .z (.q .z .z)) tys_ok eqt_ok rfl trivial co59 Tryz.func59 rfl Tryz.ntmps59 rfl rfl (fun _ => by kernel_rfl)
def k_impl_StateValid : Ctr := ⟨142, [.g [.int .i64, .sl .ro 130 (.p (.int .i64) (.p (.int .i64) (.int .i64)))], .o (.sl .ro 4 .b)], [.o .b], false, fun x => m_impl_StateValid x.1 x.2.1 x.2.2⟩
theorem d_impl_StateValid : Cok Tryz.prog k_impl_StateValid := cok (cs := [k_impl_NetValid]) (rv := [.tmp 4]) (crt := .q .z (.q .z .z)) tys_ok eqt_ok rfl ⟨d_impl_NetValid, trivial⟩ co142 Tryz.func142 rfl Tryz.ntmps142 rfl rfl (fun _ => by kernel_rfl)
def k_impl_fedValid : Ctr := ⟨119, [.g [.int .i64, .sl .ro 130 (.p (.int .i64) (.p (.int .i64) (.int .i64)))], .o (.sl .ro 4 .b), .o (.sl .ro 110 (.p (.int .i64) (.int .i64)))], [.o .b], false, fun x => m_impl_fedValid x.1 x.2.1 x.2.2.1 x.2.2.2⟩
theorem d_impl_fedValid : Cok Tryz.prog k_impl_fedValid := cok (cs := [k_impl_StateValid, k_impl_BusesValid]) (rv := [.tmp 6]) (crt := .q .z (.q .z .z)) tys_ok eqt_ok rfl ⟨d_impl_StateValid, d_impl_BusesValid, trivial⟩ co119 Tryz.func119 rfl Tryz.ntmps119 rfl rfl (fun _ => by kernel_rfl)
def m_impl_newUnion_l1s (x0 : Int) (rec : (List Int × Int) → Option ((List Int))) (p107 : (List Int × Int)) : Option ((List Int)) := (bif ltB p107.2 (x0.toNat : Int) then chk (ixB p107.2 x0.toNat) (rec (p107.1.set p107.2.toNat p107.2, w64 (p107.2 + 1))) else some p107.1)
def m_impl_newUnion_l1i (x0 : Int) : Nat → (List Int × Int) → Option ((List Int)) := itr (m_impl_newUnion_l1s x0)
theorem q_m_impl_newUnion_l1 : @m_impl_newUnion_l1 = @m_impl_newUnion_l1i := by
  funext x0 n
  induction n with
  | zero => rfl
  | succ n ih =>
    funext p
    show _ = m_impl_newUnion_l1s x0 (m_impl_newUnion_l1i x0 n) p
    rw [← ih]
    rfl
def m_impl_newUnioni (x0 : Int) : Option (List Int) := chk (mkB x0) (Option.bind (m_impl_newUnion_l1i x0 FUEL (List.replicate x0.toNat (0 : Int), 0)) (fun (p103 : List Int) => some p103))
theorem q_m_impl_newUnion : @m_impl_newUnion = @m_impl_newUnioni := by
  funext x0
  unfold m_impl_newUnioni
  rw [← q_m_impl_newUnion_l1]
  rfl
def k_impl_newUnion : Ctr := ⟨150, [.o (.int .i64)], [.o (.row 3 (.int .i64))], false, fun x => m_impl_newUnion x⟩
theorem d_impl_newUnion : Cok Tryz.prog k_impl_newUnion := cok (cs := []) (rv := [.tmp 2]) (crt := .q .z (.q .z (.q (.q .z (.cut ⟨[(2, .o .k), (3, .o (.w 3 (.int .i64)))], [], []⟩ [] (.b (.lp ⟨[(2, .o .k), (3, .o (.w 3 (.int .i64))), (8, .o .k), (9, .o (.i .i64))], [], []⟩ (.q .z (.q (.q .z .z) (.q (.b (.q .z .z)) .z))))))) (.q .z .z)))) tys_ok eqt_ok rfl trivial co150 Tryz.func150 rfl Tryz.ntmps150 rfl rfl (fun x => by
  show m_impl_newUnion x = _
  rw [q_m_impl_newUnion]
  kernel_rfl)
def m_impl_union_find_l1s (x0 : List Int) (rec : (List Int × Int) → Option ((Int × List Int))) (p105 : (List Int × Int)) : Option ((Int × List Int)) := chk (ixB p105.2 x0.length) ((bif (p105.1.getD p105.2.toNat (0 : Int)) != p105.2 then chk (ixB p105.2 x0.length) (chk (ixB (p105.1.getD p105.2.toNat (0 : Int)) x0.length) (chk (ixB p105.2 x0.length) (chk (ixB p105.2 x0.length) (rec (p105.1.set p105.2.toNat (p105.1.getD ((p105.1.getD p105.2.toNat (0 : Int)).toNat) (0 : Int)), ((p105.1.set p105.2.toNat (p105.1.getD ((p105.1.getD p105.2.toNat (0 : Int)).toNat) (0 : Int))).getD p105.2.toNat (0 : Int))))))) else some (p105.2, p105.1)))
def m_impl_union_find_l1i (x0 : List Int) : Nat → (List Int × Int) → Option ((Int × List Int)) := itr (m_impl_union_find_l1s x0)
theorem q_m_impl_union_find_l1 : @m_impl_union_find_l1 = @m_impl_union_find_l1i := by
  funext x0 n
  induction n with
  | zero => rfl
  | succ n ih =>
    funext p
    show _ = m_impl_union_find_l1s x0 (m_impl_union_find_l1i x0 n) p
    rw [← ih]
    rfl
def m_impl_union_findi (x0 : List Int) (x1 : Int) : Option (Int × List Int) := Option.bind (m_impl_union_find_l1i x0 FUEL (x0, x1)) (fun (p101 : Int × List Int) => some (p101.1, p101.2))
theorem q_m_impl_union_find : @m_impl_union_find = @m_impl_union_findi := by
  funext x0 x1
  unfold m_impl_union_findi
  rw [← q_m_impl_union_find_l1]
  rfl
def k_impl_union_find : Ctr := ⟨156, [.o (.sl .mu 3 (.int .i64)), .o (.int .i64)], [.o (.int .i64)], true, fun x => m_impl_union_find x.1 x.2⟩
theorem d_impl_union_find : Cok Tryz.prog k_impl_union_find := cok (cs := []) (rv := [.tmp 4]) (crt := .q .z (.q (.cut ⟨[(1, .o (.i .i64)), (4, .o .k)], [], [(0, .r 3 (.int .i64))]⟩ [] (.b (.lp ⟨[(0, .o (.w 3 (.int .i64))), (1, .o (.i .i64)), (4, .o .k)], [], []⟩ (.q (.q .z (.q .z .z)) (.b (.q .z .z)))))) (.q .z .z))) tys_ok eqt_ok rfl trivial co156 Tryz.func156 rfl Tryz.ntmps156 rfl rfl (fun x => by
  show m_impl_union_find x.1 x.2 = _
  rw [q_m_impl_union_find]
  kernel_rfl)
def k_impl_union_same : Ctr := ⟨151, [.o (.sl .mu 3 (.int .i64)), .o (.int .i64), .o (.int .i64)], [.o .b], true, fun x => m_impl_union_same x.1 x.2.1 x.2.2⟩
theorem d_impl_union_same : Cok Tryz.prog k_impl_union_same := cok (cs := [k_impl_union_find]) (rv := [.tmp 6]) (crt := .q .z (.q .z .z)) tys_ok eqt_ok rfl ⟨d_impl_union_find, trivial⟩ co151 Tryz.func151 rfl Tryz.ntmps151 rfl rfl (fun _ => by kernel_rfl)
def k_impl_union_join : Ctr := ⟨152, [.o (.sl .mu 3 (.int .i64)), .o (.int .i64), .o (.int .i64)], [], true, fun x => m_impl_union_join x.1 x.2.1 x.2.2⟩
theorem d_impl_union_join : Cok Tryz.prog k_impl_union_join := cok (cs := [k_impl_union_find]) (rv := []) (crt := .q .z .z) tys_ok eqt_ok rfl ⟨d_impl_union_find, trivial⟩ co152 Tryz.func152 rfl Tryz.ntmps152 rfl rfl (fun _ => by kernel_rfl)
def m_impl_hasCycle_l1s (x1 : List (Int × Int × Int)) (x2 : List Bool) (rec : (List Int × Int) → Option (Unit ⊕ Bool)) (p109 : (List Int × Int)) : Option (Unit ⊕ Bool) := (bif ltB p109.2 (x1.length : Int) then chk (ixB p109.2 x1.length) (chk (ixB p109.2 x2.length) (Option.bind ((bif x2.getD p109.2.toNat false then Option.bind (m_impl_union_same p109.1 ((x1.getD p109.2.toNat ((0, 0, 0) : Int × Int × Int)).1) ((x1.getD p109.2.toNat ((0, 0, 0) : Int × Int × Int)).2.1)) (fun (p120 : Bool × List Int) => (bif p120.1 then some (Sum.inr true) else Option.bind (m_impl_union_join p120.2 ((x1.getD p109.2.toNat ((0, 0, 0) : Int × Int × Int)).1) ((x1.getD p109.2.toNat ((0, 0, 0) : Int × Int × Int)).2.1)) (fun (p123 : List Int) => some (Sum.inl p123)))) else some (Sum.inl p109.1)) : Option ((List Int) ⊕ Bool)) (Sum.elim (fun (p115 : List Int) => rec (p115, w64 (p109.2 + 1))) (fun (r : Bool) => some (Sum.inr r))))) else some (Sum.inl ()))
def m_impl_hasCycle_l1i (x1 : List (Int × Int × Int)) (x2 : List Bool) : Nat → (List Int × Int) → Option (Unit ⊕ Bool) := itr (m_impl_hasCycle_l1s x1 x2)
theorem q_m_impl_hasCycle_l1 : @m_impl_hasCycle_l1 = @m_impl_hasCycle_l1i := by
  funext x1 x2 n
  induction n with
  | zero => rfl
  | succ n ih =>
    funext p
    show _ = m_impl_hasCycle_l1s x1 x2 (m_impl_hasCycle_l1i x1 x2 n) p
    rw [← ih]
    rfl
def m_impl_hasCyclei (x0 : Int) (x1 : List (Int × Int × Int)) (x2 : List Bool) : Option (Bool) := Option.bind (m_impl_newUnion x0) (fun (p102 : List Int) => Option.bind (m_impl_hasCycle_l1i x1 x2 FUEL (p102, 0) : Option (Unit ⊕ Bool)) (Sum.elim (fun (p106 : Unit) => some false) (fun (r : Bool) => some r)))
theorem q_m_impl_hasCycle : @m_impl_hasCycle = @m_impl_hasCyclei := by
  funext x0 x1 x2
  unfold m_impl_hasCyclei
  rw [← q_m_impl_hasCycle_l1]
  rfl
def k_impl_hasCycle : Ctr := ⟨137, [.g [.int .i64, .sl .ro 130 (.p (.int .i64) (.p (.int .i64) (.int .i64)))], .o (.sl .ro 4 .b)], [.o .b], false, fun x => m_impl_hasCycle x.1 x.2.1 x.2.2⟩
theorem d_impl_hasCycle : Cok Tryz.prog k_impl_hasCycle := cok (cs := [k_impl_newUnion, k_impl_union_same, k_impl_union_join]) (rv := [.tmp 4]) (crt := .q .z (.q .z (.q (.q .z (.cut ⟨[(4, .o .k)], [], []⟩ [.rt] (.b (.lp ⟨[(1, .o .k), (4, .o .k), (5, .o (.w 3 (.int .i64))), (12, .o .k), (13, .o .k), (14, .o (.i .i64))], [], []⟩ (.q .z (.q (.q .z .z) (.q (.b (.q .z (.q .z (.cut ⟨[(1, .o .k), (4, .o .k), (5, .o (.w 3 (.int .i64))), (12, .o .k), (13, .o .k), (14, .o .k)], [], []⟩ [.rt] (.q (.q (.q .z (.q (.q .z .z) .z)) .z) .z))))) .z))))))) (.q .z .z)))) tys_ok eqt_ok rfl ⟨d_impl_newUnion, d_impl_union_same, d_impl_union_join, trivial⟩ co137 Tryz.func137 rfl Tryz.ntmps137 rfl rfl (fun x => by
  show m_impl_hasCycle x.1 x.2.1 x.2.2 = _
  rw [q_m_impl_hasCycle]
  kernel_rfl)
def k_impl_Line_other : Ctr := ⟨153, [.g [.int .i64, .int .i64, .int .i64], .o (.int .i64)], [.o (.int .i64)], false, fun x => m_impl_Line_other x.1 x.2.1 x.2.2.1 x.2.2.2⟩
theorem d_impl_Line_other : Cok Tryz.prog k_impl_Line_other := cok (cs := []) (rv := [.tmp 4]) (crt := .q .z (.q (.q .z (.b (.q .z (.q (.q .z .z) (.q .z (.q (.q .z .z) .z)))))) (.q .z .z))) tys_ok eqt_ok rfl trivial co153 Tryz.func153 rfl Tryz.ntmps153 rfl rfl (fun _ => by kernel_rfl)
def m_impl_tree_search_l2s (x1 : List (Int × Int × Int)) (x2 : List Int) (x3 : List Int) (x5 : List Bool) (x6 : Int) (p112 : Int × List Int × List Int × List Int) (rec : (Int × List Int × List Int × List Int) → Option ((List Int × List Int × List Int))) (p126 : (Int × List Int × List Int × List Int)) : Option ((List Int × List Int × List Int)) := (bif ltB p126.1 (x1.length : Int) then chk (ixB p126.1 x1.length) (Option.bind (m_impl_Line_other ((x1.getD p126.1.toNat ((0, 0, 0) : Int × Int × Int)).1) ((x1.getD p126.1.toNat ((0, 0, 0) : Int × Int × Int)).2.1) ((x1.getD p126.1.toNat ((0, 0, 0) : Int × Int × Int)).2.2) (p112.2.2.2.getD p112.1.toNat (0 : Int))) (fun (p134 : Int) => chk (ixB p126.1 x5.length) (chk (!((x5.getD p126.1.toNat false) && (leB 0 p134)) || ixB p134 x2.length) (Option.bind (bif ((x5.getD p126.1.toNat false) && (leB 0 p134)) && (ltB (p126.2.1.getD p134.toNat (0 : Int)) 0) then chk (ixB p134 x2.length) (chk (ixB p134 x3.length) (chk (apB p126.2.2.2.length ([p134] : List Int).length) (some (p126.2.1.set p134.toNat x6, p126.2.2.1.set p134.toNat p126.1, p126.2.2.2 ++ ([p134] : List Int))))) else some (p126.2.1, p126.2.2.1, p126.2.2.2)) (fun (p137 : List Int × List Int × List Int) => rec (w64 (p126.1 + 1), p137.1, p137.2.1, p137.2.2)))))) else some (p126.2.1, p126.2.2.1, p126.2.2.2))
def m_impl_tree_search_l2i (x1 : List (Int × Int × Int)) (x2 : List Int) (x3 : List Int) (x5 : List Bool) (x6 : Int) (p112 : Int × List Int × List Int × List Int) : Nat → (Int × List Int × List Int × List Int) → Option ((List Int × List Int × List Int)) := itr (m_impl_tree_search_l2s x1 x2 x3 x5 x6 p112)
theorem q_m_impl_tree_search_l2 : @m_impl_tree_search_l2 = @m_impl_tree_search_l2i := by
  funext x1 x2 x3 x5 x6 p112 n
  induction n with
  | zero => rfl
  | succ n ih =>
    funext p
    show _ = m_impl_tree_search_l2s x1 x2 x3 x5 x6 p112 (m_impl_tree_search_l2i x1 x2 x3 x5 x6 p112 n) p
    rw [← ih]
    rfl
def m_impl_tree_search_l1s (x1 : List (Int × Int × Int)) (x2 : List Int) (x3 : List Int) (x5 : List Bool) (x6 : Int) (rec : (Int × List Int × List Int × List Int) → Option ((List Int × List Int × List Int))) (p112 : (Int × List Int × List Int × List Int)) : Option ((List Int × List Int × List Int)) := (bif ltB p112.1 (p112.2.2.2.length : Int) then chk (ixB p112.1 p112.2.2.2.length) (Option.bind (m_impl_tree_search_l2i x1 x2 x3 x5 x6 p112 FUEL (0, p112.2.1, p112.2.2.1, p112.2.2.2)) (fun (p119 : List Int × List Int × List Int) => rec (w64 (p112.1 + 1), p119.1, p119.2.1, p119.2.2))) else some (p112.2.1, p112.2.2.1, p112.2.2.2))
def m_impl_tree_search_l1i (x1 : List (Int × Int × Int)) (x2 : List Int) (x3 : List Int) (x5 : List Bool) (x6 : Int) : Nat → (Int × List Int × List Int × List Int) → Option ((List Int × List Int × List Int)) := itr (m_impl_tree_search_l1s x1 x2 x3 x5 x6)
theorem q_m_impl_tree_search_l1 : @m_impl_tree_search_l1 = @m_impl_tree_search_l1i := by
  funext x1 x2 x3 x5 x6 n
  induction n with
  | zero => rfl
  | succ n ih =>
    funext p
    show _ = m_impl_tree_search_l1s x1 x2 x3 x5 x6 (m_impl_tree_search_l1i x1 x2 x3 x5 x6 n) p
    rw [← ih]
    unfold m_impl_tree_search_l1s
    rw [← q_m_impl_tree_search_l2]
    rfl
def m_impl_tree_searchi (x0 : Int) (x1 : List (Int × Int × Int)) (x2 : List Int) (x3 : List Int) (x4 : List Int) (x5 : List Bool) (x6 : Int) : Option (Int × List Int × List Int × List Int) := chk (apB x4.length ([x6] : List Int).length) (Option.bind (m_impl_tree_search_l1i x1 x2 x3 x5 x6 FUEL ((x4.length : Int), x2, x3, x4 ++ ([x6] : List Int))) (fun (p105 : List Int × List Int × List Int) => some (x0, p105.1, p105.2.1, p105.2.2)))
theorem q_m_impl_tree_search : @m_impl_tree_search = @m_impl_tree_searchi := by
  funext x0 x1 x2 x3 x4 x5 x6
  unfold m_impl_tree_searchi
  rw [← q_m_impl_tree_search_l1]
  rfl
def k_impl_tree_search : Ctr := ⟨138, [.bx 145 [.int .i64, .sl .ro 130 (.p (.int .i64) (.p (.int .i64) (.int .i64))), .sl .mu 3 (.int .i64), .sl .mu 3 (.int .i64), .sl .mu 3 (.int .i64)], .o (.sl .ro 4 .b), .o (.int .i64)], [], true, fun x => m_impl_tree_search x.1 x.2.1 x.2.2.1 x.2.2.2.1 x.2.2.2.2.1 x.2.2.2.2.2.1 x.2.2.2.2.2.2⟩
theorem d_impl_tree_search : Cok Tryz.prog k_impl_tree_search := cok (cs := [k_impl_Line_other]) (rv := []) (crt := .q .z (.q .z (.cut ⟨[], [(4096, [.k, .k, .w 3 (.int .i64), .w 3 (.int .i64), .r 3 (.int .i64)])], []⟩ [] (.b (.lp ⟨[(0, .o .k), (1, .o .k), (2, .o .k), (6, .o (.i .i64))], [(4096, [.k, .k, .w 3 (.int .i64), .w 3 (.int .i64), .r 3 (.int .i64)])], []⟩ (.q (.q .z (.q .z .z)) (.q (.b (.q .z (.q .z (.cut ⟨[(0, .o .k), (1, .o .k), (2, .o .k), (6, .o .k)], [(4096, [.k, .k, .w 3 (.int .i64), .w 3 (.int .i64), .r 3 (.int .i64)])], []⟩ [] (.b (.lp ⟨[(0, .o .k), (1, .o .k), (2, .o .k), (6, .o .k), (7, .o .k), (46, .o .k), (47, .o .k), (48, .o (.i .i64))], [(4096, [.k, .k, .w 3 (.int .i64), .w 3 (.int .i64), .r 3 (.int .i64)])], []⟩ (.q .z (.q (.q .z .z) (.q (.b (.q .z (.q .z (.q .z (.cut ⟨[(0, .o .k), (1, .o .k), (2, .o .k), (6, .o .k), (7, .o .k), (46, .o .k), (47, .o .k), (48, .o .k)], [(4096, [.k, .k, .w 3 (.int .i64), .w 3 (.int .i64), .r 3 (.int .i64)])], []⟩ [] (.q (.q .z .z) .z)))))) .z))))))))) .z))))))) tys_ok eqt_ok rfl ⟨d_impl_Line_other, trivial⟩ co138 Tryz.func138 rfl Tryz.ntmps138 rfl rfl (fun x => by
  show m_impl_tree_search x.1 x.2.1 x.2.2.1 x.2.2.2.1 x.2.2.2.2.1 x.2.2.2.2.2.1 x.2.2.2.2.2.2 = _
  rw [q_m_impl_tree_search]
  kernel_rfl)
def m_impl_treeOf_l1s (x0 : Int) (rec : (Int × List Int × List Int) → Option ((List Int × List Int))) (p116 : (Int × List Int × List Int)) : Option ((List Int × List Int)) := (bif ltB p116.1 x0 then chk (ixB p116.1 x0.toNat) (chk (ixB p116.1 x0.toNat) (rec (w64 (p116.1 + 1), p116.2.1.set p116.1.toNat (-1), p116.2.2.set p116.1.toNat (-1)))) else some (p116.2.1, p116.2.2))
def m_impl_treeOf_l1i (x0 : Int) : Nat → (Int × List Int × List Int) → Option ((List Int × List Int)) := itr (m_impl_treeOf_l1s x0)
theorem q_m_impl_treeOf_l1 : @m_impl_treeOf_l1 = @m_impl_treeOf_l1i := by
  funext x0 n
  induction n with
  | zero => rfl
  | succ n ih =>
    funext p
    show _ = m_impl_treeOf_l1s x0 (m_impl_treeOf_l1i x0 n) p
    rw [← ih]
    rfl
def m_impl_treeOf_l2s (x1 : List (Int × Int × Int)) (x2 : List Bool) (x3 : List (Int × Int)) (rec : (Int × Int × List Int × List Int × List Int) → Option ((Int × List Int × List Int × List Int) ⊕ (Int × Bool × List Int × List Int × List Int × Bool))) (p131 : (Int × Int × List Int × List Int × List Int)) : Option ((Int × List Int × List Int × List Int) ⊕ (Int × Bool × List Int × List Int × List Int × Bool)) := (bif ltB p131.1 (x3.length : Int) then Option.bind (chk (ixB p131.1 x3.length) ((bif ((x3.getD p131.1.toNat ((0, 0) : Int × Int)).1) == 0 then some (Sum.inl (p131.2.1, p131.2.2.1, p131.2.2.2.1, p131.2.2.2.2)) else chk (ixB p131.1 p131.2.2.1.length) ((bif leB 0 (p131.2.2.1.getD p131.1.toNat (0 : Int)) then some (Sum.inr (0, false, ([] : List Int), ([] : List Int), ([] : List Int), false)) else chk (ixB p131.1 p131.2.2.1.length) (Option.bind (m_impl_tree_search p131.2.1 x1 (p131.2.2.1.set p131.1.toNat p131.1) p131.2.2.2.1 p131.2.2.2.2 x2 p131.1) (fun (p154 : Int × List Int × List Int × List Int) => some (Sum.inl (p154.1, p154.2.1, p154.2.2.1, p154.2.2.2)))))))) : Option ((Int × List Int × List Int × List Int) ⊕ (Int × Bool × List Int × List Int × List Int × Bool))) (Sum.elim (fun (p139 : Int × List Int × List Int × List Int) => rec (w64 (p131.1 + 1), p139.1, p139.2.1, p139.2.2.1, p139.2.2.2)) (fun (r : (Int × Bool × List Int × List Int × List Int × Bool)) => some (Sum.inr r))) else some (Sum.inl (p131.2.1, p131.2.2.1, p131.2.2.2.1, p131.2.2.2.2)))
def m_impl_treeOf_l2i (x1 : List (Int × Int × Int)) (x2 : List Bool) (x3 : List (Int × Int)) : Nat → (Int × Int × List Int × List Int × List Int) → Option ((Int × List Int × List Int × List Int) ⊕ (Int × Bool × List Int × List Int × List Int × Bool)) := itr (m_impl_treeOf_l2s x1 x2 x3)
theorem q_m_impl_treeOf_l2 : @m_impl_treeOf_l2 = @m_impl_treeOf_l2i := by
  funext x1 x2 x3 n
  induction n with
  | zero => rfl
  | succ n ih =>
    funext p
    show _ = m_impl_treeOf_l2s x1 x2 x3 (m_impl_treeOf_l2i x1 x2 x3 n) p
    rw [← ih]
    rfl
def m_impl_treeOfi (x0 : Int) (x1 : List (Int × Int × Int)) (x2 : List Bool) (x3 : List (Int × Int)) : Option (Int × Bool × List Int × List Int × List Int × Bool) := Option.bind (m_impl_fedValid x0 x1 x2 x3) (fun (p103 : Bool) => Option.bind (gb (!(!p103)) (m_impl_hasCycle x0 x1 x2)) (fun (p104 : Bool) => (bif (!p103) || p104 then some (0, false, ([] : List Int), ([] : List Int), ([] : List Int), false) else chk (mkB x0) (chk (mkB x0) (Option.bind (m_impl_treeOf_l1i x0 FUEL (0, List.replicate x0.toNat (0 : Int), List.replicate x0.toNat (0 : Int))) (fun (p111 : List Int × List Int) => Option.bind (m_impl_treeOf_l2i x1 x2 x3 FUEL (0, x0, p111.1, p111.2, ([] : List Int)) : Option ((Int × List Int × List Int × List Int) ⊕ (Int × Bool × List Int × List Int × List Int × Bool))) (Sum.elim (fun (p122 : Int × List Int × List Int × List Int) => some (p122.1, true, p122.2.1, p122.2.2.1, p122.2.2.2, true)) (fun (r : (Int × Bool × List Int × List Int × List Int × Bool)) => some r))))))))
theorem q_m_impl_treeOf : @m_impl_treeOf = @m_impl_treeOfi := by
  funext x0 x1 x2 x3
  unfold m_impl_treeOfi
  rw [← q_m_impl_treeOf_l1, ← q_m_impl_treeOf_l2]
  rfl
def k_impl_treeOf : Ctr := ⟨111, [.g [.int .i64, .sl .ro 130 (.p (.int .i64) (.p (.int .i64) (.int .i64)))], .o (.sl .ro 4 .b), .o (.sl .ro 110 (.p (.int .i64) (.int .i64)))], [.g [.int .i64, .al 1, .row 3 (.int .i64), .row 3 (.int .i64), .row 3 (.int .i64)], .o .b], false, fun x => m_impl_treeOf x.1 x.2.1 x.2.2.1 x.2.2.2⟩
theorem d_impl_treeOf : Cok Tryz.prog k_impl_treeOf := cok (cs := [k_impl_fedValid, k_impl_hasCycle, k_impl_tree_search]) (rv := [.cell 6 145, .tmp 7]) (crt := .q .z (.q (.q .z (.q (.q .z .z) .z)) (.q .z (.q (.q .z (.cut ⟨[(1, .o .k), (2, .o .k), (6, .o .k), (7, .o .k), (8, .o .k)], [(8, [.k, .k, .w 3 (.int .i64), .w 3 (.int .i64), .k]), (6, [.k, .k, .k, .k, .k])], []⟩ [] (.b (.lp ⟨[(1, .o .k), (2, .o .k), (6, .o .k), (7, .o .k), (8, .o .k), (32, .o .k), (33, .o (.i .i64))], [(8, [.k, .k, .w 3 (.int .i64), .w 3 (.int .i64), .k]), (6, [.k, .k, .k, .k, .k])], []⟩ (.q .z (.q (.q .z .z) (.q (.b (.q .z .z)) .z))))))) (.q (.q .z (.cut ⟨[(6, .o .k), (7, .o .k), (8, .o .k)], [(8, [.i .i64, .k, .r 3 (.int .i64), .r 3 (.int .i64), .r 3 (.int .i64)]), (6, [.k, .k, .k, .k, .k])], []⟩ [.rt] (.b (.lp ⟨[(1, .o .k), (6, .o .k), (7, .o .k), (8, .o .k), (45, .o .k), (46, .o .k), (47, .o (.i .i64))], [(8, [.i .i64, .k, .r 3 (.int .i64), .r 3 (.int .i64), .r 3 (.int .i64)]), (6, [.k, .k, .k, .k, .k])], []⟩ (.q .z (.q (.q .z .z) (.q (.cut ⟨[(1, .o .k), (6, .o .k), (7, .o .k), (8, .o .k), (45, .o .k), (46, .o .k), (47, .o .k)], [(8, [.i .i64, .k, .r 3 (.int .i64), .r 3 (.int .i64), .r 3 (.int .i64)]), (6, [.k, .k, .k, .k, .k])], []⟩ [.rt] (.b (.q .z (.q (.q .z (.q .z .z)) (.q (.q .z (.q (.q .z .z) .z)) (.q .z .z)))))) .z))))))) (.q .z .z)))))) tys_ok eqt_ok rfl ⟨d_impl_fedValid, d_impl_hasCycle, d_impl_tree_search, trivial⟩ co111 Tryz.func111 rfl Tryz.ntmps111 rfl rfl (fun x => by
  show m_impl_treeOf x.1 x.2.1 x.2.2.1 x.2.2.2 = _
  rw [q_m_impl_treeOf]
  kernel_rfl)
def k_impl_Radial : Ctr := ⟨76, [.g [.int .i64, .sl .ro 130 (.p (.int .i64) (.p (.int .i64) (.int .i64)))], .o (.sl .ro 4 .b), .o (.sl .ro 110 (.p (.int .i64) (.int .i64)))], [.o .b], false, fun x => m_impl_Radial x.1 x.2.1 x.2.2.1 x.2.2.2⟩
theorem d_impl_Radial : Cok Tryz.prog k_impl_Radial := cok (cs := [k_impl_treeOf]) (rv := [.tmp 6]) (crt := .q .z (.q .z (.q .z .z))) tys_ok eqt_ok rfl ⟨d_impl_treeOf, trivial⟩ co76 Tryz.func76 rfl Tryz.ntmps76 rfl rfl (fun _ => by kernel_rfl)
def m_impl_WorldValid_l1s (x0 : Int) (x1 : List (Int × Int × Int)) (x3 : List Bool) (x6 : List Int) (rec : Int → Option (Unit ⊕ Bool)) (p108 : Int) : Option (Unit ⊕ Bool) := (bif ltB p108 (x6.length : Int) then chk (ixB p108 x6.length) (Option.bind (m_impl_Net_hasLine x0 x1 (x6.getD p108.toNat (0 : Int))) (fun (p111 : Bool) => chk (!(!(!p111)) || ixB (x6.getD p108.toNat (0 : Int)) x3.length) (chk (!((!((!p111) || (x3.getD ((x6.getD p108.toNat (0 : Int)).toNat) false))) && (ltB 0 p108)) || ixB (w64 (p108 - 1)) x6.length) ((bif ((!p111) || (x3.getD ((x6.getD p108.toNat (0 : Int)).toNat) false)) || ((ltB 0 p108) && (leB (x6.getD p108.toNat (0 : Int)) (x6.getD ((w64 (p108 - 1)).toNat) (0 : Int)))) then some (Sum.inr false) else rec (w64 (p108 + 1))))))) else some (Sum.inl ()))
def m_impl_WorldValid_l1i (x0 : Int) (x1 : List (Int × Int × Int)) (x3 : List Bool) (x6 : List Int) : Nat → Int → Option (Unit ⊕ Bool) := itr (m_impl_WorldValid_l1s x0 x1 x3 x6)
theorem q_m_impl_WorldValid_l1 : @m_impl_WorldValid_l1 = @m_impl_WorldValid_l1i := by
  funext x0 x1 x3 x6 n
  induction n with
  | zero => rfl
  | succ n ih =>
    funext p
    show _ = m_impl_WorldValid_l1s x0 x1 x3 x6 (m_impl_WorldValid_l1i x0 x1 x3 x6 n) p
    rw [← ih]
    rfl
def m_impl_WorldValidi (x0 : Int) (x1 : List (Int × Int × Int)) (x2 : List (Int × Int)) (x3 : List Bool) (x4 : List Bool) (x5 : List (Int × Int)) (x6 : List Int) : Option (Bool) := Option.bind (m_impl_BusesValid x0 x1 x2) (fun (p102 : Bool) => Option.bind (gb (!(!p102)) (m_impl_WorkValid x3 x4 x5)) (fun (p103 : Bool) => (bif ((!p102) || (!p103)) || ((x3.length : Int) != (x1.length : Int)) then some false else Option.bind (m_impl_WorldValid_l1i x0 x1 x3 x6 FUEL 0 : Option (Unit ⊕ Bool)) (Sum.elim (fun (p105 : Unit) => Option.bind (m_impl_Radial x0 x1 x3 x2) (fun (p115 : Bool) => some p115)) (fun (r : Bool) => some r)))))
theorem q_m_impl_WorldValid : @m_impl_WorldValid = @m_impl_WorldValidi := by
  funext x0 x1 x2 x3 x4 x5 x6
  unfold m_impl_WorldValidi
  rw [← q_m_impl_WorldValid_l1]
  rfl
def k_impl_WorldValid : Ctr := ⟨35, [.g [.int .i64, .sl .ro 130 (.p (.int .i64) (.p (.int .i64) (.int .i64))), .sl .ro 110 (.p (.int .i64) (.int .i64)), .sl .ro 4 .b, .sl .ro 4 .b, .sl .ro 78 (.p (.int .i64) (.int .i64)), .sl .ro 3 (.int .i64)]], [.o .b], false, fun x => m_impl_WorldValid x.1 x.2.1 x.2.2.1 x.2.2.2.1 x.2.2.2.2.1 x.2.2.2.2.2.1 x.2.2.2.2.2.2⟩
theorem d_impl_WorldValid : Cok Tryz.prog k_impl_WorldValid := cok (cs := [k_impl_BusesValid, k_impl_WorkValid, k_impl_Net_hasLine, k_impl_Radial]) (rv := [.tmp 2]) (crt := .q .z (.q (.q .z (.q (.q .z .z) .z)) (.q (.q .z (.cut ⟨[(1, .o .k), (2, .o .k)], [(1, [.k, .k, .k, .k, .k, .k, .k])], []⟩ [.rt] (.b (.lp ⟨[(1, .o .k), (2, .o .k), (29, .o .k), (30, .o .k), (31, .o (.i .i64))], [(1, [.k, .k, .k, .k, .k, .k, .k])], []⟩ (.q .z (.q (.q .z .z) (.q (.b (.q .z (.q .z (.q (.q .z .z) .z)))) .z))))))) (.q .z .z)))) tys_ok eqt_ok rfl ⟨d_impl_BusesValid, d_impl_WorkValid, d_impl_Net_hasLine, d_impl_Radial, trivial⟩ co35 Tryz.func35 rfl Tryz.ntmps35 rfl rfl (fun x => by
  show m_impl_WorldValid x.1 x.2.1 x.2.2.1 x.2.2.2.1 x.2.2.2.2.1 x.2.2.2.2.2.1 x.2.2.2.2.2.2 = _
  rw [q_m_impl_WorldValid]
  kernel_rfl)
set_option maxHeartbeats 4000000 in
theorem c_slices_Clone_impl_Line_impl_Line {x0 : List (Int × Int × Int)} {A0 : Option Addr} {n0 c0 : Nat} {w : World} {r : List (Int × Int × Int)} (h0 : Rt w 3 eLine A0 n0 c0 x0) (hM : m_slices_Clone_impl_Line_impl_Line x0 = some r) :
    Calls Tryz.prog 94 #[.slice A0 n0 c0] w (fun e w' => ∃ (B0 : Option Addr) (N0 D0 : Nat), e = .returned (.slice B0 N0 D0) ∧ N0 = r.length ∧ St w w' [.row 130 3 (.slice B0 N0 D0) N0 (r.flatMap eLine)]) := by
  obtain rfl := h0.len
  unfold m_slices_Clone_impl_Line_impl_Line at hM
  obtain ⟨hk, hM⟩ := chk_ex hM
  replace hk := apB_t hk
  obtain rfl := Option.some.inj hM
  refine calls_gw Tryz.func94 Tryz.ntmps94 rfl [(0, .slice A0 x0.length c0)] ⟨rfl, trivial⟩ rfl ?_
  intro a hF
  have S := St.nil w
  refine wp_seq ?_
  refine wp_region_lit ?_
  refine op_val (v := .slice none 0 0) rfl rfl hF rfl (run_assign rfl rfl) ?_; clear hF; intro a hF
  refine wpList_nil ?_
  refine wp_seq ?_
  refine wp_seq ?_
  refine wp_region_lit ?_
  refine op_val (v := .slice A0 x0.length c0) rfl rfl hF rfl (run_move rfl (hF.ev rfl)) ?_; clear hF; intro a hF
  refine op_val (v := .bool (Option.isNone A0)) rfl rfl hF rfl (run_eqlNil rfl Tryz.underlying35 (hF.ev rfl) rfl) ?_; clear hF; intro a hF
  refine wpList_nil ?_
  cases hc101 : (Option.isNone A0)
  · have hx := trivial
    refine cond_f hF rfl hc101 ?_
    refine wp_skip ?_
    refine wp_seq ?_
    refine wp_region_lit ?_
    refine op_newrow (cs := #[]) (size := 3) rfl rfl hF rfl S (run_buildSlice0 rfl Tryz.underlying35 (congrArg Option.isSome sz130)) rfl (Nat.zero_le _) ?_; clear hF S; intro a g102 u hF S
    refine op_val (v := .slice A0 x0.length c0) rfl rfl hF rfl (run_move rfl (hF.ev rfl)) ?_; clear hF; intro a hF
    have hk105 := hk
    refine op_appendL (lx := []) (ly := x0) rfl rfl hF rfl S rfl (hF.ev rfl) (hF.ev rfl) (i := 0) rfl rfl Tryz.underlying35 inf130 rfl (by decide) (S.rc0 h0.rc).rd rfl eLine_one hk105 (by decide) ?_; clear hF S; intro a B103 d104 u hF S
    refine op_val (v := .slice B103 ((([] : List (Int × Int × Int)) ++ x0).length) d104) rfl rfl hF rfl (run_assign rfl (hF.ev rfl)) ?_; clear hF; intro a hF
    refine wpList_nil ?_
    refine wp_ret ?_
    repeat with_reducible (first | refine then_ret ?_ | refine in_ret ?_ | refine in_nrm ?_)
    refine ret1_gw (.inl rfl) hF rfl (res_tmp (hF.ev rfl)) ?_
    exact ⟨B103, ((([] : List (Int × Int × Int)) ++ x0).length), d104, rfl, rfl, S.sel [0] rfl rfl⟩
  · have hx := nil_none h0.rc.rd rfl hc101
    refine cond_t hF rfl hc101 ?_
    refine wp_seq ?_
    refine wp_region_lit ?_
    refine op_val (v := .slice none 0 0) rfl rfl hF rfl (run_assign rfl rfl) ?_; clear hF; intro a hF
    refine wpList_nil ?_
    refine wp_ret ?_
    repeat with_reducible (first | refine then_ret ?_ | refine in_ret ?_ | refine in_nrm ?_)
    refine ret1_gw (.inl rfl) hF rfl (res_tmp (hF.ev rfl)) ?_
    subst hx
    replace S := S.nilrow 130 3
    exact ⟨none, 0, 0, rfl, rfl, S.sel [0] rfl rfl⟩
def k_slices_Clone_impl_Line_impl_Line : Ctr := ⟨94, [.o (.sl .ro 130 (.p (.int .i64) (.p (.int .i64) (.int .i64))))], [.o (.row 130 (.p (.int .i64) (.p (.int .i64) (.int .i64))))], false, fun x => m_slices_Clone_impl_Line_impl_Line x⟩
theorem d_slices_Clone_impl_Line_impl_Line : Cok Tryz.prog k_slices_Clone_impl_Line_impl_Line := ⟨co94, fun x res hm e w0 w X hp hS => by
  obtain ⟨v, vr, hv, ⟨l, hl, hro⟩, _⟩ := hp
  have hl := (List.head_eq_of_cons_eq hv).trans hl
  injection hl with _ hl
  subst hl
  refine (c_slices_Clone_impl_Line_impl_Line (A0 := e.a 0) (n0 := List.length x) (c0 := e.c 0) (w := w) ⟨hro w _ hS (fun y hy => List.mem_append_right _ hy), rfl⟩ hm).mono ?_
  rintro en w' ⟨B, N, D, rfl, hN, S⟩
  subst hN
  exact ⟨[_], [_], rfl, ⟨[_], [], [], [_], [], [], rfl, rfl, ⟨_, [], _, [], [_], [], rfl, rfl, rfl, ⟨res, B, D, rfl, rfl, rfl⟩, rfl, rfl, rfl⟩, ⟨rfl, rfl⟩, ⟨[], [], [], [], rfl, rfl, ⟨rfl, rfl⟩, ⟨rfl, rfl⟩⟩⟩, hS.call1 S⟩⟩
set_option maxHeartbeats 4000000 in
theorem c_slices_Clone_impl_Bus_impl_Bus {x0 : List (Int × Int)} {A0 : Option Addr} {n0 c0 : Nat} {w : World} {r : List (Int × Int)} (h0 : Rt w 2 eBus A0 n0 c0 x0) (hM : m_slices_Clone_impl_Bus_impl_Bus x0 = some r) :
    Calls Tryz.prog 95 #[.slice A0 n0 c0] w (fun e w' => ∃ (B0 : Option Addr) (N0 D0 : Nat), e = .returned (.slice B0 N0 D0) ∧ N0 = r.length ∧ St w w' [.row 110 2 (.slice B0 N0 D0) N0 (r.flatMap eBus)]) := by
  obtain rfl := h0.len
  unfold m_slices_Clone_impl_Bus_impl_Bus at hM
  obtain ⟨hk, hM⟩ := chk_ex hM
  replace hk := apB_t hk
  obtain rfl := Option.some.inj hM
  refine calls_gw Tryz.func95 Tryz.ntmps95 rfl [(0, .slice A0 x0.length c0)] ⟨rfl, trivial⟩ rfl ?_
  intro a hF
  have S := St.nil w
  refine wp_seq ?_
  refine wp_region_lit ?_
  refine op_val (v := .slice none 0 0) rfl rfl hF rfl (run_assign rfl rfl) ?_; clear hF; intro a hF
  refine wpList_nil ?_
  refine wp_seq ?_
  refine wp_seq ?_
  refine wp_region_lit ?_
  refine op_val (v := .slice A0 x0.length c0) rfl rfl hF rfl (run_move rfl (hF.ev rfl)) ?_; clear hF; intro a hF
  refine op_val (v := .bool (Option.isNone A0)) rfl rfl hF rfl (run_eqlNil rfl Tryz.underlying38 (hF.ev rfl) rfl) ?_; clear hF; intro a hF
  refine wpList_nil ?_
  cases hc101 : (Option.isNone A0)
  · have hx := trivial
    refine cond_f hF rfl hc101 ?_
    refine wp_skip ?_
    refine wp_seq ?_
    refine wp_region_lit ?_
    refine op_newrow (cs := #[]) (size := 2) rfl rfl hF rfl S (run_buildSlice0 rfl Tryz.underlying38 (congrArg Option.isSome sz110)) rfl (Nat.zero_le _) ?_; clear hF S; intro a g102 u hF S
    refine op_val (v := .slice A0 x0.length c0) rfl rfl hF rfl (run_move rfl (hF.ev rfl)) ?_; clear hF; intro a hF
    have hk105 := hk
    refine op_appendL (lx := []) (ly := x0) rfl rfl hF rfl S rfl (hF.ev rfl) (hF.ev rfl) (i := 0) rfl rfl Tryz.underlying38 inf110 rfl (by decide) (S.rc0 h0.rc).rd rfl eBus_one hk105 (by decide) ?_; clear hF S; intro a B103 d104 u hF S
    refine op_val (v := .slice B103 ((([] : List (Int × Int)) ++ x0).length) d104) rfl rfl hF rfl (run_assign rfl (hF.ev rfl)) ?_; clear hF; intro a hF
    refine wpList_nil ?_
    refine wp_ret ?_
    repeat with_reducible (first | refine then_ret ?_ | refine in_ret ?_ | refine in_nrm ?_)
    refine ret1_gw (.inl rfl) hF rfl (res_tmp (hF.ev rfl)) ?_
    exact ⟨B103, ((([] : List (Int × Int)) ++ x0).length), d104, rfl, rfl, S.sel [0] rfl rfl⟩
  · have hx := nil_none h0.rc.rd rfl hc101
    refine cond_t hF rfl hc101 ?_
    refine wp_seq ?_
    refine wp_region_lit ?_
    refine op_val (v := .slice none 0 0) rfl rfl hF rfl (run_assign rfl rfl) ?_; clear hF; intro a hF
    refine wpList_nil ?_
    refine wp_ret ?_
    repeat with_reducible (first | refine then_ret ?_ | refine in_ret ?_ | refine in_nrm ?_)
    refine ret1_gw (.inl rfl) hF rfl (res_tmp (hF.ev rfl)) ?_
    subst hx
    replace S := S.nilrow 110 2
    exact ⟨none, 0, 0, rfl, rfl, S.sel [0] rfl rfl⟩
def k_slices_Clone_impl_Bus_impl_Bus : Ctr := ⟨95, [.o (.sl .ro 110 (.p (.int .i64) (.int .i64)))], [.o (.row 110 (.p (.int .i64) (.int .i64)))], false, fun x => m_slices_Clone_impl_Bus_impl_Bus x⟩
theorem d_slices_Clone_impl_Bus_impl_Bus : Cok Tryz.prog k_slices_Clone_impl_Bus_impl_Bus := ⟨co95, fun x res hm e w0 w X hp hS => by
  obtain ⟨v, vr, hv, ⟨l, hl, hro⟩, _⟩ := hp
  have hl := (List.head_eq_of_cons_eq hv).trans hl
  injection hl with _ hl
  subst hl
  refine (c_slices_Clone_impl_Bus_impl_Bus (A0 := e.a 0) (n0 := List.length x) (c0 := e.c 0) (w := w) ⟨hro w _ hS (fun y hy => List.mem_append_right _ hy), rfl⟩ hm).mono ?_
  rintro en w' ⟨B, N, D, rfl, hN, S⟩
  subst hN
  exact ⟨[_], [_], rfl, ⟨[_], [], [], [_], [], [], rfl, rfl, ⟨_, [], _, [], [_], [], rfl, rfl, rfl, ⟨res, B, D, rfl, rfl, rfl⟩, rfl, rfl, rfl⟩, ⟨rfl, rfl⟩, ⟨[], [], [], [], rfl, rfl, ⟨rfl, rfl⟩, ⟨rfl, rfl⟩⟩⟩, hS.call1 S⟩⟩
set_option maxHeartbeats 4000000 in
theorem c_slices_Clone_bool_bool {x0 : List Bool} {A0 : Option Addr} {n0 c0 : Nat} {w : World} {r : List Bool} (h0 : Rt w 1 eB A0 n0 c0 x0) (hM : m_slices_Clone_bool_bool x0 = some r) :
    Calls Tryz.prog 43 #[.slice A0 n0 c0] w (fun e w' => ∃ (B0 : Option Addr) (N0 D0 : Nat), e = .returned (.slice B0 N0 D0) ∧ N0 = r.length ∧ St w w' [.row 4 1 (.slice B0 N0 D0) N0 (r.flatMap eB)]) := by
  obtain rfl := h0.len
  unfold m_slices_Clone_bool_bool at hM
  obtain ⟨hk, hM⟩ := chk_ex hM
  replace hk := apB_t hk
  obtain rfl := Option.some.inj hM
  refine calls_gw Tryz.func43 Tryz.ntmps43 rfl [(0, .slice A0 x0.length c0)] ⟨rfl, trivial⟩ rfl ?_
  intro a hF
  have S := St.nil w
  refine wp_seq ?_
  refine wp_region_lit ?_
  refine op_val (v := .slice none 0 0) rfl rfl hF rfl (run_assign rfl rfl) ?_; clear hF; intro a hF
  refine wpList_nil ?_
  refine wp_seq ?_
  refine wp_seq ?_
  refine wp_region_lit ?_
  refine op_val (v := .slice A0 x0.length c0) rfl rfl hF rfl (run_move rfl (hF.ev rfl)) ?_; clear hF; intro a hF
  refine op_val (v := .bool (Option.isNone A0)) rfl rfl hF rfl (run_eqlNil rfl Tryz.underlying26 (hF.ev rfl) rfl) ?_; clear hF; intro a hF
  refine wpList_nil ?_
  cases hc101 : (Option.isNone A0)
  · have hx := trivial
    refine cond_f hF rfl hc101 ?_
    refine wp_skip ?_
    refine wp_seq ?_
    refine wp_region_lit ?_
    refine op_newrow (cs := #[]) (size := 1) rfl rfl hF rfl S (run_buildSlice0 rfl Tryz.underlying26 (congrArg Option.isSome sz4)) rfl (Nat.zero_le _) ?_; clear hF S; intro a g102 u hF S
    refine op_val (v := .slice A0 x0.length c0) rfl rfl hF rfl (run_move rfl (hF.ev rfl)) ?_; clear hF; intro a hF
    have hk105 := hk
    refine op_appendL (lx := []) (ly := x0) rfl rfl hF rfl S rfl (hF.ev rfl) (hF.ev rfl) (i := 0) rfl rfl Tryz.underlying26 inf4 rfl (by decide) (S.rc0 h0.rc).rd rfl eB_one hk105 (by decide) ?_; clear hF S; intro a B103 d104 u hF S
    refine op_val (v := .slice B103 ((([] : List Bool) ++ x0).length) d104) rfl rfl hF rfl (run_assign rfl (hF.ev rfl)) ?_; clear hF; intro a hF
    refine wpList_nil ?_
    refine wp_ret ?_
    repeat with_reducible (first | refine then_ret ?_ | refine in_ret ?_ | refine in_nrm ?_)
    refine ret1_gw (.inl rfl) hF rfl (res_tmp (hF.ev rfl)) ?_
    exact ⟨B103, ((([] : List Bool) ++ x0).length), d104, rfl, rfl, S.sel [0] rfl rfl⟩
  · have hx := nil_none h0.rc.rd rfl hc101
    refine cond_t hF rfl hc101 ?_
    refine wp_seq ?_
    refine wp_region_lit ?_
    refine op_val (v := .slice none 0 0) rfl rfl hF rfl (run_assign rfl rfl) ?_; clear hF; intro a hF
    refine wpList_nil ?_
    refine wp_ret ?_
    repeat with_reducible (first | refine then_ret ?_ | refine in_ret ?_ | refine in_nrm ?_)
    refine ret1_gw (.inl rfl) hF rfl (res_tmp (hF.ev rfl)) ?_
    subst hx
    replace S := S.nilrow 4 1
    exact ⟨none, 0, 0, rfl, rfl, S.sel [0] rfl rfl⟩
def k_slices_Clone_bool_bool : Ctr := ⟨43, [.o (.sl .ro 4 .b)], [.o (.row 4 .b)], false, fun x => m_slices_Clone_bool_bool x⟩
theorem d_slices_Clone_bool_bool : Cok Tryz.prog k_slices_Clone_bool_bool := ⟨co43, fun x res hm e w0 w X hp hS => by
  obtain ⟨v, vr, hv, ⟨l, hl, hro⟩, _⟩ := hp
  have hl := (List.head_eq_of_cons_eq hv).trans hl
  injection hl with _ hl
  subst hl
  refine (c_slices_Clone_bool_bool (A0 := e.a 0) (n0 := List.length x) (c0 := e.c 0) (w := w) ⟨hro w _ hS (fun y hy => List.mem_append_right _ hy), rfl⟩ hm).mono ?_
  rintro en w' ⟨B, N, D, rfl, hN, S⟩
  subst hN
  exact ⟨[_], [_], rfl, ⟨[_], [], [], [_], [], [], rfl, rfl, ⟨_, [], _, [], [_], [], rfl, rfl, rfl, ⟨res, B, D, rfl, rfl, rfl⟩, rfl, rfl, rfl⟩, ⟨rfl, rfl⟩, ⟨[], [], [], [], rfl, rfl, ⟨rfl, rfl⟩, ⟨rfl, rfl⟩⟩⟩, hS.call1 S⟩⟩
set_option maxHeartbeats 4000000 in
theorem c_slices_Clone_impl_Permit_impl_Permit {x0 : List (Int × Int)} {A0 : Option Addr} {n0 c0 : Nat} {w : World} {r : List (Int × Int)} (h0 : Rt w 2 ePermit A0 n0 c0 x0) (hM : m_slices_Clone_impl_Permit_impl_Permit x0 = some r) :
    Calls Tryz.prog 128 #[.slice A0 n0 c0] w (fun e w' => ∃ (B0 : Option Addr) (N0 D0 : Nat), e = .returned (.slice B0 N0 D0) ∧ N0 = r.length ∧ St w w' [.row 78 2 (.slice B0 N0 D0) N0 (r.flatMap ePermit)]) := by
  obtain rfl := h0.len
  unfold m_slices_Clone_impl_Permit_impl_Permit at hM
  obtain ⟨hk, hM⟩ := chk_ex hM
  replace hk := apB_t hk
  obtain rfl := Option.some.inj hM
  refine calls_gw Tryz.func128 Tryz.ntmps128 rfl [(0, .slice A0 x0.length c0)] ⟨rfl, trivial⟩ rfl ?_
  intro a hF
  have S := St.nil w
  refine wp_seq ?_
  refine wp_region_lit ?_
  refine op_val (v := .slice none 0 0) rfl rfl hF rfl (run_assign rfl rfl) ?_; clear hF; intro a hF
  refine wpList_nil ?_
  refine wp_seq ?_
  refine wp_seq ?_
  refine wp_region_lit ?_
  refine op_val (v := .slice A0 x0.length c0) rfl rfl hF rfl (run_move rfl (hF.ev rfl)) ?_; clear hF; intro a hF
  refine op_val (v := .bool (Option.isNone A0)) rfl rfl hF rfl (run_eqlNil rfl Tryz.underlying39 (hF.ev rfl) rfl) ?_; clear hF; intro a hF
  refine wpList_nil ?_
  cases hc101 : (Option.isNone A0)
  · have hx := trivial
    refine cond_f hF rfl hc101 ?_
    refine wp_skip ?_
    refine wp_seq ?_
    refine wp_region_lit ?_
    refine op_newrow (cs := #[]) (size := 2) rfl rfl hF rfl S (run_buildSlice0 rfl Tryz.underlying39 (congrArg Option.isSome sz78)) rfl (Nat.zero_le _) ?_; clear hF S; intro a g102 u hF S
    refine op_val (v := .slice A0 x0.length c0) rfl rfl hF rfl (run_move rfl (hF.ev rfl)) ?_; clear hF; intro a hF
    have hk105 := hk
    refine op_appendL (lx := []) (ly := x0) rfl rfl hF rfl S rfl (hF.ev rfl) (hF.ev rfl) (i := 0) rfl rfl Tryz.underlying39 inf78 rfl (by decide) (S.rc0 h0.rc).rd rfl ePermit_one hk105 (by decide) ?_; clear hF S; intro a B103 d104 u hF S
    refine op_val (v := .slice B103 ((([] : List (Int × Int)) ++ x0).length) d104) rfl rfl hF rfl (run_assign rfl (hF.ev rfl)) ?_; clear hF; intro a hF
    refine wpList_nil ?_
    refine wp_ret ?_
    repeat with_reducible (first | refine then_ret ?_ | refine in_ret ?_ | refine in_nrm ?_)
    refine ret1_gw (.inl rfl) hF rfl (res_tmp (hF.ev rfl)) ?_
    exact ⟨B103, ((([] : List (Int × Int)) ++ x0).length), d104, rfl, rfl, S.sel [0] rfl rfl⟩
  · have hx := nil_none h0.rc.rd rfl hc101
    refine cond_t hF rfl hc101 ?_
    refine wp_seq ?_
    refine wp_region_lit ?_
    refine op_val (v := .slice none 0 0) rfl rfl hF rfl (run_assign rfl rfl) ?_; clear hF; intro a hF
    refine wpList_nil ?_
    refine wp_ret ?_
    repeat with_reducible (first | refine then_ret ?_ | refine in_ret ?_ | refine in_nrm ?_)
    refine ret1_gw (.inl rfl) hF rfl (res_tmp (hF.ev rfl)) ?_
    subst hx
    replace S := S.nilrow 78 2
    exact ⟨none, 0, 0, rfl, rfl, S.sel [0] rfl rfl⟩
def k_slices_Clone_impl_Permit_impl_Permit : Ctr := ⟨128, [.o (.sl .ro 78 (.p (.int .i64) (.int .i64)))], [.o (.row 78 (.p (.int .i64) (.int .i64)))], false, fun x => m_slices_Clone_impl_Permit_impl_Permit x⟩
theorem d_slices_Clone_impl_Permit_impl_Permit : Cok Tryz.prog k_slices_Clone_impl_Permit_impl_Permit := ⟨co128, fun x res hm e w0 w X hp hS => by
  obtain ⟨v, vr, hv, ⟨l, hl, hro⟩, _⟩ := hp
  have hl := (List.head_eq_of_cons_eq hv).trans hl
  injection hl with _ hl
  subst hl
  refine (c_slices_Clone_impl_Permit_impl_Permit (A0 := e.a 0) (n0 := List.length x) (c0 := e.c 0) (w := w) ⟨hro w _ hS (fun y hy => List.mem_append_right _ hy), rfl⟩ hm).mono ?_
  rintro en w' ⟨B, N, D, rfl, hN, S⟩
  subst hN
  exact ⟨[_], [_], rfl, ⟨[_], [], [], [_], [], [], rfl, rfl, ⟨_, [], _, [], [_], [], rfl, rfl, rfl, ⟨res, B, D, rfl, rfl, rfl⟩, rfl, rfl, rfl⟩, ⟨rfl, rfl⟩, ⟨[], [], [], [], rfl, rfl, ⟨rfl, rfl⟩, ⟨rfl, rfl⟩⟩⟩, hS.call1 S⟩⟩
def k_impl_Work_clone : Ctr := ⟨96, [.g [.sl .ro 4 .b, .sl .ro 4 .b, .sl .ro 78 (.p (.int .i64) (.int .i64))]], [.g [.row 4 .b, .row 4 .b, .row 78 (.p (.int .i64) (.int .i64))]], false, fun x => m_impl_Work_clone x.1 x.2.1 x.2.2⟩
theorem d_impl_Work_clone : Cok Tryz.prog k_impl_Work_clone := cok (cs := [k_slices_Clone_bool_bool, k_slices_Clone_impl_Permit_impl_Permit]) (rv := [.cell 2 41]) (crt := .q .z (.q .z .z)) tys_ok eqt_ok rfl ⟨d_slices_Clone_bool_bool, d_slices_Clone_impl_Permit_impl_Permit, trivial⟩ co96 Tryz.func96 rfl Tryz.ntmps96 rfl rfl (fun _ => by kernel_rfl)
set_option maxHeartbeats 4000000 in
theorem c_slices_Clone_int_int {x0 : List Int} {A0 : Option Addr} {n0 c0 : Nat} {w : World} {r : List Int} (h0 : Rt w 1 eI A0 n0 c0 x0) (hM : m_slices_Clone_int_int x0 = some r) :
    Calls Tryz.prog 97 #[.slice A0 n0 c0] w (fun e w' => ∃ (B0 : Option Addr) (N0 D0 : Nat), e = .returned (.slice B0 N0 D0) ∧ N0 = r.length ∧ St w w' [.row 3 1 (.slice B0 N0 D0) N0 (r.flatMap eI)]) := by
  obtain rfl := h0.len
  unfold m_slices_Clone_int_int at hM
  obtain ⟨hk, hM⟩ := chk_ex hM
  replace hk := apB_t hk
  obtain rfl := Option.some.inj hM
  refine calls_gw Tryz.func97 Tryz.ntmps97 rfl [(0, .slice A0 x0.length c0)] ⟨rfl, trivial⟩ rfl ?_
  intro a hF
  have S := St.nil w
  refine wp_seq ?_
  refine wp_region_lit ?_
  refine op_val (v := .slice none 0 0) rfl rfl hF rfl (run_assign rfl rfl) ?_; clear hF; intro a hF
  refine wpList_nil ?_
  refine wp_seq ?_
  refine wp_seq ?_
  refine wp_region_lit ?_
  refine op_val (v := .slice A0 x0.length c0) rfl rfl hF rfl (run_move rfl (hF.ev rfl)) ?_; clear hF; intro a hF
  refine op_val (v := .bool (Option.isNone A0)) rfl rfl hF rfl (run_eqlNil rfl Tryz.underlying30 (hF.ev rfl) rfl) ?_; clear hF; intro a hF
  refine wpList_nil ?_
  cases hc101 : (Option.isNone A0)
  · have hx := trivial
    refine cond_f hF rfl hc101 ?_
    refine wp_skip ?_
    refine wp_seq ?_
    refine wp_region_lit ?_
    refine op_newrow (cs := #[]) (size := 1) rfl rfl hF rfl S (run_buildSlice0 rfl Tryz.underlying30 (congrArg Option.isSome sz3)) rfl (Nat.zero_le _) ?_; clear hF S; intro a g102 u hF S
    refine op_val (v := .slice A0 x0.length c0) rfl rfl hF rfl (run_move rfl (hF.ev rfl)) ?_; clear hF; intro a hF
    have hk105 := hk
    refine op_appendL (lx := []) (ly := x0) rfl rfl hF rfl S rfl (hF.ev rfl) (hF.ev rfl) (i := 0) rfl rfl Tryz.underlying30 inf3 rfl (by decide) (S.rc0 h0.rc).rd rfl eI_one hk105 (by decide) ?_; clear hF S; intro a B103 d104 u hF S
    refine op_val (v := .slice B103 ((([] : List Int) ++ x0).length) d104) rfl rfl hF rfl (run_assign rfl (hF.ev rfl)) ?_; clear hF; intro a hF
    refine wpList_nil ?_
    refine wp_ret ?_
    repeat with_reducible (first | refine then_ret ?_ | refine in_ret ?_ | refine in_nrm ?_)
    refine ret1_gw (.inl rfl) hF rfl (res_tmp (hF.ev rfl)) ?_
    exact ⟨B103, ((([] : List Int) ++ x0).length), d104, rfl, rfl, S.sel [0] rfl rfl⟩
  · have hx := nil_none h0.rc.rd rfl hc101
    refine cond_t hF rfl hc101 ?_
    refine wp_seq ?_
    refine wp_region_lit ?_
    refine op_val (v := .slice none 0 0) rfl rfl hF rfl (run_assign rfl rfl) ?_; clear hF; intro a hF
    refine wpList_nil ?_
    refine wp_ret ?_
    repeat with_reducible (first | refine then_ret ?_ | refine in_ret ?_ | refine in_nrm ?_)
    refine ret1_gw (.inl rfl) hF rfl (res_tmp (hF.ev rfl)) ?_
    subst hx
    replace S := S.nilrow 3 1
    exact ⟨none, 0, 0, rfl, rfl, S.sel [0] rfl rfl⟩
def k_slices_Clone_int_int : Ctr := ⟨97, [.o (.sl .ro 3 (.int .i64))], [.o (.row 3 (.int .i64))], false, fun x => m_slices_Clone_int_int x⟩
theorem d_slices_Clone_int_int : Cok Tryz.prog k_slices_Clone_int_int := ⟨co97, fun x res hm e w0 w X hp hS => by
  obtain ⟨v, vr, hv, ⟨l, hl, hro⟩, _⟩ := hp
  have hl := (List.head_eq_of_cons_eq hv).trans hl
  injection hl with _ hl
  subst hl
  refine (c_slices_Clone_int_int (A0 := e.a 0) (n0 := List.length x) (c0 := e.c 0) (w := w) ⟨hro w _ hS (fun y hy => List.mem_append_right _ hy), rfl⟩ hm).mono ?_
  rintro en w' ⟨B, N, D, rfl, hN, S⟩
  subst hN
  exact ⟨[_], [_], rfl, ⟨[_], [], [], [_], [], [], rfl, rfl, ⟨_, [], _, [], [_], [], rfl, rfl, rfl, ⟨res, B, D, rfl, rfl, rfl⟩, rfl, rfl, rfl⟩, ⟨rfl, rfl⟩, ⟨[], [], [], [], rfl, rfl, ⟨rfl, rfl⟩, ⟨rfl, rfl⟩⟩⟩, hS.call1 S⟩⟩
def k_impl_World_clone : Ctr := ⟨58, [.g [.int .i64, .sl .ro 130 (.p (.int .i64) (.p (.int .i64) (.int .i64))), .sl .ro 110 (.p (.int .i64) (.int .i64)), .sl .ro 4 .b, .sl .ro 4 .b, .sl .ro 78 (.p (.int .i64) (.int .i64)), .sl .ro 3 (.int .i64)]], [.g [.int .i64, .row 130 (.p (.int .i64) (.p (.int .i64) (.int .i64))), .row 110 (.p (.int .i64) (.int .i64)), .row 4 .b, .row 4 .b, .row 78 (.p (.int .i64) (.int .i64)), .row 3 (.int .i64)]], false, fun x => m_impl_World_clone x.1 x.2.1 x.2.2.1 x.2.2.2.1 x.2.2.2.2.1 x.2.2.2.2.2.1 x.2.2.2.2.2.2⟩
theorem d_impl_World_clone : Cok Tryz.prog k_impl_World_clone := cok (cs := [k_slices_Clone_impl_Line_impl_Line, k_slices_Clone_impl_Bus_impl_Bus, k_impl_Work_clone, k_slices_Clone_int_int]) (rv := [.cell 2 43]) (crt := .q .z (.q .z .z)) tys_ok eqt_ok rfl ⟨d_slices_Clone_impl_Line_impl_Line, d_slices_Clone_impl_Bus_impl_Bus, d_impl_Work_clone, d_slices_Clone_int_int, trivial⟩ co58 Tryz.func58 rfl Tryz.ntmps58 rfl rfl (fun _ => by kernel_rfl)
def k_cmp_isNaN_int : Ctr := ⟨147, [.o (.int .i64)], [.o .b], false, fun x => m_cmp_isNaN_int x⟩
theorem d_cmp_isNaN_int : Cok Tryz.prog k_cmp_isNaN_int := cok (cs := []) (rv := [.tmp 2]) (crt := .q .z (.q .z .z)) tys_ok eqt_ok rfl trivial co147 Tryz.func147 rfl Tryz.ntmps147 rfl rfl (fun _ => by kernel_rfl)
def k_cmp_Less_int : Ctr := ⟨129, [.o (.int .i64), .o (.int .i64)], [.o .b], false, fun x => m_cmp_Less_int x.1 x.2⟩
theorem d_cmp_Less_int : Cok Tryz.prog k_cmp_Less_int := cok (cs := [k_cmp_isNaN_int]) (rv := [.tmp 4]) (crt := .q .z (.q .z .z)) tys_ok eqt_ok rfl ⟨d_cmp_isNaN_int, trivial⟩ co129 Tryz.func129 rfl Tryz.ntmps129 rfl rfl (fun _ => by kernel_rfl)
def k_slices_isNaN_int : Ctr := ⟨130, [.o (.int .i64)], [.o .b], false, fun x => m_slices_isNaN_int x⟩
theorem d_slices_isNaN_int : Cok Tryz.prog k_slices_isNaN_int := cok (cs := []) (rv := [.tmp 2]) (crt := .q .z (.q .z .z)) tys_ok eqt_ok rfl trivial co130 Tryz.func130 rfl Tryz.ntmps130 rfl rfl (fun _ => by kernel_rfl)
def m_slices_BinarySearch_int_int_l1s (x0 : List Int) (x1 : Int) (rec : (Int × Int) → Option (Int)) (p104 : (Int × Int)) : Option (Int) := (bif ltB p104.1 p104.2 then chk (ixB (w64 (bitsShr .u64 (wk .u64 (w64 (p104.1 + p104.2))) 1)) x0.length) (Option.bind (m_cmp_Less_int (x0.getD ((w64 (bitsShr .u64 (wk .u64 (w64 (p104.1 + p104.2))) 1)).toNat) (0 : Int)) x1) (fun (p107 : Bool) => Option.bind (bif p107 then some (w64 ((w64 (bitsShr .u64 (wk .u64 (w64 (p104.1 + p104.2))) 1)) + 1), p104.2) else some (p104.1, w64 (bitsShr .u64 (wk .u64 (w64 (p104.1 + p104.2))) 1))) (fun (p108 : Int × Int) => rec (p108.1, p108.2)))) else some p104.1)
def m_slices_BinarySearch_int_int_l1i (x0 : List Int) (x1 : Int) : Nat → (Int × Int) → Option (Int) := itr (m_slices_BinarySearch_int_int_l1s x0 x1)
theorem q_m_slices_BinarySearch_int_int_l1 : @m_slices_BinarySearch_int_int_l1 = @m_slices_BinarySearch_int_int_l1i := by
  funext x0 x1 n
  induction n with
  | zero => rfl
  | succ n ih =>
    funext p
    show _ = m_slices_BinarySearch_int_int_l1s x0 x1 (m_slices_BinarySearch_int_int_l1i x0 x1 n) p
    rw [← ih]
    rfl
def m_slices_BinarySearch_int_inti (x0 : List Int) (x1 : Int) : Option (Int × Bool) := Option.bind (m_slices_BinarySearch_int_int_l1i x0 x1 FUEL (0, (x0.length : Int))) (fun (p101 : Int) => chk (!(ltB p101 (x0.length : Int)) || ixB p101 x0.length) (chk (!((ltB p101 (x0.length : Int)) && (!((x0.getD p101.toNat (0 : Int)) == x1))) || ixB p101 x0.length) (Option.bind (gb ((ltB p101 (x0.length : Int)) && (!((x0.getD p101.toNat (0 : Int)) == x1))) (m_slices_isNaN_int (x0.getD p101.toNat (0 : Int)))) (fun (p114 : Bool) => Option.bind (gb (((ltB p101 (x0.length : Int)) && (!((x0.getD p101.toNat (0 : Int)) == x1))) && p114) (m_slices_isNaN_int x1)) (fun (p115 : Bool) => some (p101, (ltB p101 (x0.length : Int)) && (((x0.getD p101.toNat (0 : Int)) == x1) || (p114 && p115))))))))
theorem q_m_slices_BinarySearch_int_int : @m_slices_BinarySearch_int_int = @m_slices_BinarySearch_int_inti := by
  funext x0 x1
  unfold m_slices_BinarySearch_int_inti
  rw [← q_m_slices_BinarySearch_int_int_l1]
  rfl
def k_slices_BinarySearch_int_int : Ctr := ⟨98, [.o (.sl .ro 3 (.int .i64)), .o (.int .i64)], [.o (.int .i64), .o .b], false, fun x => m_slices_BinarySearch_int_int x.1 x.2⟩
theorem d_slices_BinarySearch_int_int : Cok Tryz.prog k_slices_BinarySearch_int_int := cok (cs := [k_cmp_Less_int, k_slices_isNaN_int]) (rv := [.tmp 4, .tmp 5]) (crt := .q .z (.q .z (.q .z (.q (.cut ⟨[(0, .o .k), (1, .o .k), (4, .o .k), (5, .o .k), (6, .o .k), (7, .o (.i .i64))], [], []⟩ [] (.b (.lp ⟨[(0, .o .k), (1, .o .k), (4, .o .k), (5, .o .k), (6, .o .k), (7, .o (.i .i64)), (8, .o (.i .i64))], [], []⟩ (.q (.q .z (.q .z .z)) (.b (.q .z (.q .z (.cut ⟨[(0, .o .k), (1, .o .k), (4, .o .k), (5, .o .k), (6, .o .k), (7, .o (.i .i64)), (8, .o (.i .i64))], [], []⟩ [] (.q .z .z))))))))) (.q .z .z))))) tys_ok eqt_ok rfl ⟨d_cmp_Less_int, d_slices_isNaN_int, trivial⟩ co98 Tryz.func98 rfl Tryz.ntmps98 rfl rfl (fun x => by
  show m_slices_BinarySearch_int_int x.1 x.2 = _
  rw [q_m_slices_BinarySearch_int_int]
  kernel_rfl)
set_option maxHeartbeats 4000000 in
theorem c_slices_Delete_int_int {x0 : List Int} {x1 : Int} {x2 : Int} {A0 : Option Addr} {n0 c0 : Nat} {w : World} {r : List Int} {w0 : World} {X : List Asn} (h0 : n0 = x0.length) (S : St w0 w (Asn.row 3 1 (.slice A0 n0 c0) n0 (x0.flatMap eI) :: X)) (hM : m_slices_Delete_int_int x0 x1 x2 = some r) :
    Calls Tryz.prog 101 #[.slice A0 n0 c0, .int .i64 x1, .int .i64 x2] w (fun e w' => ∃ (B0 : Option Addr) (N0 D0 : Nat), e = .returned (.slice B0 N0 D0) ∧ N0 = r.length ∧ St w0 w' (Asn.row 3 1 (.slice B0 N0 D0) N0 (r.flatMap eI) :: X)) := by
  obtain rfl := h0
  unfold m_slices_Delete_int_int at hM
  refine calls_gw Tryz.func101 Tryz.ntmps101 rfl [(0, .slice A0 x0.length c0), (1, .int .i64 x1), (2, .int .i64 x2)] ⟨rfl, rfl, rfl, trivial⟩ rfl ?_
  intro a hF
  refine wp_seq ?_
  refine wp_region_lit ?_
  refine op_val (v := .slice none 0 0) rfl rfl hF rfl (run_assign rfl rfl) ?_; clear hF; intro a hF
  refine wpList_nil ?_
  refine wp_seq ?_
  refine wp_region_lit ?_
  refine op_val (v := .slice A0 x0.length c0) rfl rfl hF rfl (run_move rfl (hF.ev rfl)) ?_; clear hF; intro a hF
  refine op_val (v := .int .i64 x1) rfl rfl hF rfl (run_move rfl (hF.ev rfl)) ?_; clear hF; intro a hF
  refine op_val (v := .int .i64 x2) rfl rfl hF rfl (run_move rfl (hF.ev rfl)) ?_; clear hF; intro a hF
  refine op_val (v := .slice A0 x0.length c0) rfl rfl hF rfl (run_move rfl (hF.ev rfl)) ?_; clear hF; intro a hF
  refine op_val (v := .int .i64 (x0.length : Int)) rfl rfl hF rfl (run_lenL rfl rfl Tryz.underlying30 (hF.ev rfl)) ?_; clear hF; intro a hF
  obtain ⟨hk101, hM⟩ := chk_ex hM
  replace hk101 := slB_t hk101
  refine op_val (v := .slice (subA ((x0.length : Int).toNat) x1.toNat 1 A0) (x2.toNat - x1.toNat) ((x0.length : Int).toNat - x1.toNat)) rfl rfl hF rfl (run_slice3 rfl Tryz.underlying30 sz3 (hF.ev rfl) (hF.ev rfl) (hF.ev rfl) (hF.ev rfl) hk101 (Int.ofNat_le.2 (S.rc 0 rfl).cap)) ?_; clear hF; intro a hF
  refine wpList_nil ?_
  refine wp_seq ?_
  refine wp_seq ?_
  refine wp_region_lit ?_
  refine op_val (v := .int .i64 x1) rfl rfl hF rfl (run_move rfl (hF.ev rfl)) ?_; clear hF; intro a hF
  refine op_val (v := .int .i64 x2) rfl rfl hF rfl (run_move rfl (hF.ev rfl)) ?_; clear hF; intro a hF
  refine op_val (v := .bool (x1 == x2)) rfl rfl hF rfl (run_eql (hF.ev rfl) (hF.ev rfl) rfl) ?_; clear hF; intro a hF
  refine wpList_nil ?_
  cases hc102 : (x1 == x2)
  · replace hM := bif_f hc102 hM
    refine cond_f hF rfl hc102 ?_
    refine wp_skip ?_
    refine wp_seq ?_
    refine wp_region_lit ?_
    refine op_val (v := .slice A0 x0.length c0) rfl rfl hF rfl (run_move rfl (hF.ev rfl)) ?_; clear hF; intro a hF
    refine op_val (v := .int .i64 (x0.length : Int)) rfl rfl hF rfl (run_lenL rfl rfl Tryz.underlying30 (hF.ev rfl)) ?_; clear hF; intro a hF
    refine op_val (v := .int .i64 (x0.length : Int)) rfl rfl hF rfl (run_assign rfl (hF.ev rfl)) ?_; clear hF; intro a hF
    refine wpList_nil ?_
    refine wp_seq ?_
    obtain ⟨hk103, hM⟩ := chk_ex hM
    replace hk103 := slB_t hk103
    obtain ⟨hk104, hM⟩ := chk_ex hM
    replace hk104 := slB_t hk104
    obtain ⟨hk105, hM⟩ := chk_ex hM
    replace hk105 := apB_t hk105
    have hp106 := (S.rc 0 rfl).cap
    have hq107 := del_len (l := x0) (p := x1) (q := x2) rfl (by omega)
    refine region_gw (D := [20, 21, 22, 23, 24, 25, 26, 0]) (Lr := (X)) (deps := (fun | 0 => [20] | 1 => [21] | 2 => [22] | 3 => [23] | 4 => [24] | 5 => [25] | 6 => [26] | 7 => [0] | _ => [])) (rd := (fun _ => [])) (zr := (fun | 2 => [6] | 5 => [6] | _ => []))
      (φ := fun i vs => match i, vs with | 0, [v20] => v20 = .slice A0 x0.length c0 | 1, [v21] => v21 = .int .i64 x1 | 2, [v22] => v22 = .slice (subA c0 ((0 : Int).toNat) 1 A0) ((subL x0 0 x1).length) (c0 - (0 : Int).toNat) | 3, [v23] => v23 = .slice A0 x0.length c0 | 4, [v24] => v24 = .int .i64 x2 | 5, [v25] => v25 = .slice (subA c0 x2.toNat 1 A0) ((subL x0 x2 (x0.length : Int)).length) (c0 - x2.toNat) | 6, [v26] => v26 = .slice A0 (((subL x0 0 x1) ++ (subL x0 x2 (x0.length : Int))).length) c0 | 7, [v0] => v0 = .slice A0 (((subL x0 0 x1) ++ (subL x0 x2 (x0.length : Int))).length) c0 | _, _ => True)
      (C := fun i vs => match i, vs with | 6, [v26] => [.row 3 1 (.slice A0 (((subL x0 0 x1) ++ (subL x0 x2 (x0.length : Int))).length) c0) (((subL x0 0 x1) ++ (subL x0 x2 (x0.length : Int))).length) (((subL x0 0 x1) ++ (subL x0 x2 (x0.length : Int))).flatMap eI)] | _, _ => [])
      (κ := (fun _ => none)) (Z := (fun | 6 => [.row 3 1 (.slice A0 x0.length c0) x0.length (x0.flatMap eI)] | _ => [])) mixed hF (by kernel_rfl) (show St w0 _ (Asn.row 3 1 (.slice A0 x0.length c0) x0.length (x0.flatMap eI) :: X) from S.selT (M := [.row 3 1 (.slice A0 x0.length c0) x0.length (x0.flatMap eI)]) 1 [0] rfl rfl rfl) ?_ ?_
    · refine ⟨?_, ?_, ?_, ?_, ?_, ?_, ?_, ?_, trivial⟩
      · intro a u X' hB hu hp hr hz hl S
        replace S : St w0 u ([] ++ X') := S
        exact .inl ⟨rfl, .slice A0 x0.length c0, u, (run_move rfl (hF.evU (hu 7 0 rfl rfl) rfl)), rfl, S⟩
      · intro a u X' hB hu hp hr hz hl S
        replace S : St w0 u ([] ++ X') := S
        exact .inl ⟨rfl, .int .i64 x1, u, (run_move rfl (hF.evB hB rfl rfl)), rfl, S⟩
      · intro a u X' hB hu hp hr hz hl S
        replace S : St w0 u ([] ++ X') := S
        have e20 : sl a 20 = .slice A0 x0.length c0 := hp 0 rfl
        have e21 : sl a 21 = .int .i64 x1 := hp 1 rfl
        exact .inl ⟨rfl, .slice (subA c0 ((0 : Int).toNat) 1 A0) ((subL x0 0 x1).length) (c0 - (0 : Int).toNat), u, (run_sliceH (l := x0) rfl Tryz.underlying30 sz3 (ev_sl e20) (ev_sl e21) hk103 rfl (own_rc (show Ow _ _ _ _ _ _ from S.mem (List.mem_append_right _ (hz 6 (List.mem_of_getElem? (i := 0) rfl) _ (List.mem_of_getElem? (i := 0) rfl))))).cap), rfl, S⟩
      · intro a u X' hB hu hp hr hz hl S
        replace S : St w0 u ([] ++ X') := S
        exact .inl ⟨rfl, .slice A0 x0.length c0, u, (run_move rfl (hF.evU (hu 7 0 rfl rfl) rfl)), rfl, S⟩
      · intro a u X' hB hu hp hr hz hl S
        replace S : St w0 u ([] ++ X') := S
        exact .inl ⟨rfl, .int .i64 x2, u, (run_move rfl (hF.evB hB rfl rfl)), rfl, S⟩
      · intro a u X' hB hu hp hr hz hl S
        replace S : St w0 u ([] ++ X') := S
        have e23 : sl a 23 = .slice A0 x0.length c0 := hp 3 rfl
        have e24 : sl a 24 = .int .i64 x2 := hp 4 rfl
        exact .inl ⟨rfl, .slice (subA c0 x2.toNat 1 A0) ((subL x0 x2 (x0.length : Int)).length) (c0 - x2.toNat), u, (run_slicefrom (l := x0) rfl Tryz.underlying30 sz3 (ev_sl e23) (ev_sl e24) hk104 rfl (own_rc (show Ow _ _ _ _ _ _ from S.mem (List.mem_append_right _ (hz 6 (List.mem_of_getElem? (i := 0) rfl) _ (List.mem_of_getElem? (i := 0) rfl))))).cap), rfl, S⟩
      · intro a u X' hB hu hp hr hz hl S
        replace S : St w0 u ([.row 3 1 (.slice A0 x0.length c0) x0.length (x0.flatMap eI)] ++ X') := S
        have e22 : sl a 22 = .slice (subA c0 ((0 : Int).toNat) 1 A0) ((subL x0 0 x1).length) (c0 - (0 : Int).toNat) := hp 2 rfl
        have e25 : sl a 25 = .slice (subA c0 x2.toNat 1 A0) ((subL x0 x2 (x0.length : Int)).length) (c0 - x2.toNat) := hp 5 rfl
        obtain ⟨w', hrun, S'⟩ := S.delrow (i := 0) (P := Tryz.prog) (ty := 30) (p := x1) (q := x2) rfl rfl eI_len eI_one Tryz.underlying30 sz3 (by omega) (by omega) (by omega)
        exact .inl ⟨rfl, _, w', run_append rfl (ev_sl e22) (ev_sl e25) hrun, rfl, S'⟩
      · intro a u X' hB hu hp hr hz hl S
        replace S : St w0 u ([] ++ X') := S
        have e26 : sl a 26 = .slice A0 (((subL x0 0 x1) ++ (subL x0 x2 (x0.length : Int))).length) c0 := hp 6 rfl
        exact .inl ⟨rfl, .slice A0 (((subL x0 0 x1) ++ (subL x0 x2 (x0.length : Int))).length) c0, u, (run_assign rfl (ev_sl e26)), rfl, S⟩
    · intro a u hB hp S
      obtain ⟨q0, q1, q2, q3, q4, q5, q6, q7, _⟩ := hp
      have e20 : sl a 20 = .slice A0 x0.length c0 := q0
      have e21 : sl a 21 = .int .i64 x1 := q1
      have e22 : sl a 22 = .slice (subA c0 ((0 : Int).toNat) 1 A0) ((subL x0 0 x1).length) (c0 - (0 : Int).toNat) := q2
      have e23 : sl a 23 = .slice A0 x0.length c0 := q3
      have e24 : sl a 24 = .int .i64 x2 := q4
      have e25 : sl a 25 = .slice (subA c0 x2.toNat 1 A0) ((subL x0 x2 (x0.length : Int)).length) (c0 - x2.toNat) := q5
      have e26 : sl a 26 = .slice A0 (((subL x0 0 x1) ++ (subL x0 x2 (x0.length : Int))).length) c0 := q6
      have e0 : sl a 0 = .slice A0 (((subL x0 0 x1) ++ (subL x0 x2 (x0.length : Int))).length) c0 := q7
      replace S : St w0 u (Asn.row 3 1 (.slice A0 (((subL x0 0 x1) ++ (subL x0 x2 (x0.length : Int))).length) c0) (((subL x0 0 x1) ++ (subL x0 x2 (x0.length : Int))).length) (((subL x0 0 x1) ++ (subL x0 x2 (x0.length : Int))).flatMap eI) :: X) := S
      clear q0 q1 q2 q3 q4 q5 q6 q7
      have hF := hF.region hB [(20, .slice A0 x0.length c0), (21, .int .i64 x1), (22, .slice (subA c0 ((0 : Int).toNat) 1 A0) ((subL x0 0 x1).length) (c0 - (0 : Int).toNat)), (23, .slice A0 x0.length c0), (24, .int .i64 x2), (25, .slice (subA c0 x2.toNat 1 A0) ((subL x0 x2 (x0.length : Int)).length) (c0 - x2.toNat)), (26, .slice A0 (((subL x0 0 x1) ++ (subL x0 x2 (x0.length : Int))).length) c0), (0, .slice A0 (((subL x0 0 x1) ++ (subL x0 x2 (x0.length : Int))).length) c0)] (allSl_mem ⟨e20, e21, e22, e23, e24, e25, e26, e0, trivial⟩) rfl
      clear hB e20 e21 e22 e23 e24 e25 e26 e0
      refine wp_seq ?_
      refine wp_region_lit ?_
      refine op_val (v := .slice A0 (((subL x0 0 x1) ++ (subL x0 x2 (x0.length : Int))).length) c0) rfl rfl hF rfl (run_move rfl (hF.ev rfl)) ?_; clear hF; intro a hF
      refine op_val (v := .slice A0 (((subL x0 0 x1) ++ (subL x0 x2 (x0.length : Int))).length) c0) rfl rfl hF rfl (run_move rfl (hF.ev rfl)) ?_; clear hF; intro a hF
      refine op_val (v := .int .i64 ((((subL x0 0 x1) ++ (subL x0 x2 (x0.length : Int))).length) : Int)) rfl rfl hF rfl (run_lenL rfl rfl Tryz.underlying30 (hF.ev rfl)) ?_; clear hF; intro a hF
      refine op_val (v := .int .i64 (x0.length : Int)) rfl rfl hF rfl (run_move rfl (hF.ev rfl)) ?_; clear hF; intro a hF
      refine op_val (v := .slice (subA c0 (((((subL x0 0 x1) ++ (subL x0 x2 (x0.length : Int))).length) : Int).toNat) 1 A0) ((x0.length : Int).toNat - ((((subL x0 0 x1) ++ (subL x0 x2 (x0.length : Int))).length) : Int).toNat) (c0 - ((((subL x0 0 x1) ++ (subL x0 x2 (x0.length : Int))).length) : Int).toNat)) rfl rfl hF rfl (run_slicebey rfl Tryz.underlying30 sz3 (hF.ev rfl) (hF.ev rfl) (hF.ev rfl) ⟨Int.natCast_nonneg _, Int.ofNat_le.2 hq107, Int.ofNat_le.2 hp106⟩) ?_; clear hF; intro a hF
      obtain ⟨w', hrun, S'⟩ := S.clear (i := 0) (P := Tryz.prog) (hi := (x0.length : Int)) rfl rfl eI_len Tryz.underlying30 inf3 rfl rfl ⟨Int.ofNat_le.2 hq107, Int.ofNat_le.2 hp106⟩
      refine op_builtin0 rfl rfl rfl (hF.ev rfl) hrun ?_
      clear S hrun; have S := S'; clear S'; generalize w' = u at S ⊢
      refine wpList_nil ?_
      refine wp_seq ?_
      refine wp_region_lit ?_
      refine op_val (v := .slice A0 (((subL x0 0 x1) ++ (subL x0 x2 (x0.length : Int))).length) c0) rfl rfl hF rfl (run_move rfl (hF.ev rfl)) ?_; clear hF; intro a hF
      refine op_val (v := .slice A0 (((subL x0 0 x1) ++ (subL x0 x2 (x0.length : Int))).length) c0) rfl rfl hF rfl (run_assign rfl (hF.ev rfl)) ?_; clear hF; intro a hF
      refine wpList_nil ?_
      refine wp_ret ?_
      repeat with_reducible (first | refine then_ret ?_ | refine in_ret ?_ | refine in_nrm ?_)
      refine ret1_gw (.inl rfl) hF rfl (res_tmp (hF.ev rfl)) ?_
      obtain rfl := Option.some.inj hM
      exact ⟨A0, (((subL x0 0 x1) ++ (subL x0 x2 (x0.length : Int))).length), c0, rfl, rfl, S.selT (M := [.row 3 1 (.slice A0 (((subL x0 0 x1) ++ (subL x0 x2 (x0.length : Int))).length) c0) (((subL x0 0 x1) ++ (subL x0 x2 (x0.length : Int))).length) (((subL x0 0 x1) ++ (subL x0 x2 (x0.length : Int))).flatMap eI)]) 1 [0] rfl rfl rfl⟩
  · replace hM := bif_t hc102 hM
    refine cond_t hF rfl hc102 ?_
    refine wp_seq ?_
    refine wp_region_lit ?_
    refine op_val (v := .slice A0 x0.length c0) rfl rfl hF rfl (run_move rfl (hF.ev rfl)) ?_; clear hF; intro a hF
    refine op_val (v := .slice A0 x0.length c0) rfl rfl hF rfl (run_assign rfl (hF.ev rfl)) ?_; clear hF; intro a hF
    refine wpList_nil ?_
    refine wp_ret ?_
    repeat with_reducible (first | refine then_ret ?_ | refine in_ret ?_ | refine in_nrm ?_)
    refine ret1_gw (.inl rfl) hF rfl (res_tmp (hF.ev rfl)) ?_
    obtain rfl := Option.some.inj hM
    exact ⟨A0, x0.length, c0, rfl, rfl, S.selT (M := [.row 3 1 (.slice A0 x0.length c0) x0.length (x0.flatMap eI)]) 1 [0] rfl rfl rfl⟩
def k_slices_Delete_int_int : Ctr := ⟨101, [.o (.sl .tk 3 (.int .i64)), .o (.int .i64), .o (.int .i64)], [.o (.row 3 (.int .i64))], true, fun x => m_slices_Delete_int_int x.1 x.2.1 x.2.2⟩
theorem d_slices_Delete_int_int : Cok Tryz.prog k_slices_Delete_int_int := ⟨co101, fun x res hm e w0 w X hp hS => (c_slices_Delete_int_int (w := w) (w0 := w0) (X := X) (A0 := e.a 0) (n0 := x.1.length) (c0 := e.c 0) rfl hS hm).mono (by
  rintro en w' ⟨B, N, D, rfl, hN, S⟩
  subst hN
  exact ⟨_, _, rfl, ⟨[_], [], [], [_], [], [], rfl, rfl, ⟨_, [], _, [], [_], [], rfl, rfl, rfl, ⟨res, B, D, rfl, rfl, rfl⟩, rfl, rfl, rfl⟩, ⟨rfl, rfl⟩, ⟨[], [], [], [], rfl, rfl, ⟨rfl, rfl⟩, ⟨[], [], [], [], rfl, rfl, ⟨rfl, rfl⟩, ⟨[], [], [], [], rfl, rfl, ⟨rfl, rfl⟩, ⟨rfl, rfl⟩⟩⟩⟩⟩, S⟩)⟩
set_option maxHeartbeats 4000000 in
theorem c_slices_Insert_int_int {x0 : List Int} {x1 : Int} {x2 : List Int} {A0 : Option Addr} {n0 c0 : Nat} {A2 : Option Addr} {n2 c2 : Nat} {w : World} {r : List Int} {w0 : World} {X : List Asn} (h0 : n0 = x0.length) (h2 : n2 = x2.length) (S : St w0 w (Asn.row 3 1 (.slice A0 n0 c0) n0 (x0.flatMap eI) :: Asn.row 3 1 (.slice A2 n2 c2) n2 (x2.flatMap eI) :: X)) (hM : m_slices_Insert_int_int x0 x1 x2 = some r) :
    Calls Tryz.prog 99 #[.slice A0 n0 c0, .int .i64 x1, .slice A2 n2 c2] w (fun e w' => ∃ (B0 : Option Addr) (N0 D0 : Nat), e = .returned (.slice B0 N0 D0) ∧ N0 = r.length ∧ St w0 w' (Asn.row 3 1 (.slice B0 N0 D0) N0 (r.flatMap eI) :: X)) := by
  obtain rfl := h0
  obtain rfl := h2
  unfold m_slices_Insert_int_int at hM
  obtain ⟨hk1, hM⟩ := chk_ex hM
  obtain ⟨hk2, hM⟩ := chk_ex hM
  obtain ⟨hk3, hM⟩ := chk_ex hM
  obtain rfl := Option.some.inj hM
  replace hk1 := slB_t hk1
  replace hk2 := apB_t hk2
  obtain ⟨y, rfl⟩ : ∃ y, x2 = [y] := List.length_eq_one_iff.1 (by have := eq_of_beq hk3; omega)
  refine (ins_calls S (k := 0) (m := 1) rfl rfl rfl (by decide) ⟨hk1.2.1, hk1.2.2⟩ hk2).mono ?_
  rintro e w' ⟨B, D, rfl, T⟩
  exact ⟨B, _, D, rfl, ins_len hk1.2.1 hk1.2.2, T.sub (.cons_cons _ (.cons _ (List.Sublist.refl _)))⟩
def k_slices_Insert_int_int : Ctr := ⟨99, [.o (.sl .tk 3 (.int .i64)), .o (.int .i64), .o (.sl .tk 3 (.int .i64))], [.o (.row 3 (.int .i64))], true, fun x => m_slices_Insert_int_int x.1 x.2.1 x.2.2⟩
theorem d_slices_Insert_int_int : Cok Tryz.prog k_slices_Insert_int_int := ⟨co99, fun x res hm e w0 w X hp hS => (c_slices_Insert_int_int (w := w) (w0 := w0) (X := X) (A0 := e.a 0) (n0 := x.1.length) (c0 := e.c 0) (A2 := e.a 2) (n2 := x.2.2.length) (c2 := e.c 2) rfl rfl hS hm).mono (by
  rintro en w' ⟨B, N, D, rfl, hN, S⟩
  subst hN
  exact ⟨_, _, rfl, ⟨[_], [], [], [_], [], [], rfl, rfl, ⟨_, [], _, [], [_], [], rfl, rfl, rfl, ⟨res, B, D, rfl, rfl, rfl⟩, rfl, rfl, rfl⟩, ⟨rfl, rfl⟩, ⟨[], [], [], [], rfl, rfl, ⟨rfl, rfl⟩, ⟨[], [], [], [], rfl, rfl, ⟨rfl, rfl⟩, ⟨[], [], [], [], rfl, rfl, ⟨rfl, rfl⟩, ⟨rfl, rfl⟩⟩⟩⟩⟩, S⟩)⟩
def m_impl_WorkHeld_l1s (x2 : List (Int × Int)) (x3 : Int) (rec : (List Int × Int) → Option ((List Int))) (p109 : (List Int × Int)) : Option ((List Int)) := (bif ltB p109.2 (x2.length : Int) then chk (ixB p109.2 x2.length) (Option.bind (bif ((x2.getD p109.2.toNat ((0, 0) : Int × Int)).2) == x3 then chk (apB p109.1.length ([(x2.getD p109.2.toNat ((0, 0) : Int × Int)).1] : List Int).length) (some (p109.1 ++ ([(x2.getD p109.2.toNat ((0, 0) : Int × Int)).1] : List Int))) else some p109.1) (fun (p115 : List Int) => rec (p115, w64 (p109.2 + 1)))) else some p109.1)
def m_impl_WorkHeld_l1i (x2 : List (Int × Int)) (x3 : Int) : Nat → (List Int × Int) → Option ((List Int)) := itr (m_impl_WorkHeld_l1s x2 x3)
theorem q_m_impl_WorkHeld_l1 : @m_impl_WorkHeld_l1 = @m_impl_WorkHeld_l1i := by
  funext x2 x3 n
  induction n with
  | zero => rfl
  | succ n ih =>
    funext p
    show _ = m_impl_WorkHeld_l1s x2 x3 (m_impl_WorkHeld_l1i x2 x3 n) p
    rw [← ih]
    rfl
def m_impl_WorkHeldi (x0 : List Bool) (x1 : List Bool) (x2 : List (Int × Int)) (x3 : Int) : Option (List Int) := Option.bind (m_impl_WorkValid x0 x1 x2) (fun (p102 : Bool) => (bif p102 then Option.bind (m_impl_WorkHeld_l1i x2 x3 FUEL (([] : List Int), 0)) (fun (p104 : List Int) => some p104) else some ([] : List Int)))
theorem q_m_impl_WorkHeld : @m_impl_WorkHeld = @m_impl_WorkHeldi := by
  funext x0 x1 x2 x3
  unfold m_impl_WorkHeldi
  rw [← q_m_impl_WorkHeld_l1]
  rfl
def k_impl_WorkHeld : Ctr := ⟨149, [.g [.sl .ro 4 .b, .sl .ro 4 .b, .sl .ro 78 (.p (.int .i64) (.int .i64))], .o (.int .i64)], [.o (.row 3 (.int .i64))], false, fun x => m_impl_WorkHeld x.1 x.2.1 x.2.2.1 x.2.2.2⟩
theorem d_impl_WorkHeld : Cok Tryz.prog k_impl_WorkHeld := cok (cs := [k_impl_WorkValid]) (rv := [.tmp 4]) (crt := .q .z (.q (.q .z (.q (.q .z .z) .z)) (.q .z (.q (.q .z (.cut ⟨[(4, .o .k), (5, .o (.r 3 (.int .i64)))], [], []⟩ [] (.b (.lp ⟨[(1, .o .k), (4, .o .k), (5, .o (.r 3 (.int .i64))), (12, .o .k), (13, .o .k), (14, .o (.i .i64))], [], []⟩ (.q .z (.q (.q .z .z) (.q (.b (.q .z (.q .z (.cut ⟨[(1, .o .k), (4, .o .k), (5, .o (.r 3 (.int .i64))), (12, .o .k), (13, .o .k), (14, .o .k)], [], []⟩ [] (.q .z .z))))) .z))))))) (.q .z .z))))) tys_ok eqt_ok rfl ⟨d_impl_WorkValid, trivial⟩ co149 Tryz.func149 rfl Tryz.ntmps149 rfl rfl (fun x => by
  show m_impl_WorkHeld x.1 x.2.1 x.2.2.1 x.2.2.2 = _
  rw [q_m_impl_WorkHeld]
  kernel_rfl)
def k_impl_Work_may : Ctr := ⟨134, [.g [.sl .ro 4 .b, .sl .ro 4 .b, .sl .ro 78 (.p (.int .i64) (.int .i64))], .g [.int .i64, .int .i64, .int .i64]], [.o .b], false, fun x => m_impl_Work_may x.1 x.2.1 x.2.2.1 x.2.2.2.1 x.2.2.2.2.1 x.2.2.2.2.2⟩
theorem d_impl_Work_may : Cok Tryz.prog k_impl_Work_may := cok (cs := [k_slices_Contains_impl_Permit_impl_Permit, k_impl_WorkHeld]) (rv := [.tmp 4]) (crt := .q .z (.q .z (.q .z (.q (.q .z (.b (.q (.q .z (.cut ⟨[(2, .o .k), (3, .o .k), (4, .o .k), (5, .o .k), (6, .o .k), (7, .o .k), (29, .o .k), (30, .o .b)], [(3, [.k, .k, .k]), (2, [.k, .k, .k])], []⟩ [] (.q .z .z))) (.q (.q .z .z) (.q .z (.q (.q .z .z) (.q .z (.q (.q (.cut ⟨[(4, .o .b)], [], []⟩ [] .z) .z) (.q .z (.q (.q .z .z) (.q .z (.q (.q .z .z) .z)))))))))))) (.q .z .z))))) tys_ok eqt_ok rfl ⟨d_slices_Contains_impl_Permit_impl_Permit, d_impl_WorkHeld, trivial⟩ co134 Tryz.func134 rfl Tryz.ntmps134 rfl rfl (fun _ => by kernel_rfl)
set_option maxHeartbeats 4000000 in
theorem c_slices_Delete_impl_Permit_impl_Permit {x0 : List (Int × Int)} {x1 : Int} {x2 : Int} {A0 : Option Addr} {n0 c0 : Nat} {w : World} {r : List (Int × Int)} {w0 : World} {X : List Asn} (h0 : n0 = x0.length) (S : St w0 w (Asn.row 78 2 (.slice A0 n0 c0) n0 (x0.flatMap ePermit) :: X)) (hM : m_slices_Delete_impl_Permit_impl_Permit x0 x1 x2 = some r) :
    Calls Tryz.prog 135 #[.slice A0 n0 c0, .int .i64 x1, .int .i64 x2] w (fun e w' => ∃ (B0 : Option Addr) (N0 D0 : Nat), e = .returned (.slice B0 N0 D0) ∧ N0 = r.length ∧ St w0 w' (Asn.row 78 2 (.slice B0 N0 D0) N0 (r.flatMap ePermit) :: X)) := by
  obtain rfl := h0
  unfold m_slices_Delete_impl_Permit_impl_Permit at hM
  refine calls_gw Tryz.func135 Tryz.ntmps135 rfl [(0, .slice A0 x0.length c0), (1, .int .i64 x1), (2, .int .i64 x2)] ⟨rfl, rfl, rfl, trivial⟩ rfl ?_
  intro a hF
  refine wp_seq ?_
  refine wp_region_lit ?_
  refine op_val (v := .slice none 0 0) rfl rfl hF rfl (run_assign rfl rfl) ?_; clear hF; intro a hF
  refine wpList_nil ?_
  refine wp_seq ?_
  refine wp_region_lit ?_
  refine op_val (v := .slice A0 x0.length c0) rfl rfl hF rfl (run_move rfl (hF.ev rfl)) ?_; clear hF; intro a hF
  refine op_val (v := .int .i64 x1) rfl rfl hF rfl (run_move rfl (hF.ev rfl)) ?_; clear hF; intro a hF
  refine op_val (v := .int .i64 x2) rfl rfl hF rfl (run_move rfl (hF.ev rfl)) ?_; clear hF; intro a hF
  refine op_val (v := .slice A0 x0.length c0) rfl rfl hF rfl (run_move rfl (hF.ev rfl)) ?_; clear hF; intro a hF
  refine op_val (v := .int .i64 (x0.length : Int)) rfl rfl hF rfl (run_lenL rfl rfl Tryz.underlying39 (hF.ev rfl)) ?_; clear hF; intro a hF
  obtain ⟨hk101, hM⟩ := chk_ex hM
  replace hk101 := slB_t hk101
  refine op_val (v := .slice (subA ((x0.length : Int).toNat) x1.toNat 2 A0) (x2.toNat - x1.toNat) ((x0.length : Int).toNat - x1.toNat)) rfl rfl hF rfl (run_slice3 rfl Tryz.underlying39 sz78 (hF.ev rfl) (hF.ev rfl) (hF.ev rfl) (hF.ev rfl) hk101 (Int.ofNat_le.2 (S.rc 0 rfl).cap)) ?_; clear hF; intro a hF
  refine wpList_nil ?_
  refine wp_seq ?_
  refine wp_seq ?_
  refine wp_region_lit ?_
  refine op_val (v := .int .i64 x1) rfl rfl hF rfl (run_move rfl (hF.ev rfl)) ?_; clear hF; intro a hF
  refine op_val (v := .int .i64 x2) rfl rfl hF rfl (run_move rfl (hF.ev rfl)) ?_; clear hF; intro a hF
  refine op_val (v := .bool (x1 == x2)) rfl rfl hF rfl (run_eql (hF.ev rfl) (hF.ev rfl) rfl) ?_; clear hF; intro a hF
  refine wpList_nil ?_
  cases hc102 : (x1 == x2)
  · replace hM := bif_f hc102 hM
    refine cond_f hF rfl hc102 ?_
    refine wp_skip ?_
    refine wp_seq ?_
    refine wp_region_lit ?_
    refine op_val (v := .slice A0 x0.length c0) rfl rfl hF rfl (run_move rfl (hF.ev rfl)) ?_; clear hF; intro a hF
    refine op_val (v := .int .i64 (x0.length : Int)) rfl rfl hF rfl (run_lenL rfl rfl Tryz.underlying39 (hF.ev rfl)) ?_; clear hF; intro a hF
    refine op_val (v := .int .i64 (x0.length : Int)) rfl rfl hF rfl (run_assign rfl (hF.ev rfl)) ?_; clear hF; intro a hF
    refine wpList_nil ?_
    refine wp_seq ?_
    obtain ⟨hk103, hM⟩ := chk_ex hM
    replace hk103 := slB_t hk103
    obtain ⟨hk104, hM⟩ := chk_ex hM
    replace hk104 := slB_t hk104
    obtain ⟨hk105, hM⟩ := chk_ex hM
    replace hk105 := apB_t hk105
    have hp106 := (S.rc 0 rfl).cap
    have hq107 := del_len (l := x0) (p := x1) (q := x2) rfl (by omega)
    refine region_gw (D := [20, 21, 22, 23, 24, 25, 26, 0]) (Lr := (X)) (deps := (fun | 0 => [20] | 1 => [21] | 2 => [22] | 3 => [23] | 4 => [24] | 5 => [25] | 6 => [26] | 7 => [0] | _ => [])) (rd := (fun _ => [])) (zr := (fun | 2 => [6] | 5 => [6] | _ => []))
      (φ := fun i vs => match i, vs with | 0, [v20] => v20 = .slice A0 x0.length c0 | 1, [v21] => v21 = .int .i64 x1 | 2, [v22] => v22 = .slice (subA c0 ((0 : Int).toNat) 2 A0) ((subL x0 0 x1).length) (c0 - (0 : Int).toNat) | 3, [v23] => v23 = .slice A0 x0.length c0 | 4, [v24] => v24 = .int .i64 x2 | 5, [v25] => v25 = .slice (subA c0 x2.toNat 2 A0) ((subL x0 x2 (x0.length : Int)).length) (c0 - x2.toNat) | 6, [v26] => v26 = .slice A0 (((subL x0 0 x1) ++ (subL x0 x2 (x0.length : Int))).length) c0 | 7, [v0] => v0 = .slice A0 (((subL x0 0 x1) ++ (subL x0 x2 (x0.length : Int))).length) c0 | _, _ => True)
      (C := fun i vs => match i, vs with | 6, [v26] => [.row 78 2 (.slice A0 (((subL x0 0 x1) ++ (subL x0 x2 (x0.length : Int))).length) c0) (((subL x0 0 x1) ++ (subL x0 x2 (x0.length : Int))).length) (((subL x0 0 x1) ++ (subL x0 x2 (x0.length : Int))).flatMap ePermit)] | _, _ => [])
      (κ := (fun _ => none)) (Z := (fun | 6 => [.row 78 2 (.slice A0 x0.length c0) x0.length (x0.flatMap ePermit)] | _ => [])) mixed hF (by kernel_rfl) (show St w0 _ (Asn.row 78 2 (.slice A0 x0.length c0) x0.length (x0.flatMap ePermit) :: X) from S.selT (M := [.row 78 2 (.slice A0 x0.length c0) x0.length (x0.flatMap ePermit)]) 1 [0] rfl rfl rfl) ?_ ?_
    · refine ⟨?_, ?_, ?_, ?_, ?_, ?_, ?_, ?_, trivial⟩
      · intro a u X' hB hu hp hr hz hl S
        replace S : St w0 u ([] ++ X') := S
        exact .inl ⟨rfl, .slice A0 x0.length c0, u, (run_move rfl (hF.evU (hu 7 0 rfl rfl) rfl)), rfl, S⟩
      · intro a u X' hB hu hp hr hz hl S
        replace S : St w0 u ([] ++ X') := S
        exact .inl ⟨rfl, .int .i64 x1, u, (run_move rfl (hF.evB hB rfl rfl)), rfl, S⟩
      · intro a u X' hB hu hp hr hz hl S
        replace S : St w0 u ([] ++ X') := S
        have e20 : sl a 20 = .slice A0 x0.length c0 := hp 0 rfl
        have e21 : sl a 21 = .int .i64 x1 := hp 1 rfl
        exact .inl ⟨rfl, .slice (subA c0 ((0 : Int).toNat) 2 A0) ((subL x0 0 x1).length) (c0 - (0 : Int).toNat), u, (run_sliceH (l := x0) rfl Tryz.underlying39 sz78 (ev_sl e20) (ev_sl e21) hk103 rfl (own_rc (show Ow _ _ _ _ _ _ from S.mem (List.mem_append_right _ (hz 6 (List.mem_of_getElem? (i := 0) rfl) _ (List.mem_of_getElem? (i := 0) rfl))))).cap), rfl, S⟩
      · intro a u X' hB hu hp hr hz hl S
        replace S : St w0 u ([] ++ X') := S
        exact .inl ⟨rfl, .slice A0 x0.length c0, u, (run_move rfl (hF.evU (hu 7 0 rfl rfl) rfl)), rfl, S⟩
      · intro a u X' hB hu hp hr hz hl S
        replace S : St w0 u ([] ++ X') := S
        exact .inl ⟨rfl, .int .i64 x2, u, (run_move rfl (hF.evB hB rfl rfl)), rfl, S⟩
      · intro a u X' hB hu hp hr hz hl S
        replace S : St w0 u ([] ++ X') := S
        have e23 : sl a 23 = .slice A0 x0.length c0 := hp 3 rfl
        have e24 : sl a 24 = .int .i64 x2 := hp 4 rfl
        exact .inl ⟨rfl, .slice (subA c0 x2.toNat 2 A0) ((subL x0 x2 (x0.length : Int)).length) (c0 - x2.toNat), u, (run_slicefrom (l := x0) rfl Tryz.underlying39 sz78 (ev_sl e23) (ev_sl e24) hk104 rfl (own_rc (show Ow _ _ _ _ _ _ from S.mem (List.mem_append_right _ (hz 6 (List.mem_of_getElem? (i := 0) rfl) _ (List.mem_of_getElem? (i := 0) rfl))))).cap), rfl, S⟩
      · intro a u X' hB hu hp hr hz hl S
        replace S : St w0 u ([.row 78 2 (.slice A0 x0.length c0) x0.length (x0.flatMap ePermit)] ++ X') := S
        have e22 : sl a 22 = .slice (subA c0 ((0 : Int).toNat) 2 A0) ((subL x0 0 x1).length) (c0 - (0 : Int).toNat) := hp 2 rfl
        have e25 : sl a 25 = .slice (subA c0 x2.toNat 2 A0) ((subL x0 x2 (x0.length : Int)).length) (c0 - x2.toNat) := hp 5 rfl
        obtain ⟨w', hrun, S'⟩ := S.delrow (i := 0) (P := Tryz.prog) (ty := 39) (p := x1) (q := x2) rfl rfl ePermit_len ePermit_one Tryz.underlying39 sz78 (by omega) (by omega) (by omega)
        exact .inl ⟨rfl, _, w', run_append rfl (ev_sl e22) (ev_sl e25) hrun, rfl, S'⟩
      · intro a u X' hB hu hp hr hz hl S
        replace S : St w0 u ([] ++ X') := S
        have e26 : sl a 26 = .slice A0 (((subL x0 0 x1) ++ (subL x0 x2 (x0.length : Int))).length) c0 := hp 6 rfl
        exact .inl ⟨rfl, .slice A0 (((subL x0 0 x1) ++ (subL x0 x2 (x0.length : Int))).length) c0, u, (run_assign rfl (ev_sl e26)), rfl, S⟩
    · intro a u hB hp S
      obtain ⟨q0, q1, q2, q3, q4, q5, q6, q7, _⟩ := hp
      have e20 : sl a 20 = .slice A0 x0.length c0 := q0
      have e21 : sl a 21 = .int .i64 x1 := q1
      have e22 : sl a 22 = .slice (subA c0 ((0 : Int).toNat) 2 A0) ((subL x0 0 x1).length) (c0 - (0 : Int).toNat) := q2
      have e23 : sl a 23 = .slice A0 x0.length c0 := q3
      have e24 : sl a 24 = .int .i64 x2 := q4
      have e25 : sl a 25 = .slice (subA c0 x2.toNat 2 A0) ((subL x0 x2 (x0.length : Int)).length) (c0 - x2.toNat) := q5
      have e26 : sl a 26 = .slice A0 (((subL x0 0 x1) ++ (subL x0 x2 (x0.length : Int))).length) c0 := q6
      have e0 : sl a 0 = .slice A0 (((subL x0 0 x1) ++ (subL x0 x2 (x0.length : Int))).length) c0 := q7
      replace S : St w0 u (Asn.row 78 2 (.slice A0 (((subL x0 0 x1) ++ (subL x0 x2 (x0.length : Int))).length) c0) (((subL x0 0 x1) ++ (subL x0 x2 (x0.length : Int))).length) (((subL x0 0 x1) ++ (subL x0 x2 (x0.length : Int))).flatMap ePermit) :: X) := S
      clear q0 q1 q2 q3 q4 q5 q6 q7
      have hF := hF.region hB [(20, .slice A0 x0.length c0), (21, .int .i64 x1), (22, .slice (subA c0 ((0 : Int).toNat) 2 A0) ((subL x0 0 x1).length) (c0 - (0 : Int).toNat)), (23, .slice A0 x0.length c0), (24, .int .i64 x2), (25, .slice (subA c0 x2.toNat 2 A0) ((subL x0 x2 (x0.length : Int)).length) (c0 - x2.toNat)), (26, .slice A0 (((subL x0 0 x1) ++ (subL x0 x2 (x0.length : Int))).length) c0), (0, .slice A0 (((subL x0 0 x1) ++ (subL x0 x2 (x0.length : Int))).length) c0)] (allSl_mem ⟨e20, e21, e22, e23, e24, e25, e26, e0, trivial⟩) rfl
      clear hB e20 e21 e22 e23 e24 e25 e26 e0
      refine wp_seq ?_
      refine wp_region_lit ?_
      refine op_val (v := .slice A0 (((subL x0 0 x1) ++ (subL x0 x2 (x0.length : Int))).length) c0) rfl rfl hF rfl (run_move rfl (hF.ev rfl)) ?_; clear hF; intro a hF
      refine op_val (v := .slice A0 (((subL x0 0 x1) ++ (subL x0 x2 (x0.length : Int))).length) c0) rfl rfl hF rfl (run_move rfl (hF.ev rfl)) ?_; clear hF; intro a hF
      refine op_val (v := .int .i64 ((((subL x0 0 x1) ++ (subL x0 x2 (x0.length : Int))).length) : Int)) rfl rfl hF rfl (run_lenL rfl rfl Tryz.underlying39 (hF.ev rfl)) ?_; clear hF; intro a hF
      refine op_val (v := .int .i64 (x0.length : Int)) rfl rfl hF rfl (run_move rfl (hF.ev rfl)) ?_; clear hF; intro a hF
      refine op_val (v := .slice (subA c0 (((((subL x0 0 x1) ++ (subL x0 x2 (x0.length : Int))).length) : Int).toNat) 2 A0) ((x0.length : Int).toNat - ((((subL x0 0 x1) ++ (subL x0 x2 (x0.length : Int))).length) : Int).toNat) (c0 - ((((subL x0 0 x1) ++ (subL x0 x2 (x0.length : Int))).length) : Int).toNat)) rfl rfl hF rfl (run_slicebey rfl Tryz.underlying39 sz78 (hF.ev rfl) (hF.ev rfl) (hF.ev rfl) ⟨Int.natCast_nonneg _, Int.ofNat_le.2 hq107, Int.ofNat_le.2 hp106⟩) ?_; clear hF; intro a hF
      obtain ⟨w', hrun, S'⟩ := S.clear (i := 0) (P := Tryz.prog) (hi := (x0.length : Int)) rfl rfl ePermit_len Tryz.underlying39 inf78 rfl rfl ⟨Int.ofNat_le.2 hq107, Int.ofNat_le.2 hp106⟩
      refine op_builtin0 rfl rfl rfl (hF.ev rfl) hrun ?_
      clear S hrun; have S := S'; clear S'; generalize w' = u at S ⊢
      refine wpList_nil ?_
      refine wp_seq ?_
      refine wp_region_lit ?_
      refine op_val (v := .slice A0 (((subL x0 0 x1) ++ (subL x0 x2 (x0.length : Int))).length) c0) rfl rfl hF rfl (run_move rfl (hF.ev rfl)) ?_; clear hF; intro a hF
      refine op_val (v := .slice A0 (((subL x0 0 x1) ++ (subL x0 x2 (x0.length : Int))).length) c0) rfl rfl hF rfl (run_assign rfl (hF.ev rfl)) ?_; clear hF; intro a hF
      refine wpList_nil ?_
      refine wp_ret ?_
      repeat with_reducible (first | refine then_ret ?_ | refine in_ret ?_ | refine in_nrm ?_)
      refine ret1_gw (.inl rfl) hF rfl (res_tmp (hF.ev rfl)) ?_
      obtain rfl := Option.some.inj hM
      exact ⟨A0, (((subL x0 0 x1) ++ (subL x0 x2 (x0.length : Int))).length), c0, rfl, rfl, S.selT (M := [.row 78 2 (.slice A0 (((subL x0 0 x1) ++ (subL x0 x2 (x0.length : Int))).length) c0) (((subL x0 0 x1) ++ (subL x0 x2 (x0.length : Int))).length) (((subL x0 0 x1) ++ (subL x0 x2 (x0.length : Int))).flatMap ePermit)]) 1 [0] rfl rfl rfl⟩
  · replace hM := bif_t hc102 hM
    refine cond_t hF rfl hc102 ?_
    refine wp_seq ?_
    refine wp_region_lit ?_
    refine op_val (v := .slice A0 x0.length c0) rfl rfl hF rfl (run_move rfl (hF.ev rfl)) ?_; clear hF; intro a hF
    refine op_val (v := .slice A0 x0.length c0) rfl rfl hF rfl (run_assign rfl (hF.ev rfl)) ?_; clear hF; intro a hF
    refine wpList_nil ?_
    refine wp_ret ?_
    repeat with_reducible (first | refine then_ret ?_ | refine in_ret ?_ | refine in_nrm ?_)
    refine ret1_gw (.inl rfl) hF rfl (res_tmp (hF.ev rfl)) ?_
    obtain rfl := Option.some.inj hM
    exact ⟨A0, x0.length, c0, rfl, rfl, S.selT (M := [.row 78 2 (.slice A0 x0.length c0) x0.length (x0.flatMap ePermit)]) 1 [0] rfl rfl rfl⟩
def k_slices_Delete_impl_Permit_impl_Permit : Ctr := ⟨135, [.o (.sl .tk 78 (.p (.int .i64) (.int .i64))), .o (.int .i64), .o (.int .i64)], [.o (.row 78 (.p (.int .i64) (.int .i64)))], true, fun x => m_slices_Delete_impl_Permit_impl_Permit x.1 x.2.1 x.2.2⟩
theorem d_slices_Delete_impl_Permit_impl_Permit : Cok Tryz.prog k_slices_Delete_impl_Permit_impl_Permit := ⟨co135, fun x res hm e w0 w X hp hS => (c_slices_Delete_impl_Permit_impl_Permit (w := w) (w0 := w0) (X := X) (A0 := e.a 0) (n0 := x.1.length) (c0 := e.c 0) rfl hS hm).mono (by
  rintro en w' ⟨B, N, D, rfl, hN, S⟩
  subst hN
  exact ⟨_, _, rfl, ⟨[_], [], [], [_], [], [], rfl, rfl, ⟨_, [], _, [], [_], [], rfl, rfl, rfl, ⟨res, B, D, rfl, rfl, rfl⟩, rfl, rfl, rfl⟩, ⟨rfl, rfl⟩, ⟨[], [], [], [], rfl, rfl, ⟨rfl, rfl⟩, ⟨[], [], [], [], rfl, rfl, ⟨rfl, rfl⟩, ⟨[], [], [], [], rfl, rfl, ⟨rfl, rfl⟩, ⟨rfl, rfl⟩⟩⟩⟩⟩, S⟩)⟩
def k_impl_WorkDo : Ctr := ⟨102, [.g [.sl .ro 4 .b, .sl .ro 4 .b, .sl .ro 78 (.p (.int .i64) (.int .i64))], .g [.int .i64, .int .i64, .int .i64]], [.g [.row 4 .b, .row 4 .b, .row 78 (.p (.int .i64) (.int .i64))], .o .b], false, fun x => m_impl_WorkDo x.1 x.2.1 x.2.2.1 x.2.2.2.1 x.2.2.2.2.1 x.2.2.2.2.2⟩
theorem d_impl_WorkDo : Cok Tryz.prog k_impl_WorkDo := cok (cs := [k_impl_WorkValid, k_impl_Work_clone, k_impl_Work_may, k_slices_Index_impl_Permit_impl_Permit, k_slices_Delete_impl_Permit_impl_Permit]) (rv := [.cell 4 41, .tmp 5]) (crt := .q .z (.q (.q .z (.q (.q .z .z) .z)) (.q .z (.q (.q .z (.q (.q .z .z) .z)) (.q .z (.q (.q .z (.b (.q (.q .z (.cut ⟨[(3, .o .k), (4, .o .k), (5, .o .k), (6, .o .k), (7, .o .k), (39, .o .k), (40, .o .b)], [(7, [.k, .k]), (6, [.k, .k, .k]), (4, [.k, .k, .k]), (3, [.k, .k, .k])], []⟩ [] (.q .z .z))) (.cut ⟨[(4, .o .k), (5, .o .k), (6, .o .k)], [(6, [.w 4 .b, .w 4 .b, .r 78 (.p (.int .i64) (.int .i64))]), (4, [.k, .k, .k])], []⟩ [] (.q .z (.q (.q .z (.cut ⟨[(3, .o .k), (4, .o .k), (5, .o .k), (6, .o .k), (7, .o .k), (39, .o .k), (51, .o .b)], [(7, [.k, .k]), (6, [.k, .k, .k]), (4, [.k, .k, .k]), (3, [.k, .k, .k])], []⟩ [] (.q .z .z))) (.cut ⟨[(4, .o .k), (5, .o .k), (6, .o .k)], [(6, [.k, .w 4 .b, .r 78 (.p (.int .i64) (.int .i64))]), (4, [.k, .k, .k])], []⟩ [] (.q .z (.q .z (.cut ⟨[(4, .o .k), (5, .o .k), (6, .o .k)], [(6, [.k, .k, .r 78 (.p (.int .i64) (.int .i64))]), (4, [.k, .k, .k])], []⟩ [] (.q .z (.q .z (.cut ⟨[(4, .o .k), (5, .o .k), (6, .o .k)], [(6, [.k, .k, .r 78 (.p (.int .i64) (.int .i64))]), (4, [.k, .k, .k])], []⟩ [] (.q (.q .z .z) .z)))))))))))))) (.q .z .z))))))) tys_ok eqt_ok rfl ⟨d_impl_WorkValid, d_impl_Work_clone, d_impl_Work_may, d_slices_Index_impl_Permit_impl_Permit, d_slices_Delete_impl_Permit_impl_Permit, trivial⟩ co102 Tryz.func102 rfl Tryz.ntmps102 rfl rfl (fun _ => by kernel_rfl)
def k_impl_World_do : Ctr := ⟨60, [.bx 43 [.int .i64, .sl .mu 130 (.p (.int .i64) (.p (.int .i64) (.int .i64))), .sl .mu 110 (.p (.int .i64) (.int .i64)), .sl .mu 4 .b, .sl .mu 4 .b, .sl .mu 78 (.p (.int .i64) (.int .i64)), .sl .mu 3 (.int .i64)], .g [.int .i64, .int .i64, .int .i64]], [.o .b], true, fun x => m_impl_World_do x.1 x.2.1 x.2.2.1 x.2.2.2.1 x.2.2.2.2.1 x.2.2.2.2.2.1 x.2.2.2.2.2.2.1 x.2.2.2.2.2.2.2.1 x.2.2.2.2.2.2.2.2.1 x.2.2.2.2.2.2.2.2.2⟩
theorem d_impl_World_do : Cok Tryz.prog k_impl_World_do := cok (cs := [k_slices_BinarySearch_int_int, k_slices_Insert_int_int, k_slices_Contains_impl_Permit_impl_Permit, k_slices_Delete_int_int, k_impl_WorkDo, k_impl_Radial]) (rv := [.tmp 4]) (crt := .q .z (.q .z (.q (.q .z (.b (.q .z (.q (.q (.q .z (.q (.q .z .z) .z)) (.q .z (.q .z (.q .z .z)))) (.q .z (.q (.q (.q .z (.q (.q .z .z) .z)) (.q .z (.q .z .z))) (.q .z (.cut ⟨[(0, .o .k), (3, .o .k), (4, .o .k)], [(3, [.k, .k, .k]), (4096, [.k, .k, .k, .k, .k, .k, .k])], []⟩ [.rt] (.q (.q .z (.q (.q .z .z) .z)) .z))))))))) (.q .z (.q .z (.q .z .z)))))) tys_ok eqt_ok rfl ⟨d_slices_BinarySearch_int_int, d_slices_Insert_int_int, d_slices_Contains_impl_Permit_impl_Permit, d_slices_Delete_int_int, d_impl_WorkDo, d_impl_Radial, trivial⟩ co60 Tryz.func60 rfl Tryz.ntmps60 rfl rfl (fun _ => by kernel_rfl)
def k_impl_WorldDo : Ctr := ⟨20, [.g [.int .i64, .sl .ro 130 (.p (.int .i64) (.p (.int .i64) (.int .i64))), .sl .ro 110 (.p (.int .i64) (.int .i64)), .sl .ro 4 .b, .sl .ro 4 .b, .sl .ro 78 (.p (.int .i64) (.int .i64)), .sl .ro 3 (.int .i64)], .g [.int .i64, .int .i64, .int .i64]], [.g [.int .i64, .row 130 (.p (.int .i64) (.p (.int .i64) (.int .i64))), .row 110 (.p (.int .i64) (.int .i64)), .row 4 .b, .row 4 .b, .row 78 (.p (.int .i64) (.int .i64)), .row 3 (.int .i64)], .o .b], false, fun x => m_impl_WorldDo x.1 x.2.1 x.2.2.1 x.2.2.2.1 x.2.2.2.2.1 x.2.2.2.2.2.1 x.2.2.2.2.2.2.1 x.2.2.2.2.2.2.2.1 x.2.2.2.2.2.2.2.2.1 x.2.2.2.2.2.2.2.2.2⟩
theorem d_impl_WorldDo : Cok Tryz.prog k_impl_WorldDo := cok (cs := [k_impl_WorldValid, k_impl_World_clone, k_impl_Net_hasLine, k_impl_World_do]) (rv := [.cell 4 43, .tmp 5]) (crt := .q .z (.q (.q .z (.q (.q .z .z) .z)) (.q .z (.q (.q (.cut ⟨[(2, .o .k), (4, .o .k), (5, .o .k), (6, .o .k), (23, .o .b)], [(6, [.i .i64, .r 130 (.p (.int .i64) (.p (.int .i64) (.int .i64))), .r 110 (.p (.int .i64) (.int .i64)), .r 4 .b, .r 4 .b, .r 78 (.p (.int .i64) (.int .i64)), .r 3 (.int .i64)]), (4, [.k, .k, .k, .k, .k, .k, .k]), (2, [.k, .k, .k, .k, .k, .k, .k])], []⟩ [] .z) (.q (.q .z .z) .z)) (.q .z .z))))) tys_ok eqt_ok rfl ⟨d_impl_WorldValid, d_impl_World_clone, d_impl_Net_hasLine, d_impl_World_do, trivial⟩ co20 Tryz.func20 rfl Tryz.ntmps20 rfl rfl (fun _ => by kernel_rfl)
def m_impl_WorldRun_l1s (x7 : List (Int × Int × Int)) (rec : (Int × Int × Int × List (Int × Int × Int) × List (Int × Int) × List Bool × List Bool × List (Int × Int) × List Int) → Option ((Int × Int × List (Int × Int × Int) × List (Int × Int) × List Bool × List Bool × List (Int × Int) × List Int))) (p140 : (Int × Int × Int × List (Int × Int × Int) × List (Int × Int) × List Bool × List Bool × List (Int × Int) × List Int)) : Option ((Int × Int × List (Int × Int × Int) × List (Int × Int) × List Bool × List Bool × List (Int × Int) × List Int)) := (bif ltB p140.2.1 (x7.length : Int) then chk (ixB p140.2.1 x7.length) (Option.bind (m_impl_WorldDo p140.2.2.1 p140.2.2.2.1 p140.2.2.2.2.1 p140.2.2.2.2.2.1 p140.2.2.2.2.2.2.1 p140.2.2.2.2.2.2.2.1 p140.2.2.2.2.2.2.2.2 ((x7.getD p140.2.1.toNat ((0, 0, 0) : Int × Int × Int)).1) ((x7.getD p140.2.1.toNat ((0, 0, 0) : Int × Int × Int)).2.1) ((x7.getD p140.2.1.toNat ((0, 0, 0) : Int × Int × Int)).2.2)) (fun (p156 : Int × List (Int × Int × Int) × List (Int × Int) × List Bool × List Bool × List (Int × Int) × List Int × Bool) => Option.bind (bif p156.2.2.2.2.2.2.2 then some (w64 (p140.1 + 1), p156.1, p156.2.1, p156.2.2.1, p156.2.2.2.1, p156.2.2.2.2.1, p156.2.2.2.2.2.1, p156.2.2.2.2.2.2.1) else some (p140.1, p140.2.2.1, p140.2.2.2.1, p140.2.2.2.2.1, p140.2.2.2.2.2.1, p140.2.2.2.2.2.2.1, p140.2.2.2.2.2.2.2.1, p140.2.2.2.2.2.2.2.2)) (fun (p176 : Int × Int × List (Int × Int × Int) × List (Int × Int) × List Bool × List Bool × List (Int × Int) × List Int) => rec (p176.1, w64 (p140.2.1 + 1), p176.2.1, p176.2.2.1, p176.2.2.2.1, p176.2.2.2.2.1, p176.2.2.2.2.2.1, p176.2.2.2.2.2.2.1, p176.2.2.2.2.2.2.2)))) else some (p140.1, p140.2.2.1, p140.2.2.2.1, p140.2.2.2.2.1, p140.2.2.2.2.2.1, p140.2.2.2.2.2.2.1, p140.2.2.2.2.2.2.2.1, p140.2.2.2.2.2.2.2.2))
def m_impl_WorldRun_l1i (x7 : List (Int × Int × Int)) : Nat → (Int × Int × Int × List (Int × Int × Int) × List (Int × Int) × List Bool × List Bool × List (Int × Int) × List Int) → Option ((Int × Int × List (Int × Int × Int) × List (Int × Int) × List Bool × List Bool × List (Int × Int) × List Int)) := itr (m_impl_WorldRun_l1s x7)
theorem q_m_impl_WorldRun_l1 : @m_impl_WorldRun_l1 = @m_impl_WorldRun_l1i := by
  funext x7 n
  induction n with
  | zero => rfl
  | succ n ih =>
    funext p
    show _ = m_impl_WorldRun_l1s x7 (m_impl_WorldRun_l1i x7 n) p
    rw [← ih]
    rfl
def m_impl_WorldRuni (x0 : Int) (x1 : List (Int × Int × Int)) (x2 : List (Int × Int)) (x3 : List Bool) (x4 : List Bool) (x5 : List (Int × Int)) (x6 : List Int) (x7 : List (Int × Int × Int)) : Option (Int × List (Int × Int × Int) × List (Int × Int) × List Bool × List Bool × List (Int × Int) × List Int × Int) := Option.bind (m_impl_WorldValid x0 x1 x2 x3 x4 x5 x6) (fun (p103 : Bool) => (bif p103 then Option.bind (m_impl_World_clone x0 x1 x2 x3 x4 x5 x6) (fun (p105 : Int × List (Int × Int × Int) × List (Int × Int) × List Bool × List Bool × List (Int × Int) × List Int) => Option.bind (m_impl_WorldRun_l1i x7 FUEL (0, 0, p105.1, p105.2.1, p105.2.2.1, p105.2.2.2.1, p105.2.2.2.2.1, p105.2.2.2.2.2.1, p105.2.2.2.2.2.2)) (fun (p125 : Int × Int × List (Int × Int × Int) × List (Int × Int) × List Bool × List Bool × List (Int × Int) × List Int) => some (p125.2.1, p125.2.2.1, p125.2.2.2.1, p125.2.2.2.2.1, p125.2.2.2.2.2.1, p125.2.2.2.2.2.2.1, p125.2.2.2.2.2.2.2, p125.1))) else some (0, ([] : List (Int × Int × Int)), ([] : List (Int × Int)), ([] : List Bool), ([] : List Bool), ([] : List (Int × Int)), ([] : List Int), 0)))
theorem q_m_impl_WorldRun : @m_impl_WorldRun = @m_impl_WorldRuni := by
  funext x0 x1 x2 x3 x4 x5 x6 x7
  unfold m_impl_WorldRuni
  rw [← q_m_impl_WorldRun_l1]
  rfl
def k_impl_WorldRun : Ctr := ⟨25, [.g [.int .i64, .sl .ro 130 (.p (.int .i64) (.p (.int .i64) (.int .i64))), .sl .ro 110 (.p (.int .i64) (.int .i64)), .sl .ro 4 .b, .sl .ro 4 .b, .sl .ro 78 (.p (.int .i64) (.int .i64)), .sl .ro 3 (.int .i64)], .o (.sl .ro 56 (.p (.int .i64) (.p (.int .i64) (.int .i64))))], [.g [.int .i64, .row 130 (.p (.int .i64) (.p (.int .i64) (.int .i64))), .row 110 (.p (.int .i64) (.int .i64)), .row 4 .b, .row 4 .b, .row 78 (.p (.int .i64) (.int .i64)), .row 3 (.int .i64)], .o (.int .i64)], false, fun x => m_impl_WorldRun x.1 x.2.1 x.2.2.1 x.2.2.2.1 x.2.2.2.2.1 x.2.2.2.2.2.1 x.2.2.2.2.2.2.1 x.2.2.2.2.2.2.2⟩
theorem d_impl_WorldRun : Cok Tryz.prog k_impl_WorldRun := cok (cs := [k_impl_WorldValid, k_impl_World_clone, k_impl_WorldDo]) (rv := [.cell 4 43, .tmp 5]) (crt := .q .z (.q (.q .z (.q (.q .z .z) .z)) (.q .z (.q (.q .z (.cut ⟨[(4, .o .k), (5, .o .k), (6, .o .k), (7, .o (.i .i64))], [(6, [.i .i64, .r 130 (.p (.int .i64) (.p (.int .i64) (.int .i64))), .r 110 (.p (.int .i64) (.int .i64)), .r 4 .b, .r 4 .b, .r 78 (.p (.int .i64) (.int .i64)), .r 3 (.int .i64)]), (4, [.k, .k, .k, .k, .k, .k, .k])], []⟩ [] (.b (.lp ⟨[(4, .o .k), (5, .o .k), (6, .o .k), (7, .o (.i .i64)), (18, .o .k), (19, .o .k), (20, .o (.i .i64))], [(6, [.i .i64, .r 130 (.p (.int .i64) (.p (.int .i64) (.int .i64))), .r 110 (.p (.int .i64) (.int .i64)), .r 4 .b, .r 4 .b, .r 78 (.p (.int .i64) (.int .i64)), .r 3 (.int .i64)]), (4, [.k, .k, .k, .k, .k, .k, .k])], []⟩ (.q .z (.q (.q .z .z) (.q (.b (.q .z (.q .z (.q .z (.cut ⟨[(4, .o .k), (5, .o .k), (6, .o .k), (7, .o (.i .i64)), (18, .o .k), (19, .o .k), (20, .o .k)], [(6, [.i .i64, .r 130 (.p (.int .i64) (.p (.int .i64) (.int .i64))), .r 110 (.p (.int .i64) (.int .i64)), .r 4 .b, .r 4 .b, .r 78 (.p (.int .i64) (.int .i64)), .r 3 (.int .i64)]), (4, [.k, .k, .k, .k, .k, .k, .k])], []⟩ [] (.q (.q .z .z) .z)))))) .z))))))) (.q .z .z))))) tys_ok eqt_ok rfl ⟨d_impl_WorldValid, d_impl_World_clone, d_impl_WorldDo, trivial⟩ co25 Tryz.func25 rfl Tryz.ntmps25 rfl rfl (fun x => by
  show m_impl_WorldRun x.1 x.2.1 x.2.2.1 x.2.2.2.1 x.2.2.2.2.1 x.2.2.2.2.2.1 x.2.2.2.2.2.2.1 x.2.2.2.2.2.2.2 = _
  rw [q_m_impl_WorldRun]
  kernel_rfl)
def k_laws_eqLine : Ctr := ⟨112, [.g [.int .i64, .int .i64, .int .i64], .g [.int .i64, .int .i64, .int .i64]], [.o .b], false, fun x => m_laws_eqLine x.1 x.2.1 x.2.2.1 x.2.2.2.1 x.2.2.2.2.1 x.2.2.2.2.2⟩
theorem d_laws_eqLine : Cok Tryz.prog k_laws_eqLine := cok (cs := []) (rv := [.tmp 4]) (crt := .q .z (.q (.q .z (.q (.q .z .z) .z)) (.q (.q .z (.q (.q .z .z) .z)) (.q (.q .z (.q (.q .z .z) .z)) (.q .z .z))))) tys_ok eqt_ok rfl trivial co112 Tryz.func112 rfl Tryz.ntmps112 rfl rfl (fun _ => by kernel_rfl)
def m_laws_eqLineS_l1s (x0 : List (Int × Int × Int)) (x1 : List (Int × Int × Int)) (rec : Int → Option (Unit ⊕ Bool)) (p105 : Int) : Option (Unit ⊕ Bool) := (bif ltB p105 (x0.length : Int) then chk (ixB p105 x0.length) (chk (ixB p105 x1.length) (Option.bind (m_laws_eqLine ((x0.getD p105.toNat ((0, 0, 0) : Int × Int × Int)).1) ((x0.getD p105.toNat ((0, 0, 0) : Int × Int × Int)).2.1) ((x0.getD p105.toNat ((0, 0, 0) : Int × Int × Int)).2.2) ((x1.getD p105.toNat ((0, 0, 0) : Int × Int × Int)).1) ((x1.getD p105.toNat ((0, 0, 0) : Int × Int × Int)).2.1) ((x1.getD p105.toNat ((0, 0, 0) : Int × Int × Int)).2.2)) (fun (p109 : Bool) => (bif p109 then rec (w64 (p105 + 1)) else some (Sum.inr false))))) else some (Sum.inl ()))
def m_laws_eqLineS_l1i (x0 : List (Int × Int × Int)) (x1 : List (Int × Int × Int)) : Nat → Int → Option (Unit ⊕ Bool) := itr (m_laws_eqLineS_l1s x0 x1)
theorem q_m_laws_eqLineS_l1 : @m_laws_eqLineS_l1 = @m_laws_eqLineS_l1i := by
  funext x0 x1 n
  induction n with
  | zero => rfl
  | succ n ih =>
    funext p
    show _ = m_laws_eqLineS_l1s x0 x1 (m_laws_eqLineS_l1i x0 x1 n) p
    rw [← ih]
    rfl
def m_laws_eqLineSi (x0 : List (Int × Int × Int)) (x1 : List (Int × Int × Int)) : Option (Bool) := (bif (x0.length : Int) != (x1.length : Int) then some false else Option.bind (m_laws_eqLineS_l1i x0 x1 FUEL 0 : Option (Unit ⊕ Bool)) (Sum.elim (fun (p102 : Unit) => some true) (fun (r : Bool) => some r)))
theorem q_m_laws_eqLineS : @m_laws_eqLineS = @m_laws_eqLineSi := by
  funext x0 x1
  unfold m_laws_eqLineSi
  rw [← q_m_laws_eqLineS_l1]
  rfl
def k_laws_eqLineS : Ctr := ⟨77, [.o (.sl .ro 130 (.p (.int .i64) (.p (.int .i64) (.int .i64)))), .o (.sl .ro 130 (.p (.int .i64) (.p (.int .i64) (.int .i64))))], [.o .b], false, fun x => m_laws_eqLineS x.1 x.2⟩
theorem d_laws_eqLineS : Cok Tryz.prog k_laws_eqLineS := cok (cs := [k_laws_eqLine]) (rv := [.tmp 4]) (crt := .q .z (.q (.q .z (.q (.q .z .z) .z)) (.q (.q .z (.cut ⟨[(4, .o .k)], [], []⟩ [.rt] (.b (.lp ⟨[(0, .o .k), (1, .o .k), (4, .o .k), (5, .o (.i .i64))], [], []⟩ (.q (.q .z (.q .z .z)) (.q (.b (.q .z (.q (.q .z .z) .z))) .z)))))) (.q .z .z)))) tys_ok eqt_ok rfl ⟨d_laws_eqLine, trivial⟩ co77 Tryz.func77 rfl Tryz.ntmps77 rfl rfl (fun x => by
  show m_laws_eqLineS x.1 x.2 = _
  rw [q_m_laws_eqLineS]
  kernel_rfl)
def k_laws_eqNet : Ctr := ⟨36, [.g [.int .i64, .sl .ro 130 (.p (.int .i64) (.p (.int .i64) (.int .i64)))], .g [.int .i64, .sl .ro 130 (.p (.int .i64) (.p (.int .i64) (.int .i64)))]], [.o .b], false, fun x => m_laws_eqNet x.1 x.2.1 x.2.2.1 x.2.2.2⟩
theorem d_laws_eqNet : Cok Tryz.prog k_laws_eqNet := cok (cs := [k_laws_eqLineS]) (rv := [.tmp 4]) (crt := .q .z (.q (.q .z (.q (.q .z .z) .z)) (.q (.q .z (.q (.q .z .z) .z)) (.q .z .z)))) tys_ok eqt_ok rfl ⟨d_laws_eqLineS, trivial⟩ co36 Tryz.func36 rfl Tryz.ntmps36 rfl rfl (fun _ => by kernel_rfl)
def k_laws_eqBus : Ctr := ⟨78, [.g [.int .i64, .int .i64], .g [.int .i64, .int .i64]], [.o .b], false, fun x => m_laws_eqBus x.1 x.2.1 x.2.2.1 x.2.2.2⟩
theorem d_laws_eqBus : Cok Tryz.prog k_laws_eqBus := cok (cs := []) (rv := [.tmp 4]) (crt := .q .z (.q (.q .z (.q (.q .z .z) .z)) (.q (.q .z (.q (.q .z .z) .z)) (.q .z .z)))) tys_ok eqt_ok rfl trivial co78 Tryz.func78 rfl Tryz.ntmps78 rfl rfl (fun _ => by kernel_rfl)
def m_laws_eqBusS_l1s (x0 : List (Int × Int)) (x1 : List (Int × Int)) (rec : Int → Option (Unit ⊕ Bool)) (p105 : Int) : Option (Unit ⊕ Bool) := (bif ltB p105 (x0.length : Int) then chk (ixB p105 x0.length) (chk (ixB p105 x1.length) (Option.bind (m_laws_eqBus ((x0.getD p105.toNat ((0, 0) : Int × Int)).1) ((x0.getD p105.toNat ((0, 0) : Int × Int)).2) ((x1.getD p105.toNat ((0, 0) : Int × Int)).1) ((x1.getD p105.toNat ((0, 0) : Int × Int)).2)) (fun (p109 : Bool) => (bif p109 then rec (w64 (p105 + 1)) else some (Sum.inr false))))) else some (Sum.inl ()))
def m_laws_eqBusS_l1i (x0 : List (Int × Int)) (x1 : List (Int × Int)) : Nat → Int → Option (Unit ⊕ Bool) := itr (m_laws_eqBusS_l1s x0 x1)
theorem q_m_laws_eqBusS_l1 : @m_laws_eqBusS_l1 = @m_laws_eqBusS_l1i := by
  funext x0 x1 n
  induction n with
  | zero => rfl
  | succ n ih =>
    funext p
    show _ = m_laws_eqBusS_l1s x0 x1 (m_laws_eqBusS_l1i x0 x1 n) p
    rw [← ih]
    rfl
def m_laws_eqBusSi (x0 : List (Int × Int)) (x1 : List (Int × Int)) : Option (Bool) := (bif (x0.length : Int) != (x1.length : Int) then some false else Option.bind (m_laws_eqBusS_l1i x0 x1 FUEL 0 : Option (Unit ⊕ Bool)) (Sum.elim (fun (p102 : Unit) => some true) (fun (r : Bool) => some r)))
theorem q_m_laws_eqBusS : @m_laws_eqBusS = @m_laws_eqBusSi := by
  funext x0 x1
  unfold m_laws_eqBusSi
  rw [← q_m_laws_eqBusS_l1]
  rfl
def k_laws_eqBusS : Ctr := ⟨37, [.o (.sl .ro 110 (.p (.int .i64) (.int .i64))), .o (.sl .ro 110 (.p (.int .i64) (.int .i64)))], [.o .b], false, fun x => m_laws_eqBusS x.1 x.2⟩
theorem d_laws_eqBusS : Cok Tryz.prog k_laws_eqBusS := cok (cs := [k_laws_eqBus]) (rv := [.tmp 4]) (crt := .q .z (.q (.q .z (.q (.q .z .z) .z)) (.q (.q .z (.cut ⟨[(4, .o .k)], [], []⟩ [.rt] (.b (.lp ⟨[(0, .o .k), (1, .o .k), (4, .o .k), (5, .o (.i .i64))], [], []⟩ (.q (.q .z (.q .z .z)) (.q (.b (.q .z (.q (.q .z .z) .z))) .z)))))) (.q .z .z)))) tys_ok eqt_ok rfl ⟨d_laws_eqBus, trivial⟩ co37 Tryz.func37 rfl Tryz.ntmps37 rfl rfl (fun x => by
  show m_laws_eqBusS x.1 x.2 = _
  rw [q_m_laws_eqBusS]
  kernel_rfl)
def m_laws_eqBoolS_l1s (x0 : List Bool) (x1 : List Bool) (rec : Int → Option (Unit ⊕ Bool)) (p105 : Int) : Option (Unit ⊕ Bool) := (bif ltB p105 (x0.length : Int) then chk (ixB p105 x0.length) (chk (ixB p105 x1.length) ((bif (x0.getD p105.toNat false) != (x1.getD p105.toNat false) then some (Sum.inr false) else rec (w64 (p105 + 1))))) else some (Sum.inl ()))
def m_laws_eqBoolS_l1i (x0 : List Bool) (x1 : List Bool) : Nat → Int → Option (Unit ⊕ Bool) := itr (m_laws_eqBoolS_l1s x0 x1)
theorem q_m_laws_eqBoolS_l1 : @m_laws_eqBoolS_l1 = @m_laws_eqBoolS_l1i := by
  funext x0 x1 n
  induction n with
  | zero => rfl
  | succ n ih =>
    funext p
    show _ = m_laws_eqBoolS_l1s x0 x1 (m_laws_eqBoolS_l1i x0 x1 n) p
    rw [← ih]
    rfl
def m_laws_eqBoolSi (x0 : List Bool) (x1 : List Bool) : Option (Bool) := (bif (x0.length : Int) != (x1.length : Int) then some false else Option.bind (m_laws_eqBoolS_l1i x0 x1 FUEL 0 : Option (Unit ⊕ Bool)) (Sum.elim (fun (p102 : Unit) => some true) (fun (r : Bool) => some r)))
theorem q_m_laws_eqBoolS : @m_laws_eqBoolS = @m_laws_eqBoolSi := by
  funext x0 x1
  unfold m_laws_eqBoolSi
  rw [← q_m_laws_eqBoolS_l1]
  rfl
def k_laws_eqBoolS : Ctr := ⟨79, [.o (.sl .ro 4 .b), .o (.sl .ro 4 .b)], [.o .b], false, fun x => m_laws_eqBoolS x.1 x.2⟩
theorem d_laws_eqBoolS : Cok Tryz.prog k_laws_eqBoolS := cok (cs := []) (rv := [.tmp 4]) (crt := .q .z (.q (.q .z (.q (.q .z .z) .z)) (.q (.q .z (.cut ⟨[(4, .o .k)], [], []⟩ [.rt] (.b (.lp ⟨[(0, .o .k), (1, .o .k), (4, .o .k), (5, .o (.i .i64))], [], []⟩ (.q (.q .z (.q .z .z)) (.q (.b (.q .z (.q (.q .z .z) .z))) .z)))))) (.q .z .z)))) tys_ok eqt_ok rfl trivial co79 Tryz.func79 rfl Tryz.ntmps79 rfl rfl (fun x => by
  show m_laws_eqBoolS x.1 x.2 = _
  rw [q_m_laws_eqBoolS]
  kernel_rfl)
def k_laws_eqPermit : Ctr := ⟨113, [.g [.int .i64, .int .i64], .g [.int .i64, .int .i64]], [.o .b], false, fun x => m_laws_eqPermit x.1 x.2.1 x.2.2.1 x.2.2.2⟩
theorem d_laws_eqPermit : Cok Tryz.prog k_laws_eqPermit := cok (cs := []) (rv := [.tmp 4]) (crt := .q .z (.q (.q .z (.q (.q .z .z) .z)) (.q (.q .z (.q (.q .z .z) .z)) (.q .z .z)))) tys_ok eqt_ok rfl trivial co113 Tryz.func113 rfl Tryz.ntmps113 rfl rfl (fun _ => by kernel_rfl)
def m_laws_eqPermitS_l1s (x0 : List (Int × Int)) (x1 : List (Int × Int)) (rec : Int → Option (Unit ⊕ Bool)) (p105 : Int) : Option (Unit ⊕ Bool) := (bif ltB p105 (x0.length : Int) then chk (ixB p105 x0.length) (chk (ixB p105 x1.length) (Option.bind (m_laws_eqPermit ((x0.getD p105.toNat ((0, 0) : Int × Int)).1) ((x0.getD p105.toNat ((0, 0) : Int × Int)).2) ((x1.getD p105.toNat ((0, 0) : Int × Int)).1) ((x1.getD p105.toNat ((0, 0) : Int × Int)).2)) (fun (p109 : Bool) => (bif p109 then rec (w64 (p105 + 1)) else some (Sum.inr false))))) else some (Sum.inl ()))
def m_laws_eqPermitS_l1i (x0 : List (Int × Int)) (x1 : List (Int × Int)) : Nat → Int → Option (Unit ⊕ Bool) := itr (m_laws_eqPermitS_l1s x0 x1)
theorem q_m_laws_eqPermitS_l1 : @m_laws_eqPermitS_l1 = @m_laws_eqPermitS_l1i := by
  funext x0 x1 n
  induction n with
  | zero => rfl
  | succ n ih =>
    funext p
    show _ = m_laws_eqPermitS_l1s x0 x1 (m_laws_eqPermitS_l1i x0 x1 n) p
    rw [← ih]
    rfl
def m_laws_eqPermitSi (x0 : List (Int × Int)) (x1 : List (Int × Int)) : Option (Bool) := (bif (x0.length : Int) != (x1.length : Int) then some false else Option.bind (m_laws_eqPermitS_l1i x0 x1 FUEL 0 : Option (Unit ⊕ Bool)) (Sum.elim (fun (p102 : Unit) => some true) (fun (r : Bool) => some r)))
theorem q_m_laws_eqPermitS : @m_laws_eqPermitS = @m_laws_eqPermitSi := by
  funext x0 x1
  unfold m_laws_eqPermitSi
  rw [← q_m_laws_eqPermitS_l1]
  rfl
def k_laws_eqPermitS : Ctr := ⟨80, [.o (.sl .ro 78 (.p (.int .i64) (.int .i64))), .o (.sl .ro 78 (.p (.int .i64) (.int .i64)))], [.o .b], false, fun x => m_laws_eqPermitS x.1 x.2⟩
theorem d_laws_eqPermitS : Cok Tryz.prog k_laws_eqPermitS := cok (cs := [k_laws_eqPermit]) (rv := [.tmp 4]) (crt := .q .z (.q (.q .z (.q (.q .z .z) .z)) (.q (.q .z (.cut ⟨[(4, .o .k)], [], []⟩ [.rt] (.b (.lp ⟨[(0, .o .k), (1, .o .k), (4, .o .k), (5, .o (.i .i64))], [], []⟩ (.q (.q .z (.q .z .z)) (.q (.b (.q .z (.q (.q .z .z) .z))) .z)))))) (.q .z .z)))) tys_ok eqt_ok rfl ⟨d_laws_eqPermit, trivial⟩ co80 Tryz.func80 rfl Tryz.ntmps80 rfl rfl (fun x => by
  show m_laws_eqPermitS x.1 x.2 = _
  rw [q_m_laws_eqPermitS]
  kernel_rfl)
def k_laws_eqWork : Ctr := ⟨38, [.g [.sl .ro 4 .b, .sl .ro 4 .b, .sl .ro 78 (.p (.int .i64) (.int .i64))], .g [.sl .ro 4 .b, .sl .ro 4 .b, .sl .ro 78 (.p (.int .i64) (.int .i64))]], [.o .b], false, fun x => m_laws_eqWork x.1 x.2.1 x.2.2.1 x.2.2.2.1 x.2.2.2.2.1 x.2.2.2.2.2⟩
theorem d_laws_eqWork : Cok Tryz.prog k_laws_eqWork := cok (cs := [k_laws_eqBoolS, k_laws_eqPermitS]) (rv := [.tmp 4]) (crt := .q .z (.q (.q .z (.q (.q .z .z) .z)) (.q (.q .z (.q (.q .z .z) .z)) (.q (.q .z (.q (.q .z .z) .z)) (.q .z .z))))) tys_ok eqt_ok rfl ⟨d_laws_eqBoolS, d_laws_eqPermitS, trivial⟩ co38 Tryz.func38 rfl Tryz.ntmps38 rfl rfl (fun _ => by kernel_rfl)
def m_laws_eqIntS_l1s (x0 : List Int) (x1 : List Int) (rec : Int → Option (Unit ⊕ Bool)) (p105 : Int) : Option (Unit ⊕ Bool) := (bif ltB p105 (x0.length : Int) then chk (ixB p105 x0.length) (chk (ixB p105 x1.length) ((bif (x0.getD p105.toNat (0 : Int)) != (x1.getD p105.toNat (0 : Int)) then some (Sum.inr false) else rec (w64 (p105 + 1))))) else some (Sum.inl ()))
def m_laws_eqIntS_l1i (x0 : List Int) (x1 : List Int) : Nat → Int → Option (Unit ⊕ Bool) := itr (m_laws_eqIntS_l1s x0 x1)
theorem q_m_laws_eqIntS_l1 : @m_laws_eqIntS_l1 = @m_laws_eqIntS_l1i := by
  funext x0 x1 n
  induction n with
  | zero => rfl
  | succ n ih =>
    funext p
    show _ = m_laws_eqIntS_l1s x0 x1 (m_laws_eqIntS_l1i x0 x1 n) p
    rw [← ih]
    rfl
def m_laws_eqIntSi (x0 : List Int) (x1 : List Int) : Option (Bool) := (bif (x0.length : Int) != (x1.length : Int) then some false else Option.bind (m_laws_eqIntS_l1i x0 x1 FUEL 0 : Option (Unit ⊕ Bool)) (Sum.elim (fun (p102 : Unit) => some true) (fun (r : Bool) => some r)))
theorem q_m_laws_eqIntS : @m_laws_eqIntS = @m_laws_eqIntSi := by
  funext x0 x1
  unfold m_laws_eqIntSi
  rw [← q_m_laws_eqIntS_l1]
  rfl
def k_laws_eqIntS : Ctr := ⟨39, [.o (.sl .ro 3 (.int .i64)), .o (.sl .ro 3 (.int .i64))], [.o .b], false, fun x => m_laws_eqIntS x.1 x.2⟩
theorem d_laws_eqIntS : Cok Tryz.prog k_laws_eqIntS := cok (cs := []) (rv := [.tmp 4]) (crt := .q .z (.q (.q .z (.q (.q .z .z) .z)) (.q (.q .z (.cut ⟨[(4, .o .k)], [], []⟩ [.rt] (.b (.lp ⟨[(0, .o .k), (1, .o .k), (4, .o .k), (5, .o (.i .i64))], [], []⟩ (.q (.q .z (.q .z .z)) (.q (.b (.q .z (.q (.q .z .z) .z))) .z)))))) (.q .z .z)))) tys_ok eqt_ok rfl trivial co39 Tryz.func39 rfl Tryz.ntmps39 rfl rfl (fun x => by
  show m_laws_eqIntS x.1 x.2 = _
  rw [q_m_laws_eqIntS]
  kernel_rfl)
def k_laws_eqWorld : Ctr := ⟨11, [.g [.int .i64, .sl .ro 130 (.p (.int .i64) (.p (.int .i64) (.int .i64))), .sl .ro 110 (.p (.int .i64) (.int .i64)), .sl .ro 4 .b, .sl .ro 4 .b, .sl .ro 78 (.p (.int .i64) (.int .i64)), .sl .ro 3 (.int .i64)], .g [.int .i64, .sl .ro 130 (.p (.int .i64) (.p (.int .i64) (.int .i64))), .sl .ro 110 (.p (.int .i64) (.int .i64)), .sl .ro 4 .b, .sl .ro 4 .b, .sl .ro 78 (.p (.int .i64) (.int .i64)), .sl .ro 3 (.int .i64)]], [.o .b], false, fun x => m_laws_eqWorld x.1 x.2.1 x.2.2.1 x.2.2.2.1 x.2.2.2.2.1 x.2.2.2.2.2.1 x.2.2.2.2.2.2.1 x.2.2.2.2.2.2.2.1 x.2.2.2.2.2.2.2.2.1 x.2.2.2.2.2.2.2.2.2.1 x.2.2.2.2.2.2.2.2.2.2.1 x.2.2.2.2.2.2.2.2.2.2.2.1 x.2.2.2.2.2.2.2.2.2.2.2.2.1 x.2.2.2.2.2.2.2.2.2.2.2.2.2⟩
theorem d_laws_eqWorld : Cok Tryz.prog k_laws_eqWorld := cok (cs := [k_laws_eqNet, k_laws_eqBusS, k_laws_eqWork, k_laws_eqIntS]) (rv := [.tmp 4]) (crt := .q .z (.q (.q .z (.q (.q .z .z) .z)) (.q (.q .z (.q (.q .z .z) .z)) (.q (.q .z (.q (.q .z .z) .z)) (.q (.q .z (.q (.q .z .z) .z)) (.q .z .z)))))) tys_ok eqt_ok rfl ⟨d_laws_eqNet, d_laws_eqBusS, d_laws_eqWork, d_laws_eqIntS, trivial⟩ co11 Tryz.func11 rfl Tryz.ntmps11 rfl rfl (fun _ => by kernel_rfl)
def k_laws_eqWorkDeed : Ctr := ⟨46, [.g [.int .i64, .int .i64, .int .i64], .g [.int .i64, .int .i64, .int .i64]], [.o .b], false, fun x => m_laws_eqWorkDeed x.1 x.2.1 x.2.2.1 x.2.2.2.1 x.2.2.2.2.1 x.2.2.2.2.2⟩
theorem d_laws_eqWorkDeed : Cok Tryz.prog k_laws_eqWorkDeed := cok (cs := []) (rv := [.tmp 4]) (crt := .q .z (.q (.q .z (.q (.q .z .z) .z)) (.q (.q .z (.q (.q .z .z) .z)) (.q (.q .z (.q (.q .z .z) .z)) (.q .z .z))))) tys_ok eqt_ok rfl trivial co46 Tryz.func46 rfl Tryz.ntmps46 rfl rfl (fun _ => by kernel_rfl)
def m_laws_eqWorkDeedS_l1s (x0 : List (Int × Int × Int)) (x1 : List (Int × Int × Int)) (rec : Int → Option (Unit ⊕ Bool)) (p105 : Int) : Option (Unit ⊕ Bool) := (bif ltB p105 (x0.length : Int) then chk (ixB p105 x0.length) (chk (ixB p105 x1.length) (Option.bind (m_laws_eqWorkDeed ((x0.getD p105.toNat ((0, 0, 0) : Int × Int × Int)).1) ((x0.getD p105.toNat ((0, 0, 0) : Int × Int × Int)).2.1) ((x0.getD p105.toNat ((0, 0, 0) : Int × Int × Int)).2.2) ((x1.getD p105.toNat ((0, 0, 0) : Int × Int × Int)).1) ((x1.getD p105.toNat ((0, 0, 0) : Int × Int × Int)).2.1) ((x1.getD p105.toNat ((0, 0, 0) : Int × Int × Int)).2.2)) (fun (p109 : Bool) => (bif p109 then rec (w64 (p105 + 1)) else some (Sum.inr false))))) else some (Sum.inl ()))
def m_laws_eqWorkDeedS_l1i (x0 : List (Int × Int × Int)) (x1 : List (Int × Int × Int)) : Nat → Int → Option (Unit ⊕ Bool) := itr (m_laws_eqWorkDeedS_l1s x0 x1)
theorem q_m_laws_eqWorkDeedS_l1 : @m_laws_eqWorkDeedS_l1 = @m_laws_eqWorkDeedS_l1i := by
  funext x0 x1 n
  induction n with
  | zero => rfl
  | succ n ih =>
    funext p
    show _ = m_laws_eqWorkDeedS_l1s x0 x1 (m_laws_eqWorkDeedS_l1i x0 x1 n) p
    rw [← ih]
    rfl
def m_laws_eqWorkDeedSi (x0 : List (Int × Int × Int)) (x1 : List (Int × Int × Int)) : Option (Bool) := (bif (x0.length : Int) != (x1.length : Int) then some false else Option.bind (m_laws_eqWorkDeedS_l1i x0 x1 FUEL 0 : Option (Unit ⊕ Bool)) (Sum.elim (fun (p102 : Unit) => some true) (fun (r : Bool) => some r)))
theorem q_m_laws_eqWorkDeedS : @m_laws_eqWorkDeedS = @m_laws_eqWorkDeedSi := by
  funext x0 x1
  unfold m_laws_eqWorkDeedSi
  rw [← q_m_laws_eqWorkDeedS_l1]
  rfl
def k_laws_eqWorkDeedS : Ctr := ⟨14, [.o (.sl .ro 56 (.p (.int .i64) (.p (.int .i64) (.int .i64)))), .o (.sl .ro 56 (.p (.int .i64) (.p (.int .i64) (.int .i64))))], [.o .b], false, fun x => m_laws_eqWorkDeedS x.1 x.2⟩
theorem d_laws_eqWorkDeedS : Cok Tryz.prog k_laws_eqWorkDeedS := cok (cs := [k_laws_eqWorkDeed]) (rv := [.tmp 4]) (crt := .q .z (.q (.q .z (.q (.q .z .z) .z)) (.q (.q .z (.cut ⟨[(4, .o .k)], [], []⟩ [.rt] (.b (.lp ⟨[(0, .o .k), (1, .o .k), (4, .o .k), (5, .o (.i .i64))], [], []⟩ (.q (.q .z (.q .z .z)) (.q (.b (.q .z (.q (.q .z .z) .z))) .z)))))) (.q .z .z)))) tys_ok eqt_ok rfl ⟨d_laws_eqWorkDeed, trivial⟩ co14 Tryz.func14 rfl Tryz.ntmps14 rfl rfl (fun x => by
  show m_laws_eqWorkDeedS x.1 x.2 = _
  rw [q_m_laws_eqWorkDeedS]
  kernel_rfl)
def m_laws_markLineS_l1s (x0 : List (Int × Int × Int)) (rec : (List (Int × Int × Int) × Int × Int) → Option ((Int × List (Int × Int × Int)))) (p105 : (List (Int × Int × Int) × Int × Int)) : Option ((Int × List (Int × Int × Int))) := (bif ltB p105.2.2 (x0.length : Int) then chk (ixB p105.2.2 x0.length) (chk (ixB p105.2.2 x0.length) (chk (ixB p105.2.2 x0.length) (rec (p105.1.set p105.2.2.toNat (p105.2.1, w64 (p105.2.1 + 1), w64 ((w64 (p105.2.1 + 1)) + 1)), w64 ((w64 ((w64 (p105.2.1 + 1)) + 1)) + 1), w64 (p105.2.2 + 1))))) else some (p105.2.1, p105.1))
def m_laws_markLineS_l1i (x0 : List (Int × Int × Int)) : Nat → (List (Int × Int × Int) × Int × Int) → Option ((Int × List (Int × Int × Int))) := itr (m_laws_markLineS_l1s x0)
theorem q_m_laws_markLineS_l1 : @m_laws_markLineS_l1 = @m_laws_markLineS_l1i := by
  funext x0 n
  induction n with
  | zero => rfl
  | succ n ih =>
    funext p
    show _ = m_laws_markLineS_l1s x0 (m_laws_markLineS_l1i x0 n) p
    rw [← ih]
    rfl
def m_laws_markLineSi (x0 : List (Int × Int × Int)) (x1 : Int) : Option (Int × List (Int × Int × Int)) := Option.bind (m_laws_markLineS_l1i x0 FUEL (x0, x1, 0)) (fun (p101 : Int × List (Int × Int × Int)) => some (p101.1, p101.2))
theorem q_m_laws_markLineS : @m_laws_markLineS = @m_laws_markLineSi := by
  funext x0 x1
  unfold m_laws_markLineSi
  rw [← q_m_laws_markLineS_l1]
  rfl
def k_laws_markLineS : Ctr := ⟨85, [.o (.sl .mu 130 (.p (.int .i64) (.p (.int .i64) (.int .i64)))), .o (.int .i64)], [.o (.int .i64)], true, fun x => m_laws_markLineS x.1 x.2⟩
theorem d_laws_markLineS : Cok Tryz.prog k_laws_markLineS := cok (cs := []) (rv := [.tmp 4]) (crt := .q .z (.q (.q .z (.cut ⟨[(1, .o (.i .i64)), (4, .o .k)], [], [(0, .r 130 (.p (.int .i64) (.p (.int .i64) (.int .i64))))]⟩ [] (.b (.lp ⟨[(0, .o (.w 130 (.p (.int .i64) (.p (.int .i64) (.int .i64))))), (1, .o (.i .i64)), (4, .o .k), (5, .o (.i .i64))], [], []⟩ (.q (.q .z (.q .z .z)) (.q (.b (.q .z (.q .z (.q .z (.q .z (.q .z .z)))))) .z)))))) (.q .z .z))) tys_ok eqt_ok rfl trivial co85 Tryz.func85 rfl Tryz.ntmps85 rfl rfl (fun x => by
  show m_laws_markLineS x.1 x.2 = _
  rw [q_m_laws_markLineS]
  kernel_rfl)
def k_laws_markNet : Ctr := ⟨47, [.g [.int .i64, .sl .mu 130 (.p (.int .i64) (.p (.int .i64) (.int .i64)))], .o (.int .i64)], [.o (.int .i64)], true, fun x => m_laws_markNet x.1 x.2.1 x.2.2⟩
theorem d_laws_markNet : Cok Tryz.prog k_laws_markNet := cok (cs := [k_laws_markLineS]) (rv := [.tmp 4]) (crt := .q .z (.q .z (.q .z .z))) tys_ok eqt_ok rfl ⟨d_laws_markLineS, trivial⟩ co47 Tryz.func47 rfl Tryz.ntmps47 rfl rfl (fun _ => by kernel_rfl)
def m_laws_markBusS_l1s (x0 : List (Int × Int)) (rec : (List (Int × Int) × Int × Int) → Option ((Int × List (Int × Int)))) (p105 : (List (Int × Int) × Int × Int)) : Option ((Int × List (Int × Int))) := (bif ltB p105.2.2 (x0.length : Int) then chk (ixB p105.2.2 x0.length) (chk (ixB p105.2.2 x0.length) (rec (p105.1.set p105.2.2.toNat (p105.2.1, w64 (p105.2.1 + 1)), w64 ((w64 (p105.2.1 + 1)) + 1), w64 (p105.2.2 + 1)))) else some (p105.2.1, p105.1))
def m_laws_markBusS_l1i (x0 : List (Int × Int)) : Nat → (List (Int × Int) × Int × Int) → Option ((Int × List (Int × Int))) := itr (m_laws_markBusS_l1s x0)
theorem q_m_laws_markBusS_l1 : @m_laws_markBusS_l1 = @m_laws_markBusS_l1i := by
  funext x0 n
  induction n with
  | zero => rfl
  | succ n ih =>
    funext p
    show _ = m_laws_markBusS_l1s x0 (m_laws_markBusS_l1i x0 n) p
    rw [← ih]
    rfl
def m_laws_markBusSi (x0 : List (Int × Int)) (x1 : Int) : Option (Int × List (Int × Int)) := Option.bind (m_laws_markBusS_l1i x0 FUEL (x0, x1, 0)) (fun (p101 : Int × List (Int × Int)) => some (p101.1, p101.2))
theorem q_m_laws_markBusS : @m_laws_markBusS = @m_laws_markBusSi := by
  funext x0 x1
  unfold m_laws_markBusSi
  rw [← q_m_laws_markBusS_l1]
  rfl
def k_laws_markBusS : Ctr := ⟨48, [.o (.sl .mu 110 (.p (.int .i64) (.int .i64))), .o (.int .i64)], [.o (.int .i64)], true, fun x => m_laws_markBusS x.1 x.2⟩
theorem d_laws_markBusS : Cok Tryz.prog k_laws_markBusS := cok (cs := []) (rv := [.tmp 4]) (crt := .q .z (.q (.q .z (.cut ⟨[(1, .o (.i .i64)), (4, .o .k)], [], [(0, .r 110 (.p (.int .i64) (.int .i64)))]⟩ [] (.b (.lp ⟨[(0, .o (.w 110 (.p (.int .i64) (.int .i64)))), (1, .o (.i .i64)), (4, .o .k), (5, .o (.i .i64))], [], []⟩ (.q (.q .z (.q .z .z)) (.q (.b (.q .z (.q .z (.q .z .z)))) .z)))))) (.q .z .z))) tys_ok eqt_ok rfl trivial co48 Tryz.func48 rfl Tryz.ntmps48 rfl rfl (fun x => by
  show m_laws_markBusS x.1 x.2 = _
  rw [q_m_laws_markBusS]
  kernel_rfl)
def m_laws_markBoolS_l1s (x0 : List Bool) (rec : (List Bool × Int × Int) → Option ((Int × List Bool))) (p105 : (List Bool × Int × Int)) : Option ((Int × List Bool)) := (bif ltB p105.2.2 (x0.length : Int) then chk (ixB p105.2.2 x0.length) (rec (p105.1.set p105.2.2.toNat ((Int.tmod p105.2.1 3) == 0), w64 (p105.2.1 + 1), w64 (p105.2.2 + 1))) else some (p105.2.1, p105.1))
def m_laws_markBoolS_l1i (x0 : List Bool) : Nat → (List Bool × Int × Int) → Option ((Int × List Bool)) := itr (m_laws_markBoolS_l1s x0)
theorem q_m_laws_markBoolS_l1 : @m_laws_markBoolS_l1 = @m_laws_markBoolS_l1i := by
  funext x0 n
  induction n with
  | zero => rfl
  | succ n ih =>
    funext p
    show _ = m_laws_markBoolS_l1s x0 (m_laws_markBoolS_l1i x0 n) p
    rw [← ih]
    rfl
def m_laws_markBoolSi (x0 : List Bool) (x1 : Int) : Option (Int × List Bool) := Option.bind (m_laws_markBoolS_l1i x0 FUEL (x0, x1, 0)) (fun (p101 : Int × List Bool) => some (p101.1, p101.2))
theorem q_m_laws_markBoolS : @m_laws_markBoolS = @m_laws_markBoolSi := by
  funext x0 x1
  unfold m_laws_markBoolSi
  rw [← q_m_laws_markBoolS_l1]
  rfl
def k_laws_markBoolS : Ctr := ⟨86, [.o (.sl .mu 4 .b), .o (.int .i64)], [.o (.int .i64)], true, fun x => m_laws_markBoolS x.1 x.2⟩
theorem d_laws_markBoolS : Cok Tryz.prog k_laws_markBoolS := cok (cs := []) (rv := [.tmp 4]) (crt := .q .z (.q (.q .z (.cut ⟨[(1, .o (.i .i64)), (4, .o .k)], [], [(0, .r 4 .b)]⟩ [] (.b (.lp ⟨[(0, .o (.w 4 .b)), (1, .o (.i .i64)), (4, .o .k), (5, .o (.i .i64))], [], []⟩ (.q (.q .z (.q .z .z)) (.q (.b (.q .z .z)) .z)))))) (.q .z .z))) tys_ok eqt_ok rfl trivial co86 Tryz.func86 rfl Tryz.ntmps86 rfl rfl (fun x => by
  show m_laws_markBoolS x.1 x.2 = _
  rw [q_m_laws_markBoolS]
  kernel_rfl)
def m_laws_markPermitS_l1s (x0 : List (Int × Int)) (rec : (List (Int × Int) × Int × Int) → Option ((Int × List (Int × Int)))) (p105 : (List (Int × Int) × Int × Int)) : Option ((Int × List (Int × Int))) := (bif ltB p105.2.2 (x0.length : Int) then chk (ixB p105.2.2 x0.length) (chk (ixB p105.2.2 x0.length) (rec (p105.1.set p105.2.2.toNat (p105.2.1, w64 (p105.2.1 + 1)), w64 ((w64 (p105.2.1 + 1)) + 1), w64 (p105.2.2 + 1)))) else some (p105.2.1, p105.1))
def m_laws_markPermitS_l1i (x0 : List (Int × Int)) : Nat → (List (Int × Int) × Int × Int) → Option ((Int × List (Int × Int))) := itr (m_laws_markPermitS_l1s x0)
theorem q_m_laws_markPermitS_l1 : @m_laws_markPermitS_l1 = @m_laws_markPermitS_l1i := by
  funext x0 n
  induction n with
  | zero => rfl
  | succ n ih =>
    funext p
    show _ = m_laws_markPermitS_l1s x0 (m_laws_markPermitS_l1i x0 n) p
    rw [← ih]
    rfl
def m_laws_markPermitSi (x0 : List (Int × Int)) (x1 : Int) : Option (Int × List (Int × Int)) := Option.bind (m_laws_markPermitS_l1i x0 FUEL (x0, x1, 0)) (fun (p101 : Int × List (Int × Int)) => some (p101.1, p101.2))
theorem q_m_laws_markPermitS : @m_laws_markPermitS = @m_laws_markPermitSi := by
  funext x0 x1
  unfold m_laws_markPermitSi
  rw [← q_m_laws_markPermitS_l1]
  rfl
def k_laws_markPermitS : Ctr := ⟨87, [.o (.sl .mu 78 (.p (.int .i64) (.int .i64))), .o (.int .i64)], [.o (.int .i64)], true, fun x => m_laws_markPermitS x.1 x.2⟩
theorem d_laws_markPermitS : Cok Tryz.prog k_laws_markPermitS := cok (cs := []) (rv := [.tmp 4]) (crt := .q .z (.q (.q .z (.cut ⟨[(1, .o (.i .i64)), (4, .o .k)], [], [(0, .r 78 (.p (.int .i64) (.int .i64)))]⟩ [] (.b (.lp ⟨[(0, .o (.w 78 (.p (.int .i64) (.int .i64)))), (1, .o (.i .i64)), (4, .o .k), (5, .o (.i .i64))], [], []⟩ (.q (.q .z (.q .z .z)) (.q (.b (.q .z (.q .z (.q .z .z)))) .z)))))) (.q .z .z))) tys_ok eqt_ok rfl trivial co87 Tryz.func87 rfl Tryz.ntmps87 rfl rfl (fun x => by
  show m_laws_markPermitS x.1 x.2 = _
  rw [q_m_laws_markPermitS]
  kernel_rfl)
def k_laws_markWork : Ctr := ⟨49, [.g [.sl .mu 4 .b, .sl .mu 4 .b, .sl .mu 78 (.p (.int .i64) (.int .i64))], .o (.int .i64)], [.o (.int .i64)], true, fun x => m_laws_markWork x.1 x.2.1 x.2.2.1 x.2.2.2⟩
theorem d_laws_markWork : Cok Tryz.prog k_laws_markWork := cok (cs := [k_laws_markBoolS, k_laws_markPermitS]) (rv := [.tmp 4]) (crt := .q .z (.q .z (.q .z (.q .z (.q .z .z))))) tys_ok eqt_ok rfl ⟨d_laws_markBoolS, d_laws_markPermitS, trivial⟩ co49 Tryz.func49 rfl Tryz.ntmps49 rfl rfl (fun _ => by kernel_rfl)
def m_laws_markIntS_l1s (x0 : List Int) (rec : (List Int × Int × Int) → Option ((Int × List Int))) (p105 : (List Int × Int × Int)) : Option ((Int × List Int)) := (bif ltB p105.2.2 (x0.length : Int) then chk (ixB p105.2.2 x0.length) (rec (p105.1.set p105.2.2.toNat p105.2.1, w64 (p105.2.1 + 1), w64 (p105.2.2 + 1))) else some (p105.2.1, p105.1))
def m_laws_markIntS_l1i (x0 : List Int) : Nat → (List Int × Int × Int) → Option ((Int × List Int)) := itr (m_laws_markIntS_l1s x0)
theorem q_m_laws_markIntS_l1 : @m_laws_markIntS_l1 = @m_laws_markIntS_l1i := by
  funext x0 n
  induction n with
  | zero => rfl
  | succ n ih =>
    funext p
    show _ = m_laws_markIntS_l1s x0 (m_laws_markIntS_l1i x0 n) p
    rw [← ih]
    rfl
def m_laws_markIntSi (x0 : List Int) (x1 : Int) : Option (Int × List Int) := Option.bind (m_laws_markIntS_l1i x0 FUEL (x0, x1, 0)) (fun (p101 : Int × List Int) => some (p101.1, p101.2))
theorem q_m_laws_markIntS : @m_laws_markIntS = @m_laws_markIntSi := by
  funext x0 x1
  unfold m_laws_markIntSi
  rw [← q_m_laws_markIntS_l1]
  rfl
def k_laws_markIntS : Ctr := ⟨50, [.o (.sl .mu 3 (.int .i64)), .o (.int .i64)], [.o (.int .i64)], true, fun x => m_laws_markIntS x.1 x.2⟩
theorem d_laws_markIntS : Cok Tryz.prog k_laws_markIntS := cok (cs := []) (rv := [.tmp 4]) (crt := .q .z (.q (.q .z (.cut ⟨[(1, .o (.i .i64)), (4, .o .k)], [], [(0, .r 3 (.int .i64))]⟩ [] (.b (.lp ⟨[(0, .o (.w 3 (.int .i64))), (1, .o (.i .i64)), (4, .o .k), (5, .o (.i .i64))], [], []⟩ (.q (.q .z (.q .z .z)) (.q (.b (.q .z .z)) .z)))))) (.q .z .z))) tys_ok eqt_ok rfl trivial co50 Tryz.func50 rfl Tryz.ntmps50 rfl rfl (fun x => by
  show m_laws_markIntS x.1 x.2 = _
  rw [q_m_laws_markIntS]
  kernel_rfl)
def k_laws_markWorld : Ctr := ⟨15, [.g [.int .i64, .sl .mu 130 (.p (.int .i64) (.p (.int .i64) (.int .i64))), .sl .mu 110 (.p (.int .i64) (.int .i64)), .sl .mu 4 .b, .sl .mu 4 .b, .sl .mu 78 (.p (.int .i64) (.int .i64)), .sl .mu 3 (.int .i64)], .o (.int .i64)], [.o (.int .i64)], true, fun x => m_laws_markWorld x.1 x.2.1 x.2.2.1 x.2.2.2.1 x.2.2.2.2.1 x.2.2.2.2.2.1 x.2.2.2.2.2.2.1 x.2.2.2.2.2.2.2⟩
theorem d_laws_markWorld : Cok Tryz.prog k_laws_markWorld := cok (cs := [k_laws_markNet, k_laws_markBusS, k_laws_markWork, k_laws_markIntS]) (rv := [.tmp 4]) (crt := .q .z (.q .z (.q .z (.q .z (.q .z (.q .z .z)))))) tys_ok eqt_ok rfl ⟨d_laws_markNet, d_laws_markBusS, d_laws_markWork, d_laws_markIntS, trivial⟩ co15 Tryz.func15 rfl Tryz.ntmps15 rfl rfl (fun _ => by kernel_rfl)
def m_laws_markWorkDeedS_l1s (x0 : List (Int × Int × Int)) (rec : (List (Int × Int × Int) × Int × Int) → Option ((Int × List (Int × Int × Int)))) (p105 : (List (Int × Int × Int) × Int × Int)) : Option ((Int × List (Int × Int × Int))) := (bif ltB p105.2.2 (x0.length : Int) then chk (ixB p105.2.2 x0.length) (chk (ixB p105.2.2 x0.length) (chk (ixB p105.2.2 x0.length) (rec (p105.1.set p105.2.2.toNat (p105.2.1, w64 (p105.2.1 + 1), w64 ((w64 (p105.2.1 + 1)) + 1)), w64 ((w64 ((w64 (p105.2.1 + 1)) + 1)) + 1), w64 (p105.2.2 + 1))))) else some (p105.2.1, p105.1))
def m_laws_markWorkDeedS_l1i (x0 : List (Int × Int × Int)) : Nat → (List (Int × Int × Int) × Int × Int) → Option ((Int × List (Int × Int × Int))) := itr (m_laws_markWorkDeedS_l1s x0)
theorem q_m_laws_markWorkDeedS_l1 : @m_laws_markWorkDeedS_l1 = @m_laws_markWorkDeedS_l1i := by
  funext x0 n
  induction n with
  | zero => rfl
  | succ n ih =>
    funext p
    show _ = m_laws_markWorkDeedS_l1s x0 (m_laws_markWorkDeedS_l1i x0 n) p
    rw [← ih]
    rfl
def m_laws_markWorkDeedSi (x0 : List (Int × Int × Int)) (x1 : Int) : Option (Int × List (Int × Int × Int)) := Option.bind (m_laws_markWorkDeedS_l1i x0 FUEL (x0, x1, 0)) (fun (p101 : Int × List (Int × Int × Int)) => some (p101.1, p101.2))
theorem q_m_laws_markWorkDeedS : @m_laws_markWorkDeedS = @m_laws_markWorkDeedSi := by
  funext x0 x1
  unfold m_laws_markWorkDeedSi
  rw [← q_m_laws_markWorkDeedS_l1]
  rfl
def k_laws_markWorkDeedS : Ctr := ⟨16, [.o (.sl .mu 56 (.p (.int .i64) (.p (.int .i64) (.int .i64)))), .o (.int .i64)], [.o (.int .i64)], true, fun x => m_laws_markWorkDeedS x.1 x.2⟩
theorem d_laws_markWorkDeedS : Cok Tryz.prog k_laws_markWorkDeedS := cok (cs := []) (rv := [.tmp 4]) (crt := .q .z (.q (.q .z (.cut ⟨[(1, .o (.i .i64)), (4, .o .k)], [], [(0, .r 56 (.p (.int .i64) (.p (.int .i64) (.int .i64))))]⟩ [] (.b (.lp ⟨[(0, .o (.w 56 (.p (.int .i64) (.p (.int .i64) (.int .i64))))), (1, .o (.i .i64)), (4, .o .k), (5, .o (.i .i64))], [], []⟩ (.q (.q .z (.q .z .z)) (.q (.b (.q .z (.q .z (.q .z (.q .z (.q .z .z)))))) .z)))))) (.q .z .z))) tys_ok eqt_ok rfl trivial co16 Tryz.func16 rfl Tryz.ntmps16 rfl rfl (fun x => by
  show m_laws_markWorkDeedS x.1 x.2 = _
  rw [q_m_laws_markWorkDeedS]
  kernel_rfl)
def m_laws_heldLineS_l1s (x0 : List (Int × Int × Int)) (rec : (Int × Int) → Option (Int ⊕ Int)) (p104 : (Int × Int)) : Option (Int ⊕ Int) := (bif ltB p104.2 (x0.length : Int) then chk (ixB p104.2 x0.length) ((bif ((x0.getD p104.2.toNat ((0, 0, 0) : Int × Int × Int)).1) != p104.1 then some (Sum.inr (-1)) else chk (ixB p104.2 x0.length) ((bif ((x0.getD p104.2.toNat ((0, 0, 0) : Int × Int × Int)).2.1) != (w64 (p104.1 + 1)) then some (Sum.inr (-1)) else chk (ixB p104.2 x0.length) ((bif ((x0.getD p104.2.toNat ((0, 0, 0) : Int × Int × Int)).2.2) != (w64 ((w64 (p104.1 + 1)) + 1)) then some (Sum.inr (-1)) else rec (w64 ((w64 ((w64 (p104.1 + 1)) + 1)) + 1), w64 (p104.2 + 1)))))))) else some (Sum.inl p104.1))
def m_laws_heldLineS_l1i (x0 : List (Int × Int × Int)) : Nat → (Int × Int) → Option (Int ⊕ Int) := itr (m_laws_heldLineS_l1s x0)
theorem q_m_laws_heldLineS_l1 : @m_laws_heldLineS_l1 = @m_laws_heldLineS_l1i := by
  funext x0 n
  induction n with
  | zero => rfl
  | succ n ih =>
    funext p
    show _ = m_laws_heldLineS_l1s x0 (m_laws_heldLineS_l1i x0 n) p
    rw [← ih]
    rfl
def m_laws_heldLineSi (x0 : List (Int × Int × Int)) (x1 : Int) : Option (Int) := Option.bind (m_laws_heldLineS_l1i x0 FUEL (x1, 0) : Option (Int ⊕ Int)) (Sum.elim (fun (p101 : Int) => some p101) (fun (r : Int) => some r))
theorem q_m_laws_heldLineS : @m_laws_heldLineS = @m_laws_heldLineSi := by
  funext x0 x1
  unfold m_laws_heldLineSi
  rw [← q_m_laws_heldLineS_l1]
  rfl
def k_laws_heldLineS : Ctr := ⟨103, [.o (.sl .ro 130 (.p (.int .i64) (.p (.int .i64) (.int .i64)))), .o (.int .i64)], [.o (.int .i64)], false, fun x => m_laws_heldLineS x.1 x.2⟩
theorem d_laws_heldLineS : Cok Tryz.prog k_laws_heldLineS := cok (cs := []) (rv := [.tmp 4]) (crt := .q .z (.q (.q .z (.cut ⟨[(1, .o (.i .i64)), (4, .o .k)], [], []⟩ [.rt] (.b (.lp ⟨[(0, .o .k), (1, .o (.i .i64)), (4, .o .k), (5, .o (.i .i64))], [], []⟩ (.q (.q .z (.q .z .z)) (.q (.b (.q (.q .z (.q (.q .z .z) .z)) (.q .z (.q (.q .z (.q (.q .z .z) .z)) (.q .z (.q (.q .z (.q (.q .z .z) .z)) .z)))))) .z)))))) (.q .z .z))) tys_ok eqt_ok rfl trivial co103 Tryz.func103 rfl Tryz.ntmps103 rfl rfl (fun x => by
  show m_laws_heldLineS x.1 x.2 = _
  rw [q_m_laws_heldLineS]
  kernel_rfl)
def k_laws_heldNet : Ctr := ⟨61, [.g [.int .i64, .sl .ro 130 (.p (.int .i64) (.p (.int .i64) (.int .i64)))], .o (.int .i64)], [.o (.int .i64)], false, fun x => m_laws_heldNet x.1 x.2.1 x.2.2⟩
theorem d_laws_heldNet : Cok Tryz.prog k_laws_heldNet := cok (cs := [k_laws_heldLineS]) (rv := [.tmp 4]) (crt := .q .z (.q .z (.q (.q .z (.q (.q .z .z) .z)) (.q .z .z)))) tys_ok eqt_ok rfl ⟨d_laws_heldLineS, trivial⟩ co61 Tryz.func61 rfl Tryz.ntmps61 rfl rfl (fun _ => by kernel_rfl)
def m_laws_heldBusS_l1s (x0 : List (Int × Int)) (rec : (Int × Int) → Option (Int ⊕ Int)) (p104 : (Int × Int)) : Option (Int ⊕ Int) := (bif ltB p104.2 (x0.length : Int) then chk (ixB p104.2 x0.length) ((bif ((x0.getD p104.2.toNat ((0, 0) : Int × Int)).1) != p104.1 then some (Sum.inr (-1)) else chk (ixB p104.2 x0.length) ((bif ((x0.getD p104.2.toNat ((0, 0) : Int × Int)).2) != (w64 (p104.1 + 1)) then some (Sum.inr (-1)) else rec (w64 ((w64 (p104.1 + 1)) + 1), w64 (p104.2 + 1)))))) else some (Sum.inl p104.1))
def m_laws_heldBusS_l1i (x0 : List (Int × Int)) : Nat → (Int × Int) → Option (Int ⊕ Int) := itr (m_laws_heldBusS_l1s x0)
theorem q_m_laws_heldBusS_l1 : @m_laws_heldBusS_l1 = @m_laws_heldBusS_l1i := by
  funext x0 n
  induction n with
  | zero => rfl
  | succ n ih =>
    funext p
    show _ = m_laws_heldBusS_l1s x0 (m_laws_heldBusS_l1i x0 n) p
    rw [← ih]
    rfl
def m_laws_heldBusSi (x0 : List (Int × Int)) (x1 : Int) : Option (Int) := Option.bind (m_laws_heldBusS_l1i x0 FUEL (x1, 0) : Option (Int ⊕ Int)) (Sum.elim (fun (p101 : Int) => some p101) (fun (r : Int) => some r))
theorem q_m_laws_heldBusS : @m_laws_heldBusS = @m_laws_heldBusSi := by
  funext x0 x1
  unfold m_laws_heldBusSi
  rw [← q_m_laws_heldBusS_l1]
  rfl
def k_laws_heldBusS : Ctr := ⟨62, [.o (.sl .ro 110 (.p (.int .i64) (.int .i64))), .o (.int .i64)], [.o (.int .i64)], false, fun x => m_laws_heldBusS x.1 x.2⟩
theorem d_laws_heldBusS : Cok Tryz.prog k_laws_heldBusS := cok (cs := []) (rv := [.tmp 4]) (crt := .q .z (.q (.q .z (.cut ⟨[(1, .o (.i .i64)), (4, .o .k)], [], []⟩ [.rt] (.b (.lp ⟨[(0, .o .k), (1, .o (.i .i64)), (4, .o .k), (5, .o (.i .i64))], [], []⟩ (.q (.q .z (.q .z .z)) (.q (.b (.q (.q .z (.q (.q .z .z) .z)) (.q .z (.q (.q .z (.q (.q .z .z) .z)) .z)))) .z)))))) (.q .z .z))) tys_ok eqt_ok rfl trivial co62 Tryz.func62 rfl Tryz.ntmps62 rfl rfl (fun x => by
  show m_laws_heldBusS x.1 x.2 = _
  rw [q_m_laws_heldBusS]
  kernel_rfl)
def m_laws_heldBoolS_l1s (x0 : List Bool) (rec : (Int × Int) → Option (Int ⊕ Int)) (p104 : (Int × Int)) : Option (Int ⊕ Int) := (bif ltB p104.2 (x0.length : Int) then chk (ixB p104.2 x0.length) ((bif (x0.getD p104.2.toNat false) != ((Int.tmod p104.1 3) == 0) then some (Sum.inr (-1)) else rec (w64 (p104.1 + 1), w64 (p104.2 + 1)))) else some (Sum.inl p104.1))
def m_laws_heldBoolS_l1i (x0 : List Bool) : Nat → (Int × Int) → Option (Int ⊕ Int) := itr (m_laws_heldBoolS_l1s x0)
theorem q_m_laws_heldBoolS_l1 : @m_laws_heldBoolS_l1 = @m_laws_heldBoolS_l1i := by
  funext x0 n
  induction n with
  | zero => rfl
  | succ n ih =>
    funext p
    show _ = m_laws_heldBoolS_l1s x0 (m_laws_heldBoolS_l1i x0 n) p
    rw [← ih]
    rfl
def m_laws_heldBoolSi (x0 : List Bool) (x1 : Int) : Option (Int) := Option.bind (m_laws_heldBoolS_l1i x0 FUEL (x1, 0) : Option (Int ⊕ Int)) (Sum.elim (fun (p101 : Int) => some p101) (fun (r : Int) => some r))
theorem q_m_laws_heldBoolS : @m_laws_heldBoolS = @m_laws_heldBoolSi := by
  funext x0 x1
  unfold m_laws_heldBoolSi
  rw [← q_m_laws_heldBoolS_l1]
  rfl
def k_laws_heldBoolS : Ctr := ⟨104, [.o (.sl .ro 4 .b), .o (.int .i64)], [.o (.int .i64)], false, fun x => m_laws_heldBoolS x.1 x.2⟩
theorem d_laws_heldBoolS : Cok Tryz.prog k_laws_heldBoolS := cok (cs := []) (rv := [.tmp 4]) (crt := .q .z (.q (.q .z (.cut ⟨[(1, .o (.i .i64)), (4, .o .k)], [], []⟩ [.rt] (.b (.lp ⟨[(0, .o .k), (1, .o (.i .i64)), (4, .o .k), (5, .o (.i .i64))], [], []⟩ (.q (.q .z (.q .z .z)) (.q (.b (.q (.q .z (.q (.q .z .z) .z)) .z)) .z)))))) (.q .z .z))) tys_ok eqt_ok rfl trivial co104 Tryz.func104 rfl Tryz.ntmps104 rfl rfl (fun x => by
  show m_laws_heldBoolS x.1 x.2 = _
  rw [q_m_laws_heldBoolS]
  kernel_rfl)
def m_laws_heldPermitS_l1s (x0 : List (Int × Int)) (rec : (Int × Int) → Option (Int ⊕ Int)) (p104 : (Int × Int)) : Option (Int ⊕ Int) := (bif ltB p104.2 (x0.length : Int) then chk (ixB p104.2 x0.length) ((bif ((x0.getD p104.2.toNat ((0, 0) : Int × Int)).1) != p104.1 then some (Sum.inr (-1)) else chk (ixB p104.2 x0.length) ((bif ((x0.getD p104.2.toNat ((0, 0) : Int × Int)).2) != (w64 (p104.1 + 1)) then some (Sum.inr (-1)) else rec (w64 ((w64 (p104.1 + 1)) + 1), w64 (p104.2 + 1)))))) else some (Sum.inl p104.1))
def m_laws_heldPermitS_l1i (x0 : List (Int × Int)) : Nat → (Int × Int) → Option (Int ⊕ Int) := itr (m_laws_heldPermitS_l1s x0)
theorem q_m_laws_heldPermitS_l1 : @m_laws_heldPermitS_l1 = @m_laws_heldPermitS_l1i := by
  funext x0 n
  induction n with
  | zero => rfl
  | succ n ih =>
    funext p
    show _ = m_laws_heldPermitS_l1s x0 (m_laws_heldPermitS_l1i x0 n) p
    rw [← ih]
    rfl
def m_laws_heldPermitSi (x0 : List (Int × Int)) (x1 : Int) : Option (Int) := Option.bind (m_laws_heldPermitS_l1i x0 FUEL (x1, 0) : Option (Int ⊕ Int)) (Sum.elim (fun (p101 : Int) => some p101) (fun (r : Int) => some r))
theorem q_m_laws_heldPermitS : @m_laws_heldPermitS = @m_laws_heldPermitSi := by
  funext x0 x1
  unfold m_laws_heldPermitSi
  rw [← q_m_laws_heldPermitS_l1]
  rfl
def k_laws_heldPermitS : Ctr := ⟨105, [.o (.sl .ro 78 (.p (.int .i64) (.int .i64))), .o (.int .i64)], [.o (.int .i64)], false, fun x => m_laws_heldPermitS x.1 x.2⟩
theorem d_laws_heldPermitS : Cok Tryz.prog k_laws_heldPermitS := cok (cs := []) (rv := [.tmp 4]) (crt := .q .z (.q (.q .z (.cut ⟨[(1, .o (.i .i64)), (4, .o .k)], [], []⟩ [.rt] (.b (.lp ⟨[(0, .o .k), (1, .o (.i .i64)), (4, .o .k), (5, .o (.i .i64))], [], []⟩ (.q (.q .z (.q .z .z)) (.q (.b (.q (.q .z (.q (.q .z .z) .z)) (.q .z (.q (.q .z (.q (.q .z .z) .z)) .z)))) .z)))))) (.q .z .z))) tys_ok eqt_ok rfl trivial co105 Tryz.func105 rfl Tryz.ntmps105 rfl rfl (fun x => by
  show m_laws_heldPermitS x.1 x.2 = _
  rw [q_m_laws_heldPermitS]
  kernel_rfl)
def k_laws_heldWork : Ctr := ⟨63, [.g [.sl .ro 4 .b, .sl .ro 4 .b, .sl .ro 78 (.p (.int .i64) (.int .i64))], .o (.int .i64)], [.o (.int .i64)], false, fun x => m_laws_heldWork x.1 x.2.1 x.2.2.1 x.2.2.2⟩
theorem d_laws_heldWork : Cok Tryz.prog k_laws_heldWork := cok (cs := [k_laws_heldBoolS, k_laws_heldPermitS]) (rv := [.tmp 4]) (crt := .q .z (.q .z (.q (.q .z (.q (.q .z .z) .z)) (.q .z (.q (.q .z (.q (.q .z .z) .z)) (.q .z (.q (.q .z (.q (.q .z .z) .z)) (.q .z .z)))))))) tys_ok eqt_ok rfl ⟨d_laws_heldBoolS, d_laws_heldPermitS, trivial⟩ co63 Tryz.func63 rfl Tryz.ntmps63 rfl rfl (fun _ => by kernel_rfl)
def m_laws_heldIntS_l1s (x0 : List Int) (rec : (Int × Int) → Option (Int ⊕ Int)) (p104 : (Int × Int)) : Option (Int ⊕ Int) := (bif ltB p104.2 (x0.length : Int) then chk (ixB p104.2 x0.length) ((bif (x0.getD p104.2.toNat (0 : Int)) != p104.1 then some (Sum.inr (-1)) else rec (w64 (p104.1 + 1), w64 (p104.2 + 1)))) else some (Sum.inl p104.1))
def m_laws_heldIntS_l1i (x0 : List Int) : Nat → (Int × Int) → Option (Int ⊕ Int) := itr (m_laws_heldIntS_l1s x0)
theorem q_m_laws_heldIntS_l1 : @m_laws_heldIntS_l1 = @m_laws_heldIntS_l1i := by
  funext x0 n
  induction n with
  | zero => rfl
  | succ n ih =>
    funext p
    show _ = m_laws_heldIntS_l1s x0 (m_laws_heldIntS_l1i x0 n) p
    rw [← ih]
    rfl
def m_laws_heldIntSi (x0 : List Int) (x1 : Int) : Option (Int) := Option.bind (m_laws_heldIntS_l1i x0 FUEL (x1, 0) : Option (Int ⊕ Int)) (Sum.elim (fun (p101 : Int) => some p101) (fun (r : Int) => some r))
theorem q_m_laws_heldIntS : @m_laws_heldIntS = @m_laws_heldIntSi := by
  funext x0 x1
  unfold m_laws_heldIntSi
  rw [← q_m_laws_heldIntS_l1]
  rfl
def k_laws_heldIntS : Ctr := ⟨64, [.o (.sl .ro 3 (.int .i64)), .o (.int .i64)], [.o (.int .i64)], false, fun x => m_laws_heldIntS x.1 x.2⟩
theorem d_laws_heldIntS : Cok Tryz.prog k_laws_heldIntS := cok (cs := []) (rv := [.tmp 4]) (crt := .q .z (.q (.q .z (.cut ⟨[(1, .o (.i .i64)), (4, .o .k)], [], []⟩ [.rt] (.b (.lp ⟨[(0, .o .k), (1, .o (.i .i64)), (4, .o .k), (5, .o (.i .i64))], [], []⟩ (.q (.q .z (.q .z .z)) (.q (.b (.q (.q .z (.q (.q .z .z) .z)) .z)) .z)))))) (.q .z .z))) tys_ok eqt_ok rfl trivial co64 Tryz.func64 rfl Tryz.ntmps64 rfl rfl (fun x => by
  show m_laws_heldIntS x.1 x.2 = _
  rw [q_m_laws_heldIntS]
  kernel_rfl)
def k_laws_heldWorld : Ctr := ⟨21, [.g [.int .i64, .sl .ro 130 (.p (.int .i64) (.p (.int .i64) (.int .i64))), .sl .ro 110 (.p (.int .i64) (.int .i64)), .sl .ro 4 .b, .sl .ro 4 .b, .sl .ro 78 (.p (.int .i64) (.int .i64)), .sl .ro 3 (.int .i64)], .o (.int .i64)], [.o (.int .i64)], false, fun x => m_laws_heldWorld x.1 x.2.1 x.2.2.1 x.2.2.2.1 x.2.2.2.2.1 x.2.2.2.2.2.1 x.2.2.2.2.2.2.1 x.2.2.2.2.2.2.2⟩
theorem d_laws_heldWorld : Cok Tryz.prog k_laws_heldWorld := cok (cs := [k_laws_heldNet, k_laws_heldBusS, k_laws_heldWork, k_laws_heldIntS]) (rv := [.tmp 4]) (crt := .q .z (.q .z (.q (.q .z (.q (.q .z .z) .z)) (.q .z (.q (.q .z (.q (.q .z .z) .z)) (.q .z (.q (.q .z (.q (.q .z .z) .z)) (.q .z (.q (.q .z (.q (.q .z .z) .z)) (.q .z .z)))))))))) tys_ok eqt_ok rfl ⟨d_laws_heldNet, d_laws_heldBusS, d_laws_heldWork, d_laws_heldIntS, trivial⟩ co21 Tryz.func21 rfl Tryz.ntmps21 rfl rfl (fun _ => by kernel_rfl)
def k_laws_FnExactWorldRun : Ctr := ⟨6, [.g [.int .i64, .sl .ro 141 (.p (.int .i64) (.p (.int .i64) (.int .i64))), .sl .ro 112 (.p (.int .i64) (.int .i64)), .sl .ro 4 .b, .sl .ro 4 .b, .sl .ro 143 (.p (.int .i64) (.int .i64)), .sl .ro 3 (.int .i64)], .o (.sl .ro 53 (.p (.int .i64) (.p (.int .i64) (.int .i64))))], [.o .b], false, fun x => m_laws_FnExactWorldRun x.1 x.2.1 x.2.2.1 x.2.2.2.1 x.2.2.2.2.1 x.2.2.2.2.2.1 x.2.2.2.2.2.2.1 x.2.2.2.2.2.2.2⟩
theorem d_laws_FnExactWorldRun : Cok Tryz.prog k_laws_FnExactWorldRun := cok (cs := [k_laws_szWorld, k_laws_szWorkDeedS, k_laws_toWorld, k_laws_toWorkDeedS, k_spec_WorldRun, k_impl_WorldRun, k_laws_eqWorld, k_laws_eqWorkDeedS, k_laws_markWorld, k_laws_markWorkDeedS, k_laws_heldWorld]) (rv := [.tmp 4]) (crt := .q .z (.q .z (.q .z (.q (.q .z (.q (.q .z .z) .z)) (.q .z (.q (.q .z (.q (.q .z .z) .z)) (.q .z (.q .z (.q .z (.q .z (.q (.q .z (.q (.q .z .z) .z)) (.q (.q .z (.q (.q .z .z) .z)) (.q (.q .z (.q (.q .z .z) .z)) (.q .z (.q .z (.q .z (.q (.q .z (.q (.q .z .z) .z)) (.q .z (.q .z (.q .z (.q .z (.q (.q .z (.q (.q .z .z) .z)) (.q (.q .z (.q (.q .z .z) .z)) (.q .z (.q (.q .z (.q (.q .z .z) .z)) (.q .z (.q .z (.q (.q .z (.q (.q .z .z) .z)) (.q (.q .z (.q (.q .z .z) .z)) (.q .z .z)))))))))))))))))))))))))))))) tys_ok eqt_ok rfl ⟨d_laws_szWorld, d_laws_szWorkDeedS, d_laws_toWorld, d_laws_toWorkDeedS, d_spec_WorldRun, d_impl_WorldRun, d_laws_eqWorld, d_laws_eqWorkDeedS, d_laws_markWorld, d_laws_markWorkDeedS, d_laws_heldWorld, trivial⟩ ⟨by kernel_rfl⟩ Tryz.func6 rfl Tryz.ntmps6 rfl rfl (fun _ => by kernel_rfl)
theorem c_laws_FnExactWorldRun {x0 : Int} {x1 : List (Int × Int × Int)} {x2 : List (Int × Int)} {x3 : List Bool} {x4 : List Bool} {x5 : List (Int × Int)} {x6 : List Int} {x7 : List (Int × Int × Int)} {A1 : Option Addr} {n1 c1 : Nat} {A2 : Option Addr} {n2 c2 : Nat} {A3 : Option Addr} {n3 c3 : Nat} {A4 : Option Addr} {n4 c4 : Nat} {A5 : Option Addr} {n5 c5 : Nat} {A6 : Option Addr} {n6 c6 : Nat} {A7 : Option Addr} {n7 c7 : Nat} {w : World} {r : Bool} (h1 : Rt w 3 eLLine A1 n1 c1 x1) (h2 : Rt w 2 eLBus A2 n2 c2 x2) (h3 : Rt w 1 eB A3 n3 c3 x3) (h4 : Rt w 1 eB A4 n4 c4 x4) (h5 : Rt w 2 eLPermit A5 n5 c5 x5) (h6 : Rt w 1 eI A6 n6 c6 x6) (h7 : Rt w 3 eLWorkDeed A7 n7 c7 x7) (hM : m_laws_FnExactWorldRun x0 x1 x2 x3 x4 x5 x6 x7 = some r) :
    Calls Tryz.prog 6 #[.agg #[.int .i64 x0, .slice A1 n1 c1, .slice A2 n2 c2, .slice A3 n3 c3, .slice A4 n4 c4, .slice A5 n5 c5, .slice A6 n6 c6], .slice A7 n7 c7] w (fun e w' => e = .returned (.bool r) ∧ St w w' []) := by
  obtain rfl := h1.len
  obtain rfl := h2.len
  obtain rfl := h3.len
  obtain rfl := h4.len
  obtain rfl := h5.len
  obtain rfl := h6.len
  obtain rfl := h7.len
  exact law_c d_laws_FnExactWorldRun (x := (x0, x1, x2, x3, x4, x5, x6, x7)) hM (e := parE [(none, 0), (A1, c1), (A2, c2), (A3, c3), (A4, c4), (A5, c5), (A6, c6), (A7, c7)]) ⟨_, _, rfl, ⟨_, _, rfl⟩, ⟨_, _, rfl, ⟨_, rfl, fun _ _ S _ => S.rc0 h1.rc⟩, ⟨_, _, rfl, ⟨_, rfl, fun _ _ S _ => S.rc0 h2.rc⟩, ⟨_, _, rfl, ⟨_, rfl, fun _ _ S _ => S.rc0 h3.rc⟩, ⟨_, _, rfl, ⟨_, rfl, fun _ _ S _ => S.rc0 h4.rc⟩, ⟨_, _, rfl, ⟨_, rfl, fun _ _ S _ => S.rc0 h5.rc⟩, ⟨_, _, rfl, ⟨_, rfl, fun _ _ S _ => S.rc0 h6.rc⟩, ⟨_, _, rfl, ⟨_, rfl, fun _ _ S _ => S.rc0 h7.rc⟩, rfl⟩⟩⟩⟩⟩⟩⟩⟩ rfl rfl rfl
end
end Go.Proofs.YtcmnjaccapbhfaaGreat
namespace Go.Proofs.YtcmnjaccapbhfaaGreat
set_option linter.unusedVariables false
set_option linter.unusedSimpArgs false
theorem getD_ge {α : Type} {l : List α} {k : Nat} {d : α} (h : k < l.length) : l.getD k d = l[k] := by simp [List.getD, h]
theorem ltB0 {n : Int} (h : 0 ≤ n) : ltB n 0 = false := by simp [ltB]; omega
theorem w64_succ {k : Nat} (h : k < 4611686018427387904) : w64 ((k : Int) + 1) = ((k + 1 : Nat) : Int) := by rw [w64_in (by omega) (by omega)]; rfl
theorem w64_id {n : Int} (h : -9223372036854775808 ≤ n ∧ n ≤ 9223372036854775807) : w64 n = n := w64_in h.1 h.2
theorem fuel_gt {n : Nat} (h : n ≤ 1099511627776) : n < FUEL := by rw [FUEL_eq]; omega
theorem lt_dec {k n : Nat} (h : k < n) : ltB (k : Int) (n : Int) = true := by simp [ltB, h]
theorem ix_dec {k n : Nat} (h : k < n) : ixB (k : Int) n = true := by simp [ixB, h]
theorem nlt_dec {n : Nat} : ltB (n : Int) (n : Int) = false := by simp [ltB]
theorem inB_le (n lo hi : Int) : inB n lo hi = (leB lo n && leB n hi) := rfl
theorem take_fold {α β : Type} (f : β → α → β) (l : List α) (a : β) (d : α) {k : Nat} (h : k < l.length) : (l.take (k + 1)).foldl f a = f ((l.take k).foldl f a) (l.getD k d) := by
  rw [List.take_succ_eq_append_getElem h, List.foldl_append, getD_ge h]; rfl
theorem loop_up {σ Out : Type} (L : Nat → σ → Option Out) (st : Nat → σ) (n : Nat) (out : Option Out) (hstep : ∀ k fuel, k < n → L (fuel + 1) (st k) = L fuel (st (k + 1))) (hend : ∀ fuel, L (fuel + 1) (st n) = out) : ∀ j k fuel, k + j = n → j < fuel → L fuel (st k) = out := by
  intro j
  induction j with
  | zero =>
    intro k fuel hk hf
    obtain ⟨f, rfl⟩ : ∃ f, fuel = f + 1 := ⟨fuel - 1, by omega⟩
    obtain rfl : k = n := by omega
    exact hend f
  | succ j ih =>
    intro k fuel hk hf
    obtain ⟨f, rfl⟩ : ∃ f, fuel = f + 1 := ⟨fuel - 1, by omega⟩
    rw [hstep k f (by omega)]
    exact ih (k + 1) f (by omega) (by omega)
theorem loop_all {σ Out : Type} (L : Nat → σ → Option Out) (st : Nat → σ) (n : Nat) (out : Option Out) (hn : n ≤ 1099511627776) (hstep : ∀ k fuel, k < n → L (fuel + 1) (st k) = L fuel (st (k + 1))) (hend : ∀ fuel, L (fuel + 1) (st n) = out) : L FUEL (st 0) = out :=
  loop_up L st n out hstep hend n 0 FUEL (by omega) (fuel_gt hn)
theorem loop_find {σ Out : Type} (L : Nat → σ → Option Out) (st : Nat → σ) (n : Nat) (P : Nat → Bool) (fv out : Option Out) (hn : n ≤ 1099511627776) (hstep : ∀ k fuel, k < n → L (fuel + 1) (st k) = bif P k then fv else L fuel (st (k + 1))) (hend : ∀ fuel, L (fuel + 1) (st n) = out) :
    L FUEL (st 0) = bif (List.range n).any P then fv else out := by
  have key : ∀ j k fuel, k + j = n → j < fuel → L fuel (st k) = bif (List.range' k j).any P then fv else out := by
    intro j
    induction j with
    | zero =>
      intro k fuel hk hf
      obtain ⟨f, rfl⟩ : ∃ f, fuel = f + 1 := ⟨fuel - 1, by omega⟩
      obtain rfl : k = n := by omega
      simpa using hend f
    | succ j ih =>
      intro k fuel hk hf
      obtain ⟨f, rfl⟩ : ∃ f, fuel = f + 1 := ⟨fuel - 1, by omega⟩
      rw [hstep k f (by omega), ih (k + 1) f (by omega) (by omega), List.range'_succ, List.any_cons]
      cases P k <;> simp
  rw [key n 0 FUEL (by omega) (fuel_gt hn), List.range_eq_range']
theorem any_list {α : Type} (l : List α) (d : α) (p : α → Bool) : (List.range l.length).any (fun k => p (l.getD k d)) = l.any p := by
  rw [Bool.eq_iff_iff, List.any_eq_true, List.any_eq_true]
  constructor
  · rintro ⟨k, hk, h⟩
    have hk : k < l.length := by simpa using hk
    exact ⟨l[k], List.getElem_mem hk, by simpa [List.getD, hk] using h⟩
  · rintro ⟨x, hx, h⟩
    obtain ⟨k, hk, rfl⟩ := List.mem_iff_getElem.1 hx
    exact ⟨k, by simpa using hk, by simpa [List.getD, hk] using h⟩
def marksG {β : Type} (mk : Int → β) (c : Int) (k : Int) (n : Nat) : List β := (List.range n).map fun (j : Nat) => mk (k + c * (j : Int))
theorem marksG_len {β : Type} (mk : Int → β) (c k : Int) (n : Nat) : (marksG mk c k n).length = n := by simp [marksG]
theorem marksG_get {β : Type} (mk : Int → β) (c k : Int) {n j : Nat} (d : β) (h : j < n) : (marksG mk c k n).getD j d = mk (k + c * j) := by simp [marksG, List.getD, h]
theorem marksG_set {β : Type} (mk : Int → β) (c k : Int) (x : List β) {j : Nat} (h : j < x.length) : (marksG mk c k j ++ x.drop j).set j (mk (k + c * j)) = marksG mk c k (j + 1) ++ x.drop (j + 1) := by
  rw [List.set_append_right _ _ (by rw [marksG_len]; exact Nat.le_refl _), marksG_len, Nat.sub_self, List.drop_eq_getElem_cons h, List.set_cons_zero]
  simp [marksG, List.range_succ]
theorem mark_loop {β : Type} (L : Nat → (List β × Int × Int) → Option (Int × List β)) (mk : Int → β) (c : Int) (hc : 0 ≤ c ∧ c ≤ 16) (x : List β) (k : Int) (hx : x.length ≤ 1048576) (hk : 0 ≤ k ∧ k ≤ 33554432)
    (hstep : ∀ fuel (l : List β) (q : Int) (j : Nat), j < x.length → l.length = x.length → 0 ≤ q → q ≤ 134217728 → L (fuel + 1) (l, q, (j : Int)) = L fuel (l.set j (mk q), q + c, ((j + 1 : Nat) : Int)))
    (hend : ∀ fuel (l : List β) (q : Int), l.length = x.length → L (fuel + 1) (l, q, (x.length : Int)) = some (q, l)) :
    L FUEL (x, k, 0) = some (k + c * x.length, marksG mk c k x.length) := by
  have h := loop_all L (fun j => (marksG mk c k j ++ x.drop j, k + c * j, (j : Int))) x.length (some (k + c * x.length, marksG mk c k x.length)) (by omega) (fun j fuel hj => ?_) (fun fuel => ?_)
  · simpa [marksG] using h
  · have hq : 0 ≤ c * (j : Int) := Int.mul_nonneg hc.1 (by omega)
    have hq2 : c * (j : Int) ≤ 16 * 1048576 := Int.mul_le_mul hc.2 (by omega) (by omega) (by decide)
    have := hstep fuel (marksG mk c k j ++ x.drop j) (k + c * j) j hj (by simp [marksG_len]; omega) (by omega) (by omega)
    rw [this, marksG_set mk c k x hj]
    have e : k + c * ((j + 1 : Nat) : Int) = k + c * j + c := by rw [Int.natCast_add, Int.mul_add]; omega
    rw [e]
  · have := hend fuel (marksG mk c k x.length ++ x.drop x.length) (k + c * x.length) (by simp [marksG_len])
    simpa using this
theorem held_loop {β : Type} (L : Nat → (Int × Int) → Option (Int ⊕ Int)) (mk : Int → β) (c : Int) (hc : 0 ≤ c ∧ c ≤ 16) (n : Nat) (k : Int) (hx : n ≤ 1048576) (hk : 0 ≤ k ∧ k ≤ 33554432)
    (hstep : ∀ fuel (q : Int) (j : Nat), j < n → (∀ d, (marksG mk c k n)[j]?.getD d = mk q) → 0 ≤ q → q ≤ 134217728 → L (fuel + 1) (q, (j : Int)) = L fuel (q + c, ((j + 1 : Nat) : Int)))
    (hend : ∀ fuel (q : Int), L (fuel + 1) (q, (n : Int)) = some (.inl q)) : L FUEL (k, 0) = some (.inl (k + c * n)) := by
  have h := loop_all L (fun j => (k + c * j, (j : Int))) n (some (.inl (k + c * n))) (by omega) (fun j fuel hj => ?_) (fun fuel => hend fuel _)
  · simpa using h
  · have hq : 0 ≤ c * (j : Int) := Int.mul_nonneg hc.1 (by omega)
    have hq2 : c * (j : Int) ≤ 16 * 1048576 := Int.mul_le_mul hc.2 (by omega) (by omega) (by decide)
    rw [hstep fuel (k + c * j) j hj (fun d => by simpa [List.getD] using marksG_get mk c k d hj) (by omega) (by omega)]
    have e : k + c * ((j + 1 : Nat) : Int) = k + c * j + c := by rw [Int.natCast_add, Int.mul_add]; omega
    rw [e]
theorem to_loop {β : Type} (L : Nat → (List β × Int) → Option (List β)) (x : List β) (l0 : List β) (hl : l0.length = x.length) (hx : x.length ≤ 1048576)
    (hstep : ∀ fuel (l : List β) (j : Nat) (hj : j < x.length), l.length = x.length → L (fuel + 1) (l, (j : Int)) = L fuel (l.set j x[j], ((j + 1 : Nat) : Int)))
    (hend : ∀ fuel (l : List β), l.length = x.length → L (fuel + 1) (l, (x.length : Int)) = some l) : L FUEL (l0, 0) = some x := by
  have h := loop_all L (fun j => (x.take j ++ l0.drop j, (j : Int))) x.length (some x) (by omega) (fun j fuel hj => ?_) (fun fuel => ?_)
  · simpa using h
  · rw [hstep fuel _ j hj (by simp; omega)]
    congr 2
    rw [List.set_append_right _ _ (by simp; omega), List.length_take, Nat.min_eq_left (by omega), Nat.sub_self, List.drop_eq_getElem_cons (by omega : j < l0.length), List.set_cons_zero, List.take_succ_eq_append_getElem hj, List.append_assoc]
    rfl
  · have := hend fuel (x.take x.length ++ l0.drop x.length) (by simp; omega)
    rw [this, List.take_length, List.drop_of_length_le (by omega), List.append_nil]
theorem eq_loop {Out : Type} (L : Nat → Int → Option Out) (n : Nat) (hx : n ≤ 1048576) (out : Option Out) (hstep : ∀ fuel (j : Nat), j < n → L (fuel + 1) (j : Int) = L fuel ((j + 1 : Nat) : Int)) (hend : ∀ fuel, L (fuel + 1) (n : Int) = out) : L FUEL 0 = out := by
  have h := loop_all L (fun j => (j : Int)) n out (by omega) (fun j fuel hj => hstep fuel j hj) hend
  simpa using h
end Go.Proofs.YtcmnjaccapbhfaaGreat
namespace Go.Proofs.YtcmnjaccapbhfaaGreat
set_option linter.unusedVariables false
set_option linter.unusedSimpArgs false
theorem loop_first {σ Out : Type} (L : Nat → σ → Option Out) (st : Nat → σ) (n : Nat) (P : Nat → Bool) (fv : Nat → Option Out) (out : Option Out) (hn : n ≤ 1099511627776) (hstep : ∀ k fuel, k < n → L (fuel + 1) (st k) = bif P k then fv k else L fuel (st (k + 1))) (hend : ∀ fuel, L (fuel + 1) (st n) = out) :
    L FUEL (st 0) = match (List.range n).find? P with | some k => fv k | none => out := by
  have key : ∀ j k fuel, k + j = n → j < fuel → L fuel (st k) = match (List.range' k j).find? P with | some k => fv k | none => out := by
    intro j
    induction j with
    | zero =>
      intro k fuel hk hf
      obtain ⟨f, rfl⟩ : ∃ f, fuel = f + 1 := ⟨fuel - 1, by omega⟩
      obtain rfl : k = n := by omega
      simpa using hend f
    | succ j ih =>
      intro k fuel hk hf
      obtain ⟨f, rfl⟩ : ∃ f, fuel = f + 1 := ⟨fuel - 1, by omega⟩
      rw [hstep k f (by omega), ih (k + 1) f (by omega) (by omega), List.range'_succ, List.find?_cons]
      cases P k <;> simp
  rw [key n 0 FUEL (by omega) (fuel_gt hn), List.range_eq_range']
abbrev Pm := List (Int × Int)
abbrev Wk := List Bool × List Bool × Pm
def fnd (l : Pm) (p : Int × Int) : Int := match (List.range l.length).find? (fun k => (l.getD k (0, 0)).1 == p.1 && (l.getD k (0, 0)).2 == p.2) with | some k => (k : Int) | none => -1
theorem fnd_spec (l : Pm) (p : Int × Int) : (fnd l p = -1 ∧ p ∉ l) ∨ (∃ k, k < l.length ∧ fnd l p = (k : Int) ∧ l.getD k (0, 0) = p ∧ ∀ j, j < k → l.getD j (0, 0) ≠ p) := by
  unfold fnd
  cases h : (List.range l.length).find? (fun k => (l.getD k (0, 0)).1 == p.1 && (l.getD k (0, 0)).2 == p.2) with
  | none =>
    left
    refine ⟨rfl, fun hp => ?_⟩
    obtain ⟨k, hk, rfl⟩ := List.mem_iff_getElem.1 hp
    have := List.find?_eq_none.1 h k (by simpa using hk)
    rw [getD_ge hk] at this
    simp at this
  | some k =>
    right
    obtain ⟨h1, h2, h3⟩ := List.find?_range_eq_some.1 h
    have hk : k < l.length := by simpa using h2
    simp only [Bool.and_eq_true, beq_iff_eq] at h1
    refine ⟨k, hk, rfl, Prod.ext h1.1 h1.2, fun j hj e => ?_⟩
    have := h3 j hj
    rw [e] at this
    simp at this
theorem fnd_mem {l : Pm} {p : Int × Int} : leB 0 (fnd l p) = decide (p ∈ l) := by
  rcases fnd_spec l p with ⟨h1, h2⟩ | ⟨k, hk, h1, h2, h3⟩
  · rw [h1]; simp [leB, h2]
  · have : p ∈ l := by rw [← h2, getD_ge hk]; exact List.getElem_mem hk
    rw [h1]; simp [leB, this]
theorem mem_take_get {l : Pm} {p : Int × Int} {k : Nat} : p ∈ l.take k ↔ ∃ j, j < k ∧ j < l.length ∧ l.getD j (0, 0) = p := by
  constructor
  · intro h
    obtain ⟨j, hj, rfl⟩ := List.mem_iff_getElem.1 h
    have hj' : j < k ∧ j < l.length := by rw [List.length_take] at hj; omega
    exact ⟨j, hj'.1, hj'.2, by rw [getD_ge hj'.2]; simp⟩
  · rintro ⟨j, h1, h2, rfl⟩
    rw [getD_ge h2]
    exact List.mem_iff_getElem.2 ⟨j, by simp; omega, by simp⟩
theorem fnd_take {l : Pm} {k : Nat} (hk : k < l.length) : ltB (fnd l (l.getD k (0, 0))) (k : Int) = decide (l.getD k (0, 0) ∈ l.take k) := by
  rcases fnd_spec l (l.getD k (0, 0)) with ⟨h1, h2⟩ | ⟨i, hi, h1, h2, h3⟩
  · exact absurd (by rw [getD_ge hk]; exact List.getElem_mem hk) h2
  · rw [h1]
    have hle : i ≤ k := by
      rcases Nat.lt_or_ge k i with h | h
      · exact absurd rfl (h3 k h)
      · exact h
    rcases Nat.lt_or_ge i k with h | h
    · have : l.getD k (0, 0) ∈ l.take k := mem_take_get.2 ⟨i, h, hi, h2⟩
      rw [decide_eq_true this]; exact decide_eq_true (by omega)
    · obtain rfl : i = k := by omega
      have : ¬ l.getD i (0, 0) ∈ l.take i := fun hm => by
        obtain ⟨j, j1, j2, j3⟩ := mem_take_get.1 hm
        exact h3 j j1 j3
      rw [decide_eq_false this]; exact decide_eq_false (by omega)
def pmOk (on earth : List Bool) (pm : Pm) (k : Nat) : Bool :=
  inB (pm.getD k (0, 0)).1 0 9 && (decide (0 ≤ (pm.getD k (0, 0)).2) && decide ((pm.getD k (0, 0)).2 < (on.length : Int))) && earth.getD (pm.getD k (0, 0)).2.toNat false && !decide (pm.getD k (0, 0) ∈ pm.take k)
def workV (on earth : List Bool) (pm : Pm) : Bool :=
  inB (on.length : Int) 1 10 && (earth.length == on.length) && decide (pm.length ≤ 6) && (!(List.range on.length).any fun k => on.getD k false && earth.getD k false) && !(List.range pm.length).any fun k => !pmOk on earth pm k
structure WorkOk (on earth : List Bool) (pm : Pm) : Prop where
  l0 : 1 ≤ on.length
  l1 : on.length ≤ 10
  le : earth.length = on.length
  lp : pm.length ≤ 6
  ne : ∀ k, on.getD k false = true → earth.getD k false = false
  pm : ∀ k, k < pm.length → (0 ≤ (pm.getD k (0, 0)).1 ∧ (pm.getD k (0, 0)).1 ≤ 9) ∧ (0 ≤ (pm.getD k (0, 0)).2 ∧ (pm.getD k (0, 0)).2 < (on.length : Int)) ∧ earth.getD (pm.getD k (0, 0)).2.toNat false = true ∧ pm.getD k (0, 0) ∉ pm.take k
theorem pmOk_iff {on earth : List Bool} {pm : Pm} {k : Nat} : pmOk on earth pm k = true ↔ (0 ≤ (pm.getD k (0, 0)).1 ∧ (pm.getD k (0, 0)).1 ≤ 9) ∧ (0 ≤ (pm.getD k (0, 0)).2 ∧ (pm.getD k (0, 0)).2 < (on.length : Int)) ∧ earth.getD (pm.getD k (0, 0)).2.toNat false = true ∧ pm.getD k (0, 0) ∉ pm.take k := by
  simp only [pmOk, Bool.and_eq_true, inB_iff, decide_eq_true_eq, Bool.not_eq_true', decide_eq_false_iff_not, and_assoc]
theorem any_f {n : Nat} {f : Nat → Bool} : (!(List.range n).any f) = true ↔ ∀ k, k < n → f k = false := by
  rw [Bool.not_eq_true', List.any_eq_false]
  simp only [List.mem_range, Bool.not_eq_true]
theorem workV_iff {on earth : List Bool} {pm : Pm} : workV on earth pm = true ↔ WorkOk on earth pm := by
  unfold workV
  rw [Bool.and_eq_true, any_f, Bool.and_eq_true, any_f, Bool.and_eq_true, Bool.and_eq_true, inB_iff, beq_iff_eq, decide_eq_true_eq]
  constructor
  · rintro ⟨⟨⟨⟨h1, h2⟩, h3⟩, h4⟩, h5⟩
    refine ⟨by omega, by omega, h2, h3, fun k hk => ?_, fun k hk => pmOk_iff.1 (by have := h5 k hk; simpa using this)⟩
    by_cases hl : k < on.length
    · have := h4 k hl
      rw [hk] at this
      simpa using this
    · simp [List.getD, List.getElem?_eq_none (Nat.le_of_not_lt hl)] at hk
  · intro h
    have := h.l0; have := h.l1
    refine ⟨⟨⟨⟨by omega, h.le⟩, h.lp⟩, fun k hk => ?_⟩, fun k hk => by rw [pmOk_iff.2 (h.pm k hk)]; rfl⟩
    cases ho : on.getD k false
    · rfl
    · rw [h.ne k ho]; rfl
theorem inB10 (n : Int) : inB n 1 10 = (!ltB n 1 && !ltB 10 n) := by rw [Bool.eq_iff_iff]; simp [inB, ltB]
theorem lt6 (n : Nat) : ltB 6 (n : Int) = !decide (n ≤ 6) := by rw [Bool.eq_iff_iff]; simp [ltB]; omega
theorem bne_len (a b : Nat) : ((a : Int) != (b : Int)) = !(a == b) := by rw [Bool.eq_iff_iff]; simp; omega
def heldOf (pm : Pm) (line : Int) : List Int := (pm.filter (·.2 == line)).map (·.1)
theorem held_step {pm : Pm} {line : Int} {k : Nat} (hk : k < pm.length) : heldOf (pm.take (k + 1)) line = if (pm.getD k (0, 0)).2 == line then heldOf (pm.take k) line ++ [(pm.getD k (0, 0)).1] else heldOf (pm.take k) line := by
  unfold heldOf
  rw [List.take_succ_eq_append_getElem hk, List.filter_append, List.map_append, getD_ge hk]
  cases h : pm[k].2 == line <;> simp [h]
theorem held_len (pm : Pm) (line : Int) : (heldOf pm line).length ≤ pm.length := by
  unfold heldOf; rw [List.length_map]; exact List.length_filter_le _ _
def wkMay (w : Wk) (kd a who : Int) : Bool :=
  if kd = 0 ∨ kd = 2 then !w.1.getD a.toNat false && !w.2.1.getD a.toNat false
  else if kd = 1 then w.1.getD a.toNat false
  else if kd = 3 then w.2.1.getD a.toNat false && decide (heldOf w.2.2 a = [])
  else if kd = 4 then w.2.1.getD a.toNat false && (inB who 0 9 && !decide ((who, a) ∈ w.2.2) && decide (w.2.2.length < 6))
  else if kd = 5 then decide ((who, a) ∈ w.2.2)
  else false
def wkPut (w : Wk) (kd a who : Int) : Wk :=
  if kd = 0 then (w.1.set a.toNat true, w.2.1, w.2.2)
  else if kd = 1 then (w.1.set a.toNat false, w.2.1, w.2.2)
  else if kd = 2 then (w.1, w.2.1.set a.toNat true, w.2.2)
  else if kd = 3 then (w.1, w.2.1.set a.toNat false, w.2.2)
  else if kd = 4 then (w.1, w.2.1, w.2.2 ++ [(who, a)])
  else (w.1, w.2.1, w.2.2.take (fnd w.2.2 (who, a)).toNat ++ w.2.2.drop ((fnd w.2.2 (who, a)).toNat + 1))
def wkDo (w : Wk) (kd a who : Int) : Wk × Bool :=
  if workV w.1 w.2.1 w.2.2 then (if 0 ≤ a ∧ a < (w.1.length : Int) ∧ wkMay w kd a who = true then (wkPut w kd a who, true) else (w, false)) else (([], [], []), false)
def out4w (r : Wk × Bool) : List Bool × List Bool × Pm × Bool := (r.1.1, r.1.2.1, r.1.2.2, r.2)
theorem nil_dec (l : List Int) : ((l.length : Int) == 0) = decide (l = []) := by cases l <;> simp; omega
theorem put_len (w : Wk) (kd a who : Int) : (wkPut w kd a who).1.length = w.1.length ∧ (wkPut w kd a who).2.1.length = w.2.1.length ∧ (wkPut w kd a who).2.2.length ≤ w.2.2.length + 1 := by
  unfold wkPut
  repeat' split
  all_goals simp
  omega
end Go.Proofs.YtcmnjaccapbhfaaGreat
namespace Go.Proofs.YtcmnjaccapbhfaaGreat
set_option linter.unusedVariables false
set_option linter.unusedSimpArgs false
theorem gset {α : Type} {l : List α} {k : Nat} {y d : α} (hk : k < l.length) : (l.set k y).getD k d = y := by simp [List.getD, hk]
theorem gset_ne {α : Type} {l : List α} {i j : Nat} {y d : α} (h : i ≠ j) : (l.set i y).getD j d = l.getD j d := by simp [List.getD, List.getElem?_set_ne h]
theorem gout {α : Type} {l : List α} {k : Nat} {d : α} (h : l.length ≤ k) : l.getD k d = d := by simp [List.getD, List.getElem?_eq_none h]
structure WOk (w : Wk) : Prop where
  l0 : 1 ≤ w.1.length
  l1 : w.1.length ≤ 10
  le : w.2.1.length = w.1.length
  lp : w.2.2.length ≤ 6
  ne : ∀ k, w.1.getD k false = true → w.2.1.getD k false = false
  pm : ∀ p ∈ w.2.2, (0 ≤ p.1 ∧ p.1 ≤ 9) ∧ (0 ≤ p.2 ∧ p.2 < (w.1.length : Int)) ∧ w.2.1.getD p.2.toNat false = true
  nd : w.2.2.Nodup
theorem wok_iff {w : Wk} : workV w.1 w.2.1 w.2.2 = true ↔ WOk w := by
  rw [workV_iff]
  constructor
  · intro h
    refine ⟨h.l0, h.l1, h.le, h.lp, h.ne, fun p hp => ?_, ?_⟩
    · obtain ⟨k, hk, rfl⟩ := List.mem_iff_getElem.1 hp
      have := h.pm k hk
      rw [getD_ge hk] at this
      exact ⟨this.1, this.2.1, this.2.2.1⟩
    · rw [List.nodup_iff_pairwise_ne, List.pairwise_iff_getElem]
      intro i j hi hj hij e
      refine (h.pm j hj).2.2.2 (mem_take_get.2 ⟨i, hij, hi, ?_⟩)
      rw [getD_ge hi, getD_ge hj, e]
  · intro h
    refine ⟨h.l0, h.l1, h.le, h.lp, h.ne, fun k hk => ?_⟩
    have hm := h.pm (w.2.2.getD k (0, 0)) (by rw [getD_ge hk]; exact List.getElem_mem hk)
    refine ⟨hm.1, hm.2.1, hm.2.2, fun ht => ?_⟩
    obtain ⟨j, h1, h2, h3⟩ := mem_take_get.1 ht
    have hp := h.nd
    rw [List.nodup_iff_pairwise_ne, List.pairwise_iff_getElem] at hp
    rw [getD_ge h2, getD_ge hk] at h3
    exact hp j k h2 hk h1 h3
theorem ret_split {w : Wk} {a who : Int} (hm : (who, a) ∈ w.2.2) : ∃ A B, w.2.2 = A ++ (who, a) :: B ∧ wkPut w 5 a who = (w.1, w.2.1, A ++ B) := by
  rcases fnd_spec w.2.2 (who, a) with ⟨h1, h2⟩ | ⟨k, hk, h1, h2, h3⟩
  · exact absurd hm h2
  refine ⟨w.2.2.take k, w.2.2.drop (k + 1), ?_, ?_⟩
  · rw [← h2, getD_ge hk]; simp
  · unfold wkPut
    rw [if_neg (by decide), if_neg (by decide), if_neg (by decide), if_neg (by decide), if_neg (by decide), h1, Int.toNat_natCast]
theorem held_mem {pm : Pm} {line x : Int} : x ∈ heldOf pm line ↔ (x, line) ∈ pm := by
  simp only [heldOf, List.mem_map, List.mem_filter, beq_iff_eq]
  constructor
  · rintro ⟨p, ⟨h1, h2⟩, h3⟩
    rw [← h3, ← h2]; exact h1
  · intro h; exact ⟨(x, line), ⟨h, rfl⟩, rfl⟩
theorem nd_mid {A B : Pm} {p : Int × Int} (h : (A ++ p :: B).Nodup) : (A ++ B).Nodup ∧ p ∉ A ++ B := by
  rw [List.nodup_append] at h
  obtain ⟨h1, h2, h3⟩ := h
  rw [List.nodup_cons] at h2
  refine ⟨List.nodup_append.2 ⟨h1, h2.2, fun a ha b hb => h3 a ha b (by simp [hb])⟩, fun hm => ?_⟩
  rcases List.mem_append.1 hm with hm | hm
  · exact h3 p hm p (by simp) rfl
  · exact h2.1 hm
theorem put_ok {w : Wk} {kd a who : Int} (h : WOk w) (ha : 0 ≤ a ∧ a < (w.1.length : Int)) (hm : wkMay w kd a who = true) : WOk (wkPut w kd a who) ∧ wkPut w kd a who ≠ w ∧ wkMay (wkPut w kd a who) kd a who = false := by
  have hal : a.toNat < w.1.length := by omega
  have hae : a.toNat < w.2.1.length := by have := h.le; omega
  by_cases k0 : kd = 0
  · subst k0
    have hm : w.1.getD a.toNat false = false ∧ w.2.1.getD a.toNat false = false := by simpa only [wkMay, true_or, if_true, Bool.and_eq_true, Bool.not_eq_true'] using hm
    have e : wkPut w 0 a who = (w.1.set a.toNat true, w.2.1, w.2.2) := rfl
    rw [e]
    refine ⟨⟨by simpa using h.l0, by simpa using h.l1, by simpa using h.le, h.lp, fun k hk => ?_, fun p hp => by simpa using h.pm p hp, h.nd⟩, fun hc => ?_, ?_⟩
    · by_cases hka : a.toNat = k
      · rw [← hka]; exact hm.2
      · exact h.ne k (by rwa [gset_ne hka] at hk)
    · have := congrArg (fun w : Wk => w.1.getD a.toNat false) hc
      simp only [gset hal, hm.1] at this
      cases this
    · simp only [wkMay, true_or, if_true, gset hal]; rfl
  by_cases k1 : kd = 1
  · subst k1
    have hm : w.1.getD a.toNat false = true := hm
    have e : wkPut w 1 a who = (w.1.set a.toNat false, w.2.1, w.2.2) := rfl
    rw [e]
    refine ⟨⟨by simpa using h.l0, by simpa using h.l1, by simpa using h.le, h.lp, fun k hk => ?_, fun p hp => by simpa using h.pm p hp, h.nd⟩, fun hc => ?_, ?_⟩
    · by_cases hka : a.toNat = k
      · rw [← hka] at hk; rw [gset hal] at hk; cases hk
      · exact h.ne k (by rwa [gset_ne hka] at hk)
    · have := congrArg (fun w : Wk => w.1.getD a.toNat false) hc
      simp only [gset hal, hm] at this
      cases this
    · exact gset hal
  by_cases k2 : kd = 2
  · subst k2
    have hm : w.1.getD a.toNat false = false ∧ w.2.1.getD a.toNat false = false := by simpa only [wkMay, or_true, if_true, Bool.and_eq_true, Bool.not_eq_true'] using hm
    have e : wkPut w 2 a who = (w.1, w.2.1.set a.toNat true, w.2.2) := rfl
    rw [e]
    refine ⟨⟨h.l0, h.l1, by simpa using h.le, h.lp, fun k hk => ?_, fun p hp => ?_, h.nd⟩, fun hc => ?_, ?_⟩
    · by_cases hka : a.toNat = k
      · rw [← hka] at hk; rw [hm.1] at hk; cases hk
      · rw [gset_ne hka]; exact h.ne k hk
    · obtain ⟨p1, p2, p3⟩ := h.pm p hp
      refine ⟨p1, p2, ?_⟩
      by_cases hka : a.toNat = p.2.toNat
      · rw [← hka, gset hae]
      · rw [gset_ne hka]; exact p3
    · have := congrArg (fun w : Wk => w.2.1.getD a.toNat false) hc
      simp only [gset hae, hm.2] at this
      cases this
    · simp only [wkMay, or_true, if_true, gset hae]; simp
  by_cases k3 : kd = 3
  · subst k3
    have hm : w.2.1.getD a.toNat false = true ∧ heldOf w.2.2 a = [] := by
      have : (w.2.1.getD a.toNat false && decide (heldOf w.2.2 a = [])) = true := hm
      simpa only [Bool.and_eq_true, decide_eq_true_eq] using this
    have e : wkPut w 3 a who = (w.1, w.2.1.set a.toNat false, w.2.2) := rfl
    rw [e]
    refine ⟨⟨h.l0, h.l1, by simpa using h.le, h.lp, fun k hk => ?_, fun p hp => ?_, h.nd⟩, fun hc => ?_, ?_⟩
    · by_cases hka : a.toNat = k
      · rw [← hka, gset hae]
      · rw [gset_ne hka]; exact h.ne k hk
    · obtain ⟨p1, p2, p3⟩ := h.pm p hp
      refine ⟨p1, p2, ?_⟩
      have hka : a.toNat ≠ p.2.toNat := fun hka => by
        have hpa : p.2 = a := by omega
        have : p.1 ∈ heldOf w.2.2 a := held_mem.2 (by rw [← hpa]; exact hp)
        rw [hm.2] at this; simp at this
      rw [gset_ne hka]; exact p3
    · have := congrArg (fun w : Wk => w.2.1.getD a.toNat false) hc
      simp only [gset hae, hm.1] at this
      cases this
    · show ((w.2.1.set a.toNat false).getD a.toNat false && _) = false
      rw [gset hae]; rfl
  by_cases k4 : kd = 4
  · subst k4
    have hm : w.2.1.getD a.toNat false = true ∧ (0 ≤ who ∧ who ≤ 9) ∧ (who, a) ∉ w.2.2 ∧ w.2.2.length < 6 := by
      have : (w.2.1.getD a.toNat false && (inB who 0 9 && !decide ((who, a) ∈ w.2.2) && decide (w.2.2.length < 6))) = true := hm
      simp only [Bool.and_eq_true, decide_eq_true_eq, inB_iff, Bool.not_eq_true', decide_eq_false_iff_not] at this
      exact ⟨this.1, this.2.1.1, this.2.1.2, this.2.2⟩
    have e : wkPut w 4 a who = (w.1, w.2.1, w.2.2 ++ [(who, a)]) := rfl
    rw [e]
    refine ⟨⟨h.l0, h.l1, h.le, by simp; omega, h.ne, fun p hp => ?_, ?_⟩, fun hc => ?_, ?_⟩
    · rcases List.mem_append.1 hp with hp | hp
      · exact h.pm p hp
      · have hp : p = (who, a) := by simpa using hp
        subst hp
        exact ⟨hm.2.1, ha, hm.1⟩
    · refine List.nodup_append.2 ⟨h.nd, by simp, fun x hx y hy e => ?_⟩
      have hy : y = (who, a) := by simpa using hy
      rw [e, hy] at hx
      exact hm.2.2.1 hx
    · have := congrArg (fun w : Wk => w.2.2.length) hc
      simp at this
    · show (w.2.1.getD a.toNat false && (inB who 0 9 && !decide ((who, a) ∈ w.2.2 ++ [(who, a)]) && decide ((w.2.2 ++ [(who, a)]).length < 6))) = false
      simp
  by_cases k5 : kd = 5
  · subst k5
    have hmem : (who, a) ∈ w.2.2 := by
      have : decide ((who, a) ∈ w.2.2) = true := hm
      simpa using this
    obtain ⟨A, B, e1, e2⟩ := ret_split hmem
    have hnd := h.nd
    rw [e1] at hnd
    obtain ⟨n1, n2⟩ := nd_mid hnd
    rw [e2]
    have hlp := h.lp
    rw [e1] at hlp
    refine ⟨⟨h.l0, h.l1, h.le, by simp at hlp ⊢; omega, h.ne, fun p hp => h.pm p ?_, n1⟩, fun hc => ?_, ?_⟩
    · rw [e1]
      rcases List.mem_append.1 hp with hp | hp
      · simp [hp]
      · simp [hp]
    · have := congrArg (fun w : Wk => w.2.2.length) hc
      rw [e1] at this
      simp at this <;> omega
    · show decide ((who, a) ∈ A ++ B) = false
      exact decide_eq_false n2
  · simp [wkMay, k0, k1, k2, k3, k4, k5] at hm
theorem do_cases {w : Wk} (h : WOk w) (kd a who : Int) : (wkDo w kd a who = (wkPut w kd a who, true) ∧ (0 ≤ a ∧ a < (w.1.length : Int)) ∧ wkMay w kd a who = true ∧ WOk (wkPut w kd a who)) ∨ (wkDo w kd a who = (w, false) ∧ ¬ ((0 ≤ a ∧ a < (w.1.length : Int)) ∧ wkMay w kd a who = true)) := by
  unfold wkDo
  rw [if_pos (wok_iff.2 h)]
  by_cases hc : 0 ≤ a ∧ a < (w.1.length : Int) ∧ wkMay w kd a who = true
  · rw [if_pos hc]; exact .inl ⟨rfl, ⟨hc.1, hc.2.1⟩, hc.2.2, (put_ok h ⟨hc.1, hc.2.1⟩ hc.2.2).1⟩
  · rw [if_neg hc]; exact .inr ⟨rfl, fun hh => hc ⟨hh.1.1, hh.1.2, hh.2⟩⟩
end Go.Proofs.YtcmnjaccapbhfaaGreat
