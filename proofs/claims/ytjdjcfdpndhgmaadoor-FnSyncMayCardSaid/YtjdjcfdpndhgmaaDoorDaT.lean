/- Closed facts on types. -/
import Derived.Test.YtjdjcfdpndhgmaaDoorDaM
namespace Go.Proofs.YtjdjcfdpndhgmaaDoor
open Go.ChangeShapes Go.WideShapes Go.ChangeAt Go.RowKit
set_option linter.unusedVariables false
set_option linter.unusedSimpArgs false

theorem ag24 : TyAgg Tryd.prog 24 2 := ⟨⟨_, Tryd.underlying24⟩, by kernel_rfl⟩
theorem ag47 : TyAgg Tryd.prog 47 3 := ⟨⟨_, Tryd.underlying47⟩, by kernel_rfl⟩
theorem ag50 : TyAgg Tryd.prog 50 2 := ⟨⟨_, Tryd.underlying50⟩, by kernel_rfl⟩
theorem bd24_0_1 {x0 x1 : Value} {w : World} (h0 : x0.cells = #[x0]) (h1 : x1.cells = #[x1]) : (Instr.build 24 [(0, x0), (1, x1)].toArray).run Tryd.prog w = .ok (.agg #[x0, x1]) w := by unfold Value.cells at h0 h1; simp [go_sem, h0, h1]
theorem bd24_0 {x0 : Value} {w : World} (h0 : x0.cells = #[x0]) : (Instr.build 24 [(0, x0)].toArray).run Tryd.prog w = .ok (.agg #[x0, .int .i64 0]) w := by unfold Value.cells at h0; simp [go_sem, h0]
theorem bd24_1 {x1 : Value} {w : World} (h1 : x1.cells = #[x1]) : (Instr.build 24 [(1, x1)].toArray).run Tryd.prog w = .ok (.agg #[.int .i64 0, x1]) w := by unfold Value.cells at h1; simp [go_sem, h1]
theorem bd24 {w : World}  : (Instr.build 24 [].toArray).run Tryd.prog w = .ok (.agg #[.int .i64 0, .int .i64 0]) w := by simp [go_sem]
theorem bd47_0_1_2 {x0 x1 x2 : Value} {w : World} (h0 : x0.cells = #[x0]) (h1 : x1.cells = #[x1]) (h2 : x2.cells = #[x2]) : (Instr.build 47 [(0, x0), (1, x1), (2, x2)].toArray).run Tryd.prog w = .ok (.agg #[x0, x1, x2]) w := by unfold Value.cells at h0 h1 h2; simp [go_sem, h0, h1, h2]
theorem bd50_0_1 {x0 x1 : Value} {w : World} (h0 : x0.cells = #[x0]) (h1 : x1.cells = #[x1]) : (Instr.build 50 [(0, x0), (1, x1)].toArray).run Tryd.prog w = .ok (.agg #[x0, x1]) w := by unfold Value.cells at h0 h1; simp [go_sem, h0, h1]
theorem bd50 {w : World}  : (Instr.build 50 [].toArray).run Tryd.prog w = .ok (.agg #[.int .i64 0, .slice none 0 0]) w := by simp [go_sem]
theorem bd57_0 {x0 : Value} {w : World} (h0 : x0.cells = #[x0]) : (Instr.build 57 [(0, x0)].toArray).run Tryd.prog w = .ok (.agg #[x0, .int .i64 0]) w := by unfold Value.cells at h0; simp [go_sem, h0]
theorem co10 : CallOk Tryd.prog 10 := ⟨by kernel_rfl⟩
theorem co11 : CallOk Tryd.prog 11 := ⟨by kernel_rfl⟩
theorem co12 : CallOk Tryd.prog 12 := ⟨by kernel_rfl⟩
theorem co13 : CallOk Tryd.prog 13 := ⟨by kernel_rfl⟩
theorem co14 : CallOk Tryd.prog 14 := ⟨by kernel_rfl⟩
theorem co15 : CallOk Tryd.prog 15 := ⟨by kernel_rfl⟩
theorem co16 : CallOk Tryd.prog 16 := ⟨by kernel_rfl⟩
theorem co17 : CallOk Tryd.prog 17 := ⟨by kernel_rfl⟩
theorem co18 : CallOk Tryd.prog 18 := ⟨by kernel_rfl⟩
theorem co19 : CallOk Tryd.prog 19 := ⟨by kernel_rfl⟩
theorem co20 : CallOk Tryd.prog 20 := ⟨by kernel_rfl⟩
theorem co21 : CallOk Tryd.prog 21 := ⟨by kernel_rfl⟩
theorem co22 : CallOk Tryd.prog 22 := ⟨by kernel_rfl⟩
theorem co23 : CallOk Tryd.prog 23 := ⟨by kernel_rfl⟩
theorem co24 : CallOk Tryd.prog 24 := ⟨by kernel_rfl⟩
theorem co25 : CallOk Tryd.prog 25 := ⟨by kernel_rfl⟩
theorem co26 : CallOk Tryd.prog 26 := ⟨by kernel_rfl⟩
theorem co27 : CallOk Tryd.prog 27 := ⟨by kernel_rfl⟩
theorem co28 : CallOk Tryd.prog 28 := ⟨by kernel_rfl⟩
theorem co29 : CallOk Tryd.prog 29 := ⟨by kernel_rfl⟩
theorem co30 : CallOk Tryd.prog 30 := ⟨by kernel_rfl⟩
theorem co31 : CallOk Tryd.prog 31 := ⟨by kernel_rfl⟩
theorem co32 : CallOk Tryd.prog 32 := ⟨by kernel_rfl⟩
theorem co33 : CallOk Tryd.prog 33 := ⟨by kernel_rfl⟩
theorem co34 : CallOk Tryd.prog 34 := ⟨by kernel_rfl⟩
theorem co35 : CallOk Tryd.prog 35 := ⟨by kernel_rfl⟩
theorem co36 : CallOk Tryd.prog 36 := ⟨by kernel_rfl⟩
theorem co40 : CallOk Tryd.prog 40 := ⟨by kernel_rfl⟩
theorem co8 : CallOk Tryd.prog 8 := ⟨by kernel_rfl⟩
theorem co9 : CallOk Tryd.prog 9 := ⟨by kernel_rfl⟩
theorem fl24_0 : TyFld Tryd.prog 24 0 0 := ⟨by kernel_rfl⟩
theorem fl24_1 : TyFld Tryd.prog 24 1 1 := ⟨by kernel_rfl⟩
theorem fl47_0 : TyFld Tryd.prog 47 0 0 := ⟨by kernel_rfl⟩
theorem fl47_1 : TyFld Tryd.prog 47 1 1 := ⟨by kernel_rfl⟩
theorem fl47_2 : TyFld Tryd.prog 47 2 2 := ⟨by kernel_rfl⟩
theorem fl50_0 : TyFld Tryd.prog 50 0 0 := ⟨by kernel_rfl⟩
theorem fl50_1 : TyFld Tryd.prog 50 1 1 := ⟨by kernel_rfl⟩
theorem fl57_0 : TyFld Tryd.prog 57 0 0 := ⟨by kernel_rfl⟩
theorem fl57_1 : TyFld Tryd.prog 57 1 1 := ⟨by kernel_rfl⟩
theorem one22 : TyOne Tryd.prog 22 := ⟨by kernel_rfl, by kernel_rfl⟩
theorem one3 : TyOne Tryd.prog 3 := ⟨by kernel_rfl, by kernel_rfl⟩
theorem one48 : TyOne Tryd.prog 48 := ⟨by kernel_rfl, by kernel_rfl⟩
theorem one5 : TyOne Tryd.prog 5 := ⟨by kernel_rfl, by kernel_rfl⟩
theorem sz24 : (Tryd.prog.info? 24).map (·.size) = some 2 := by kernel_rfl
theorem sz3 : (Tryd.prog.info? 3).map (·.size) = some 1 := by kernel_rfl
theorem sz47 : (Tryd.prog.info? 47).map (·.size) = some 3 := by kernel_rfl
theorem sz5 : (Tryd.prog.info? 5).map (·.size) = some 1 := by kernel_rfl
theorem zr24 : (Tryd.prog.info? 24).bind (·.zero) = some (.agg #[.int .i64 0, .int .i64 0]) := by kernel_rfl
theorem zr47 : (Tryd.prog.info? 47).bind (·.zero) = some (.agg #[.int .i64 0, .int .i64 0, .int .i64 0]) := by kernel_rfl
theorem bs48_1_3 {y0_0 y0_1 y0_2 : Value} {w : World}  : (Instr.buildSlice 48 1 [(0, .agg #[y0_0, y0_1, y0_2])].toArray).run Tryd.prog w = .ok (.slice (some ⟨w.heap.size, 0, none⟩) 1 1) (w.alloc (.cells #[y0_0, y0_1, y0_2] 47)) := by simp [Instr.buildSlice, Instr.fill, newRow, Array.range_succ, go_sem]
theorem bs55_2_0_0 {x0 x1 : Value} {w : World} (h0 : x0.cells = #[x0]) (h1 : x1.cells = #[x1]) : (Instr.buildSlice 55 2 [(0, x0), (1, x1)].toArray).run Tryd.prog w = .ok (.slice (some ⟨w.heap.size, 0, none⟩) 2 2) (w.alloc (.cells #[x0, x1] 3)) := by unfold Value.cells at h0 h1; simp [Instr.buildSlice, Instr.fill, newRow, Array.range_succ, go_sem, h0, h1]
theorem eg24 : Tryd.prog.eqGuardType Tryd.prog.depth 24 = false := by kernel_rfl
theorem eq24 {a0 b0 : Int} {a1 b1 : Int} {w : World} : (Op.equalIn 10000 24 (.agg #[.int .i64 a0, .int .i64 a1]) (.agg #[.int .i64 b0, .int .i64 b1])).run Tryd.prog w = .ok ((a0 == b0) && (a1 == b1)) w := by
  simp [go_sem]
  (repeat' split) <;> simp_all
end Go.Proofs.YtjdjcfdpndhgmaaDoor
