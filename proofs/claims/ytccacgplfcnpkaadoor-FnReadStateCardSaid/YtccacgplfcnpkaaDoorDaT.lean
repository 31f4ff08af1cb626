/- Closed facts on types. -/
import Derived.Test.YtccacgplfcnpkaaDoorDaM
namespace Go.Proofs.YtccacgplfcnpkaaDoor
open Go.ChangeShapes Go.WideShapes Go.ChangeAt Go.RowKit
set_option linter.unusedVariables false
set_option linter.unusedSimpArgs false

theorem ag34 : TyAgg Tryd.prog 34 3 := ⟨⟨_, Tryd.underlying34⟩, by kernel_rfl⟩
theorem ag37 : TyAgg Tryd.prog 37 2 := ⟨⟨_, Tryd.underlying37⟩, by kernel_rfl⟩
theorem bd34_0_1_2 {x0 x1 x2 : Value} {w : World} (h0 : x0.cells = #[x0]) (h1 : x1.cells = #[x1]) (h2 : x2.cells = #[x2]) : (Instr.build 34 [(0, x0), (1, x1), (2, x2)].toArray).run Tryd.prog w = .ok (.agg #[x0, x1, x2]) w := by unfold Value.cells at h0 h1 h2; simp [go_sem, h0, h1, h2]
theorem bd37_0_1 {x0 x1 : Value} {w : World} (h0 : x0.cells = #[x0]) (h1 : x1.cells = #[x1]) : (Instr.build 37 [(0, x0), (1, x1)].toArray).run Tryd.prog w = .ok (.agg #[x0, x1]) w := by unfold Value.cells at h0 h1; simp [go_sem, h0, h1]
theorem bd37_0 {x0 : Value} {w : World} (h0 : x0.cells = #[x0]) : (Instr.build 37 [(0, x0)].toArray).run Tryd.prog w = .ok (.agg #[x0, .slice none 0 0]) w := by unfold Value.cells at h0; simp [go_sem, h0]
theorem bd37 {w : World}  : (Instr.build 37 [].toArray).run Tryd.prog w = .ok (.agg #[.int .i64 0, .slice none 0 0]) w := by simp [go_sem]
theorem bd57_0 {x0 : Value} {w : World} (h0 : x0.cells = #[x0]) : (Instr.build 57 [(0, x0)].toArray).run Tryd.prog w = .ok (.agg #[x0, .int .i64 0]) w := by unfold Value.cells at h0; simp [go_sem, h0]
theorem co10 : CallOk Tryd.prog 10 := ⟨by kernel_rfl⟩
theorem co11 : CallOk Tryd.prog 11 := ⟨by kernel_rfl⟩
theorem co12 : CallOk Tryd.prog 12 := ⟨by kernel_rfl⟩
theorem co13 : CallOk Tryd.prog 13 := ⟨by kernel_rfl⟩
theorem co14 : CallOk Tryd.prog 14 := ⟨by kernel_rfl⟩
theorem co15 : CallOk Tryd.prog 15 := ⟨by kernel_rfl⟩
theorem co16 : CallOk Tryd.prog 16 := ⟨by kernel_rfl⟩
theorem co17 : CallOk Tryd.prog 17 := ⟨by kernel_rfl⟩
theorem co18 : CallOk Tryd.prog 18 := ⟨by kernel_rfl⟩
theorem co19 : CallOk Tryd.prog 19 := ⟨by kernel_rfl⟩
theorem co20 : CallOk Tryd.prog 20 := ⟨by kernel_rfl⟩
theorem co21 : CallOk Tryd.prog 21 := ⟨by kernel_rfl⟩
theorem co22 : CallOk Tryd.prog 22 := ⟨by kernel_rfl⟩
theorem co23 : CallOk Tryd.prog 23 := ⟨by kernel_rfl⟩
theorem co27 : CallOk Tryd.prog 27 := ⟨by kernel_rfl⟩
theorem co5 : CallOk Tryd.prog 5 := ⟨by kernel_rfl⟩
theorem co6 : CallOk Tryd.prog 6 := ⟨by kernel_rfl⟩
theorem co7 : CallOk Tryd.prog 7 := ⟨by kernel_rfl⟩
theorem co8 : CallOk Tryd.prog 8 := ⟨by kernel_rfl⟩
theorem co9 : CallOk Tryd.prog 9 := ⟨by kernel_rfl⟩
theorem fl34_0 : TyFld Tryd.prog 34 0 0 := ⟨by kernel_rfl⟩
theorem fl34_1 : TyFld Tryd.prog 34 1 1 := ⟨by kernel_rfl⟩
theorem fl34_2 : TyFld Tryd.prog 34 2 2 := ⟨by kernel_rfl⟩
theorem fl37_0 : TyFld Tryd.prog 37 0 0 := ⟨by kernel_rfl⟩
theorem fl37_1 : TyFld Tryd.prog 37 1 1 := ⟨by kernel_rfl⟩
theorem fl57_0 : TyFld Tryd.prog 57 0 0 := ⟨by kernel_rfl⟩
theorem fl57_1 : TyFld Tryd.prog 57 1 1 := ⟨by kernel_rfl⟩
theorem inf34 : (Tryd.prog.info? 34).map (fun i => (i.zero, i.size, i.bytes)) = some (some (.agg #[.int .i64 0, .int .i64 0, .int .i64 0]), 3, 24) := by kernel_rfl
theorem inf4 : (Tryd.prog.info? 4).map (fun i => (i.zero, i.size, i.bytes)) = some (some (.bool false), 1, 1) := by kernel_rfl
theorem inf5 : (Tryd.prog.info? 5).map (fun i => (i.zero, i.size, i.bytes)) = some (some (.int .u8 0), 1, 1) := by kernel_rfl
theorem one22 : TyOne Tryd.prog 22 := ⟨by kernel_rfl, by kernel_rfl⟩
theorem one3 : TyOne Tryd.prog 3 := ⟨by kernel_rfl, by kernel_rfl⟩
theorem one35 : TyOne Tryd.prog 35 := ⟨by kernel_rfl, by kernel_rfl⟩
theorem one4 : TyOne Tryd.prog 4 := ⟨by kernel_rfl, by kernel_rfl⟩
theorem one5 : TyOne Tryd.prog 5 := ⟨by kernel_rfl, by kernel_rfl⟩
theorem one9 : TyOne Tryd.prog 9 := ⟨by kernel_rfl, by kernel_rfl⟩
theorem sz3 : (Tryd.prog.info? 3).map (·.size) = some 1 := by kernel_rfl
theorem sz34 : (Tryd.prog.info? 34).map (·.size) = some 3 := by kernel_rfl
theorem sz35 : (Tryd.prog.info? 35).map (·.size) = some 1 := by kernel_rfl
theorem sz37 : (Tryd.prog.info? 37).map (·.size) = some 2 := by kernel_rfl
theorem sz4 : (Tryd.prog.info? 4).map (·.size) = some 1 := by kernel_rfl
theorem sz5 : (Tryd.prog.info? 5).map (·.size) = some 1 := by kernel_rfl
theorem sz9 : (Tryd.prog.info? 9).map (·.size) = some 1 := by kernel_rfl
theorem zr34 : (Tryd.prog.info? 34).bind (·.zero) = some (.agg #[.int .i64 0, .int .i64 0, .int .i64 0]) := by kernel_rfl
theorem zr37 : (Tryd.prog.info? 37).bind (·.zero) = some (.agg #[.int .i64 0, .slice none 0 0]) := by kernel_rfl
theorem bs23_1_0 {x0 : Value} {w : World} (h0 : x0.cells = #[x0]) : (Instr.buildSlice 23 1 [(0, x0)].toArray).run Tryd.prog w = .ok (.slice (some ⟨w.heap.size, 0, none⟩) 1 1) (w.alloc (.cells #[x0] 4)) := by unfold Value.cells at h0; simp [Instr.buildSlice, Instr.fill, newRow, Array.range_succ, go_sem, h0]
theorem bs35_1_3 {y0_0 y0_1 y0_2 : Value} {w : World}  : (Instr.buildSlice 35 1 [(0, .agg #[y0_0, y0_1, y0_2])].toArray).run Tryd.prog w = .ok (.slice (some ⟨w.heap.size, 0, none⟩) 1 1) (w.alloc (.cells #[y0_0, y0_1, y0_2] 34)) := by simp [Instr.buildSlice, Instr.fill, newRow, Array.range_succ, go_sem]
theorem bs44_4_0_0_0_0 {x0 x1 x2 x3 : Value} {w : World} (h0 : x0.cells = #[x0]) (h1 : x1.cells = #[x1]) (h2 : x2.cells = #[x2]) (h3 : x3.cells = #[x3]) : (Instr.buildSlice 44 4 [(0, x0), (1, x1), (2, x2), (3, x3)].toArray).run Tryd.prog w = .ok (.slice (some ⟨w.heap.size, 0, none⟩) 4 4) (w.alloc (.cells #[x0, x1, x2, x3] 9)) := by unfold Value.cells at h0 h1 h2 h3; simp [Instr.buildSlice, Instr.fill, newRow, Array.range_succ, go_sem, h0, h1, h2, h3]
theorem bs58_2_0_0 {x0 x1 : Value} {w : World} (h0 : x0.cells = #[x0]) (h1 : x1.cells = #[x1]) : (Instr.buildSlice 58 2 [(0, x0), (1, x1)].toArray).run Tryd.prog w = .ok (.slice (some ⟨w.heap.size, 0, none⟩) 2 2) (w.alloc (.cells #[x0, x1] 3)) := by unfold Value.cells at h0 h1; simp [Instr.buildSlice, Instr.fill, newRow, Array.range_succ, go_sem, h0, h1]
theorem bs58_3_0_0_0 {x0 x1 x2 : Value} {w : World} (h0 : x0.cells = #[x0]) (h1 : x1.cells = #[x1]) (h2 : x2.cells = #[x2]) : (Instr.buildSlice 58 3 [(0, x0), (1, x1), (2, x2)].toArray).run Tryd.prog w = .ok (.slice (some ⟨w.heap.size, 0, none⟩) 3 3) (w.alloc (.cells #[x0, x1, x2] 3)) := by unfold Value.cells at h0 h1 h2; simp [Instr.buildSlice, Instr.fill, newRow, Array.range_succ, go_sem, h0, h1, h2]
end Go.Proofs.YtccacgplfcnpkaaDoor
