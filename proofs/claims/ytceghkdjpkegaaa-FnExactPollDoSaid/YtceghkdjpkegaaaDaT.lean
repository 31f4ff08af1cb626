/- Closed facts on types. -/
import Derived.Test.YtceghkdjpkegaaaDaM
namespace Go.Proofs.Ytceghkdjpkegaaa
open Go.ChangeShapes Go.WideShapes Go.ChangeAt Go.RowKit
set_option linter.unusedVariables false
set_option linter.unusedSimpArgs false

theorem ag24 : TyAgg Try.prog 24 8 := ⟨⟨_, Try.underlying24⟩, by kernel_rfl⟩
theorem ag26 : TyAgg Try.prog 26 2 := ⟨⟨_, Try.underlying26⟩, by kernel_rfl⟩
theorem ag28 : TyAgg Try.prog 28 8 := ⟨⟨_, Try.underlying28⟩, by kernel_rfl⟩
theorem ag32 : TyAgg Try.prog 32 2 := ⟨⟨_, Try.underlying32⟩, by kernel_rfl⟩
theorem bd28 {w : World}  : (Instr.build 28 [].toArray).run Try.prog w = .ok (.agg #[.int .i64 0, .slice none 0 0, .int .i64 0, .slice none 0 0, .int .i64 0, .int .i64 0, .int .i64 0, .int .i64 0]) w := by simp [go_sem]
theorem bd32_0 {x0 : Value} {w : World} (h0 : x0.cells = #[x0]) : (Instr.build 32 [(0, x0)].toArray).run Try.prog w = .ok (.agg #[x0, .int .i64 0]) w := by unfold Value.cells at h0; simp [go_sem, h0]
theorem co10 : CallOk Try.prog 10 := ⟨by kernel_rfl⟩
theorem co11 : CallOk Try.prog 11 := ⟨by kernel_rfl⟩
theorem co12 : CallOk Try.prog 12 := ⟨by kernel_rfl⟩
theorem co13 : CallOk Try.prog 13 := ⟨by kernel_rfl⟩
theorem co14 : CallOk Try.prog 14 := ⟨by kernel_rfl⟩
theorem co15 : CallOk Try.prog 15 := ⟨by kernel_rfl⟩
theorem co16 : CallOk Try.prog 16 := ⟨by kernel_rfl⟩
theorem co17 : CallOk Try.prog 17 := ⟨by kernel_rfl⟩
theorem co18 : CallOk Try.prog 18 := ⟨by kernel_rfl⟩
theorem co19 : CallOk Try.prog 19 := ⟨by kernel_rfl⟩
theorem co20 : CallOk Try.prog 20 := ⟨by kernel_rfl⟩
theorem co21 : CallOk Try.prog 21 := ⟨by kernel_rfl⟩
theorem co22 : CallOk Try.prog 22 := ⟨by kernel_rfl⟩
theorem co23 : CallOk Try.prog 23 := ⟨by kernel_rfl⟩
theorem co24 : CallOk Try.prog 24 := ⟨by kernel_rfl⟩
theorem co25 : CallOk Try.prog 25 := ⟨by kernel_rfl⟩
theorem co26 : CallOk Try.prog 26 := ⟨by kernel_rfl⟩
theorem co27 : CallOk Try.prog 27 := ⟨by kernel_rfl⟩
theorem co28 : CallOk Try.prog 28 := ⟨by kernel_rfl⟩
theorem co29 : CallOk Try.prog 29 := ⟨by kernel_rfl⟩
theorem co30 : CallOk Try.prog 30 := ⟨by kernel_rfl⟩
theorem co31 : CallOk Try.prog 31 := ⟨by kernel_rfl⟩
theorem co32 : CallOk Try.prog 32 := ⟨by kernel_rfl⟩
theorem co33 : CallOk Try.prog 33 := ⟨by kernel_rfl⟩
theorem co34 : CallOk Try.prog 34 := ⟨by kernel_rfl⟩
theorem co35 : CallOk Try.prog 35 := ⟨by kernel_rfl⟩
theorem co36 : CallOk Try.prog 36 := ⟨by kernel_rfl⟩
theorem co37 : CallOk Try.prog 37 := ⟨by kernel_rfl⟩
theorem co38 : CallOk Try.prog 38 := ⟨by kernel_rfl⟩
theorem co39 : CallOk Try.prog 39 := ⟨by kernel_rfl⟩
theorem co40 : CallOk Try.prog 40 := ⟨by kernel_rfl⟩
theorem co41 : CallOk Try.prog 41 := ⟨by kernel_rfl⟩
theorem co42 : CallOk Try.prog 42 := ⟨by kernel_rfl⟩
theorem co43 : CallOk Try.prog 43 := ⟨by kernel_rfl⟩
theorem co44 : CallOk Try.prog 44 := ⟨by kernel_rfl⟩
theorem co6 : CallOk Try.prog 6 := ⟨by kernel_rfl⟩
theorem co7 : CallOk Try.prog 7 := ⟨by kernel_rfl⟩
theorem co8 : CallOk Try.prog 8 := ⟨by kernel_rfl⟩
theorem co9 : CallOk Try.prog 9 := ⟨by kernel_rfl⟩
theorem fl24_0 : TyFld Try.prog 24 0 0 := ⟨by kernel_rfl⟩
theorem fl24_1 : TyFld Try.prog 24 1 1 := ⟨by kernel_rfl⟩
theorem fl24_2 : TyFld Try.prog 24 2 2 := ⟨by kernel_rfl⟩
theorem fl24_3 : TyFld Try.prog 24 3 3 := ⟨by kernel_rfl⟩
theorem fl24_4 : TyFld Try.prog 24 4 4 := ⟨by kernel_rfl⟩
theorem fl24_5 : TyFld Try.prog 24 5 5 := ⟨by kernel_rfl⟩
theorem fl24_6 : TyFld Try.prog 24 6 6 := ⟨by kernel_rfl⟩
theorem fl24_7 : TyFld Try.prog 24 7 7 := ⟨by kernel_rfl⟩
theorem fl26_0 : TyFld Try.prog 26 0 0 := ⟨by kernel_rfl⟩
theorem fl26_1 : TyFld Try.prog 26 1 1 := ⟨by kernel_rfl⟩
theorem fl28_0 : TyFld Try.prog 28 0 0 := ⟨by kernel_rfl⟩
theorem fl28_1 : TyFld Try.prog 28 1 1 := ⟨by kernel_rfl⟩
theorem fl28_2 : TyFld Try.prog 28 2 2 := ⟨by kernel_rfl⟩
theorem fl28_3 : TyFld Try.prog 28 3 3 := ⟨by kernel_rfl⟩
theorem fl28_4 : TyFld Try.prog 28 4 4 := ⟨by kernel_rfl⟩
theorem fl28_5 : TyFld Try.prog 28 5 5 := ⟨by kernel_rfl⟩
theorem fl28_6 : TyFld Try.prog 28 6 6 := ⟨by kernel_rfl⟩
theorem fl28_7 : TyFld Try.prog 28 7 7 := ⟨by kernel_rfl⟩
theorem fl32_0 : TyFld Try.prog 32 0 0 := ⟨by kernel_rfl⟩
theorem fl32_1 : TyFld Try.prog 32 1 1 := ⟨by kernel_rfl⟩
theorem inf3 : (Try.prog.info? 3).map (fun i => (i.zero, i.size, i.bytes)) = some (some (.int .i64 0), 1, 8) := by kernel_rfl
theorem inf32 : (Try.prog.info? 32).map (fun i => (i.zero, i.size, i.bytes)) = some (some (.agg #[.int .i64 0, .int .i64 0]), 2, 16) := by kernel_rfl
theorem one22 : TyOne Try.prog 22 := ⟨by kernel_rfl, by kernel_rfl⟩
theorem one3 : TyOne Try.prog 3 := ⟨by kernel_rfl, by kernel_rfl⟩
theorem sz22 : (Try.prog.info? 22).map (·.size) = some 1 := by kernel_rfl
theorem sz26 : (Try.prog.info? 26).map (·.size) = some 2 := by kernel_rfl
theorem sz28 : (Try.prog.info? 28).map (·.size) = some 8 := by kernel_rfl
theorem sz3 : (Try.prog.info? 3).map (·.size) = some 1 := by kernel_rfl
theorem sz32 : (Try.prog.info? 32).map (·.size) = some 2 := by kernel_rfl
theorem zr28 : (Try.prog.info? 28).bind (·.zero) = some (.agg #[.int .i64 0, .slice none 0 0, .int .i64 0, .slice none 0 0, .int .i64 0, .int .i64 0, .int .i64 0, .int .i64 0]) := by kernel_rfl
theorem zr32 : (Try.prog.info? 32).bind (·.zero) = some (.agg #[.int .i64 0, .int .i64 0]) := by kernel_rfl
theorem bs22_1_0 {x0 : Value} {w : World} (h0 : x0.cells = #[x0]) : (Instr.buildSlice 22 1 [(0, x0)].toArray).run Try.prog w = .ok (.slice (some ⟨w.heap.size, 0, none⟩) 1 1) (w.alloc (.cells #[x0] 3)) := by unfold Value.cells at h0; simp [Instr.buildSlice, Instr.fill, newRow, Array.range_succ, go_sem, h0]
theorem bs43_3_2_2_2 {y0_0 y0_1 y1_0 y1_1 y2_0 y2_1 : Value} {w : World}  : (Instr.buildSlice 43 3 [(0, .agg #[y0_0, y0_1]), (1, .agg #[y1_0, y1_1]), (2, .agg #[y2_0, y2_1])].toArray).run Try.prog w = .ok (.slice (some ⟨w.heap.size, 0, none⟩) 3 3) (w.alloc (.cells #[y0_0, y0_1, y1_0, y1_1, y2_0, y2_1] 32)) := by simp [Instr.buildSlice, Instr.fill, newRow, Array.range_succ, go_sem]
theorem bs61_2_0_0 {x0 x1 : Value} {w : World} (h0 : x0.cells = #[x0]) (h1 : x1.cells = #[x1]) : (Instr.buildSlice 61 2 [(0, x0), (1, x1)].toArray).run Try.prog w = .ok (.slice (some ⟨w.heap.size, 0, none⟩) 2 2) (w.alloc (.cells #[x0, x1] 22)) := by unfold Value.cells at h0 h1; simp [Instr.buildSlice, Instr.fill, newRow, Array.range_succ, go_sem, h0, h1]
theorem bs61_3_0_0_0 {x0 x1 x2 : Value} {w : World} (h0 : x0.cells = #[x0]) (h1 : x1.cells = #[x1]) (h2 : x2.cells = #[x2]) : (Instr.buildSlice 61 3 [(0, x0), (1, x1), (2, x2)].toArray).run Try.prog w = .ok (.slice (some ⟨w.heap.size, 0, none⟩) 3 3) (w.alloc (.cells #[x0, x1, x2] 22)) := by unfold Value.cells at h0 h1 h2; simp [Instr.buildSlice, Instr.fill, newRow, Array.range_succ, go_sem, h0, h1, h2]
end Go.Proofs.Ytceghkdjpkegaaa
