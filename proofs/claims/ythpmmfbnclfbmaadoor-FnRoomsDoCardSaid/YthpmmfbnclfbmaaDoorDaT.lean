/- Closed facts on types. -/
import Derived.Test.YthpmmfbnclfbmaaDoorDaM
namespace Go.Proofs.YthpmmfbnclfbmaaDoor
open Go.ChangeShapes Go.WideShapes Go.ChangeAt Go.RowKit
set_option linter.unusedVariables false
set_option linter.unusedSimpArgs false

theorem ag25 : TyAgg Tryd.prog 25 3 := ⟨⟨_, Tryd.underlying25⟩, by kernel_rfl⟩
theorem ag27 : TyAgg Tryd.prog 27 3 := ⟨⟨_, Tryd.underlying27⟩, by kernel_rfl⟩
theorem ag59 : TyAgg Tryd.prog 59 3 := ⟨⟨_, Tryd.underlying59⟩, by kernel_rfl⟩
theorem ag62 : TyAgg Tryd.prog 62 2 := ⟨⟨_, Tryd.underlying62⟩, by kernel_rfl⟩
theorem bd25_0_1_2 {x0 x1 x2 : Value} {w : World} (h0 : x0.cells = #[x0]) (h1 : x1.cells = #[x1]) (h2 : x2.cells = #[x2]) : (Instr.build 25 [(0, x0), (1, x1), (2, x2)].toArray).run Tryd.prog w = .ok (.agg #[x0, x1, x2]) w := by unfold Value.cells at h0 h1 h2; simp [go_sem, h0, h1, h2]
theorem bd25_1 {x1 : Value} {w : World} (h1 : x1.cells = #[x1]) : (Instr.build 25 [(1, x1)].toArray).run Tryd.prog w = .ok (.agg #[.int .i64 0, x1, .slice none 0 0]) w := by unfold Value.cells at h1; simp [go_sem, h1]
theorem bd25 {w : World}  : (Instr.build 25 [].toArray).run Tryd.prog w = .ok (.agg #[.int .i64 0, .int .i64 0, .slice none 0 0]) w := by simp [go_sem]
theorem bd27_0_1_2 {x0 x1 x2 : Value} {w : World} (h0 : x0.cells = #[x0]) (h1 : x1.cells = #[x1]) (h2 : x2.cells = #[x2]) : (Instr.build 27 [(0, x0), (1, x1), (2, x2)].toArray).run Tryd.prog w = .ok (.agg #[x0, x1, x2]) w := by unfold Value.cells at h0 h1 h2; simp [go_sem, h0, h1, h2]
theorem bd59_0_1_2 {x0 x1 x2 : Value} {w : World} (h0 : x0.cells = #[x0]) (h1 : x1.cells = #[x1]) (h2 : x2.cells = #[x2]) : (Instr.build 59 [(0, x0), (1, x1), (2, x2)].toArray).run Tryd.prog w = .ok (.agg #[x0, x1, x2]) w := by unfold Value.cells at h0 h1 h2; simp [go_sem, h0, h1, h2]
theorem bd62_0_1 {x0 x1 : Value} {w : World} (h0 : x0.cells = #[x0]) (h1 : x1.cells = #[x1]) : (Instr.build 62 [(0, x0), (1, x1)].toArray).run Tryd.prog w = .ok (.agg #[x0, x1]) w := by unfold Value.cells at h0 h1; simp [go_sem, h0, h1]
theorem bd62 {w : World}  : (Instr.build 62 [].toArray).run Tryd.prog w = .ok (.agg #[.int .i64 0, .slice none 0 0]) w := by simp [go_sem]
theorem bd67_0 {x0 : Value} {w : World} (h0 : x0.cells = #[x0]) : (Instr.build 67 [(0, x0)].toArray).run Tryd.prog w = .ok (.agg #[x0, .int .i64 0]) w := by unfold Value.cells at h0; simp [go_sem, h0]
theorem co10 : CallOk Tryd.prog 10 := ⟨by kernel_rfl⟩
theorem co11 : CallOk Tryd.prog 11 := ⟨by kernel_rfl⟩
theorem co12 : CallOk Tryd.prog 12 := ⟨by kernel_rfl⟩
theorem co13 : CallOk Tryd.prog 13 := ⟨by kernel_rfl⟩
theorem co14 : CallOk Tryd.prog 14 := ⟨by kernel_rfl⟩
theorem co15 : CallOk Tryd.prog 15 := ⟨by kernel_rfl⟩
theorem co16 : CallOk Tryd.prog 16 := ⟨by kernel_rfl⟩
theorem co17 : CallOk Tryd.prog 17 := ⟨by kernel_rfl⟩
theorem co18 : CallOk Tryd.prog 18 := ⟨by kernel_rfl⟩
theorem co19 : CallOk Tryd.prog 19 := ⟨by kernel_rfl⟩
theorem co20 : CallOk Tryd.prog 20 := ⟨by kernel_rfl⟩
theorem co21 : CallOk Tryd.prog 21 := ⟨by kernel_rfl⟩
theorem co22 : CallOk Tryd.prog 22 := ⟨by kernel_rfl⟩
theorem co23 : CallOk Tryd.prog 23 := ⟨by kernel_rfl⟩
theorem co24 : CallOk Tryd.prog 24 := ⟨by kernel_rfl⟩
theorem co25 : CallOk Tryd.prog 25 := ⟨by kernel_rfl⟩
theorem co26 : CallOk Tryd.prog 26 := ⟨by kernel_rfl⟩
theorem co27 : CallOk Tryd.prog 27 := ⟨by kernel_rfl⟩
theorem co28 : CallOk Tryd.prog 28 := ⟨by kernel_rfl⟩
theorem co29 : CallOk Tryd.prog 29 := ⟨by kernel_rfl⟩
theorem co30 : CallOk Tryd.prog 30 := ⟨by kernel_rfl⟩
theorem co31 : CallOk Tryd.prog 31 := ⟨by kernel_rfl⟩
theorem co32 : CallOk Tryd.prog 32 := ⟨by kernel_rfl⟩
theorem co33 : CallOk Tryd.prog 33 := ⟨by kernel_rfl⟩
theorem co34 : CallOk Tryd.prog 34 := ⟨by kernel_rfl⟩
theorem co35 : CallOk Tryd.prog 35 := ⟨by kernel_rfl⟩
theorem co36 : CallOk Tryd.prog 36 := ⟨by kernel_rfl⟩
theorem co37 : CallOk Tryd.prog 37 := ⟨by kernel_rfl⟩
theorem co38 : CallOk Tryd.prog 38 := ⟨by kernel_rfl⟩
theorem co39 : CallOk Tryd.prog 39 := ⟨by kernel_rfl⟩
theorem co43 : CallOk Tryd.prog 43 := ⟨by kernel_rfl⟩
theorem co6 : CallOk Tryd.prog 6 := ⟨by kernel_rfl⟩
theorem co7 : CallOk Tryd.prog 7 := ⟨by kernel_rfl⟩
theorem co8 : CallOk Tryd.prog 8 := ⟨by kernel_rfl⟩
theorem co9 : CallOk Tryd.prog 9 := ⟨by kernel_rfl⟩
theorem fl25_0 : TyFld Tryd.prog 25 0 0 := ⟨by kernel_rfl⟩
theorem fl25_1 : TyFld Tryd.prog 25 1 1 := ⟨by kernel_rfl⟩
theorem fl25_2 : TyFld Tryd.prog 25 2 2 := ⟨by kernel_rfl⟩
theorem fl27_0 : TyFld Tryd.prog 27 0 0 := ⟨by kernel_rfl⟩
theorem fl27_1 : TyFld Tryd.prog 27 1 1 := ⟨by kernel_rfl⟩
theorem fl27_2 : TyFld Tryd.prog 27 2 2 := ⟨by kernel_rfl⟩
theorem fl59_0 : TyFld Tryd.prog 59 0 0 := ⟨by kernel_rfl⟩
theorem fl59_1 : TyFld Tryd.prog 59 1 1 := ⟨by kernel_rfl⟩
theorem fl59_2 : TyFld Tryd.prog 59 2 2 := ⟨by kernel_rfl⟩
theorem fl62_0 : TyFld Tryd.prog 62 0 0 := ⟨by kernel_rfl⟩
theorem fl62_1 : TyFld Tryd.prog 62 1 1 := ⟨by kernel_rfl⟩
theorem fl67_0 : TyFld Tryd.prog 67 0 0 := ⟨by kernel_rfl⟩
theorem fl67_1 : TyFld Tryd.prog 67 1 1 := ⟨by kernel_rfl⟩
theorem inf27 : (Tryd.prog.info? 27).map (fun i => (i.zero, i.size, i.bytes)) = some (some (.agg #[.int .i64 0, .int .i64 0, .int .i64 0]), 3, 24) := by kernel_rfl
theorem inf3 : (Tryd.prog.info? 3).map (fun i => (i.zero, i.size, i.bytes)) = some (some (.int .i64 0), 1, 8) := by kernel_rfl
theorem one22 : TyOne Tryd.prog 22 := ⟨by kernel_rfl, by kernel_rfl⟩
theorem one23 : TyOne Tryd.prog 23 := ⟨by kernel_rfl, by kernel_rfl⟩
theorem one3 : TyOne Tryd.prog 3 := ⟨by kernel_rfl, by kernel_rfl⟩
theorem one5 : TyOne Tryd.prog 5 := ⟨by kernel_rfl, by kernel_rfl⟩
theorem one60 : TyOne Tryd.prog 60 := ⟨by kernel_rfl, by kernel_rfl⟩
theorem sz23 : (Tryd.prog.info? 23).map (·.size) = some 1 := by kernel_rfl
theorem sz25 : (Tryd.prog.info? 25).map (·.size) = some 3 := by kernel_rfl
theorem sz27 : (Tryd.prog.info? 27).map (·.size) = some 3 := by kernel_rfl
theorem sz3 : (Tryd.prog.info? 3).map (·.size) = some 1 := by kernel_rfl
theorem sz5 : (Tryd.prog.info? 5).map (·.size) = some 1 := by kernel_rfl
theorem sz59 : (Tryd.prog.info? 59).map (·.size) = some 3 := by kernel_rfl
theorem zr25 : (Tryd.prog.info? 25).bind (·.zero) = some (.agg #[.int .i64 0, .int .i64 0, .slice none 0 0]) := by kernel_rfl
theorem zr27 : (Tryd.prog.info? 27).bind (·.zero) = some (.agg #[.int .i64 0, .int .i64 0, .int .i64 0]) := by kernel_rfl
theorem zr59 : (Tryd.prog.info? 59).bind (·.zero) = some (.agg #[.int .i64 0, .int .i64 0, .int .i64 0]) := by kernel_rfl
theorem ba65_0_1 {x0 x1 : Value} {w : World} (h0 : x0.cells = #[x0]) (h1 : x1.cells = #[x1]) : (Instr.build 65 [(0, x0), (1, x1)].toArray).run Tryd.prog w = .ok (.agg #[x0, x1]) w := by unfold Value.cells at h0 h1; simp [go_sem, Instr.build, Instr.fill, h0, h1]
theorem bs23_1_0 {x0 : Value} {w : World} (h0 : x0.cells = #[x0]) : (Instr.buildSlice 23 1 [(0, x0)].toArray).run Tryd.prog w = .ok (.slice (some ⟨w.heap.size, 0, none⟩) 1 1) (w.alloc (.cells #[x0] 3)) := by unfold Value.cells at h0; simp [Instr.buildSlice, Instr.fill, newRow, Array.range_succ, go_sem, h0]
theorem bs23_3_0_0_0 {x0 x1 x2 : Value} {w : World} (h0 : x0.cells = #[x0]) (h1 : x1.cells = #[x1]) (h2 : x2.cells = #[x2]) : (Instr.buildSlice 23 3 [(0, x0), (1, x1), (2, x2)].toArray).run Tryd.prog w = .ok (.slice (some ⟨w.heap.size, 0, none⟩) 3 3) (w.alloc (.cells #[x0, x1, x2] 3)) := by unfold Value.cells at h0 h1 h2; simp [Instr.buildSlice, Instr.fill, newRow, Array.range_succ, go_sem, h0, h1, h2]
theorem bs23_5_0_0_0_0_0 {x0 x1 x2 x3 x4 : Value} {w : World} (h0 : x0.cells = #[x0]) (h1 : x1.cells = #[x1]) (h2 : x2.cells = #[x2]) (h3 : x3.cells = #[x3]) (h4 : x4.cells = #[x4]) : (Instr.buildSlice 23 5 [(0, x0), (1, x1), (2, x2), (3, x3), (4, x4)].toArray).run Tryd.prog w = .ok (.slice (some ⟨w.heap.size, 0, none⟩) 5 5) (w.alloc (.cells #[x0, x1, x2, x3, x4] 3)) := by unfold Value.cells at h0 h1 h2 h3 h4; simp [Instr.buildSlice, Instr.fill, newRow, Array.range_succ, go_sem, h0, h1, h2, h3, h4]
theorem bs36_1_3 {y0_0 y0_1 y0_2 : Value} {w : World}  : (Instr.buildSlice 36 1 [(0, .agg #[y0_0, y0_1, y0_2])].toArray).run Tryd.prog w = .ok (.slice (some ⟨w.heap.size, 0, none⟩) 1 1) (w.alloc (.cells #[y0_0, y0_1, y0_2] 27)) := by simp [Instr.buildSlice, Instr.fill, newRow, Array.range_succ, go_sem]
theorem bs60_1_3 {y0_0 y0_1 y0_2 : Value} {w : World}  : (Instr.buildSlice 60 1 [(0, .agg #[y0_0, y0_1, y0_2])].toArray).run Tryd.prog w = .ok (.slice (some ⟨w.heap.size, 0, none⟩) 1 1) (w.alloc (.cells #[y0_0, y0_1, y0_2] 59)) := by simp [Instr.buildSlice, Instr.fill, newRow, Array.range_succ, go_sem]
end Go.Proofs.YthpmmfbnclfbmaaDoor
