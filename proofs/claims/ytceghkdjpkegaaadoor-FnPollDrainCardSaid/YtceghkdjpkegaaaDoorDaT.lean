/- Closed facts on types. -/
import Derived.Test.YtceghkdjpkegaaaDoorDaM
namespace Go.Proofs.YtceghkdjpkegaaaDoor
open Go.ChangeShapes Go.WideShapes Go.ChangeAt Go.RowKit
set_option linter.unusedVariables false
set_option linter.unusedSimpArgs false

theorem ag25 : TyAgg Tryd.prog 25 8 := ⟨⟨_, Tryd.underlying25⟩, by kernel_rfl⟩
theorem ag31 : TyAgg Tryd.prog 31 2 := ⟨⟨_, Tryd.underlying31⟩, by kernel_rfl⟩
theorem ag52 : TyAgg Tryd.prog 52 3 := ⟨⟨_, Tryd.underlying52⟩, by kernel_rfl⟩
theorem ag55 : TyAgg Tryd.prog 55 2 := ⟨⟨_, Tryd.underlying55⟩, by kernel_rfl⟩
theorem bd25_2_4_5_6_7 {x2 x4 x5 x6 x7 : Value} {w : World} (h2 : x2.cells = #[x2]) (h4 : x4.cells = #[x4]) (h5 : x5.cells = #[x5]) (h6 : x6.cells = #[x6]) (h7 : x7.cells = #[x7]) : (Instr.build 25 [(2, x2), (4, x4), (5, x5), (6, x6), (7, x7)].toArray).run Tryd.prog w = .ok (.agg #[.int .i64 0, .slice none 0 0, x2, .slice none 0 0, x4, x5, x6, x7]) w := by unfold Value.cells at h2 h4 h5 h6 h7; simp [go_sem, h2, h4, h5, h6, h7]
theorem bd25 {w : World}  : (Instr.build 25 [].toArray).run Tryd.prog w = .ok (.agg #[.int .i64 0, .slice none 0 0, .int .i64 0, .slice none 0 0, .int .i64 0, .int .i64 0, .int .i64 0, .int .i64 0]) w := by simp [go_sem]
theorem bd31_0_1 {x0 x1 : Value} {w : World} (h0 : x0.cells = #[x0]) (h1 : x1.cells = #[x1]) : (Instr.build 31 [(0, x0), (1, x1)].toArray).run Tryd.prog w = .ok (.agg #[x0, x1]) w := by unfold Value.cells at h0 h1; simp [go_sem, h0, h1]
theorem bd31_0 {x0 : Value} {w : World} (h0 : x0.cells = #[x0]) : (Instr.build 31 [(0, x0)].toArray).run Tryd.prog w = .ok (.agg #[x0, .int .i64 0]) w := by unfold Value.cells at h0; simp [go_sem, h0]
theorem bd52_0_1_2 {x0 x1 x2 : Value} {w : World} (h0 : x0.cells = #[x0]) (h1 : x1.cells = #[x1]) (h2 : x2.cells = #[x2]) : (Instr.build 52 [(0, x0), (1, x1), (2, x2)].toArray).run Tryd.prog w = .ok (.agg #[x0, x1, x2]) w := by unfold Value.cells at h0 h1 h2; simp [go_sem, h0, h1, h2]
theorem bd55_0_1 {x0 x1 : Value} {w : World} (h0 : x0.cells = #[x0]) (h1 : x1.cells = #[x1]) : (Instr.build 55 [(0, x0), (1, x1)].toArray).run Tryd.prog w = .ok (.agg #[x0, x1]) w := by unfold Value.cells at h0 h1; simp [go_sem, h0, h1]
theorem bd55 {w : World}  : (Instr.build 55 [].toArray).run Tryd.prog w = .ok (.agg #[.int .i64 0, .slice none 0 0]) w := by simp [go_sem]
theorem bd77_0 {x0 : Value} {w : World} (h0 : x0.cells = #[x0]) : (Instr.build 77 [(0, x0)].toArray).run Tryd.prog w = .ok (.agg #[x0, .int .i64 0]) w := by unfold Value.cells at h0; simp [go_sem, h0]
theorem co10 : CallOk Tryd.prog 10 := ⟨by kernel_rfl⟩
theorem co11 : CallOk Tryd.prog 11 := ⟨by kernel_rfl⟩
theorem co12 : CallOk Tryd.prog 12 := ⟨by kernel_rfl⟩
theorem co13 : CallOk Tryd.prog 13 := ⟨by kernel_rfl⟩
theorem co14 : CallOk Tryd.prog 14 := ⟨by kernel_rfl⟩
theorem co15 : CallOk Tryd.prog 15 := ⟨by kernel_rfl⟩
theorem co16 : CallOk Tryd.prog 16 := ⟨by kernel_rfl⟩
theorem co17 : CallOk Tryd.prog 17 := ⟨by kernel_rfl⟩
theorem co18 : CallOk Tryd.prog 18 := ⟨by kernel_rfl⟩
theorem co19 : CallOk Tryd.prog 19 := ⟨by kernel_rfl⟩
theorem co20 : CallOk Tryd.prog 20 := ⟨by kernel_rfl⟩
theorem co21 : CallOk Tryd.prog 21 := ⟨by kernel_rfl⟩
theorem co22 : CallOk Tryd.prog 22 := ⟨by kernel_rfl⟩
theorem co23 : CallOk Tryd.prog 23 := ⟨by kernel_rfl⟩
theorem co24 : CallOk Tryd.prog 24 := ⟨by kernel_rfl⟩
theorem co25 : CallOk Tryd.prog 25 := ⟨by kernel_rfl⟩
theorem co26 : CallOk Tryd.prog 26 := ⟨by kernel_rfl⟩
theorem co27 : CallOk Tryd.prog 27 := ⟨by kernel_rfl⟩
theorem co28 : CallOk Tryd.prog 28 := ⟨by kernel_rfl⟩
theorem co29 : CallOk Tryd.prog 29 := ⟨by kernel_rfl⟩
theorem co30 : CallOk Tryd.prog 30 := ⟨by kernel_rfl⟩
theorem co31 : CallOk Tryd.prog 31 := ⟨by kernel_rfl⟩
theorem co32 : CallOk Tryd.prog 32 := ⟨by kernel_rfl⟩
theorem co33 : CallOk Tryd.prog 33 := ⟨by kernel_rfl⟩
theorem co34 : CallOk Tryd.prog 34 := ⟨by kernel_rfl⟩
theorem co35 : CallOk Tryd.prog 35 := ⟨by kernel_rfl⟩
theorem co36 : CallOk Tryd.prog 36 := ⟨by kernel_rfl⟩
theorem co37 : CallOk Tryd.prog 37 := ⟨by kernel_rfl⟩
theorem co38 : CallOk Tryd.prog 38 := ⟨by kernel_rfl⟩
theorem co39 : CallOk Tryd.prog 39 := ⟨by kernel_rfl⟩
theorem co40 : CallOk Tryd.prog 40 := ⟨by kernel_rfl⟩
theorem co41 : CallOk Tryd.prog 41 := ⟨by kernel_rfl⟩
theorem co42 : CallOk Tryd.prog 42 := ⟨by kernel_rfl⟩
theorem co43 : CallOk Tryd.prog 43 := ⟨by kernel_rfl⟩
theorem co44 : CallOk Tryd.prog 44 := ⟨by kernel_rfl⟩
theorem co45 : CallOk Tryd.prog 45 := ⟨by kernel_rfl⟩
theorem co49 : CallOk Tryd.prog 49 := ⟨by kernel_rfl⟩
theorem co50 : CallOk Tryd.prog 50 := ⟨by kernel_rfl⟩
theorem co51 : CallOk Tryd.prog 51 := ⟨by kernel_rfl⟩
theorem co52 : CallOk Tryd.prog 52 := ⟨by kernel_rfl⟩
theorem co53 : CallOk Tryd.prog 53 := ⟨by kernel_rfl⟩
theorem co7 : CallOk Tryd.prog 7 := ⟨by kernel_rfl⟩
theorem co8 : CallOk Tryd.prog 8 := ⟨by kernel_rfl⟩
theorem co9 : CallOk Tryd.prog 9 := ⟨by kernel_rfl⟩
theorem fl25_0 : TyFld Tryd.prog 25 0 0 := ⟨by kernel_rfl⟩
theorem fl25_1 : TyFld Tryd.prog 25 1 1 := ⟨by kernel_rfl⟩
theorem fl25_2 : TyFld Tryd.prog 25 2 2 := ⟨by kernel_rfl⟩
theorem fl25_3 : TyFld Tryd.prog 25 3 3 := ⟨by kernel_rfl⟩
theorem fl25_4 : TyFld Tryd.prog 25 4 4 := ⟨by kernel_rfl⟩
theorem fl25_5 : TyFld Tryd.prog 25 5 5 := ⟨by kernel_rfl⟩
theorem fl25_6 : TyFld Tryd.prog 25 6 6 := ⟨by kernel_rfl⟩
theorem fl25_7 : TyFld Tryd.prog 25 7 7 := ⟨by kernel_rfl⟩
theorem fl31_0 : TyFld Tryd.prog 31 0 0 := ⟨by kernel_rfl⟩
theorem fl31_1 : TyFld Tryd.prog 31 1 1 := ⟨by kernel_rfl⟩
theorem fl52_0 : TyFld Tryd.prog 52 0 0 := ⟨by kernel_rfl⟩
theorem fl52_1 : TyFld Tryd.prog 52 1 1 := ⟨by kernel_rfl⟩
theorem fl52_2 : TyFld Tryd.prog 52 2 2 := ⟨by kernel_rfl⟩
theorem fl55_0 : TyFld Tryd.prog 55 0 0 := ⟨by kernel_rfl⟩
theorem fl55_1 : TyFld Tryd.prog 55 1 1 := ⟨by kernel_rfl⟩
theorem fl77_0 : TyFld Tryd.prog 77 0 0 := ⟨by kernel_rfl⟩
theorem fl77_1 : TyFld Tryd.prog 77 1 1 := ⟨by kernel_rfl⟩
theorem inf3 : (Tryd.prog.info? 3).map (fun i => (i.zero, i.size, i.bytes)) = some (some (.int .i64 0), 1, 8) := by kernel_rfl
theorem inf31 : (Tryd.prog.info? 31).map (fun i => (i.zero, i.size, i.bytes)) = some (some (.agg #[.int .i64 0, .int .i64 0]), 2, 16) := by kernel_rfl
theorem one22 : TyOne Tryd.prog 22 := ⟨by kernel_rfl, by kernel_rfl⟩
theorem one23 : TyOne Tryd.prog 23 := ⟨by kernel_rfl, by kernel_rfl⟩
theorem one3 : TyOne Tryd.prog 3 := ⟨by kernel_rfl, by kernel_rfl⟩
theorem one5 : TyOne Tryd.prog 5 := ⟨by kernel_rfl, by kernel_rfl⟩
theorem one53 : TyOne Tryd.prog 53 := ⟨by kernel_rfl, by kernel_rfl⟩
theorem sz23 : (Tryd.prog.info? 23).map (·.size) = some 1 := by kernel_rfl
theorem sz25 : (Tryd.prog.info? 25).map (·.size) = some 8 := by kernel_rfl
theorem sz3 : (Tryd.prog.info? 3).map (·.size) = some 1 := by kernel_rfl
theorem sz31 : (Tryd.prog.info? 31).map (·.size) = some 2 := by kernel_rfl
theorem sz5 : (Tryd.prog.info? 5).map (·.size) = some 1 := by kernel_rfl
theorem sz52 : (Tryd.prog.info? 52).map (·.size) = some 3 := by kernel_rfl
theorem zr25 : (Tryd.prog.info? 25).bind (·.zero) = some (.agg #[.int .i64 0, .slice none 0 0, .int .i64 0, .slice none 0 0, .int .i64 0, .int .i64 0, .int .i64 0, .int .i64 0]) := by kernel_rfl
theorem zr31 : (Tryd.prog.info? 31).bind (·.zero) = some (.agg #[.int .i64 0, .int .i64 0]) := by kernel_rfl
theorem zr52 : (Tryd.prog.info? 52).bind (·.zero) = some (.agg #[.int .i64 0, .int .i64 0, .int .i64 0]) := by kernel_rfl
theorem bs23_1_0 {x0 : Value} {w : World} (h0 : x0.cells = #[x0]) : (Instr.buildSlice 23 1 [(0, x0)].toArray).run Tryd.prog w = .ok (.slice (some ⟨w.heap.size, 0, none⟩) 1 1) (w.alloc (.cells #[x0] 3)) := by unfold Value.cells at h0; simp [Instr.buildSlice, Instr.fill, newRow, Array.range_succ, go_sem, h0]
theorem bs23_10_0_0_0_0_0_0_0_0_0_0 {x0 x1 x2 x3 x4 x5 x6 x7 x8 x9 : Value} {w : World} (h0 : x0.cells = #[x0]) (h1 : x1.cells = #[x1]) (h2 : x2.cells = #[x2]) (h3 : x3.cells = #[x3]) (h4 : x4.cells = #[x4]) (h5 : x5.cells = #[x5]) (h6 : x6.cells = #[x6]) (h7 : x7.cells = #[x7]) (h8 : x8.cells = #[x8]) (h9 : x9.cells = #[x9]) : (Instr.buildSlice 23 10 [(0, x0), (1, x1), (2, x2), (3, x3), (4, x4), (5, x5), (6, x6), (7, x7), (8, x8), (9, x9)].toArray).run Tryd.prog w = .ok (.slice (some ⟨w.heap.size, 0, none⟩) 10 10) (w.alloc (.cells #[x0, x1, x2, x3, x4, x5, x6, x7, x8, x9] 3)) := by unfold Value.cells at h0 h1 h2 h3 h4 h5 h6 h7 h8 h9; simp [Instr.buildSlice, Instr.fill, newRow, Array.range_succ, go_sem, h0, h1, h2, h3, h4, h5, h6, h7, h8, h9]
theorem bs23_2_0_0 {x0 x1 : Value} {w : World} (h0 : x0.cells = #[x0]) (h1 : x1.cells = #[x1]) : (Instr.buildSlice 23 2 [(0, x0), (1, x1)].toArray).run Tryd.prog w = .ok (.slice (some ⟨w.heap.size, 0, none⟩) 2 2) (w.alloc (.cells #[x0, x1] 3)) := by unfold Value.cells at h0 h1; simp [Instr.buildSlice, Instr.fill, newRow, Array.range_succ, go_sem, h0, h1]
theorem bs38_1_2 {y0_0 y0_1 : Value} {w : World}  : (Instr.buildSlice 38 1 [(0, .agg #[y0_0, y0_1])].toArray).run Tryd.prog w = .ok (.slice (some ⟨w.heap.size, 0, none⟩) 1 1) (w.alloc (.cells #[y0_0, y0_1] 31)) := by simp [Instr.buildSlice, Instr.fill, newRow, Array.range_succ, go_sem]
theorem bs38_3_2_2_2 {y0_0 y0_1 y1_0 y1_1 y2_0 y2_1 : Value} {w : World}  : (Instr.buildSlice 38 3 [(0, .agg #[y0_0, y0_1]), (1, .agg #[y1_0, y1_1]), (2, .agg #[y2_0, y2_1])].toArray).run Tryd.prog w = .ok (.slice (some ⟨w.heap.size, 0, none⟩) 3 3) (w.alloc (.cells #[y0_0, y0_1, y1_0, y1_1, y2_0, y2_1] 31)) := by simp [Instr.buildSlice, Instr.fill, newRow, Array.range_succ, go_sem]
theorem bs53_1_3 {y0_0 y0_1 y0_2 : Value} {w : World}  : (Instr.buildSlice 53 1 [(0, .agg #[y0_0, y0_1, y0_2])].toArray).run Tryd.prog w = .ok (.slice (some ⟨w.heap.size, 0, none⟩) 1 1) (w.alloc (.cells #[y0_0, y0_1, y0_2] 52)) := by simp [Instr.buildSlice, Instr.fill, newRow, Array.range_succ, go_sem]
theorem bs80_2_0_0 {x0 x1 : Value} {w : World} (h0 : x0.cells = #[x0]) (h1 : x1.cells = #[x1]) : (Instr.buildSlice 80 2 [(0, x0), (1, x1)].toArray).run Tryd.prog w = .ok (.slice (some ⟨w.heap.size, 0, none⟩) 2 2) (w.alloc (.cells #[x0, x1] 23)) := by unfold Value.cells at h0 h1; simp [Instr.buildSlice, Instr.fill, newRow, Array.range_succ, go_sem, h0, h1]
theorem bs80_3_0_0_0 {x0 x1 x2 : Value} {w : World} (h0 : x0.cells = #[x0]) (h1 : x1.cells = #[x1]) (h2 : x2.cells = #[x2]) : (Instr.buildSlice 80 3 [(0, x0), (1, x1), (2, x2)].toArray).run Tryd.prog w = .ok (.slice (some ⟨w.heap.size, 0, none⟩) 3 3) (w.alloc (.cells #[x0, x1, x2] 23)) := by unfold Value.cells at h0 h1 h2; simp [Instr.buildSlice, Instr.fill, newRow, Array.range_succ, go_sem, h0, h1, h2]
end Go.Proofs.YtceghkdjpkegaaaDoor
