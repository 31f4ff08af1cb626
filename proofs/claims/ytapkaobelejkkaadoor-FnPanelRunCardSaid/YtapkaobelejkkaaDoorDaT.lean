/- Closed facts on types. -/
import Derived.Test.YtapkaobelejkkaaDoorDaM
namespace Go.Proofs.YtapkaobelejkkaaDoor
open Go.ChangeShapes Go.WideShapes Go.ChangeAt Go.RowKit
set_option linter.unusedVariables false
set_option linter.unusedSimpArgs false

theorem ag25 : TyAgg Tryd.prog 25 5 := ⟨⟨_, Tryd.underlying25⟩, by kernel_rfl⟩
theorem ag27 : TyAgg Tryd.prog 27 4 := ⟨⟨_, Tryd.underlying27⟩, by kernel_rfl⟩
theorem ag50 : TyAgg Tryd.prog 50 2 := ⟨⟨_, Tryd.underlying50⟩, by kernel_rfl⟩
theorem ag60 : TyAgg Tryd.prog 60 3 := ⟨⟨_, Tryd.underlying60⟩, by kernel_rfl⟩
theorem ag63 : TyAgg Tryd.prog 63 2 := ⟨⟨_, Tryd.underlying63⟩, by kernel_rfl⟩
theorem bd25_0_1 {x0 x1 : Value} {w : World} (h0 : x0.cells = #[x0]) (h1 : x1.cells = #[x1]) : (Instr.build 25 [(0, x0), (1, x1)].toArray).run Tryd.prog w = .ok (.agg #[x0, x1, .int .i64 0, .bool false, .int .i64 0]) w := by unfold Value.cells at h0 h1; simp [go_sem, h0, h1]
theorem bd25_1 {x1 : Value} {w : World} (h1 : x1.cells = #[x1]) : (Instr.build 25 [(1, x1)].toArray).run Tryd.prog w = .ok (.agg #[.slice none 0 0, x1, .int .i64 0, .bool false, .int .i64 0]) w := by unfold Value.cells at h1; simp [go_sem, h1]
theorem bd25 {w : World}  : (Instr.build 25 [].toArray).run Tryd.prog w = .ok (.agg #[.slice none 0 0, .int .i64 0, .int .i64 0, .bool false, .int .i64 0]) w := by simp [go_sem]
theorem bd27_0_1_2_3 {x0 x1 x2 x3 : Value} {w : World} (h0 : x0.cells = #[x0]) (h1 : x1.cells = #[x1]) (h2 : x2.cells = #[x2]) (h3 : x3.cells = #[x3]) : (Instr.build 27 [(0, x0), (1, x1), (2, x2), (3, x3)].toArray).run Tryd.prog w = .ok (.agg #[x0, x1, x2, x3]) w := by unfold Value.cells at h0 h1 h2 h3; simp [go_sem, h0, h1, h2, h3]
theorem bd50_0_1 {x0 x1 : Value} {w : World} (h0 : x0.cells = #[x0]) (h1 : x1.cells = #[x1]) : (Instr.build 50 [(0, x0), (1, x1)].toArray).run Tryd.prog w = .ok (.agg #[x0, x1]) w := by unfold Value.cells at h0 h1; simp [go_sem, h0, h1]
theorem bd60_0_1_2 {x0 x1 x2 : Value} {w : World} (h0 : x0.cells = #[x0]) (h1 : x1.cells = #[x1]) (h2 : x2.cells = #[x2]) : (Instr.build 60 [(0, x0), (1, x1), (2, x2)].toArray).run Tryd.prog w = .ok (.agg #[x0, x1, x2]) w := by unfold Value.cells at h0 h1 h2; simp [go_sem, h0, h1, h2]
theorem bd63_0_1 {x0 x1 : Value} {w : World} (h0 : x0.cells = #[x0]) (h1 : x1.cells = #[x1]) : (Instr.build 63 [(0, x0), (1, x1)].toArray).run Tryd.prog w = .ok (.agg #[x0, x1]) w := by unfold Value.cells at h0 h1; simp [go_sem, h0, h1]
theorem bd63 {w : World}  : (Instr.build 63 [].toArray).run Tryd.prog w = .ok (.agg #[.int .i64 0, .slice none 0 0]) w := by simp [go_sem]
theorem bd67_0 {x0 : Value} {w : World} (h0 : x0.cells = #[x0]) : (Instr.build 67 [(0, x0)].toArray).run Tryd.prog w = .ok (.agg #[x0, .int .i64 0]) w := by unfold Value.cells at h0; simp [go_sem, h0]
theorem co10 : CallOk Tryd.prog 10 := ⟨by kernel_rfl⟩
theorem co11 : CallOk Tryd.prog 11 := ⟨by kernel_rfl⟩
theorem co12 : CallOk Tryd.prog 12 := ⟨by kernel_rfl⟩
theorem co13 : CallOk Tryd.prog 13 := ⟨by kernel_rfl⟩
theorem co14 : CallOk Tryd.prog 14 := ⟨by kernel_rfl⟩
theorem co15 : CallOk Tryd.prog 15 := ⟨by kernel_rfl⟩
theorem co16 : CallOk Tryd.prog 16 := ⟨by kernel_rfl⟩
theorem co17 : CallOk Tryd.prog 17 := ⟨by kernel_rfl⟩
theorem co18 : CallOk Tryd.prog 18 := ⟨by kernel_rfl⟩
theorem co19 : CallOk Tryd.prog 19 := ⟨by kernel_rfl⟩
theorem co20 : CallOk Tryd.prog 20 := ⟨by kernel_rfl⟩
theorem co21 : CallOk Tryd.prog 21 := ⟨by kernel_rfl⟩
theorem co22 : CallOk Tryd.prog 22 := ⟨by kernel_rfl⟩
theorem co23 : CallOk Tryd.prog 23 := ⟨by kernel_rfl⟩
theorem co24 : CallOk Tryd.prog 24 := ⟨by kernel_rfl⟩
theorem co25 : CallOk Tryd.prog 25 := ⟨by kernel_rfl⟩
theorem co26 : CallOk Tryd.prog 26 := ⟨by kernel_rfl⟩
theorem co27 : CallOk Tryd.prog 27 := ⟨by kernel_rfl⟩
theorem co28 : CallOk Tryd.prog 28 := ⟨by kernel_rfl⟩
theorem co29 : CallOk Tryd.prog 29 := ⟨by kernel_rfl⟩
theorem co30 : CallOk Tryd.prog 30 := ⟨by kernel_rfl⟩
theorem co31 : CallOk Tryd.prog 31 := ⟨by kernel_rfl⟩
theorem co32 : CallOk Tryd.prog 32 := ⟨by kernel_rfl⟩
theorem co33 : CallOk Tryd.prog 33 := ⟨by kernel_rfl⟩
theorem co34 : CallOk Tryd.prog 34 := ⟨by kernel_rfl⟩
theorem co35 : CallOk Tryd.prog 35 := ⟨by kernel_rfl⟩
theorem co36 : CallOk Tryd.prog 36 := ⟨by kernel_rfl⟩
theorem co37 : CallOk Tryd.prog 37 := ⟨by kernel_rfl⟩
theorem co38 : CallOk Tryd.prog 38 := ⟨by kernel_rfl⟩
theorem co39 : CallOk Tryd.prog 39 := ⟨by kernel_rfl⟩
theorem co40 : CallOk Tryd.prog 40 := ⟨by kernel_rfl⟩
theorem co44 : CallOk Tryd.prog 44 := ⟨by kernel_rfl⟩
theorem co6 : CallOk Tryd.prog 6 := ⟨by kernel_rfl⟩
theorem co7 : CallOk Tryd.prog 7 := ⟨by kernel_rfl⟩
theorem co8 : CallOk Tryd.prog 8 := ⟨by kernel_rfl⟩
theorem co9 : CallOk Tryd.prog 9 := ⟨by kernel_rfl⟩
theorem fl25_0 : TyFld Tryd.prog 25 0 0 := ⟨by kernel_rfl⟩
theorem fl25_1 : TyFld Tryd.prog 25 1 1 := ⟨by kernel_rfl⟩
theorem fl25_2 : TyFld Tryd.prog 25 2 2 := ⟨by kernel_rfl⟩
theorem fl25_3 : TyFld Tryd.prog 25 3 3 := ⟨by kernel_rfl⟩
theorem fl25_4 : TyFld Tryd.prog 25 4 4 := ⟨by kernel_rfl⟩
theorem fl27_0 : TyFld Tryd.prog 27 0 0 := ⟨by kernel_rfl⟩
theorem fl27_1 : TyFld Tryd.prog 27 1 1 := ⟨by kernel_rfl⟩
theorem fl27_2 : TyFld Tryd.prog 27 2 2 := ⟨by kernel_rfl⟩
theorem fl27_3 : TyFld Tryd.prog 27 3 3 := ⟨by kernel_rfl⟩
theorem fl50_0 : TyFld Tryd.prog 50 0 0 := ⟨by kernel_rfl⟩
theorem fl50_1 : TyFld Tryd.prog 50 1 1 := ⟨by kernel_rfl⟩
theorem fl60_0 : TyFld Tryd.prog 60 0 0 := ⟨by kernel_rfl⟩
theorem fl60_1 : TyFld Tryd.prog 60 1 1 := ⟨by kernel_rfl⟩
theorem fl60_2 : TyFld Tryd.prog 60 2 2 := ⟨by kernel_rfl⟩
theorem fl63_0 : TyFld Tryd.prog 63 0 0 := ⟨by kernel_rfl⟩
theorem fl63_1 : TyFld Tryd.prog 63 1 1 := ⟨by kernel_rfl⟩
theorem fl67_0 : TyFld Tryd.prog 67 0 0 := ⟨by kernel_rfl⟩
theorem fl67_1 : TyFld Tryd.prog 67 1 1 := ⟨by kernel_rfl⟩
theorem inf27 : (Tryd.prog.info? 27).map (fun i => (i.zero, i.size, i.bytes)) = some (some (.agg #[.int .i64 0, .int .i64 0, .int .i64 0, .bool false]), 4, 32) := by kernel_rfl
theorem inf3 : (Tryd.prog.info? 3).map (fun i => (i.zero, i.size, i.bytes)) = some (some (.int .i64 0), 1, 8) := by kernel_rfl
theorem inf4 : (Tryd.prog.info? 4).map (fun i => (i.zero, i.size, i.bytes)) = some (some (.bool false), 1, 1) := by kernel_rfl
theorem inf50 : (Tryd.prog.info? 50).map (fun i => (i.zero, i.size, i.bytes)) = some (some (.agg #[.int .i64 0, .bool false]), 2, 16) := by kernel_rfl
theorem one22 : TyOne Tryd.prog 22 := ⟨by kernel_rfl, by kernel_rfl⟩
theorem one23 : TyOne Tryd.prog 23 := ⟨by kernel_rfl, by kernel_rfl⟩
theorem one3 : TyOne Tryd.prog 3 := ⟨by kernel_rfl, by kernel_rfl⟩
theorem one4 : TyOne Tryd.prog 4 := ⟨by kernel_rfl, by kernel_rfl⟩
theorem one5 : TyOne Tryd.prog 5 := ⟨by kernel_rfl, by kernel_rfl⟩
theorem one61 : TyOne Tryd.prog 61 := ⟨by kernel_rfl, by kernel_rfl⟩
theorem sz23 : (Tryd.prog.info? 23).map (·.size) = some 1 := by kernel_rfl
theorem sz25 : (Tryd.prog.info? 25).map (·.size) = some 5 := by kernel_rfl
theorem sz27 : (Tryd.prog.info? 27).map (·.size) = some 4 := by kernel_rfl
theorem sz3 : (Tryd.prog.info? 3).map (·.size) = some 1 := by kernel_rfl
theorem sz4 : (Tryd.prog.info? 4).map (·.size) = some 1 := by kernel_rfl
theorem sz5 : (Tryd.prog.info? 5).map (·.size) = some 1 := by kernel_rfl
theorem sz50 : (Tryd.prog.info? 50).map (·.size) = some 2 := by kernel_rfl
theorem sz60 : (Tryd.prog.info? 60).map (·.size) = some 3 := by kernel_rfl
theorem zr25 : (Tryd.prog.info? 25).bind (·.zero) = some (.agg #[.slice none 0 0, .int .i64 0, .int .i64 0, .bool false, .int .i64 0]) := by kernel_rfl
theorem zr27 : (Tryd.prog.info? 27).bind (·.zero) = some (.agg #[.int .i64 0, .int .i64 0, .int .i64 0, .bool false]) := by kernel_rfl
theorem zr60 : (Tryd.prog.info? 60).bind (·.zero) = some (.agg #[.int .i64 0, .int .i64 0, .int .i64 0]) := by kernel_rfl
theorem bs23_1_0 {x0 : Value} {w : World} (h0 : x0.cells = #[x0]) : (Instr.buildSlice 23 1 [(0, x0)].toArray).run Tryd.prog w = .ok (.slice (some ⟨w.heap.size, 0, none⟩) 1 1) (w.alloc (.cells #[x0] 4)) := by unfold Value.cells at h0; simp [Instr.buildSlice, Instr.fill, newRow, Array.range_succ, go_sem, h0]
theorem bs35_1_0 {x0 : Value} {w : World} (h0 : x0.cells = #[x0]) : (Instr.buildSlice 35 1 [(0, x0)].toArray).run Tryd.prog w = .ok (.slice (some ⟨w.heap.size, 0, none⟩) 1 1) (w.alloc (.cells #[x0] 3)) := by unfold Value.cells at h0; simp [Instr.buildSlice, Instr.fill, newRow, Array.range_succ, go_sem, h0]
theorem bs35_2_0_0 {x0 x1 : Value} {w : World} (h0 : x0.cells = #[x0]) (h1 : x1.cells = #[x1]) : (Instr.buildSlice 35 2 [(0, x0), (1, x1)].toArray).run Tryd.prog w = .ok (.slice (some ⟨w.heap.size, 0, none⟩) 2 2) (w.alloc (.cells #[x0, x1] 3)) := by unfold Value.cells at h0 h1; simp [Instr.buildSlice, Instr.fill, newRow, Array.range_succ, go_sem, h0, h1]
theorem bs35_4_0_0_0_0 {x0 x1 x2 x3 : Value} {w : World} (h0 : x0.cells = #[x0]) (h1 : x1.cells = #[x1]) (h2 : x2.cells = #[x2]) (h3 : x3.cells = #[x3]) : (Instr.buildSlice 35 4 [(0, x0), (1, x1), (2, x2), (3, x3)].toArray).run Tryd.prog w = .ok (.slice (some ⟨w.heap.size, 0, none⟩) 4 4) (w.alloc (.cells #[x0, x1, x2, x3] 3)) := by unfold Value.cells at h0 h1 h2 h3; simp [Instr.buildSlice, Instr.fill, newRow, Array.range_succ, go_sem, h0, h1, h2, h3]
theorem bs39_1_4 {y0_0 y0_1 y0_2 y0_3 : Value} {w : World}  : (Instr.buildSlice 39 1 [(0, .agg #[y0_0, y0_1, y0_2, y0_3])].toArray).run Tryd.prog w = .ok (.slice (some ⟨w.heap.size, 0, none⟩) 1 1) (w.alloc (.cells #[y0_0, y0_1, y0_2, y0_3] 27)) := by simp [Instr.buildSlice, Instr.fill, newRow, Array.range_succ, go_sem]
theorem bs46_1_2 {y0_0 y0_1 : Value} {w : World}  : (Instr.buildSlice 46 1 [(0, .agg #[y0_0, y0_1])].toArray).run Tryd.prog w = .ok (.slice (some ⟨w.heap.size, 0, none⟩) 1 1) (w.alloc (.cells #[y0_0, y0_1] 50)) := by simp [Instr.buildSlice, Instr.fill, newRow, Array.range_succ, go_sem]
theorem bs61_1_3 {y0_0 y0_1 y0_2 : Value} {w : World}  : (Instr.buildSlice 61 1 [(0, .agg #[y0_0, y0_1, y0_2])].toArray).run Tryd.prog w = .ok (.slice (some ⟨w.heap.size, 0, none⟩) 1 1) (w.alloc (.cells #[y0_0, y0_1, y0_2] 60)) := by simp [Instr.buildSlice, Instr.fill, newRow, Array.range_succ, go_sem]
theorem eg50 : Tryd.prog.eqGuardType Tryd.prog.depth 50 = false := by kernel_rfl
theorem eq50 {a0 b0 : Int} {a1 b1 : Bool} {w : World} : (Op.equalIn 10000 50 (.agg #[.int .i64 a0, .bool a1]) (.agg #[.int .i64 b0, .bool b1])).run Tryd.prog w = .ok ((a0 == b0) && (a1 == b1)) w := by
  simp [go_sem]
  (repeat' split) <;> simp_all
end Go.Proofs.YtapkaobelejkkaaDoor
