/- Closed facts on types. -/
import Derived.Test.YtnoeliaefhldmaaDoorDaM
namespace Go.Proofs.YtnoeliaefhldmaaDoor
open Go.ChangeShapes Go.WideShapes Go.ChangeAt Go.RowKit
set_option linter.unusedVariables false
set_option linter.unusedSimpArgs false

theorem ag26 : TyAgg Tryd.prog 26 3 := ⟨⟨_, Tryd.underlying26⟩, by kernel_rfl⟩
theorem ag35 : TyAgg Tryd.prog 35 3 := ⟨⟨_, Tryd.underlying35⟩, by kernel_rfl⟩
theorem ag48 : TyAgg Tryd.prog 48 2 := ⟨⟨_, Tryd.underlying48⟩, by kernel_rfl⟩
theorem ag63 : TyAgg Tryd.prog 63 3 := ⟨⟨_, Tryd.underlying63⟩, by kernel_rfl⟩
theorem ag66 : TyAgg Tryd.prog 66 2 := ⟨⟨_, Tryd.underlying66⟩, by kernel_rfl⟩
theorem bd26_0_1_2 {x0 x1 x2 : Value} {w : World} (h0 : x0.cells = #[x0]) (h1 : x1.cells = #[x1]) (h2 : x2.cells = #[x2]) : (Instr.build 26 [(0, x0), (1, x1), (2, x2)].toArray).run Tryd.prog w = .ok (.agg #[x0, x1, x2]) w := by unfold Value.cells at h0 h1 h2; simp [go_sem, h0, h1, h2]
theorem bd26 {w : World}  : (Instr.build 26 [].toArray).run Tryd.prog w = .ok (.agg #[.slice none 0 0, .slice none 0 0, .slice none 0 0]) w := by simp [go_sem]
theorem bd35_0_1 {x0 x1 : Value} {w : World} (h0 : x0.cells = #[x0]) (h1 : x1.cells = #[x1]) : (Instr.build 35 [(0, x0), (1, x1)].toArray).run Tryd.prog w = .ok (.agg #[x0, x1, .int .i64 0]) w := by unfold Value.cells at h0 h1; simp [go_sem, h0, h1]
theorem bd35_0_1_2 {x0 x1 x2 : Value} {w : World} (h0 : x0.cells = #[x0]) (h1 : x1.cells = #[x1]) (h2 : x2.cells = #[x2]) : (Instr.build 35 [(0, x0), (1, x1), (2, x2)].toArray).run Tryd.prog w = .ok (.agg #[x0, x1, x2]) w := by unfold Value.cells at h0 h1 h2; simp [go_sem, h0, h1, h2]
theorem bd48_0_1 {x0 x1 : Value} {w : World} (h0 : x0.cells = #[x0]) (h1 : x1.cells = #[x1]) : (Instr.build 48 [(0, x0), (1, x1)].toArray).run Tryd.prog w = .ok (.agg #[x0, x1]) w := by unfold Value.cells at h0 h1; simp [go_sem, h0, h1]
theorem bd48_0 {x0 : Value} {w : World} (h0 : x0.cells = #[x0]) : (Instr.build 48 [(0, x0)].toArray).run Tryd.prog w = .ok (.agg #[x0, .int .i64 0]) w := by unfold Value.cells at h0; simp [go_sem, h0]
theorem bd63_0_1_2 {x0 x1 x2 : Value} {w : World} (h0 : x0.cells = #[x0]) (h1 : x1.cells = #[x1]) (h2 : x2.cells = #[x2]) : (Instr.build 63 [(0, x0), (1, x1), (2, x2)].toArray).run Tryd.prog w = .ok (.agg #[x0, x1, x2]) w := by unfold Value.cells at h0 h1 h2; simp [go_sem, h0, h1, h2]
theorem bd66_0_1 {x0 x1 : Value} {w : World} (h0 : x0.cells = #[x0]) (h1 : x1.cells = #[x1]) : (Instr.build 66 [(0, x0), (1, x1)].toArray).run Tryd.prog w = .ok (.agg #[x0, x1]) w := by unfold Value.cells at h0 h1; simp [go_sem, h0, h1]
theorem bd66 {w : World}  : (Instr.build 66 [].toArray).run Tryd.prog w = .ok (.agg #[.int .i64 0, .slice none 0 0]) w := by simp [go_sem]
theorem bd78_0 {x0 : Value} {w : World} (h0 : x0.cells = #[x0]) : (Instr.build 78 [(0, x0)].toArray).run Tryd.prog w = .ok (.agg #[x0, .int .i64 0]) w := by unfold Value.cells at h0; simp [go_sem, h0]
theorem co10 : CallOk Tryd.prog 10 := ⟨by kernel_rfl⟩
theorem co11 : CallOk Tryd.prog 11 := ⟨by kernel_rfl⟩
theorem co12 : CallOk Tryd.prog 12 := ⟨by kernel_rfl⟩
theorem co13 : CallOk Tryd.prog 13 := ⟨by kernel_rfl⟩
theorem co14 : CallOk Tryd.prog 14 := ⟨by kernel_rfl⟩
theorem co15 : CallOk Tryd.prog 15 := ⟨by kernel_rfl⟩
theorem co16 : CallOk Tryd.prog 16 := ⟨by kernel_rfl⟩
theorem co17 : CallOk Tryd.prog 17 := ⟨by kernel_rfl⟩
theorem co18 : CallOk Tryd.prog 18 := ⟨by kernel_rfl⟩
theorem co19 : CallOk Tryd.prog 19 := ⟨by kernel_rfl⟩
theorem co20 : CallOk Tryd.prog 20 := ⟨by kernel_rfl⟩
theorem co21 : CallOk Tryd.prog 21 := ⟨by kernel_rfl⟩
theorem co22 : CallOk Tryd.prog 22 := ⟨by kernel_rfl⟩
theorem co23 : CallOk Tryd.prog 23 := ⟨by kernel_rfl⟩
theorem co24 : CallOk Tryd.prog 24 := ⟨by kernel_rfl⟩
theorem co25 : CallOk Tryd.prog 25 := ⟨by kernel_rfl⟩
theorem co26 : CallOk Tryd.prog 26 := ⟨by kernel_rfl⟩
theorem co27 : CallOk Tryd.prog 27 := ⟨by kernel_rfl⟩
theorem co28 : CallOk Tryd.prog 28 := ⟨by kernel_rfl⟩
theorem co29 : CallOk Tryd.prog 29 := ⟨by kernel_rfl⟩
theorem co30 : CallOk Tryd.prog 30 := ⟨by kernel_rfl⟩
theorem co31 : CallOk Tryd.prog 31 := ⟨by kernel_rfl⟩
theorem co32 : CallOk Tryd.prog 32 := ⟨by kernel_rfl⟩
theorem co33 : CallOk Tryd.prog 33 := ⟨by kernel_rfl⟩
theorem co34 : CallOk Tryd.prog 34 := ⟨by kernel_rfl⟩
theorem co35 : CallOk Tryd.prog 35 := ⟨by kernel_rfl⟩
theorem co36 : CallOk Tryd.prog 36 := ⟨by kernel_rfl⟩
theorem co37 : CallOk Tryd.prog 37 := ⟨by kernel_rfl⟩
theorem co38 : CallOk Tryd.prog 38 := ⟨by kernel_rfl⟩
theorem co39 : CallOk Tryd.prog 39 := ⟨by kernel_rfl⟩
theorem co40 : CallOk Tryd.prog 40 := ⟨by kernel_rfl⟩
theorem co41 : CallOk Tryd.prog 41 := ⟨by kernel_rfl⟩
theorem co42 : CallOk Tryd.prog 42 := ⟨by kernel_rfl⟩
theorem co43 : CallOk Tryd.prog 43 := ⟨by kernel_rfl⟩
theorem co44 : CallOk Tryd.prog 44 := ⟨by kernel_rfl⟩
theorem co45 : CallOk Tryd.prog 45 := ⟨by kernel_rfl⟩
theorem co46 : CallOk Tryd.prog 46 := ⟨by kernel_rfl⟩
theorem co47 : CallOk Tryd.prog 47 := ⟨by kernel_rfl⟩
theorem co48 : CallOk Tryd.prog 48 := ⟨by kernel_rfl⟩
theorem co49 : CallOk Tryd.prog 49 := ⟨by kernel_rfl⟩
theorem co50 : CallOk Tryd.prog 50 := ⟨by kernel_rfl⟩
theorem co51 : CallOk Tryd.prog 51 := ⟨by kernel_rfl⟩
theorem co55 : CallOk Tryd.prog 55 := ⟨by kernel_rfl⟩
theorem co56 : CallOk Tryd.prog 56 := ⟨by kernel_rfl⟩
theorem co7 : CallOk Tryd.prog 7 := ⟨by kernel_rfl⟩
theorem co8 : CallOk Tryd.prog 8 := ⟨by kernel_rfl⟩
theorem co9 : CallOk Tryd.prog 9 := ⟨by kernel_rfl⟩
theorem fl26_0 : TyFld Tryd.prog 26 0 0 := ⟨by kernel_rfl⟩
theorem fl26_1 : TyFld Tryd.prog 26 1 1 := ⟨by kernel_rfl⟩
theorem fl26_2 : TyFld Tryd.prog 26 2 2 := ⟨by kernel_rfl⟩
theorem fl35_0 : TyFld Tryd.prog 35 0 0 := ⟨by kernel_rfl⟩
theorem fl35_1 : TyFld Tryd.prog 35 1 1 := ⟨by kernel_rfl⟩
theorem fl35_2 : TyFld Tryd.prog 35 2 2 := ⟨by kernel_rfl⟩
theorem fl48_0 : TyFld Tryd.prog 48 0 0 := ⟨by kernel_rfl⟩
theorem fl48_1 : TyFld Tryd.prog 48 1 1 := ⟨by kernel_rfl⟩
theorem fl63_0 : TyFld Tryd.prog 63 0 0 := ⟨by kernel_rfl⟩
theorem fl63_1 : TyFld Tryd.prog 63 1 1 := ⟨by kernel_rfl⟩
theorem fl63_2 : TyFld Tryd.prog 63 2 2 := ⟨by kernel_rfl⟩
theorem fl66_0 : TyFld Tryd.prog 66 0 0 := ⟨by kernel_rfl⟩
theorem fl66_1 : TyFld Tryd.prog 66 1 1 := ⟨by kernel_rfl⟩
theorem fl78_0 : TyFld Tryd.prog 78 0 0 := ⟨by kernel_rfl⟩
theorem fl78_1 : TyFld Tryd.prog 78 1 1 := ⟨by kernel_rfl⟩
theorem inf3 : (Tryd.prog.info? 3).map (fun i => (i.zero, i.size, i.bytes)) = some (some (.int .i64 0), 1, 8) := by kernel_rfl
theorem inf35 : (Tryd.prog.info? 35).map (fun i => (i.zero, i.size, i.bytes)) = some (some (.agg #[.int .i64 0, .int .i64 0, .int .i64 0]), 3, 24) := by kernel_rfl
theorem inf4 : (Tryd.prog.info? 4).map (fun i => (i.zero, i.size, i.bytes)) = some (some (.bool false), 1, 1) := by kernel_rfl
theorem inf48 : (Tryd.prog.info? 48).map (fun i => (i.zero, i.size, i.bytes)) = some (some (.agg #[.int .i64 0, .int .i64 0]), 2, 16) := by kernel_rfl
theorem one22 : TyOne Tryd.prog 22 := ⟨by kernel_rfl, by kernel_rfl⟩
theorem one23 : TyOne Tryd.prog 23 := ⟨by kernel_rfl, by kernel_rfl⟩
theorem one24 : TyOne Tryd.prog 24 := ⟨by kernel_rfl, by kernel_rfl⟩
theorem one3 : TyOne Tryd.prog 3 := ⟨by kernel_rfl, by kernel_rfl⟩
theorem one4 : TyOne Tryd.prog 4 := ⟨by kernel_rfl, by kernel_rfl⟩
theorem one5 : TyOne Tryd.prog 5 := ⟨by kernel_rfl, by kernel_rfl⟩
theorem one64 : TyOne Tryd.prog 64 := ⟨by kernel_rfl, by kernel_rfl⟩
theorem sz23 : (Tryd.prog.info? 23).map (·.size) = some 1 := by kernel_rfl
theorem sz24 : (Tryd.prog.info? 24).map (·.size) = some 1 := by kernel_rfl
theorem sz26 : (Tryd.prog.info? 26).map (·.size) = some 3 := by kernel_rfl
theorem sz3 : (Tryd.prog.info? 3).map (·.size) = some 1 := by kernel_rfl
theorem sz35 : (Tryd.prog.info? 35).map (·.size) = some 3 := by kernel_rfl
theorem sz4 : (Tryd.prog.info? 4).map (·.size) = some 1 := by kernel_rfl
theorem sz48 : (Tryd.prog.info? 48).map (·.size) = some 2 := by kernel_rfl
theorem sz5 : (Tryd.prog.info? 5).map (·.size) = some 1 := by kernel_rfl
theorem sz63 : (Tryd.prog.info? 63).map (·.size) = some 3 := by kernel_rfl
theorem zr26 : (Tryd.prog.info? 26).bind (·.zero) = some (.agg #[.slice none 0 0, .slice none 0 0, .slice none 0 0]) := by kernel_rfl
theorem zr35 : (Tryd.prog.info? 35).bind (·.zero) = some (.agg #[.int .i64 0, .int .i64 0, .int .i64 0]) := by kernel_rfl
theorem zr48 : (Tryd.prog.info? 48).bind (·.zero) = some (.agg #[.int .i64 0, .int .i64 0]) := by kernel_rfl
theorem zr63 : (Tryd.prog.info? 63).bind (·.zero) = some (.agg #[.int .i64 0, .int .i64 0, .int .i64 0]) := by kernel_rfl
theorem bs23_1_0 {x0 : Value} {w : World} (h0 : x0.cells = #[x0]) : (Instr.buildSlice 23 1 [(0, x0)].toArray).run Tryd.prog w = .ok (.slice (some ⟨w.heap.size, 0, none⟩) 1 1) (w.alloc (.cells #[x0] 4)) := by unfold Value.cells at h0; simp [Instr.buildSlice, Instr.fill, newRow, Array.range_succ, go_sem, h0]
theorem bs24_1_2 {y0_0 y0_1 : Value} {w : World}  : (Instr.buildSlice 24 1 [(0, .agg #[y0_0, y0_1])].toArray).run Tryd.prog w = .ok (.slice (some ⟨w.heap.size, 0, none⟩) 1 1) (w.alloc (.cells #[y0_0, y0_1] 48)) := by simp [Instr.buildSlice, Instr.fill, newRow, Array.range_succ, go_sem]
theorem bs24_2_2_2 {y0_0 y0_1 y1_0 y1_1 : Value} {w : World}  : (Instr.buildSlice 24 2 [(0, .agg #[y0_0, y0_1]), (1, .agg #[y1_0, y1_1])].toArray).run Tryd.prog w = .ok (.slice (some ⟨w.heap.size, 0, none⟩) 2 2) (w.alloc (.cells #[y0_0, y0_1, y1_0, y1_1] 48)) := by simp [Instr.buildSlice, Instr.fill, newRow, Array.range_succ, go_sem]
theorem bs29_1_0 {x0 : Value} {w : World} (h0 : x0.cells = #[x0]) : (Instr.buildSlice 29 1 [(0, x0)].toArray).run Tryd.prog w = .ok (.slice (some ⟨w.heap.size, 0, none⟩) 1 1) (w.alloc (.cells #[x0] 3)) := by unfold Value.cells at h0; simp [Instr.buildSlice, Instr.fill, newRow, Array.range_succ, go_sem, h0]
theorem bs43_1_3 {y0_0 y0_1 y0_2 : Value} {w : World}  : (Instr.buildSlice 43 1 [(0, .agg #[y0_0, y0_1, y0_2])].toArray).run Tryd.prog w = .ok (.slice (some ⟨w.heap.size, 0, none⟩) 1 1) (w.alloc (.cells #[y0_0, y0_1, y0_2] 35)) := by simp [Instr.buildSlice, Instr.fill, newRow, Array.range_succ, go_sem]
theorem bs64_1_3 {y0_0 y0_1 y0_2 : Value} {w : World}  : (Instr.buildSlice 64 1 [(0, .agg #[y0_0, y0_1, y0_2])].toArray).run Tryd.prog w = .ok (.slice (some ⟨w.heap.size, 0, none⟩) 1 1) (w.alloc (.cells #[y0_0, y0_1, y0_2] 63)) := by simp [Instr.buildSlice, Instr.fill, newRow, Array.range_succ, go_sem]
theorem eg35 : Tryd.prog.eqGuardType Tryd.prog.depth 35 = false := by kernel_rfl
theorem eq35 {a0 b0 : Int} {a1 b1 : Int} {a2 b2 : Int} {w : World} : (Op.equalIn 10000 35 (.agg #[.int .i64 a0, .int .i64 a1, .int .i64 a2]) (.agg #[.int .i64 b0, .int .i64 b1, .int .i64 b2])).run Tryd.prog w = .ok ((a0 == b0) && (a1 == b1) && (a2 == b2)) w := by
  simp [go_sem]
  (repeat' split) <;> simp_all
theorem eg48 : Tryd.prog.eqGuardType Tryd.prog.depth 48 = false := by kernel_rfl
theorem eq48 {a0 b0 : Int} {a1 b1 : Int} {w : World} : (Op.equalIn 10000 48 (.agg #[.int .i64 a0, .int .i64 a1]) (.agg #[.int .i64 b0, .int .i64 b1])).run Tryd.prog w = .ok ((a0 == b0) && (a1 == b1)) w := by
  simp [go_sem]
  (repeat' split) <;> simp_all
end Go.Proofs.YtnoeliaefhldmaaDoor
