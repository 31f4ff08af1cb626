/- Closed facts on types. -/
import Derived.Test.YtandfbpanaldcaaDoorDaM
namespace Go.Proofs.YtandfbpanaldcaaDoor
open Go.ChangeShapes Go.WideShapes Go.ChangeAt Go.RowKit
set_option linter.unusedVariables false
set_option linter.unusedSimpArgs false

theorem ag25 : TyAgg Tryd.prog 25 2 := ⟨⟨_, Tryd.underlying25⟩, by kernel_rfl⟩
theorem ag50 : TyAgg Tryd.prog 50 3 := ⟨⟨_, Tryd.underlying50⟩, by kernel_rfl⟩
theorem ag53 : TyAgg Tryd.prog 53 2 := ⟨⟨_, Tryd.underlying53⟩, by kernel_rfl⟩
theorem bd25_0_1 {x0 x1 : Value} {w : World} (h0 : x0.cells = #[x0]) (h1 : x1.cells = #[x1]) : (Instr.build 25 [(0, x0), (1, x1)].toArray).run Tryd.prog w = .ok (.agg #[x0, x1]) w := by unfold Value.cells at h0 h1; simp [go_sem, h0, h1]
theorem bd25_1 {x1 : Value} {w : World} (h1 : x1.cells = #[x1]) : (Instr.build 25 [(1, x1)].toArray).run Tryd.prog w = .ok (.agg #[.slice none 0 0, x1]) w := by unfold Value.cells at h1; simp [go_sem, h1]
theorem bd25 {w : World}  : (Instr.build 25 [].toArray).run Tryd.prog w = .ok (.agg #[.slice none 0 0, .bool false]) w := by simp [go_sem]
theorem bd50_0_1_2 {x0 x1 x2 : Value} {w : World} (h0 : x0.cells = #[x0]) (h1 : x1.cells = #[x1]) (h2 : x2.cells = #[x2]) : (Instr.build 50 [(0, x0), (1, x1), (2, x2)].toArray).run Tryd.prog w = .ok (.agg #[x0, x1, x2]) w := by unfold Value.cells at h0 h1 h2; simp [go_sem, h0, h1, h2]
theorem bd53_0_1 {x0 x1 : Value} {w : World} (h0 : x0.cells = #[x0]) (h1 : x1.cells = #[x1]) : (Instr.build 53 [(0, x0), (1, x1)].toArray).run Tryd.prog w = .ok (.agg #[x0, x1]) w := by unfold Value.cells at h0 h1; simp [go_sem, h0, h1]
theorem bd53 {w : World}  : (Instr.build 53 [].toArray).run Tryd.prog w = .ok (.agg #[.int .i64 0, .slice none 0 0]) w := by simp [go_sem]
theorem bd58_0 {x0 : Value} {w : World} (h0 : x0.cells = #[x0]) : (Instr.build 58 [(0, x0)].toArray).run Tryd.prog w = .ok (.agg #[x0, .int .i64 0]) w := by unfold Value.cells at h0; simp [go_sem, h0]
theorem co10 : CallOk Tryd.prog 10 := ⟨by kernel_rfl⟩
theorem co11 : CallOk Tryd.prog 11 := ⟨by kernel_rfl⟩
theorem co12 : CallOk Tryd.prog 12 := ⟨by kernel_rfl⟩
theorem co13 : CallOk Tryd.prog 13 := ⟨by kernel_rfl⟩
theorem co14 : CallOk Tryd.prog 14 := ⟨by kernel_rfl⟩
theorem co15 : CallOk Tryd.prog 15 := ⟨by kernel_rfl⟩
theorem co16 : CallOk Tryd.prog 16 := ⟨by kernel_rfl⟩
theorem co17 : CallOk Tryd.prog 17 := ⟨by kernel_rfl⟩
theorem co18 : CallOk Tryd.prog 18 := ⟨by kernel_rfl⟩
theorem co19 : CallOk Tryd.prog 19 := ⟨by kernel_rfl⟩
theorem co20 : CallOk Tryd.prog 20 := ⟨by kernel_rfl⟩
theorem co21 : CallOk Tryd.prog 21 := ⟨by kernel_rfl⟩
theorem co22 : CallOk Tryd.prog 22 := ⟨by kernel_rfl⟩
theorem co23 : CallOk Tryd.prog 23 := ⟨by kernel_rfl⟩
theorem co24 : CallOk Tryd.prog 24 := ⟨by kernel_rfl⟩
theorem co25 : CallOk Tryd.prog 25 := ⟨by kernel_rfl⟩
theorem co26 : CallOk Tryd.prog 26 := ⟨by kernel_rfl⟩
theorem co27 : CallOk Tryd.prog 27 := ⟨by kernel_rfl⟩
theorem co28 : CallOk Tryd.prog 28 := ⟨by kernel_rfl⟩
theorem co29 : CallOk Tryd.prog 29 := ⟨by kernel_rfl⟩
theorem co30 : CallOk Tryd.prog 30 := ⟨by kernel_rfl⟩
theorem co31 : CallOk Tryd.prog 31 := ⟨by kernel_rfl⟩
theorem co32 : CallOk Tryd.prog 32 := ⟨by kernel_rfl⟩
theorem co33 : CallOk Tryd.prog 33 := ⟨by kernel_rfl⟩
theorem co34 : CallOk Tryd.prog 34 := ⟨by kernel_rfl⟩
theorem co35 : CallOk Tryd.prog 35 := ⟨by kernel_rfl⟩
theorem co36 : CallOk Tryd.prog 36 := ⟨by kernel_rfl⟩
theorem co37 : CallOk Tryd.prog 37 := ⟨by kernel_rfl⟩
theorem co41 : CallOk Tryd.prog 41 := ⟨by kernel_rfl⟩
theorem co7 : CallOk Tryd.prog 7 := ⟨by kernel_rfl⟩
theorem co8 : CallOk Tryd.prog 8 := ⟨by kernel_rfl⟩
theorem co9 : CallOk Tryd.prog 9 := ⟨by kernel_rfl⟩
theorem fl25_0 : TyFld Tryd.prog 25 0 0 := ⟨by kernel_rfl⟩
theorem fl25_1 : TyFld Tryd.prog 25 1 1 := ⟨by kernel_rfl⟩
theorem fl50_0 : TyFld Tryd.prog 50 0 0 := ⟨by kernel_rfl⟩
theorem fl50_1 : TyFld Tryd.prog 50 1 1 := ⟨by kernel_rfl⟩
theorem fl50_2 : TyFld Tryd.prog 50 2 2 := ⟨by kernel_rfl⟩
theorem fl53_0 : TyFld Tryd.prog 53 0 0 := ⟨by kernel_rfl⟩
theorem fl53_1 : TyFld Tryd.prog 53 1 1 := ⟨by kernel_rfl⟩
theorem fl58_0 : TyFld Tryd.prog 58 0 0 := ⟨by kernel_rfl⟩
theorem fl58_1 : TyFld Tryd.prog 58 1 1 := ⟨by kernel_rfl⟩
theorem inf3 : (Tryd.prog.info? 3).map (fun i => (i.zero, i.size, i.bytes)) = some (some (.int .i64 0), 1, 8) := by kernel_rfl
theorem one22 : TyOne Tryd.prog 22 := ⟨by kernel_rfl, by kernel_rfl⟩
theorem one23 : TyOne Tryd.prog 23 := ⟨by kernel_rfl, by kernel_rfl⟩
theorem one3 : TyOne Tryd.prog 3 := ⟨by kernel_rfl, by kernel_rfl⟩
theorem one4 : TyOne Tryd.prog 4 := ⟨by kernel_rfl, by kernel_rfl⟩
theorem one5 : TyOne Tryd.prog 5 := ⟨by kernel_rfl, by kernel_rfl⟩
theorem one51 : TyOne Tryd.prog 51 := ⟨by kernel_rfl, by kernel_rfl⟩
theorem sz23 : (Tryd.prog.info? 23).map (·.size) = some 1 := by kernel_rfl
theorem sz25 : (Tryd.prog.info? 25).map (·.size) = some 2 := by kernel_rfl
theorem sz3 : (Tryd.prog.info? 3).map (·.size) = some 1 := by kernel_rfl
theorem sz4 : (Tryd.prog.info? 4).map (·.size) = some 1 := by kernel_rfl
theorem sz5 : (Tryd.prog.info? 5).map (·.size) = some 1 := by kernel_rfl
theorem sz50 : (Tryd.prog.info? 50).map (·.size) = some 3 := by kernel_rfl
theorem zr25 : (Tryd.prog.info? 25).bind (·.zero) = some (.agg #[.slice none 0 0, .bool false]) := by kernel_rfl
theorem zr50 : (Tryd.prog.info? 50).bind (·.zero) = some (.agg #[.int .i64 0, .int .i64 0, .int .i64 0]) := by kernel_rfl
theorem bs23_1_0 {x0 : Value} {w : World} (h0 : x0.cells = #[x0]) : (Instr.buildSlice 23 1 [(0, x0)].toArray).run Tryd.prog w = .ok (.slice (some ⟨w.heap.size, 0, none⟩) 1 1) (w.alloc (.cells #[x0] 3)) := by unfold Value.cells at h0; simp [Instr.buildSlice, Instr.fill, newRow, Array.range_succ, go_sem, h0]
theorem bs23_3_0_0_0 {x0 x1 x2 : Value} {w : World} (h0 : x0.cells = #[x0]) (h1 : x1.cells = #[x1]) (h2 : x2.cells = #[x2]) : (Instr.buildSlice 23 3 [(0, x0), (1, x1), (2, x2)].toArray).run Tryd.prog w = .ok (.slice (some ⟨w.heap.size, 0, none⟩) 3 3) (w.alloc (.cells #[x0, x1, x2] 3)) := by unfold Value.cells at h0 h1 h2; simp [Instr.buildSlice, Instr.fill, newRow, Array.range_succ, go_sem, h0, h1, h2]
theorem bs51_1_3 {y0_0 y0_1 y0_2 : Value} {w : World}  : (Instr.buildSlice 51 1 [(0, .agg #[y0_0, y0_1, y0_2])].toArray).run Tryd.prog w = .ok (.slice (some ⟨w.heap.size, 0, none⟩) 1 1) (w.alloc (.cells #[y0_0, y0_1, y0_2] 50)) := by simp [Instr.buildSlice, Instr.fill, newRow, Array.range_succ, go_sem]
end Go.Proofs.YtandfbpanaldcaaDoor
