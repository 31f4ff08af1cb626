/- Closed facts on types. -/
import Derived.Test.YtnoeliaefhldmaaDaM
namespace Go.Proofs.Ytnoeliaefhldmaa
open Go.ChangeShapes Go.WideShapes Go.ChangeAt Go.RowKit
set_option linter.unusedVariables false
set_option linter.unusedSimpArgs false

theorem ag25 : TyAgg Try.prog 25 3 := ⟨⟨_, Try.underlying25⟩, by kernel_rfl⟩
theorem ag27 : TyAgg Try.prog 27 3 := ⟨⟨_, Try.underlying27⟩, by kernel_rfl⟩
theorem ag31 : TyAgg Try.prog 31 3 := ⟨⟨_, Try.underlying31⟩, by kernel_rfl⟩
theorem ag35 : TyAgg Try.prog 35 3 := ⟨⟨_, Try.underlying35⟩, by kernel_rfl⟩
theorem ag56 : TyAgg Try.prog 56 2 := ⟨⟨_, Try.underlying56⟩, by kernel_rfl⟩
theorem ag70 : TyAgg Try.prog 70 2 := ⟨⟨_, Try.underlying70⟩, by kernel_rfl⟩
theorem bd31_0_1_2 {x0 x1 x2 : Value} {w : World} (h0 : x0.cells = #[x0]) (h1 : x1.cells = #[x1]) (h2 : x2.cells = #[x2]) : (Instr.build 31 [(0, x0), (1, x1), (2, x2)].toArray).run Try.prog w = .ok (.agg #[x0, x1, x2]) w := by unfold Value.cells at h0 h1 h2; simp [go_sem, h0, h1, h2]
theorem bd31 {w : World}  : (Instr.build 31 [].toArray).run Try.prog w = .ok (.agg #[.slice none 0 0, .slice none 0 0, .slice none 0 0]) w := by simp [go_sem]
theorem bd56_0_1 {x0 x1 : Value} {w : World} (h0 : x0.cells = #[x0]) (h1 : x1.cells = #[x1]) : (Instr.build 56 [(0, x0), (1, x1)].toArray).run Try.prog w = .ok (.agg #[x0, x1]) w := by unfold Value.cells at h0 h1; simp [go_sem, h0, h1]
theorem co10 : CallOk Try.prog 10 := ⟨by kernel_rfl⟩
theorem co11 : CallOk Try.prog 11 := ⟨by kernel_rfl⟩
theorem co12 : CallOk Try.prog 12 := ⟨by kernel_rfl⟩
theorem co13 : CallOk Try.prog 13 := ⟨by kernel_rfl⟩
theorem co14 : CallOk Try.prog 14 := ⟨by kernel_rfl⟩
theorem co15 : CallOk Try.prog 15 := ⟨by kernel_rfl⟩
theorem co16 : CallOk Try.prog 16 := ⟨by kernel_rfl⟩
theorem co17 : CallOk Try.prog 17 := ⟨by kernel_rfl⟩
theorem co18 : CallOk Try.prog 18 := ⟨by kernel_rfl⟩
theorem co19 : CallOk Try.prog 19 := ⟨by kernel_rfl⟩
theorem co20 : CallOk Try.prog 20 := ⟨by kernel_rfl⟩
theorem co21 : CallOk Try.prog 21 := ⟨by kernel_rfl⟩
theorem co22 : CallOk Try.prog 22 := ⟨by kernel_rfl⟩
theorem co23 : CallOk Try.prog 23 := ⟨by kernel_rfl⟩
theorem co24 : CallOk Try.prog 24 := ⟨by kernel_rfl⟩
theorem co25 : CallOk Try.prog 25 := ⟨by kernel_rfl⟩
theorem co26 : CallOk Try.prog 26 := ⟨by kernel_rfl⟩
theorem co27 : CallOk Try.prog 27 := ⟨by kernel_rfl⟩
theorem co28 : CallOk Try.prog 28 := ⟨by kernel_rfl⟩
theorem co29 : CallOk Try.prog 29 := ⟨by kernel_rfl⟩
theorem co30 : CallOk Try.prog 30 := ⟨by kernel_rfl⟩
theorem co31 : CallOk Try.prog 31 := ⟨by kernel_rfl⟩
theorem co32 : CallOk Try.prog 32 := ⟨by kernel_rfl⟩
theorem co33 : CallOk Try.prog 33 := ⟨by kernel_rfl⟩
theorem co34 : CallOk Try.prog 34 := ⟨by kernel_rfl⟩
theorem co35 : CallOk Try.prog 35 := ⟨by kernel_rfl⟩
theorem co36 : CallOk Try.prog 36 := ⟨by kernel_rfl⟩
theorem co37 : CallOk Try.prog 37 := ⟨by kernel_rfl⟩
theorem co38 : CallOk Try.prog 38 := ⟨by kernel_rfl⟩
theorem co39 : CallOk Try.prog 39 := ⟨by kernel_rfl⟩
theorem co40 : CallOk Try.prog 40 := ⟨by kernel_rfl⟩
theorem co41 : CallOk Try.prog 41 := ⟨by kernel_rfl⟩
theorem co42 : CallOk Try.prog 42 := ⟨by kernel_rfl⟩
theorem co43 : CallOk Try.prog 43 := ⟨by kernel_rfl⟩
theorem co44 : CallOk Try.prog 44 := ⟨by kernel_rfl⟩
theorem co45 : CallOk Try.prog 45 := ⟨by kernel_rfl⟩
theorem co46 : CallOk Try.prog 46 := ⟨by kernel_rfl⟩
theorem co47 : CallOk Try.prog 47 := ⟨by kernel_rfl⟩
theorem co5 : CallOk Try.prog 5 := ⟨by kernel_rfl⟩
theorem co6 : CallOk Try.prog 6 := ⟨by kernel_rfl⟩
theorem co7 : CallOk Try.prog 7 := ⟨by kernel_rfl⟩
theorem co8 : CallOk Try.prog 8 := ⟨by kernel_rfl⟩
theorem co9 : CallOk Try.prog 9 := ⟨by kernel_rfl⟩
theorem fl25_0 : TyFld Try.prog 25 0 0 := ⟨by kernel_rfl⟩
theorem fl25_1 : TyFld Try.prog 25 1 1 := ⟨by kernel_rfl⟩
theorem fl25_2 : TyFld Try.prog 25 2 2 := ⟨by kernel_rfl⟩
theorem fl27_0 : TyFld Try.prog 27 0 0 := ⟨by kernel_rfl⟩
theorem fl27_1 : TyFld Try.prog 27 1 1 := ⟨by kernel_rfl⟩
theorem fl27_2 : TyFld Try.prog 27 2 2 := ⟨by kernel_rfl⟩
theorem fl31_0 : TyFld Try.prog 31 0 0 := ⟨by kernel_rfl⟩
theorem fl31_1 : TyFld Try.prog 31 1 1 := ⟨by kernel_rfl⟩
theorem fl31_2 : TyFld Try.prog 31 2 2 := ⟨by kernel_rfl⟩
theorem fl35_0 : TyFld Try.prog 35 0 0 := ⟨by kernel_rfl⟩
theorem fl35_1 : TyFld Try.prog 35 1 1 := ⟨by kernel_rfl⟩
theorem fl35_2 : TyFld Try.prog 35 2 2 := ⟨by kernel_rfl⟩
theorem fl56_0 : TyFld Try.prog 56 0 0 := ⟨by kernel_rfl⟩
theorem fl56_1 : TyFld Try.prog 56 1 1 := ⟨by kernel_rfl⟩
theorem fl70_0 : TyFld Try.prog 70 0 0 := ⟨by kernel_rfl⟩
theorem fl70_1 : TyFld Try.prog 70 1 1 := ⟨by kernel_rfl⟩
theorem inf3 : (Try.prog.info? 3).map (fun i => (i.zero, i.size, i.bytes)) = some (some (.int .i64 0), 1, 8) := by kernel_rfl
theorem inf35 : (Try.prog.info? 35).map (fun i => (i.zero, i.size, i.bytes)) = some (some (.agg #[.int .i64 0, .int .i64 0, .int .i64 0]), 3, 24) := by kernel_rfl
theorem inf4 : (Try.prog.info? 4).map (fun i => (i.zero, i.size, i.bytes)) = some (some (.bool false), 1, 1) := by kernel_rfl
theorem inf56 : (Try.prog.info? 56).map (fun i => (i.zero, i.size, i.bytes)) = some (some (.agg #[.int .i64 0, .int .i64 0]), 2, 16) := by kernel_rfl
theorem one22 : TyOne Try.prog 22 := ⟨by kernel_rfl, by kernel_rfl⟩
theorem one23 : TyOne Try.prog 23 := ⟨by kernel_rfl, by kernel_rfl⟩
theorem one29 : TyOne Try.prog 29 := ⟨by kernel_rfl, by kernel_rfl⟩
theorem one3 : TyOne Try.prog 3 := ⟨by kernel_rfl, by kernel_rfl⟩
theorem one4 : TyOne Try.prog 4 := ⟨by kernel_rfl, by kernel_rfl⟩
theorem sz22 : (Try.prog.info? 22).map (·.size) = some 1 := by kernel_rfl
theorem sz27 : (Try.prog.info? 27).map (·.size) = some 3 := by kernel_rfl
theorem sz29 : (Try.prog.info? 29).map (·.size) = some 1 := by kernel_rfl
theorem sz3 : (Try.prog.info? 3).map (·.size) = some 1 := by kernel_rfl
theorem sz31 : (Try.prog.info? 31).map (·.size) = some 3 := by kernel_rfl
theorem sz35 : (Try.prog.info? 35).map (·.size) = some 3 := by kernel_rfl
theorem sz4 : (Try.prog.info? 4).map (·.size) = some 1 := by kernel_rfl
theorem sz56 : (Try.prog.info? 56).map (·.size) = some 2 := by kernel_rfl
theorem sz70 : (Try.prog.info? 70).map (·.size) = some 2 := by kernel_rfl
theorem zr31 : (Try.prog.info? 31).bind (·.zero) = some (.agg #[.slice none 0 0, .slice none 0 0, .slice none 0 0]) := by kernel_rfl
theorem zr35 : (Try.prog.info? 35).bind (·.zero) = some (.agg #[.int .i64 0, .int .i64 0, .int .i64 0]) := by kernel_rfl
theorem zr56 : (Try.prog.info? 56).bind (·.zero) = some (.agg #[.int .i64 0, .int .i64 0]) := by kernel_rfl
theorem bs29_1_2 {y0_0 y0_1 : Value} {w : World}  : (Instr.buildSlice 29 1 [(0, .agg #[y0_0, y0_1])].toArray).run Try.prog w = .ok (.slice (some ⟨w.heap.size, 0, none⟩) 1 1) (w.alloc (.cells #[y0_0, y0_1] 56)) := by simp [Instr.buildSlice, Instr.fill, newRow, Array.range_succ, go_sem]
theorem bs67_1_0 {x0 : Value} {w : World} (h0 : x0.cells = #[x0]) : (Instr.buildSlice 67 1 [(0, x0)].toArray).run Try.prog w = .ok (.slice (some ⟨w.heap.size, 0, none⟩) 1 1) (w.alloc (.cells #[x0] 3)) := by unfold Value.cells at h0; simp [Instr.buildSlice, Instr.fill, newRow, Array.range_succ, go_sem, h0]
theorem eg56 : Try.prog.eqGuardType Try.prog.depth 56 = false := by kernel_rfl
theorem eq56 {a0 b0 : Int} {a1 b1 : Int} {w : World} : (Op.equalIn 10000 56 (.agg #[.int .i64 a0, .int .i64 a1]) (.agg #[.int .i64 b0, .int .i64 b1])).run Try.prog w = .ok ((a0 == b0) && (a1 == b1)) w := by
  simp [go_sem]
  (repeat' split) <;> simp_all
end Go.Proofs.Ytnoeliaefhldmaa
