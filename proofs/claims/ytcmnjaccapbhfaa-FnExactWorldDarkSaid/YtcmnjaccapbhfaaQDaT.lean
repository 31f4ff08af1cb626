/- Closed facts on types. -/
import Derived.Test.YtcmnjaccapbhfaaQDaM
namespace Go.Proofs.Ytcmnjaccapbhfaa
open Go.ChangeShapes Go.WideShapes Go.ChangeAt Go.RowKit
set_option linter.unusedVariables false
set_option linter.unusedSimpArgs false
theorem ag101 : TyAgg Try.prog 101 16 := ⟨⟨_, Try.underlying101⟩, by kernel_rfl⟩
theorem ag107 : TyAgg Try.prog 107 3 := ⟨⟨_, Try.underlying107⟩, by kernel_rfl⟩
theorem ag111 : TyAgg Try.prog 111 3 := ⟨⟨_, Try.underlying111⟩, by kernel_rfl⟩
theorem ag113 : TyAgg Try.prog 113 2 := ⟨⟨_, Try.underlying113⟩, by kernel_rfl⟩
theorem ag24 : TyAgg Try.prog 24 2 := ⟨⟨_, Try.underlying24⟩, by kernel_rfl⟩
theorem ag29 : TyAgg Try.prog 29 3 := ⟨⟨_, Try.underlying29⟩, by kernel_rfl⟩
theorem ag32 : TyAgg Try.prog 32 7 := ⟨⟨_, Try.underlying32⟩, by kernel_rfl⟩
theorem ag37 : TyAgg Try.prog 37 2 := ⟨⟨_, Try.underlying37⟩, by kernel_rfl⟩
theorem ag41 : TyAgg Try.prog 41 3 := ⟨⟨_, Try.underlying41⟩, by kernel_rfl⟩
theorem ag43 : TyAgg Try.prog 43 7 := ⟨⟨_, Try.underlying43⟩, by kernel_rfl⟩
theorem ag69 : TyAgg Try.prog 69 2 := ⟨⟨_, Try.underlying69⟩, by kernel_rfl⟩
theorem ag78 : TyAgg Try.prog 78 2 := ⟨⟨_, Try.underlying78⟩, by kernel_rfl⟩
theorem ag84 : TyAgg Try.prog 84 2 := ⟨⟨_, Try.underlying84⟩, by kernel_rfl⟩
theorem ag89 : TyAgg Try.prog 89 5 := ⟨⟨_, Try.underlying89⟩, by kernel_rfl⟩
theorem bd89_0x2_1_2 {y0_0 y0_1 x1 x2 : Value} {w : World} (h1 : x1.cells = #[x1]) (h2 : x2.cells = #[x2]) : (Instr.build 89 [(0, .agg #[y0_0, y0_1]), (1, x1), (2, x2)].toArray).run Try.prog w = .ok (.agg #[y0_0, y0_1, x1, x2, .slice none 0 0]) w := by unfold Value.cells at h1 h2; simp [go_sem, h1, h2]
theorem bd89 {w : World}  : (Instr.build 89 [].toArray).run Try.prog w = .ok (.agg #[.int .i64 0, .slice none 0 0, .slice none 0 0, .slice none 0 0, .slice none 0 0]) w := by simp [go_sem]
theorem co10 : CallOk Try.prog 10 := ⟨by kernel_rfl⟩
theorem co11 : CallOk Try.prog 11 := ⟨by kernel_rfl⟩
theorem co12 : CallOk Try.prog 12 := ⟨by kernel_rfl⟩
theorem co13 : CallOk Try.prog 13 := ⟨by kernel_rfl⟩
theorem co14 : CallOk Try.prog 14 := ⟨by kernel_rfl⟩
theorem co15 : CallOk Try.prog 15 := ⟨by kernel_rfl⟩
theorem co16 : CallOk Try.prog 16 := ⟨by kernel_rfl⟩
theorem co17 : CallOk Try.prog 17 := ⟨by kernel_rfl⟩
theorem co18 : CallOk Try.prog 18 := ⟨by kernel_rfl⟩
theorem co19 : CallOk Try.prog 19 := ⟨by kernel_rfl⟩
theorem co20 : CallOk Try.prog 20 := ⟨by kernel_rfl⟩
theorem co21 : CallOk Try.prog 21 := ⟨by kernel_rfl⟩
theorem co22 : CallOk Try.prog 22 := ⟨by kernel_rfl⟩
theorem co23 : CallOk Try.prog 23 := ⟨by kernel_rfl⟩
theorem co24 : CallOk Try.prog 24 := ⟨by kernel_rfl⟩
theorem co25 : CallOk Try.prog 25 := ⟨by kernel_rfl⟩
theorem co26 : CallOk Try.prog 26 := ⟨by kernel_rfl⟩
theorem co27 : CallOk Try.prog 27 := ⟨by kernel_rfl⟩
theorem co28 : CallOk Try.prog 28 := ⟨by kernel_rfl⟩
theorem co29 : CallOk Try.prog 29 := ⟨by kernel_rfl⟩
theorem co30 : CallOk Try.prog 30 := ⟨by kernel_rfl⟩
theorem co31 : CallOk Try.prog 31 := ⟨by kernel_rfl⟩
theorem co32 : CallOk Try.prog 32 := ⟨by kernel_rfl⟩
theorem co33 : CallOk Try.prog 33 := ⟨by kernel_rfl⟩
theorem co34 : CallOk Try.prog 34 := ⟨by kernel_rfl⟩
theorem co35 : CallOk Try.prog 35 := ⟨by kernel_rfl⟩
theorem co36 : CallOk Try.prog 36 := ⟨by kernel_rfl⟩
theorem co37 : CallOk Try.prog 37 := ⟨by kernel_rfl⟩
theorem co38 : CallOk Try.prog 38 := ⟨by kernel_rfl⟩
theorem co39 : CallOk Try.prog 39 := ⟨by kernel_rfl⟩
theorem co40 : CallOk Try.prog 40 := ⟨by kernel_rfl⟩
theorem co41 : CallOk Try.prog 41 := ⟨by kernel_rfl⟩
theorem co42 : CallOk Try.prog 42 := ⟨by kernel_rfl⟩
theorem co43 : CallOk Try.prog 43 := ⟨by kernel_rfl⟩
theorem co44 : CallOk Try.prog 44 := ⟨by kernel_rfl⟩
theorem co45 : CallOk Try.prog 45 := ⟨by kernel_rfl⟩
theorem co46 : CallOk Try.prog 46 := ⟨by kernel_rfl⟩
theorem co47 : CallOk Try.prog 47 := ⟨by kernel_rfl⟩
theorem co48 : CallOk Try.prog 48 := ⟨by kernel_rfl⟩
theorem co49 : CallOk Try.prog 49 := ⟨by kernel_rfl⟩
theorem co5 : CallOk Try.prog 5 := ⟨by kernel_rfl⟩
theorem co50 : CallOk Try.prog 50 := ⟨by kernel_rfl⟩
theorem co51 : CallOk Try.prog 51 := ⟨by kernel_rfl⟩
theorem co52 : CallOk Try.prog 52 := ⟨by kernel_rfl⟩
theorem co53 : CallOk Try.prog 53 := ⟨by kernel_rfl⟩
theorem co54 : CallOk Try.prog 54 := ⟨by kernel_rfl⟩
theorem co55 : CallOk Try.prog 55 := ⟨by kernel_rfl⟩
theorem co56 : CallOk Try.prog 56 := ⟨by kernel_rfl⟩
theorem co57 : CallOk Try.prog 57 := ⟨by kernel_rfl⟩
theorem co58 : CallOk Try.prog 58 := ⟨by kernel_rfl⟩
theorem co59 : CallOk Try.prog 59 := ⟨by kernel_rfl⟩
theorem co6 : CallOk Try.prog 6 := ⟨by kernel_rfl⟩
theorem co60 : CallOk Try.prog 60 := ⟨by kernel_rfl⟩
theorem co61 : CallOk Try.prog 61 := ⟨by kernel_rfl⟩
theorem co62 : CallOk Try.prog 62 := ⟨by kernel_rfl⟩
theorem co63 : CallOk Try.prog 63 := ⟨by kernel_rfl⟩
theorem co64 : CallOk Try.prog 64 := ⟨by kernel_rfl⟩
theorem co65 : CallOk Try.prog 65 := ⟨by kernel_rfl⟩
theorem co66 : CallOk Try.prog 66 := ⟨by kernel_rfl⟩
theorem co67 : CallOk Try.prog 67 := ⟨by kernel_rfl⟩
theorem co68 : CallOk Try.prog 68 := ⟨by kernel_rfl⟩
theorem co69 : CallOk Try.prog 69 := ⟨by kernel_rfl⟩
theorem co7 : CallOk Try.prog 7 := ⟨by kernel_rfl⟩
theorem co70 : CallOk Try.prog 70 := ⟨by kernel_rfl⟩
theorem co71 : CallOk Try.prog 71 := ⟨by kernel_rfl⟩
theorem co72 : CallOk Try.prog 72 := ⟨by kernel_rfl⟩
theorem co73 : CallOk Try.prog 73 := ⟨by kernel_rfl⟩
theorem co74 : CallOk Try.prog 74 := ⟨by kernel_rfl⟩
theorem co75 : CallOk Try.prog 75 := ⟨by kernel_rfl⟩
theorem co76 : CallOk Try.prog 76 := ⟨by kernel_rfl⟩
theorem co77 : CallOk Try.prog 77 := ⟨by kernel_rfl⟩
theorem co78 : CallOk Try.prog 78 := ⟨by kernel_rfl⟩
theorem co79 : CallOk Try.prog 79 := ⟨by kernel_rfl⟩
theorem co8 : CallOk Try.prog 8 := ⟨by kernel_rfl⟩
theorem co80 : CallOk Try.prog 80 := ⟨by kernel_rfl⟩
theorem co81 : CallOk Try.prog 81 := ⟨by kernel_rfl⟩
theorem co82 : CallOk Try.prog 82 := ⟨by kernel_rfl⟩
theorem co83 : CallOk Try.prog 83 := ⟨by kernel_rfl⟩
theorem co84 : CallOk Try.prog 84 := ⟨by kernel_rfl⟩
theorem co85 : CallOk Try.prog 85 := ⟨by kernel_rfl⟩
theorem co86 : CallOk Try.prog 86 := ⟨by kernel_rfl⟩
theorem co87 : CallOk Try.prog 87 := ⟨by kernel_rfl⟩
theorem co88 : CallOk Try.prog 88 := ⟨by kernel_rfl⟩
theorem co89 : CallOk Try.prog 89 := ⟨by kernel_rfl⟩
theorem co9 : CallOk Try.prog 9 := ⟨by kernel_rfl⟩
theorem fl101_0 : TyFld Try.prog 101 0 0 := ⟨by kernel_rfl⟩
theorem fl101_1 : TyFld Try.prog 101 1 8 := ⟨by kernel_rfl⟩
theorem fl107_0 : TyFld Try.prog 107 0 0 := ⟨by kernel_rfl⟩
theorem fl107_1 : TyFld Try.prog 107 1 1 := ⟨by kernel_rfl⟩
theorem fl107_2 : TyFld Try.prog 107 2 2 := ⟨by kernel_rfl⟩
theorem fl111_0 : TyFld Try.prog 111 0 0 := ⟨by kernel_rfl⟩
theorem fl111_1 : TyFld Try.prog 111 1 1 := ⟨by kernel_rfl⟩
theorem fl111_2 : TyFld Try.prog 111 2 2 := ⟨by kernel_rfl⟩
theorem fl113_0 : TyFld Try.prog 113 0 0 := ⟨by kernel_rfl⟩
theorem fl113_1 : TyFld Try.prog 113 1 1 := ⟨by kernel_rfl⟩
theorem fl24_0 : TyFld Try.prog 24 0 0 := ⟨by kernel_rfl⟩
theorem fl24_1 : TyFld Try.prog 24 1 1 := ⟨by kernel_rfl⟩
theorem fl29_0 : TyFld Try.prog 29 0 0 := ⟨by kernel_rfl⟩
theorem fl29_1 : TyFld Try.prog 29 1 1 := ⟨by kernel_rfl⟩
theorem fl29_2 : TyFld Try.prog 29 2 2 := ⟨by kernel_rfl⟩
theorem fl32_0 : TyFld Try.prog 32 0 0 := ⟨by kernel_rfl⟩
theorem fl32_1 : TyFld Try.prog 32 1 2 := ⟨by kernel_rfl⟩
theorem fl32_2 : TyFld Try.prog 32 2 3 := ⟨by kernel_rfl⟩
theorem fl32_3 : TyFld Try.prog 32 3 6 := ⟨by kernel_rfl⟩
theorem fl37_0 : TyFld Try.prog 37 0 0 := ⟨by kernel_rfl⟩
theorem fl37_1 : TyFld Try.prog 37 1 1 := ⟨by kernel_rfl⟩
theorem fl41_0 : TyFld Try.prog 41 0 0 := ⟨by kernel_rfl⟩
theorem fl41_1 : TyFld Try.prog 41 1 1 := ⟨by kernel_rfl⟩
theorem fl41_2 : TyFld Try.prog 41 2 2 := ⟨by kernel_rfl⟩
theorem fl43_0 : TyFld Try.prog 43 0 0 := ⟨by kernel_rfl⟩
theorem fl43_1 : TyFld Try.prog 43 1 2 := ⟨by kernel_rfl⟩
theorem fl43_2 : TyFld Try.prog 43 2 3 := ⟨by kernel_rfl⟩
theorem fl43_3 : TyFld Try.prog 43 3 6 := ⟨by kernel_rfl⟩
theorem fl69_0 : TyFld Try.prog 69 0 0 := ⟨by kernel_rfl⟩
theorem fl69_1 : TyFld Try.prog 69 1 1 := ⟨by kernel_rfl⟩
theorem fl78_0 : TyFld Try.prog 78 0 0 := ⟨by kernel_rfl⟩
theorem fl78_1 : TyFld Try.prog 78 1 1 := ⟨by kernel_rfl⟩
theorem fl84_0 : TyFld Try.prog 84 0 0 := ⟨by kernel_rfl⟩
theorem fl84_1 : TyFld Try.prog 84 1 1 := ⟨by kernel_rfl⟩
theorem fl89_0 : TyFld Try.prog 89 0 0 := ⟨by kernel_rfl⟩
theorem fl89_1 : TyFld Try.prog 89 1 2 := ⟨by kernel_rfl⟩
theorem fl89_2 : TyFld Try.prog 89 2 3 := ⟨by kernel_rfl⟩
theorem fl89_3 : TyFld Try.prog 89 3 4 := ⟨by kernel_rfl⟩
theorem inf107 : (Try.prog.info? 107).map (fun i => (i.zero, i.size, i.bytes)) = some (some (.agg #[.int .i64 0, .int .i64 0, .int .i64 0]), 3, 24) := by kernel_rfl
theorem inf3 : (Try.prog.info? 3).map (fun i => (i.zero, i.size, i.bytes)) = some (some (.int .i64 0), 1, 8) := by kernel_rfl
theorem inf4 : (Try.prog.info? 4).map (fun i => (i.zero, i.size, i.bytes)) = some (some (.bool false), 1, 1) := by kernel_rfl
theorem inf69 : (Try.prog.info? 69).map (fun i => (i.zero, i.size, i.bytes)) = some (some (.agg #[.int .i64 0, .int .i64 0]), 2, 16) := by kernel_rfl
theorem inf78 : (Try.prog.info? 78).map (fun i => (i.zero, i.size, i.bytes)) = some (some (.agg #[.int .i64 0, .int .i64 0]), 2, 16) := by kernel_rfl
theorem one22 : TyOne Try.prog 22 := ⟨by kernel_rfl, by kernel_rfl⟩
theorem one25 : TyOne Try.prog 25 := ⟨by kernel_rfl, by kernel_rfl⟩
theorem one26 : TyOne Try.prog 26 := ⟨by kernel_rfl, by kernel_rfl⟩
theorem one27 : TyOne Try.prog 27 := ⟨by kernel_rfl, by kernel_rfl⟩
theorem one3 : TyOne Try.prog 3 := ⟨by kernel_rfl, by kernel_rfl⟩
theorem one30 : TyOne Try.prog 30 := ⟨by kernel_rfl, by kernel_rfl⟩
theorem one35 : TyOne Try.prog 35 := ⟨by kernel_rfl, by kernel_rfl⟩
theorem one38 : TyOne Try.prog 38 := ⟨by kernel_rfl, by kernel_rfl⟩
theorem one39 : TyOne Try.prog 39 := ⟨by kernel_rfl, by kernel_rfl⟩
theorem one4 : TyOne Try.prog 4 := ⟨by kernel_rfl, by kernel_rfl⟩
theorem sz101 : (Try.prog.info? 101).map (·.size) = some 16 := by kernel_rfl
theorem sz107 : (Try.prog.info? 107).map (·.size) = some 3 := by kernel_rfl
theorem sz111 : (Try.prog.info? 111).map (·.size) = some 3 := by kernel_rfl
theorem sz113 : (Try.prog.info? 113).map (·.size) = some 2 := by kernel_rfl
theorem sz26 : (Try.prog.info? 26).map (·.size) = some 1 := by kernel_rfl
theorem sz3 : (Try.prog.info? 3).map (·.size) = some 1 := by kernel_rfl
theorem sz30 : (Try.prog.info? 30).map (·.size) = some 1 := by kernel_rfl
theorem sz35 : (Try.prog.info? 35).map (·.size) = some 1 := by kernel_rfl
theorem sz37 : (Try.prog.info? 37).map (·.size) = some 2 := by kernel_rfl
theorem sz38 : (Try.prog.info? 38).map (·.size) = some 1 := by kernel_rfl
theorem sz39 : (Try.prog.info? 39).map (·.size) = some 1 := by kernel_rfl
theorem sz4 : (Try.prog.info? 4).map (·.size) = some 1 := by kernel_rfl
theorem sz41 : (Try.prog.info? 41).map (·.size) = some 3 := by kernel_rfl
theorem sz43 : (Try.prog.info? 43).map (·.size) = some 7 := by kernel_rfl
theorem sz69 : (Try.prog.info? 69).map (·.size) = some 2 := by kernel_rfl
theorem sz78 : (Try.prog.info? 78).map (·.size) = some 2 := by kernel_rfl
theorem sz84 : (Try.prog.info? 84).map (·.size) = some 2 := by kernel_rfl
theorem sz89 : (Try.prog.info? 89).map (·.size) = some 5 := by kernel_rfl
theorem zr101 : (Try.prog.info? 101).bind (·.zero) = some (.agg #[.int .i64 0, .int .i64 0, .int .i64 0, .int .i64 0, .int .i64 0, .int .i64 0, .int .i64 0, .int .i64 0, .int .i64 0, .int .i64 0, .int .i64 0, .int .i64 0, .int .i64 0, .int .i64 0, .int .i64 0, .int .i64 0]) := by kernel_rfl
theorem zr107 : (Try.prog.info? 107).bind (·.zero) = some (.agg #[.int .i64 0, .int .i64 0, .int .i64 0]) := by kernel_rfl
theorem zr37 : (Try.prog.info? 37).bind (·.zero) = some (.agg #[.int .i64 0, .slice none 0 0]) := by kernel_rfl
theorem zr41 : (Try.prog.info? 41).bind (·.zero) = some (.agg #[.slice none 0 0, .slice none 0 0, .slice none 0 0]) := by kernel_rfl
theorem zr43 : (Try.prog.info? 43).bind (·.zero) = some (.agg #[.int .i64 0, .slice none 0 0, .slice none 0 0, .slice none 0 0, .slice none 0 0, .slice none 0 0, .slice none 0 0]) := by kernel_rfl
theorem zr69 : (Try.prog.info? 69).bind (·.zero) = some (.agg #[.int .i64 0, .int .i64 0]) := by kernel_rfl
theorem zr78 : (Try.prog.info? 78).bind (·.zero) = some (.agg #[.int .i64 0, .int .i64 0]) := by kernel_rfl
theorem zr89 : (Try.prog.info? 89).bind (·.zero) = some (.agg #[.int .i64 0, .slice none 0 0, .slice none 0 0, .slice none 0 0, .slice none 0 0]) := by kernel_rfl
theorem bs30_1_0 {x0 : Value} {w : World} (h0 : x0.cells = #[x0]) : (Instr.buildSlice 30 1 [(0, x0)].toArray).run Try.prog w = .ok (.slice (some ⟨w.heap.size, 0, none⟩) 1 1) (w.alloc (.cells #[x0] 3)) := by unfold Value.cells at h0; simp [Instr.buildSlice, Instr.fill, newRow, Array.range_succ, go_sem, h0]
theorem eg78 : Try.prog.eqGuardType Try.prog.depth 78 = false := by kernel_rfl
theorem eq78 {a0 b0 : Int} {a1 b1 : Int} {w : World} : (Op.equalIn 10000 78 (.agg #[.int .i64 a0, .int .i64 a1]) (.agg #[.int .i64 b0, .int .i64 b1])).run Try.prog w = .ok ((a0 == b0) && (a1 == b1)) w := by
  simp [go_sem]
  (repeat' split) <;> simp_all
end Go.Proofs.Ytcmnjaccapbhfaa
