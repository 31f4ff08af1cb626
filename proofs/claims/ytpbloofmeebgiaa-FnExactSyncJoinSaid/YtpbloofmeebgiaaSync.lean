/- What the functions of synchronism compute, impl and spec. -/
import Derived.Test.YtpbloofmeebgiaaPre
namespace Go.Proofs.Ytpbloofmeebgiaa
open Go.ChangeShapes Go.WideShapes Go.ChangeAt Go.RowKit

theorem l1In_calls (n lo hi : Int) (w : World) :
    Calls Try.prog 41 #[.int .i64 n, .int .i64 lo, .int .i64 hi] w fun e w' => e = .returned (.bool (inB n lo hi)) ∧ w = w' := by
  go_enter Try.func41, Try.ntmps41
  go_wp2
  all_goals go_ret
  all_goals (simp [inB]; try omega)

theorem powerValid_calls (n : Int) (w : World) :
    Calls Try.prog 43 #[.int .i64 n] w fun e w' => e = .returned (.bool (inB n 0 999)) ∧ w = w' := by
  go_enter Try.func43, Try.ntmps43
  go_wp2
  all_goals go_ret
  all_goals (simp [inB]; try omega)

def tv (s m : Int) : Bool := inB s 0 999 && inB m 1 99
theorem tv_iff {s m : Int} : tv s m = true ↔ (0 ≤ s ∧ s ≤ 999) ∧ 1 ≤ m ∧ m ≤ 99 := by simp [tv, inB]

theorem iTurningValid_calls (s m : Int) (w : World) :
    Calls Try.prog 42 #[.agg #[.int .i64 s, .int .i64 m]] w fun e w' => e = .returned (.bool (tv s m)) ∧ Below w.heap.size w w' := by
  go_enter Try.func42, Try.ntmps42
  go_wp2_with (go_at_call 43; refine (powerValid_calls _ _).mono ?_; rintro e w' ⟨rfl, rfl⟩)
  all_goals go_ret
  all_goals refine ⟨ret_bool ?_, (by repeat' (first | exact Below.refl _ _ | assumption | refine Below.drew ?_ | refine cell_drew ?_ | refine Below.setCell ?_ (by (try simp); (try omega)) _ | refine Below.alloc ?_ (by (try simp); (try omega)) _ | refine below_step (by assumption) (by (try simp); (try omega)) ?_))⟩
  all_goals (simp_all [tv, inB]; try omega)

theorem sTurningValid_calls (s m : Int) (w : World) :
    Calls Try.prog 40 #[.agg #[.int .i64 s, .int .i64 m]] w fun e w' => e = .returned (.bool (tv s m)) ∧ Below w.heap.size w w' := by
  go_enter Try.func40, Try.ntmps40
  go_wp2_with (go_at_call 41; refine (l1In_calls _ _ _ _).mono ?_; rintro e w' ⟨rfl, rfl⟩)
  all_goals go_ret
  all_goals refine ⟨ret_bool ?_, (by repeat' (first | exact Below.refl _ _ | assumption | refine Below.drew ?_ | refine cell_drew ?_ | refine Below.setCell ?_ (by (try simp); (try omega)) _ | refine Below.alloc ?_ (by (try simp); (try omega)) _ | refine below_step (by assumption) (by (try simp); (try omega)) ?_))⟩
  all_goals (simp_all [tv, inB]; try omega)

theorem distance_calls (a b : Int) (w : World) (h1 : 0 ≤ a) (h2 : a ≤ 999999) (h3 : 0 ≤ b) (h4 : b ≤ 999999) :
    Calls Try.prog 44 #[.int .i64 a, .int .i64 b] w fun e w' => e = .returned (.int .i64 (max (a - b) (b - a))) ∧ w = w' := by
  go_enter Try.func44, Try.ntmps44
  go_wp2
  all_goals go_ret
  all_goals (simp; try omega)

def syncMay (s1 m1 s2 m2 band : Int) : Bool := tv s1 m1 && (tv s2 m2 && (decide (m1 + m2 ≤ 99) && decide (max (s1 - s2) (s2 - s1) ≤ band)))



set_option maxHeartbeats 400000 in
theorem iSyncMay_calls (s1 m1 s2 m2 band : Int) (w : World) :
    Calls Try.prog 39 #[.agg #[.int .i64 s1, .int .i64 m1], .agg #[.int .i64 s2, .int .i64 m2], .int .i64 band] w fun e w' => e = .returned (.bool (syncMay s1 m1 s2 m2 band)) ∧ Below w.heap.size w w' := by
  cases h1 : tv s1 m1
  · go_enter Try.func39, Try.ntmps39
    go_wp2_with (go_at_call 42; refine (iTurningValid_calls _ _ _).mono ?_; rintro e w1' ⟨rfl, hb1'⟩; (first | (replace hb1 := below_thn hb1 hb1'; clear hb1') | (have hb1 := hb1'; clear hb1')); obtain ⟨hc1, hf1⟩ := bcell hb1)
    go_ret
    exact ⟨ret_bool (by simp [syncMay, h1]), (by repeat' (first | exact Below.refl _ _ | assumption | refine Below.drew ?_ | refine cell_drew ?_ | refine Below.setCell ?_ (by (try simp); (try omega)) _ | refine Below.alloc ?_ (by (try simp); (try omega)) _ | refine below_step (by assumption) (by (try simp); (try omega)) ?_))⟩
  cases h2 : tv s2 m2
  · go_enter Try.func39, Try.ntmps39
    go_wp2_with (go_at_call 42; refine (iTurningValid_calls _ _ _).mono ?_; rintro e w1' ⟨rfl, hb1'⟩; (first | (replace hb1 := below_thn hb1 hb1'; clear hb1') | (have hb1 := hb1'; clear hb1')); obtain ⟨hc1, hf1⟩ := bcell hb1)
    go_ret
    exact ⟨ret_bool (by simp [syncMay, h2]), (by repeat' (first | exact Below.refl _ _ | assumption | refine Below.drew ?_ | refine cell_drew ?_ | refine Below.setCell ?_ (by (try simp); (try omega)) _ | refine Below.alloc ?_ (by (try simp); (try omega)) _ | refine below_step (by assumption) (by (try simp); (try omega)) ?_))⟩
  have b1 := tv_iff.1 h1
  have b2 := tv_iff.1 h2
  obtain ⟨⟨_, _⟩, _, _⟩ := b1
  obtain ⟨⟨_, _⟩, _, _⟩ := b2
  go_enter Try.func39, Try.ntmps39
  go_wp2_with (first | (go_at_call 42; refine (iTurningValid_calls _ _ _).mono ?_; rintro e w1' ⟨rfl, hb1'⟩; (first | (replace hb1 := below_thn hb1 hb1'; clear hb1') | (have hb1 := hb1'; clear hb1')); obtain ⟨hc1, hf1⟩ := bcell hb1) | (go_at_call 44; refine (distance_calls _ _ _ (by omega) (by omega) (by omega) (by omega)).mono ?_; rintro e w' ⟨rfl, rfl⟩))
  all_goals go_ret
  all_goals refine ⟨ret_bool ?_, (by repeat' (first | exact Below.refl _ _ | assumption | refine Below.drew ?_ | refine cell_drew ?_ | refine Below.setCell ?_ (by (try simp); (try omega)) _ | refine Below.alloc ?_ (by (try simp); (try omega)) _ | refine below_step (by assumption) (by (try simp); (try omega)) ?_))⟩
  all_goals (simp_all [syncMay]; try omega)

set_option maxHeartbeats 400000 in
theorem sSyncMay_calls (s1 m1 s2 m2 band : Int) (w : World) :
    Calls Try.prog 38 #[.agg #[.int .i64 s1, .int .i64 m1], .agg #[.int .i64 s2, .int .i64 m2], .int .i64 band] w fun e w' => e = .returned (.bool (syncMay s1 m1 s2 m2 band)) ∧ Below w.heap.size w w' := by
  cases h1 : tv s1 m1
  · go_enter Try.func38, Try.ntmps38
    go_wp2_with (go_at_call 40; refine (sTurningValid_calls _ _ _).mono ?_; rintro e w1' ⟨rfl, hb1'⟩; (first | (replace hb1 := below_thn hb1 hb1'; clear hb1') | (have hb1 := hb1'; clear hb1')); obtain ⟨hc1, hf1⟩ := bcell hb1)
    go_ret
    exact ⟨ret_bool (by simp [syncMay, h1]), (by repeat' (first | exact Below.refl _ _ | assumption | refine Below.drew ?_ | refine cell_drew ?_ | refine Below.setCell ?_ (by (try simp); (try omega)) _ | refine Below.alloc ?_ (by (try simp); (try omega)) _ | refine below_step (by assumption) (by (try simp); (try omega)) ?_))⟩
  cases h2 : tv s2 m2
  · go_enter Try.func38, Try.ntmps38
    go_wp2_with (go_at_call 40; refine (sTurningValid_calls _ _ _).mono ?_; rintro e w1' ⟨rfl, hb1'⟩; (first | (replace hb1 := below_thn hb1 hb1'; clear hb1') | (have hb1 := hb1'; clear hb1')); obtain ⟨hc1, hf1⟩ := bcell hb1)
    go_ret
    exact ⟨ret_bool (by simp [syncMay, h2]), (by repeat' (first | exact Below.refl _ _ | assumption | refine Below.drew ?_ | refine cell_drew ?_ | refine Below.setCell ?_ (by (try simp); (try omega)) _ | refine Below.alloc ?_ (by (try simp); (try omega)) _ | refine below_step (by assumption) (by (try simp); (try omega)) ?_))⟩
  have b1 := tv_iff.1 h1
  have b2 := tv_iff.1 h2
  obtain ⟨⟨_, _⟩, _, _⟩ := b1
  obtain ⟨⟨_, _⟩, _, _⟩ := b2
  go_enter Try.func38, Try.ntmps38
  go_wp2_with (go_at_call 40; refine (sTurningValid_calls _ _ _).mono ?_; rintro e w1' ⟨rfl, hb1'⟩; (first | (replace hb1 := below_thn hb1 hb1'; clear hb1') | (have hb1 := hb1'; clear hb1')); obtain ⟨hc1, hf1⟩ := bcell hb1)
  all_goals go_ret
  all_goals refine ⟨ret_bool ?_, (by repeat' (first | exact Below.refl _ _ | assumption | refine Below.drew ?_ | refine cell_drew ?_ | refine Below.setCell ?_ (by (try simp); (try omega)) _ | refine Below.alloc ?_ (by (try simp); (try omega)) _ | refine below_step (by assumption) (by (try simp); (try omega)) ?_))⟩
  all_goals (simp_all [syncMay]; try omega)

theorem syncMay_tv {s1 m1 s2 m2 band : Int} (h : syncMay s1 m1 s2 m2 band = true) : ((0 ≤ s1 ∧ s1 ≤ 999) ∧ 1 ≤ m1 ∧ m1 ≤ 99) ∧ ((0 ≤ s2 ∧ s2 ≤ 999) ∧ 1 ≤ m2 ∧ m2 ≤ 99) ∧ m1 + m2 ≤ 99 ∧ s1 - s2 ≤ band ∧ s2 - s1 ≤ band := by
  simp [syncMay, tv, inB] at h; omega
theorem mul_bd {a b A B : Int} (h0 : 0 ≤ a) (h1 : a ≤ A) (h2 : 0 ≤ b) (h3 : b ≤ B) : 0 ≤ a * b ∧ a * b ≤ A * B :=
  ⟨Int.mul_nonneg h0 h2, Int.mul_le_mul h1 h3 h2 (by omega)⟩

def joinS (s1 m1 s2 m2 band : Int) : Int := if syncMay s1 m1 s2 m2 band then (s1 * m1 + s2 * m2) / (m1 + m2) else 0
def joinM (s1 m1 s2 m2 band : Int) : Int := if syncMay s1 m1 s2 m2 band then m1 + m2 else 0

theorem iSyncJoin_calls (s1 m1 s2 m2 band : Int) (w : World) : Calls Try.prog 16 #[.agg #[.int .i64 s1, .int .i64 m1], .agg #[.int .i64 s2, .int .i64 m2], .int .i64 band] w fun e w' => e = .returned (.tuple #[.agg #[.int .i64 (joinS s1 m1 s2 m2 band), .int .i64 (joinM s1 m1 s2 m2 band)], .bool (syncMay s1 m1 s2 m2 band)]) ∧ Below w.heap.size w w' := by
  cases h : syncMay s1 m1 s2 m2 band
  · have e1 : joinS s1 m1 s2 m2 band = 0 := by simp [joinS, h]
    have e2 : joinM s1 m1 s2 m2 band = 0 := by simp [joinM, h]
    rw [e1, e2]
    clear e1 e2
    go_enter Try.func16, Try.ntmps16
    go_wp2_with (go_at_call 39; refine (iSyncMay_calls _ _ _ _ _ _).mono ?_; rintro e w1' ⟨rfl, hb1'⟩; (first | (replace hb1 := below_thn hb1 hb1'; clear hb1') | (have hb1 := hb1'; clear hb1')); obtain ⟨hc1, hf1⟩ := bcell hb1)
    exact bodyPost_ret (v := .tuple #[.agg #[.int .i64 0, .int .i64 0], .bool false]) (by simp [results, Try.results16, go_sem, *]) rfl ⟨rfl, (by repeat' (first | exact Below.refl _ _ | assumption | refine Below.drew ?_ | refine cell_drew ?_ | refine Below.setCell ?_ (by (try simp); (try omega)) _ | refine Below.alloc ?_ (by (try simp); (try omega)) _ | refine below_step (by assumption) (by (try simp); (try omega)) ?_))⟩
  · obtain ⟨⟨⟨_, _⟩, _, _⟩, ⟨⟨_, _⟩, _, _⟩, _, _, _⟩ := syncMay_tv h
    have p1 := mul_bd (a := s1) (b := m1) (A := 999) (B := 99) (by omega) (by omega) (by omega) (by omega)
    have p2 := mul_bd (a := s2) (b := m2) (A := 999) (B := 99) (by omega) (by omega) (by omega) (by omega)
    obtain ⟨_, _⟩ := p1
    obtain ⟨_, _⟩ := p2
    have e1 : joinS s1 m1 s2 m2 band = (s1 * m1 + s2 * m2) / (m1 + m2) := by simp [joinS, h]
    have e2 : joinM s1 m1 s2 m2 band = m1 + m2 := by simp [joinM, h]
    rw [e1, e2]
    clear e1 e2
    go_enter Try.func16, Try.ntmps16
    go_wp2_with (go_at_call 39; refine (iSyncMay_calls _ _ _ _ _ _).mono ?_; rintro e w1' ⟨rfl, hb1'⟩; (first | (replace hb1 := below_thn hb1 hb1'; clear hb1') | (have hb1 := hb1'; clear hb1')); obtain ⟨hc1, hf1⟩ := bcell hb1)
    exact bodyPost_ret (v := .tuple #[.agg #[.int .i64 ((s1 * m1 + s2 * m2) / (m1 + m2)), .int .i64 (m1 + m2)], .bool true]) (by simp [results, Try.results16, go_sem, *]) rfl ⟨rfl, (by repeat' (first | exact Below.refl _ _ | assumption | refine Below.drew ?_ | refine cell_drew ?_ | refine Below.setCell ?_ (by (try simp); (try omega)) _ | refine Below.alloc ?_ (by (try simp); (try omega)) _ | refine below_step (by assumption) (by (try simp); (try omega)) ?_))⟩

theorem sSyncJoin_calls (s1 m1 s2 m2 band : Int) (w : World) : Calls Try.prog 14 #[.agg #[.int .i64 s1, .int .i64 m1], .agg #[.int .i64 s2, .int .i64 m2], .int .i64 band] w fun e w' => e = .returned (.tuple #[.agg #[.int .i64 (joinS s1 m1 s2 m2 band), .int .i64 (joinM s1 m1 s2 m2 band)], .bool (syncMay s1 m1 s2 m2 band)]) ∧ Below w.heap.size w w' := by
  cases h : syncMay s1 m1 s2 m2 band
  · have e1 : joinS s1 m1 s2 m2 band = 0 := by simp [joinS, h]
    have e2 : joinM s1 m1 s2 m2 band = 0 := by simp [joinM, h]
    rw [e1, e2]
    clear e1 e2
    go_enter Try.func14, Try.ntmps14
    go_wp2_with (go_at_call 38; refine (sSyncMay_calls _ _ _ _ _ _).mono ?_; rintro e w1' ⟨rfl, hb1'⟩; (first | (replace hb1 := below_thn hb1 hb1'; clear hb1') | (have hb1 := hb1'; clear hb1')); obtain ⟨hc1, hf1⟩ := bcell hb1)
    exact bodyPost_ret (v := .tuple #[.agg #[.int .i64 0, .int .i64 0], .bool false]) (by simp [results, Try.results14, go_sem, *]) rfl ⟨rfl, (by repeat' (first | exact Below.refl _ _ | assumption | refine Below.drew ?_ | refine cell_drew ?_ | refine Below.setCell ?_ (by (try simp); (try omega)) _ | refine Below.alloc ?_ (by (try simp); (try omega)) _ | refine below_step (by assumption) (by (try simp); (try omega)) ?_))⟩
  · obtain ⟨⟨⟨_, _⟩, _, _⟩, ⟨⟨_, _⟩, _, _⟩, _, _, _⟩ := syncMay_tv h
    have p1 := mul_bd (a := s1) (b := m1) (A := 999) (B := 99) (by omega) (by omega) (by omega) (by omega)
    have p2 := mul_bd (a := s2) (b := m2) (A := 999) (B := 99) (by omega) (by omega) (by omega) (by omega)
    obtain ⟨_, _⟩ := p1
    obtain ⟨_, _⟩ := p2
    have e1 : joinS s1 m1 s2 m2 band = (s1 * m1 + s2 * m2) / (m1 + m2) := by simp [joinS, h]
    have e2 : joinM s1 m1 s2 m2 band = m1 + m2 := by simp [joinM, h]
    rw [e1, e2]
    clear e1 e2
    go_enter Try.func14, Try.ntmps14
    go_wp2_with (go_at_call 38; refine (sSyncMay_calls _ _ _ _ _ _).mono ?_; rintro e w1' ⟨rfl, hb1'⟩; (first | (replace hb1 := below_thn hb1 hb1'; clear hb1') | (have hb1 := hb1'; clear hb1')); obtain ⟨hc1, hf1⟩ := bcell hb1)
    exact bodyPost_ret (v := .tuple #[.agg #[.int .i64 ((s1 * m1 + s2 * m2) / (m1 + m2)), .int .i64 (m1 + m2)], .bool true]) (by simp [results, Try.results14, go_sem, *]) rfl ⟨rfl, (by repeat' (first | exact Below.refl _ _ | assumption | refine Below.drew ?_ | refine cell_drew ?_ | refine Below.setCell ?_ (by (try simp); (try omega)) _ | refine Below.alloc ?_ (by (try simp); (try omega)) _ | refine below_step (by assumption) (by (try simp); (try omega)) ?_))⟩

def tuneOk (s m want step : Int) : Bool := tv s m && (inB want 0 999 && inB step 1 999)
def tuneS (s m want step : Int) : Int := if tuneOk s m want step then (if max (s - want) (want - s) ≤ step then want else if s < want then s + step else s - step) else 0
def tuneM (s m want step : Int) : Int := if tuneOk s m want step then m else 0
theorem tuneOk_iff {s m want step : Int} : tuneOk s m want step = true ↔ ((0 ≤ s ∧ s ≤ 999) ∧ 1 ≤ m ∧ m ≤ 99) ∧ (0 ≤ want ∧ want ≤ 999) ∧ 1 ≤ step ∧ step ≤ 999 := by
  simp [tuneOk, tv, inB]

theorem iSyncTune_calls (s m want step : Int) (w : World) : Calls Try.prog 19 #[.agg #[.int .i64 s, .int .i64 m], .int .i64 want, .int .i64 step] w fun e w' => e = .returned (.agg #[.int .i64 (tuneS s m want step), .int .i64 (tuneM s m want step)]) ∧ Below w.heap.size w w' := by
  cases h : tuneOk s m want step
  · have e1 : tuneS s m want step = 0 := by simp [tuneS, h]
    have e2 : tuneM s m want step = 0 := by simp [tuneM, h]
    rw [e1, e2]
    clear e1 e2
    cases h1 : tv s m
    · go_enter Try.func19, Try.ntmps19
      go_wp2_with (go_at_call 42; refine (iTurningValid_calls _ _ _).mono ?_; rintro e w1' ⟨rfl, hb1'⟩; (first | (replace hb1 := below_thn hb1 hb1'; clear hb1') | (have hb1 := hb1'; clear hb1')); obtain ⟨hc1, hf1⟩ := bcell hb1; have k0_0 := hc1 (w.heap.size) 0 (by (try simp); (try omega)); have q0_0 := hf1 (w.heap.size) 0 (by (try simp); (try omega)); have k0_1 := hc1 (w.heap.size) 1 (by (try simp); (try omega)); have q0_1 := hf1 (w.heap.size) 1 (by (try simp); (try omega)); have k1_0 := hc1 (w.heap.size + 1) 0 (by (try simp); (try omega)); have q1_0 := hf1 (w.heap.size + 1) 0 (by (try simp); (try omega)); have k1_1 := hc1 (w.heap.size + 1) 1 (by (try simp); (try omega)); have q1_1 := hf1 (w.heap.size + 1) 1 (by (try simp); (try omega)); simp [go_sem] at k0_0 q0_0 k0_1 q0_1 k1_0 q1_0 k1_1 q1_1; clear hc1 hf1)
      exact bodyPost_ret (v := .agg #[.int .i64 0, .int .i64 0]) (by simp [results, Try.results19, go_sem, *]) rfl ⟨rfl, (by repeat' (first | exact Below.refl _ _ | assumption | refine Below.drew ?_ | refine cell_drew ?_ | refine Below.setCell ?_ (by (try simp); (try omega)) _ | refine Below.alloc ?_ (by (try simp); (try omega)) _ | refine below_step (by assumption) (by (try simp); (try omega)) ?_))⟩
    cases h2 : inB want 0 999
    · go_enter Try.func19, Try.ntmps19
      go_wp2_with (first | (go_at_call 42; refine (iTurningValid_calls _ _ _).mono ?_; rintro e w1' ⟨rfl, hb1'⟩; (first | (replace hb1 := below_thn hb1 hb1'; clear hb1') | (have hb1 := hb1'; clear hb1')); obtain ⟨hc1, hf1⟩ := bcell hb1; have k0_0 := hc1 (w.heap.size) 0 (by (try simp); (try omega)); have q0_0 := hf1 (w.heap.size) 0 (by (try simp); (try omega)); have k0_1 := hc1 (w.heap.size) 1 (by (try simp); (try omega)); have q0_1 := hf1 (w.heap.size) 1 (by (try simp); (try omega)); have k1_0 := hc1 (w.heap.size + 1) 0 (by (try simp); (try omega)); have q1_0 := hf1 (w.heap.size + 1) 0 (by (try simp); (try omega)); have k1_1 := hc1 (w.heap.size + 1) 1 (by (try simp); (try omega)); have q1_1 := hf1 (w.heap.size + 1) 1 (by (try simp); (try omega)); simp [go_sem] at k0_0 q0_0 k0_1 q0_1 k1_0 q1_0 k1_1 q1_1; clear hc1 hf1) | (go_at_call 43; refine (powerValid_calls _ _).mono ?_; rintro e w' ⟨rfl, rfl⟩))
      exact bodyPost_ret (v := .agg #[.int .i64 0, .int .i64 0]) (by simp [results, Try.results19, go_sem, *]) rfl ⟨rfl, (by repeat' (first | exact Below.refl _ _ | assumption | refine Below.drew ?_ | refine cell_drew ?_ | refine Below.setCell ?_ (by (try simp); (try omega)) _ | refine Below.alloc ?_ (by (try simp); (try omega)) _ | refine below_step (by assumption) (by (try simp); (try omega)) ?_))⟩
    have h3 : step < 1 ∨ 999 < step := by simp [tuneOk, h1, h2] at h; exact inB_false.1 h
    go_enter Try.func19, Try.ntmps19
    go_wp2_with (first | (go_at_call 42; refine (iTurningValid_calls _ _ _).mono ?_; rintro e w1' ⟨rfl, hb1'⟩; (first | (replace hb1 := below_thn hb1 hb1'; clear hb1') | (have hb1 := hb1'; clear hb1')); obtain ⟨hc1, hf1⟩ := bcell hb1; have k0_0 := hc1 (w.heap.size) 0 (by (try simp); (try omega)); have q0_0 := hf1 (w.heap.size) 0 (by (try simp); (try omega)); have k0_1 := hc1 (w.heap.size) 1 (by (try simp); (try omega)); have q0_1 := hf1 (w.heap.size) 1 (by (try simp); (try omega)); have k1_0 := hc1 (w.heap.size + 1) 0 (by (try simp); (try omega)); have q1_0 := hf1 (w.heap.size + 1) 0 (by (try simp); (try omega)); have k1_1 := hc1 (w.heap.size + 1) 1 (by (try simp); (try omega)); have q1_1 := hf1 (w.heap.size + 1) 1 (by (try simp); (try omega)); simp [go_sem] at k0_0 q0_0 k0_1 q0_1 k1_0 q1_0 k1_1 q1_1; clear hc1 hf1) | (go_at_call 43; refine (powerValid_calls _ _).mono ?_; rintro e w' ⟨rfl, rfl⟩))
    all_goals first | (exfalso; omega) | exact bodyPost_ret (v := .agg #[.int .i64 0, .int .i64 0]) (by simp [results, Try.results19, go_sem, *]) rfl ⟨rfl, (by repeat' (first | exact Below.refl _ _ | assumption | refine Below.drew ?_ | refine cell_drew ?_ | refine Below.setCell ?_ (by (try simp); (try omega)) _ | refine Below.alloc ?_ (by (try simp); (try omega)) _ | refine below_step (by assumption) (by (try simp); (try omega)) ?_))⟩
  · obtain ⟨⟨⟨_, _⟩, _, _⟩, ⟨_, _⟩, _, _⟩ := tuneOk_iff.1 h
    have h1 : tv s m = true := by simp [tuneOk] at h; simp [h]
    have h2 : inB want 0 999 = true := by simp [tuneOk] at h; simp [h]
    have e1 : tuneS s m want step = (if max (s - want) (want - s) ≤ step then want else if s < want then s + step else s - step) := by simp [tuneS, h]
    have e2 : tuneM s m want step = m := by simp [tuneM, h]
    rw [e1, e2]
    clear e1 e2
    by_cases c1 : max (s - want) (want - s) ≤ step
    · rw [if_pos c1]
      go_enter Try.func19, Try.ntmps19
      go_wp2_with (first | (go_at_call 42; refine (iTurningValid_calls _ _ _).mono ?_; rintro e w1' ⟨rfl, hb1'⟩; (first | (replace hb1 := below_thn hb1 hb1'; clear hb1') | (have hb1 := hb1'; clear hb1')); obtain ⟨hc1, hf1⟩ := bcell hb1; have k0_0 := hc1 (w.heap.size) 0 (by (try simp); (try omega)); have q0_0 := hf1 (w.heap.size) 0 (by (try simp); (try omega)); have k0_1 := hc1 (w.heap.size) 1 (by (try simp); (try omega)); have q0_1 := hf1 (w.heap.size) 1 (by (try simp); (try omega)); have k1_0 := hc1 (w.heap.size + 1) 0 (by (try simp); (try omega)); have q1_0 := hf1 (w.heap.size + 1) 0 (by (try simp); (try omega)); have k1_1 := hc1 (w.heap.size + 1) 1 (by (try simp); (try omega)); have q1_1 := hf1 (w.heap.size + 1) 1 (by (try simp); (try omega)); simp [go_sem] at k0_0 q0_0 k0_1 q0_1 k1_0 q1_0 k1_1 q1_1; clear hc1 hf1) | (go_at_call 43; refine (powerValid_calls _ _).mono ?_; rintro e w' ⟨rfl, rfl⟩) | (go_at_call 44; refine (distance_calls _ _ _ (by omega) (by omega) (by omega) (by omega)).mono ?_; rintro e w' ⟨rfl, rfl⟩))
      exact bodyPost_ret (v := .agg #[.int .i64 want, .int .i64 m]) (by simp [results, Try.results19, go_sem, *]) rfl ⟨rfl, (by repeat' (first | exact Below.refl _ _ | assumption | refine Below.drew ?_ | refine cell_drew ?_ | refine Below.setCell ?_ (by (try simp); (try omega)) _ | refine Below.alloc ?_ (by (try simp); (try omega)) _ | refine below_step (by assumption) (by (try simp); (try omega)) ?_))⟩
    · rw [if_neg c1]
      by_cases c2 : s < want
      · rw [if_pos c2]
        go_enter Try.func19, Try.ntmps19
        go_wp2_with (first | (go_at_call 42; refine (iTurningValid_calls _ _ _).mono ?_; rintro e w1' ⟨rfl, hb1'⟩; (first | (replace hb1 := below_thn hb1 hb1'; clear hb1') | (have hb1 := hb1'; clear hb1')); obtain ⟨hc1, hf1⟩ := bcell hb1; have k0_0 := hc1 (w.heap.size) 0 (by (try simp); (try omega)); have q0_0 := hf1 (w.heap.size) 0 (by (try simp); (try omega)); have k0_1 := hc1 (w.heap.size) 1 (by (try simp); (try omega)); have q0_1 := hf1 (w.heap.size) 1 (by (try simp); (try omega)); have k1_0 := hc1 (w.heap.size + 1) 0 (by (try simp); (try omega)); have q1_0 := hf1 (w.heap.size + 1) 0 (by (try simp); (try omega)); have k1_1 := hc1 (w.heap.size + 1) 1 (by (try simp); (try omega)); have q1_1 := hf1 (w.heap.size + 1) 1 (by (try simp); (try omega)); simp [go_sem] at k0_0 q0_0 k0_1 q0_1 k1_0 q1_0 k1_1 q1_1; clear hc1 hf1) | (go_at_call 43; refine (powerValid_calls _ _).mono ?_; rintro e w' ⟨rfl, rfl⟩) | (go_at_call 44; refine (distance_calls _ _ _ (by omega) (by omega) (by omega) (by omega)).mono ?_; rintro e w' ⟨rfl, rfl⟩))
        exact bodyPost_ret (v := .agg #[.int .i64 (s + step), .int .i64 m]) (by simp [results, Try.results19, go_sem, *]) rfl ⟨rfl, (by repeat' (first | exact Below.refl _ _ | assumption | refine Below.drew ?_ | refine cell_drew ?_ | refine Below.setCell ?_ (by (try simp); (try omega)) _ | refine Below.alloc ?_ (by (try simp); (try omega)) _ | refine below_step (by assumption) (by (try simp); (try omega)) ?_))⟩
      · rw [if_neg c2]
        go_enter Try.func19, Try.ntmps19
        go_wp2_with (first | (go_at_call 42; refine (iTurningValid_calls _ _ _).mono ?_; rintro e w1' ⟨rfl, hb1'⟩; (first | (replace hb1 := below_thn hb1 hb1'; clear hb1') | (have hb1 := hb1'; clear hb1')); obtain ⟨hc1, hf1⟩ := bcell hb1; have k0_0 := hc1 (w.heap.size) 0 (by (try simp); (try omega)); have q0_0 := hf1 (w.heap.size) 0 (by (try simp); (try omega)); have k0_1 := hc1 (w.heap.size) 1 (by (try simp); (try omega)); have q0_1 := hf1 (w.heap.size) 1 (by (try simp); (try omega)); have k1_0 := hc1 (w.heap.size + 1) 0 (by (try simp); (try omega)); have q1_0 := hf1 (w.heap.size + 1) 0 (by (try simp); (try omega)); have k1_1 := hc1 (w.heap.size + 1) 1 (by (try simp); (try omega)); have q1_1 := hf1 (w.heap.size + 1) 1 (by (try simp); (try omega)); simp [go_sem] at k0_0 q0_0 k0_1 q0_1 k1_0 q1_0 k1_1 q1_1; clear hc1 hf1) | (go_at_call 43; refine (powerValid_calls _ _).mono ?_; rintro e w' ⟨rfl, rfl⟩) | (go_at_call 44; refine (distance_calls _ _ _ (by omega) (by omega) (by omega) (by omega)).mono ?_; rintro e w' ⟨rfl, rfl⟩))
        exact bodyPost_ret (v := .agg #[.int .i64 (s - step), .int .i64 m]) (by simp [results, Try.results19, go_sem, *]) rfl ⟨rfl, (by repeat' (first | exact Below.refl _ _ | assumption | refine Below.drew ?_ | refine cell_drew ?_ | refine Below.setCell ?_ (by (try simp); (try omega)) _ | refine Below.alloc ?_ (by (try simp); (try omega)) _ | refine below_step (by assumption) (by (try simp); (try omega)) ?_))⟩


end Go.Proofs.Ytpbloofmeebgiaa
