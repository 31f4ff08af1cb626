/- SyncTune of the reference, SyncTicks of both. -/
import Derived.Test.YtpbloofmeebgiaaSync
import Derived.LoopTactic
namespace Go.Proofs.Ytpbloofmeebgiaa
open Go.ChangeShapes Go.WideShapes Go.ChangeAt Go.RowKit

theorem ret_agg2 {a b a' b' : Int} (h1 : a = a') (h2 : b = b') : Ending.returned (.agg #[.int .i64 a, .int .i64 b]) = .returned (.agg #[.int .i64 a', .int .i64 b']) := by rw [h1, h2]

theorem sSyncTune_calls (s m want step : Int) (w : World) : Calls Try.prog 18 #[.agg #[.int .i64 s, .int .i64 m], .int .i64 want, .int .i64 step] w fun e w' => e = .returned (.agg #[.int .i64 (tuneS s m want step), .int .i64 (tuneM s m want step)]) ∧ Below w.heap.size w w' := by
  cases h : tuneOk s m want step
  · have e1 : tuneS s m want step = 0 := by simp [tuneS, h]
    have e2 : tuneM s m want step = 0 := by simp [tuneM, h]
    rw [e1, e2]
    clear e1 e2
    cases h1 : tv s m
    · go_enter Try.func18, Try.ntmps18
      go_wp2_with (go_at_call 40; refine (sTurningValid_calls _ _ _).mono ?_; rintro e w1' ⟨rfl, hb1'⟩; (first | (replace hb1 := below_thn hb1 hb1'; clear hb1') | (have hb1 := hb1'; clear hb1')); obtain ⟨hc1, hf1⟩ := bcell hb1; have k0_0 := hc1 (w.heap.size) 0 (by (try simp); (try omega)); have q0_0 := hf1 (w.heap.size) 0 (by (try simp); (try omega)); have k0_1 := hc1 (w.heap.size) 1 (by (try simp); (try omega)); have q0_1 := hf1 (w.heap.size) 1 (by (try simp); (try omega)); have k1_0 := hc1 (w.heap.size + 1) 0 (by (try simp); (try omega)); have q1_0 := hf1 (w.heap.size + 1) 0 (by (try simp); (try omega)); have k1_1 := hc1 (w.heap.size + 1) 1 (by (try simp); (try omega)); have q1_1 := hf1 (w.heap.size + 1) 1 (by (try simp); (try omega)); simp [go_sem] at k0_0 q0_0 k0_1 q0_1 k1_0 q1_0 k1_1 q1_1; clear hc1 hf1)
      exact bodyPost_ret (v := .agg #[.int .i64 0, .int .i64 0]) (by simp [results, Try.results18, go_sem, *]) rfl ⟨rfl, (by repeat' (first | exact Below.refl _ _ | assumption | refine Below.drew ?_ | refine cell_drew ?_ | refine Below.setCell ?_ (by (try simp); (try omega)) _ | refine Below.alloc ?_ (by (try simp); (try omega)) _ | refine below_step (by assumption) (by (try simp); (try omega)) ?_))⟩
    cases h2 : inB want 0 999
    · go_enter Try.func18, Try.ntmps18
      go_wp2_with (first | (go_at_call 40; refine (sTurningValid_calls _ _ _).mono ?_; rintro e w1' ⟨rfl, hb1'⟩; (first | (replace hb1 := below_thn hb1 hb1'; clear hb1') | (have hb1 := hb1'; clear hb1')); obtain ⟨hc1, hf1⟩ := bcell hb1; have k0_0 := hc1 (w.heap.size) 0 (by (try simp); (try omega)); have q0_0 := hf1 (w.heap.size) 0 (by (try simp); (try omega)); have k0_1 := hc1 (w.heap.size) 1 (by (try simp); (try omega)); have q0_1 := hf1 (w.heap.size) 1 (by (try simp); (try omega)); have k1_0 := hc1 (w.heap.size + 1) 0 (by (try simp); (try omega)); have q1_0 := hf1 (w.heap.size + 1) 0 (by (try simp); (try omega)); have k1_1 := hc1 (w.heap.size + 1) 1 (by (try simp); (try omega)); have q1_1 := hf1 (w.heap.size + 1) 1 (by (try simp); (try omega)); simp [go_sem] at k0_0 q0_0 k0_1 q0_1 k1_0 q1_0 k1_1 q1_1; clear hc1 hf1) | (go_at_call 41; refine (l1In_calls _ _ _ _).mono ?_; rintro e w' ⟨rfl, rfl⟩))
      exact bodyPost_ret (v := .agg #[.int .i64 0, .int .i64 0]) (by simp [results, Try.results18, go_sem, *]) rfl ⟨rfl, (by repeat' (first | exact Below.refl _ _ | assumption | refine Below.drew ?_ | refine cell_drew ?_ | refine Below.setCell ?_ (by (try simp); (try omega)) _ | refine Below.alloc ?_ (by (try simp); (try omega)) _ | refine below_step (by assumption) (by (try simp); (try omega)) ?_))⟩
    have h3 : inB step 1 999 = false := by simpa [tuneOk, h1, h2] using h
    go_enter Try.func18, Try.ntmps18
    go_wp2_with (first | (go_at_call 40; refine (sTurningValid_calls _ _ _).mono ?_; rintro e w1' ⟨rfl, hb1'⟩; (first | (replace hb1 := below_thn hb1 hb1'; clear hb1') | (have hb1 := hb1'; clear hb1')); obtain ⟨hc1, hf1⟩ := bcell hb1; have k0_0 := hc1 (w.heap.size) 0 (by (try simp); (try omega)); have q0_0 := hf1 (w.heap.size) 0 (by (try simp); (try omega)); have k0_1 := hc1 (w.heap.size) 1 (by (try simp); (try omega)); have q0_1 := hf1 (w.heap.size) 1 (by (try simp); (try omega)); have k1_0 := hc1 (w.heap.size + 1) 0 (by (try simp); (try omega)); have q1_0 := hf1 (w.heap.size + 1) 0 (by (try simp); (try omega)); have k1_1 := hc1 (w.heap.size + 1) 1 (by (try simp); (try omega)); have q1_1 := hf1 (w.heap.size + 1) 1 (by (try simp); (try omega)); simp [go_sem] at k0_0 q0_0 k0_1 q0_1 k1_0 q1_0 k1_1 q1_1; clear hc1 hf1) | (go_at_call 41; refine (l1In_calls _ _ _ _).mono ?_; rintro e w' ⟨rfl, rfl⟩))
    exact bodyPost_ret (v := .agg #[.int .i64 0, .int .i64 0]) (by simp [results, Try.results18, go_sem, *]) rfl ⟨rfl, (by repeat' (first | exact Below.refl _ _ | assumption | refine Below.drew ?_ | refine cell_drew ?_ | refine Below.setCell ?_ (by (try simp); (try omega)) _ | refine Below.alloc ?_ (by (try simp); (try omega)) _ | refine below_step (by assumption) (by (try simp); (try omega)) ?_))⟩
  · obtain ⟨⟨⟨_, _⟩, _, _⟩, ⟨_, _⟩, _, _⟩ := tuneOk_iff.1 h
    have h1 : tv s m = true := by simp [tuneOk] at h; simp [h]
    have h2 : inB want 0 999 = true := by simp [tuneOk] at h; simp [h]
    have h3 : inB step 1 999 = true := by simp [tuneOk] at h; simp [h]
    have e2 : tuneM s m want step = m := by simp [tuneM, h]
    rw [e2]
    clear e2
    by_cases c2 : s < want
    · have e1 : tuneS s m want step = min (s + step) want := by simp [tuneS, h]; (repeat' split) <;> omega
      rw [e1]
      clear e1
      go_enter Try.func18, Try.ntmps18
      go_wp2_with (first | (go_at_call 40; refine (sTurningValid_calls _ _ _).mono ?_; rintro e w1' ⟨rfl, hb1'⟩; (first | (replace hb1 := below_thn hb1 hb1'; clear hb1') | (have hb1 := hb1'; clear hb1')); obtain ⟨hc1, hf1⟩ := bcell hb1; have k0_0 := hc1 (w.heap.size) 0 (by (try simp); (try omega)); have q0_0 := hf1 (w.heap.size) 0 (by (try simp); (try omega)); have k0_1 := hc1 (w.heap.size) 1 (by (try simp); (try omega)); have q0_1 := hf1 (w.heap.size) 1 (by (try simp); (try omega)); have k1_0 := hc1 (w.heap.size + 1) 0 (by (try simp); (try omega)); have q1_0 := hf1 (w.heap.size + 1) 0 (by (try simp); (try omega)); have k1_1 := hc1 (w.heap.size + 1) 1 (by (try simp); (try omega)); have q1_1 := hf1 (w.heap.size + 1) 1 (by (try simp); (try omega)); simp [go_sem] at k0_0 q0_0 k0_1 q0_1 k1_0 q1_0 k1_1 q1_1; clear hc1 hf1) | (go_at_call 41; refine (l1In_calls _ _ _ _).mono ?_; rintro e w' ⟨rfl, rfl⟩))
      all_goals refine bodyPost_ret (v := .agg #[.int .i64 _, .int .i64 m]) (by simp [results, Try.results18, go_sem, *]; rfl) rfl ⟨ret_agg2 (by omega) rfl, (by repeat' (first | exact Below.refl _ _ | assumption | refine Below.drew ?_ | refine cell_drew ?_ | refine Below.setCell ?_ (by (try simp); (try omega)) _ | refine Below.alloc ?_ (by (try simp); (try omega)) _ | refine below_step (by assumption) (by (try simp); (try omega)) ?_))⟩
    · have e1 : tuneS s m want step = max (s - step) want := by simp [tuneS, h]; (repeat' split) <;> omega
      rw [e1]
      clear e1
      go_enter Try.func18, Try.ntmps18
      go_wp2_with (first | (go_at_call 40; refine (sTurningValid_calls _ _ _).mono ?_; rintro e w1' ⟨rfl, hb1'⟩; (first | (replace hb1 := below_thn hb1 hb1'; clear hb1') | (have hb1 := hb1'; clear hb1')); obtain ⟨hc1, hf1⟩ := bcell hb1; have k0_0 := hc1 (w.heap.size) 0 (by (try simp); (try omega)); have q0_0 := hf1 (w.heap.size) 0 (by (try simp); (try omega)); have k0_1 := hc1 (w.heap.size) 1 (by (try simp); (try omega)); have q0_1 := hf1 (w.heap.size) 1 (by (try simp); (try omega)); have k1_0 := hc1 (w.heap.size + 1) 0 (by (try simp); (try omega)); have q1_0 := hf1 (w.heap.size + 1) 0 (by (try simp); (try omega)); have k1_1 := hc1 (w.heap.size + 1) 1 (by (try simp); (try omega)); have q1_1 := hf1 (w.heap.size + 1) 1 (by (try simp); (try omega)); simp [go_sem] at k0_0 q0_0 k0_1 q0_1 k1_0 q1_0 k1_1 q1_1; clear hc1 hf1) | (go_at_call 41; refine (l1In_calls _ _ _ _).mono ?_; rintro e w' ⟨rfl, rfl⟩))
      all_goals refine bodyPost_ret (v := .agg #[.int .i64 _, .int .i64 m]) (by simp [results, Try.results18, go_sem, *]; rfl) rfl ⟨ret_agg2 (by omega) rfl, (by repeat' (first | exact Below.refl _ _ | assumption | refine Below.drew ?_ | refine cell_drew ?_ | refine Below.setCell ?_ (by (try simp); (try omega)) _ | refine Below.alloc ?_ (by (try simp); (try omega)) _ | refine below_step (by assumption) (by (try simp); (try omega)) ?_))⟩

end Go.Proofs.Ytpbloofmeebgiaa
