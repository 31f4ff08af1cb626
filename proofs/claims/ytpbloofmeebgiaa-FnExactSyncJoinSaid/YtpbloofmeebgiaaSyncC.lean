/- SyncTicks of both. -/
import Derived.Test.YtpbloofmeebgiaaSyncB
namespace Go.Proofs.Ytpbloofmeebgiaa
open Go.ChangeShapes Go.WideShapes Go.ChangeAt Go.RowKit

def tickN (m1 s2 m2 step band : Int) : Nat → Int → Int
  | 0, _ => 0
  | f + 1, s => if syncMay s m1 s2 m2 band then 0 else 1 + tickN m1 s2 m2 step band f (tuneS s m1 s2 step)
def ticksOk (s1 m1 s2 m2 step band : Int) : Bool := tv s1 m1 && (tv s2 m2 && (inB step 1 999 && (decide (0 ≤ band) && decide (m1 + m2 ≤ 99))))
def ticks (s1 m1 s2 m2 step band : Int) : Int := if ticksOk s1 m1 s2 m2 step band then tickN m1 s2 m2 step band 1000 s1 else -1
theorem ticksOk_iff {s1 m1 s2 m2 step band : Int} : ticksOk s1 m1 s2 m2 step band = true ↔ ((0 ≤ s1 ∧ s1 ≤ 999) ∧ 1 ≤ m1 ∧ m1 ≤ 99) ∧ ((0 ≤ s2 ∧ s2 ≤ 999) ∧ 1 ≤ m2 ∧ m2 ≤ 99) ∧ (1 ≤ step ∧ step ≤ 999) ∧ 0 ≤ band ∧ m1 + m2 ≤ 99 := by
  simp [ticksOk, tv, inB]

theorem tune_step {s m1 s2 m2 step band : Int} (h1 : 0 ≤ s ∧ s ≤ 999) (h2 : 1 ≤ m1 ∧ m1 ≤ 99) (h3 : 0 ≤ s2 ∧ s2 ≤ 999) (h4 : 1 ≤ m2 ∧ m2 ≤ 99) (h5 : 1 ≤ step ∧ step ≤ 999) (h6 : 0 ≤ band) (h7 : m1 + m2 ≤ 99)
    (hn : syncMay s m1 s2 m2 band = false) : 0 ≤ tuneS s m1 s2 step ∧ tuneS s m1 s2 step ≤ 999 ∧ tuneM s m1 s2 step = m1 ∧ max (tuneS s m1 s2 step - s2) (s2 - tuneS s m1 s2 step) < max (s - s2) (s2 - s) := by
  have ht : tuneOk s m1 s2 step = true := tuneOk_iff.2 ⟨⟨h1, h2⟩, h3, h5⟩
  have hv1 : tv s m1 = true := tv_iff.2 ⟨h1, h2⟩
  have hv2 : tv s2 m2 = true := tv_iff.2 ⟨h3, h4⟩
  have hd : band < max (s - s2) (s2 - s) := by
    simp only [syncMay, hv1, hv2, Bool.true_and, Bool.and_eq_false_iff, decide_eq_false_iff_not] at hn
    rcases hn with hn | hn <;> omega
  simp only [tuneS, tuneM, ht, if_true]
  refine ⟨?_, ?_, trivial, ?_⟩ <;> (repeat' split) <;> omega

theorem tickN_yes {s m1 s2 m2 step band : Int} {f : Nat} (hf : 0 < f) (h : syncMay s m1 s2 m2 band = true) : tickN m1 s2 m2 step band f s = 0 := by
  cases f with
  | zero => omega
  | succ f => simp [tickN, h]
theorem tickN_no {s m1 s2 m2 step band : Int} {f : Nat} (hf : 0 < f) (h : syncMay s m1 s2 m2 band = false) : tickN m1 s2 m2 step band f s = 1 + tickN m1 s2 m2 step band (f - 1) (tuneS s m1 s2 step) := by
  cases f with
  | zero => omega
  | succ f => simp [tickN, h]


set_option maxHeartbeats 1000000 in
theorem iSyncTicks_calls (s1 m1 s2 m2 step band : Int) (w : World) : Calls Try.prog 25 #[.agg #[.int .i64 s1, .int .i64 m1], .agg #[.int .i64 s2, .int .i64 m2], .int .i64 step, .int .i64 band] w fun e w' => e = .returned (.int .i64 (ticks s1 m1 s2 m2 step band)) ∧ Below w.heap.size w w' := by
  cases h : ticksOk s1 m1 s2 m2 step band
  · have e1 : ticks s1 m1 s2 m2 step band = -1 := by simp [ticks, h]
    rw [e1]
    clear e1
    cases h1 : tv s1 m1
    · go_enter Try.func25, Try.ntmps25
      go_wp2_with (go_at_call 42; refine (iTurningValid_calls _ _ _).mono ?_; rintro e w1' ⟨rfl, hb1'⟩; (first | (replace hb1 := below_thn hb1 hb1'; clear hb1') | (have hb1 := hb1'; clear hb1')); obtain ⟨hc1, hf1⟩ := bcell hb1; have k0_0 := hc1 (w.heap.size) 0 (by (try simp); (try omega)); have q0_0 := hf1 (w.heap.size) 0 (by (try simp); (try omega)); have k0_1 := hc1 (w.heap.size) 1 (by (try simp); (try omega)); have q0_1 := hf1 (w.heap.size) 1 (by (try simp); (try omega)); have k1_0 := hc1 (w.heap.size + 1) 0 (by (try simp); (try omega)); have q1_0 := hf1 (w.heap.size + 1) 0 (by (try simp); (try omega)); have k1_1 := hc1 (w.heap.size + 1) 1 (by (try simp); (try omega)); have q1_1 := hf1 (w.heap.size + 1) 1 (by (try simp); (try omega)); simp [go_sem] at k0_0 q0_0 k0_1 q0_1 k1_0 q1_0 k1_1 q1_1; clear hc1 hf1)
      go_ret
      exact ⟨rfl, (by repeat' (first | exact Below.refl _ _ | assumption | refine Below.drew ?_ | refine cell_drew ?_ | refine Below.setCell ?_ (by (try simp); (try omega)) _ | refine Below.alloc ?_ (by (try simp); (try omega)) _ | refine below_step (by assumption) (by (try simp); (try omega)) ?_))⟩
    cases h2 : tv s2 m2
    · go_enter Try.func25, Try.ntmps25
      go_wp2_with (go_at_call 42; refine (iTurningValid_calls _ _ _).mono ?_; rintro e w1' ⟨rfl, hb1'⟩; (first | (replace hb1 := below_thn hb1 hb1'; clear hb1') | (have hb1 := hb1'; clear hb1')); obtain ⟨hc1, hf1⟩ := bcell hb1; have k0_0 := hc1 (w.heap.size) 0 (by (try simp); (try omega)); have q0_0 := hf1 (w.heap.size) 0 (by (try simp); (try omega)); have k0_1 := hc1 (w.heap.size) 1 (by (try simp); (try omega)); have q0_1 := hf1 (w.heap.size) 1 (by (try simp); (try omega)); have k1_0 := hc1 (w.heap.size + 1) 0 (by (try simp); (try omega)); have q1_0 := hf1 (w.heap.size + 1) 0 (by (try simp); (try omega)); have k1_1 := hc1 (w.heap.size + 1) 1 (by (try simp); (try omega)); have q1_1 := hf1 (w.heap.size + 1) 1 (by (try simp); (try omega)); simp [go_sem] at k0_0 q0_0 k0_1 q0_1 k1_0 q1_0 k1_1 q1_1; clear hc1 hf1)
      go_ret
      exact ⟨rfl, (by repeat' (first | exact Below.refl _ _ | assumption | refine Below.drew ?_ | refine cell_drew ?_ | refine Below.setCell ?_ (by (try simp); (try omega)) _ | refine Below.alloc ?_ (by (try simp); (try omega)) _ | refine below_step (by assumption) (by (try simp); (try omega)) ?_))⟩
    have h3 : ¬ (1 ≤ step ∧ step ≤ 999 ∧ 0 ≤ band ∧ m1 + m2 ≤ 99) := by intro hh; simp [ticksOk, h1, h2, inB] at h; omega
    obtain ⟨⟨_, _⟩, _, _⟩ := tv_iff.1 h1
    obtain ⟨⟨_, _⟩, _, _⟩ := tv_iff.1 h2
    by_cases a1 : step < 1
    · go_enter Try.func25, Try.ntmps25
      go_wp2_with (go_at_call 42; refine (iTurningValid_calls _ _ _).mono ?_; rintro e w1' ⟨rfl, hb1'⟩; (first | (replace hb1 := below_thn hb1 hb1'; clear hb1') | (have hb1 := hb1'; clear hb1')); obtain ⟨hc1, hf1⟩ := bcell hb1; have k0_0 := hc1 (w.heap.size) 0 (by (try simp); (try omega)); have q0_0 := hf1 (w.heap.size) 0 (by (try simp); (try omega)); have k0_1 := hc1 (w.heap.size) 1 (by (try simp); (try omega)); have q0_1 := hf1 (w.heap.size) 1 (by (try simp); (try omega)); have k1_0 := hc1 (w.heap.size + 1) 0 (by (try simp); (try omega)); have q1_0 := hf1 (w.heap.size + 1) 0 (by (try simp); (try omega)); have k1_1 := hc1 (w.heap.size + 1) 1 (by (try simp); (try omega)); have q1_1 := hf1 (w.heap.size + 1) 1 (by (try simp); (try omega)); simp [go_sem] at k0_0 q0_0 k0_1 q0_1 k1_0 q1_0 k1_1 q1_1; clear hc1 hf1)
      go_ret
      exact ⟨rfl, (by repeat' (first | exact Below.refl _ _ | assumption | refine Below.drew ?_ | refine cell_drew ?_ | refine Below.setCell ?_ (by (try simp); (try omega)) _ | refine Below.alloc ?_ (by (try simp); (try omega)) _ | refine below_step (by assumption) (by (try simp); (try omega)) ?_))⟩
    by_cases a2 : 999 < step
    · go_enter Try.func25, Try.ntmps25
      go_wp2_with (go_at_call 42; refine (iTurningValid_calls _ _ _).mono ?_; rintro e w1' ⟨rfl, hb1'⟩; (first | (replace hb1 := below_thn hb1 hb1'; clear hb1') | (have hb1 := hb1'; clear hb1')); obtain ⟨hc1, hf1⟩ := bcell hb1; have k0_0 := hc1 (w.heap.size) 0 (by (try simp); (try omega)); have q0_0 := hf1 (w.heap.size) 0 (by (try simp); (try omega)); have k0_1 := hc1 (w.heap.size) 1 (by (try simp); (try omega)); have q0_1 := hf1 (w.heap.size) 1 (by (try simp); (try omega)); have k1_0 := hc1 (w.heap.size + 1) 0 (by (try simp); (try omega)); have q1_0 := hf1 (w.heap.size + 1) 0 (by (try simp); (try omega)); have k1_1 := hc1 (w.heap.size + 1) 1 (by (try simp); (try omega)); have q1_1 := hf1 (w.heap.size + 1) 1 (by (try simp); (try omega)); simp [go_sem] at k0_0 q0_0 k0_1 q0_1 k1_0 q1_0 k1_1 q1_1; clear hc1 hf1)
      go_ret
      exact ⟨rfl, (by repeat' (first | exact Below.refl _ _ | assumption | refine Below.drew ?_ | refine cell_drew ?_ | refine Below.setCell ?_ (by (try simp); (try omega)) _ | refine Below.alloc ?_ (by (try simp); (try omega)) _ | refine below_step (by assumption) (by (try simp); (try omega)) ?_))⟩
    by_cases a3 : band < 0
    · go_enter Try.func25, Try.ntmps25
      go_wp2_with (go_at_call 42; refine (iTurningValid_calls _ _ _).mono ?_; rintro e w1' ⟨rfl, hb1'⟩; (first | (replace hb1 := below_thn hb1 hb1'; clear hb1') | (have hb1 := hb1'; clear hb1')); obtain ⟨hc1, hf1⟩ := bcell hb1; have k0_0 := hc1 (w.heap.size) 0 (by (try simp); (try omega)); have q0_0 := hf1 (w.heap.size) 0 (by (try simp); (try omega)); have k0_1 := hc1 (w.heap.size) 1 (by (try simp); (try omega)); have q0_1 := hf1 (w.heap.size) 1 (by (try simp); (try omega)); have k1_0 := hc1 (w.heap.size + 1) 0 (by (try simp); (try omega)); have q1_0 := hf1 (w.heap.size + 1) 0 (by (try simp); (try omega)); have k1_1 := hc1 (w.heap.size + 1) 1 (by (try simp); (try omega)); have q1_1 := hf1 (w.heap.size + 1) 1 (by (try simp); (try omega)); simp [go_sem] at k0_0 q0_0 k0_1 q0_1 k1_0 q1_0 k1_1 q1_1; clear hc1 hf1)
      go_ret
      exact ⟨rfl, (by repeat' (first | exact Below.refl _ _ | assumption | refine Below.drew ?_ | refine cell_drew ?_ | refine Below.setCell ?_ (by (try simp); (try omega)) _ | refine Below.alloc ?_ (by (try simp); (try omega)) _ | refine below_step (by assumption) (by (try simp); (try omega)) ?_))⟩
    have a4 : 99 < m1 + m2 := by omega
    clear h3
    go_enter Try.func25, Try.ntmps25
    go_wp2_with (go_at_call 42; refine (iTurningValid_calls _ _ _).mono ?_; rintro e w1' ⟨rfl, hb1'⟩; (first | (replace hb1 := below_thn hb1 hb1'; clear hb1') | (have hb1 := hb1'; clear hb1')); obtain ⟨hc1, hf1⟩ := bcell hb1; have k0_0 := hc1 (w.heap.size) 0 (by (try simp); (try omega)); have q0_0 := hf1 (w.heap.size) 0 (by (try simp); (try omega)); have k0_1 := hc1 (w.heap.size) 1 (by (try simp); (try omega)); have q0_1 := hf1 (w.heap.size) 1 (by (try simp); (try omega)); have k1_0 := hc1 (w.heap.size + 1) 0 (by (try simp); (try omega)); have q1_0 := hf1 (w.heap.size + 1) 0 (by (try simp); (try omega)); have k1_1 := hc1 (w.heap.size + 1) 1 (by (try simp); (try omega)); have q1_1 := hf1 (w.heap.size + 1) 1 (by (try simp); (try omega)); simp [go_sem] at k0_0 q0_0 k0_1 q0_1 k1_0 q1_0 k1_1 q1_1; clear hc1 hf1)
    go_ret
    exact ⟨rfl, (by repeat' (first | exact Below.refl _ _ | assumption | refine Below.drew ?_ | refine cell_drew ?_ | refine Below.setCell ?_ (by (try simp); (try omega)) _ | refine Below.alloc ?_ (by (try simp); (try omega)) _ | refine below_step (by assumption) (by (try simp); (try omega)) ?_))⟩
  · obtain ⟨⟨⟨p1, p2⟩, p3, p4⟩, ⟨⟨p5, p6⟩, p7, p8⟩, ⟨p9, p10⟩, p11, p12⟩ := ticksOk_iff.1 h
    have h1 : tv s1 m1 = true := tv_iff.2 ⟨⟨p1, p2⟩, p3, p4⟩
    have h2 : tv s2 m2 = true := tv_iff.2 ⟨⟨p5, p6⟩, p7, p8⟩
    have e1 : ticks s1 m1 s2 m2 step band = tickN m1 s2 m2 step band 1000 s1 := by simp [ticks, h]
    rw [e1]
    clear e1
    have d1 : decide (step < 1) = false := by simp; omega
    have d2 : decide (999 < step) = false := by simp; omega
    have d3 : decide (band < 0) = false := by simp; omega
    have d4 : decide (99 < m1 + m2) = false := by simp; omega
    go_enter Try.func25, Try.ntmps25
    go_wp2_with (go_at_call 42; refine (iTurningValid_calls _ _ _).mono ?_; rintro e w1' ⟨rfl, hb1'⟩; (first | (replace hb1 := below_thn hb1 hb1'; clear hb1') | (have hb1 := hb1'; clear hb1')); obtain ⟨hc1, hf1⟩ := bcell hb1; have k0_0 := hc1 (w.heap.size) 0 (by (try simp); (try omega)); have q0_0 := hf1 (w.heap.size) 0 (by (try simp); (try omega)); have k0_1 := hc1 (w.heap.size) 1 (by (try simp); (try omega)); have q0_1 := hf1 (w.heap.size) 1 (by (try simp); (try omega)); have k1_0 := hc1 (w.heap.size + 1) 0 (by (try simp); (try omega)); have q1_0 := hf1 (w.heap.size + 1) 0 (by (try simp); (try omega)); have k1_1 := hc1 (w.heap.size + 1) 1 (by (try simp); (try omega)); have q1_1 := hf1 (w.heap.size + 1) 1 (by (try simp); (try omega)); simp [go_sem] at k0_0 q0_0 k0_1 q0_1 k1_0 q1_0 k1_1 q1_1; clear hc1 hf1)
    go_loopw [9] (fun t wr => ∃ (k : Nat) (s : Int), t = .int .i64 k ∧ 0 ≤ s ∧ s ≤ 999 ∧ max (s - s2) (s2 - s) + k ≤ 999 ∧ k + tickN m1 s2 m2 step band (1000 - k) s = tickN m1 s2 m2 step band 1000 s1 ∧ Bk wr w.heap.size 29 #[.int .i64 s, .int .i64 m1] ∧ Bk wr (w.heap.size + 1) 29 #[.int .i64 s2, .int .i64 m2] ∧ Below w.heap.size w wr) (fun t _ => (999 - intOf t).toNat)
    case atStart =>
      exact ⟨0, s1, rfl, p1, p2, by omega, by simp, ((Bk.new w _ _).alloc _).after hb1, (by simpa using Bk.new (w.alloc _) _ _ : Bk _ (w.heap.size + 1) _ _).after hb1, (by repeat' (first | exact Below.refl _ _ | assumption | refine Below.drew ?_ | refine cell_drew ?_ | refine Below.setCell ?_ (by (try simp); (try omega)) _ | refine Below.alloc ?_ (by (try simp); (try omega)) _ | refine below_step (by assumption) (by (try simp); (try omega)) ?_))⟩
    case round =>
      obtain ⟨k, s, rfl, r1, r2, r3, r4, B0, B1, r7⟩ := hrel
      have R4 := Lib.hid r4
      clear r4
      have f0 := B0.c2
      have f1 := B1.c2
      have z0 := B0.lt
      have z1 := B1.lt
      cases hm : syncMay s m1 s2 m2 band
      · obtain ⟨t1, t2, t3, t4⟩ := tune_step (m2 := m2) ⟨r1, r2⟩ ⟨p3, p4⟩ ⟨p5, p6⟩ ⟨p7, p8⟩ ⟨p9, p10⟩ p11 p12 hm
        have T3 := Lib.hid t3
        clear t3
        go_wp2_with (first | (go_at_call 39; refine (iSyncMay_calls _ _ _ _ _ _).mono ?_; rintro e w2 ⟨rfl, hb2⟩; replace B0 := B0.after hb2; replace B1 := B1.after hb2; replace f0 := B0.c2; replace f1 := B1.c2; replace r7 := below_thn r7 hb2; clear hb2) | (go_at_call 19; refine (iSyncTune_calls _ _ _ _ _).mono ?_; rw [T3.out]; rintro e w2 ⟨rfl, hb2⟩; replace B0 := B0.after hb2; replace B1 := B1.after hb2; replace f0 := B0.c2; replace f1 := B1.c2; replace r7 := below_thn r7 hb2; clear hb2))
        refine ⟨⟨k + 1, tuneS s m1 s2 step, by go_num, t1, t2, by omega, ?_, by simpa using (B0.set_ 0 _).set_ 1 _, (B1.far (by simp) _).far (by simp) _, (by repeat' (first | exact Below.refl _ _ | assumption | refine Below.drew ?_ | refine cell_drew ?_ | refine Below.setCell ?_ (by (try simp); (try omega)) _ | refine Below.alloc ?_ (by (try simp); (try omega)) _ | refine below_step (by assumption) (by (try simp); (try omega)) ?_))⟩, by simp [intOf]; omega⟩
        rw [← R4.out, tickN_no (f := 1000 - k) (by omega) hm, show 1000 - (k + 1) = 1000 - k - 1 from by omega]
        omega
      · go_wp2_with (go_at_call 39; refine (iSyncMay_calls _ _ _ _ _ _).mono ?_; rintro e w2 ⟨rfl, hb2⟩; replace B0 := B0.after hb2; replace B1 := B1.after hb2; replace f0 := B0.c2; replace f1 := B1.c2; replace r7 := below_thn r7 hb2; clear hb2)
        go_ret
        refine ⟨ret_int ?_, r7⟩
        rw [← R4.out, tickN_yes (f := 1000 - k) (by omega) hm]
        omega

set_option maxHeartbeats 1000000 in
theorem sSyncTicks_calls (s1 m1 s2 m2 step band : Int) (w : World) : Calls Try.prog 24 #[.agg #[.int .i64 s1, .int .i64 m1], .agg #[.int .i64 s2, .int .i64 m2], .int .i64 step, .int .i64 band] w fun e w' => e = .returned (.int .i64 (ticks s1 m1 s2 m2 step band)) ∧ Below w.heap.size w w' := by
  cases h : ticksOk s1 m1 s2 m2 step band
  · have e1 : ticks s1 m1 s2 m2 step band = -1 := by simp [ticks, h]
    rw [e1]
    clear e1
    cases h1 : tv s1 m1
    · go_enter Try.func24, Try.ntmps24
      go_wp2_with (first | (go_at_call 40; refine (sTurningValid_calls _ _ _).mono ?_; rintro e w1' ⟨rfl, hb1'⟩; (first | (replace hb1 := below_thn hb1 hb1'; clear hb1') | (have hb1 := hb1'; clear hb1')); obtain ⟨hc1, hf1⟩ := bcell hb1; have k0_0 := hc1 (w.heap.size) 0 (by (try simp); (try omega)); have q0_0 := hf1 (w.heap.size) 0 (by (try simp); (try omega)); have k0_1 := hc1 (w.heap.size) 1 (by (try simp); (try omega)); have q0_1 := hf1 (w.heap.size) 1 (by (try simp); (try omega)); have k1_0 := hc1 (w.heap.size + 1) 0 (by (try simp); (try omega)); have q1_0 := hf1 (w.heap.size + 1) 0 (by (try simp); (try omega)); have k1_1 := hc1 (w.heap.size + 1) 1 (by (try simp); (try omega)); have q1_1 := hf1 (w.heap.size + 1) 1 (by (try simp); (try omega)); simp [go_sem] at k0_0 q0_0 k0_1 q0_1 k1_0 q1_0 k1_1 q1_1; clear hc1 hf1) | (go_at_call 41; refine (l1In_calls _ _ _ _).mono ?_; rintro e w' ⟨rfl, rfl⟩))
      go_ret
      exact ⟨rfl, (by repeat' (first | exact Below.refl _ _ | assumption | refine Below.drew ?_ | refine cell_drew ?_ | refine Below.setCell ?_ (by (try simp); (try omega)) _ | refine Below.alloc ?_ (by (try simp); (try omega)) _ | refine below_step (by assumption) (by (try simp); (try omega)) ?_))⟩
    cases h2 : tv s2 m2
    · go_enter Try.func24, Try.ntmps24
      go_wp2_with (first | (go_at_call 40; refine (sTurningValid_calls _ _ _).mono ?_; rintro e w1' ⟨rfl, hb1'⟩; (first | (replace hb1 := below_thn hb1 hb1'; clear hb1') | (have hb1 := hb1'; clear hb1')); obtain ⟨hc1, hf1⟩ := bcell hb1; have k0_0 := hc1 (w.heap.size) 0 (by (try simp); (try omega)); have q0_0 := hf1 (w.heap.size) 0 (by (try simp); (try omega)); have k0_1 := hc1 (w.heap.size) 1 (by (try simp); (try omega)); have q0_1 := hf1 (w.heap.size) 1 (by (try simp); (try omega)); have k1_0 := hc1 (w.heap.size + 1) 0 (by (try simp); (try omega)); have q1_0 := hf1 (w.heap.size + 1) 0 (by (try simp); (try omega)); have k1_1 := hc1 (w.heap.size + 1) 1 (by (try simp); (try omega)); have q1_1 := hf1 (w.heap.size + 1) 1 (by (try simp); (try omega)); simp [go_sem] at k0_0 q0_0 k0_1 q0_1 k1_0 q1_0 k1_1 q1_1; clear hc1 hf1) | (go_at_call 41; refine (l1In_calls _ _ _ _).mono ?_; rintro e w' ⟨rfl, rfl⟩))
      go_ret
      exact ⟨rfl, (by repeat' (first | exact Below.refl _ _ | assumption | refine Below.drew ?_ | refine cell_drew ?_ | refine Below.setCell ?_ (by (try simp); (try omega)) _ | refine Below.alloc ?_ (by (try simp); (try omega)) _ | refine below_step (by assumption) (by (try simp); (try omega)) ?_))⟩
    have h3 : ¬ (1 ≤ step ∧ step ≤ 999 ∧ 0 ≤ band ∧ m1 + m2 ≤ 99) := by intro hh; simp [ticksOk, h1, h2, inB] at h; omega
    obtain ⟨⟨_, _⟩, _, _⟩ := tv_iff.1 h1
    obtain ⟨⟨_, _⟩, _, _⟩ := tv_iff.1 h2
    by_cases a4 : 99 < m1 + m2
    · go_enter Try.func24, Try.ntmps24
      go_wp2_with (first | (go_at_call 40; refine (sTurningValid_calls _ _ _).mono ?_; rintro e w1' ⟨rfl, hb1'⟩; (first | (replace hb1 := below_thn hb1 hb1'; clear hb1') | (have hb1 := hb1'; clear hb1')); obtain ⟨hc1, hf1⟩ := bcell hb1; have k0_0 := hc1 (w.heap.size) 0 (by (try simp); (try omega)); have q0_0 := hf1 (w.heap.size) 0 (by (try simp); (try omega)); have k0_1 := hc1 (w.heap.size) 1 (by (try simp); (try omega)); have q0_1 := hf1 (w.heap.size) 1 (by (try simp); (try omega)); have k1_0 := hc1 (w.heap.size + 1) 0 (by (try simp); (try omega)); have q1_0 := hf1 (w.heap.size + 1) 0 (by (try simp); (try omega)); have k1_1 := hc1 (w.heap.size + 1) 1 (by (try simp); (try omega)); have q1_1 := hf1 (w.heap.size + 1) 1 (by (try simp); (try omega)); simp [go_sem] at k0_0 q0_0 k0_1 q0_1 k1_0 q1_0 k1_1 q1_1; clear hc1 hf1) | (go_at_call 41; refine (l1In_calls _ _ _ _).mono ?_; rintro e w' ⟨rfl, rfl⟩))
      go_ret
      exact ⟨rfl, (by repeat' (first | exact Below.refl _ _ | assumption | refine Below.drew ?_ | refine cell_drew ?_ | refine Below.setCell ?_ (by (try simp); (try omega)) _ | refine Below.alloc ?_ (by (try simp); (try omega)) _ | refine below_step (by assumption) (by (try simp); (try omega)) ?_))⟩
    cases a1 : inB step 1 999
    · go_enter Try.func24, Try.ntmps24
      go_wp2_with (first | (go_at_call 40; refine (sTurningValid_calls _ _ _).mono ?_; rintro e w1' ⟨rfl, hb1'⟩; (first | (replace hb1 := below_thn hb1 hb1'; clear hb1') | (have hb1 := hb1'; clear hb1')); obtain ⟨hc1, hf1⟩ := bcell hb1; have k0_0 := hc1 (w.heap.size) 0 (by (try simp); (try omega)); have q0_0 := hf1 (w.heap.size) 0 (by (try simp); (try omega)); have k0_1 := hc1 (w.heap.size) 1 (by (try simp); (try omega)); have q0_1 := hf1 (w.heap.size) 1 (by (try simp); (try omega)); have k1_0 := hc1 (w.heap.size + 1) 0 (by (try simp); (try omega)); have q1_0 := hf1 (w.heap.size + 1) 0 (by (try simp); (try omega)); have k1_1 := hc1 (w.heap.size + 1) 1 (by (try simp); (try omega)); have q1_1 := hf1 (w.heap.size + 1) 1 (by (try simp); (try omega)); simp [go_sem] at k0_0 q0_0 k0_1 q0_1 k1_0 q1_0 k1_1 q1_1; clear hc1 hf1) | (go_at_call 41; refine (l1In_calls _ _ _ _).mono ?_; rintro e w' ⟨rfl, rfl⟩))
      go_ret
      exact ⟨rfl, (by repeat' (first | exact Below.refl _ _ | assumption | refine Below.drew ?_ | refine cell_drew ?_ | refine Below.setCell ?_ (by (try simp); (try omega)) _ | refine Below.alloc ?_ (by (try simp); (try omega)) _ | refine below_step (by assumption) (by (try simp); (try omega)) ?_))⟩
    have a3 : band < 0 := by have := inB_iff.1 a1; omega
    clear h3
    go_enter Try.func24, Try.ntmps24
    go_wp2_with (first | (go_at_call 40; refine (sTurningValid_calls _ _ _).mono ?_; rintro e w1' ⟨rfl, hb1'⟩; (first | (replace hb1 := below_thn hb1 hb1'; clear hb1') | (have hb1 := hb1'; clear hb1')); obtain ⟨hc1, hf1⟩ := bcell hb1; have k0_0 := hc1 (w.heap.size) 0 (by (try simp); (try omega)); have q0_0 := hf1 (w.heap.size) 0 (by (try simp); (try omega)); have k0_1 := hc1 (w.heap.size) 1 (by (try simp); (try omega)); have q0_1 := hf1 (w.heap.size) 1 (by (try simp); (try omega)); have k1_0 := hc1 (w.heap.size + 1) 0 (by (try simp); (try omega)); have q1_0 := hf1 (w.heap.size + 1) 0 (by (try simp); (try omega)); have k1_1 := hc1 (w.heap.size + 1) 1 (by (try simp); (try omega)); have q1_1 := hf1 (w.heap.size + 1) 1 (by (try simp); (try omega)); simp [go_sem] at k0_0 q0_0 k0_1 q0_1 k1_0 q1_0 k1_1 q1_1; clear hc1 hf1) | (go_at_call 41; refine (l1In_calls _ _ _ _).mono ?_; rintro e w' ⟨rfl, rfl⟩))
    go_ret
    exact ⟨rfl, (by repeat' (first | exact Below.refl _ _ | assumption | refine Below.drew ?_ | refine cell_drew ?_ | refine Below.setCell ?_ (by (try simp); (try omega)) _ | refine Below.alloc ?_ (by (try simp); (try omega)) _ | refine below_step (by assumption) (by (try simp); (try omega)) ?_))⟩
  · obtain ⟨⟨⟨p1, p2⟩, p3, p4⟩, ⟨⟨p5, p6⟩, p7, p8⟩, ⟨p9, p10⟩, p11, p12⟩ := ticksOk_iff.1 h
    have h1 : tv s1 m1 = true := tv_iff.2 ⟨⟨p1, p2⟩, p3, p4⟩
    have h2 : tv s2 m2 = true := tv_iff.2 ⟨⟨p5, p6⟩, p7, p8⟩
    have e1 : ticks s1 m1 s2 m2 step band = tickN m1 s2 m2 step band 1000 s1 := by simp [ticks, h]
    rw [e1]
    clear e1
    have d1 : inB step 1 999 = true := inB_iff.2 ⟨p9, p10⟩
    have d3 : decide (band < 0) = false := by simp; omega
    have d4 : decide (99 < m1 + m2) = false := by simp; omega
    go_enter Try.func24, Try.ntmps24
    go_wp2_with (first | (go_at_call 40; refine (sTurningValid_calls _ _ _).mono ?_; rintro e w1' ⟨rfl, hb1'⟩; (first | (replace hb1 := below_thn hb1 hb1'; clear hb1') | (have hb1 := hb1'; clear hb1')); obtain ⟨hc1, hf1⟩ := bcell hb1; have k0_0 := hc1 (w.heap.size) 0 (by (try simp); (try omega)); have q0_0 := hf1 (w.heap.size) 0 (by (try simp); (try omega)); have k0_1 := hc1 (w.heap.size) 1 (by (try simp); (try omega)); have q0_1 := hf1 (w.heap.size) 1 (by (try simp); (try omega)); have k1_0 := hc1 (w.heap.size + 1) 0 (by (try simp); (try omega)); have q1_0 := hf1 (w.heap.size + 1) 0 (by (try simp); (try omega)); have k1_1 := hc1 (w.heap.size + 1) 1 (by (try simp); (try omega)); have q1_1 := hf1 (w.heap.size + 1) 1 (by (try simp); (try omega)); simp [go_sem] at k0_0 q0_0 k0_1 q0_1 k1_0 q1_0 k1_1 q1_1; clear hc1 hf1) | (go_at_call 41; refine (l1In_calls _ _ _ _).mono ?_; rintro e w' ⟨rfl, rfl⟩))
    go_loopw [9] (fun t wr => ∃ (k : Nat) (s : Int), t = .int .i64 k ∧ 0 ≤ s ∧ s ≤ 999 ∧ max (s - s2) (s2 - s) + k ≤ 999 ∧ k + tickN m1 s2 m2 step band (1000 - k) s = tickN m1 s2 m2 step band 1000 s1 ∧ Bk wr w.heap.size 29 #[.int .i64 s, .int .i64 m1] ∧ Bk wr (w.heap.size + 1) 29 #[.int .i64 s2, .int .i64 m2] ∧ Below w.heap.size w wr) (fun t _ => (999 - intOf t).toNat)
    case atStart =>
      exact ⟨0, s1, rfl, p1, p2, by omega, by simp, ((Bk.new w _ _).alloc _).after hb1, (by simpa using Bk.new (w.alloc _) _ _ : Bk _ (w.heap.size + 1) _ _).after hb1, (by repeat' (first | exact Below.refl _ _ | assumption | refine Below.drew ?_ | refine cell_drew ?_ | refine Below.setCell ?_ (by (try simp); (try omega)) _ | refine Below.alloc ?_ (by (try simp); (try omega)) _ | refine below_step (by assumption) (by (try simp); (try omega)) ?_))⟩
    case round =>
      obtain ⟨k, s, rfl, r1, r2, r3, r4, B0, B1, r7⟩ := hrel
      have R4 := Lib.hid r4
      clear r4
      have f0 := B0.c2
      have f1 := B1.c2
      have z0 := B0.lt
      have z1 := B1.lt
      cases hm : syncMay s m1 s2 m2 band
      · obtain ⟨t1, t2, t3, t4⟩ := tune_step (m2 := m2) ⟨r1, r2⟩ ⟨p3, p4⟩ ⟨p5, p6⟩ ⟨p7, p8⟩ ⟨p9, p10⟩ p11 p12 hm
        have T3 := Lib.hid t3
        clear t3
        go_wp2_with (first | (go_at_call 38; refine (sSyncMay_calls _ _ _ _ _ _).mono ?_; rintro e w2 ⟨rfl, hb2⟩; replace B0 := B0.after hb2; replace B1 := B1.after hb2; replace f0 := B0.c2; replace f1 := B1.c2; replace r7 := below_thn r7 hb2; clear hb2) | (go_at_call 18; refine (sSyncTune_calls _ _ _ _ _).mono ?_; rw [T3.out]; rintro e w2 ⟨rfl, hb2⟩; replace B0 := B0.after hb2; replace B1 := B1.after hb2; replace f0 := B0.c2; replace f1 := B1.c2; replace r7 := below_thn r7 hb2; clear hb2))
        refine ⟨⟨k + 1, tuneS s m1 s2 step, by go_num, t1, t2, by omega, ?_, by simpa using (B0.set_ 0 _).set_ 1 _, (B1.far (by simp) _).far (by simp) _, (by repeat' (first | exact Below.refl _ _ | assumption | refine Below.drew ?_ | refine cell_drew ?_ | refine Below.setCell ?_ (by (try simp); (try omega)) _ | refine Below.alloc ?_ (by (try simp); (try omega)) _ | refine below_step (by assumption) (by (try simp); (try omega)) ?_))⟩, by simp [intOf]; omega⟩
        rw [← R4.out, tickN_no (f := 1000 - k) (by omega) hm, show 1000 - (k + 1) = 1000 - k - 1 from by omega]
        omega
      · go_wp2_with (go_at_call 38; refine (sSyncMay_calls _ _ _ _ _ _).mono ?_; rintro e w2 ⟨rfl, hb2⟩; replace B0 := B0.after hb2; replace B1 := B1.after hb2; replace f0 := B0.c2; replace f1 := B1.c2; replace r7 := below_thn r7 hb2; clear hb2)
        go_ret
        refine ⟨ret_int ?_, r7⟩
        rw [← R4.out, tickN_yes (f := 1000 - k) (by omega) hm]
        omega

end Go.Proofs.Ytpbloofmeebgiaa
