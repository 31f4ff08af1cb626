/- What the laws FnExactSyncJoin, FnExactSyncTune and FnExactSyncTicks do: they return true. -/
import Derived.Test.YtpbloofmeebgiaaSyncC
import Derived.Test.YtpbloofmeebgiaaRg
import Derived.Deep.DeepCutAuto
namespace Go.Proofs.Ytpbloofmeebgiaa
open Go.ChangeShapes Go.WideShapes Go.ChangeAt Go.RowKit
set_option linter.unusedVariables false

theorem mixed : Try.prog.follows .mixedOrders = true := by kernel_rfl

theorem toTurning_calls (s m : Int) (w : World) :
    Calls Try.prog 15 #[.agg #[.int .i64 s, .int .i64 m]] w fun e w' => e = .returned (.agg #[.int .i64 s, .int .i64 m]) ∧ Below w.heap.size w w' := by
  go_enter Try.func15, Try.ntmps15
  go_wp2
  exact bodyPost_ret (v := .agg #[.int .i64 s, .int .i64 m]) (by simp [results, Try.results15, go_sem]) rfl ⟨rfl, (by repeat' (first | exact Below.refl _ _ | assumption | refine Below.drew ?_ | refine cell_drew ?_ | refine Below.setCell ?_ (by (try simp); (try omega)) _ | refine Below.alloc ?_ (by (try simp); (try omega)) _ | refine below_step (by assumption) (by (try simp); (try omega)) ?_))⟩

theorem eqTurning_calls (s m s' m' : Int) (w : World) :
    Calls Try.prog 17 #[.agg #[.int .i64 s, .int .i64 m], .agg #[.int .i64 s', .int .i64 m']] w fun e w' => e = .returned (.bool (decide (s = s') && decide (m = m'))) ∧ Below w.heap.size w w' := by
  go_enter Try.func17, Try.ntmps17
  go_wp2
  all_goals go_ret
  all_goals refine ⟨ret_bool ?_, (by repeat' (first | exact Below.refl _ _ | assumption | refine Below.drew ?_ | refine cell_drew ?_ | refine Below.setCell ?_ (by (try simp); (try omega)) _ | refine Below.alloc ?_ (by (try simp); (try omega)) _ | refine below_step (by assumption) (by (try simp); (try omega)) ?_))⟩
  all_goals simp_all
theorem eqTurning_same (s m : Int) (w : World) :
    Calls Try.prog 17 #[.agg #[.int .i64 s, .int .i64 m], .agg #[.int .i64 s, .int .i64 m]] w fun e w' => e = .returned (.bool true) ∧ Below w.heap.size w w' :=
  (eqTurning_calls s m s m w).mono fun e w' h => by simpa using h

def fs_join1 (s1 m1 s2 m2 band : Int) (B : Nat) : Nat → Value → World → Prop
  | 0, v, _ => v = .agg #[.int .i64 s1, .int .i64 m1]
  | 1, v, _ => v = .agg #[.int .i64 s1, .int .i64 m1]
  | 2, v, _ => v = .agg #[.int .i64 s2, .int .i64 m2]
  | 3, v, _ => v = .agg #[.int .i64 s2, .int .i64 m2]
  | 4, v, _ => v = .int .i64 band
  | 5, v, _ => v = .tuple #[.agg #[.int .i64 (joinS s1 m1 s2 m2 band), .int .i64 (joinM s1 m1 s2 m2 band)], .bool (syncMay s1 m1 s2 m2 band)]
  | 6, v, _ => v = .tuple #[.agg #[.int .i64 (joinS s1 m1 s2 m2 band), .int .i64 (joinM s1 m1 s2 m2 band)], .bool (syncMay s1 m1 s2 m2 band)]
  | 7, v, _ => v = .agg #[.int .i64 (joinS s1 m1 s2 m2 band), .int .i64 (joinM s1 m1 s2 m2 band)]
  | 8, v, _ => v = .bool (syncMay s1 m1 s2 m2 band)
  | 9, v, w => ∃ g x0 x1, v = .pointer (some ⟨g, 0, none⟩) ∧ B ≤ g ∧ Bk w g 29 #[x0, x1]
  | 10, v, w => ∃ g, v = .pointer (some ⟨g, 0, none⟩) ∧ B ≤ g ∧ Bk w g 29 #[.int .i64 (joinS s1 m1 s2 m2 band), .int .i64 (joinM s1 m1 s2 m2 band)]
  | 11, v, _ => v = .bool (syncMay s1 m1 s2 m2 band)
  | _, _, _ => True
def dep_join1 : Nat → Nat
  | 0 => 12 | 1 => 13 | 2 => 14 | 3 => 15 | 4 => 16 | 5 => 17 | 6 => 11 | 7 => 18 | 8 => 19 | 9 => 7 | 10 => 7 | 11 => 8 | _ => 0

def fs_join2 (s1 m1 s2 m2 band : Int) (B : Nat) : Nat → Value → World → Prop
  | 0, v, _ => v = .agg #[.int .i64 s1, .int .i64 m1]
  | 1, v, _ => v = .agg #[.int .i64 s1, .int .i64 m1]
  | 2, v, _ => v = .agg #[.int .i64 s2, .int .i64 m2]
  | 3, v, _ => v = .agg #[.int .i64 s2, .int .i64 m2]
  | 4, v, _ => v = .int .i64 band
  | 5, v, _ => v = .tuple #[.agg #[.int .i64 (joinS s1 m1 s2 m2 band), .int .i64 (joinM s1 m1 s2 m2 band)], .bool (syncMay s1 m1 s2 m2 band)]
  | 6, v, _ => v = .tuple #[.agg #[.int .i64 (joinS s1 m1 s2 m2 band), .int .i64 (joinM s1 m1 s2 m2 band)], .bool (syncMay s1 m1 s2 m2 band)]
  | 7, v, _ => v = .agg #[.int .i64 (joinS s1 m1 s2 m2 band), .int .i64 (joinM s1 m1 s2 m2 band)]
  | 8, v, _ => v = .bool (syncMay s1 m1 s2 m2 band)
  | 9, v, w => ∃ g x0 x1, v = .pointer (some ⟨g, 0, none⟩) ∧ B ≤ g ∧ Bk w g 29 #[x0, x1]
  | 10, v, w => ∃ g, v = .pointer (some ⟨g, 0, none⟩) ∧ B ≤ g ∧ Bk w g 29 #[.int .i64 (joinS s1 m1 s2 m2 band), .int .i64 (joinM s1 m1 s2 m2 band)]
  | 11, v, _ => v = .bool (syncMay s1 m1 s2 m2 band)
  | _, _, _ => True
def dep_join2 : Nat → Nat
  | 0 => 21 | 1 => 22 | 2 => 23 | 3 => 24 | 4 => 25 | 5 => 26 | 6 => 20 | 7 => 27 | 8 => 28 | 9 => 9 | 10 => 9 | 11 => 10 | _ => 0

def fs_tick1 (s1 m1 s2 m2 step band : Int) (B : Nat) : Nat → Value → World → Prop
  | 0, v, _ => v = .agg #[.int .i64 s1, .int .i64 m1]
  | 1, v, _ => v = .agg #[.int .i64 s1, .int .i64 m1]
  | 2, v, _ => v = .agg #[.int .i64 s2, .int .i64 m2]
  | 3, v, _ => v = .agg #[.int .i64 s2, .int .i64 m2]
  | 4, v, _ => v = .int .i64 step
  | 5, v, _ => v = .int .i64 band
  | 6, v, _ => v = .int .i64 (ticks s1 m1 s2 m2 step band)
  | 7, v, _ => v = .int .i64 (ticks s1 m1 s2 m2 step band)
  | _, _, _ => True
def dep_tick1 : Nat → Nat
  | 0 => 11 | 1 => 12 | 2 => 13 | 3 => 14 | 4 => 15 | 5 => 16 | 6 => 17 | 7 => 9 | _ => 0

def fs_tick2 (s1 m1 s2 m2 step band : Int) (B : Nat) : Nat → Value → World → Prop
  | 0, v, _ => v = .agg #[.int .i64 s1, .int .i64 m1]
  | 1, v, _ => v = .agg #[.int .i64 s1, .int .i64 m1]
  | 2, v, _ => v = .agg #[.int .i64 s2, .int .i64 m2]
  | 3, v, _ => v = .agg #[.int .i64 s2, .int .i64 m2]
  | 4, v, _ => v = .int .i64 step
  | 5, v, _ => v = .int .i64 band
  | 6, v, _ => v = .int .i64 (ticks s1 m1 s2 m2 step band)
  | 7, v, _ => v = .int .i64 (ticks s1 m1 s2 m2 step band)
  | _, _, _ => True
def dep_tick2 : Nat → Nat
  | 0 => 18 | 1 => 19 | 2 => 20 | 3 => 21 | 4 => 22 | 5 => 23 | 6 => 24 | 7 => 10 | _ => 0


set_option maxHeartbeats 2000000 in
theorem exactSyncJoin_walk (s1 m1 s2 m2 band : Int) (w : World) :
    Calls Try.prog 4 #[.agg #[.int .i64 s1, .int .i64 m1], .agg #[.int .i64 s2, .int .i64 m2], .int .i64 band] w fun e w' => e = .returned (.bool true) ∧ Below w.heap.size w w' := by
  have B0 : Bk ((w.alloc (.cells #[.int .i64 s1, .int .i64 m1] 28)).alloc (.cells #[.int .i64 s2, .int .i64 m2] 28)) w.heap.size 28 #[.int .i64 s1, .int .i64 m1] := (Bk.new w _ _).alloc _
  have B1 : Bk ((w.alloc (.cells #[.int .i64 s1, .int .i64 m1] 28)).alloc (.cells #[.int .i64 s2, .int .i64 m2] 28)) (w.heap.size + 1) 28 #[.int .i64 s2, .int .i64 m2] := by simpa using Bk.new (w.alloc _) _ _
  have b7 : Below w.heap.size w ((w.alloc (.cells #[.int .i64 s1, .int .i64 m1] 28)).alloc (.cells #[.int .i64 s2, .int .i64 m2] 28)) := (by repeat' (first | exact Below.refl _ _ | assumption | refine Below.drew ?_ | refine cell_drew ?_ | refine Below.setCell ?_ (by (try simp); (try omega)) _ | refine Below.alloc ?_ (by (try simp); (try omega)) _ | refine below_step (by assumption) (by (try simp); (try omega)) ?_))
  go_enter Try.func4, Try.ntmps4
  go_upto_region 1 with fail
  go_cut [7, 8] (fun s7 s8 wx => ∃ g : Nat, s7 = .pointer (some ⟨g, 0, none⟩) ∧ s8 = .bool (syncMay s1 m1 s2 m2 band) ∧ Bk wx g 29 #[.int .i64 (joinS s1 m1 s2 m2 band), .int .i64 (joinM s1 m1 s2 m2 band)] ∧ Bk wx w.heap.size 28 #[.int .i64 s1, .int .i64 m1] ∧ Bk wx (w.heap.size + 1) 28 #[.int .i64 s2, .int .i64 m2] ∧ Below w.heap.size w wx)
  case first =>
    refine region_grow [12, 13, 14, 15, 16, 17, 11, 18, 19, 7, 8] [10] dep_join1 (fun w w' => (∀ g x0 x1, Bk w g 29 #[x0, x1] → ∃ y0 y1, Bk w' g 29 #[y0, y1])) (fs_join1 s1 m1 s2 m2 band) mixed (by kernel_rfl) ?_ ?_ ?_
    · intro B j hj a w w' hR hF
      unfold Fact at hF ⊢
      match j with
      | 0 | 1 | 2 | 3 | 4 | 5 | 6 | 7 | 8 | 11 => exact hF
      | 9 =>
        obtain ⟨g, x0, x1, h1, h0, h2⟩ := hF
        obtain ⟨y0, y1, h3⟩ := hR g _ _ h2
        exact ⟨g, y0, y1, h1, h0, h3⟩
      | 10 => simp at hj
      | n + 12 => trivial
    · refine ⟨?_, ?_, ?_, ?_, ?_, ?_, ?_, ?_, ?_, ?_, ?_, ?_, trivial⟩ <;> rintro a wx ⟨hs, hd, hB⟩ I hp
      · have e3 : a.tmps[3]?.getD undef = _ := hB 3 rfl
        (try simp [sl] at e3)
        have f := (B0.after I).c2
        exact .inl ⟨rfl, _, wx, by simp [go_sem, e3, f], I, rfl, .inl rfl⟩
      · have e12 : a.tmps[12]?.getD undef = _ := hp 0 rfl
        refine .inr (.inr (.inl ⟨rfl, _, _, by simp [go_sem, e12]; exact ⟨rfl, rfl⟩, ?_⟩))
        refine (toTurning_calls _ _ _).mono ?_
        rintro e w1 ⟨rfl, hb1⟩
        exact ⟨_, rfl, below_thn I hb1, rfl, .inr ⟨fun g1 x0 x1 h => ⟨x0, x1, h.after hb1⟩, rfl⟩⟩
      · have e4 : a.tmps[4]?.getD undef = _ := hB 4 rfl
        (try simp [sl] at e4)
        have f := (B1.after I).c2
        exact .inl ⟨rfl, _, wx, by simp [go_sem, e4, f], I, rfl, .inl rfl⟩
      · have e14 : a.tmps[14]?.getD undef = _ := hp 2 rfl
        refine .inr (.inr (.inl ⟨rfl, _, _, by simp [go_sem, e14]; exact ⟨rfl, rfl⟩, ?_⟩))
        refine (toTurning_calls _ _ _).mono ?_
        rintro e w1 ⟨rfl, hb1⟩
        exact ⟨_, rfl, below_thn I hb1, rfl, .inr ⟨fun g1 x0 x1 h => ⟨x0, x1, h.after hb1⟩, rfl⟩⟩
      · have e2 : a.tmps[2]?.getD undef = _ := hB 2 rfl
        (try simp [sl] at e2)
        exact .inl ⟨rfl, _, wx, by simp [go_sem, e2], I, rfl, .inl rfl⟩
      · have e13 : a.tmps[13]?.getD undef = _ := hp 1 rfl
        have e15 : a.tmps[15]?.getD undef = _ := hp 3 rfl
        have e16 : a.tmps[16]?.getD undef = _ := hp 4 rfl
        refine .inr (.inr (.inl ⟨rfl, _, _, by simp [go_sem, e13, e15, e16]; exact ⟨rfl, rfl⟩, ?_⟩))
        refine (sSyncJoin_calls _ _ _ _ _ _).mono ?_
        rintro e w1 ⟨rfl, hb1⟩
        exact ⟨_, rfl, below_thn I hb1, rfl, .inr ⟨fun g1 x0 x1 h => ⟨x0, x1, h.after hb1⟩, rfl⟩⟩
      · have e17 : a.tmps[17]?.getD undef = _ := hp 5 rfl
        exact .inl ⟨rfl, _, wx, by simp [go_sem, e17], I, rfl, .inl rfl⟩
      · have e11 : a.tmps[11]?.getD undef = _ := hp 6 rfl
        exact .inl ⟨rfl, _, wx, by simp [go_sem, e11], I, rfl, .inl rfl⟩
      · have e11 : a.tmps[11]?.getD undef = _ := hp 6 rfl
        exact .inl ⟨rfl, _, wx, by simp [go_sem, e11], I, rfl, .inl rfl⟩
      · exact .inl ⟨rfl, _, _, by simp [go_sem]; rfl, below_alloc' I (Nat.le_refl _) _, ⟨_, _, _, rfl, I.size, Bk.new _ _ _⟩, .inr ⟨fun g1 x0 x1 h => ⟨x0, x1, h.alloc _⟩, rfl⟩⟩
      · have e18 : a.tmps[18]?.getD undef = _ := hp 7 rfl
        obtain ⟨g, x0, x1, e7, n2, h2⟩ := hp 9 rfl
        have e7 : a.tmps[7]?.getD undef = _ := e7
        have f := h2.c2
        exact .inr (.inl ⟨rfl, _, by simp [go_sem, e7, e18, f]; rfl, ((I.setCell n2 _).setCell n2 _), ⟨g, e7, n2, by simpa using ((h2.set_ 0 _).set_ 1 _)⟩, .inr ⟨fun g1 x0 x1 h => bk2_kept h g _ _, rfl⟩⟩)
      · have e19 : a.tmps[19]?.getD undef = _ := hp 8 rfl
        exact .inl ⟨rfl, _, wx, by simp [go_sem, e19], I, rfl, .inl rfl⟩
    · intro a wx hB I hF
      obtain ⟨g, e7, n2, h7⟩ := hF 10 (by decide)
      have h8 := hF 11 (by decide)
      rw [base_eq hB]
      simp only [List.foldl]
      go_simp
      go_step
      go_meet
      exact ⟨g, e7, h8, h7, B0.after I, B1.after I, below_after' I b7⟩
  case rest =>
    clear B0 B1 b7
    obtain ⟨g, rfl, rfl, B2, B0, B1, b7⟩ := hcut
    go_upto_region 2 with fail
    go_cut [9, 10] (fun s7 s8 wx => ∃ g2 : Nat, s7 = .pointer (some ⟨g2, 0, none⟩) ∧ s8 = .bool (syncMay s1 m1 s2 m2 band) ∧ Bk wx g2 29 #[.int .i64 (joinS s1 m1 s2 m2 band), .int .i64 (joinM s1 m1 s2 m2 band)] ∧ Bk wx g 29 #[.int .i64 (joinS s1 m1 s2 m2 band), .int .i64 (joinM s1 m1 s2 m2 band)] ∧ Bk wx w.heap.size 28 #[.int .i64 s1, .int .i64 m1] ∧ Bk wx (w.heap.size + 1) 28 #[.int .i64 s2, .int .i64 m2] ∧ Below w.heap.size w wx)
    case first =>
      refine region_grow [21, 22, 23, 24, 25, 26, 20, 27, 28, 9, 10] [10] dep_join2 (fun w w' => (∀ g x0 x1, Bk w g 29 #[x0, x1] → ∃ y0 y1, Bk w' g 29 #[y0, y1])) (fs_join2 s1 m1 s2 m2 band) mixed (by kernel_rfl) ?_ ?_ ?_
      · intro B j hj a w w' hR hF
        unfold Fact at hF ⊢
        match j with
        | 0 | 1 | 2 | 3 | 4 | 5 | 6 | 7 | 8 | 11 => exact hF
        | 9 =>
          obtain ⟨g, x0, x1, h1, h0, h2⟩ := hF
          obtain ⟨y0, y1, h3⟩ := hR g _ _ h2
          exact ⟨g, y0, y1, h1, h0, h3⟩
        | 10 => simp at hj
        | n + 12 => trivial
      · refine ⟨?_, ?_, ?_, ?_, ?_, ?_, ?_, ?_, ?_, ?_, ?_, ?_, trivial⟩ <;> rintro a wx ⟨hs, hd, hB⟩ I hp
        · have e3 : a.tmps[3]?.getD undef = _ := hB 3 rfl
          (try simp [sl] at e3)
          have f := (B0.after I).c2
          exact .inl ⟨rfl, _, wx, by simp [go_sem, e3, f], I, rfl, .inl rfl⟩
        · have e21 : a.tmps[21]?.getD undef = _ := hp 0 rfl
          refine .inr (.inr (.inl ⟨rfl, _, _, by simp [go_sem, e21]; exact ⟨rfl, rfl⟩, ?_⟩))
          refine (toTurning_calls _ _ _).mono ?_
          rintro e w1 ⟨rfl, hb1⟩
          exact ⟨_, rfl, below_thn I hb1, rfl, .inr ⟨fun g1 x0 x1 h => ⟨x0, x1, h.after hb1⟩, rfl⟩⟩
        · have e4 : a.tmps[4]?.getD undef = _ := hB 4 rfl
          (try simp [sl] at e4)
          have f := (B1.after I).c2
          exact .inl ⟨rfl, _, wx, by simp [go_sem, e4, f], I, rfl, .inl rfl⟩
        · have e23 : a.tmps[23]?.getD undef = _ := hp 2 rfl
          refine .inr (.inr (.inl ⟨rfl, _, _, by simp [go_sem, e23]; exact ⟨rfl, rfl⟩, ?_⟩))
          refine (toTurning_calls _ _ _).mono ?_
          rintro e w1 ⟨rfl, hb1⟩
          exact ⟨_, rfl, below_thn I hb1, rfl, .inr ⟨fun g1 x0 x1 h => ⟨x0, x1, h.after hb1⟩, rfl⟩⟩
        · have e2 : a.tmps[2]?.getD undef = _ := hB 2 rfl
          (try simp [sl] at e2)
          exact .inl ⟨rfl, _, wx, by simp [go_sem, e2], I, rfl, .inl rfl⟩
        · have e22 : a.tmps[22]?.getD undef = _ := hp 1 rfl
          have e24 : a.tmps[24]?.getD undef = _ := hp 3 rfl
          have e25 : a.tmps[25]?.getD undef = _ := hp 4 rfl
          refine .inr (.inr (.inl ⟨rfl, _, _, by simp [go_sem, e22, e24, e25]; exact ⟨rfl, rfl⟩, ?_⟩))
          refine (iSyncJoin_calls _ _ _ _ _ _).mono ?_
          rintro e w1 ⟨rfl, hb1⟩
          exact ⟨_, rfl, below_thn I hb1, rfl, .inr ⟨fun g1 x0 x1 h => ⟨x0, x1, h.after hb1⟩, rfl⟩⟩
        · have e26 : a.tmps[26]?.getD undef = _ := hp 5 rfl
          exact .inl ⟨rfl, _, wx, by simp [go_sem, e26], I, rfl, .inl rfl⟩
        · have e20 : a.tmps[20]?.getD undef = _ := hp 6 rfl
          exact .inl ⟨rfl, _, wx, by simp [go_sem, e20], I, rfl, .inl rfl⟩
        · have e20 : a.tmps[20]?.getD undef = _ := hp 6 rfl
          exact .inl ⟨rfl, _, wx, by simp [go_sem, e20], I, rfl, .inl rfl⟩
        · exact .inl ⟨rfl, _, _, by simp [go_sem]; rfl, below_alloc' I (Nat.le_refl _) _, ⟨_, _, _, rfl, I.size, Bk.new _ _ _⟩, .inr ⟨fun g1 x0 x1 h => ⟨x0, x1, h.alloc _⟩, rfl⟩⟩
        · have e27 : a.tmps[27]?.getD undef = _ := hp 7 rfl
          obtain ⟨g, x0, x1, e9, n2, h2⟩ := hp 9 rfl
          have e9 : a.tmps[9]?.getD undef = _ := e9
          have f := h2.c2
          exact .inr (.inl ⟨rfl, _, by simp [go_sem, e9, e27, f]; rfl, ((I.setCell n2 _).setCell n2 _), ⟨g, e9, n2, by simpa using ((h2.set_ 0 _).set_ 1 _)⟩, .inr ⟨fun g1 x0 x1 h => bk2_kept h g _ _, rfl⟩⟩)
        · have e28 : a.tmps[28]?.getD undef = _ := hp 8 rfl
          exact .inl ⟨rfl, _, wx, by simp [go_sem, e28], I, rfl, .inl rfl⟩
      · intro a wx hB I hF
        obtain ⟨g2, e7, n2, h7⟩ := hF 10 (by decide)
        have h8 := hF 11 (by decide)
        rw [base_eq hB]
        simp only [List.foldl]
        go_simp
        go_step
        go_meet
        exact ⟨g2, e7, h8, h7, B2.after I, B0.after I, B1.after I, below_after' I b7⟩
    case rest =>
      clear B0 B1 b7 B2
      obtain ⟨g2, rfl, rfl, B3, B2, B0, B1, b7⟩ := hcut
      have f2 := B2.c2
      have f3 := B3.c2
      go_wp2_with (go_at_call 17; refine (eqTurning_same _ _ _).mono ?_; rintro e w1 ⟨rfl, hb1⟩)
      go_ret
      exact ⟨rfl, below_after' hb1 b7⟩

set_option maxHeartbeats 2000000 in
theorem exactSyncTicks_walk (s1 m1 s2 m2 step band : Int) (w : World) :
    Calls Try.prog 7 #[.agg #[.int .i64 s1, .int .i64 m1], .agg #[.int .i64 s2, .int .i64 m2], .int .i64 step, .int .i64 band] w fun e w' => e = .returned (.bool true) ∧ Below w.heap.size w w' := by
  have B0 : Bk ((w.alloc (.cells #[.int .i64 s1, .int .i64 m1] 28)).alloc (.cells #[.int .i64 s2, .int .i64 m2] 28)) w.heap.size 28 #[.int .i64 s1, .int .i64 m1] := (Bk.new w _ _).alloc _
  have B1 : Bk ((w.alloc (.cells #[.int .i64 s1, .int .i64 m1] 28)).alloc (.cells #[.int .i64 s2, .int .i64 m2] 28)) (w.heap.size + 1) 28 #[.int .i64 s2, .int .i64 m2] := by simpa using Bk.new (w.alloc _) _ _
  have b7 : Below w.heap.size w ((w.alloc (.cells #[.int .i64 s1, .int .i64 m1] 28)).alloc (.cells #[.int .i64 s2, .int .i64 m2] 28)) := (by repeat' (first | exact Below.refl _ _ | assumption | refine Below.drew ?_ | refine cell_drew ?_ | refine Below.setCell ?_ (by (try simp); (try omega)) _ | refine Below.alloc ?_ (by (try simp); (try omega)) _ | refine below_step (by assumption) (by (try simp); (try omega)) ?_))
  go_enter Try.func7, Try.ntmps7
  go_upto_region 1 with fail
  go_cut [9] (fun s9 wx => s9 = .int .i64 (ticks s1 m1 s2 m2 step band) ∧ Bk wx w.heap.size 28 #[.int .i64 s1, .int .i64 m1] ∧ Bk wx (w.heap.size + 1) 28 #[.int .i64 s2, .int .i64 m2] ∧ Below w.heap.size w wx)
  case first =>
    refine region_grow [11, 12, 13, 14, 15, 16, 17, 9] [] dep_tick1 (fun w w' => True) (fs_tick1 s1 m1 s2 m2 step band) mixed (by kernel_rfl) ?_ ?_ ?_
    · intro B j hj a w w' hR hF
      unfold Fact at hF ⊢
      match j with
      | 0 | 1 | 2 | 3 | 4 | 5 | 6 | 7 => exact hF
      | n + 8 => trivial
    · refine ⟨?_, ?_, ?_, ?_, ?_, ?_, ?_, ?_, trivial⟩ <;> rintro a wx ⟨hs, hd, hB⟩ I hp
      · have e4 : a.tmps[4]?.getD undef = _ := hB 4 rfl
        (try simp [sl] at e4)
        have f := (B0.after I).c2
        exact .inl ⟨rfl, _, wx, by simp [go_sem, e4, f], I, rfl, .inl rfl⟩
      · have e11 : a.tmps[11]?.getD undef = _ := hp 0 rfl
        refine .inr (.inr (.inl ⟨rfl, _, _, by simp [go_sem, e11]; exact ⟨rfl, rfl⟩, ?_⟩))
        refine (toTurning_calls _ _ _).mono ?_
        rintro e w1 ⟨rfl, hb1⟩
        exact ⟨_, rfl, below_thn I hb1, rfl, .inr ⟨trivial, rfl⟩⟩
      · have e5 : a.tmps[5]?.getD undef = _ := hB 5 rfl
        (try simp [sl] at e5)
        have f := (B1.after I).c2
        exact .inl ⟨rfl, _, wx, by simp [go_sem, e5, f], I, rfl, .inl rfl⟩
      · have e13 : a.tmps[13]?.getD undef = _ := hp 2 rfl
        refine .inr (.inr (.inl ⟨rfl, _, _, by simp [go_sem, e13]; exact ⟨rfl, rfl⟩, ?_⟩))
        refine (toTurning_calls _ _ _).mono ?_
        rintro e w1 ⟨rfl, hb1⟩
        exact ⟨_, rfl, below_thn I hb1, rfl, .inr ⟨trivial, rfl⟩⟩
      · have e2 : a.tmps[2]?.getD undef = _ := hB 2 rfl
        (try simp [sl] at e2)
        exact .inl ⟨rfl, _, wx, by simp [go_sem, e2], I, rfl, .inl rfl⟩
      · have e3 : a.tmps[3]?.getD undef = _ := hB 3 rfl
        (try simp [sl] at e3)
        exact .inl ⟨rfl, _, wx, by simp [go_sem, e3], I, rfl, .inl rfl⟩
      · have e12 : a.tmps[12]?.getD undef = _ := hp 1 rfl
        have e14 : a.tmps[14]?.getD undef = _ := hp 3 rfl
        have e15 : a.tmps[15]?.getD undef = _ := hp 4 rfl
        have e16 : a.tmps[16]?.getD undef = _ := hp 5 rfl
        refine .inr (.inr (.inl ⟨rfl, _, _, by simp [go_sem, e12, e14, e15, e16]; exact ⟨rfl, rfl⟩, ?_⟩))
        refine (sSyncTicks_calls _ _ _ _ _ _ _).mono ?_
        rintro e w1 ⟨rfl, hb1⟩
        exact ⟨_, rfl, below_thn I hb1, rfl, .inr ⟨trivial, rfl⟩⟩
      · have e17 : a.tmps[17]?.getD undef = _ := hp 6 rfl
        exact .inl ⟨rfl, _, wx, by simp [go_sem, e17], I, rfl, .inl rfl⟩
    · intro a wx hB I hF
      have h9 := hF 7 (by decide)
      rw [base_eq hB]
      simp only [List.foldl]
      go_simp
      go_step
      go_meet
      exact ⟨h9, B0.after I, B1.after I, below_after' I b7⟩
  case rest =>
    clear B0 B1 b7
    obtain ⟨rfl, B0, B1, b7⟩ := hcut
    go_upto_region 2 with fail
    go_cut [10] (fun s9 wx => s9 = .int .i64 (ticks s1 m1 s2 m2 step band) ∧ Below w.heap.size w wx)
    case first =>
      refine region_grow [18, 19, 20, 21, 22, 23, 24, 10] [] dep_tick2 (fun w w' => True) (fs_tick2 s1 m1 s2 m2 step band) mixed (by kernel_rfl) ?_ ?_ ?_
      · intro B j hj a w w' hR hF
        unfold Fact at hF ⊢
        match j with
        | 0 | 1 | 2 | 3 | 4 | 5 | 6 | 7 => exact hF
        | n + 8 => trivial
      · refine ⟨?_, ?_, ?_, ?_, ?_, ?_, ?_, ?_, trivial⟩ <;> rintro a wx ⟨hs, hd, hB⟩ I hp
        · have e4 : a.tmps[4]?.getD undef = _ := hB 4 rfl
          (try simp [sl] at e4)
          have f := (B0.after I).c2
          exact .inl ⟨rfl, _, wx, by simp [go_sem, e4, f], I, rfl, .inl rfl⟩
        · have e18 : a.tmps[18]?.getD undef = _ := hp 0 rfl
          refine .inr (.inr (.inl ⟨rfl, _, _, by simp [go_sem, e18]; exact ⟨rfl, rfl⟩, ?_⟩))
          refine (toTurning_calls _ _ _).mono ?_
          rintro e w1 ⟨rfl, hb1⟩
          exact ⟨_, rfl, below_thn I hb1, rfl, .inr ⟨trivial, rfl⟩⟩
        · have e5 : a.tmps[5]?.getD undef = _ := hB 5 rfl
          (try simp [sl] at e5)
          have f := (B1.after I).c2
          exact .inl ⟨rfl, _, wx, by simp [go_sem, e5, f], I, rfl, .inl rfl⟩
        · have e20 : a.tmps[20]?.getD undef = _ := hp 2 rfl
          refine .inr (.inr (.inl ⟨rfl, _, _, by simp [go_sem, e20]; exact ⟨rfl, rfl⟩, ?_⟩))
          refine (toTurning_calls _ _ _).mono ?_
          rintro e w1 ⟨rfl, hb1⟩
          exact ⟨_, rfl, below_thn I hb1, rfl, .inr ⟨trivial, rfl⟩⟩
        · have e2 : a.tmps[2]?.getD undef = _ := hB 2 rfl
          (try simp [sl] at e2)
          exact .inl ⟨rfl, _, wx, by simp [go_sem, e2], I, rfl, .inl rfl⟩
        · have e3 : a.tmps[3]?.getD undef = _ := hB 3 rfl
          (try simp [sl] at e3)
          exact .inl ⟨rfl, _, wx, by simp [go_sem, e3], I, rfl, .inl rfl⟩
        · have e19 : a.tmps[19]?.getD undef = _ := hp 1 rfl
          have e21 : a.tmps[21]?.getD undef = _ := hp 3 rfl
          have e22 : a.tmps[22]?.getD undef = _ := hp 4 rfl
          have e23 : a.tmps[23]?.getD undef = _ := hp 5 rfl
          refine .inr (.inr (.inl ⟨rfl, _, _, by simp [go_sem, e19, e21, e22, e23]; exact ⟨rfl, rfl⟩, ?_⟩))
          refine (iSyncTicks_calls _ _ _ _ _ _ _).mono ?_
          rintro e w1 ⟨rfl, hb1⟩
          exact ⟨_, rfl, below_thn I hb1, rfl, .inr ⟨trivial, rfl⟩⟩
        · have e24 : a.tmps[24]?.getD undef = _ := hp 6 rfl
          exact .inl ⟨rfl, _, wx, by simp [go_sem, e24], I, rfl, .inl rfl⟩
      · intro a wx hB I hF
        have h9 := hF 7 (by decide)
        rw [base_eq hB]
        simp only [List.foldl]
        go_simp
        go_step
        go_meet
        exact ⟨h9, below_after' I b7⟩
    case rest =>
      clear B0 B1 b7
      obtain ⟨rfl, b7⟩ := hcut
      go_wp2
      go_ret
      exact ⟨rfl, b7⟩

set_option maxHeartbeats 1000000 in
theorem exactSyncTune_walk (s m want step : Int) (w : World) :
    Calls Try.prog 5 #[.agg #[.int .i64 s, .int .i64 m], .int .i64 want, .int .i64 step] w fun e w' => e = .returned (.bool true) ∧ Below w.heap.size w w' := by
  go_enter Try.func5, Try.ntmps5
  go_wp2_with fail
  refine (toTurning_calls _ _ _).mono ?_
  rintro e w1 ⟨rfl, hb1⟩
  have B0 := (Bk.new w 28 #[.int .i64 s, .int .i64 m]).after hb1
  have f0 := B0.c2
  have b7 : Below w.heap.size w w1 := below_after' hb1 ((Below.refl _ _).alloc (Nat.le_refl _) _)
  go_wp2_with fail
  refine (sSyncTune_calls _ _ _ _ _).mono ?_
  rintro e w2 ⟨rfl, hb2⟩
  replace B0 := B0.after hb2
  replace f0 := B0.c2
  replace b7 := below_after' hb2 b7
  have z0 := B0.lt
  have n3 : ¬ w.heap.size = w2.heap.size := by omega
  have n4 : ¬ w2.heap.size = w.heap.size := by omega
  clear hb1 hb2
  go_wp2_with fail
  refine (toTurning_calls _ _ _).mono ?_
  rintro e w3 ⟨rfl, hb3⟩
  have B1 := (Bk.new w2 29 #[.int .i64 (tuneS s m want step), .int .i64 (tuneM s m want step)]).after hb3
  replace B0 := (B0.alloc _).after hb3
  replace f0 := B0.c2
  have f1 := B1.c2
  replace b7 := below_after' hb3 (below_alloc' b7 (Nat.le_refl _) _)
  clear hb3
  go_wp2_with fail
  refine (iSyncTune_calls _ _ _ _ _).mono ?_
  rintro e w4 ⟨rfl, hb4⟩
  replace B0 := B0.after hb4
  replace B1 := B1.after hb4
  replace f0 := B0.c2
  replace f1 := B1.c2
  replace b7 := below_after' hb4 b7
  have z1 := B1.lt
  have n1 : ¬ w4.heap.size = w2.heap.size := by omega
  have n2 : ¬ w2.heap.size = w4.heap.size := by omega
  have n5 : w2.heap.size < w4.heap.size + 1 := by omega
  clear hb4
  go_wp2_with (go_at_call 17; refine (eqTurning_same _ _ _).mono ?_; rintro e w5 ⟨rfl, hb5⟩)
  go_ret
  exact ⟨rfl, below_after' hb5 (below_alloc' b7 (Nat.le_refl _) _)⟩

end Go.Proofs.Ytpbloofmeebgiaa
