/- Rooms: the models of the program and of the reference are the plain functions of RoomM. -/
import Derived.Test.YthpmmfbnclfbmaaDoorRoomM
import Derived.Test.YthpmmfbnclfbmaaDoorDaH
namespace Go.Proofs.YthpmmfbnclfbmaaDoor
set_option linter.unusedVariables false
set_option linter.unusedSimpArgs false

theorem tm {e : Int} (h : 0 ≤ e) : Int.tmod e 2 = e % 2 := Int.tmod_eq_emod_of_nonneg h

theorem inB15 (n : Int) : inB n 1 5 = (!ltB n 1 && !ltB 5 n) := by rw [Bool.eq_iff_iff]; simp [inB, ltB]
theorem ibad {X : Type} (f s e : Int) (A B : Option X) : ((bif ltB e 0 then some true else bif e.tmod 2 == 0 then some (ltB f e) else some (ltB s e)).bind fun p => bif p then A else B) = bif !stOk f s e then A else B := by
  by_cases h1 : e < 0
  · have : stOk f s e = false := by simp [stOk]; omega
    simp [ltB, h1, this]
  · have ht := tm (e := e) (by omega)
    by_cases h2 : e % 2 = 0
    · by_cases h3 : f < e
      · have : stOk f s e = false := by simp [stOk, h2]; omega
        simp [ltB, h1, ht, h2, h3, this]
      · have : stOk f s e = true := by simp [stOk, h2]; omega
        simp [ltB, h1, ht, h2, h3, this]
    · have h4 : e % 2 = 1 := by omega
      by_cases h3 : s < e
      · have : stOk f s e = false := by simp [stOk, h2]; omega
        simp [ltB, h1, ht, h4, h3, this]
      · have : stOk f s e = true := by simp [stOk, h2]; omega
        simp [ltB, h1, ht, h4, h3, this]
theorem sbad (f s e : Int) : (ltB e 0 || e.tmod 2 == 0 && ltB f e || e.tmod 2 == 1 && ltB s e) = !stOk f s e := by
  by_cases h1 : e < 0
  · have : stOk f s e = false := by simp [stOk]; omega
    simp [ltB, h1, this]
  · have ht := tm (e := e) (by omega)
    by_cases h2 : e % 2 = 0
    · by_cases h3 : f < e
      · have : stOk f s e = false := by simp [stOk, h2]; omega
        simp [ltB, h1, ht, h2, h3, this]
      · have : stOk f s e = true := by simp [stOk, h2]; omega
        simp [ltB, h1, ht, h2, h3, this]
    · have h4 : e % 2 = 1 := by omega
      by_cases h3 : s < e
      · have : stOk f s e = false := by simp [stOk, h2]; omega
        simp [ltB, h1, ht, h4, h3, this]
      · have : stOk f s e = true := by simp [stOk, h2]; omega
        simp [ltB, h1, ht, h4, h3, this]
theorem any_not_all (f s : Int) (xs : List Int) : xs.any (fun e => !stOk f s e) = !xs.all (stOk f s) := by simp [List.all_eq_not_any_not]
section
variable (f s : Int) (xs : List Int) (hn : xs.length ≤ 1048576)
include hn
theorem iValid_l : m_impl_RoomsValid_l1 f s xs FUEL 0 = bif !xs.all (stOk f s) then some (.inr false) else some (.inl ()) := by
  have h := loop_find (m_impl_RoomsValid_l1 f s xs) (fun k => (k : Int)) xs.length (fun k => !stOk f s (xs.getD k 0)) (some (.inr false)) (some (.inl ())) (by omega) (fun k fuel hk => ?_) (fun fuel => ?_)
  · rw [any_list xs 0 (fun e => !stOk f s e), any_not_all] at h; exact h
  · rw [m_impl_RoomsValid_l1.eq_2]
    simp only [lt_dec hk, ix_dec hk, chk_true, cond_true, Int.toNat_natCast, w64_succ (by omega : k < 4611686018427387904)]
    exact ibad f s _ _ _
  · rw [m_impl_RoomsValid_l1.eq_2]; simp [nlt_dec]
theorem sValid_l : m_spec_RoomsValid_l1 f s xs FUEL 0 = bif !xs.all (stOk f s) then some (.inr false) else some (.inl ()) := by
  have h := loop_find (m_spec_RoomsValid_l1 f s xs) (fun k => (k : Int)) xs.length (fun k => !stOk f s (xs.getD k 0)) (some (.inr false)) (some (.inl ())) (by omega) (fun k fuel hk => ?_) (fun fuel => ?_)
  · rw [any_list xs 0 (fun e => !stOk f s e), any_not_all] at h; exact h
  · rw [m_spec_RoomsValid_l1.eq_2]
    simp only [lt_dec hk, ix_dec hk, chk_true, cond_true, Int.toNat_natCast, w64_succ (by omega : k < 4611686018427387904)]
    rw [sbad]
  · rw [m_spec_RoomsValid_l1.eq_2]; simp [nlt_dec]
theorem iValidP : m_impl_RoomsValid f s xs = some (roomsValid f s xs) := by
  unfold m_impl_RoomsValid m_impl_epochValid
  rw [iValid_l f s xs hn]
  simp only [roomsValid]
  rw [inB15]
  simp only [inB_le]
  cases h1 : (leB 0 f && leB f 99)
  · simp [h1, gb]
  · cases h2 : (leB 0 s && leB s 99)
    · simp [h1, h2, gb]
    · have h1' := inB_iff.1 (show inB f 0 99 = true from h1); have h2' := inB_iff.1 (show inB s 0 99 = true from h2)
      simp only [h1, h2, tm h1'.1, tm h2'.1, bne]
      cases (f % 2 == 0) <;> cases (s % 2 == 1) <;> cases ltB (xs.length : Int) 1 <;> cases ltB 5 (xs.length : Int) <;> cases xs.all (stOk f s) <;> rfl
theorem sValidP : m_spec_RoomsValid f s xs = some (roomsValid f s xs) := by
  unfold m_spec_RoomsValid m_spec_l1In
  rw [sValid_l f s xs hn]
  simp only [roomsValid, inB_le]
  cases h1 : (leB 0 f && leB f 99)
  · simp [h1, gb]
  · cases h2 : (leB 0 s && leB s 99)
    · simp [h1, h2, gb]
    · have h1' := inB_iff.1 (show inB f 0 99 = true from h1); have h2' := inB_iff.1 (show inB s 0 99 = true from h2)
      simp only [h1, h2, tm h1'.1, tm h2'.1, bne]
      cases (f % 2 == 0) <;> cases (s % 2 == 1) <;> cases (leB 1 (xs.length : Int) && leB (xs.length : Int) 5) <;> cases xs.all (stOk f s) <;> rfl
end

def stepOut (o : Option (Int × Int × List Int)) (r : Bool × Int × Int × List Int) : Prop := match o with | some q => r = (true, q.1, q.2.1, q.2.2) | none => r.1 = false
theorem epochV (n : Int) (h : 0 ≤ n) : m_impl_epochValid n = some (leB n 99) := by simp [m_impl_epochValid, leB, h]
theorem iStep {f s : Int} {xs : List Int} {kd room st : Int} (hv : RoomsOk f s xs) (hr : inB room 0 1 = true) : ∃ r, m_impl_Rooms_do f s xs kd room st = some r ∧ stepOut (roomsStep f s xs kd room st) r := by
  have f0 := hv.f0; have f1 := hv.f1; have s0 := hv.s0; have s1 := hv.s1; have l1 := hv.l1
  have hr' := inB_iff.1 hr
  have hroom : room = 0 ∨ room = 1 := by omega
  have key : ∀ hlt : ¬ (st < 0 ∨ (xs.length : Int) ≤ st), 0 ≤ xs.getD st.toNat 0 ∧ xs.getD st.toNat 0 ≤ 99 := fun hlt => by have := rooms_st hv (k := st.toNat) (by omega); exact ⟨this.1, this.2.1⟩
  have e1 := epochV (f + 2) (by omega); have e2 := epochV (s + 2) (by omega); have e3 := epochV f f0; have e4 := epochV s s0
  have w1 : w64 (f + 2) = f + 2 := w64_in (by omega) (by omega)
  have w2 : w64 (s + 2) = s + 2 := w64_in (by omega) (by omega)
  unfold m_impl_Rooms_do roomsStep roomOwn
  generalize hg : xs.getD st.toNat 0 = e at *
  have w3 : ¬ (st < 0 ∨ (xs.length : Int) ≤ st) → w64 (e + 1) = e + 1 ∧ m_impl_epochValid (e + 1) = some (leB (e + 1) 99) := fun h => ⟨w64_in (by have := key h; omega) (by have := key h; omega), epochV _ (by have := key h; omega)⟩
  by_cases hk0 : kd = 0
  · subst hk0
    rcases hroom with rfl | rfl
    · by_cases h : f + 2 ≤ 99 <;> simp [w1, e1, h, stepOut, leB]
    · by_cases h : s + 2 ≤ 99 <;> simp [w2, e2, h, stepOut, leB]
  have hk0' : (kd == 0) = false := by simpa using hk0
  by_cases hst : st < 0 ∨ (xs.length : Int) ≤ st
  · have hb : (ltB st 0 || leB (xs.length : Int) st) = true := by simp [ltB, leB]; omega
    rcases hroom with rfl | rfl <;> simp [hk0, hk0', hst, hb, stepOut]
  have hb : (ltB st 0 || leB (xs.length : Int) st) = false := by simp [ltB, leB]; omega
  have hc : ixB st xs.length = true := by simp [ixB]; omega
  obtain ⟨g0, g1⟩ := key hst
  obtain ⟨w3, e5⟩ := w3 hst
  simp only [hb, hc, Option.bind_some, cond_false, chk_true]
  by_cases hk1 : kd = 1
  · subst hk1
    rcases hroom with rfl | rfl
    · by_cases h : f < e
      · by_cases h2 : e + 1 ≤ 99 <;> simp [hb, hc, h, h2, w3, e5, stepOut, hst, ltB, leB]
      · simp [hb, hc, h, e3, stepOut, hst, f1, ltB, leB]
    · by_cases h : s < e
      · by_cases h2 : e + 1 ≤ 99 <;> simp [hb, hc, h, h2, w3, e5, stepOut, hst, ltB, leB]
      · simp [hb, hc, h, e4, stepOut, hst, s1, ltB, leB]
  have hk1' : (kd == 1) = false := by simpa using hk1
  by_cases hk2 : kd = 2
  · subst hk2
    rcases hroom with rfl | rfl <;> simp [hb, hc, stepOut, hst]
  · have hk2' : (kd == 2) = false := by simpa using hk2
    rcases hroom with rfl | rfl <;> simp [hb, hc, hk0, hk1, hk2, hk0', hk1', hk2', hst, stepOut]
def out4 (r : (Int × Int × List Int) × Bool) : Int × Int × List Int × Bool := (r.1.1, r.1.2.1, r.1.2.2, r.2)
theorem cloneP (f s : Int) (xs : List Int) (h : xs.length ≤ 1048576) : m_impl_Rooms_clone f s xs = some (f, s, xs) := by
  have : apB ([] : List Int).length xs.length = true := by simp [apB]; omega
  simp only [m_impl_Rooms_clone, m_slices_Clone_int_int, this, chk_true, Option.bind_some]
theorem bitP (n : Int) : m_impl_bitValid n = some (inB n 0 1) := by
  unfold m_impl_bitValid; congr 1; rw [Bool.eq_iff_iff]; simp [inB]; omega
theorem iDoP (f s : Int) (xs : List Int) (kd room st : Int) (hn : xs.length ≤ 1048576) : m_impl_RoomsDo f s xs kd room st = some (out4 (roomsDo f s xs kd room st)) := by
  unfold m_impl_RoomsDo roomsDo
  rw [iValidP f s xs hn, cloneP f s xs hn, bitP]
  cases hv : roomsValid f s xs
  · simp [out4]
  cases hr : inB room 0 1
  · simp [out4]
  obtain ⟨r, h1, h2⟩ := iStep (kd := kd) (st := st) (rooms_ok hv) hr
  cases hs : roomsStep f s xs kd room st with
  | none => rw [hs] at h2; simp only [stepOut] at h2; simp [h1, h2, out4]
  | some q => rw [hs] at h2; simp only [stepOut] at h2; subst h2; simp [h1, out4]
theorem setP (f s : Int) (xs : List Int) (room ep : Int) (h : xs.length ≤ 1048576) : m_spec_l32Set f s xs room ep = some (if room == 0 then (ep, s, xs) else (f, ep, xs)) := by
  have : apB ([] : List Int).length xs.length = true := by simp [apB]; omega
  unfold m_spec_l32Set
  rw [this]
  cases h : room == 0 <;> simp
theorem sDoP (f s : Int) (xs : List Int) (kd room st : Int) (hn : xs.length ≤ 1048576) : m_spec_RoomsDo f s xs kd room st = some (out4 (roomsDo f s xs kd room st)) := by
  unfold m_spec_RoomsDo roomsDo m_spec_l1In m_spec_l32Epoch
  rw [sValidP f s xs hn]
  simp only [setP _ _ _ _ _ hn]
  cases hv : roomsValid f s xs
  · simp [out4]
  have hok := rooms_ok hv
  have f0 := hok.f0; have f1 := hok.f1; have s0 := hok.s0; have s1 := hok.s1; have l1 := hok.l1
  have eB : (leB 0 room && leB room 1) = inB room 0 1 := rfl
  rw [eB]
  cases hr : inB room 0 1
  · simp [out4, gb]
  have hr' := inB_iff.1 hr
  have hroom : room = 0 ∨ room = 1 := by omega
  have how := own_le (room := room) hok
  have w1 : w64 (roomOwn f s room + 2) = roomOwn f s room + 2 := w64_in (by omega) (by omega)
  have w5 : w64 ((xs.length : Int) - 1) = (xs.length : Int) - 1 := w64_in (by omega) (by omega)
  have hown : (bif room == 0 then some f else some s) = some (roomOwn f s room) := by rcases hroom with rfl | rfl <;> simp [roomOwn]
  have h00 : ((0 : Int) == 0) = true := rfl
  simp only [hown, h00, if_true, Option.bind_some, Bool.not_true, Bool.not_false, Bool.true_and, Bool.false_or, cond_true, w5]
  by_cases hk0 : kd = 0
  · have e1 : (kd != 0) = false := by simp [hk0]
    have e2 : (kd == 0) = true := by simp [hk0]
    rw [step_claim hk0]
    by_cases h : 99 < roomOwn f s room + 2
    · have h2 : ¬ roomOwn f s room + 2 ≤ 99 := by omega
      simp [gb, w1, h, h2, out4, e1, e2, ltB]
    · have h2 : roomOwn f s room + 2 ≤ 99 := by omega
      rcases hroom with rfl | rfl <;> simp [gb, w1, h, h2, out4, e1, e2, ltB]
  have e1 : (kd != 0) = true := by simp [hk0]
  have e2 : (kd == 0) = false := by simp [hk0]
  by_cases hst : st < 0 ∨ (xs.length : Int) ≤ st
  · have hb : (leB 0 st && leB st ((xs.length : Int) - 1)) = false := by simp [leB]; omega
    rw [step_out hk0 hst]
    simp [gb, e1, e2, hb, out4]
  have hb : (leB 0 st && leB st ((xs.length : Int) - 1)) = true := by simp [leB]; omega
  have hc : ixB st xs.length = true := by simp [ixB]; omega
  obtain ⟨g0, g1, g2, g3⟩ := rooms_st hok (k := st.toNat) (by omega)
  have w3 : w64 (xs.getD st.toNat 0 + 1) = xs.getD st.toNat 0 + 1 := w64_in (by omega) (by omega)
  simp only [gb, e1, e2, hb, cond_true, cond_false, Option.bind_some, Bool.not_true, Bool.and_false, hc, chk_true, w3, tm g0]
  by_cases hk1 : kd = 1
  · have e3 : (kd == 1) = true := by simp [hk1]
    simp only [e3, cond_true]
    by_cases h1 : xs.getD st.toNat 0 < roomOwn f s room
    · rw [step_same hok hk1 hst (by omega), show ltB (xs.getD st.toNat 0) (roomOwn f s room) = true from decide_eq_true h1]
      simp [out4]
    · rw [show ltB (xs.getD st.toNat 0) (roomOwn f s room) = false from decide_eq_false h1]
      by_cases h2 : xs.getD st.toNat 0 % 2 = room
      · rw [step_same hok hk1 hst (own_par hok hr (by omega) h2), show (xs.getD st.toNat 0 % 2 == room) = true by simpa using h2]
        simp [out4]
      · rw [step_put hk1 hst (own_npar hok hr (by omega) h2 h1), show (xs.getD st.toNat 0 % 2 == room) = false by simpa using h2]
        by_cases h3 : 99 < xs.getD st.toNat 0 + 1
        · rw [if_neg (show ¬ (xs.getD st.toNat 0 + 1 ≤ 99) by omega), show ltB 99 (xs.getD st.toNat 0 + 1) = true from decide_eq_true h3]
          simp [out4]
        · rw [if_pos (show xs.getD st.toNat 0 + 1 ≤ 99 by omega), show ltB 99 (xs.getD st.toNat 0 + 1) = false from decide_eq_false h3]
          rcases hroom with rfl | rfl <;> simp [out4]
  have e3 : (kd == 1) = false := by simp [hk1]
  by_cases hk2 : kd = 2
  · have e4 : (kd == 2) = true := by simp [hk2]
    rw [step_tell hk2 hst]
    simp [e3, e4, out4]
  · have e4 : (kd == 2) = false := by simp [hk2]
    rw [step_none hk0 hk1 hk2]
    simp [e3, e4, out4]

theorem doLen (f s : Int) (xs : List Int) (kd room st : Int) : (roomsDo f s xs kd room st).1.2.2.length ≤ xs.length := rdo_len (f' := (roomsDo f s xs kd room st).1.1) (s' := (roomsDo f s xs kd room st).1.2.1) (b' := (roomsDo f s xs kd room st).2) rfl
theorem core_ExactRoomsDo (x0 x1 : Int) (x2 : List Int) (x3 x4 x5 : Int) (hn : x2.length ≤ 1048576) (_ : inR x0) (_ : inR x1) (_ : ∀ z ∈ x2, inR z) (_ : inR x3) (_ : inR x4) (_ : inR x5) :
    ∃ r, m_spec_RoomsDo x0 x1 x2 x3 x4 x5 = some r ∧ m_impl_RoomsDo x0 x1 x2 x3 x4 x5 = some r ∧ r.2.2.1.length ≤ 1048576 := ⟨_, sDoP _ _ _ _ _ _ hn, iDoP _ _ _ _ _ _ hn, Nat.le_trans (doLen _ _ _ _ _ _) hn⟩

/-! Deeds one after the other. -/
abbrev R3 := Int × Int × List Int
def rdo3 (a : R3) (d : Int × Int × Int) : R3 := (roomsDo a.1 a.2.1 a.2.2 d.1 d.2.1 d.2.2).1
def roomsRun (a : R3) (l : List (Int × Int × Int)) : R3 := if roomsValid a.1 a.2.1 a.2.2 then l.foldl rdo3 a else (0, 0, [])
theorem fold_len (l : List (Int × Int × Int)) : ∀ a : R3, (l.foldl rdo3 a).2.2.length ≤ a.2.2.length := by
  induction l with
  | nil => intro a; exact Nat.le_refl _
  | cons d l ih => intro a; exact Nat.le_trans (ih _) (doLen _ _ _ _ _ _)
section
variable (l : List (Int × Int × Int)) (hl : l.length ≤ 1048576) (a : R3) (ha : a.2.2.length ≤ 1048576)
include hl ha
theorem iRun_l : m_impl_RoomsRun_l1 l FUEL ((0 : Int), a) = some (l.foldl rdo3 a) := by
  have h := loop_all (m_impl_RoomsRun_l1 l) (fun k => ((k : Int), (l.take k).foldl rdo3 a)) l.length (some (l.foldl rdo3 a)) (by omega) (fun k fuel hk => ?_) (fun fuel => ?_)
  · simpa using h
  · have hb := Nat.le_trans (fold_len (l.take k) a) ha
    rw [m_impl_RoomsRun_l1.eq_2, take_fold rdo3 l a (0, 0, 0) hk]
    simp only [lt_dec hk, ix_dec hk, chk_true, cond_true, Int.toNat_natCast, w64_succ (by omega : k < 4611686018427387904)]
    rw [iDoP _ _ _ _ _ _ hb]
    rfl
  · rw [m_impl_RoomsRun_l1.eq_2]; simp [nlt_dec]
theorem sRun_l : m_spec_RoomsRun_l1 l FUEL ((0 : Int), a) = some (l.foldl rdo3 a) := by
  have h := loop_all (m_spec_RoomsRun_l1 l) (fun k => ((k : Int), (l.take k).foldl rdo3 a)) l.length (some (l.foldl rdo3 a)) (by omega) (fun k fuel hk => ?_) (fun fuel => ?_)
  · simpa using h
  · have hb := Nat.le_trans (fold_len (l.take k) a) ha
    rw [m_spec_RoomsRun_l1.eq_2, take_fold rdo3 l a (0, 0, 0) hk]
    simp only [lt_dec hk, ix_dec hk, chk_true, cond_true, Int.toNat_natCast, w64_succ (by omega : k < 4611686018427387904)]
    rw [sDoP _ _ _ _ _ _ hb]
    rfl
  · rw [m_spec_RoomsRun_l1.eq_2]; simp [nlt_dec]
theorem iRunP : m_impl_RoomsRun a.1 a.2.1 a.2.2 l = some (roomsRun a l) := by
  unfold m_impl_RoomsRun roomsRun
  rw [iValidP _ _ _ ha, cloneP _ _ _ ha]
  cases roomsValid a.1 a.2.1 a.2.2
  · rfl
  · simp only [Option.bind_some, cond_true, if_true]
    rw [show ((0 : Int), a.1, a.2.1, a.2.2) = ((0 : Int), a) from rfl, iRun_l l hl a ha]; rfl
theorem sRunP : m_spec_RoomsRun a.1 a.2.1 a.2.2 l = some (roomsRun a l) := by
  unfold m_spec_RoomsRun roomsRun
  rw [sValidP _ _ _ ha, setP _ _ _ _ _ ha]
  cases roomsValid a.1 a.2.1 a.2.2
  · rfl
  · simp only [Option.bind_some, cond_true, if_true, beq_self_eq_true]
    rw [show ((0 : Int), a.1, a.2.1, a.2.2) = ((0 : Int), a) from rfl, sRun_l l hl a ha]; rfl
omit hl in
theorem run_len : (roomsRun a l).2.2.length ≤ 1048576 := by
  unfold roomsRun
  split
  · exact Nat.le_trans (fold_len l a) ha
  · simp
end
theorem core_ExactRoomsRun (x0 x1 : Int) (x2 : List Int) (x3 : List (Int × Int × Int)) (hn : x2.length ≤ 1048576) (hn3 : x3.length ≤ 1048576) (_ : inR x0) (_ : inR x1) (_ : ∀ z ∈ x2, inR z) (_ : ∀ z ∈ x3, inR z.1 ∧ inR z.2.1 ∧ inR z.2.2) :
    ∃ r, m_spec_RoomsRun x0 x1 x2 x3 = some r ∧ m_impl_RoomsRun x0 x1 x2 x3 = some r ∧ r.2.2.length ≤ 1048576 := ⟨_, sRunP x3 hn3 (x0, x1, x2) hn, iRunP x3 hn3 (x0, x1, x2) hn, run_len x3 (x0, x1, x2) hn⟩
end Go.Proofs.YthpmmfbnclfbmaaDoor
