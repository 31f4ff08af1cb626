/- Texts of the claim, one behind the other: Net, Tr, Sum, Hl, FlI, FlS, Bst, WkR, WkV, WvM, HlM, WkD, BsM, WrM, RsM. -/
import Derived.Test.YtekcjnpahohkaaaGreatRExactWorldRest5
namespace Go.Proofs.YtekcjnpahohkaaaGreat
set_option linter.unusedVariables false
set_option linter.unusedSimpArgs false
theorem loop_rel {σ Out : Type} (L : Nat → σ → Option Out) (R : Nat → σ → Prop) (n : Nat) (fin : σ → Option Out) (hn : n ≤ 1099511627776)
    (hstep : ∀ k fuel s, k < n → R k s → ∃ s', R (k + 1) s' ∧ L (fuel + 1) s = L fuel s') (hend : ∀ fuel s, R n s → L (fuel + 1) s = fin s) (s : σ) (h0 : R 0 s) : ∃ s', R n s' ∧ L FUEL s = fin s' := by
  have go : ∀ j k fuel s, k + j = n → j < fuel → R k s → ∃ s', R n s' ∧ L fuel s = fin s' := by
    intro j
    induction j with
    | zero =>
      intro k fuel s hk hf hr
      obtain ⟨f, rfl⟩ : ∃ f, fuel = f + 1 := ⟨fuel - 1, by omega⟩
      obtain rfl : k = n := by omega
      exact ⟨s, hr, hend f s hr⟩
    | succ j ih =>
      intro k fuel s hk hf hr
      obtain ⟨f, rfl⟩ : ∃ f, fuel = f + 1 := ⟨fuel - 1, by omega⟩
      obtain ⟨s', h1, h2⟩ := hstep k f s (by omega) hr
      rw [h2]
      exact ih (k + 1) f s' (by omega) (by omega) h1
  exact go n 0 FUEL s (by omega) (fuel_gt hn) h0
theorem loop_hunt {σ Out : Type} (L : Nat → σ → Option Out) (R : Nat → σ → Prop) (n : Nat) (P : Nat → Bool) (fv out : Option Out) (hn : n ≤ 1099511627776)
    (hstep : ∀ k fuel s, k < n → R k s → (P k = true ∧ L (fuel + 1) s = fv) ∨ (P k = false ∧ ∃ s', R (k + 1) s' ∧ L (fuel + 1) s = L fuel s')) (hend : ∀ fuel s, R n s → L (fuel + 1) s = out) (s : σ) (h0 : R 0 s) :
    L FUEL s = bif (List.range n).any P then fv else out := by
  have go : ∀ j k fuel s, k + j = n → j < fuel → R k s → L fuel s = bif (List.range' k j).any P then fv else out := by
    intro j
    induction j with
    | zero =>
      intro k fuel s hk hf hr
      obtain ⟨f, rfl⟩ : ∃ f, fuel = f + 1 := ⟨fuel - 1, by omega⟩
      obtain rfl : k = n := by omega
      simpa using hend f s hr
    | succ j ih =>
      intro k fuel s hk hf hr
      obtain ⟨f, rfl⟩ : ∃ f, fuel = f + 1 := ⟨fuel - 1, by omega⟩
      rw [List.range'_succ, List.any_cons]
      rcases hstep k f s (by omega) hr with ⟨h1, h2⟩ | ⟨h1, s', h2, h3⟩
      · rw [h1, h2]; rfl
      · rw [h1, h3, ih (k + 1) f s' (by omega) (by omega) h2]; rfl
  rw [go n 0 FUEL s (by omega) (fuel_gt hn) h0, List.range_eq_range']
theorem ltN (b : Int) : (ltB b 1 || ltB 8 b) = !inB b 1 8 := by rw [Bool.eq_iff_iff]; simp [ltB, inB] <;> omega
theorem lt10 (n : Nat) : ltB 10 (n : Int) = !decide (n ≤ 10) := by rw [Bool.eq_iff_iff]; simp [ltB]; omega
theorem len_beq (a b : Nat) : ((a : Int) == (b : Int)) = decide (a = b) := by rw [Bool.eq_iff_iff]; simp <;> omega
theorem lineV_i (b : Int) (l : Ln) : lineV b l = ((leB 0 l.1 && ltB l.1 b) && (leB 0 l.2.1 && ltB l.2.1 b) && !(l.1 == l.2.1) && (!ltB l.2.2 1 && !ltB 999 l.2.2)) := by
  rw [Bool.eq_iff_iff]; simp [lineV, inB, leB, ltB] <;> omega
theorem iNet (b : Int) (ls : List Ln) : m_impl_NetValid b ls = some (netV b ls) := by
  unfold m_impl_NetValid netV
  rw [ltN, lt10]
  cases h1 : inB b 1 8
  · rfl
  by_cases hl : ls.length ≤ 10
  · have h := loop_find (m_impl_NetValid_l1 b ls) (fun k => (k : Int)) ls.length (fun k => !lineV b (ls.getD k (0, 0, 0))) (some (.inr false)) (some (.inl ())) (by omega) (fun k fuel hk => ?_) (fun fuel => ?_)
    · rw [show m_impl_NetValid_l1 b ls FUEL 0 = _ from h, decide_eq_true hl]
      cases (List.range ls.length).any fun k => !lineV b (ls.getD k (0, 0, 0)) <;> rfl
    · rw [e_impl_NetValid_l1, m_impl_NetValid_l1s]
      simp only [lt_dec hk, ix_dec hk, chk_true, cond_true, Int.toNat_natCast, w64_succ (by omega : k < 4611686018427387904), m_impl_Net_hasBus, Option.bind_some]
      generalize ls.getD k (0, 0, 0) = l
      rw [lineV_i]
      cases leB 0 l.1 && ltB l.1 b <;> cases leB 0 l.2.1 && ltB l.2.1 b <;> cases l.1 == l.2.1 <;> cases ltB l.2.2 1 <;> cases ltB 999 l.2.2 <;> rfl
    · rw [e_impl_NetValid_l1, m_impl_NetValid_l1s]; simp only [nlt_dec, cond_false]
  · rw [decide_eq_false hl]; rfl
theorem sNet (b : Int) (ls : List Ln) : m_spec_NetValid b ls = some (netV b ls) := by
  unfold m_spec_NetValid netV m_spec_l1In
  rw [lt10, inB_le]
  cases h1 : leB 1 b && leB b 8
  · rfl
  by_cases hl : ls.length ≤ 10
  · have hb : 1 ≤ b ∧ b ≤ 8 := by simpa [leB] using h1
    have w1 : w64 (b - 1) = b - 1 := w64_in (by omega) (by omega)
    have h := loop_find (m_spec_NetValid_l1 b ls) (fun k => (k : Int)) ls.length (fun k => !lineV b (ls.getD k (0, 0, 0))) (some (.inr false)) (some (.inl ())) (by omega) (fun k fuel hk => ?_) (fun fuel => ?_)
    · rw [show m_spec_NetValid_l1 b ls FUEL 0 = _ from h, decide_eq_true hl]
      cases (List.range ls.length).any fun k => !lineV b (ls.getD k (0, 0, 0)) <;> rfl
    · rw [e_spec_NetValid_l1, m_spec_NetValid_l1s]
      simp only [lt_dec hk, ix_dec hk, chk_true, cond_true, Int.toNat_natCast, w64_succ (by omega : k < 4611686018427387904), m_spec_l1In, Option.bind_some, w1]
      generalize ls.getD k (0, 0, 0) = l
      unfold lineV
      rw [inB_le, inB_le, inB_le]
      cases leB 0 l.1 && leB l.1 (b - 1) <;> cases leB 0 l.2.1 && leB l.2.1 (b - 1) <;> cases l.1 == l.2.1 <;> cases leB 1 l.2.2 && leB l.2.2 999 <;> rfl
    · rw [e_spec_NetValid_l1, m_spec_NetValid_l1s]; simp only [nlt_dec, cond_false]
  · rw [decide_eq_false hl]; rfl
section
variable (b : Int) (ls : List Ln) (pts : List (Int × Int)) (hp : pts.length ≤ 1048576)
include hp
theorem iBuses : m_impl_BusesValid b ls pts = some (busesV b ls pts) := by
  unfold m_impl_BusesValid busesV
  rw [iNet, Option.bind_some]
  have e : ((pts.length : Int) != b) = !decide ((pts.length : Int) = b) := by rw [Bool.eq_iff_iff]; simp
  rw [e]
  have h := loop_find (m_impl_BusesValid_l1 pts) (fun k => (k : Int)) pts.length (fun k => !busV (pts.getD k (0, 0))) (some (.inr false)) (some (.inl ())) (by omega) (fun k fuel hk => ?_) (fun fuel => ?_)
  · rw [show m_impl_BusesValid_l1 pts FUEL 0 = _ from h]
    cases netV b ls <;> cases decide ((pts.length : Int) = b) <;> cases (List.range pts.length).any fun k => !busV (pts.getD k (0, 0)) <;> rfl
  · rw [e_impl_BusesValid_l1, m_impl_BusesValid_l1s]
    simp only [lt_dec hk, ix_dec hk, chk_true, cond_true, Int.toNat_natCast, w64_succ (by omega : k < 4611686018427387904), m_impl_powerValid, Option.bind_some]
    generalize pts.getD k (0, 0) = p
    unfold busV
    rw [inB_le, inB_le]
    cases leB 0 p.1 && leB p.1 999 <;> cases leB 0 p.2 && leB p.2 999 <;> rfl
  · rw [e_impl_BusesValid_l1, m_impl_BusesValid_l1s]; simp only [nlt_dec, cond_false]
theorem sBuses : m_spec_BusesValid b ls pts = some (busesV b ls pts) := by
  unfold m_spec_BusesValid busesV
  rw [sNet]
  have e : ((pts.length : Int) == b) = decide ((pts.length : Int) = b) := by rw [Bool.eq_iff_iff]; simp
  rw [e]
  have h := loop_find (m_spec_BusesValid_l1 pts) (fun k => (k : Int)) pts.length (fun k => !busV (pts.getD k (0, 0))) (some (.inr false)) (some (.inl ())) (by omega) (fun k fuel hk => ?_) (fun fuel => ?_)
  · rw [show m_spec_BusesValid_l1 pts FUEL 0 = _ from h]
    cases netV b ls <;> cases decide ((pts.length : Int) = b) <;> cases (List.range pts.length).any fun k => !busV (pts.getD k (0, 0)) <;> rfl
  · rw [e_spec_BusesValid_l1, m_spec_BusesValid_l1s]
    simp only [lt_dec hk, ix_dec hk, chk_true, cond_true, Int.toNat_natCast, w64_succ (by omega : k < 4611686018427387904), m_spec_l1In, Option.bind_some, Bool.or_true]
    generalize pts.getD k (0, 0) = p
    unfold busV
    rw [inB_le, inB_le]
    cases leB 0 p.1 && leB p.1 999 <;> cases leB 0 p.2 && leB p.2 999 <;> rfl
  · rw [e_spec_BusesValid_l1, m_spec_BusesValid_l1s]; simp only [nlt_dec, cond_false]
omit hp in
theorem iState (on : List Bool) : m_impl_StateValid b ls on = some (stV b ls on) := by
  unfold m_impl_StateValid stV; rw [iNet, len_beq]; rfl
omit hp in
theorem sState (on : List Bool) : m_spec_StateValid b ls on = some (stV b ls on) := by
  unfold m_spec_StateValid stV; rw [sNet, len_beq]; rfl
theorem iFed (on : List Bool) : m_impl_fedValid b ls on pts = some (okV b ls on pts) := by
  unfold m_impl_fedValid okV
  rw [iState, iBuses b ls pts hp]
  cases stV b ls on <;> cases busesV b ls pts <;> rfl
theorem sFed (on : List Bool) : m_spec_l5Ok b ls on pts = some (okV b ls on pts) := by
  unfold m_spec_l5Ok okV
  rw [sState, sBuses b ls pts hp]
  cases stV b ls on <;> cases busesV b ls pts <;> rfl
end
structure StOk (b : Int) (ls : List Ln) (on : List Bool) : Prop where
  net : NetOk b ls
  len : on.length = ls.length
theorem stV_iff {b : Int} {ls : List Ln} {on : List Bool} : stV b ls on = true ↔ StOk b ls on := by
  unfold stV
  rw [Bool.and_eq_true, netV_iff, decide_eq_true_eq]
  exact ⟨fun h => ⟨h.1, h.2⟩, fun h => ⟨h.1, h.2⟩⟩
theorem okV_iff {b : Int} {ls : List Ln} {on : List Bool} {pts : List (Int × Int)} : okV b ls on pts = true ↔ StOk b ls on ∧ BusOk b ls pts := by
  unfold okV; rw [Bool.and_eq_true, stV_iff, busesV_iff]
def zl (u : List Nat) : List Int := u.map fun (n : Nat) => (n : Int)
theorem zl_len (u : List Nat) : (zl u).length = u.length := by simp [zl]
theorem zl_get (u : List Nat) (k : Nat) : (zl u).getD k 0 = ((u.getD k 0 : Nat) : Int) := by
  unfold zl
  rcases Nat.lt_or_ge k u.length with h | h
  · simp [List.getD, h]
  · simp [List.getD, List.getElem?_eq_none h]
theorem zl_set (u : List Nat) (k v : Nat) : (zl u).set k (v : Int) = zl (u.set k v) := by simp [zl, List.map_set]
structure UR (u : List Nat) (B : Nat) (f : Nat → Nat) : Prop where
  len : u.length = B
  dn : Dn u
  rot : ∀ c, c < B → Rot u c (f c)
theorem UR.le {u : List Nat} {B : Nat} {f : Nat → Nat} (h : UR u B f) {c : Nat} (hc : c < B) : f c ≤ c := by
  obtain ⟨r, h1, h2⟩ := Rot.ex h.dn c (by rw [h.len]; exact hc)
  rw [(h.rot c hc).uniq h1]; exact h2
theorem find_l {u0 : List Nat} {B : Nat} {f : Nat → Nat} (h0 : u0.length = B) : ∀ (c fuel : Nat) (u : List Nat), c < fuel → UR u B f → c < B → ∃ v, m_impl_union_find_l1 (zl u0) fuel (zl u, (c : Int)) = some (((f c : Nat) : Int), zl v) ∧ UR v B f := by
  intro c
  induction c using Nat.strongRecOn with
  | ind c ih =>
    intro fuel u hf hu hc
    obtain ⟨g, rfl⟩ : ∃ g, fuel = g + 1 := ⟨fuel - 1, by omega⟩
    rw [e_impl_union_find_l1, m_impl_union_find_l1s]
    have hx : ∀ d, d < B → ixB (d : Int) (zl u0).length = true := fun d hd => by rw [zl_len, h0]; exact ix_dec hd
    simp only [hx c hc, chk_true, Int.toNat_natCast, zl_get]
    by_cases hr : u.getD c 0 = c
    · have e : (((u.getD c 0 : Nat) : Int) != (c : Int)) = false := by rw [hr]; simp
      rw [e, (hu.rot c hc).fix hr]
      exact ⟨u, rfl, hu⟩
    · have e : (((u.getD c 0 : Nat) : Int) != (c : Int)) = true := by simp only [bne_iff_ne, ne_eq]; omega
      have h1 := hu.dn c (by rw [hu.len]; exact hc)
      have h2 := hu.dn (u.getD c 0) (by rw [hu.len]; omega)
      simp only [e, cond_true, hx _ (show u.getD c 0 < B by omega), chk_true, Int.toNat_natCast, zl_get]
      have h3 : (zl u).set c ((u.getD (u.getD c 0) 0 : Nat) : Int) = zl (u.set c (u.getD (u.getD c 0) 0)) := zl_set _ _ _
      rw [h3, zl_get, uset_get (by rw [hu.len]; exact hc), if_pos rfl]
      have hcl : c < u.length := by rw [hu.len]; exact hc
      have hv : UR (u.set c (u.getD (u.getD c 0) 0)) B f := ⟨by rw [List.length_set]; exact hu.len, hu.dn.halve hcl, fun d hd => Rot.halve hu.dn hcl d _ (by rw [hu.len]; exact hd) (hu.rot d hd)⟩
      obtain ⟨v, i1, i2⟩ := ih (u.getD (u.getD c 0) 0) (by omega) g _ (by omega) hv (by omega)
      have hf2 : f (u.getD (u.getD c 0) 0) = f c := (hu.rot _ (by omega)).uniq ((hu.rot c hc).next.next)
      rw [hf2] at i1
      exact ⟨v, i1, i2⟩
theorem iFindU {u : List Nat} {B : Nat} {f : Nat → Nat} (h : UR u B f) (hB : B ≤ 1099511627776) {c : Nat} (hc : c < B) : ∃ v, m_impl_union_find (zl u) (c : Int) = some (((f c : Nat) : Int), zl v) ∧ UR v B f := by
  obtain ⟨v, h1, h2⟩ := find_l h.len c FUEL u (fuel_gt (by omega)) h hc
  refine ⟨v, ?_, h2⟩
  unfold m_impl_union_find
  rw [h1]; rfl
theorem iSame {u : List Nat} {B : Nat} {f : Nat → Nat} (h : UR u B f) (hB : B ≤ 1099511627776) {a c : Nat} (ha : a < B) (hc : c < B) : ∃ v, m_impl_union_same (zl u) (a : Int) (c : Int) = some (decide (f a = f c), zl v) ∧ UR v B f := by
  obtain ⟨v, h1, h2⟩ := iFindU h hB ha
  obtain ⟨x, h3, h4⟩ := iFindU h2 hB hc
  refine ⟨x, ?_, h4⟩
  unfold m_impl_union_same
  rw [h1, Option.bind_some, h3, Option.bind_some]
  have : (((f a : Nat) : Int) == ((f c : Nat) : Int)) = decide (f a = f c) := by rw [Bool.eq_iff_iff]; simp; omega
  rw [this]
theorem iJoin {u : List Nat} {B : Nat} {f : Nat → Nat} (h : UR u B f) (hB : B ≤ 1099511627776) {a c : Nat} (ha : a < B) (hc : c < B) : ∃ v, m_impl_union_join (zl u) (a : Int) (c : Int) = some (zl v) ∧ UR v B (relab f a c) := by
  obtain ⟨v, h1, h2⟩ := iFindU h hB ha
  obtain ⟨x, h3, h4⟩ := iFindU h2 hB hc
  have la := h.le ha
  have lc := h.le hc
  refine ⟨x.set (max (f a) (f c)) (min (f a) (f c)), ?_, ?_⟩
  · unfold m_impl_union_join
    rw [h1, Option.bind_some, h3, Option.bind_some]
    have e1 : max ((f a : Nat) : Int) ((f c : Nat) : Int) = ((max (f a) (f c) : Nat) : Int) := by omega
    have e2 : min ((f a : Nat) : Int) ((f c : Nat) : Int) = ((min (f a) (f c) : Nat) : Int) := by omega
    have hx : ixB ((max (f a) (f c) : Nat) : Int) (zl u).length = true := by rw [zl_len, h.len]; exact ix_dec (by omega)
    rw [e1, e2, hx, chk_true, Int.toNat_natCast]
    exact congrArg some (zl_set _ _ _)
  · have hlen := h4.len
    refine ⟨by rw [List.length_set]; exact hlen, fun d hd => ?_, fun d hd => Rot.join h4.dn (fun c hc => h4.rot c (by omega)) (by omega) (by omega) (fun c hc => h4.le (by omega)) d (by omega)⟩
    rw [List.length_set] at hd
    rw [uset_get (by omega)]
    split
    · omega
    · exact h4.dn d hd
theorem iNew {B : Nat} (hB : B ≤ 1099511627776) : m_impl_newUnion (B : Int) = some (zl (List.range B)) ∧ UR (List.range B) B id := by
  refine ⟨?_, by simp, fun b hb => ?_, fun c hc => ?_⟩
  · unfold m_impl_newUnion
    have hm : mkB (B : Int) = true := by simp [mkB]; omega
    rw [hm, chk_true, Int.toNat_natCast]
    have h := loop_all (m_impl_newUnion_l1 (B : Int)) (fun k => ((List.range B).map (fun (i : Nat) => if i < k then (i : Int) else 0), (k : Int))) B (some (zl (List.range B))) (by omega) (fun k fuel hk => ?_) (fun fuel => ?_)
    · have e : (List.range B).map (fun (i : Nat) => if i < 0 then (i : Int) else 0) = List.replicate B (0 : Int) := by
        apply List.ext_getElem (by simp)
        intro i h1 h2
        simp
      rw [e] at h
      rw [show m_impl_newUnion_l1 (B : Int) FUEL (List.replicate B (0 : Int), 0) = _ from h]; rfl
    · rw [e_impl_newUnion_l1, m_impl_newUnion_l1s]
      simp only [Int.toNat_natCast, lt_dec hk, ix_dec hk, cond_true, chk_true, w64_succ (by omega : k < 4611686018427387904)]
      congr 2
      apply List.ext_getElem (by simp)
      intro i h1 h2
      rw [List.getElem_set]
      simp only [List.getElem_map, List.getElem_range]
      split
      · rename_i e; subst e; rw [if_pos (by omega)]
      · by_cases hi : i < k
        · rw [if_pos hi, if_pos (by omega)]
        · rw [if_neg hi, if_neg (by omega)]
    · rw [e_impl_newUnion_l1, m_impl_newUnion_l1s]
      simp only [Int.toNat_natCast, nlt_dec, cond_false]
      congr 1
      unfold zl
      refine List.map_congr_left fun i hi => ?_
      rw [if_pos (by simpa using hi)]
  · have hb : b < B := by simpa using hb
    simp [List.getD, hb]
  · exact .stop (by simp [List.getD, hc])
theorem ln_nat {b : Int} {l : Ln} (h : LnOk b l) : l.1 = (((edgeE l).1 : Nat) : Int) ∧ l.2.1 = (((edgeE l).2 : Nat) : Int) ∧ (edgeE l).1 < b.toNat ∧ (edgeE l).2 < b.toNat := by
  have := h.a; have := h.b
  unfold edgeE
  dsimp only
  omega
section
variable {b : Int} {ls : List Ln} {on : List Bool} (h : StOk b ls on)
include h
theorem zip_at {k : Nat} (hk : k < ls.length) : onL ((ls.zip on).take (k + 1)) = if on.getD k false then onL ((ls.zip on).take k) ++ [edgeE (ls.getD k (0, 0, 0))] else onL ((ls.zip on).take k) := by
  have hl := h.len
  have hz : k < (ls.zip on).length := by simp; omega
  rw [onL_step hz, getD_ge (by omega : k < on.length), getD_ge hk]
  simp
theorem zip_all : onL ((ls.zip on).take ls.length) = onE ls on := by
  have hl := h.len
  unfold onE
  rw [List.take_of_length_le (by simp; omega)]
theorem iCyc : m_impl_hasCycle b ls on = some (cycB ls on) := by
  have hb := h.net.b0; have hb1 := h.net.b1; have hll := h.net.ll; have hl := h.len
  obtain ⟨B, rfl⟩ : ∃ B : Nat, b = (B : Int) := ⟨b.toNat, by omega⟩
  obtain ⟨n1, n2⟩ := iNew (B := B) (by omega)
  unfold m_impl_hasCycle cycB
  rw [n1, Option.bind_some]
  have hh := loop_hunt (m_impl_hasCycle_l1 ls on) (fun k s => ∃ u, s = (zl u, (k : Int)) ∧ UR u B (labs (onL ((ls.zip on).take k)))) ls.length
    (fun k => on.getD k false && labs (onL ((ls.zip on).take k)) (edgeE (ls.getD k (0, 0, 0))).1 == labs (onL ((ls.zip on).take k)) (edgeE (ls.getD k (0, 0, 0))).2) (some (.inr true)) (some (.inl ())) (by omega) ?_ ?_ (zl (List.range B), 0) ⟨_, rfl, n2⟩
  · rw [hh]
    cases (List.range ls.length).any _ <;> rfl
  · rintro k fuel s hk ⟨u, rfl, hu⟩
    rw [e_impl_hasCycle_l1, m_impl_hasCycle_l1s]
    have hln := ln_nat (h.net.ln k hk)
    simp only [Int.toNat_natCast] at hln
    simp only [lt_dec hk, ix_dec hk, ix_dec (show k < on.length by omega), chk_true, cond_true, Int.toNat_natCast, w64_succ (by omega : k < 4611686018427387904)]
    rw [hln.1, hln.2.1]
    cases ho : on.getD k false
    · right
      refine ⟨rfl, (zl u, ((k + 1 : Nat) : Int)), ⟨u, rfl, ?_⟩, rfl⟩
      rw [zip_at h hk, ho]; exact hu
    · obtain ⟨v, s1, s2⟩ := iSame hu (by omega) hln.2.2.1 hln.2.2.2
      simp only [cond_true, s1, Option.bind_some]
      by_cases he : labs (onL ((ls.zip on).take k)) (edgeE (ls.getD k (0, 0, 0))).1 = labs (onL ((ls.zip on).take k)) (edgeE (ls.getD k (0, 0, 0))).2
      · left
        rw [decide_eq_true he]
        exact ⟨by rw [he]; simp, rfl⟩
      · right
        obtain ⟨x, j1, j2⟩ := iJoin s2 (by omega) hln.2.2.1 hln.2.2.2
        rw [decide_eq_false he]
        simp only [cond_false, j1, Option.bind_some]
        refine ⟨by simpa using he, (zl x, ((k + 1 : Nat) : Int)), ⟨x, rfl, ?_⟩, rfl⟩
        rw [zip_at h hk, ho, if_pos rfl, labs_snoc]; exact j2
  · rintro fuel s ⟨u, rfl, hu⟩
    rw [e_impl_hasCycle_l1, m_impl_hasCycle_l1s]; simp only [nlt_dec, cond_false]
end
def bl (B : Nat) (s : Nat → Bool) : List Bool := (List.range B).map s
theorem bl_len (B : Nat) (s : Nat → Bool) : (bl B s).length = B := by simp [bl]
theorem bl_get {B c : Nat} {s : Nat → Bool} (h : c < B) : (bl B s).getD c false = s c := by simp [bl, List.getD, h]
theorem bl_set {B a : Nat} {s : Nat → Bool} (h : a < B) : (bl B s).set a true = bl B (fun c => c == a || s c) := by
  apply List.ext_getElem (by simp [bl])
  intro i h1 h2
  rw [List.getElem_set]
  simp only [bl, List.getElem_map, List.getElem_range]
  split
  · rename_i e; subst e; simp
  · rename_i e
    have : (i == a) = false := by simpa using fun e2 => e e2.symm
    rw [this]; rfl
theorem bl_congr {B : Nat} {s t : Nat → Bool} (h : ∀ c, c < B → s c = t c) : bl B s = bl B t := List.map_congr_left fun c hc => h c (by simpa using hc)
theorem sweep_snoc (E : Ed) (e : Nat × Nat) (s : Nat → Bool) : sweep (E ++ [e]) s = hit (sweep E s) e := by unfold sweep; rw [List.foldl_append]; rfl
section
variable {B : Nat} {ls : List Ln} {on : List Bool} (h : StOk (B : Int) ls on)
include h
theorem sReach_l2 (s : Nat → Bool) : m_spec_l3Reach_l2 (B : Int) ls on FUEL (bl B s, 0) = some (bl B (sweep (onE ls on) s)) := by
  have hll := h.net.ll; have hl := h.len
  have hh := loop_all (m_spec_l3Reach_l2 (B : Int) ls on) (fun k => (bl B (sweep (onL ((ls.zip on).take k)) s), (k : Int))) ls.length (some (bl B (sweep (onE ls on) s))) (by omega) (fun k fuel hk => ?_) (fun fuel => ?_)
  · exact hh
  · rw [e_spec_l3Reach_l2, m_spec_l3Reach_l2s]
    have hln := ln_nat (h.net.ln k hk)
    simp only [Int.toNat_natCast] at hln
    simp only [lt_dec hk, ix_dec hk, ix_dec (show k < on.length by omega), chk_true, cond_true, Int.toNat_natCast, w64_succ (by omega : k < 4611686018427387904)]
    rw [hln.1, hln.2.1]
    rw [zip_at h hk]
    generalize edgeE (ls.getD k (0, 0, 0)) = e at *
    simp only [ix_dec hln.2.2.1, ix_dec hln.2.2.2, Int.toNat_natCast, Bool.or_true, chk_true, bl_len, bl_get hln.2.2.1, bl_get hln.2.2.2]
    cases ho : on.getD k false
    · rfl
    · rw [if_pos rfl, sweep_snoc]
      generalize sweep (onL ((ls.zip on).take k)) s = t
      unfold hit
      rw [Bool.true_and]
      cases t e.1 || t e.2
      · rfl
      · simp only [cond_true, Option.bind_some, if_true]
        rw [bl_set hln.2.2.1, bl_set hln.2.2.2]
        congr 2
        refine bl_congr fun c hc => ?_
        cases c == e.1 <;> cases c == e.2 <;> rfl
  · rw [e_spec_l3Reach_l2, m_spec_l3Reach_l2s]
    simp only [nlt_dec, cond_false]
    rw [zip_all h]
theorem sReach {b : Nat} (hb : b < B) : m_spec_l3Reach (B : Int) ls on (b : Int) = some (bl B (sweeps (onE ls on) (fun c => c == b) B)) := by
  have h1 := h.net.b1
  unfold m_spec_l3Reach
  have hm : mkB (B : Int) = true := by simp [mkB]; omega
  rw [hm, chk_true, Int.toNat_natCast, ix_dec hb, chk_true, Int.toNat_natCast]
  have e : (List.replicate B false).set b true = bl B (fun c => c == b) := by
    apply List.ext_getElem (by simp [bl])
    intro i h1 h2
    rw [List.getElem_set]
    simp only [bl, List.getElem_map, List.getElem_range, List.getElem_replicate]
    split
    · rename_i e; subst e; simp
    · rename_i e; symm; simpa using fun e2 => e e2.symm
  have hh := loop_all (m_spec_l3Reach_l1 (B : Int) ls on) (fun k => (bl B (sweeps (onE ls on) (fun c => c == b) k), (k : Int))) B (some (bl B (sweeps (onE ls on) (fun c => c == b) B))) (by omega) (fun k fuel hk => ?_) (fun fuel => ?_)
  · rw [e, show m_spec_l3Reach_l1 (B : Int) ls on FUEL (bl B (fun c => c == b), 0) = _ from hh]; rfl
  · rw [e_spec_l3Reach_l1, m_spec_l3Reach_l1s]
    simp only [lt_dec hk, cond_true, sReach_l2 h, Option.bind_some, w64_succ (by omega : k < 4611686018427387904)]
    rfl
  · rw [e_spec_l3Reach_l1, m_spec_l3Reach_l1s]; simp only [nlt_dec, cond_false]
theorem st_lt : ∀ e ∈ onE ls on, e.1 < B ∧ e.2 < B := by
  intro e he
  obtain ⟨k, hk, _, rfl⟩ := onE_mem.1 he
  have := ln_nat (h.net.ln k hk)
  simp only [Int.toNat_natCast] at this
  exact ⟨this.2.2.1, this.2.2.2⟩
theorem sweeps_labs {b : Nat} (hb : b < B) (c : Nat) : sweeps (onE ls on) (fun c => c == b) B c = (labs (onE ls on) b == labs (onE ls on) c) := by
  rw [Bool.eq_iff_iff, sweeps_cn (st_lt h) hb, beq_iff_eq, labs_cn]
def reachL (E : Ed) (B b : Nat) : List Nat := (List.range B).filter fun c => labs E b == labs E c
theorem sReached {b : Nat} (hb : b < B) : m_spec_Reached (B : Int) ls on (b : Int) = some (zl (reachL (onE ls on) B b)) := by
  have h1 := h.net.b1
  unfold m_spec_Reached m_spec_l1In
  have w1 : w64 ((B : Int) - 1) = (B : Int) - 1 := w64_in (by omega) (by omega)
  have c1 : (leB 0 (b : Int) && leB (b : Int) ((B : Int) - 1)) = true := by simp [leB]; omega
  rw [sState, stV_iff.2 h, Option.bind_some, w1, c1]
  simp only [Bool.not_true, Bool.not_false, gb_true, Option.bind_some, Bool.or_self, cond_false, sReach h hb]
  have e : bl B (sweeps (onE ls on) (fun c => c == b) B) = bl B (fun c => labs (onE ls on) b == labs (onE ls on) c) := bl_congr fun c _ => sweeps_labs h hb c
  rw [e]
  have hh := loop_all (m_spec_Reached_l1 (B : Int) (bl B (fun c => labs (onE ls on) b == labs (onE ls on) c))) (fun k => (zl ((List.range k).filter fun c => labs (onE ls on) b == labs (onE ls on) c), (k : Int))) B (some (zl (reachL (onE ls on) B b))) (by omega) (fun k fuel hk => ?_) (fun fuel => ?_)
  · rw [show m_spec_Reached_l1 (B : Int) _ FUEL (([] : List Int), 0) = _ from hh]; rfl
  · rw [e_spec_Reached_l1, m_spec_Reached_l1s]
    have hl : (zl ((List.range k).filter fun c => labs (onE ls on) b == labs (onE ls on) c)).length ≤ k := by
      rw [zl_len]; have := List.length_filter_le (fun c => labs (onE ls on) b == labs (onE ls on) c) (List.range k); simpa using this
    have ha : ∀ x : Int, apB (zl ((List.range k).filter fun c => labs (onE ls on) b == labs (onE ls on) c)).length [x].length = true := fun x => by simp [apB]; omega
    simp only [lt_dec hk, cond_true, bl_len, ix_dec hk, chk_true, Int.toNat_natCast, bl_get hk, ha, w64_succ (by omega : k < 4611686018427387904)]
    rw [List.range_succ, List.filter_append]
    cases hc : labs (onE ls on) b == labs (onE ls on) k
    · simp [hc, List.filter_cons]
    · simp [hc, List.filter_cons, zl]
  · rw [e_spec_Reached_l1, m_spec_Reached_l1s]; simp only [nlt_dec, cond_false]; rfl
omit h in
theorem sHas (l : List Int) (x : Int) (hl : l.length ≤ 1099511627776) : m_spec_l1Has l x = some (decide (x ∈ l)) := by
  unfold m_spec_l1Has
  have hh := loop_find (m_spec_l1Has_l1 l x) (fun k => (k : Int)) l.length (fun k => l.getD k 0 == x) (some (.inr true)) (some (.inl ())) hl (fun k fuel hk => ?_) (fun fuel => ?_)
  · rw [show m_spec_l1Has_l1 l x FUEL 0 = _ from hh, any_list l 0 (fun y => y == x)]
    have : l.any (fun y => y == x) = decide (x ∈ l) := by
      rw [Bool.eq_iff_iff, List.any_eq_true, decide_eq_true_eq]
      exact ⟨fun ⟨y, h1, h2⟩ => by rw [← (beq_iff_eq.1 h2)]; exact h1, fun h => ⟨x, h, by simp⟩⟩
    rw [this]
    cases decide (x ∈ l) <;> rfl
  · rw [e_spec_l1Has_l1, m_spec_l1Has_l1s]
    simp only [lt_dec hk, ix_dec hk, chk_true, cond_true, Int.toNat_natCast, w64_succ (by omega : k < 4611686018427387904)]
  · rw [e_spec_l1Has_l1, m_spec_l1Has_l1s]; simp only [nlt_dec, cond_false]
omit h in
theorem zl_mem {l : List Nat} {c : Nat} : (c : Int) ∈ zl l ↔ c ∈ l := by
  simp only [zl, List.mem_map]
  constructor
  · rintro ⟨a, h1, h2⟩; have : a = c := by omega
    subst this; exact h1
  · intro h; exact ⟨c, h, rfl⟩
omit h in
theorem reachL_len (E : Ed) (B b : Nat) : (reachL E B b).length ≤ B := by
  unfold reachL; have := List.length_filter_le (fun c => labs E b == labs E c) (List.range B); simpa using this
theorem sSame {a c : Nat} (ha : a < B) (hc : c < B) : m_spec_SameIsland (B : Int) ls on (a : Int) (c : Int) = some (labs (onE ls on) a == labs (onE ls on) c) := by
  have h1 := h.net.b1
  unfold m_spec_SameIsland
  have hl := reachL_len (onE ls on) B a
  rw [sReached h ha, Option.bind_some, sHas _ _ (by rw [zl_len]; omega), Option.bind_some]
  have : decide ((c : Int) ∈ zl (reachL (onE ls on) B a)) = (labs (onE ls on) a == labs (onE ls on) c) := by
    rw [Bool.eq_iff_iff, decide_eq_true_eq, zl_mem]
    simp [reachL, hc]
  rw [this]
def cyAt (ls : List Ln) (on : List Bool) (k : Nat) : Bool := on.getD k false && labs (onE ls (on.set k false)) (edgeE (ls.getD k (0, 0, 0))).1 == labs (onE ls (on.set k false)) (edgeE (ls.getD k (0, 0, 0))).2
theorem off_ok (k : Nat) : StOk (B : Int) ls (on.set k false) := ⟨h.net, by rw [List.length_set]; exact h.len⟩
theorem sCyc : m_spec_HasCycle (B : Int) ls on = some (cycP ls on) := by
  have hll := h.net.ll; have hl := h.len
  unfold m_spec_HasCycle m_spec_CycleLines
  have hh := loop_all (m_spec_CycleLines_l1 (B : Int) ls on) (fun k => (zl ((List.range k).filter (cyAt ls on)), (k : Int))) ls.length
    (some (zl ((List.range ls.length).filter (cyAt ls on)))) (by omega) (fun k fuel hk => ?_) (fun fuel => ?_)
  · rw [show m_spec_CycleLines_l1 (B : Int) ls on FUEL (([] : List Int), 0) = _ from hh]
    simp only [Option.bind_some, zl_len]
    congr 1
    show ltB 0 (((List.range ls.length).filter (cyAt ls on)).length : Int) = (List.range ls.length).any (cyAt ls on)
    rw [Bool.eq_iff_iff, ltB, decide_eq_true_eq, List.any_eq_true]
    constructor
    · intro h1
      obtain ⟨k, hk⟩ := List.exists_mem_of_length_pos (show 0 < ((List.range ls.length).filter (cyAt ls on)).length by omega)
      obtain ⟨h2, h3⟩ := List.mem_filter.1 hk
      exact ⟨k, h2, h3⟩
    · rintro ⟨k, h2, h3⟩
      have := List.length_pos_of_mem (List.mem_filter.2 ⟨h2, h3⟩)
      omega
  · rw [e_spec_CycleLines_l1, m_spec_CycleLines_l1s]
    have hln := ln_nat (h.net.ln k hk)
    simp only [Int.toNat_natCast] at hln
    have hkn : k < on.length := by omega
    have w1 : w64 ((on.length : Int) - 1) = (on.length : Int) - 1 := w64_in (by omega) (by omega)
    have c1 : (leB 0 (k : Int) && leB (k : Int) ((on.length : Int) - 1)) = true := by simp [leB]; omega
    have a1 : apB ([] : List Bool).length on.length = true := by simp [apB]; omega
    have hl2 := List.length_filter_le (cyAt ls on) (List.range k)
    rw [List.length_range] at hl2
    have ha : ∀ x : Int, apB (zl ((List.range k).filter (cyAt ls on))).length [x].length = true := fun x => by rw [zl_len]; simp [apB]; omega
    have hsw : m_spec_SwitchLine (B : Int) ls on (k : Int) false = some (on.set k false, true) := by
      unfold m_spec_SwitchLine m_spec_l2Copy m_spec_l1In
      rw [sState, stV_iff.2 h]
      simp only [Option.bind_some, cond_true, a1, chk_true, List.nil_append, w1, c1, ix_dec hkn, Int.toNat_natCast]
    have hsame := sSame (off_ok h k) hln.2.2.1 hln.2.2.2
    rw [sState, stV_iff.2 h]
    simp only [lt_dec hkn, gb_true, Option.bind_some, Bool.and_self, cond_true, hsw, ix_dec hkn, ix_dec hk, Bool.or_true, chk_true, Int.toNat_natCast, ha, w64_succ (by omega : k < 4611686018427387904)]
    rw [hln.1, hln.2.1, hsame, List.range_succ, List.filter_append]
    have hcy : cyAt ls on k = (on.getD k false && labs (onE ls (on.set k false)) (edgeE (ls.getD k (0, 0, 0))).1 == labs (onE ls (on.set k false)) (edgeE (ls.getD k (0, 0, 0))).2) := rfl
    rw [List.filter_cons, List.filter_nil, hcy]
    cases ho : on.getD k false
    · simp [gb]
    · cases hc : labs (onE ls (on.set k false)) (edgeE (ls.getD k (0, 0, 0))).1 == labs (onE ls (on.set k false)) (edgeE (ls.getD k (0, 0, 0))).2
      · simp [gb]
      · simp [gb, zl]
  · rw [e_spec_CycleLines_l1, m_spec_CycleLines_l1s]
    have : ltB (ls.length : Int) (on.length : Int) = false := by rw [hl]; exact nlt_dec
    simp only [this, gb_false, Option.bind_some, Bool.false_and, cond_false]
end
end Go.Proofs.YtekcjnpahohkaaaGreat
namespace Go.Proofs.YtekcjnpahohkaaaGreat
set_option linter.unusedVariables false
set_option linter.unusedSimpArgs false
theorem loop_both {σ Out : Type} (L : Nat → σ → Option Out) (R : Nat → σ → Prop) (n : Nat) (X : Prop) (fv : Option Out) (fin : σ → Option Out) (hn : n ≤ 1099511627776)
    (hstep : ∀ k fuel s, k < n → R k s → (X ∧ L (fuel + 1) s = fv) ∨ (∃ s', R (k + 1) s' ∧ L (fuel + 1) s = L fuel s')) (hend : ∀ fuel s, R n s → L (fuel + 1) s = fin s) (s : σ) (h0 : R 0 s) :
    (X ∧ L FUEL s = fv) ∨ ∃ s', R n s' ∧ L FUEL s = fin s' := by
  have go : ∀ j k fuel s, k + j = n → j < fuel → R k s → (X ∧ L fuel s = fv) ∨ ∃ s', R n s' ∧ L fuel s = fin s' := by
    intro j
    induction j with
    | zero =>
      intro k fuel s hk hf hr
      obtain ⟨f, rfl⟩ : ∃ f, fuel = f + 1 := ⟨fuel - 1, by omega⟩
      obtain rfl : k = n := by omega
      exact .inr ⟨s, hr, hend f s hr⟩
    | succ j ih =>
      intro k fuel s hk hf hr
      obtain ⟨f, rfl⟩ : ∃ f, fuel = f + 1 := ⟨fuel - 1, by omega⟩
      rcases hstep k f s (by omega) hr with h | ⟨s', h1, h2⟩
      · exact .inl h
      · rw [h2]; exact ih (k + 1) f s' (by omega) (by omega) h1
  exact go n 0 FUEL s (by omega) (fuel_gt hn) h0
structure TI (B : Nat) (ls : List Ln) (on : List Bool) (pts : List (Int × Int)) (K : Nat) (feed parent : List Int) (ord : List Nat) : Prop where
  lf : feed.length = B
  lp : parent.length = B
  nd : ord.Nodup
  lt : ∀ b ∈ ord, b < B
  mem : ∀ b, b < B → (b ∈ ord ↔ 0 ≤ feed.getD b 0)
  snd : ∀ b ∈ ord, ∃ g, g < K ∧ feedA pts g = true ∧ feed.getD b 0 = (g : Int) ∧ Cn (onE ls on) g b
  own : ∀ g, g < K → feedA pts g = true → g ∈ ord ∧ parent.getD g 0 = -1
  out : ∀ b, b < B → b ∉ ord → parent.getD b 0 = -1
  par : ∀ b ∈ ord, (feedA pts b = true ∧ b < K) ∨ ∃ j c, parent.getD b 0 = ((j : Nat) : Int) ∧ Lk ls on j b c ∧ c ∈ ord ∧ ord.idxOf c < ord.idxOf b
theorem idx_app {l : List Nat} {a c : Nat} (h : a ∈ l) : (l ++ [c]).idxOf a = l.idxOf a := by rw [List.idxOf_append, if_pos h]
theorem idx_last {l : List Nat} {c : Nat} (h : c ∉ l) : (l ++ [c]).idxOf c = l.length := by
  rw [List.idxOf_append, if_neg h]; simp
theorem nodup_len : ∀ (B : Nat) (l : List Nat), l.Nodup → (∀ b ∈ l, b < B) → l.length ≤ B
  | 0, l, _, h => by
    cases l with
    | nil => simp
    | cons x l => have := h x (by simp); omega
  | B + 1, l, hn, h => by
    by_cases hm : B ∈ l
    · have h1 := nodup_len B (l.erase B) (hn.erase B) (fun b hb => by
        have h2 := (hn.mem_erase_iff).1 hb
        have := h b h2.2
        have := h2.1
        omega)
      rw [List.length_erase_of_mem hm] at h1
      omega
    · have h1 := nodup_len B l hn (fun b hb => by
        have := h b hb
        have : b ≠ B := fun e => hm (e ▸ hb)
        omega)
      omega
theorem nodup_snoc {l : List Nat} {c : Nat} (h : l.Nodup) (hc : c ∉ l) : (l ++ [c]).Nodup := by
  rw [List.nodup_append]
  exact ⟨h, by simp, fun a ha b hb => by obtain rfl : b = c := by simpa using hb
                                         exact fun e => hc (e ▸ ha)⟩
section
variable {B : Nat} {ls : List Ln} {on : List Bool} {pts : List (Int × Int)} {K : Nat} {feed parent : List Int} {ord : List Nat}
theorem TI.add (T : TI B ls on pts K feed parent ord) {f b c j : Nat} (hf : f < K) (hff : feedA pts f = true) (hb : b ∈ ord) (hfb : Cn (onE ls on) f b) (hl : Lk ls on j b c) (hc : c < B) (hn : c ∉ ord) : TI B ls on pts K (feed.set c (f : Int)) (parent.set c (j : Int)) (ord ++ [c]) := by
  have hcf : c < feed.length := by rw [T.lf]; exact hc
  have hcp : c < parent.length := by rw [T.lp]; exact hc
  have hne : ∀ x ∈ ord, c ≠ x := fun x hx e => hn (e ▸ hx)
  refine ⟨by rw [List.length_set]; exact T.lf, by rw [List.length_set]; exact T.lp, nodup_snoc T.nd hn, fun x hx => ?_, fun x hx => ?_, fun x hx => ?_, fun g hg hgf => ?_, fun x hx hxn => ?_, fun x hx => ?_⟩
  · rcases List.mem_append.1 hx with hx | hx
    · exact T.lt x hx
    · obtain rfl : x = c := by simpa using hx
      exact hc
  · by_cases e : c = x
    · subst e; rw [gset hcf]; simp
    · rw [gset_ne e, ← T.mem x hx]; simp [Ne.symm e]
  · rcases List.mem_append.1 hx with hx | hx
    · rw [gset_ne (hne x hx)]; exact T.snd x hx
    · obtain rfl : x = c := by simpa using hx
      rw [gset hcf]; exact ⟨f, hf, hff, rfl, hfb.trans hl.cn⟩
  · have := T.own g hg hgf
    rw [gset_ne (hne g this.1)]; exact ⟨by simp [this.1], this.2⟩
  · have h1 : x ∉ ord ∧ x ≠ c := by simpa using hxn
    rw [gset_ne (Ne.symm h1.2)]; exact T.out x hx h1.1
  · rcases List.mem_append.1 hx with hx | hx
    · rw [gset_ne (hne x hx)]
      rcases T.par x hx with h | ⟨i, d, h1, h2, h3, h4⟩
      · exact .inl h
      · exact .inr ⟨i, d, h1, h2, by simp [h3], by rw [idx_app h3, idx_app hx]; exact h4⟩
    · obtain rfl : x = c := by simpa using hx
      refine .inr ⟨j, b, gset hcp, ?_, by simp [hb], ?_⟩
      · obtain ⟨h1, h2, h3⟩ := hl
        exact ⟨h1, h2, h3.symm⟩
      · rw [idx_app hb, idx_last hn]; exact List.idxOf_lt_length_iff.2 hb
theorem TI.start (T : TI B ls on pts K feed parent ord) (hK : K < B) (hff : feedA pts K = true) (hn : K ∉ ord) : TI B ls on pts (K + 1) (feed.set K (K : Int)) parent (ord ++ [K]) := by
  have hcf : K < feed.length := by rw [T.lf]; exact hK
  have hne : ∀ x ∈ ord, K ≠ x := fun x hx e => hn (e ▸ hx)
  refine ⟨by rw [List.length_set]; exact T.lf, T.lp, nodup_snoc T.nd hn, fun x hx => ?_, fun x hx => ?_, fun x hx => ?_, fun g hg hgf => ?_, fun x hx hxn => ?_, fun x hx => ?_⟩
  · rcases List.mem_append.1 hx with hx | hx
    · exact T.lt x hx
    · obtain rfl : x = K := by simpa using hx
      exact hK
  · by_cases e : K = x
    · subst e; rw [gset hcf]; simp
    · rw [gset_ne e, ← T.mem x hx]; simp [Ne.symm e]
  · rcases List.mem_append.1 hx with hx | hx
    · rw [gset_ne (hne x hx)]
      obtain ⟨g, h1, h2⟩ := T.snd x hx
      exact ⟨g, by omega, h2⟩
    · obtain rfl : x = K := by simpa using hx
      rw [gset hcf]; exact ⟨x, by omega, hff, rfl, .refl _⟩
  · by_cases e : g = K
    · subst e; exact ⟨by simp, T.out g hK hn⟩
    · have := T.own g (by omega) hgf
      exact ⟨by simp [this.1], this.2⟩
  · have h1 : x ∉ ord ∧ x ≠ K := by simpa using hxn
    exact T.out x hx h1.1
  · rcases List.mem_append.1 hx with hx | hx
    · rcases T.par x hx with h | ⟨i, d, h1, h2, h3, h4⟩
      · exact .inl ⟨h.1, by omega⟩
      · exact .inr ⟨i, d, h1, h2, by simp [h3], by rw [idx_app h3, idx_app hx]; exact h4⟩
    · obtain rfl : x = K := by simpa using hx
      exact .inl ⟨hff, by omega⟩
theorem TI.skip (T : TI B ls on pts K feed parent ord) (hff : feedA pts K = false) : TI B ls on pts (K + 1) feed parent ord := by
  refine ⟨T.lf, T.lp, T.nd, T.lt, T.mem, fun x hx => ?_, fun g hg hgf => ?_, T.out, fun x hx => ?_⟩
  · obtain ⟨g, h1, h2⟩ := T.snd x hx
    exact ⟨g, by omega, h2⟩
  · have : g ≠ K := fun e => by rw [e, hff] at hgf; cases hgf
    exact T.own g (by omega) hgf
  · rcases T.par x hx with h | h
    · exact .inl ⟨h.1, by omega⟩
    · exact .inr h
theorem TI.len (T : TI B ls on pts K feed parent ord) : ord.length ≤ B := by
  exact nodup_len B ord T.nd T.lt
def Cl (ls : List Ln) (on : List Bool) (ord : List Nat) (m : Nat) : Prop := ∀ i, i < m → ∀ j c, Lk ls on j (ord.getD i 0) c → c ∈ ord
theorem Cl.mem {m : Nat} (h : Cl ls on ord m) (hm : m = ord.length) {b c : Nat} (hb : b ∈ ord) (hc : Cn (onE ls on) b c) : c ∈ ord := by
  induction hc with
  | refl => exact hb
  | @step c d _ e ih =>
    obtain ⟨i, hi, rfl⟩ := List.mem_iff_getElem.1 ih
    have hl : ∃ j, Lk ls on j ord[i] d := by
      rcases e with e | e
      · obtain ⟨j, h1, h2, h3⟩ := onE_mem.1 e
        exact ⟨j, h1, h2, .inl h3.symm⟩
      · obtain ⟨j, h1, h2, h3⟩ := onE_mem.1 e
        exact ⟨j, h1, h2, .inr h3.symm⟩
    obtain ⟨j, hl⟩ := hl
    exact h i (by omega) j d (by rw [getD_ge hi]; exact hl)
end
section
variable {B : Nat} {ls : List Ln} {on : List Bool} {pts : List (Int × Int)} (h : StOk (B : Int) ls on)
include h
theorem other_lk {k b : Nat} (hk : k < ls.length) : ∃ z, m_impl_Line_other (ls.getD k (0, 0, 0)).1 (ls.getD k (0, 0, 0)).2.1 (ls.getD k (0, 0, 0)).2.2 (b : Int) = some z ∧ ((z = -1 ∧ ∀ c, ¬ Lk ls on k b c) ∨ ∃ c, z = ((c : Nat) : Int) ∧ c < B ∧ (on.getD k false = true → Lk ls on k b c) ∧ ∀ d, Lk ls on k b d → d = c) := by
  have hl := h.net.ln k hk
  have hln := ln_nat hl
  simp only [Int.toNat_natCast] at hln
  have hne := hl.ne
  unfold m_impl_Line_other
  rw [hln.1, hln.2.1] at hne ⊢
  have key : ∀ d, Lk ls on k b d → ((edgeE (ls.getD k (0, 0, 0))).1 = b ∧ (edgeE (ls.getD k (0, 0, 0))).2 = d) ∨ ((edgeE (ls.getD k (0, 0, 0))).1 = d ∧ (edgeE (ls.getD k (0, 0, 0))).2 = b) := by
    rintro d ⟨_, _, h3⟩
    rcases h3 with h3 | h3 <;> rw [h3] <;> simp
  by_cases e1 : b = (edgeE (ls.getD k (0, 0, 0))).1
  · have : ((b : Int) == (((edgeE (ls.getD k (0, 0, 0))).1 : Nat) : Int)) = true := by rw [beq_iff_eq, ← e1]
    rw [this]
    refine ⟨_, rfl, .inr ⟨_, rfl, hln.2.2.2, fun ho => ⟨hk, ho, .inl (by rw [e1])⟩, fun d hd => ?_⟩⟩
    rcases key d hd with g | g
    · exact g.2.symm
    · omega
  · have e1' : ((b : Int) == (((edgeE (ls.getD k (0, 0, 0))).1 : Nat) : Int)) = false := by rw [beq_eq_false_iff_ne]; omega
    rw [e1', cond_false]
    by_cases e2 : b = (edgeE (ls.getD k (0, 0, 0))).2
    · have : ((b : Int) == (((edgeE (ls.getD k (0, 0, 0))).2 : Nat) : Int)) = true := by rw [beq_iff_eq, ← e2]
      rw [this]
      refine ⟨_, rfl, .inr ⟨_, rfl, hln.2.2.1, fun ho => ⟨hk, ho, .inr (by rw [e2])⟩, fun d hd => ?_⟩⟩
      rcases key d hd with g | g
      · omega
      · exact g.1.symm
    · have e2' : ((b : Int) == (((edgeE (ls.getD k (0, 0, 0))).2 : Nat) : Int)) = false := by rw [beq_eq_false_iff_ne]; omega
      rw [e2', cond_false]
      refine ⟨_, rfl, .inl ⟨rfl, fun d hd => ?_⟩⟩
      rcases key d hd with g | g <;> omega
omit h in
theorem zl_app (l : List Nat) (c : Nat) : zl l ++ [(c : Int)] = zl (l ++ [c]) := by simp [zl]
theorem iSearch2 {F0 P0 : List Int} (hF : F0.length = B) (hP : P0.length = B) {K f b from_ : Nat} {feed parent : List Int} {ord : List Nat} (hf : f < K) (hff : feedA pts f = true) (hb : ord.getD from_ 0 = b) (hfr : from_ < ord.length) (hfb : Cn (onE ls on) f b) (T : TI B ls on pts K feed parent ord) :
    ∃ feed' parent' t, m_impl_tree_search_l2 ls F0 P0 on (f : Int) ((from_ : Int), feed, parent, zl ord) FUEL (0, feed, parent, zl ord) = some (feed', parent', zl (ord ++ t)) ∧ TI B ls on pts K feed' parent' (ord ++ t) ∧ (∀ j c, Lk ls on j b c → c ∈ ord ++ t) ∧ ∀ x ∈ t, Cn (onE ls on) f x := by
  have hll := h.net.ll; have hl := h.len; have hB := h.net.b1
  have hbo : b ∈ ord := by rw [← hb, getD_ge hfr]; exact List.getElem_mem hfr
  obtain ⟨s, ⟨feed', parent', t, rfl, r1, r2, r3⟩, h2⟩ := loop_rel (m_impl_tree_search_l2 ls F0 P0 on (f : Int) ((from_ : Int), feed, parent, zl ord))
    (fun k s => ∃ feed' parent' t, s = ((k : Int), feed', parent', zl (ord ++ t)) ∧ TI B ls on pts K feed' parent' (ord ++ t) ∧ (∀ j, j < k → ∀ c, Lk ls on j b c → c ∈ ord ++ t) ∧ ∀ x ∈ t, Cn (onE ls on) f x) ls.length (fun s => some (s.2.1, s.2.2.1, s.2.2.2)) (by omega) (by
      rintro k fuel s hk ⟨feed', parent', t, rfl, r1, r2, r3⟩
      rw [e_impl_tree_search_l2, m_impl_tree_search_l2s]
      obtain ⟨z, z1, z2⟩ := other_lk h (b := b) hk
      have hget : (zl ord).getD (from_ : Int).toNat 0 = (b : Int) := by rw [Int.toNat_natCast, zl_get, hb]
      simp only [lt_dec hk, ix_dec hk, ix_dec (show k < on.length by omega), chk_true, cond_true, Int.toNat_natCast, w64_succ (by omega : k < 4611686018427387904), zl_get, hb, z1, Option.bind_some, hF, hP]
      have hlen := r1.len
      rcases z2 with ⟨rfl, z3⟩ | ⟨c, rfl, hcB, z3, z4⟩
      · have : leB 0 (-1) = false := rfl
        simp only [this, Bool.and_false, Bool.false_and, Bool.not_false, Bool.true_or, chk_true, cond_false, Option.bind_some]
        refine ⟨_, ⟨feed', parent', t, rfl, r1, fun j hj c hc => ?_, r3⟩, rfl⟩
        by_cases e : j = k
        · subst e; exact absurd hc (z3 c)
        · exact r2 j (by omega) c hc
      · have hge : leB 0 (c : Int) = true := by simp [leB]
        simp only [hge, ix_dec hcB, Bool.and_true, Bool.or_true, chk_true, Int.toNat_natCast]
        by_cases hc : on.getD k false = true ∧ c ∉ ord ++ t
        · have hcf : ltB (feed'.getD c 0) 0 = true := by
            have : ¬ 0 ≤ feed'.getD c 0 := fun g => hc.2 ((r1.mem c hcB).2 g)
            simp only [ltB, decide_eq_true_eq]; omega
          have ha : apB (zl (ord ++ t)).length ([(c : Int)] : List Int).length = true := by rw [zl_len]; simp [apB]; simp at hlen; omega
          simp only [hc.1, hcf, Bool.and_self, cond_true, ha, chk_true, Option.bind_some]
          rw [zl_app, List.append_assoc]
          have hlk := z3 hc.1
          refine ⟨_, ⟨_, _, t ++ [c], rfl, ?_, fun j hj d hd => ?_, fun x hx => ?_⟩, rfl⟩
          · rw [← List.append_assoc]
            exact r1.add hf hff (by simp [hbo]) hfb hlk hcB hc.2
          · by_cases e : j = k
            · subst e; rw [z4 d hd]; simp
            · have := r2 j (by omega) d hd
              rw [← List.append_assoc]; exact List.mem_append_left _ this
          · rcases List.mem_append.1 hx with hx | hx
            · exact r3 x hx
            · obtain rfl : x = c := by simpa using hx
              exact hfb.trans hlk.cn
        · have hcf : (on.getD k false && ltB (feed'.getD c 0) 0) = false := by
            cases ho : on.getD k false
            · rfl
            · have hm : c ∈ ord ++ t := Classical.byContradiction fun hn => hc ⟨ho, hn⟩
              have := (r1.mem c hcB).1 hm
              simp only [Bool.true_and, ltB, decide_eq_false_iff_not]; omega
          simp only [hcf, cond_false, Option.bind_some]
          refine ⟨_, ⟨feed', parent', t, rfl, r1, fun j hj d hd => ?_, r3⟩, rfl⟩
          by_cases e : j = k
          · subst e
            rw [z4 d hd]
            exact Classical.byContradiction fun hn => hc ⟨hd.2.1, hn⟩
          · exact r2 j (by omega) d hd) (by
      rintro fuel s ⟨feed', parent', t, rfl, r1, r2, r3⟩
      rw [e_impl_tree_search_l2, m_impl_tree_search_l2s]; simp only [nlt_dec, cond_false]) (0, feed, parent, zl ord) ⟨feed, parent, [], by simp, by simpa using T, fun j hj => absurd hj (Nat.not_lt_zero _), fun x hx => by simp at hx⟩
  exact ⟨feed', parent', t, h2, r1, fun j c hc => r2 j hc.1 c hc, r3⟩
theorem iSearch1 {F0 P0 : List Int} (hF : F0.length = B) (hP : P0.length = B) {K f n0 : Nat} (hf : f < K) (hff : feedA pts f = true) : ∀ (m from_ fuel : Nat) (feed parent : List Int) (ord : List Nat), B ≤ m + from_ → m < fuel → n0 ≤ from_ → from_ ≤ ord.length → (∀ i, n0 ≤ i → i < ord.length → Cn (onE ls on) f (ord.getD i 0)) → Cl ls on ord from_ → TI B ls on pts K feed parent ord →
    ∃ feed' parent' ord', m_impl_tree_search_l1 ls F0 P0 on (f : Int) fuel ((from_ : Int), feed, parent, zl ord) = some (feed', parent', zl ord') ∧ TI B ls on pts K feed' parent' ord' ∧ Cl ls on ord' ord'.length ∧ ∀ x ∈ ord, x ∈ ord' := by
  have hB := h.net.b1
  intro m
  induction m with
  | zero =>
    intro from_ fuel feed parent ord h1 h2 h3 h4 h5 h6 T
    obtain ⟨g, rfl⟩ : ∃ g, fuel = g + 1 := ⟨fuel - 1, by omega⟩
    have hlen := T.len
    have e : from_ = ord.length := by omega
    rw [e_impl_tree_search_l1, m_impl_tree_search_l1s]
    have : ltB (from_ : Int) ((zl ord).length : Int) = false := by rw [zl_len, e]; exact nlt_dec
    simp only [this, cond_false]
    exact ⟨feed, parent, ord, rfl, T, e ▸ h6, fun x hx => hx⟩
  | succ m ih =>
    intro from_ fuel feed parent ord h1 h2 h3 h4 h5 h6 T
    obtain ⟨g, rfl⟩ : ∃ g, fuel = g + 1 := ⟨fuel - 1, by omega⟩
    have hlen := T.len
    rw [e_impl_tree_search_l1, m_impl_tree_search_l1s]
    by_cases e : from_ = ord.length
    · have : ltB (from_ : Int) ((zl ord).length : Int) = false := by rw [zl_len, e]; exact nlt_dec
      simp only [this, cond_false]
      exact ⟨feed, parent, ord, rfl, T, e ▸ h6, fun x hx => hx⟩
    · have hlt : from_ < ord.length := by omega
      obtain ⟨feed', parent', t, r0, r1, r2, r3⟩ := iSearch2 h hF hP hf hff rfl hlt (h5 from_ h3 hlt) T
      have hlen2 := r1.len
      simp only [zl_len, lt_dec hlt, ix_dec hlt, cond_true, chk_true, r0, Option.bind_some, w64_succ (by omega : from_ < 4611686018427387904)]
      have hget : ∀ i, i < ord.length → (ord ++ t).getD i 0 = ord.getD i 0 := fun i hi => by simp [List.getD, List.getElem?_append_left hi]
      obtain ⟨feed2, parent2, ord2, s1, s2, s3, s4⟩ := ih (from_ + 1) g feed' parent' (ord ++ t) (by omega) (by omega) (by omega) (by simp; omega) (fun i hi1 hi2 => by
        by_cases hi : i < ord.length
        · rw [hget i hi]; exact h5 i hi1 hi
        · rw [getD_ge hi2, List.getElem_append_right (by omega)]
          exact r3 _ (List.getElem_mem _)) (fun i hi j c hc => by
        rw [hget i (by omega)] at hc
        by_cases e2 : i = from_
        · subst e2; exact r2 j c hc
        · exact List.mem_append_left _ (h6 i (by omega) j c hc)) r1
      exact ⟨feed2, parent2, ord2, s1, s2, s3, fun x hx => s4 x (by simp [hx])⟩
theorem iSearch {K : Nat} {feed parent : List Int} {ord : List Nat} (hK : K < B) (hff : feedA pts K = true) (hn : K ∉ ord) (hcl : Cl ls on ord ord.length) (T : TI B ls on pts K feed parent ord) (y : Int) :
    ∃ feed' parent' ord', m_impl_tree_search y ls (feed.set K (K : Int)) parent (zl ord) on (K : Int) = some (y, feed', parent', zl ord') ∧ TI B ls on pts (K + 1) feed' parent' ord' ∧ Cl ls on ord' ord'.length ∧ ∀ x ∈ ord ++ [K], x ∈ ord' := by
  have hB := h.net.b1
  have hlen := T.len
  have T2 := T.start hK hff hn
  obtain ⟨feed', parent', ord', h1, h2, h3, h4⟩ := iSearch1 h (F0 := feed.set K (K : Int)) (P0 := parent) T2.lf T2.lp (K := K + 1) (f := K) (n0 := ord.length) (by omega) hff B ord.length FUEL (feed.set K (K : Int)) parent (ord ++ [K]) (by omega) (fuel_gt (by omega)) (by omega) (by simp) (fun i hi1 hi2 => by
    have : i = ord.length := by simp at hi2; omega
    subst this
    rw [getD_ge hi2]; simp; exact .refl _) (fun i hi j c hc => by
    have : (ord ++ [K]).getD i 0 = ord.getD i 0 := by simp [List.getD, List.getElem?_append_left hi]
    rw [this] at hc
    exact List.mem_append_left _ (hcl i hi j c hc)) T2
  refine ⟨feed', parent', ord', ?_, h2, h3, h4⟩
  unfold m_impl_tree_search
  have ha : apB (zl ord).length ([(K : Int)] : List Int).length = true := by rw [zl_len]; simp [apB]; omega
  rw [ha, chk_true, zl_app, zl_len, h1]; rfl
end
structure TreeOk (ls : List Ln) (on : List Bool) (pts : List (Int × Int)) (feed parent : List Int) (ord : List Nat) : Prop where
  lf : feed.length = pts.length
  lp : parent.length = pts.length
  nd : ord.Nodup
  mem : ∀ b, b ∈ ord ↔ b < pts.length ∧ fedB (onE ls on) pts b = true
  fd : ∀ b f, b < pts.length → (feed.getD b 0 = ((f : Nat) : Int) ↔ feedA pts f = true ∧ Cn (onE ls on) f b)
  par : Par ls on pts (fun b => parent.getD b (-1)) (fun b => ord.idxOf b)
theorem TI.tree {ls : List Ln} {on : List Bool} {pts : List (Int × Int)} {feed parent : List Int} {ord : List Nat} (T : TI pts.length ls on pts pts.length feed parent ord) (hcl : Cl ls on ord ord.length) (hnj : ∀ f g, feedA pts f = true → feedA pts g = true → Cn (onE ls on) f g → f = g) : TreeOk ls on pts feed parent ord := by
  have hmem : ∀ b, b ∈ ord ↔ b < pts.length ∧ fedB (onE ls on) pts b = true := by
    intro b
    constructor
    · intro hb
      obtain ⟨g, h1, h2, _, h3⟩ := T.snd b hb
      exact ⟨T.lt b hb, fedB_iff.2 ⟨g, h2, h3⟩⟩
    · rintro ⟨hb, hf⟩
      obtain ⟨f, h1, h2⟩ := fedB_iff.1 hf
      exact hcl.mem rfl (T.own f (feedA_lt h1) h1).1 h2
  have hd : ∀ b, b < pts.length → parent.getD b (-1) = parent.getD b 0 := fun b hb => by rw [getD_ge (by rw [T.lp]; exact hb), getD_ge (by rw [T.lp]; exact hb)]
  refine ⟨T.lf, T.lp, T.nd, hmem, fun b f hb => ?_, ⟨fun b hb hf => ?_, fun b hb => ?_, fun b hb => ?_⟩⟩
  · constructor
    · intro e
      obtain ⟨g, h1, h2, h3, h4⟩ := T.snd b ((T.mem b hb).2 (by rw [e]; omega))
      have : f = g := by rw [e] at h3; omega
      subst this; exact ⟨h2, h4⟩
    · rintro ⟨h1, h2⟩
      obtain ⟨g, g1, g2, g3, g4⟩ := T.snd b ((hmem b).2 ⟨hb, fedB_iff.2 ⟨f, h1, h2⟩⟩)
      rw [g3, hnj f g h1 g2 (h2.trans g4.symm)]
  · rw [hd b hb]
    rcases T.par b ((hmem b).2 ⟨hb, hf⟩) with g | ⟨j, c, g, _⟩
    · exact .inl g.1
    · exact .inr (by rw [g]; omega)
  · have hlt := feedA_lt hb
    rw [hd b hlt, (T.own b hlt hb).2]; omega
  · have hlt : b < pts.length := by
      rcases Nat.lt_or_ge b pts.length with h1 | h1
      · exact h1
      · rw [List.getD_eq_getElem?_getD, List.getElem?_eq_none (by rw [T.lp]; exact h1)] at hb; simp at hb
    rw [hd b hlt] at hb ⊢
    have hbo : b ∈ ord := Classical.byContradiction fun hn => by rw [T.out b hlt hn] at hb; omega
    rcases T.par b hbo with g | ⟨j, c, g1, g2, g3, g4⟩
    · rw [(T.own b g.2 g.1).2] at hb; omega
    · rw [g1]
      exact ⟨c, by simpa using g2, T.lt c g3, ((hmem c).1 g3).2, g4⟩
theorem feed0 {pts : List (Int × Int)} {b : Int} {ls : List Ln} (h : BusOk b ls pts) {k : Nat} (hk : k < pts.length) : ((pts.getD k (0, 0)).1 == 0) = !feedA pts k := by
  have := (h.bs k hk).1
  unfold feedA
  rw [Bool.eq_iff_iff]; simp only [beq_iff_eq, Bool.not_eq_true', decide_eq_false_iff_not]; omega
theorem iTree (b : Int) (ls : List Ln) (on : List Bool) (pts : List (Int × Int)) (hp : pts.length ≤ 1048576) :
    ∃ r, m_impl_treeOf b ls on pts = some r ∧ r.2.2.2.2.2 = radB b ls on pts ∧ (radB b ls on pts = true → r.1 = b ∧ r.2.1 = true ∧ ∃ ord, r.2.2.2.2.1 = zl ord ∧ TreeOk ls on pts r.2.2.1 r.2.2.2.1 ord) := by
  unfold m_impl_treeOf radB
  rw [iFed b ls pts hp, Option.bind_some]
  cases hv : okV b ls on pts
  · exact ⟨_, rfl, rfl, fun e => by cases e⟩
  obtain ⟨h1, h2⟩ := okV_iff.1 hv
  have hlp := h2.lp
  subst hlp
  rw [iCyc h1]
  simp only [Bool.not_true, Bool.not_false, gb_true, Option.bind_some, Bool.false_or, Bool.true_and]
  unfold radP
  rw [← cyc_eq h1.len]
  cases hc : cycB ls on
  case true => exact ⟨_, rfl, rfl, fun e => by cases e⟩
  have hB := h1.net.b1
  have hm : mkB (pts.length : Int) = true := by simp [mkB]; omega
  simp only [cond_false, hm, chk_true, Int.toNat_natCast, Bool.not_false, Bool.true_and]
  have hl1 : m_impl_treeOf_l1 (pts.length : Int) FUEL (0, List.replicate pts.length 0, List.replicate pts.length 0) = some (List.replicate pts.length (-1), List.replicate pts.length (-1)) := by
    have hh := loop_all (m_impl_treeOf_l1 (pts.length : Int)) (fun k => ((k : Int), List.replicate k (-1) ++ List.replicate (pts.length - k) 0, List.replicate k (-1) ++ List.replicate (pts.length - k) 0)) pts.length (some (List.replicate pts.length (-1), List.replicate pts.length (-1))) (by omega) (fun k fuel hk => ?_) (fun fuel => ?_)
    · simpa using hh
    · rw [e_impl_treeOf_l1, m_impl_treeOf_l1s]
      simp only [lt_dec hk, Int.toNat_natCast, ix_dec hk, cond_true, chk_true, w64_succ (by omega : k < 4611686018427387904)]
      have e : (List.replicate k (-1 : Int) ++ List.replicate (pts.length - k) 0).set k (-1) = List.replicate (k + 1) (-1) ++ List.replicate (pts.length - (k + 1)) 0 := by
        rw [List.set_append_right _ _ (by simp), List.length_replicate, Nat.sub_self, show pts.length - k = (pts.length - (k + 1)) + 1 by omega, List.replicate_succ, List.set_cons_zero, List.replicate_succ', List.append_assoc]; rfl
      rw [e]
    · rw [e_impl_treeOf_l1, m_impl_treeOf_l1s]
      simp only [nlt_dec, cond_false, Nat.sub_self, List.replicate_zero, List.append_nil]
  rw [hl1, Option.bind_some]
  have hget : ∀ k, k < pts.length → (List.replicate pts.length (-1 : Int)).getD k 0 = -1 := fun k hk => by simp [List.getD, hk]
  have hT0 : TI pts.length ls on pts 0 (List.replicate pts.length (-1)) (List.replicate pts.length (-1)) [] :=
    ⟨by simp, by simp, by simp, fun b hb => by simp at hb, fun b hb => by rw [hget b hb]; simp, fun b hb => by simp at hb, fun g hg => absurd hg (Nat.not_lt_zero _), fun b hb _ => hget b hb, fun b hb => by simp at hb⟩
  have hh := loop_both (m_impl_treeOf_l2 ls on pts) (fun k s => ∃ feed parent ord, s = ((k : Int), (pts.length : Int), feed, parent, zl ord) ∧ TI pts.length ls on pts k feed parent ord ∧ Cl ls on ord ord.length ∧ ∀ f g, f < k → g < k → feedA pts f = true → feedA pts g = true → Cn (onE ls on) f g → f = g) pts.length
    (twoF (onE ls on) pts = true) (some (Sum.inr (0, false, ([] : List Int), ([] : List Int), ([] : List Int), false))) (fun s => some (Sum.inl (s.2.1, s.2.2.1, s.2.2.2.1, s.2.2.2.2))) (by omega) ?_ ?_ (0, (pts.length : Int), List.replicate pts.length (-1), List.replicate pts.length (-1), ([] : List Int)) ⟨_, _, [], rfl, hT0, fun i hi => absurd hi (Nat.not_lt_zero _), fun f g hf => absurd hf (Nat.not_lt_zero _)⟩
  · rcases hh with ⟨x1, x2⟩ | ⟨s, ⟨feed, parent, ord, rfl, t1, t2, t3⟩, x2⟩
    · rw [x2, x1]
      exact ⟨_, rfl, rfl, fun e => by cases e⟩
    · rw [x2]
      have hnj : ∀ f g, feedA pts f = true → feedA pts g = true → Cn (onE ls on) f g → f = g := fun f g hf hg => t3 f g (feedA_lt hf) (feedA_lt hg) hf hg
      rw [twoF_iff.2 hnj]
      exact ⟨_, rfl, rfl, fun _ => ⟨rfl, rfl, ord, rfl, t1.tree t2 hnj⟩⟩
  · rintro k fuel s hk ⟨feed, parent, ord, rfl, t1, t2, t3⟩
    rw [e_impl_treeOf_l2, m_impl_treeOf_l2s]
    simp only [lt_dec hk, ix_dec hk, cond_true, chk_true, Int.toNat_natCast, w64_succ (by omega : k < 4611686018427387904), feed0 h2 hk]
    cases hf : feedA pts k
    · right
      simp only [Bool.not_false, cond_true, Option.bind_some, Sum.elim_inl]
      refine ⟨_, ⟨feed, parent, ord, rfl, t1.skip hf, t2, fun f g hfk hgk hff hgf => ?_⟩, rfl⟩
      have e1 : f ≠ k := fun e => by rw [e, hf] at hff; cases hff
      have e2 : g ≠ k := fun e => by rw [e, hf] at hgf; cases hgf
      exact t3 f g (by omega) (by omega) hff hgf
    · have hx : ixB (k : Int) feed.length = true := by rw [t1.lf]; exact ix_dec hk
      simp only [Bool.not_true, cond_false, hx, chk_true]
      by_cases hko : k ∈ ord
      · left
        have h0 := (t1.mem k hk).1 hko
        have : leB 0 (feed.getD k 0) = true := by simpa [leB] using h0
        simp only [this, cond_true, Option.bind_some, Sum.elim_inr]
        refine ⟨?_, trivial⟩
        obtain ⟨g, g1, g2, _, g4⟩ := t1.snd k hko
        cases htw : twoF (onE ls on) pts
        · have := twoF_iff.1 htw g k g2 hf g4; omega
        · rfl
      · right
        have h0 : ¬ 0 ≤ feed.getD k 0 := fun g => hko ((t1.mem k hk).2 g)
        have : leB 0 (feed.getD k 0) = false := by simp only [leB, decide_eq_false_iff_not]; exact h0
        obtain ⟨feed', parent', ord', s1, s2, s3, s4⟩ := iSearch h1 hk hf hko t2 t1 (pts.length : Int)
        simp only [this, cond_false, s1, Option.bind_some, Sum.elim_inl]
        refine ⟨_, ⟨feed', parent', ord', rfl, s2, s3, fun f g hfk hgk hff hgf hcn => ?_⟩, rfl⟩
        have key : ∀ a, a < k → feedA pts a = true → ¬ Cn (onE ls on) a k := fun a ha hfa hcn => hko (t2.mem rfl (t1.own a ha hfa).1 hcn)
        by_cases e1 : f = k
        · by_cases e2 : g = k
          · omega
          · exact absurd (e1 ▸ hcn).symm (key g (by omega) hgf)
        · by_cases e2 : g = k
          · exact absurd (e2 ▸ hcn) (key f (by omega) hff)
          · exact t3 f g (by omega) (by omega) hff hgf hcn
  · rintro fuel s ⟨feed, parent, ord, rfl, t1, t2, t3⟩
    rw [e_impl_treeOf_l2, m_impl_treeOf_l2s]; simp only [nlt_dec, cond_false]
theorem iRadial (b : Int) (ls : List Ln) (on : List Bool) (pts : List (Int × Int)) (hp : pts.length ≤ 1048576) : m_impl_Radial b ls on pts = some (radB b ls on pts) := by
  obtain ⟨r, h1, h2, _⟩ := iTree b ls on pts hp
  unfold m_impl_Radial
  rw [h1, Option.bind_some, h2]
theorem sRadial (b : Int) (ls : List Ln) (on : List Bool) (pts : List (Int × Int)) (hp : pts.length ≤ 1048576) : m_spec_Radial b ls on pts = some (radB b ls on pts) := by
  unfold m_spec_Radial radB
  rw [sFed b ls pts hp, Option.bind_some]
  cases hv : okV b ls on pts
  · rfl
  obtain ⟨h1, h2⟩ := okV_iff.1 hv
  have hlp := h2.lp
  subst hlp
  have hB := h1.net.b1
  rw [sCyc h1]
  simp only [Bool.not_true, Bool.not_false, gb_true, Option.bind_some, Bool.false_or, Bool.true_and]
  unfold radP
  cases hc : cycP ls on
  case true => rfl
  simp only [cond_false, Bool.not_false, Bool.true_and]
  have hh := loop_find (m_spec_Radial_l1 (pts.length : Int) ls on pts) (fun k => (k : Int)) pts.length (fun k => (List.range k).any fun j => feedA pts k && feedA pts j && labs (onE ls on) j == labs (onE ls on) k) (some (.inr false)) (some (.inl ())) (by omega) (fun k fuel hk => ?_) (fun fuel => ?_)
  · rw [show m_spec_Radial_l1 (pts.length : Int) ls on pts FUEL 0 = _ from hh]
    show _ = some (!twoF (onE ls on) pts)
    unfold twoF
    cases (List.range pts.length).any _ <;> rfl
  · rw [e_spec_Radial_l1, m_spec_Radial_l1s]
    have h3 := loop_find (m_spec_Radial_l2 (pts.length : Int) ls on pts (k : Int)) (fun j => (j : Int)) k (fun j => feedA pts k && feedA pts j && labs (onE ls on) j == labs (onE ls on) k) (some (.inr false)) (some (.inl ())) (by omega) (fun j fuel hj => ?_) (fun fuel => ?_)
    · simp only [lt_dec hk, cond_true, w64_succ (by omega : k < 4611686018427387904)]
      rw [show m_spec_Radial_l2 (pts.length : Int) ls on pts (k : Int) FUEL 0 = _ from h3]
      cases (List.range k).any _ <;> rfl
    · rw [e_spec_Radial_l2, m_spec_Radial_l2s]
      have hj2 : j < pts.length := by omega
      simp only [lt_dec hj, ix_dec hk, ix_dec hj2, cond_true, chk_true, Bool.or_true, Int.toNat_natCast, w64_succ (by omega : j < 4611686018427387904), sSame h1 hj2 hk]
      rw [show ltB 0 (pts.getD k (0, 0)).1 = feedA pts k from rfl, show ltB 0 (pts.getD j (0, 0)).1 = feedA pts j from rfl]
      cases feedA pts k <;> cases feedA pts j <;> cases labs (onE ls on) j == labs (onE ls on) k <;> rfl
    · rw [e_spec_Radial_l2, m_spec_Radial_l2s]; simp only [nlt_dec, cond_false]
  · rw [e_spec_Radial_l1, m_spec_Radial_l1s]; simp only [nlt_dec, cond_false]
end Go.Proofs.YtekcjnpahohkaaaGreat
namespace Go.Proofs.YtekcjnpahohkaaaGreat
set_option linter.unusedVariables false
set_option linter.unusedSimpArgs false
theorem loop_filter {Out : Type} (L : Nat → (List Int × Int) → Option Out) (n : Nat) (p : Nat → Bool) (fin : List Int → Option Out) (hn : n ≤ 1099511627775) (hstep : ∀ k fuel (l : List Int), k < n → apB l.length ([(k : Int)] : List Int).length = true → L (fuel + 1) (l, (k : Int)) = L fuel (bif p k then l ++ [(k : Int)] else l, ((k + 1 : Nat) : Int)))
    (hend : ∀ fuel (l : List Int), L (fuel + 1) (l, (n : Int)) = fin l) : L FUEL (([] : List Int), 0) = fin (zl ((List.range n).filter p)) := by
  have hh := loop_all L (fun k => (zl ((List.range k).filter p), (k : Int))) n (fin (zl ((List.range n).filter p))) (by omega) (fun k fuel hk => ?_) (fun fuel => hend fuel _)
  · exact hh
  · have hl := List.length_filter_le p (List.range k)
    rw [List.length_range] at hl
    rw [hstep k fuel _ hk (by rw [zl_len]; simp [apB]; omega), List.range_succ, List.filter_append, List.filter_cons, List.filter_nil]
    congr 2
    cases p k <;> simp [zl]
theorem sum_filter (l : List Nat) (p : Nat → Bool) (f : Nat → Int) : ((l.filter p).map f).sum = (l.map fun c => if p c = true then f c else 0).sum := by
  induction l with
  | nil => rfl
  | cons x l ih =>
    rw [List.filter_cons, List.map_cons, List.sum_cons, ← ih]
    split
    · rename_i h; rw [List.map_cons, List.sum_cons]
    · rename_i h; omega
def sumK (E : Ed) (pts : List (Int × Int)) (f : Int × Int → Int) (k j : Nat) : Int := ((List.range k).map fun c => if labs E c = j then f (pts.getD c (0, 0)) else 0).sum
theorem sumK_0 (E : Ed) (pts : List (Int × Int)) (f : Int × Int → Int) (j : Nat) : sumK E pts f 0 j = 0 := rfl
theorem sumK_s (E : Ed) (pts : List (Int × Int)) (f : Int × Int → Int) (k j : Nat) : sumK E pts f (k + 1) j = sumK E pts f k j + (if labs E k = j then f (pts.getD k (0, 0)) else 0) := by
  unfold sumK
  rw [List.range_succ, List.map_append, List.sum_append]; simp
theorem sumE_K (E : Ed) (pts : List (Int × Int)) (f : Int × Int → Int) (b : Nat) : sumE E pts f b = sumK E pts f pts.length (labs E b) := rfl
theorem sumK_bound (E : Ed) (pts : List (Int × Int)) (f : Int × Int → Int) (hf : ∀ c, c < pts.length → 0 ≤ f (pts.getD c (0, 0)) ∧ f (pts.getD c (0, 0)) ≤ 999) (j : Nat) : ∀ k, k ≤ pts.length → 0 ≤ sumK E pts f k j ∧ sumK E pts f k j ≤ 999 * k
  | 0, _ => by rw [sumK_0]; omega
  | k + 1, hk => by
    have ih := sumK_bound E pts f hf j k (by omega)
    have := hf k (by omega)
    rw [sumK_s]
    split <;> omega
theorem get8 (S : Nat → Int) {r : Nat} (hr : r < 8) : ([S 0, S 1, S 2, S 3, S 4, S 5, S 6, S 7] : List Int).getD r 0 = S r := by
  match r, hr with
  | 0, _ => rfl
  | 1, _ => rfl
  | 2, _ => rfl
  | 3, _ => rfl
  | 4, _ => rfl
  | 5, _ => rfl
  | 6, _ => rfl
  | 7, _ => rfl
theorem upd8 {S T : Nat → Int} {r j : Nat} {z x y : Int} (hT : T j = S j + (if r = j then x else 0)) (hz : z = (j : Int)) (hy : y = S r + x) : (bif ((r : Nat) : Int) == z then y else S j) = T j := by
  subst hz
  rw [hT, hy]
  by_cases h : r = j
  · subst h; simp
  · have : (((r : Nat) : Int) == ((j : Nat) : Int)) = false := by rw [beq_eq_false_iff_ne]; omega
    rw [this, if_neg h]; simp
abbrev T16 := Int × Int × Int × Int × Int × Int × Int × Int × Int × Int × Int × Int × Int × Int × Int × Int
def t16 (S T : Nat → Int) : T16 := (S 0, S 1, S 2, S 3, S 4, S 5, S 6, S 7, T 0, T 1, T 2, T 3, T 4, T 5, T 6, T 7)
section
variable {b : Int} {ls : List Ln} {on : List Bool} (h : StOk b ls on)
include h
theorem iUnion : ∃ u, m_impl_unionOf b ls on = some (zl u) ∧ UR u b.toNat (labs (onE ls on)) := by
  have hb := h.net.b0; have hb1 := h.net.b1; have hll := h.net.ll; have hl := h.len
  obtain ⟨B, rfl⟩ : ∃ B : Nat, b = (B : Int) := ⟨b.toNat, by omega⟩
  obtain ⟨n1, n2⟩ := iNew (B := B) (by omega)
  obtain ⟨s, ⟨u, rfl, hu⟩, h2⟩ := loop_rel (m_impl_unionOf_l1 ls on) (fun k s => ∃ u, s = (zl u, (k : Int)) ∧ UR u B (labs (onL ((ls.zip on).take k)))) ls.length (fun s => some s.1) (by omega) (by
    rintro k fuel s hk ⟨u, rfl, hu⟩
    rw [e_impl_unionOf_l1, m_impl_unionOf_l1s]
    have hln := ln_nat (h.net.ln k hk)
    simp only [Int.toNat_natCast] at hln
    simp only [lt_dec hk, ix_dec hk, ix_dec (show k < on.length by omega), chk_true, cond_true, Int.toNat_natCast, w64_succ (by omega : k < 4611686018427387904)]
    rw [hln.1, hln.2.1]
    cases ho : on.getD k false
    · refine ⟨_, ⟨u, rfl, ?_⟩, rfl⟩
      rw [zip_at h hk, ho]; exact hu
    · obtain ⟨x, j1, j2⟩ := iJoin hu (by omega) hln.2.2.1 hln.2.2.2
      simp only [cond_true, j1, Option.bind_some]
      refine ⟨_, ⟨x, rfl, ?_⟩, rfl⟩
      rw [zip_at h hk, ho, if_pos rfl, labs_snoc]; exact j2) (by
    rintro fuel s ⟨u, rfl, hu⟩
    rw [e_impl_unionOf_l1, m_impl_unionOf_l1s]; simp only [nlt_dec, cond_false]) (zl (List.range B), 0) ⟨_, rfl, n2⟩
  refine ⟨u, ?_, ?_⟩
  · unfold m_impl_unionOf
    rw [n1, Option.bind_some, h2]; rfl
  · rw [zip_all h] at hu
    simpa using hu
variable {pts : List (Int × Int)} (hB : BusOk b ls pts)
include hB
omit h in
theorem b_len : pts.length ≤ 8 ∧ b.toNat = pts.length := by have := hB.net.b1; have := hB.lp; omega
set_option maxHeartbeats 1000000 in
theorem iSums : m_impl_sumsOf b ls on pts = some (t16 (sumK (onE ls on) pts (·.1) pts.length) (sumK (onE ls on) pts (·.2) pts.length)) := by
  obtain ⟨u, u1, u2⟩ := iUnion h
  obtain ⟨b1, b2⟩ := b_len hB
  rw [b2] at u2
  unfold m_impl_sumsOf
  rw [u1, Option.bind_some]
  have hf1 : ∀ c, c < pts.length → 0 ≤ (pts.getD c (0, 0)).1 ∧ (pts.getD c (0, 0)).1 ≤ 999 := fun c hc => (hB.bs c hc).1
  have hf2 : ∀ c, c < pts.length → 0 ≤ (pts.getD c (0, 0)).2 ∧ (pts.getD c (0, 0)).2 ≤ 999 := fun c hc => (hB.bs c hc).2
  obtain ⟨s, ⟨v, rfl, hv⟩, h2⟩ := loop_rel (m_impl_sumsOf_l1 pts) (fun k s => ∃ v, s = (zl v, (k : Int), t16 (sumK (onE ls on) pts (·.1) k) (sumK (onE ls on) pts (·.2) k)) ∧ UR v pts.length (labs (onE ls on))) pts.length (fun s => some s.2.2) (by omega) (by
    rintro k fuel s hk ⟨v, rfl, hv⟩
    rw [e_impl_sumsOf_l1, m_impl_sumsOf_l1s]
    obtain ⟨x, x1, x2⟩ := iFindU hv (by omega) hk
    have hr : labs (onE ls on) k < 8 := by have := hv.le hk; omega
    have k1 := sumK_bound (onE ls on) pts (·.1) hf1 (labs (onE ls on) k) k (by omega)
    have k2 := sumK_bound (onE ls on) pts (·.2) hf2 (labs (onE ls on) k) k (by omega)
    have p1 := hf1 k hk
    have p2 := hf2 k hk
    have w1 : w64 (sumK (onE ls on) pts (·.1) k (labs (onE ls on) k) + (pts.getD k (0, 0)).1) = sumK (onE ls on) pts (·.1) k (labs (onE ls on) k) + (pts.getD k (0, 0)).1 := w64_in (by omega) (by omega)
    have w2 : w64 (sumK (onE ls on) pts (·.2) k (labs (onE ls on) k) + (pts.getD k (0, 0)).2) = sumK (onE ls on) pts (·.2) k (labs (onE ls on) k) + (pts.getD k (0, 0)).2 := w64_in (by omega) (by omega)
    dsimp only [t16]
    simp only [lt_dec hk, ix_dec hk, chk_true, cond_true, Int.toNat_natCast, w64_succ (by omega : k < 4611686018427387904), x1, Option.bind_some, ix_dec hr, get8 _ hr, w1, w2]
    have s1 := fun j => sumK_s (onE ls on) pts (·.1) k j
    have s2 := fun j => sumK_s (onE ls on) pts (·.2) k j
    refine ⟨(zl x, ((k + 1 : Nat) : Int), t16 (sumK (onE ls on) pts (·.1) (k + 1)) (sumK (onE ls on) pts (·.2) (k + 1))), ⟨x, rfl, x2⟩, ?_⟩
    dsimp only [t16]
    rw [upd8 (s1 0) (show (0 : Int) = ((0 : Nat) : Int) from rfl) rfl, upd8 (s1 1) (show (1 : Int) = ((1 : Nat) : Int) from rfl) rfl, upd8 (s1 2) (show (2 : Int) = ((2 : Nat) : Int) from rfl) rfl, upd8 (s1 3) (show (3 : Int) = ((3 : Nat) : Int) from rfl) rfl,
      upd8 (s1 4) (show (4 : Int) = ((4 : Nat) : Int) from rfl) rfl, upd8 (s1 5) (show (5 : Int) = ((5 : Nat) : Int) from rfl) rfl, upd8 (s1 6) (show (6 : Int) = ((6 : Nat) : Int) from rfl) rfl, upd8 (s1 7) (show (7 : Int) = ((7 : Nat) : Int) from rfl) rfl,
      upd8 (s2 0) (show (0 : Int) = ((0 : Nat) : Int) from rfl) rfl, upd8 (s2 1) (show (1 : Int) = ((1 : Nat) : Int) from rfl) rfl, upd8 (s2 2) (show (2 : Int) = ((2 : Nat) : Int) from rfl) rfl, upd8 (s2 3) (show (3 : Int) = ((3 : Nat) : Int) from rfl) rfl,
      upd8 (s2 4) (show (4 : Int) = ((4 : Nat) : Int) from rfl) rfl, upd8 (s2 5) (show (5 : Int) = ((5 : Nat) : Int) from rfl) rfl, upd8 (s2 6) (show (6 : Int) = ((6 : Nat) : Int) from rfl) rfl, upd8 (s2 7) (show (7 : Int) = ((7 : Nat) : Int) from rfl) rfl]) (by
    rintro fuel s ⟨v, rfl, hv⟩
    rw [e_impl_sumsOf_l1, m_impl_sumsOf_l1s]; simp only [nlt_dec, cond_false]) (zl u, 0, t16 (fun _ => 0) (fun _ => 0)) ⟨u, rfl, u2⟩
  rw [show m_impl_sumsOf_l1 pts FUEL (zl u, 0, 0, 0, 0, 0, 0, 0, 0, 0, 0, 0, 0, 0, 0, 0, 0, 0) = _ from h2]
  rfl
end
theorem reach_sum {E : Ed} {pts : List (Int × Int)} {b : Nat} (f : Int × Int → Int) : ((reachL E pts.length b).map fun c => f (pts.getD c (0, 0))).sum = sumE E pts f b := by
  unfold reachL sumE
  rw [sum_filter]
  refine sum_same fun c hc => ?_
  by_cases h : labs E c = labs E b
  · rw [if_pos (by rw [h]; simp), if_pos h]
  · rw [if_neg (by simpa using Ne.symm h), if_neg h]
theorem sum_take_succ {l : List Nat} {f : Nat → Int} {k : Nat} (hk : k < l.length) : ((l.take (k + 1)).map f).sum = ((l.take k).map f).sum + f (l.getD k 0) := by
  rw [List.take_succ_eq_append_getElem hk, List.map_append, List.sum_append, getD_ge hk]; simp
theorem sum_sub (l : List Nat) (f : Nat → Int) (hf : ∀ c ∈ l, 0 ≤ f c ∧ f c ≤ 999) : 0 ≤ (l.map f).sum ∧ (l.map f).sum ≤ 999 * l.length := by
  induction l with
  | nil => simp
  | cons x l ih =>
    have h1 := ih fun c hc => hf c (by simp [hc])
    have h2 := hf x (by simp)
    simp only [List.map_cons, List.sum_cons, List.length_cons]
    omega
section
variable {ls : List Ln} {on : List Bool} {pts : List (Int × Int)} (h1 : StOk (pts.length : Int) ls on) (h2 : BusOk (pts.length : Int) ls pts)
include h1 h2
theorem sIslFeed {k : Nat} (hk : k < pts.length) : m_spec_IslandFeed (pts.length : Int) ls on pts (k : Int) = some (sumE (onE ls on) pts (·.1) k) := by
  have hB := h1.net.b1
  unfold m_spec_IslandFeed m_spec_l1In
  have w1 : w64 ((pts.length : Int) - 1) = (pts.length : Int) - 1 := w64_in (by omega) (by omega)
  have c1 : (leB 0 (k : Int) && leB (k : Int) ((pts.length : Int) - 1)) = true := by simp [leB]; omega
  rw [sFed _ ls pts (by omega), okV_iff.2 ⟨h1, h2⟩, Option.bind_some, w1, c1]
  simp only [Bool.not_true, Bool.not_false, gb_true, Option.bind_some, Bool.or_self, cond_false, sReached h1 hk]
  rw [← reach_sum]
  have hl := reachL_len (onE ls on) pts.length k
  have hm : ∀ c ∈ reachL (onE ls on) pts.length k, c < pts.length := fun c hc => by have := (List.mem_filter.1 hc).1; simpa using this
  generalize reachL (onE ls on) pts.length k = l at *
  have hh := loop_all (m_spec_IslandFeed_l1 pts (zl l)) (fun j => (((l.take j).map fun c => (pts.getD c (0, 0)).1).sum, (j : Int))) l.length (some ((l.map fun c => (pts.getD c (0, 0)).1).sum)) (by omega) (fun j fuel hj => ?_) (fun fuel => ?_)
  · rw [show m_spec_IslandFeed_l1 pts (zl l) FUEL (0, 0) = _ from hh]; rfl
  · rw [e_spec_IslandFeed_l1, m_spec_IslandFeed_l1s]
    have hc : l.getD j 0 < pts.length := hm _ (by rw [getD_ge hj]; exact List.getElem_mem hj)
    have hb := sum_sub (l.take j) (fun c => (pts.getD c (0, 0)).1) (fun c hc => (h2.bs c (hm c (List.mem_of_mem_take hc))).1)
    have hlen : (l.take j).length = j := by rw [List.length_take]; omega
    have hx := (h2.bs _ hc).1
    rw [hlen] at hb
    have w2 : w64 (((l.take j).map fun c => (pts.getD c (0, 0)).1).sum + (pts.getD (l.getD j 0) (0, 0)).1) = ((l.take j).map fun c => (pts.getD c (0, 0)).1).sum + (pts.getD (l.getD j 0) (0, 0)).1 := w64_in (by omega) (by omega)
    simp only [zl_len, lt_dec hj, ix_dec hj, cond_true, chk_true, Int.toNat_natCast, zl_get, ix_dec hc, w2, w64_succ (by omega : j < 4611686018427387904)]
    rw [sum_take_succ hj]
  · rw [e_spec_IslandFeed_l1, m_spec_IslandFeed_l1s]; simp only [zl_len, nlt_dec, cond_false, List.take_length]
end
end Go.Proofs.YtekcjnpahohkaaaGreat
namespace Go.Proofs.YtekcjnpahohkaaaGreat
set_option linter.unusedVariables false
set_option linter.unusedSimpArgs false
section
variable {σ : Type} (good : σ → Bool) (sv : σ → Int) (ch : σ → Nat)
def better (s : Int) (c : Nat) : Option σ → Bool
  | none => true
  | some y => decide (sv y < s) || (decide (sv y = s) && decide (c < ch y))
def bstep (a : Option σ) (x : σ) : Option σ := if good x && better sv ch (sv x) (ch x) a then some x else a
def bestOf (l : List σ) : Option σ := l.foldl (bstep good sv ch) none
theorem bestOf_snoc (l : List σ) (x : σ) : bestOf good sv ch (l ++ [x]) = bstep good sv ch (bestOf good sv ch l) x := by unfold bestOf; rw [List.foldl_append]; rfl
theorem bestOf_spec (l : List σ) : (∀ x ∈ l, good x = true → ∃ y, bestOf good sv ch l = some y) ∧ ∀ y, bestOf good sv ch l = some y → (y ∈ l ∧ good y = true) ∧ ∀ x ∈ l, good x = true → sv x < sv y ∨ (sv x = sv y ∧ ch y ≤ ch x) := by
  refine rev_ind (P := fun l => (∀ x ∈ l, good x = true → ∃ y, bestOf good sv ch l = some y) ∧ ∀ y, bestOf good sv ch l = some y → (y ∈ l ∧ good y = true) ∧ ∀ x ∈ l, good x = true → sv x < sv y ∨ (sv x = sv y ∧ ch y ≤ ch x)) ?_ ?_ l
  · exact ⟨fun x hx => by simp at hx, fun y hy => by cases hy⟩
  · intro l a ih
    rw [bestOf_snoc]
    unfold bstep
    cases hg : good a
    · rw [Bool.false_and, if_neg (by decide)]
      refine ⟨fun x hx hgx => ?_, fun y hy => ?_⟩
      · rcases List.mem_append.1 hx with hx | hx
        · exact ih.1 x hx hgx
        · obtain rfl : x = a := by simpa using hx
          rw [hg] at hgx; cases hgx
      · obtain ⟨⟨h1, h2⟩, h3⟩ := ih.2 y hy
        refine ⟨⟨by simp [h1], h2⟩, fun x hx hgx => ?_⟩
        rcases List.mem_append.1 hx with hx | hx
        · exact h3 x hx hgx
        · obtain rfl : x = a := by simpa using hx
          rw [hg] at hgx; cases hgx
    · rw [Bool.true_and]
      cases hb : bestOf good sv ch l with
      | none =>
        rw [if_pos (show better sv ch (sv a) (ch a) none = true from rfl)]
        refine ⟨fun _ _ _ => ⟨a, rfl⟩, fun y hy => ?_⟩
        obtain rfl : a = y := Option.some.inj hy
        refine ⟨⟨by simp, hg⟩, fun x hx hgx => ?_⟩
        rcases List.mem_append.1 hx with hx | hx
        · obtain ⟨y, hy⟩ := ih.1 x hx hgx
          rw [hb] at hy; cases hy
        · obtain rfl : x = a := by simpa using hx
          exact .inr ⟨rfl, Nat.le_refl _⟩
      | some z =>
        obtain ⟨⟨h1, h2⟩, h3⟩ := ih.2 z hb
        split
        · rename_i hbet
          simp only [better, Bool.or_eq_true, Bool.and_eq_true, decide_eq_true_eq] at hbet
          refine ⟨fun _ _ _ => ⟨a, rfl⟩, fun y hy => ?_⟩
          obtain rfl : a = y := Option.some.inj hy
          refine ⟨⟨by simp, hg⟩, fun x hx hgx => ?_⟩
          rcases List.mem_append.1 hx with hx | hx
          · have := h3 x hx hgx; omega
          · obtain rfl : x = a := by simpa using hx
            exact .inr ⟨rfl, Nat.le_refl _⟩
        · rename_i hbet
          simp only [better, Bool.or_eq_true, Bool.and_eq_true, decide_eq_true_eq] at hbet
          refine ⟨fun _ _ _ => ⟨z, rfl⟩, fun y hy => ?_⟩
          obtain rfl : z = y := Option.some.inj hy
          refine ⟨⟨by simp [h1], h2⟩, fun x hx hgx => ?_⟩
          rcases List.mem_append.1 hx with hx | hx
          · exact h3 x hx hgx
          · obtain rfl : x = a := by simpa using hx
            omega
end
def stOf (n num : Nat) : List Bool := (List.range n).map fun k => num.testBit k
theorem stOf_len (n num : Nat) : (stOf n num).length = n := by simp [stOf]
theorem stOf_get {n num k : Nat} (h : k < n) : (stOf n num).getD k false = num.testBit k := by simp [stOf, List.getD, h]
def numOf : List Bool → Nat
  | [] => 0
  | b :: l => 2 * numOf l + b.toNat
theorem numOf_bit : ∀ (l : List Bool) (k : Nat), (numOf l).testBit k = l.getD k false
  | [], k => by simp [numOf]
  | b :: l, 0 => by cases b <;> simp [numOf, Nat.testBit_zero] <;> omega
  | b :: l, k + 1 => by
    rw [Nat.testBit_succ, List.getD_cons_succ, ← numOf_bit l k]
    congr 1
    cases b <;> simp [numOf] <;> omega
theorem numOf_lt : ∀ l : List Bool, numOf l < 2 ^ l.length
  | [] => by simp [numOf]
  | b :: l => by
    have := numOf_lt l
    have hb : b.toNat ≤ 1 := by cases b <;> simp
    rw [List.length_cons, Nat.pow_succ]; simp only [numOf]; omega
theorem stOf_numOf (l : List Bool) : stOf l.length (numOf l) = l := by
  apply List.ext_getElem (by simp [stOf])
  intro i h1 h2
  have := stOf_get (num := numOf l) h2
  rw [getD_ge h1, numOf_bit, getD_ge h2] at this
  exact this
def states (n : Nat) : List (List Bool) := (List.range (2 ^ n)).map (stOf n)
theorem states_mem {n : Nat} {l : List Bool} : l ∈ states n ↔ l.length = n := by
  unfold states
  rw [List.mem_map]
  constructor
  · rintro ⟨k, _, rfl⟩; exact stOf_len _ _
  · rintro rfl; exact ⟨numOf l, by simpa using numOf_lt l, stOf_numOf l⟩
def servP (E : Ed) (pts : List (Int × Int)) : Int := ((List.range pts.length).map fun b => if sumE E pts (·.2) b ≤ sumE E pts (·.1) b then (pts.getD b (0, 0)).2 else 0).sum
def goodP (ls : List Ln) (on : List Bool) (pts : List (Int × Int)) : Bool :=
  radP ls on pts && (!(List.range ls.length).any fun k => decide ((ls.getD k (0, 0, 0)).2.2 < flowP ls on pts k)) && !(List.range pts.length).any fun b => feedA pts b && decide ((pts.getD b (0, 0)).1 < sumE (onE ls on) pts (·.2) b)
theorem good_rad {ls : List Ln} {on : List Bool} {pts : List (Int × Int)} (h : goodP ls on pts = true) : radP ls on pts = true := by
  unfold goodP at h
  rw [Bool.and_eq_true, Bool.and_eq_true] at h
  exact h.1.1
def chgs (a b : List Bool) : List Nat := (List.range a.length).filter fun k => a.getD k false != b.getD k false
def bestP (ls : List Ln) (on : List Bool) (pts : List (Int × Int)) : Option (List Bool) := bestOf (fun x => goodP ls x pts) (fun x => servP (onE ls x) pts) (fun x => (chgs on x).length) (states ls.length)
theorem bestP_good {ls : List Ln} {on x : List Bool} {pts : List (Int × Int)} (h : bestP ls on pts = some x) : x.length = ls.length ∧ goodP ls x pts = true := by
  have := ((bestOf_spec _ _ _ _).2 x h).1
  exact ⟨states_mem.1 this.1, this.2⟩
def offsTo (on x : List Bool) (k : Nat) : List Dd := ((List.range k).filter fun i => on.getD i false && !x.getD i false).map fun (i : Nat) => (1, (i : Int), 0)
def onsTo (on x : List Bool) (k : Nat) : List Dd := ((List.range k).filter fun i => x.getD i false && !on.getD i false).map fun (i : Nat) => (0, (i : Int), 0)
def fixOf (earth : List Bool) (br : List Int) : List Dd := br.flatMap fun l => (if earth.getD l.toNat false then [] else [(2, l, 0)]) ++ [(4, l, 0), (7, l, 0), (5, l, 0)]
def earthd (earth : List Bool) (br : List Int) : List Bool := br.foldl (fun e l => e.set l.toNat true) earth
def stepsTo (on : List Bool) (x : Option (List Bool)) : List Dd :=
  match x with
  | none => []
  | some x => offsTo on x on.length ++ onsTo on x on.length
def healP (w : Wd) : List Dd := retsOf w.pm ++ fixOf w.earth w.br ++ forOf 3 (earthd w.earth w.br) true w.on.length ++ stepsTo w.on (bestP w.ls w.on w.pts)
theorem earthd_len (br : List Int) : ∀ earth : List Bool, (earthd earth br).length = earth.length := by
  induction br with
  | nil => intro e; rfl
  | cons l br ih => intro e; show (earthd (e.set l.toNat true) br).length = _; rw [ih]; simp
theorem fix_len (earth : List Bool) (l : Int) (br : List Int) : fixOf earth (l :: br) = ((if earth.getD l.toNat false then [] else [(2, l, 0)]) ++ [(4, l, 0), (7, l, 0), (5, l, 0)]) ++ fixOf earth br := rfl
theorem set_true_self {l : List Bool} {k : Nat} (h : l.getD k false = true) : l.set k true = l := by
  rcases Nat.lt_or_ge k l.length with hk | hk
  · rw [getD_ge hk] at h
    have := List.set_getElem_self hk
    rwa [h] at this
  · rw [gout hk] at h; cases h
def mix (n k : Nat) (f g : Nat → Bool) : List Bool := (List.range n).map fun i => if i < k then f i else g i
theorem mix_set {n k : Nat} {f g : Nat → Bool} (h : k < n) : (mix n k f g).set k (f k) = mix n (k + 1) f g := by
  apply List.ext_getElem (by simp [mix])
  intro i h1 h2
  rw [List.getElem_set]
  simp only [mix, List.getElem_map, List.getElem_range]
  split
  · rename_i e; subst e; rw [if_pos (by omega)]
  · by_cases hi : i < k
    · rw [if_pos hi, if_pos (by omega)]
    · rw [if_neg hi, if_neg (by omega)]
end Go.Proofs.YtekcjnpahohkaaaGreat
namespace Go.Proofs.YtekcjnpahohkaaaGreat
set_option linter.unusedVariables false
set_option linter.unusedSimpArgs false
theorem sumP_bound {n : Nat} {f : Nat → Int} {p : Nat → Prop} (hf : ∀ b, b < n → 0 ≤ f b ∧ f b ≤ 999) : 0 ≤ sumP n f p ∧ sumP n f p ≤ 999 * n := by
  unfold sumP
  induction n with
  | zero => simp
  | succ n ih =>
    have h1 := ih fun b hb => hf b (by omega)
    have h2 := hf n (by omega)
    rw [List.range_succ, List.map_append, List.sum_append]
    simp only [List.map_cons, List.map_nil, List.sum_cons, List.sum_nil]
    split <;> omega
def tab (n : Nat) (f : Nat → Int) : List Int := (List.range n).map f
theorem tab_len (n : Nat) (f : Nat → Int) : (tab n f).length = n := by simp [tab]
theorem tab_get {n k : Nat} {f : Nat → Int} (h : k < n) : (tab n f).getD k 0 = f k := by simp [tab, List.getD, h]
theorem tab_set {n k : Nat} {f g : Nat → Int} {v : Int} (hk : k < n) (h1 : g k = v) (h2 : ∀ j, j < n → j ≠ k → g j = f j) : (tab n f).set k v = tab n g := by
  apply List.ext_getElem (by simp [tab])
  intro i a b
  have hi : i < n := by simpa [tab] using b
  rw [List.getElem_set]
  simp only [tab, List.getElem_map, List.getElem_range]
  split
  · rename_i e; subst e; exact h1.symm
  · rename_i e; exact (h2 i hi (Ne.symm e)).symm
theorem tab_congr {n : Nat} {f g : Nat → Int} (h : ∀ j, j < n → f j = g j) : tab n f = tab n g := List.map_congr_left fun j hj => h j (by simpa using hj)
theorem tab_0 (n : Nat) : tab n (fun _ => 0) = List.replicate n 0 := by
  apply List.ext_getElem (by simp [tab])
  intro i a b
  simp [tab]
open Classical in
noncomputable def flK (ls : List Ln) (on : List Bool) (pts : List (Int × Int)) (par : Nat → Int) (rk : Nat → Nat) (i k : Nat) : Int := if ∃ d, 0 ≤ par d ∧ (par d).toNat = k ∧ i ≤ rk d then flowP ls on pts k else 0
theorem fed_lt {b : Int} {ls : List Ln} {on : List Bool} {pts : List (Int × Int)} (h2 : BusOk b ls pts) {c : Nat} (h : fedB (onE ls on) pts c = true) : c < pts.length := by
  obtain ⟨f, f1, f2⟩ := fedB_iff.1 h
  cases f2 with
  | refl => exact feedA_lt f1
  | step _ e =>
    rcases e with e | e
    · exact (onE_lt h2 on _ e).2
    · exact (onE_lt h2 on _ e).1
theorem idx_at {l : List Nat} (h : l.Nodup) {i : Nat} (hi : i < l.length) : l.idxOf (l.getD i 0) = i := by
  rw [getD_ge hi]
  have hm : l.idxOf l[i] < l.length := List.idxOf_lt_length_iff.2 (List.getElem_mem hi)
  have h1 := List.getElem_idxOf hm
  rw [List.nodup_iff_pairwise_ne, List.pairwise_iff_getElem] at h
  rcases Nat.lt_trichotomy (l.idxOf l[i]) i with h2 | h2 | h2
  · exact absurd h1 (h _ _ hm hi h2)
  · exact h2
  · exact absurd h1.symm (h _ _ hi hm h2)
section
variable {ls : List Ln} {on : List Bool} {pts : List (Int × Int)} {feed parent : List Int} {ord : List Nat} (h1 : StOk (pts.length : Int) ls on) (h2 : BusOk (pts.length : Int) ls pts) (hr : radP ls on pts = true) (T : TreeOk ls on pts feed parent ord)
include h2 T
theorem rk_inj : ∀ a b, fedB (onE ls on) pts a = true → fedB (onE ls on) pts b = true → ord.idxOf a = ord.idxOf b → a = b := by
  intro a b ha hb e
  have ha' := (T.mem a).2 ⟨fed_lt h2 ha, ha⟩
  have hb' := (T.mem b).2 ⟨fed_lt h2 hb, hb⟩
  have h3 := List.getElem_idxOf (List.idxOf_lt_length_iff.2 ha')
  have h4 := List.getElem_idxOf (List.idxOf_lt_length_iff.2 hb')
  rw [← h3, ← h4]
  congr 1
theorem rk_lt {d : Nat} (h : 0 ≤ parent.getD d (-1)) : ord.idxOf d < ord.length := by
  obtain ⟨c, hc, _⟩ := T.par.line d h
  have hf : fedB (onE ls on) pts d = true := Up.fed T.par ⟨h, hc⟩
  exact List.idxOf_lt_length_iff.2 ((T.mem d).2 ⟨fed_lt h2 hf, hf⟩)
include h1 hr
theorem iFlows : m_impl_tree_flows (pts.length : Int) ls feed parent (zl ord) pts = some (tab ls.length (flowP ls on pts)) := by
  have hll := h1.net.ll; have hB := h1.net.b1
  have hol : ord.length ≤ pts.length := nodup_len _ ord T.nd fun b hb => ((T.mem b).1 hb).1
  have hf2 : ∀ c, c < pts.length → 0 ≤ (pts.getD c (0, 0)).2 ∧ (pts.getD c (0, 0)).2 ≤ 999 := fun c hc => (h2.bs c hc).2
  unfold m_impl_tree_flows
  have m1 : mkB (ls.length : Int) = true := by simp [mkB]; omega
  have m2 : mkB (pts.length : Int) = true := by simp [mkB]; omega
  have w0 : w64 (((zl ord).length : Int) - 1) = (ord.length : Int) - 1 := by rw [zl_len, w64_in (by omega) (by omega)]
  rw [m1, m2, chk_true, chk_true, w0]
  have P := T.par
  have hh := loop_all (m_impl_tree_flows_l1 (pts.length : Int) ls feed parent (zl ord) pts) (fun k => (tab ls.length (flK ls on pts (fun b => parent.getD b (-1)) (fun b => ord.idxOf b) (ord.length - k)), tab pts.length (wantP ls on pts (fun b => parent.getD b (-1)) (fun b => ord.idxOf b) (ord.length - k)), (ord.length : Int) - (k : Int) - 1)) ord.length (some (tab ls.length (flowP ls on pts))) (by omega) (fun k fuel hk => ?_) (fun fuel => ?_)
  · have e1 : tab ls.length (flK ls on pts (fun b => parent.getD b (-1)) (fun b => ord.idxOf b) (ord.length - 0)) = List.replicate ls.length 0 := by
      rw [← tab_0]
      refine tab_congr fun j hj => ?_
      unfold flK
      rw [if_neg]
      rintro ⟨d, d1, _, d3⟩
      have := rk_lt h2 T d1
      dsimp only at d3; omega
    have e2 : tab pts.length (wantP ls on pts (fun b => parent.getD b (-1)) (fun b => ord.idxOf b) (ord.length - 0)) = List.replicate pts.length 0 := by
      rw [← tab_0]
      refine tab_congr fun j hj => sumP_none fun b hb => ?_
      rintro (⟨_, hF, hi⟩ | ⟨d, d1, d2, _⟩)
      · have := List.idxOf_lt_length_iff.2 ((T.mem j).2 ⟨hj, hF⟩)
        dsimp only at hi; omega
      · have := rk_lt h2 T d1.1
        dsimp only at d2; omega
    rw [e1, e2] at hh
    rw [show (ord.length : Int) - 1 = (ord.length : Int) - ((0 : Nat) : Int) - 1 by omega, hh]; rfl
  · -- the bus at i
    obtain ⟨i, hi⟩ : ∃ i, ord.length - k = i + 1 := ⟨ord.length - k - 1, by omega⟩
    have hio : i < ord.length := by omega
    have e0 : (ord.length : Int) - (k : Int) - 1 = (i : Int) := by omega
    have e3 : (ord.length : Int) - ((k + 1 : Nat) : Int) - 1 = (i : Int) - 1 := by omega
    have e4 : ord.length - (k + 1) = i := by omega
    rw [hi, e0, e3, e4, e_impl_tree_flows_l1, m_impl_tree_flows_l1s]
    obtain ⟨o, ho⟩ : ∃ o, ord.getD i 0 = o := ⟨_, rfl⟩
    have hom : o ∈ ord := by rw [← ho, getD_ge hio]; exact List.getElem_mem hio
    obtain ⟨hon, hof⟩ := (T.mem o).1 hom
    have hrk : ord.idxOf o = i := by rw [← ho]; exact idx_at T.nd hio
    have hpo : parent.getD o 0 = parent.getD o (-1) := by rw [getD_ge (by rw [T.lp]; exact hon), getD_ge (by rw [T.lp]; exact hon)]
    have hinj := rk_inj h2 T
    have hself := Par.want_self P (i := i) (o := o) hrk hon hof
    have hnow := Par.want_now P (i := i) (o := o) hrk hof
    have hb1 : 0 ≤ belowP ls on pts (fun b => parent.getD b (-1)) o ∧ belowP ls on pts (fun b => parent.getD b (-1)) o ≤ 999 * pts.length := sumP_bound hf2
    have ws : w64 (wantP ls on pts (fun b => parent.getD b (-1)) (fun b => ord.idxOf b) (i + 1) o + (pts.getD o (0, 0)).2) = belowP ls on pts (fun b => parent.getD b (-1)) o := by rw [hself]; exact w64_in (by omega) (by omega)
    have wi : w64 ((i : Int) - 1) = (i : Int) - 1 := w64_in (by omega) (by omega)
    have hge : leB 0 (i : Int) = true := by simp [leB]
    have hxo : ixB (o : Int) parent.length = true := by rw [T.lp]; exact ix_dec hon
    simp only [hge, cond_true, zl_len, ix_dec hio, chk_true, Int.toNat_natCast, zl_get, ho, ix_dec hon, hxo, tab_get hon, ws, wi]
    by_cases hp : 0 ≤ parent.getD o (-1)
    · obtain ⟨c, hlk, hc, hfc, hrc⟩ := P.line o hp
      obtain ⟨j, hj⟩ : ∃ j : Nat, parent.getD o (-1) = (j : Int) := ⟨(parent.getD o (-1)).toNat, by omega⟩
      have hlk' := hlk
      rw [hj, Int.toNat_natCast] at hlk
      have hne : c ≠ o := fun e => by subst e; omega
      have u : Up ls on (fun b => parent.getD b (-1)) o c := ⟨hp, hlk'⟩
      have hup := Par.want_up P hinj hrk u
      have habove : m_impl_tree_above (pts.length : Int) ls feed parent (zl ord) (o : Int) = some (c : Int) := by
        unfold m_impl_tree_above
        rw [hxo, chk_true, Int.toNat_natCast, hpo, hj, ix_dec hlk.1, chk_true, Int.toNat_natCast]
        obtain ⟨z, z1, z2⟩ := other_lk h1 (b := o) hlk.1
        rw [z1, Option.bind_some]
        rcases z2 with ⟨_, z3⟩ | ⟨c', rfl, _, _, z4⟩
        · exact absurd hlk (z3 c)
        · rw [z4 c hlk]
      have hgj : leB 0 (parent.getD o 0) = true := by rw [hpo]; simpa [leB] using hp
      have hxj : ixB (parent.getD o 0) ls.length = true := by rw [hpo, hj]; exact ix_dec hlk.1
      have hset1 : ((tab pts.length (wantP ls on pts (fun b => parent.getD b (-1)) (fun b => ord.idxOf b) (i + 1))).set o (belowP ls on pts (fun b => parent.getD b (-1)) o)).getD o 0 = belowP ls on pts (fun b => parent.getD b (-1)) o := gset (by rw [tab_len]; exact hon)
      have hset2 : ((tab pts.length (wantP ls on pts (fun b => parent.getD b (-1)) (fun b => ord.idxOf b) (i + 1))).set o (belowP ls on pts (fun b => parent.getD b (-1)) o)).getD c 0 = wantP ls on pts (fun b => parent.getD b (-1)) (fun b => ord.idxOf b) (i + 1) c := by rw [gset_ne (Ne.symm hne), tab_get hc]
      have hb2 : 0 ≤ wantP ls on pts (fun b => parent.getD b (-1)) (fun b => ord.idxOf b) i c ∧ wantP ls on pts (fun b => parent.getD b (-1)) (fun b => ord.idxOf b) i c ≤ 999 * pts.length := sumP_bound hf2
      have wc : w64 (wantP ls on pts (fun b => parent.getD b (-1)) (fun b => ord.idxOf b) (i + 1) c + belowP ls on pts (fun b => parent.getD b (-1)) o) = wantP ls on pts (fun b => parent.getD b (-1)) (fun b => ord.idxOf b) i c := by rw [← hup]; exact w64_in (by omega) (by omega)
      simp only [hgj, cond_true, hxj, chk_true, habove, Option.bind_some, ix_dec hc, ix_dec hon, Int.toNat_natCast, hset1, hset2, wc]
      congr 2
      · rw [hpo, hj, Int.toNat_natCast]
        have hfl : flowP ls on pts (parent.getD o (-1)).toNat = belowP ls on pts (fun b => parent.getD b (-1)) o := Par.flow P h1.len hr (d := o) hp
        have hbel : belowP ls on pts (fun b => parent.getD b (-1)) o = flowP ls on pts j := by
          rw [hj, Int.toNat_natCast] at hfl
          exact hfl.symm
        refine tab_set hlk.1 ?_ fun k' hk' hne' => ?_
        · unfold flK
          rw [if_pos ⟨o, hp, by dsimp only; rw [hj]; rfl, by dsimp only; omega⟩, hbel]
        · unfold flK
          by_cases hex : ∃ d, 0 ≤ (fun b => parent.getD b (-1)) d ∧ ((fun b => parent.getD b (-1)) d).toNat = k' ∧ i + 1 ≤ (fun b => ord.idxOf b) d
          · rw [if_pos hex]
            obtain ⟨d, d1, d2, d3⟩ := hex
            rw [if_pos ⟨d, d1, d2, by omega⟩]
          · rw [if_neg hex, if_neg]
            rintro ⟨d, d1, d2, d3⟩
            refine hex ⟨d, d1, d2, ?_⟩
            dsimp only at d1 d2 d3 ⊢
            rcases Nat.lt_or_ge i (ord.idxOf d) with h | h
            · exact h
            · exfalso
              obtain ⟨c', hc', _⟩ := P.line d d1
              have : d = o := hinj d o (Up.fed P ⟨d1, hc'⟩) hof (by omega)
              subst this
              rw [hj] at d2
              exact hne' (by simpa using d2.symm)
      · congr 1
        rw [tab_set (g := fun x => if x = o then belowP ls on pts (fun b => parent.getD b (-1)) o else wantP ls on pts (fun b => parent.getD b (-1)) (fun b => ord.idxOf b) (i + 1) x) hon (if_pos rfl) (fun j' _ hj' => if_neg hj')]
        refine tab_set hc rfl fun x hx hxc => ?_
        by_cases hxo2 : x = o
        · subst hxo2; rw [if_pos rfl]; exact hnow
        · rw [if_neg hxo2]
          exact Par.want_else P hinj hrk hof hxo2 fun u' => hxc (u'.inj u).symm.symm
    · have hgj : leB 0 (parent.getD o 0) = false := by rw [hpo]; simp only [leB, decide_eq_false_iff_not]; exact hp
      simp only [hgj, cond_false, Option.bind_some]
      congr 2
      · refine tab_congr fun k' hk' => ?_
        unfold flK
        by_cases hex : ∃ d, 0 ≤ (fun b => parent.getD b (-1)) d ∧ ((fun b => parent.getD b (-1)) d).toNat = k' ∧ i + 1 ≤ (fun b => ord.idxOf b) d
        · rw [if_pos hex]
          obtain ⟨d, d1, d2, d3⟩ := hex
          rw [if_pos ⟨d, d1, d2, by omega⟩]
        · rw [if_neg hex, if_neg]
          rintro ⟨d, d1, d2, d3⟩
          refine hex ⟨d, d1, d2, ?_⟩
          dsimp only at d1 d2 d3 ⊢
          rcases Nat.lt_or_ge i (ord.idxOf d) with h | h
          · exact h
          · exfalso
            obtain ⟨c', hc', _⟩ := P.line d d1
            have : d = o := hinj d o (Up.fed P ⟨d1, hc'⟩) hof (by omega)
            subst this
            exact hp d1
      · congr 1
        refine tab_set hon hnow fun x hx hxo2 => ?_
        exact Par.want_else P hinj hrk hof hxo2 fun u' => hp u'.1
  · rw [e_impl_tree_flows_l1, m_impl_tree_flows_l1s]
    have e0 : leB 0 ((ord.length : Int) - (ord.length : Int) - 1) = false := by simp only [leB, decide_eq_false_iff_not]; omega
    simp only [e0, cond_false, Nat.sub_self]
    congr 1
    refine tab_congr fun k hk => ?_
    unfold flK
    by_cases hex : ∃ d, 0 ≤ (fun b => parent.getD b (-1)) d ∧ ((fun b => parent.getD b (-1)) d).toNat = k ∧ 0 ≤ (fun b => ord.idxOf b) d
    · rw [if_pos hex]
    · rw [if_neg hex]
      exact (Par.flow0 P h1.len hr fun d d1 d2 => hex ⟨d, d1, d2, Nat.zero_le _⟩).symm
omit hr in
theorem iGiven {b : Nat} (hb : b < pts.length) : m_impl_tree_given (pts.length : Int) ls feed parent (zl ord) pts (b : Int) = some (if feedA pts b = true then sumE (onE ls on) pts (·.2) b else 0) := by
  have hB := h1.net.b1
  unfold m_impl_tree_given
  have hf2 : ∀ c, c < pts.length → 0 ≤ (pts.getD c (0, 0)).2 ∧ (pts.getD c (0, 0)).2 ≤ 999 := fun c hc => (h2.bs c hc).2
  have hbd : ∀ k, k ≤ pts.length → 0 ≤ ((List.range k).map fun c => if feed.getD c 0 = (b : Int) then (pts.getD c (0, 0)).2 else 0).sum ∧ ((List.range k).map fun c => if feed.getD c 0 = (b : Int) then (pts.getD c (0, 0)).2 else 0).sum ≤ 999 * k := by
    intro k
    induction k with
    | zero => intro _; simp
    | succ k ih =>
      intro hk
      have i1 := ih (by omega)
      have i2 := hf2 k (by omega)
      rw [List.range_succ, List.map_append, List.sum_append]
      simp only [List.map_cons, List.map_nil, List.sum_cons, List.sum_nil]
      split <;> omega
  have hh := loop_all (m_impl_tree_given_l1 feed pts (b : Int)) (fun k => (((List.range k).map fun c => if feed.getD c 0 = (b : Int) then (pts.getD c (0, 0)).2 else 0).sum, (k : Int))) pts.length (some (((List.range pts.length).map fun c => if feed.getD c 0 = (b : Int) then (pts.getD c (0, 0)).2 else 0).sum)) (by omega) (fun k fuel hk => ?_) (fun fuel => ?_)
  · rw [show m_impl_tree_given_l1 feed pts (b : Int) FUEL (0, 0) = _ from hh, Option.bind_some]
    congr 1
    by_cases hfb : feedA pts b = true
    · rw [if_pos hfb]
      refine sum_same fun c hc => ?_
      have := T.fd c b hc
      by_cases e : labs (onE ls on) c = labs (onE ls on) b
      · rw [if_pos e, if_pos (this.2 ⟨hfb, ((labs_cn _ _ _).1 e).symm⟩)]
      · rw [if_neg e, if_neg fun e2 => e ((labs_cn _ _ _).2 (this.1 e2).2.symm)]
    · rw [if_neg hfb]
      exact sum_zero fun c hc => if_neg fun e2 => hfb ((T.fd c b hc).1 e2).1
  · rw [e_impl_tree_given_l1, m_impl_tree_given_l1s]
    have hx : ixB (k : Int) feed.length = true := by rw [T.lf]; exact ix_dec hk
    have i1 := hbd k (by omega)
    have i2 := hf2 k hk
    have wk : w64 (((List.range k).map fun c => if feed.getD c 0 = (b : Int) then (pts.getD c (0, 0)).2 else 0).sum + (pts.getD k (0, 0)).2) = ((List.range k).map fun c => if feed.getD c 0 = (b : Int) then (pts.getD c (0, 0)).2 else 0).sum + (pts.getD k (0, 0)).2 := w64_in (by omega) (by omega)
    have hlt : ltB (k : Int) (feed.length : Int) = true := by rw [T.lf]; exact lt_dec hk
    simp only [hlt, cond_true, hx, chk_true, Int.toNat_natCast, ix_dec hk, wk, w64_succ (by omega : k < 4611686018427387904)]
    rw [List.range_succ, List.map_append, List.sum_append]
    simp only [List.map_cons, List.map_nil, List.sum_cons, List.sum_nil]
    by_cases e : feed.getD k 0 = (b : Int)
    · rw [if_pos e, show (feed.getD k 0 == (b : Int)) = true by rw [e]; simp]
      simp
    · rw [if_neg e, show (feed.getD k 0 == (b : Int)) = false by simpa using e]
      simp
  · rw [e_impl_tree_given_l1, m_impl_tree_given_l1s]
    have hlt : ltB (pts.length : Int) (feed.length : Int) = false := by rw [T.lf]; exact nlt_dec
    simp only [hlt, cond_false]
theorem iGood : m_impl_tree_good (pts.length : Int) ls feed parent (zl ord) pts = some (goodP ls on pts) := by
  have hll := h1.net.ll; have hB := h1.net.b1
  unfold m_impl_tree_good goodP
  rw [iFlows h1 h2 hr T, Option.bind_some, hr]
  have a1 := loop_find (m_impl_tree_good_l1 ls (tab ls.length (flowP ls on pts))) (fun k => (k : Int)) ls.length (fun k => decide ((ls.getD k (0, 0, 0)).2.2 < flowP ls on pts k)) (some (.inr false)) (some (.inl ())) (by omega) (fun k fuel hk => ?_) (fun fuel => ?_)
  · have a2 := loop_find (m_impl_tree_good_l2 (pts.length : Int) ls feed parent (zl ord) pts) (fun k => (k : Int)) pts.length (fun b => feedA pts b && decide ((pts.getD b (0, 0)).1 < sumE (onE ls on) pts (·.2) b)) (some (.inr false)) (some (.inl ())) (by omega) (fun k fuel hk => ?_) (fun fuel => ?_)
    · rw [show m_impl_tree_good_l1 ls (tab ls.length (flowP ls on pts)) FUEL 0 = _ from a1, show m_impl_tree_good_l2 (pts.length : Int) ls feed parent (zl ord) pts FUEL 0 = _ from a2]
      cases (List.range ls.length).any fun k => decide ((ls.getD k (0, 0, 0)).2.2 < flowP ls on pts k)
      · cases (List.range pts.length).any fun b => feedA pts b && decide ((pts.getD b (0, 0)).1 < sumE (onE ls on) pts (·.2) b) <;> rfl
      · rfl
    · rw [e_impl_tree_good_l2, m_impl_tree_good_l2s]
      simp only [lt_dec hk, ix_dec hk, cond_true, chk_true, Int.toNat_natCast, iGiven h1 h2 T hk, Option.bind_some, w64_succ (by omega : k < 4611686018427387904)]
      have := (h2.bs k hk).1
      cases hfa : feedA pts k
      · have : ltB (pts.getD k (0, 0)).1 (if false = true then sumE (onE ls on) pts (·.2) k else 0) = false := by
          simp only [Bool.false_eq_true, if_false, ltB, decide_eq_false_iff_not]; omega
        rw [this]; rfl
      · rfl
    · rw [e_impl_tree_good_l2, m_impl_tree_good_l2s]; simp only [nlt_dec, cond_false]
  · rw [e_impl_tree_good_l1, m_impl_tree_good_l1s]
    simp only [tab_len, lt_dec hk, ix_dec hk, cond_true, chk_true, Int.toNat_natCast, tab_get hk, w64_succ (by omega : k < 4611686018427387904)]
    rfl
  · rw [e_impl_tree_good_l1, m_impl_tree_good_l1s]; simp only [tab_len, nlt_dec, cond_false]
end
theorem iNetGood (b : Int) (ls : List Ln) (on : List Bool) (pts : List (Int × Int)) (hp : pts.length ≤ 1048576) : m_impl_NetGood b ls on pts = some (okV b ls on pts && goodP ls on pts) := by
  obtain ⟨r, r1, r2, r3⟩ := iTree b ls on pts hp
  unfold m_impl_NetGood
  rw [r1, Option.bind_some, r2]
  cases hv : radB b ls on pts
  · simp only [gb_false, Option.bind_some, Bool.false_and]
    congr 1
    cases ho : okV b ls on pts
    · rfl
    · cases hg : goodP ls on pts
      · rfl
      · have := good_rad hg
        unfold radB at hv
        rw [ho, this] at hv; cases hv
  · obtain ⟨g1, g2, ord, g3, T⟩ := r3 hv
    have hv' := hv
    unfold radB at hv'
    rw [Bool.and_eq_true] at hv'
    obtain ⟨h1, h2⟩ := okV_iff.1 hv'.1
    have hlp := h2.lp
    subst hlp
    rw [g1, g2, g3, show ifL true ls = ls from rfl, iGood h1 h2 hv'.2 T, hv'.1]
    simp only [gb_true, Option.bind_some, Bool.true_and]
end Go.Proofs.YtekcjnpahohkaaaGreat
namespace Go.Proofs.YtekcjnpahohkaaaGreat
set_option linter.unusedVariables false
set_option linter.unusedSimpArgs false
section
variable {ls : List Ln} {on : List Bool} {pts : List (Int × Int)} (h1 : StOk (pts.length : Int) ls on) (h2 : BusOk (pts.length : Int) ls pts)
include h1 h2
theorem sIslLoad {k : Nat} (hk : k < pts.length) : m_spec_IslandLoad (pts.length : Int) ls on pts (k : Int) = some (sumE (onE ls on) pts (·.2) k) := by
  have hB := h1.net.b1
  unfold m_spec_IslandLoad m_spec_l1In
  have w1 : w64 ((pts.length : Int) - 1) = (pts.length : Int) - 1 := w64_in (by omega) (by omega)
  have c1 : (leB 0 (k : Int) && leB (k : Int) ((pts.length : Int) - 1)) = true := by simp [leB]; omega
  rw [sFed _ ls pts (by omega), okV_iff.2 ⟨h1, h2⟩, Option.bind_some, w1, c1]
  simp only [Bool.not_true, Bool.not_false, gb_true, Option.bind_some, Bool.or_self, cond_false, sReached h1 hk]
  rw [← reach_sum]
  have hl := reachL_len (onE ls on) pts.length k
  have hm : ∀ c ∈ reachL (onE ls on) pts.length k, c < pts.length := fun c hc => by have := (List.mem_filter.1 hc).1; simpa using this
  generalize reachL (onE ls on) pts.length k = l at *
  have hh := loop_all (m_spec_IslandLoad_l1 pts (zl l)) (fun j => (((l.take j).map fun c => (pts.getD c (0, 0)).2).sum, (j : Int))) l.length (some ((l.map fun c => (pts.getD c (0, 0)).2).sum)) (by omega) (fun j fuel hj => ?_) (fun fuel => ?_)
  · rw [show m_spec_IslandLoad_l1 pts (zl l) FUEL (0, 0) = _ from hh]; rfl
  · rw [e_spec_IslandLoad_l1, m_spec_IslandLoad_l1s]
    have hc : l.getD j 0 < pts.length := hm _ (by rw [getD_ge hj]; exact List.getElem_mem hj)
    have hb := sum_sub (l.take j) (fun c => (pts.getD c (0, 0)).2) (fun c hc => (h2.bs c (hm c (List.mem_of_mem_take hc))).2)
    have hlen : (l.take j).length = j := by rw [List.length_take]; omega
    have hx := (h2.bs _ hc).2
    rw [hlen] at hb
    have w2 : w64 (((l.take j).map fun c => (pts.getD c (0, 0)).2).sum + (pts.getD (l.getD j 0) (0, 0)).2) = ((l.take j).map fun c => (pts.getD c (0, 0)).2).sum + (pts.getD (l.getD j 0) (0, 0)).2 := w64_in (by omega) (by omega)
    simp only [zl_len, lt_dec hj, ix_dec hj, cond_true, chk_true, Int.toNat_natCast, zl_get, ix_dec hc, w2, w64_succ (by omega : j < 4611686018427387904)]
    rw [sum_take_succ hj]
  · rw [e_spec_IslandLoad_l1, m_spec_IslandLoad_l1s]; simp only [zl_len, nlt_dec, cond_false, List.take_length]
end
theorem sweep_inv {Pr : Nat → Prop} (E : Ed) : (∀ e ∈ E, Pr e.1 ↔ Pr e.2) → ∀ {s : Nat → Bool}, (∀ c, s c = true → Pr c) → ∀ c, sweep E s c = true → Pr c := by
  induction E with
  | nil => intro _ s h c hc; exact h c hc
  | cons e E ih =>
    intro hE s h c hc
    refine ih (fun x hx => hE x (by simp [hx])) (s := hit s e) (fun c hc => ?_) c hc
    unfold hit at hc
    split at hc
    · rename_i hs
      have he := hE e (by simp)
      have h3 : Pr e.1 ∧ Pr e.2 := by
        rw [Bool.or_eq_true] at hs
        rcases hs with hs | hs
        · exact ⟨h _ hs, he.1 (h _ hs)⟩
        · exact ⟨he.2 (h _ hs), h _ hs⟩
      simp only [Bool.or_eq_true, beq_iff_eq] at hc
      rcases hc with (rfl | rfl) | hc
      · exact h3.1
      · exact h3.2
      · exact h c hc
    · exact h c hc
theorem sweeps_all {E : Ed} {B : Nat} (hE : ∀ e ∈ E, e.1 < B ∧ e.2 < B) (s0 : Nat → Bool) (c : Nat) : sweeps E s0 B c = true ↔ ∃ b, s0 b = true ∧ Cn E b c := by
  have hsh : ∀ k, Shut E (sweeps E s0 k) ∨ k ≤ (List.range B).countP (sweeps E s0 k) := by
    intro k
    induction k with
    | zero => exact .inr (Nat.zero_le _)
    | succ k ih =>
      by_cases hs : Shut E (sweeps E s0 k)
      · left
        have e : sweeps E s0 (k + 1) = sweeps E s0 k := funext (shut_stays hs)
        rw [e]; exact hs
      · rcases ih with ih | ih
        · exact absurd ih hs
        right
        have hm : ∀ c, sweeps E s0 k c = true → sweeps E s0 (k + 1) c = true := fun c hc => sweep_mono E hc
        obtain ⟨e, he, hne⟩ : ∃ e ∈ E, sweeps E s0 k e.1 ≠ sweeps E s0 k e.2 := by
          refine Classical.byContradiction fun hn => hs fun e he => Classical.byContradiction fun h => hn ⟨e, he, h⟩
        have hor : (sweeps E s0 k e.1 || sweeps E s0 k e.2) = true := by
          revert hne; cases sweeps E s0 k e.1 <;> cases sweeps E s0 k e.2 <;> simp
        have hh := sweep_hit E he hor
        have hlt := hE e he
        have := (count_lt (List.range B) hm).2 (by
          cases h1 : sweeps E s0 k e.1
          · exact ⟨e.1, by simpa using hlt.1, hh.1, h1⟩
          · cases h2 : sweeps E s0 k e.2
            · exact ⟨e.2, by simpa using hlt.2, hh.2, h2⟩
            · rw [h1, h2] at hne; exact absurd rfl hne)
        omega
  have hs : Shut E (sweeps E s0 B) := by
    rcases hsh B with h | h
    · exact h
    · intro e he
      have hall : ∀ x ∈ List.range B, sweeps E s0 B x = true := by
        have h3 := List.countP_le_length (p := sweeps E s0 B) (l := List.range B)
        rw [List.length_range] at h3
        exact List.countP_eq_length.1 (by rw [List.length_range]; omega)
      rw [hall e.1 (by simpa using (hE e he).1), hall e.2 (by simpa using (hE e he).2)]
  constructor
  · intro h
    have hinv : ∀ k c, sweeps E s0 k c = true → ∃ b, s0 b = true ∧ Cn E b c := by
      intro k
      induction k with
      | zero => intro c hc; exact ⟨c, hc, .refl _⟩
      | succ k ih =>
        refine sweep_inv E (fun e he => ?_) ih
        constructor
        · rintro ⟨b, h1, h2⟩; exact ⟨b, h1, h2.step (.inl he)⟩
        · rintro ⟨b, h1, h2⟩; exact ⟨b, h1, h2.step (.inr he)⟩
    exact hinv B c h
  · rintro ⟨b, h1, h2⟩
    have hb : ∀ k, sweeps E s0 k b = true := by
      intro k
      induction k with
      | zero => exact h1
      | succ k ih => exact sweep_mono E ih
    induction h2 with
    | refl => exact hb B
    | step _ e ih =>
      rcases e with e | e
      · rw [← hs _ e]; exact ih
      · rw [hs _ e]; exact ih
structure PI (ls : List Ln) (on : List Bool) (pts : List (Int × Int)) (q : Nat → Int) : Prop where
  feed : ∀ b, b < pts.length → feedA pts b = true → q b = -1
  neg : ∀ b, b < pts.length → q b = -1 → feedA pts b = true
  low : ∀ b, b < pts.length → -2 ≤ q b
  hi : ∀ b, b < pts.length → 0 ≤ q b → (q b).toNat < ls.length
  rk : ∃ rk : Nat → Nat, ∀ b, b < pts.length → 0 ≤ q b → ∃ c, Lk ls on (q b).toNat b c ∧ c < pts.length ∧ -2 < q c ∧ rk c < rk b
theorem PI.put {ls : List Ln} {on : List Bool} {pts : List (Int × Int)} {q : Nat → Int} (h : PI ls on pts q) {k b c : Nat} (hb : b < pts.length) (hq : q b = -2) (hl : Lk ls on k b c) (hc : c < pts.length) (hqc : -2 < q c) : PI ls on pts (fun x => if x = b then (k : Int) else q x) := by
  obtain ⟨rk, hrk⟩ := h.rk
  have hcb : c ≠ b := fun e => by subst e; omega
  refine ⟨fun x hx hf => ?_, fun x hx he => ?_, fun x hx => ?_, fun x hx h0 => ?_, fun x => if x = b then rk c + 1 else rk x, fun x hx h0 => ?_⟩
  · try dsimp only
    split
    · rename_i e; subst e; have := h.feed x hx hf; omega
    · exact h.feed x hx hf
  · try dsimp only at he
    split at he
    · omega
    · exact h.neg x hx he
  · try dsimp only
    split
    · omega
    · exact h.low x hx
  · try dsimp only at h0 ⊢
    split at h0
    · rename_i e; rw [if_pos e]; simpa using hl.1
    · rename_i e; rw [if_neg e]; exact h.hi x hx h0
  · try dsimp only at h0 ⊢
    by_cases e : x = b
    · subst e
      rw [if_pos rfl, if_pos rfl]
      refine ⟨c, by simpa using hl, hc, ?_, ?_⟩
      · rw [if_neg hcb]; exact hqc
      · rw [if_neg hcb]; omega
    · rw [if_neg e] at h0 ⊢
      obtain ⟨d, d1, d2, d3, d4⟩ := hrk x hx h0
      have hdb : d ≠ b := fun e2 => by subst e2; omega
      refine ⟨d, d1, d2, ?_, ?_⟩
      · rw [if_neg hdb]; exact d3
      · rw [if_neg hdb, if_neg e]; exact d4
theorem PI.toPar {ls : List Ln} {on : List Bool} {pts : List (Int × Int)} {q : Nat → Int} (h : PI ls on pts q) (hs : ∀ c, c < pts.length → (-2 < q c ↔ fedB (onE ls on) pts c = true)) : ∃ rk, Par ls on pts (fun b => (tab pts.length q).getD b (-1)) rk := by
  obtain ⟨rk, hrk⟩ := h.rk
  have hg : ∀ b, b < pts.length → (tab pts.length q).getD b (-1) = q b := fun b hb => by simp [tab, List.getD, hb]
  refine ⟨rk, ⟨fun b hb hf => ?_, fun b hb => ?_, fun b hb => ?_⟩⟩
  · try dsimp only
    rw [hg b hb]
    have h1 := (hs b hb).2 hf
    by_cases h2 : q b = -1
    · exact .inl (h.neg b hb h2)
    · exact .inr (by omega)
  · have hlt := feedA_lt hb
    try dsimp only
    rw [hg b hlt, h.feed b hlt hb]; omega
  · have hlt : b < pts.length := by
      rcases Nat.lt_or_ge b pts.length with h1 | h1
      · exact h1
      · try dsimp only at hb
        rw [List.getD_eq_getElem?_getD, List.getElem?_eq_none (by rw [tab_len]; exact h1)] at hb; simp at hb
    try dsimp only at hb ⊢
    rw [hg b hlt] at hb ⊢
    obtain ⟨c, c1, c2, c3, c4⟩ := hrk b hlt hb
    exact ⟨c, c1, c2, (hs c c2).1 c3, c4⟩
section
variable {ls : List Ln} {on : List Bool} {pts : List (Int × Int)} (h1 : StOk (pts.length : Int) ls on) (h2 : BusOk (pts.length : Int) ls pts)
include h1 h2
omit h2 in
theorem sPar3 {p0 : List Int} (hp0 : p0.length = pts.length) {q : Nat → Int} (hq : PI ls on pts q) {s0 : Nat → Bool} (hs : ∀ c, c < pts.length → decide (-2 < q c) = s0 c) :
    ∃ q', m_spec_l6Parents_l3 ls on p0 FUEL (tab pts.length q, 0) = some (tab pts.length q') ∧ PI ls on pts q' ∧ ∀ c, c < pts.length → decide (-2 < q' c) = sweep (onE ls on) s0 c := by
  have hll := h1.net.ll; have hl := h1.len
  obtain ⟨s, ⟨q', rfl, r1, r2⟩, hh⟩ := loop_rel (m_spec_l6Parents_l3 ls on p0) (fun k s => ∃ q, s = (tab pts.length q, (k : Int)) ∧ PI ls on pts q ∧ ∀ c, c < pts.length → decide (-2 < q c) = sweep (onL ((ls.zip on).take k)) s0 c) ls.length (fun s => some s.1) (by omega) (by
    rintro k fuel s hk ⟨q, rfl, r1, r2⟩
    rw [e_spec_l6Parents_l3, m_spec_l6Parents_l3s]
    have hln := ln_nat (h1.net.ln k hk)
    simp only [Int.toNat_natCast] at hln
    have hne := (h1.net.ln k hk).ne
    rw [hln.1, hln.2.1] at hne
    have hlt : ltB (k : Int) (on.length : Int) = true := by rw [hl]; exact lt_dec hk
    simp only [hlt, ix_dec hk, ix_dec (show k < on.length by omega), chk_true, cond_true, Int.toNat_natCast, w64_succ (by omega : k < 4611686018427387904)]
    rw [hln.1, hln.2.1]
    obtain ⟨e, he⟩ : ∃ e, edgeE (ls.getD k (0, 0, 0)) = e := ⟨_, rfl⟩
    rw [he] at hln hne ⊢
    have hAB : e.1 ≠ e.2 := by omega
    have xA : ixB (e.1 : Int) p0.length = true := by rw [hp0]; exact ix_dec hln.2.2.1
    have xB : ixB (e.2 : Int) p0.length = true := by rw [hp0]; exact ix_dec hln.2.2.2
    simp only [xA, xB, Int.toNat_natCast, Bool.or_true, chk_true]
    cases ho : on.getD k false
    · simp only [Bool.false_and, cond_false, Option.bind_some]
      exact ⟨_, ⟨q, rfl, r1, by rw [zip_at h1 hk, ho]; simpa using r2⟩, rfl⟩
    · have hlkA : Lk ls on k e.2 e.1 := ⟨hk, ho, .inr he⟩
      have hlkB : Lk ls on k e.1 e.2 := ⟨hk, ho, .inl he⟩
      have sA := r2 e.1 hln.2.2.1
      have sB := r2 e.2 hln.2.2.2
      simp only [Bool.true_and, tab_get hln.2.2.1, tab_get hln.2.2.2]
      by_cases c1 : -2 < q e.1 ∧ q e.2 = -2
      · have g1 : (ltB (-2) (q e.1) && (q e.2 == -2)) = true := by simp [ltB, c1.1, c1.2]
        obtain ⟨q1, hq1⟩ : ∃ q1 : Nat → Int, q1 = fun x => if x = e.2 then (k : Int) else q x := ⟨_, rfl⟩
        have hset : (tab pts.length q).set e.2 (k : Int) = tab pts.length q1 := by rw [hq1]; exact tab_set hln.2.2.2 (if_pos rfl) fun j _ hj => if_neg hj
        have qA : q1 e.1 = q e.1 := by rw [hq1]; exact if_neg hAB
        have qB : q1 e.2 = (k : Int) := by rw [hq1]; exact if_pos rfl
        have g2 : (ltB (-2) (k : Int) && (q e.1 == -2)) = false := by
          have : (q e.1 == -2) = false := by simp; omega
          rw [this, Bool.and_false]
        simp only [g1, cond_true, Option.bind_some, hset, tab_get hln.2.2.1, tab_get hln.2.2.2, qA, qB, g2, cond_false]
        subst hq1
        refine ⟨_, ⟨_, rfl, r1.put hln.2.2.2 c1.2 hlkA hln.2.2.1 c1.1, fun c hc => ?_⟩, rfl⟩
        rw [zip_at h1 hk, ho, if_pos rfl, he, sweep_snoc]
        have hor : (sweep (onL ((ls.zip on).take k)) s0 e.1 || sweep (onL ((ls.zip on).take k)) s0 e.2) = true := by rw [← sA, decide_eq_true c1.1]; rfl
        unfold hit
        rw [if_pos hor]
        try dsimp only
        by_cases hc2 : c = e.2
        · subst hc2; rw [if_pos rfl]; simp; omega
        · rw [if_neg hc2]
          by_cases hc1 : c = e.1
          · subst hc1; simp [c1.1]
          · rw [r2 c hc]; simp [hc1, hc2]
      · have g1 : (ltB (-2) (q e.1) && (q e.2 == -2)) = false := by
          rw [Bool.eq_false_iff]; intro h; simp [ltB] at h; exact c1 h
        simp only [g1, cond_false, Option.bind_some, tab_get hln.2.2.1, tab_get hln.2.2.2]
        by_cases c2 : -2 < q e.2 ∧ q e.1 = -2
        · have g2 : (ltB (-2) (q e.2) && (q e.1 == -2)) = true := by simp [ltB, c2.1, c2.2]
          have hset : (tab pts.length q).set e.1 (k : Int) = tab pts.length (fun x => if x = e.1 then (k : Int) else q x) := tab_set hln.2.2.1 (if_pos rfl) fun j _ hj => if_neg hj
          simp only [g2, cond_true, Option.bind_some, hset]
          refine ⟨_, ⟨_, rfl, r1.put hln.2.2.1 c2.2 hlkB hln.2.2.2 c2.1, fun c hc => ?_⟩, rfl⟩
          rw [zip_at h1 hk, ho, if_pos rfl, he, sweep_snoc]
          have hor : (sweep (onL ((ls.zip on).take k)) s0 e.1 || sweep (onL ((ls.zip on).take k)) s0 e.2) = true := by rw [← sB, decide_eq_true c2.1, Bool.or_true]
          unfold hit
          rw [if_pos hor]
          try dsimp only
          by_cases hc2 : c = e.1
          · subst hc2; rw [if_pos rfl]; simp; omega
          · rw [if_neg hc2]
            by_cases hc1 : c = e.2
            · subst hc1; simp [c2.1]
            · rw [r2 c hc]; simp [hc1, hc2]
        · have g2 : (ltB (-2) (q e.2) && (q e.1 == -2)) = false := by
            rw [Bool.eq_false_iff]; intro h; simp [ltB] at h; exact c2 h
          simp only [g2, cond_false, Option.bind_some]
          refine ⟨_, ⟨q, rfl, r1, fun c hc => ?_⟩, rfl⟩
          rw [zip_at h1 hk, ho, if_pos rfl, he, sweep_snoc, r2 c hc]
          have lA := r1.low e.1 hln.2.2.1
          have lB := r1.low e.2 hln.2.2.2
          unfold hit
          split
          · rename_i hor
            rw [← sA, ← sB, Bool.or_eq_true, decide_eq_true_eq, decide_eq_true_eq] at hor
            have hA : -2 < q e.1 := by omega
            have hB : -2 < q e.2 := by omega
            by_cases hc1 : c = e.1
            · subst hc1; rw [← sA]; simp [hA]
            · by_cases hc2 : c = e.2
              · subst hc2; rw [← sB]; simp [hB]
              · simp [hc1, hc2]
          · rfl) (by
    rintro fuel s ⟨q, rfl, r1, r2⟩
    rw [e_spec_l6Parents_l3, m_spec_l6Parents_l3s]
    have hlt : ltB (ls.length : Int) (on.length : Int) = false := by rw [hl]; exact nlt_dec
    simp only [hlt, cond_false]) (tab pts.length q, 0) ⟨q, rfl, hq, by simpa [sweep, onL] using hs⟩
  refine ⟨q', hh, r1, ?_⟩
  rw [zip_all h1] at r2; exact r2
omit h2 in
theorem sParents : ∃ q, m_spec_l6Parents (pts.length : Int) ls on pts = some (tab pts.length q) ∧ PI ls on pts q ∧ ∀ c, c < pts.length → (-2 < q c ↔ fedB (onE ls on) pts c = true) := by
  have hB := h1.net.b1
  unfold m_spec_l6Parents
  have q0 : PI ls on pts (fun b => if feedA pts b = true then -1 else -2) := by
    have e : ∀ b, (feedA pts b = true ∧ (if feedA pts b = true then (-1 : Int) else -2) = -1) ∨ (feedA pts b = false ∧ (if feedA pts b = true then (-1 : Int) else -2) = -2) := fun b => by cases h : feedA pts b <;> simp
    refine ⟨fun b _ h => if_pos h, fun b _ h => ?_, fun b _ => ?_, fun b _ h => ?_, fun _ => 0, fun b _ h => ?_⟩
    · rcases e b with ⟨g, g2⟩ | ⟨g, g2⟩
      · exact g
      · rw [g2] at h; omega
    · rcases e b with ⟨g, g2⟩ | ⟨g, g2⟩ <;> rw [g2] <;> omega
    · rcases e b with ⟨g, g2⟩ | ⟨g, g2⟩ <;> rw [g2] at h <;> omega
    · rcases e b with ⟨g, g2⟩ | ⟨g, g2⟩ <;> rw [g2] at h <;> omega
  have l1 : m_spec_l6Parents_l1 (pts.length : Int) pts FUEL (([] : List Int), 0) = some (tab pts.length (fun b => if feedA pts b = true then -1 else -2)) := by
    have hh := loop_all (m_spec_l6Parents_l1 (pts.length : Int) pts) (fun k => (tab k (fun b => if feedA pts b = true then -1 else -2), (k : Int))) pts.length (some (tab pts.length (fun b => if feedA pts b = true then -1 else -2))) (by omega) (fun k fuel hk => ?_) (fun fuel => ?_)
    · exact hh
    · rw [e_spec_l6Parents_l1, m_spec_l6Parents_l1s]
      have a1 : ∀ x : Int, apB (tab k (fun b => if feedA pts b = true then -1 else -2)).length ([x] : List Int).length = true := fun x => by rw [tab_len]; simp [apB]; omega
      have e : tab (k + 1) (fun b => if feedA pts b = true then (-1 : Int) else -2) = tab k (fun b => if feedA pts b = true then -1 else -2) ++ [if feedA pts k = true then -1 else -2] := by simp [tab, List.range_succ]
      simp only [lt_dec hk, ix_dec hk, cond_true, chk_true, Int.toNat_natCast, a1, w64_succ (by omega : k < 4611686018427387904)]
      rw [e, show ltB 0 (pts.getD k (0, 0)).1 = feedA pts k from rfl]
      cases feedA pts k <;> rfl
    · rw [e_spec_l6Parents_l1, m_spec_l6Parents_l1s]; simp only [nlt_dec, cond_false]
  rw [l1, Option.bind_some]
  obtain ⟨s, ⟨q, rfl, r1, r2⟩, hh⟩ := loop_rel (m_spec_l6Parents_l2 (pts.length : Int) ls on (tab pts.length (fun b => if feedA pts b = true then -1 else -2))) (fun k s => ∃ q, s = (tab pts.length q, (k : Int)) ∧ PI ls on pts q ∧ ∀ c, c < pts.length → decide (-2 < q c) = sweeps (onE ls on) (feedA pts) k c) pts.length (fun s => some s.1) (by omega) (by
    rintro k fuel s hk ⟨q, rfl, r1, r2⟩
    rw [e_spec_l6Parents_l2, m_spec_l6Parents_l2s]
    obtain ⟨q', a1, a2, a3⟩ := sPar3 h1 (p0 := tab pts.length (fun b => if feedA pts b = true then -1 else -2)) (tab_len _ _) r1 r2
    simp only [lt_dec hk, cond_true, a1, Option.bind_some, w64_succ (by omega : k < 4611686018427387904)]
    exact ⟨_, ⟨q', rfl, a2, a3⟩, rfl⟩) (by
    rintro fuel s ⟨q, rfl, r1, r2⟩
    rw [e_spec_l6Parents_l2, m_spec_l6Parents_l2s]; simp only [nlt_dec, cond_false]) (tab pts.length (fun b => if feedA pts b = true then -1 else -2), 0) ⟨_, rfl, q0, fun c hc => by
      show decide (-2 < if feedA pts c = true then (-1 : Int) else -2) = feedA pts c
      cases feedA pts c <;> rfl⟩
  refine ⟨q, by rw [hh]; rfl, r1, fun c hc => ?_⟩
  have h3 := r2 c hc
  rw [← decide_eq_true_iff (p := -2 < q c), h3, sweeps_all (st_lt h1), fedB_iff]
omit h2 in
theorem sWay {q : Nat → Int} (hq : PI ls on pts q) {b : Nat} {w : List Nat} (hw : Way ls on (fun b => (tab pts.length q).getD b (-1)) b w) : b < pts.length → ∀ (fuel : Nat) (out : List Int), w.length < fuel → out.length + w.length ≤ 1000 → m_spec_l6Way_l1 (pts.length : Int) ls (tab pts.length q) fuel ((b : Int), out) = some (zl w ++ out) := by
  have hg : ∀ b, b < pts.length → (tab pts.length q).getD b (-1) = q b := fun b hb => by simp [tab, List.getD, hb]
  have hll := h1.net.ll
  induction hw with
  | @top b h =>
    intro hb fuel out hf ho
    obtain ⟨g, rfl⟩ : ∃ g, fuel = g + 1 := ⟨fuel - 1, by omega⟩
    rw [e_spec_l6Way_l1, m_spec_l6Way_l1s]
    try dsimp only at h
    rw [hg b hb] at h
    have : leB 0 (q b) = false := by simp only [leB, decide_eq_false_iff_not]; omega
    simp only [tab_len, ix_dec hb, chk_true, Int.toNat_natCast, tab_get hb, this, cond_false]
    rfl
  | @step b c w h hlk _ ih =>
    intro hb fuel out hf ho
    obtain ⟨g, rfl⟩ : ∃ g, fuel = g + 1 := ⟨fuel - 1, by omega⟩
    rw [e_spec_l6Way_l1, m_spec_l6Way_l1s]
    try dsimp only at h hlk ih ⊢
    rw [hg b hb] at h hlk ⊢
    rw [List.length_append, List.length_singleton] at hf ho
    obtain ⟨rk, hrk⟩ := hq.rk
    obtain ⟨c', k1, k2, _⟩ := hrk b hb h
    obtain rfl := edge_inj hlk k1
    have hge : leB 0 (q b) = true := by simpa [leB] using h
    obtain ⟨j, hj⟩ : ∃ j : Nat, q b = (j : Int) := ⟨(q b).toNat, by omega⟩
    have hne := (h1.net.ln j (by rw [hj] at hlk; simpa using hlk.1)).ne
    have hlj : Lk ls on j b c := by rw [hj] at hlk; simpa using hlk
    have hln := ln_nat (h1.net.ln j hlj.1)
    simp only [Int.toNat_natCast] at hln
    have ha : apB ([(q b)] : List Int).length out.length = true := by simp [apB]; omega
    have w1 : w64 ((ls.length : Int) - 1) = (ls.length : Int) - 1 := w64_in (by omega) (by omega)
    have c1 : (leB 0 (j : Int) && leB (j : Int) ((ls.length : Int) - 1)) = true := by have := hlj.1; simp [leB]; omega
    have hoe : m_spec_OtherEnd (pts.length : Int) ls (q b) (b : Int) = some (c : Int) := by
      unfold m_spec_OtherEnd m_spec_l1In
      rw [sNet, netV_iff.2 h1.net, hj, w1, c1]
      simp only [Option.bind_some, Bool.not_true, Bool.not_false, gb_true, Bool.or_self, cond_false, ix_dec hlj.1, chk_true, Int.toNat_natCast]
      rw [hln.1, hln.2.1] at hne ⊢
      rcases hlj.2.2 with e | e
      · rw [e]; simp
      · rw [e] at hne ⊢
        have : (((c : Nat) : Int) == ((b : Nat) : Int)) = false := by simpa using hne
        simp [this]
    simp only [tab_len, ix_dec hb, chk_true, Int.toNat_natCast, tab_get hb, hge, cond_true, ha, hoe, Option.bind_some]
    rw [ih k2 g _ (by omega) (by simp; omega), hj, Int.toNat_natCast]
    simp [zl]
theorem sFlows (hr : radP ls on pts = true) : m_spec_l7Flows (pts.length : Int) ls on pts = some (tab ls.length (flowP ls on pts)) := by
  have hll := h1.net.ll; have hB := h1.net.b1; have hl := h1.len
  obtain ⟨q, q1, q2, q3⟩ := sParents h1
  obtain ⟨rk, P⟩ := q2.toPar q3
  have hg : ∀ b, b < pts.length → (tab pts.length q).getD b (-1) = q b := fun b hb => by simp [tab, List.getD, hb]
  have hways : ∀ b, ∃ w, Way ls on (fun b => (tab pts.length q).getD b (-1)) b w := fun b => P.way (rk b) b (Nat.le_refl _)
  obtain ⟨wy, hwy⟩ : ∃ wy : Nat → List Nat, ∀ b, Way ls on (fun b => (tab pts.length q).getD b (-1)) b (wy b) := ⟨fun b => Classical.choose (hways b), fun b => Classical.choose_spec (hways b)⟩
  have hwlt : ∀ b, ∀ k ∈ wy b, k < ls.length := by
    intro b k hk
    obtain ⟨d, d1, d2, _⟩ := Way.mem P (hwy b) k hk
    obtain ⟨c, hc, _⟩ := P.line d d1
    rw [← d2]; exact hc.1
  have hwnd : ∀ b, (wy b).Nodup := fun b => Way.nodup P (hwy b)
  have hwl : ∀ b, (wy b).length ≤ 10 := fun b => by have := nodup_len ls.length (wy b) (hwnd b) (hwlt b); omega
  have hf2 : ∀ c, c < pts.length → 0 ≤ (pts.getD c (0, 0)).2 ∧ (pts.getD c (0, 0)).2 ≤ 999 := fun c hc => (h2.bs c hc).2
  have hbd : ∀ x k, k ≤ pts.length → 0 ≤ ((List.range k).map fun b => if x ∈ wy b then (pts.getD b (0, 0)).2 else 0).sum ∧ ((List.range k).map fun b => if x ∈ wy b then (pts.getD b (0, 0)).2 else 0).sum ≤ 999 * k := by
    intro x k
    induction k with
    | zero => intro _; simp
    | succ k ih =>
      intro hk
      have i1 := ih (by omega)
      have i2 := hf2 k (by omega)
      rw [List.range_succ, List.map_append, List.sum_append]
      simp only [List.map_cons, List.map_nil, List.sum_cons, List.sum_nil]
      split <;> omega
  unfold m_spec_l7Flows
  have m1 : mkB (on.length : Int) = true := by simp [mkB]; omega
  rw [m1, chk_true, q1, Option.bind_some, hl]
  have hh := loop_all (m_spec_l7Flows_l1 (pts.length : Int) ls (tab pts.length q) on pts) (fun k => (tab ls.length (fun x => ((List.range k).map fun b => if x ∈ wy b then (pts.getD b (0, 0)).2 else 0).sum), (k : Int))) pts.length (some (tab ls.length (flowP ls on pts))) (by omega) (fun k fuel hk => ?_) (fun fuel => ?_)
  · have e0 : tab ls.length (fun x => ((List.range 0).map fun b => if x ∈ wy b then (pts.getD b (0, 0)).2 else 0).sum) = List.replicate ls.length 0 := by rw [← tab_0]; rfl
    rw [e0] at hh
    rw [show m_spec_l7Flows_l1 (pts.length : Int) ls (tab pts.length q) on pts FUEL (List.replicate ls.length 0, 0) = _ from hh]; rfl
  · rw [e_spec_l7Flows_l1, m_spec_l7Flows_l1s]
    have hway : m_spec_l6Way (pts.length : Int) ls (tab pts.length q) (k : Int) = some (zl (wy k)) := by
      unfold m_spec_l6Way
      have := hwl k
      rw [sWay h1 q2 (hwy k) hk FUEL [] (fuel_gt (by omega)) (by simp; omega)]; simp
    have i2 := hf2 k hk
    have hin := loop_all (m_spec_l7Flows_l2 on pts (tab ls.length (fun x => ((List.range k).map fun b => if x ∈ wy b then (pts.getD b (0, 0)).2 else 0).sum), (k : Int)) (zl (wy k))) (fun j => (tab ls.length (fun x => ((List.range k).map fun b => if x ∈ wy b then (pts.getD b (0, 0)).2 else 0).sum + if x ∈ (wy k).take j then (pts.getD k (0, 0)).2 else 0), (j : Int))) (wy k).length (some (tab ls.length (fun x => ((List.range k).map fun b => if x ∈ wy b then (pts.getD b (0, 0)).2 else 0).sum + if x ∈ wy k then (pts.getD k (0, 0)).2 else 0))) (by have := hwl k; omega) (fun j fuel hj => ?_) (fun fuel => ?_)
    · have e0 : tab ls.length (fun x => ((List.range k).map fun b => if x ∈ wy b then (pts.getD b (0, 0)).2 else 0).sum + if x ∈ (wy k).take 0 then (pts.getD k (0, 0)).2 else 0) = tab ls.length (fun x => ((List.range k).map fun b => if x ∈ wy b then (pts.getD b (0, 0)).2 else 0).sum) := tab_congr fun x _ => by simp
      rw [e0] at hin
      simp only [lt_dec hk, cond_true, hway, Option.bind_some, w64_succ (by omega : k < 4611686018427387904)]
      rw [show m_spec_l7Flows_l2 on pts (tab ls.length (fun x => ((List.range k).map fun b => if x ∈ wy b then (pts.getD b (0, 0)).2 else 0).sum), (k : Int)) (zl (wy k)) FUEL (tab ls.length (fun x => ((List.range k).map fun b => if x ∈ wy b then (pts.getD b (0, 0)).2 else 0).sum), 0) = _ from hin, Option.bind_some]
      congr 2
      refine tab_congr fun x _ => ?_
      rw [List.range_succ, List.map_append, List.sum_append]; simp
    · rw [e_spec_l7Flows_l2, m_spec_l7Flows_l2s]
      have hwj : (wy k).getD j 0 < ls.length := hwlt k _ (by rw [getD_ge hj]; exact List.getElem_mem hj)
      have hwo : (wy k).getD j 0 < on.length := by omega
      have hnot : (wy k).getD j 0 ∉ (wy k).take j := by
        intro hm
        obtain ⟨i, hi, he⟩ := List.mem_iff_getElem.1 hm
        rw [List.length_take] at hi
        rw [List.getElem_take, getD_ge hj] at he
        have hnd := hwnd k
        rw [List.nodup_iff_pairwise_ne, List.pairwise_iff_getElem] at hnd
        exact hnd i j (by omega) hj (by omega) he
      have b1 := hbd ((wy k).getD j 0) k (by omega)
      have ws : w64 (((List.range k).map fun b => if (wy k).getD j 0 ∈ wy b then (pts.getD b (0, 0)).2 else 0).sum + (if (wy k).getD j 0 ∈ (wy k).take j then (pts.getD k (0, 0)).2 else 0) + (pts.getD k (0, 0)).2) = ((List.range k).map fun b => if (wy k).getD j 0 ∈ wy b then (pts.getD b (0, 0)).2 else 0).sum + (pts.getD k (0, 0)).2 := by
        rw [if_neg hnot, Int.add_zero]; exact w64_in (by omega) (by omega)
      simp only [zl_len, lt_dec hj, ix_dec hj, cond_true, chk_true, Int.toNat_natCast, zl_get, ix_dec hwo, ix_dec hk, tab_get hwj, ws, w64_succ (by have := hwl k; omega : j < 4611686018427387904)]
      congr 2
      refine tab_set hwj ?_ fun x hx hne => ?_
      · have : (wy k).getD j 0 ∈ (wy k).take (j + 1) := by rw [List.take_succ_eq_append_getElem hj, getD_ge hj]; exact List.mem_append_right _ (List.mem_singleton_self _)
        exact congrArg (fun z => ((List.range k).map fun b => if (wy k).getD j 0 ∈ wy b then (pts.getD b (0, 0)).2 else 0).sum + z) (if_pos this)
      · have : x ∈ (wy k).take (j + 1) ↔ x ∈ (wy k).take j := by
          rw [List.take_succ_eq_append_getElem hj, List.mem_append, List.mem_singleton]
          constructor
          · rintro (h | h)
            · exact h
            · exact absurd (h.trans (getD_ge hj).symm) hne
          · exact .inl
        simp only [this]
    · rw [e_spec_l7Flows_l2, m_spec_l7Flows_l2s]; simp only [zl_len, nlt_dec, cond_false, List.take_length]
  · rw [e_spec_l7Flows_l1, m_spec_l7Flows_l1s]
    simp only [nlt_dec, cond_false]
    congr 1
    refine tab_congr fun x hx => sum_same fun b hb => ?_
    cases hf : fedB (onE ls on) pts b
    · have hn : x ∉ wy b := by
        have hwb := hwy b
        generalize wy b = w at hwb
        cases hwb with
        | top _ => simp
        | step u1 u2 _ => rw [Up.fed P ⟨u1, u2⟩] at hf; cases hf
      simp [hn]
    · have := Way.iff P hl hr (hwy b) hb hf (k := x)
      cases hx2 : fedB (onE ls (on.set x false)) pts b
      · rw [if_pos (this.2 hx2)]; simp
      · rw [if_neg fun hm => by have := this.1 hm; rw [hx2] at this; cases this]; simp
theorem sGood (hr : radP ls on pts = true) : m_spec_l7Good (pts.length : Int) ls on pts = some (goodP ls on pts) := by
  have hll := h1.net.ll; have hB := h1.net.b1; have hl := h1.len
  unfold m_spec_l7Good goodP
  rw [hr]
  have a1 := loop_find (m_spec_l7Good_l1 (pts.length : Int) ls on pts) (fun k => (k : Int)) pts.length (fun b => feedA pts b && decide ((pts.getD b (0, 0)).1 < sumE (onE ls on) pts (·.2) b)) (some (.inr false)) (some (.inl ())) (by omega) (fun k fuel hk => ?_) (fun fuel => ?_)
  · rw [show m_spec_l7Good_l1 (pts.length : Int) ls on pts FUEL 0 = _ from a1]
    have a2 : m_spec_l7Over (pts.length : Int) ls on pts = some (zl ((List.range ls.length).filter fun k => decide ((ls.getD k (0, 0, 0)).2.2 < flowP ls on pts k))) := by
      unfold m_spec_l7Over
      rw [sFlows h1 h2 hr, Option.bind_some]
      have hh := loop_filter (m_spec_l7Over_l1 ls on (tab ls.length (flowP ls on pts))) ls.length (fun k => decide ((ls.getD k (0, 0, 0)).2.2 < flowP ls on pts k)) some (by omega) (fun k fuel l hk ha => ?_) (fun fuel l => ?_)
      · rw [hh]; rfl
      · rw [e_spec_l7Over_l1, m_spec_l7Over_l1s]
        have hlt : ltB (k : Int) (on.length : Int) = true := by rw [hl]; exact lt_dec hk
        simp only [hlt, cond_true, tab_len, ix_dec hk, chk_true, Int.toNat_natCast, tab_get hk, ha, w64_succ (by omega : k < 4611686018427387904)]
        show Option.bind (bif decide ((ls.getD k (0, 0, 0)).2.2 < flowP ls on pts k) then _ else _) _ = _
        cases decide ((ls.getD k (0, 0, 0)).2.2 < flowP ls on pts k) <;> rfl
      · rw [e_spec_l7Over_l1, m_spec_l7Over_l1s]
        have hlt : ltB (ls.length : Int) (on.length : Int) = false := by rw [hl]; exact nlt_dec
        simp only [hlt, cond_false]
    rw [a2]
    have a3 : (((zl ((List.range ls.length).filter fun k => decide ((ls.getD k (0, 0, 0)).2.2 < flowP ls on pts k))).length : Int) == 0) = !(List.range ls.length).any fun k => decide ((ls.getD k (0, 0, 0)).2.2 < flowP ls on pts k) := by
      rw [Bool.eq_iff_iff, zl_len, beq_iff_eq, Bool.not_eq_true', List.any_eq_false]
      constructor
      · intro h k hk hc
        have := List.length_pos_of_mem (List.mem_filter (p := fun k => decide ((ls.getD k (0, 0, 0)).2.2 < flowP ls on pts k)).2 ⟨hk, hc⟩)
        omega
      · intro h
        have : (List.range ls.length).filter (fun k => decide ((ls.getD k (0, 0, 0)).2.2 < flowP ls on pts k)) = [] := List.filter_eq_nil_iff.2 h
        rw [this]; rfl
    rw [Bool.true_and]
    cases (List.range pts.length).any fun b => feedA pts b && decide ((pts.getD b (0, 0)).1 < sumE (onE ls on) pts (·.2) b)
    · simp only [cond_false, Option.bind_some, Sum.elim_inl, a3, Bool.not_false, Bool.and_true]
    · simp only [cond_true, Option.bind_some, Sum.elim_inr, Bool.not_true, Bool.and_false]
  · rw [e_spec_l7Good_l1, m_spec_l7Good_l1s]
    simp only [lt_dec hk, ix_dec hk, cond_true, chk_true, Int.toNat_natCast, sIslLoad h1 h2 hk, Bool.or_true, w64_succ (by omega : k < 4611686018427387904)]
    rw [show ltB 0 (pts.getD k (0, 0)).1 = feedA pts k from rfl]
    cases feedA pts k <;> rfl
  · rw [e_spec_l7Good_l1, m_spec_l7Good_l1s]; simp only [nlt_dec, cond_false]
end
theorem sNetGood (b : Int) (ls : List Ln) (on : List Bool) (pts : List (Int × Int)) (hp : pts.length ≤ 1048576) : m_spec_NetGood b ls on pts = some (okV b ls on pts && goodP ls on pts) := by
  unfold m_spec_NetGood
  rw [sRadial b ls on pts hp, Option.bind_some]
  cases hv : radB b ls on pts
  · simp only [gb_false, Option.bind_some, Bool.false_and]
    congr 1
    cases ho : okV b ls on pts
    · rfl
    · cases hg : goodP ls on pts
      · rfl
      · have := good_rad hg
        unfold radB at hv
        rw [ho, this] at hv; cases hv
  · have hv' := hv
    unfold radB at hv'
    rw [Bool.and_eq_true] at hv'
    obtain ⟨h1, h2⟩ := okV_iff.1 hv'.1
    have hlp := h2.lp
    subst hlp
    rw [sGood h1 h2 hv'.2, hv'.1]
    simp only [gb_true, Option.bind_some, Bool.true_and]
end Go.Proofs.YtekcjnpahohkaaaGreat
namespace Go.Proofs.YtekcjnpahohkaaaGreat
set_option linter.unusedVariables false
set_option linter.unusedSimpArgs false
set_option linter.unusedSectionVars false
theorem swap_sum (E : Ed) (pts : List (Int × Int)) (f : Int × Int → Int) (p : Nat → Bool) (hl : ∀ c, c < pts.length → labs E c < 8) : ∀ k, k ≤ pts.length → ((List.range 8).map fun j => if p j = true then sumK E pts f k j else 0).sum = ((List.range k).map fun c => if p (labs E c) = true then f (pts.getD c (0, 0)) else 0).sum
  | 0, _ => by
    rw [sum_zero fun j _ => by rw [sumK_0]; simp]; rfl
  | k + 1, hk => by
    have ih := swap_sum E pts f p hl k (by omega)
    have hlk := hl k (by omega)
    rw [sum_zip (g := fun j => if p j = true then sumK E pts f k j else 0) (h := fun j => if j = labs E k then (if p j = true then f (pts.getD k (0, 0)) else 0) else 0) (fun j _ => by
      rw [sumK_s]
      by_cases h1 : p j = true
      · rw [if_pos h1, if_pos h1]
        by_cases h2 : labs E k = j
        · rw [if_pos h2, if_pos h2.symm, if_pos h1]
        · rw [if_neg h2, if_neg (Ne.symm h2)]
      · rw [if_neg h1, if_neg h1]; simp [h1]), ih, sum_one (fun j => if p j = true then f (pts.getD k (0, 0)) else 0) hlk, List.range_succ, List.map_append, List.sum_append]
    simp
theorem servP_eq {E : Ed} {pts : List (Int × Int)} (hl : ∀ c, c < pts.length → labs E c < 8) : ((List.range 8).map fun j => if leB (sumK E pts (·.2) pts.length j) (sumK E pts (·.1) pts.length j) = true then sumK E pts (·.2) pts.length j else 0).sum = servP E pts := by
  rw [swap_sum E pts (·.2) (fun j => leB (sumK E pts (·.2) pts.length j) (sumK E pts (·.1) pts.length j)) hl pts.length (Nat.le_refl _)]
  unfold servP
  refine sum_same fun b hb => ?_
  rw [sumE_K, sumE_K]
  by_cases h : sumK E pts (·.2) pts.length (labs E b) ≤ sumK E pts (·.1) pts.length (labs E b)
  · rw [if_pos h, if_pos (show leB _ _ = true from decide_eq_true h)]
  · rw [if_neg h, if_neg (by simp only [leB, decide_eq_true_eq]; exact h)]
theorem labs_lt8 {b : Int} {ls : List Ln} {pts : List (Int × Int)} (h : BusOk b ls pts) (E : Ed) : ∀ c, c < pts.length → labs E c < 8 := by
  intro c hc
  have h1 := (labs_fix E).1 c
  have := (b_len h).1
  omega
theorem iServed {b : Int} {ls : List Ln} {on : List Bool} {pts : List (Int × Int)} (h1 : StOk b ls on) (h2 : BusOk b ls pts) : m_impl_servedLoad b ls on pts = some (servP (onE ls on) pts) := by
  have hl8 := labs_lt8 h2 (onE ls on)
  obtain ⟨b1, b2⟩ := b_len h2
  unfold m_impl_servedLoad
  rw [iSums h1 h2, Option.bind_some, ← servP_eq hl8]
  have hb : ∀ j, 0 ≤ sumK (onE ls on) pts (·.2) pts.length j ∧ sumK (onE ls on) pts (·.2) pts.length j ≤ 7992 := fun j => by
    have := sumK_bound (onE ls on) pts (·.2) (fun c hc => (h2.bs c hc).2) j pts.length (Nat.le_refl _); omega
  generalize hS : sumK (onE ls on) pts (·.2) pts.length = S at *
  generalize sumK (onE ls on) pts (·.1) pts.length = F at *
  have hbd : ∀ k, 0 ≤ ((List.range k).map fun j => if leB (S j) (F j) = true then S j else 0).sum ∧ ((List.range k).map fun j => if leB (S j) (F j) = true then S j else 0).sum ≤ 7992 * k := by
    intro k
    induction k with
    | zero => simp
    | succ k ih =>
      have := hb k
      rw [List.range_succ, List.map_append, List.sum_append]
      simp only [List.map_cons, List.map_nil, List.sum_cons, List.sum_nil]
      split <;> omega
  have hh := loop_all (m_impl_servedLoad_l1 (t16 F S)) (fun k => (((List.range k).map fun j => if leB (S j) (F j) = true then S j else 0).sum, (k : Int))) 8 (some (((List.range 8).map fun j => if leB (S j) (F j) = true then S j else 0).sum)) (by omega) (fun k fuel hk => ?_) (fun fuel => ?_)
  · rw [show m_impl_servedLoad_l1 (t16 F S) FUEL (0, 0) = _ from hh]; rfl
  · rw [e_impl_servedLoad_l1, m_impl_servedLoad_l1s]
    have i1 := hbd k
    have i2 := hb k
    have w1 : w64 (((List.range k).map fun j => if leB (S j) (F j) = true then S j else 0).sum + S k) = ((List.range k).map fun j => if leB (S j) (F j) = true then S j else 0).sum + S k := w64_in (by omega) (by omega)
    have hlt : ltB (k : Int) 8 = true := decide_eq_true (by omega)
    dsimp only [t16]
    simp only [hlt, ix_dec hk, cond_true, chk_true, Int.toNat_natCast, get8 _ hk, w1, w64_succ (by omega : k < 4611686018427387904)]
    have e : ((List.range (k + 1)).map fun j => if leB (S j) (F j) = true then S j else 0).sum = ((List.range k).map fun j => if leB (S j) (F j) = true then S j else 0).sum + (if leB (S k) (F k) = true then S k else 0) := by
      rw [List.range_succ, List.map_append, List.sum_append]; simp
    rw [e]
    cases leB (S k) (F k) <;> simp only [cond_false, cond_true, Option.bind_some, Bool.false_eq_true, if_false, if_true, Int.add_zero, Int.natCast_add, Int.natCast_one, Int.ofNat_one]
  · rw [e_impl_servedLoad_l1, m_impl_servedLoad_l1s]; rfl
theorem servP_bound {b : Int} {ls : List Ln} {pts : List (Int × Int)} (h : BusOk b ls pts) (E : Ed) : 0 ≤ servP E pts ∧ servP E pts ≤ 7992 := by
  obtain ⟨b1, b2⟩ := b_len h
  have : ∀ k, k ≤ pts.length → 0 ≤ ((List.range k).map fun b => if sumE E pts (·.2) b ≤ sumE E pts (·.1) b then (pts.getD b (0, 0)).2 else 0).sum ∧ ((List.range k).map fun b => if sumE E pts (·.2) b ≤ sumE E pts (·.1) b then (pts.getD b (0, 0)).2 else 0).sum ≤ 999 * k := by
    intro k
    induction k with
    | zero => intro _; simp
    | succ k ih =>
      intro hk
      have i1 := ih (by omega)
      have i2 := (h.bs k (by omega)).2
      rw [List.range_succ, List.map_append, List.sum_append]
      simp only [List.map_cons, List.map_nil, List.sum_cons, List.sum_nil]
      split <;> omega
  have h2 := this pts.length (Nat.le_refl _)
  unfold servP
  omega
theorem sServed {ls : List Ln} {on : List Bool} {pts : List (Int × Int)} (h1 : StOk (pts.length : Int) ls on) (h2 : BusOk (pts.length : Int) ls pts) : m_spec_ServedLoad (pts.length : Int) ls on pts = some (servP (onE ls on) pts) := by
  obtain ⟨b1, b2⟩ := b_len h2
  unfold m_spec_ServedLoad
  rw [sFed _ ls pts (by omega), okV_iff.2 ⟨h1, h2⟩, Option.bind_some, cond_true]
  have hbd : ∀ k, k ≤ pts.length → 0 ≤ ((List.range k).map fun b => if sumE (onE ls on) pts (·.2) b ≤ sumE (onE ls on) pts (·.1) b then (pts.getD b (0, 0)).2 else 0).sum ∧ ((List.range k).map fun b => if sumE (onE ls on) pts (·.2) b ≤ sumE (onE ls on) pts (·.1) b then (pts.getD b (0, 0)).2 else 0).sum ≤ 999 * k := by
    intro k
    induction k with
    | zero => intro _; simp
    | succ k ih =>
      intro hk
      have i1 := ih (by omega)
      have i2 := (h2.bs k (by omega)).2
      rw [List.range_succ, List.map_append, List.sum_append]
      simp only [List.map_cons, List.map_nil, List.sum_cons, List.sum_nil]
      split <;> omega
  have hh := loop_all (m_spec_ServedLoad_l1 (pts.length : Int) ls on pts) (fun k => (((List.range k).map fun b => if sumE (onE ls on) pts (·.2) b ≤ sumE (onE ls on) pts (·.1) b then (pts.getD b (0, 0)).2 else 0).sum, (k : Int))) pts.length (some (servP (onE ls on) pts)) (by omega) (fun k fuel hk => ?_) (fun fuel => ?_)
  · rw [show m_spec_ServedLoad_l1 (pts.length : Int) ls on pts FUEL (0, 0) = _ from hh]; rfl
  · rw [e_spec_ServedLoad_l1, m_spec_ServedLoad_l1s]
    have i1 := hbd k (by omega)
    have i2 := (h2.bs k hk).2
    have w1 : w64 (((List.range k).map fun b => if sumE (onE ls on) pts (·.2) b ≤ sumE (onE ls on) pts (·.1) b then (pts.getD b (0, 0)).2 else 0).sum + (pts.getD k (0, 0)).2) = ((List.range k).map fun b => if sumE (onE ls on) pts (·.2) b ≤ sumE (onE ls on) pts (·.1) b then (pts.getD b (0, 0)).2 else 0).sum + (pts.getD k (0, 0)).2 := w64_in (by omega) (by omega)
    simp only [lt_dec hk, cond_true, sIslFeed h1 h2 hk, sIslLoad h1 h2 hk, Option.bind_some, ix_dec hk, chk_true, Int.toNat_natCast, w1, w64_succ (by omega : k < 4611686018427387904)]
    have e : ((List.range (k + 1)).map fun b => if sumE (onE ls on) pts (·.2) b ≤ sumE (onE ls on) pts (·.1) b then (pts.getD b (0, 0)).2 else 0).sum = ((List.range k).map fun b => if sumE (onE ls on) pts (·.2) b ≤ sumE (onE ls on) pts (·.1) b then (pts.getD b (0, 0)).2 else 0).sum + (if sumE (onE ls on) pts (·.2) k ≤ sumE (onE ls on) pts (·.1) k then (pts.getD k (0, 0)).2 else 0) := by
      rw [List.range_succ, List.map_append, List.sum_append]; simp
    rw [e]
    by_cases h : sumE (onE ls on) pts (·.2) k ≤ sumE (onE ls on) pts (·.1) k
    · rw [show leB (sumE (onE ls on) pts (·.2) k) (sumE (onE ls on) pts (·.1) k) = true from decide_eq_true h, if_pos h]; simp only [cond_true, Option.bind_some, Int.natCast_add, Int.natCast_one]
    · rw [show leB (sumE (onE ls on) pts (·.2) k) (sumE (onE ls on) pts (·.1) k) = false from decide_eq_false h, if_neg h]; simp only [cond_false, Option.bind_some, Int.add_zero, Int.natCast_add, Int.natCast_one]
  · rw [e_spec_ServedLoad_l1, m_spec_ServedLoad_l1s]; simp only [nlt_dec, cond_false]; rfl
section
variable {a c : List Bool} (hl : a.length = c.length) (ha : a.length ≤ 1048576)
include hl ha
theorem iChanges : m_impl_Changes a c = some (zl (chgs a c)) := by
  unfold m_impl_Changes
  have e : ((a.length : Int) != (c.length : Int)) = false := by rw [hl]; simp
  rw [e]
  have hh := loop_filter (m_impl_Changes_l1 a c) a.length (fun k => a.getD k false != c.getD k false) some (by omega) (fun k fuel l hk hp => ?_) (fun fuel l => ?_)
  · rw [hh]; rfl
  · rw [e_impl_Changes_l1, m_impl_Changes_l1s]
    simp only [lt_dec hk, ix_dec hk, ix_dec (show k < c.length by omega), cond_true, chk_true, Int.toNat_natCast, hp, w64_succ (by omega : k < 4611686018427387904)]
    cases a.getD k false != c.getD k false <;> rfl
  · rw [e_impl_Changes_l1, m_impl_Changes_l1s]; simp only [nlt_dec, cond_false]
theorem sChanges : m_spec_Changes a c = some (zl (chgs a c)) := by
  unfold m_spec_Changes
  have e : ((a.length : Int) == (c.length : Int)) = true := by rw [hl]; simp
  have hh := loop_filter (m_spec_Changes_l1 a c) a.length (fun k => a.getD k false != c.getD k false) some (by omega) (fun k fuel l hk hp => ?_) (fun fuel l => ?_)
  · rw [hh]; rfl
  · rw [e_spec_Changes_l1, m_spec_Changes_l1s]
    simp only [lt_dec hk, e, Bool.and_self, ix_dec hk, ix_dec (show k < c.length by omega), cond_true, chk_true, Int.toNat_natCast, hp, w64_succ (by omega : k < 4611686018427387904)]
    cases a.getD k false != c.getD k false <;> rfl
  · rw [e_spec_Changes_l1, m_spec_Changes_l1s]; simp only [nlt_dec, Bool.false_and, cond_false]
end
theorem chgs_len (a c : List Bool) : (chgs a c).length ≤ a.length := by
  unfold chgs
  have := List.length_filter_le (fun k => a.getD k false != c.getD k false) (List.range a.length)
  rwa [List.length_range] at this
theorem pow_shl {n : Nat} (h : n ≤ 10) : bitsShl .i64 1 (n : Int) = ((2 ^ n : Nat) : Int) := by
  have : n = 0 ∨ n = 1 ∨ n = 2 ∨ n = 3 ∨ n = 4 ∨ n = 5 ∨ n = 6 ∨ n = 7 ∨ n = 8 ∨ n = 9 ∨ n = 10 := by omega
  rcases this with rfl | rfl | rfl | rfl | rfl | rfl | rfl | rfl | rfl | rfl | rfl <;> decide
theorem shr_nat {x k : Nat} (hk : k ≤ 64) : bitsShr .i64 (x : Int) (k : Int) = ((x >>> k : Nat) : Int) := by
  unfold bitsShr
  rw [show min (k : Int).toNat (IntKind.bits .i64) = k by rw [Int.toNat_natCast]; exact Nat.min_eq_left hk, Nat.shiftRight_eq_div_pow]
  rw [Int.fdiv_eq_ediv_of_nonneg _ (by exact Int.le_of_lt (Int.pow_pos (by decide)))]
  norm_cast
theorem and_one {x : Nat} (h : x < 4611686018427387904) : bitsAnd .i64 (x : Int) 1 = ((x % 2 : Nat) : Int) := by
  have e : bitsAnd .i64 (x : Int) 1 = w64 ((BitVec.ofInt 64 (x : Int) &&& BitVec.ofInt 64 1).toNat : Int) := rfl
  have h1 : (BitVec.ofInt 64 (x : Int)).toNat = x := by rw [BitVec.ofInt_natCast, BitVec.toNat_ofNat, Nat.mod_eq_of_lt (by omega)]
  have h2 : (BitVec.ofInt 64 1).toNat = 1 := by decide
  rw [e, BitVec.toNat_and, h1, h2, Nat.and_one_is_mod, w64_in (by omega) (by omega)]
theorem bit_val {x k : Nat} (hx : x < 4611686018427387904) (hk : k ≤ 64) : (bitsAnd .i64 (bitsShr .i64 (x : Int) (k : Int)) 1 == 1) = x.testBit k := by
  have h1 : x >>> k ≤ x := Nat.shiftRight_le x k
  rw [shr_nat hk, and_one (by omega)]
  rw [Nat.testBit, Nat.one_and_eq_mod_two]
  rcases Nat.mod_two_eq_zero_or_one (x >>> k) with h | h <;> rw [h] <;> rfl
theorem iStateOf {x n : Nat} (hx : x < 4611686018427387904) (hn : n ≤ 10) : m_impl_stateOf (x : Int) (n : Int) = some (stOf n x) := by
  unfold m_impl_stateOf
  have hm : mkB (n : Int) = true := by simp [mkB]; omega
  rw [hm, chk_true, Int.toNat_natCast]
  have hh := loop_all (m_impl_stateOf_l1 (x : Int) (n : Int)) (fun k => (mix n k (fun i => x.testBit i) (fun _ => false), (k : Int))) n (some (stOf n x)) (by omega) (fun k fuel hk => ?_) (fun fuel => ?_)
  · have e : mix n 0 (fun i => x.testBit i) (fun _ => false) = List.replicate n false := by
      apply List.ext_getElem (by simp [mix])
      intro i h1 h2
      simp [mix]
    rw [e] at hh
    rw [show m_impl_stateOf_l1 (x : Int) (n : Int) FUEL (List.replicate n false, 0) = _ from hh]; rfl
  · rw [e_impl_stateOf_l1, m_impl_stateOf_l1s]
    have hnn : nnB (k : Int) = true := by simp [nnB]
    simp only [Int.toNat_natCast, lt_dec hk, hnn, ix_dec hk, cond_true, chk_true, bit_val hx (by omega : k ≤ 64), w64_succ (by omega : k < 4611686018427387904)]
    rw [mix_set (f := fun i => x.testBit i) (g := fun _ => false) hk]
  · rw [e_impl_stateOf_l1, m_impl_stateOf_l1s]
    simp only [Int.toNat_natCast, nlt_dec, cond_false]
    congr 1
    unfold mix stOf
    refine List.map_congr_left fun i hi => ?_
    rw [if_pos (by simpa using hi)]
theorem sStateOf {x n : Nat} (hx : x < 2 ^ n) (hn : n ≤ 10) : m_spec_StateOf (x : Int) (n : Int) = some (stOf n x, true) := by
  have hp : 2 ^ n ≤ 1024 := by
    have := Nat.pow_le_pow_right (show 0 < 2 by decide) hn
    omega
  unfold m_spec_StateOf m_spec_l1In
  have c1 : (leB 0 (n : Int) && leB (n : Int) 10) = true := by simp [leB]; omega
  have hnn : nnB (n : Int) = true := by simp [nnB]
  have w1 : w64 (((2 ^ n : Nat) : Int) - 1) = ((2 ^ n : Nat) : Int) - 1 := w64_in (by omega) (by omega)
  have c2 : (leB 0 (x : Int) && leB (x : Int) (((2 ^ n : Nat) : Int) - 1)) = true := by simp only [leB, Bool.and_eq_true, decide_eq_true_eq]; omega
  rw [c1, hnn, pow_shl hn, w1, c2]
  simp only [Option.bind_some, Bool.not_true, Bool.not_false, Bool.or_true, chk_true, gb_true, Bool.or_self, cond_false]
  have hh := loop_all (m_spec_StateOf_l1 (n : Int)) (fun k => (((x >>> k : Nat) : Int), (List.range k).map (fun i => x.testBit i), (k : Int))) n (some (stOf n x)) (by omega) (fun k fuel hk => ?_) (fun fuel => ?_)
  · rw [show m_spec_StateOf_l1 (n : Int) FUEL ((x : Int), ([] : List Bool), 0) = _ from hh]; rfl
  · rw [e_spec_StateOf_l1, m_spec_StateOf_l1s]
    have hle : x >>> k ≤ x := Nat.shiftRight_le x k
    have ha : ∀ z : Bool, apB ((List.range k).map (fun i => x.testBit i)).length ([z] : List Bool).length = true := fun z => by simp [apB]; omega
    have t1 : Int.tmod ((x >>> k : Nat) : Int) 2 = ((x >>> k % 2 : Nat) : Int) := by rw [Int.tmod_eq_emod_of_nonneg (Int.natCast_nonneg _)]; norm_cast
    have t2 : w64 (Int.tdiv ((x >>> k : Nat) : Int) 2) = ((x >>> (k + 1) : Nat) : Int) := by
      rw [Int.tdiv_eq_ediv_of_nonneg (Int.natCast_nonneg _), Nat.shiftRight_succ]
      generalize x >>> k = y at hle ⊢
      rw [w64_in (by omega) (by omega)]; norm_cast
    have t3 : ((((x >>> k % 2 : Nat) : Int)) == 1) = x.testBit k := by
      rw [Nat.testBit, Nat.one_and_eq_mod_two]
      rcases Nat.mod_two_eq_zero_or_one (x >>> k) with h | h <;> rw [h] <;> rfl
    simp only [lt_dec hk, cond_true, ha, chk_true, t1, t2, t3, w64_succ (by omega : k < 4611686018427387904)]
    rw [List.range_succ, List.map_append]; rfl
  · rw [e_spec_StateOf_l1, m_spec_StateOf_l1s]; simp only [nlt_dec, cond_false]; rfl
def encB (E : List Bool → Int) (C : List Bool → Nat) : Option (List Bool) → List Bool × Int × Int
  | none => ([], -1, 0)
  | some y => (y, E y, (C y : Int))
def outB : Option (List Bool) → List Bool × Bool
  | none => ([], false)
  | some y => (y, true)
theorem and_zero (x : Int) : bitsAnd .i64 x 0 = 0 := by
  unfold bitsAnd
  rw [show BitVec.ofInt (IntKind.bits .i64) 0 = 0#(IntKind.bits .i64) from rfl, BitVec.and_zero]; rfl
section
variable {ls : List Ln} {on : List Bool} {pts : List (Int × Int)} (h1 : StOk (pts.length : Int) ls on) (h2 : BusOk (pts.length : Int) ls pts) (h0 : 1 ≤ ls.length)
include h1 h2 h0
theorem bst_facts (num : Nat) : StOk (pts.length : Int) ls (stOf ls.length num) ∧ (on.length = (stOf ls.length num).length) ∧ okV (pts.length : Int) ls (stOf ls.length num) pts = true := by
  have e : (stOf ls.length num).length = ls.length := stOf_len _ _
  have hs : StOk (pts.length : Int) ls (stOf ls.length num) := ⟨h1.net, e⟩
  exact ⟨hs, h1.len.trans e.symm, okV_iff.2 ⟨hs, h2⟩⟩
theorem best_succ (num : Nat) : bestOf (fun x => goodP ls x pts) (fun x => servP (onE ls x) pts) (fun x => (chgs on x).length) ((List.range (num + 1)).map (stOf ls.length)) = bstep (fun x => goodP ls x pts) (fun x => servP (onE ls x) pts) (fun x => (chgs on x).length) (bestOf (fun x => goodP ls x pts) (fun x => servP (onE ls x) pts) (fun x => (chgs on x).length) ((List.range num).map (stOf ls.length))) (stOf ls.length num) := by
  rw [List.range_succ, List.map_append]; exact bestOf_snoc _ _ _ _ _
theorem iBest : m_impl_BestState (pts.length : Int) ls on pts [] = some (outB (bestP ls on pts)) := by
  have hll := h1.net.ll; have hB := h1.net.b1; have hl := h1.len
  have hp : 2 ^ ls.length ≤ 1024 := by
    have := Nat.pow_le_pow_right (show 0 < 2 by decide) hll
    omega
  unfold m_impl_BestState
  have l1 : m_impl_BestState_l1 (pts.length : Int) ls [] FUEL (0, 0) = some 0 := by rw [FUEL_succ]; rfl
  have hnn : nnB (ls.length : Int) = true := by simp [nnB]
  rw [iFed _ ls pts (by omega), okV_iff.2 ⟨h1, h2⟩, Option.bind_some, cond_true, l1, Option.bind_some, hnn, chk_true]
  have hh := loop_all (m_impl_BestState_l2 (pts.length : Int) ls on pts 0) (fun num => ((encB (fun x => servP (onE ls x) pts) (fun x => (chgs on x).length) (bestOf (fun x => goodP ls x pts) (fun x => servP (onE ls x) pts) (fun x => (chgs on x).length) ((List.range num).map (stOf ls.length)))).1, (encB (fun x => servP (onE ls x) pts) (fun x => (chgs on x).length) (bestOf (fun x => goodP ls x pts) (fun x => servP (onE ls x) pts) (fun x => (chgs on x).length) ((List.range num).map (stOf ls.length)))).2.1, (encB (fun x => servP (onE ls x) pts) (fun x => (chgs on x).length) (bestOf (fun x => goodP ls x pts) (fun x => servP (onE ls x) pts) (fun x => (chgs on x).length) ((List.range num).map (stOf ls.length)))).2.2, (num : Int))) (2 ^ ls.length)
    (some (encB (fun x => servP (onE ls x) pts) (fun x => (chgs on x).length) (bestP ls on pts)).1) (by omega) (fun num fuel hk => ?_) (fun fuel => ?_)
  · rw [show m_impl_BestState_l2 (pts.length : Int) ls on pts 0 FUEL (([] : List Bool), -1, 0, 0) = _ from hh, Option.bind_some]
    cases hb : bestP ls on pts with
    | none => rfl
    | some y =>
      have := (bestP_good hb).1
      cases y with
      | nil => simp at this; omega
      | cons z y => rfl
  · rw [e_impl_BestState_l2, m_impl_BestState_l2s, best_succ h1 h2 h0]
    obtain ⟨f1, f2, f3⟩ := bst_facts h1 h2 h0 num
    have hsv := servP_bound h2 (onE ls (stOf ls.length num))
    have hcl : (zl (chgs on (stOf ls.length num))).length = (chgs on (stOf ls.length num)).length := zl_len _
    have hlt : ltB (num : Int) ((2 ^ ls.length : Nat) : Int) = true := lt_dec hk
    have hne : (!(List.isEmpty (stOf ls.length num))) = true := by
      have : (stOf ls.length num).length = ls.length := stOf_len _ _
      cases hst : stOf ls.length num with
      | nil => rw [hst] at this; simp at this; omega
      | cons => rfl
    simp only [pow_shl hll, hlt, cond_true, and_zero, iStateOf (show num < 4611686018427387904 by omega) hll, Option.bind_some, iServed f1 h2, iChanges f2 (by omega), iNetGood _ ls _ pts (by omega), f3, Bool.true_and, hcl, hne, chk_true, w64_succ (by omega : num < 4611686018427387904)]
    generalize bestOf (fun x => goodP ls x pts) (fun x => servP (onE ls x) pts) (fun x => (chgs on x).length) ((List.range num).map (stOf ls.length)) = a
    have e0 : ((0 : Int) != 0) = false := rfl
    simp only [e0, cond_false]
    cases a with
    | none =>
      dsimp only [encB]
      have c1 : ltB (servP (onE ls (stOf ls.length num)) pts) (-1) = false := decide_eq_false (by omega)
      have c2 : ltB (-1) (servP (onE ls (stOf ls.length num)) pts) = true := decide_eq_true (by omega)
      have hb : bstep (fun x => goodP ls x pts) (fun x => servP (onE ls x) pts) (fun x => (chgs on x).length) none (stOf ls.length num) = if goodP ls (stOf ls.length num) pts = true then some (stOf ls.length num) else none := by
        unfold bstep better; simp only [Bool.and_true]
      simp only [c1, c2, cond_false, Bool.true_or, gb_true, Option.bind_some, Bool.true_and, hb]
      generalize goodP ls (stOf ls.length num) pts = g
      cases g <;> rfl
    | some z =>
      have hb : bstep (fun x => goodP ls x pts) (fun x => servP (onE ls x) pts) (fun x => (chgs on x).length) (some z) (stOf ls.length num) = if (goodP ls (stOf ls.length num) pts && (decide (servP (onE ls z) pts < servP (onE ls (stOf ls.length num)) pts) || (decide (servP (onE ls z) pts = servP (onE ls (stOf ls.length num)) pts) && decide ((chgs on (stOf ls.length num)).length < (chgs on z).length)))) = true then some (stOf ls.length num) else some z := rfl
      rw [hb]
      dsimp only [encB]
      generalize goodP ls (stOf ls.length num) pts = g
      by_cases c1 : servP (onE ls (stOf ls.length num)) pts < servP (onE ls z) pts
      · have d1 : decide (servP (onE ls z) pts < servP (onE ls (stOf ls.length num)) pts) = false := decide_eq_false (by omega)
        have d2 : decide (servP (onE ls z) pts = servP (onE ls (stOf ls.length num)) pts) = false := decide_eq_false (by omega)
        rw [show ltB (servP (onE ls (stOf ls.length num)) pts) (servP (onE ls z) pts) = true from decide_eq_true c1]
        simp only [cond_true, Option.bind_some, d1, d2, Bool.false_and, Bool.or_self, Bool.and_false, Bool.false_eq_true, if_false]
      · rw [show ltB (servP (onE ls (stOf ls.length num)) pts) (servP (onE ls z) pts) = false from decide_eq_false c1]
        have d3 : (ltB (servP (onE ls z) pts) (servP (onE ls (stOf ls.length num)) pts) || ltB ((chgs on (stOf ls.length num)).length : Int) ((chgs on z).length : Int)) = (decide (servP (onE ls z) pts < servP (onE ls (stOf ls.length num)) pts) || (decide (servP (onE ls z) pts = servP (onE ls (stOf ls.length num)) pts) && decide ((chgs on (stOf ls.length num)).length < (chgs on z).length))) := by
          rw [Bool.eq_iff_iff]; simp only [ltB, Bool.or_eq_true, Bool.and_eq_true, decide_eq_true_eq]; omega
        simp only [cond_false, d3]
        generalize (decide (servP (onE ls z) pts < servP (onE ls (stOf ls.length num)) pts) || (decide (servP (onE ls z) pts = servP (onE ls (stOf ls.length num)) pts) && decide ((chgs on (stOf ls.length num)).length < (chgs on z).length))) = d
        cases d <;> cases g <;> rfl
  · rw [e_impl_BestState_l2, m_impl_BestState_l2s]
    simp only [pow_shl hll, nlt_dec, cond_false]
    rfl
theorem sBest : m_spec_BestState (pts.length : Int) ls on pts [] = some (outB (bestP ls on pts)) := by
  have hll := h1.net.ll; have hB := h1.net.b1; have hl := h1.len
  have hp : 2 ^ ls.length ≤ 1024 := by
    have := Nat.pow_le_pow_right (show 0 < 2 by decide) hll
    omega
  unfold m_spec_BestState
  rw [sFed _ ls pts (by omega), okV_iff.2 ⟨h1, h2⟩, Option.bind_some, cond_true]
  have hh := loop_all (m_spec_BestState_l1 (pts.length : Int) ls on pts []) (fun num => ((encB (fun x => servP (onE ls x) pts) (fun x => (chgs on x).length) (bestOf (fun x => goodP ls x pts) (fun x => servP (onE ls x) pts) (fun x => (chgs on x).length) ((List.range num).map (stOf ls.length)))).1, (encB (fun x => servP (onE ls x) pts) (fun x => (chgs on x).length) (bestOf (fun x => goodP ls x pts) (fun x => servP (onE ls x) pts) (fun x => (chgs on x).length) ((List.range num).map (stOf ls.length)))).2.1, (encB (fun x => servP (onE ls x) pts) (fun x => (chgs on x).length) (bestOf (fun x => goodP ls x pts) (fun x => servP (onE ls x) pts) (fun x => (chgs on x).length) ((List.range num).map (stOf ls.length)))).2.2, (num : Int))) (2 ^ ls.length)
    (some ((encB (fun x => servP (onE ls x) pts) (fun x => (chgs on x).length) (bestP ls on pts)).1, (encB (fun x => servP (onE ls x) pts) (fun x => (chgs on x).length) (bestP ls on pts)).2.1)) (by omega) (fun num fuel hk => ?_) (fun fuel => ?_)
  · rw [show m_spec_BestState_l1 (pts.length : Int) ls on pts [] FUEL (([] : List Bool), -1, 0, 0) = _ from hh, Option.bind_some]
    cases hb : bestP ls on pts with
    | none => rfl
    | some y =>
      have := servP_bound h2 (onE ls y)
      have e : leB 0 (servP (onE ls y) pts) = true := decide_eq_true (by omega)
      dsimp only [encB, outB]
      rw [e]
  · rw [e_spec_BestState_l1, m_spec_BestState_l1s, best_succ h1 h2 h0]
    obtain ⟨f1, f2, f3⟩ := bst_facts h1 h2 h0 num
    have hsv := servP_bound h2 (onE ls (stOf ls.length num))
    have hcl : (zl (chgs on (stOf ls.length num))).length = (chgs on (stOf ls.length num)).length := zl_len _
    have hlt : ltB (num : Int) ((2 ^ ls.length : Nat) : Int) = true := lt_dec hk
    have hnn : nnB (ls.length : Int) = true := by simp [nnB]
    have l2 : m_spec_BestState_l2 on [] (stOf ls.length num, true) FUEL (true, 0) = some true := by rw [FUEL_succ]; rfl
    simp only [hnn, chk_true, hl, pow_shl hll, hlt, cond_true, sStateOf hk hll, Option.bind_some, l2, gb_true, sNetGood _ ls _ pts (by omega), f3, Bool.true_and, sServed f1 h2, sChanges f2 (by omega), hcl, m_spec_l14Better, w64_succ (by omega : num < 4611686018427387904)]
    generalize bestOf (fun x => goodP ls x pts) (fun x => servP (onE ls x) pts) (fun x => (chgs on x).length) ((List.range num).map (stOf ls.length)) = a
    cases a with
    | none =>
      have hb : bstep (fun x => goodP ls x pts) (fun x => servP (onE ls x) pts) (fun x => (chgs on x).length) none (stOf ls.length num) = if goodP ls (stOf ls.length num) pts = true then some (stOf ls.length num) else none := by
        unfold bstep better; simp only [Bool.and_true]
      have c2 : ltB (-1) (servP (onE ls (stOf ls.length num)) pts) = true := decide_eq_true (by omega)
      rw [hb]
      dsimp only [encB]
      generalize goodP ls (stOf ls.length num) pts = g
      cases g
      · rfl
      · simp only [gb_true, Option.bind_some, cond_true, c2, Bool.true_or, if_true]
    | some z =>
      have hb : bstep (fun x => goodP ls x pts) (fun x => servP (onE ls x) pts) (fun x => (chgs on x).length) (some z) (stOf ls.length num) = if (goodP ls (stOf ls.length num) pts && (decide (servP (onE ls z) pts < servP (onE ls (stOf ls.length num)) pts) || (decide (servP (onE ls z) pts = servP (onE ls (stOf ls.length num)) pts) && decide ((chgs on (stOf ls.length num)).length < (chgs on z).length)))) = true then some (stOf ls.length num) else some z := rfl
      have d3 : (ltB (servP (onE ls z) pts) (servP (onE ls (stOf ls.length num)) pts) || ((servP (onE ls (stOf ls.length num)) pts == servP (onE ls z) pts) && ltB ((chgs on (stOf ls.length num)).length : Int) ((chgs on z).length : Int))) = (decide (servP (onE ls z) pts < servP (onE ls (stOf ls.length num)) pts) || (decide (servP (onE ls z) pts = servP (onE ls (stOf ls.length num)) pts) && decide ((chgs on (stOf ls.length num)).length < (chgs on z).length))) := by
        rw [Bool.eq_iff_iff]; simp only [ltB, Bool.or_eq_true, Bool.and_eq_true, decide_eq_true_eq, beq_iff_eq]; omega
      rw [hb]
      dsimp only [encB]
      generalize goodP ls (stOf ls.length num) pts = g
      cases g
      · rfl
      · simp only [gb_true, Option.bind_some, cond_true, d3, Bool.true_and]
        generalize (decide (servP (onE ls z) pts < servP (onE ls (stOf ls.length num)) pts) || (decide (servP (onE ls z) pts = servP (onE ls (stOf ls.length num)) pts) && decide ((chgs on (stOf ls.length num)).length < (chgs on z).length))) = d
        cases d <;> rfl
  · rw [e_spec_BestState_l1, m_spec_BestState_l1s]
    have hnn : nnB (on.length : Int) = true := by simp [nnB]
    simp only [hnn, chk_true, hl, pow_shl hll, nlt_dec, cond_false]
    rfl
end
theorem ap_small {m n : Nat} (h : m + n ≤ 1099511627776) : apB m n = true := by simp only [apB, decide_eq_true_eq]; omega
def ordTo (a b : List Bool) : List (Int × Bool) := (((List.range a.length).filter fun i => a.getD i false && !b.getD i false).map fun (i : Nat) => ((i : Int), false)) ++ (((List.range a.length).filter fun i => b.getD i false && !a.getD i false).map fun (i : Nat) => ((i : Int), true))
def gat (n : Nat) (p : Nat → Bool) (t : Bool) : List (Int × Bool) := ((List.range n).filter p).map fun (i : Nat) => ((i : Int), t)
theorem gat_s (n : Nat) (p : Nat → Bool) (t : Bool) : gat (n + 1) p t = if p n then gat n p t ++ [((n : Int), t)] else gat n p t := by
  unfold gat
  rw [List.range_succ, List.filter_append, List.filter_cons, List.filter_nil]
  cases p n <;> simp
theorem gat_len (n : Nat) (p : Nat → Bool) (t : Bool) : (gat n p t).length ≤ n := by
  unfold gat
  rw [List.length_map]
  have := List.length_filter_le p (List.range n)
  rwa [List.length_range] at this
section
variable {a c : List Bool} (hl : a.length = c.length) (ha : a.length ≤ 10)
include hl ha
theorem iOrder : m_impl_OrderTo a c = some (ordTo a c) := by
  unfold m_impl_OrderTo
  have e : ((a.length : Int) != (c.length : Int)) = false := by rw [hl]; simp
  have e2 : ltB 10 (a.length : Int) = false := decide_eq_false (by omega)
  rw [e, e2]
  have hh := loop_all (m_impl_OrderTo_l1 a c) (fun k => (gat k (fun i => a.getD i false && !c.getD i false) false, gat k (fun i => c.getD i false && !a.getD i false) true, (k : Int))) a.length (some (gat a.length (fun i => a.getD i false && !c.getD i false) false, gat a.length (fun i => c.getD i false && !a.getD i false) true)) (by omega) (fun k fuel hk => ?_) (fun fuel => ?_)
  · have g1 := gat_len a.length (fun i => a.getD i false && !c.getD i false) false
    have g2 := gat_len a.length (fun i => c.getD i false && !a.getD i false) true
    have ap : apB (gat a.length (fun i => a.getD i false && !c.getD i false) false).length (gat a.length (fun i => c.getD i false && !a.getD i false) true).length = true := ap_small (by omega)
    simp only [Bool.or_self, cond_false]
    rw [show m_impl_OrderTo_l1 a c FUEL (([] : List (Int × Bool)), ([] : List (Int × Bool)), 0) = _ from hh, Option.bind_some, ap]; rfl
  · rw [e_impl_OrderTo_l1, m_impl_OrderTo_l1s]
    have g1 := gat_len k (fun i => a.getD i false && !c.getD i false) false
    have g2 := gat_len k (fun i => c.getD i false && !a.getD i false) true
    have p1 : ∀ x : Int × Bool, apB (gat k (fun i => a.getD i false && !c.getD i false) false).length ([x] : List (Int × Bool)).length = true := fun x => ap_small (by simp only [List.length_singleton]; omega)
    have p2 : ∀ x : Int × Bool, apB (gat k (fun i => c.getD i false && !a.getD i false) true).length ([x] : List (Int × Bool)).length = true := fun x => ap_small (by simp only [List.length_singleton]; omega)
    simp only [lt_dec hk, ix_dec hk, ix_dec (show k < c.length by omega), cond_true, chk_true, Bool.or_true, Int.toNat_natCast, p1, p2, gat_s, w64_succ (by omega : k < 4611686018427387904)]
    cases a.getD k false <;> cases c.getD k false <;> rfl
  · rw [e_impl_OrderTo_l1, m_impl_OrderTo_l1s]; simp only [nlt_dec, cond_false]
theorem sOrder : m_spec_OrderTo a c = some (ordTo a c) := by
  unfold m_spec_OrderTo
  have e2 : ltB 10 (a.length : Int) = false := decide_eq_false (by omega)
  rw [sChanges hl (by omega), Option.bind_some, e2]
  have hcl := chgs_len a c
  have hin : ∀ k, k < (chgs a c).length → (chgs a c).getD k 0 < a.length := fun k hk => by
    have : (chgs a c).getD k 0 ∈ chgs a c := by rw [getD_ge hk]; exact List.getElem_mem hk
    have := (List.mem_filter.1 this).1
    simpa using this
  have l1 := loop_all (m_spec_OrderTo_l1 a (zl (chgs a c))) (fun k => ((((chgs a c).take k).filter fun i => a.getD i false).map fun (i : Nat) => ((i : Int), false), (k : Int))) (chgs a c).length (some (((chgs a c).filter fun i => a.getD i false).map fun (i : Nat) => ((i : Int), false))) (by omega) (fun k fuel hk => ?_) (fun fuel => ?_)
  · have l2 := loop_all (m_spec_OrderTo_l2 c (zl (chgs a c))) (fun k => (((chgs a c).filter fun i => a.getD i false).map (fun (i : Nat) => ((i : Int), false)) ++ (((chgs a c).take k).filter fun i => c.getD i false).map (fun (i : Nat) => ((i : Int), true)), (k : Int))) (chgs a c).length (some (((chgs a c).filter fun i => a.getD i false).map (fun (i : Nat) => ((i : Int), false)) ++ ((chgs a c).filter fun i => c.getD i false).map (fun (i : Nat) => ((i : Int), true)))) (by omega) (fun k fuel hk => ?_) (fun fuel => ?_)
    · have x2 : m_spec_OrderTo_l2 c (zl (chgs a c)) FUEL (((chgs a c).filter fun i => a.getD i false).map (fun (i : Nat) => ((i : Int), false)), 0) = some (((chgs a c).filter fun i => a.getD i false).map (fun (i : Nat) => ((i : Int), false)) ++ ((chgs a c).filter fun i => c.getD i false).map (fun (i : Nat) => ((i : Int), true))) := by
        have := l2; simpa using this
      simp only [cond_false]
      rw [show m_spec_OrderTo_l1 a (zl (chgs a c)) FUEL (([] : List (Int × Bool)), 0) = _ from l1, Option.bind_some, x2, Option.bind_some]
      congr 1
      unfold ordTo chgs
      rw [List.filter_filter, List.filter_filter]
      congr 2
      · exact List.filter_congr fun i _ => by cases a.getD i false <;> cases c.getD i false <;> rfl
      · exact List.filter_congr fun i _ => by cases a.getD i false <;> cases c.getD i false <;> rfl
    · rw [e_spec_OrderTo_l2, m_spec_OrderTo_l2s]
      have hc := hin k hk
      have g1 := List.length_filter_le (fun i => a.getD i false) (chgs a c)
      have g2 := List.length_filter_le (fun i => c.getD i false) ((chgs a c).take k)
      have g3 : ((chgs a c).take k).length ≤ k := by rw [List.length_take]; omega
      have p1 : ∀ x : Int × Bool, apB (((chgs a c).filter fun i => a.getD i false).map (fun (i : Nat) => ((i : Int), false)) ++ (((chgs a c).take k).filter fun i => c.getD i false).map (fun (i : Nat) => ((i : Int), true))).length ([x] : List (Int × Bool)).length = true := fun x => ap_small (by simp only [List.length_append, List.length_map, List.length_singleton]; omega)
      simp only [zl_len, lt_dec hk, ix_dec hk, cond_true, chk_true, Int.toNat_natCast, zl_get, ix_dec (show (chgs a c).getD k 0 < c.length by omega), p1, w64_succ (by omega : k < 4611686018427387904)]
      rw [List.take_succ_eq_append_getElem hk, ← getD_ge hk (d := 0), List.filter_append, List.filter_cons, List.filter_nil]
      cases c.getD ((chgs a c).getD k 0) false <;> simp
    · rw [e_spec_OrderTo_l2, m_spec_OrderTo_l2s]; simp only [zl_len, nlt_dec, cond_false, List.take_length]
  · rw [e_spec_OrderTo_l1, m_spec_OrderTo_l1s]
    have hc := hin k hk
    have g2 := List.length_filter_le (fun i => a.getD i false) ((chgs a c).take k)
    have g3 : ((chgs a c).take k).length ≤ k := by rw [List.length_take]; omega
    have p1 : ∀ x : Int × Bool, apB ((((chgs a c).take k).filter fun i => a.getD i false).map (fun (i : Nat) => ((i : Int), false))).length ([x] : List (Int × Bool)).length = true := fun x => ap_small (by simp only [List.length_map, List.length_singleton]; omega)
    simp only [zl_len, lt_dec hk, ix_dec hk, cond_true, chk_true, Int.toNat_natCast, zl_get, ix_dec hc, p1, w64_succ (by omega : k < 4611686018427387904)]
    rw [List.take_succ_eq_append_getElem hk, ← getD_ge hk (d := 0), List.filter_append, List.filter_cons, List.filter_nil]
    cases a.getD ((chgs a c).getD k 0) false <;> simp
  · rw [e_spec_OrderTo_l1, m_spec_OrderTo_l1s]; simp only [zl_len, nlt_dec, cond_false, List.take_length]
end
def restO (on : List Bool) : Option (List Bool) → List (Int × Bool) × Bool
  | none => ([], false)
  | some y => (ordTo on y, true)
section
variable {ls : List Ln} {on : List Bool} {pts : List (Int × Int)} (h1 : StOk (pts.length : Int) ls on) (h2 : BusOk (pts.length : Int) ls pts) (h0 : 1 ≤ ls.length)
include h1 h2 h0
theorem iRestore : m_impl_RestoreOrder (pts.length : Int) ls on pts [] = some (restO on (bestP ls on pts)) := by
  have hll := h1.net.ll; have hl := h1.len
  unfold m_impl_RestoreOrder
  rw [iBest h1 h2 h0, Option.bind_some]
  cases hb : bestP ls on pts with
  | none => rfl
  | some y =>
    have hy := (bestP_good hb).1
    dsimp only [outB, restO]
    rw [iOrder (hl.trans hy.symm) (by omega)]; rfl
theorem sRestore : m_spec_RestoreOrder (pts.length : Int) ls on pts [] = some (restO on (bestP ls on pts)) := by
  have hll := h1.net.ll; have hl := h1.len
  unfold m_spec_RestoreOrder
  rw [sBest h1 h2 h0, Option.bind_some]
  cases hb : bestP ls on pts with
  | none => rfl
  | some y =>
    have hy := (bestP_good hb).1
    dsimp only [outB, restO]
    rw [sOrder (hl.trans hy.symm) (by omega)]; rfl
end
end Go.Proofs.YtekcjnpahohkaaaGreat
namespace Go.Proofs.YtekcjnpahohkaaaGreat
set_option linter.unusedVariables false
set_option linter.unusedSimpArgs false
section
variable (w : Wk) (ho : w.1.length ≤ 1000) (he : w.2.1.length ≤ 1000) (hp : w.2.2.length ≤ 1000)
include ho he hp
omit ho he in
theorem iRets : m_impl_Work_returns w.1 w.2.1 w.2.2 = some (retsOf w.2.2) := by
  unfold m_impl_Work_returns
  have h := loop_all (m_impl_Work_returns_l1 w.2.2) (fun k => (retsOf (w.2.2.take k), (k : Int))) w.2.2.length (some (retsOf w.2.2)) (by omega) (fun k fuel hk => ?_) (fun fuel => ?_)
  · rw [show (([] : List (Int × Int × Int)), (0 : Int)) = (retsOf (w.2.2.take 0), ((0 : Nat) : Int)) from rfl, h]; rfl
  · rw [e_impl_Work_returns_l1, m_impl_Work_returns_l1s]
    have ha : apB (retsOf (w.2.2.take k)).length 1 = true := by simp [apB, retsOf]; omega
    simp only [lt_dec hk, ix_dec hk, chk_true, cond_true, Int.toNat_natCast, List.length_singleton, ha, w64_succ (by omega : k < 4611686018427387904)]
    rw [rets_take hk]
  · rw [e_impl_Work_returns_l1, m_impl_Work_returns_l1s]; simp [nlt_dec]
omit he hp ho in
theorem iFor (kd : Int) (l : List Bool) (b : Bool) (hl : l.length ≤ 1000) : m_impl_deedsFor kd l b = some (forOf kd l b l.length) := by
  unfold m_impl_deedsFor
  have h := loop_all (m_impl_deedsFor_l1 kd l b) (fun k => (forOf kd l b k, (k : Int))) l.length (some (forOf kd l b l.length)) (by omega) (fun k fuel hk => ?_) (fun fuel => ?_)
  · rw [show (([] : List (Int × Int × Int)), (0 : Int)) = (forOf kd l b 0, ((0 : Nat) : Int)) from rfl, h]; rfl
  · rw [e_impl_deedsFor_l1, m_impl_deedsFor_l1s]
    have hb := for_len kd l b k
    have ha : apB (forOf kd l b k).length 1 = true := by simp [apB]; omega
    simp only [lt_dec hk, ix_dec hk, chk_true, cond_true, Int.toNat_natCast, List.length_singleton, ha, w64_succ (by omega : k < 4611686018427387904)]
    simp only [forOf]
    cases (l.getD k false == b) <;> rfl
  · rw [e_impl_deedsFor_l1, m_impl_deedsFor_l1s]; simp only [nlt_dec, cond_false]
end
end Go.Proofs.YtekcjnpahohkaaaGreat
namespace Go.Proofs.YtekcjnpahohkaaaGreat
set_option linter.unusedVariables false
set_option linter.unusedSimpArgs false
section
variable (l : Pm) (a b : Int) (hn : l.length ≤ 1099511627776)
include hn
theorem sFind : m_spec_l12Find l a b = some (fnd l (a, b)) := by
  unfold m_spec_l12Find fnd
  have h := loop_first (m_spec_l12Find_l1 l a b) (fun k => (k : Int)) l.length (fun k => (l.getD k (0, 0)).1 == a && (l.getD k (0, 0)).2 == b) (fun k => some (.inr (k : Int))) (some (.inl ())) hn (fun k fuel hk => by
    rw [e_spec_l12Find_l1, m_spec_l12Find_l1s]
    simp only [lt_dec hk, ix_dec hk, chk_true, cond_true, Int.toNat_natCast, w64_succ (by omega : k < 4611686018427387904)]) (fun fuel => by rw [e_spec_l12Find_l1, m_spec_l12Find_l1s]; simp only [nlt_dec, cond_false])
  rw [show m_spec_l12Find_l1 l a b FUEL 0 = _ from h]
  cases (List.range l.length).find? (fun k => (l.getD k (0, 0)).1 == a && (l.getD k (0, 0)).2 == b) <;> rfl
theorem iFind : m_slices_Index_impl_Permit_impl_Permit l a b = some (fnd l (a, b)) := by
  unfold m_slices_Index_impl_Permit_impl_Permit fnd
  have h := loop_first (m_slices_Index_impl_Permit_impl_Permit_l1 l a b) (fun k => (k : Int)) l.length (fun k => (l.getD k (0, 0)).1 == a && (l.getD k (0, 0)).2 == b) (fun k => some (.inr (k : Int))) (some (.inl ())) hn (fun k fuel hk => by
    rw [e_slices_Index_impl_Permit_impl_Permit_l1, m_slices_Index_impl_Permit_impl_Permit_l1s]
    simp only [lt_dec hk, ix_dec hk, chk_true, cond_true, Int.toNat_natCast, w64_succ (by omega : k < 4611686018427387904)]
    rw [show (a == (l.getD k (0, 0)).1) = ((l.getD k (0, 0)).1 == a) from Bool.beq_comm .., show (b == (l.getD k (0, 0)).2) = ((l.getD k (0, 0)).2 == b) from Bool.beq_comm ..]) (fun fuel => by rw [e_slices_Index_impl_Permit_impl_Permit_l1, m_slices_Index_impl_Permit_impl_Permit_l1s]; simp only [nlt_dec, cond_false])
  rw [show m_slices_Index_impl_Permit_impl_Permit_l1 l a b FUEL 0 = _ from h]
  cases (List.range l.length).find? (fun k => (l.getD k (0, 0)).1 == a && (l.getD k (0, 0)).2 == b) <;> rfl
theorem iHas : m_slices_Contains_impl_Permit_impl_Permit l a b = some (decide ((a, b) ∈ l)) := by
  unfold m_slices_Contains_impl_Permit_impl_Permit
  rw [iFind l a b hn, Option.bind_some, fnd_mem]
end
section
variable (on earth : List Bool) (pm : Pm) (ho : on.length ≤ 1048576) (hp : pm.length ≤ 1048576) (hl : earth.length = on.length)
include ho hl
theorem sV1 : m_spec_WorkValid_l1 on earth FUEL 0 = bif (List.range on.length).any (fun k => on.getD k false && earth.getD k false) then some (.inr false) else some (.inl ()) := by
  have h := loop_find (m_spec_WorkValid_l1 on earth) (fun k => (k : Int)) on.length (fun k => on.getD k false && earth.getD k false) (some (.inr false)) (some (.inl ())) (by omega) (fun k fuel hk => ?_) (fun fuel => ?_)
  · exact h
  · rw [e_spec_WorkValid_l1, m_spec_WorkValid_l1s]
    simp only [lt_dec hk, ix_dec hk, ix_dec (show k < earth.length by omega), chk_true, cond_true, Int.toNat_natCast, Bool.or_true, w64_succ (by omega : k < 4611686018427387904)]
  · rw [e_spec_WorkValid_l1, m_spec_WorkValid_l1s]; simp only [nlt_dec, cond_false]
theorem iV1 : m_impl_WorkValid_l1 on earth FUEL 0 = bif (List.range on.length).any (fun k => on.getD k false && earth.getD k false) then some (.inr false) else some (.inl ()) := by
  have h := loop_find (m_impl_WorkValid_l1 on earth) (fun k => (k : Int)) on.length (fun k => on.getD k false && earth.getD k false) (some (.inr false)) (some (.inl ())) (by omega) (fun k fuel hk => ?_) (fun fuel => ?_)
  · exact h
  · rw [e_impl_WorkValid_l1, m_impl_WorkValid_l1s]
    simp only [lt_dec hk, ix_dec hk, ix_dec (show k < earth.length by omega), chk_true, cond_true, Int.toNat_natCast, Bool.or_true, w64_succ (by omega : k < 4611686018427387904)]
  · rw [e_impl_WorkValid_l1, m_impl_WorkValid_l1s]; simp only [nlt_dec, cond_false]
include hp
theorem sV2 : m_spec_WorkValid_l2 on earth pm FUEL 0 = bif (List.range pm.length).any (fun k => !pmOk on earth pm k) then some (.inr false) else some (.inl ()) := by
  have h := loop_find (m_spec_WorkValid_l2 on earth pm) (fun k => (k : Int)) pm.length (fun k => !pmOk on earth pm k) (some (.inr false)) (some (.inl ())) (by omega) (fun k fuel hk => ?_) (fun fuel => ?_)
  · exact h
  · rw [e_spec_WorkValid_l2, m_spec_WorkValid_l2s]
    simp only [lt_dec hk, ix_dec hk, chk_true, cond_true, Int.toNat_natCast, w64_succ (by omega : k < 4611686018427387904), sFind pm _ _ (by omega), m_spec_l1In]
    have w1 : w64 ((on.length : Int) - 1) = (on.length : Int) - 1 := w64_in (by omega) (by omega)
    have hft := fnd_take hk
    rw [w1]
    unfold pmOk
    rw [inB_le]
    generalize pm.getD k (0, 0) = p at *
    cases h1 : (leB 0 p.1 && leB p.1 9)
    · simp [gb]
    have e2 : (leB 0 p.2 && leB p.2 ((on.length : Int) - 1)) = (decide (0 ≤ p.2) && decide (p.2 < (on.length : Int))) := by rw [Bool.eq_iff_iff]; simp [leB]; omega
    rw [e2]
    cases h2 : (decide (0 ≤ p.2) && decide (p.2 < (on.length : Int)))
    · simp [gb]
    have hx : ixB p.2 earth.length = true := by simp at h2; simp [ixB]; omega
    simp only [gb, Option.bind_some, Bool.not_true, Bool.not_false, cond_true, Bool.or_self, hx, Bool.or_true, chk_true, Bool.false_or, Bool.true_and]
    cases earth.getD p.2.toNat false
    · simp
    · simp [hft]
  · rw [e_spec_WorkValid_l2, m_spec_WorkValid_l2s]; simp only [nlt_dec, cond_false]
omit ho in
theorem iV2 : m_impl_WorkValid_l2 on earth pm FUEL 0 = bif (List.range pm.length).any (fun k => !pmOk on earth pm k) then some (.inr false) else some (.inl ()) := by
  have h := loop_find (m_impl_WorkValid_l2 on earth pm) (fun k => (k : Int)) pm.length (fun k => !pmOk on earth pm k) (some (.inr false)) (some (.inl ())) (by omega) (fun k fuel hk => ?_) (fun fuel => ?_)
  · exact h
  · rw [e_impl_WorkValid_l2, m_impl_WorkValid_l2s]
    have hs : slB 0 (k : Int) pm.length = true := decide_eq_true (by omega)
    have ht : subL pm 0 (k : Int) = pm.take k := by simp [subL]
    simp only [lt_dec hk, ix_dec hk, chk_true, cond_true, Int.toNat_natCast, w64_succ (by omega : k < 4611686018427387904), hs, ht, Bool.or_true, iHas (pm.take k) _ _ (by simp; omega)]
    unfold pmOk
    rw [inB_le]
    generalize pm.getD k (0, 0) = p
    rw [show ((p.1, p.2) : Int × Int) = p from rfl]
    cases h1 : (leB 0 p.1 && leB p.1 9)
    · have : (ltB p.1 0 || ltB 9 p.1) = true := by simp [leB] at h1; simp [ltB]; omega
      simp [gb, this]
    have e1 : (ltB p.1 0 || ltB 9 p.1) = false := by simp [leB] at h1; simp [ltB]; omega
    rw [e1]
    cases h2 : (decide (0 ≤ p.2) && decide (p.2 < (on.length : Int)))
    · have : (ltB p.2 0 || leB (on.length : Int) p.2) = true := by simp at h2; simp [ltB, leB]; omega
      simp only [Bool.false_or, this, Bool.not_true, Bool.true_or, Bool.not_false, chk_true, gb, cond_false, Option.bind_some, cond_true, Bool.and_false, Bool.false_and]
    have e2 : (ltB p.2 0 || leB (on.length : Int) p.2) = false := by simp at h2; simp [ltB, leB]; omega
    have hx : ixB p.2 earth.length = true := by simp at h2; simp [ixB]; omega
    simp only [Bool.false_or, e2, gb, Option.bind_some, Bool.not_true, Bool.not_false, cond_true, Bool.or_self, hx, Bool.or_true, chk_true, Bool.true_and]
    cases earth.getD p.2.toNat false <;> simp
  · rw [e_impl_WorkValid_l2, m_impl_WorkValid_l2s]; simp only [nlt_dec, cond_false]
end
section
variable (on earth : List Bool) (pm : Pm) (ho : on.length ≤ 1048576) (hp : pm.length ≤ 1048576)
include ho hp
theorem sValid : m_spec_WorkValid on earth pm = some (workV on earth pm) := by
  unfold m_spec_WorkValid m_spec_l1In workV
  rw [inB_le, lt6, bne_len]
  cases h1 : (leB 1 (on.length : Int) && leB (on.length : Int) 10)
  · simp
  by_cases h2 : earth.length = on.length
  · rw [show (earth.length == on.length) = true by simpa using h2, show (on.length == earth.length) = true by simpa using h2.symm]
    cases h3 : decide (pm.length ≤ 6)
    · simp
    simp only [Option.bind_some, Bool.not_true, Bool.or_self, cond_false, sV1 on earth ho h2, sV2 on earth pm ho hp h2, Bool.true_and]
    cases (List.range on.length).any fun k => on.getD k false && earth.getD k false
    · cases (List.range pm.length).any fun k => !pmOk on earth pm k <;> rfl
    · rfl
  · rw [show (earth.length == on.length) = false by simpa using h2, show (on.length == earth.length) = false by simpa using fun e => h2 e.symm]
    simp
theorem iValid : m_impl_WorkValid on earth pm = some (workV on earth pm) := by
  unfold m_impl_WorkValid workV
  rw [inB10, lt6, bne_len]
  cases h1 : ltB (on.length : Int) 1
  · cases h4 : ltB 10 (on.length : Int)
    · by_cases h2 : earth.length = on.length
      · rw [show (earth.length == on.length) = true by simpa using h2]
        cases h3 : decide (pm.length ≤ 6)
        · simp
        simp only [Option.bind_some, Bool.not_true, Bool.not_false, Bool.or_self, cond_false, iV1 on earth ho h2, iV2 on earth pm hp h2, Bool.true_and]
        cases (List.range on.length).any fun k => on.getD k false && earth.getD k false
        · cases (List.range pm.length).any fun k => !pmOk on earth pm k <;> rfl
        · rfl
      · rw [show (earth.length == on.length) = false by simpa using h2]
        simp
    · simp
  · simp
end
end Go.Proofs.YtekcjnpahohkaaaGreat
namespace Go.Proofs.YtekcjnpahohkaaaGreat
set_option linter.unusedVariables false
set_option linter.unusedSimpArgs false
theorem brAt_0 (on : List Bool) (br : List Int) : brAt on br 0 = ((decide (0 ≤ br.getD 0 0) && decide (br.getD 0 0 < (on.length : Int))) && !on.getD (br.getD 0 0).toNat false) := by
  unfold brAt; simp
theorem brAt_s (on : List Bool) (br : List Int) (j : Nat) : brAt on br (j + 1) = ((decide (0 ≤ br.getD (j + 1) 0) && decide (br.getD (j + 1) 0 < (on.length : Int))) && !on.getD (br.getD (j + 1) 0).toNat false && !leB (br.getD (j + 1) 0) (br.getD j 0)) := by
  unfold brAt
  have : decide (br.getD j 0 < br.getD (j + 1) 0) = !leB (br.getD (j + 1) 0) (br.getD j 0) := by rw [Bool.eq_iff_iff]; simp [leB]
  simp only [Nat.add_sub_cancel, this]
  have e : decide (j + 1 = 0) = false := by simp
  rw [e, Bool.false_or]
section
variable (b : Int) (ls : List Ln) (pts : List (Int × Int)) (on earth : List Bool) (pm : Pm) (br : List Int) (hp : pts.length ≤ 1048576) (ho : on.length ≤ 1048576) (hm : pm.length ≤ 1048576) (hb : br.length ≤ 1048576)
include hb
theorem iBr (hl : on.length = ls.length) : m_impl_WorldValid_l1 b ls on br FUEL 0 = bif (List.range br.length).any (fun k => !brAt on br k) then some (.inr false) else some (.inl ()) := by
  have hh := loop_find (m_impl_WorldValid_l1 b ls on br) (fun k => (k : Int)) br.length (fun k => !brAt on br k) (some (.inr false)) (some (.inl ())) (by omega) (fun k fuel hk => ?_) (fun fuel => ?_)
  · exact hh
  · rw [e_impl_WorldValid_l1, m_impl_WorldValid_l1s]
    simp only [lt_dec hk, ix_dec hk, cond_true, chk_true, Int.toNat_natCast, m_impl_Net_hasLine, Option.bind_some, w64_succ (by omega : k < 4611686018427387904)]
    have e1 : (leB 0 (br.getD k 0) && ltB (br.getD k 0) (ls.length : Int)) = (decide (0 ≤ br.getD k 0) && decide (br.getD k 0 < (on.length : Int))) := by rw [hl]; rfl
    rw [e1]
    have hx : (decide (0 ≤ br.getD k 0) && decide (br.getD k 0 < (on.length : Int))) = true → ixB (br.getD k 0) on.length = true := by intro h; simp at h; simp [ixB]; omega
    rcases k with _ | j
    · rw [brAt_0]
      have : ltB 0 ((0 : Nat) : Int) = false := rfl
      simp only [this, Bool.and_false, Bool.not_false, Bool.true_or, chk_true, Bool.or_false]
      cases h1 : decide (0 ≤ br.getD 0 0) && decide (br.getD 0 0 < (on.length : Int))
      · rfl
      · rw [hx h1]
        cases on.getD (br.getD 0 0).toNat false <;> rfl
    · rw [brAt_s]
      have e2 : w64 (((j + 1 : Nat) : Int) - 1) = (j : Int) := by rw [w64_in (by omega) (by omega)]; omega
      have e3 : ltB 0 ((j + 1 : Nat) : Int) = true := decide_eq_true (by omega)
      simp only [e2, e3, ix_dec (show j < br.length by omega), Bool.or_true, chk_true, Bool.true_and, Int.toNat_natCast]
      cases h1 : decide (0 ≤ br.getD (j + 1) 0) && decide (br.getD (j + 1) 0 < (on.length : Int))
      · rfl
      · rw [hx h1]
        cases on.getD (br.getD (j + 1) 0).toNat false <;> cases leB (br.getD (j + 1) 0) (br.getD j 0) <;> rfl
  · rw [e_impl_WorldValid_l1, m_impl_WorldValid_l1s]; simp only [nlt_dec, cond_false]
include ho in
theorem sBr : m_spec_WorldValid_l1 on br FUEL 0 = bif (List.range br.length).any (fun k => !brAt on br k) then some (.inr false) else some (.inl ()) := by
  have hh := loop_find (m_spec_WorldValid_l1 on br) (fun k => (k : Int)) br.length (fun k => !brAt on br k) (some (.inr false)) (some (.inl ())) (by omega) (fun k fuel hk => ?_) (fun fuel => ?_)
  · exact hh
  · rw [e_spec_WorldValid_l1, m_spec_WorldValid_l1s]
    have w1 : w64 ((on.length : Int) - 1) = (on.length : Int) - 1 := w64_in (by omega) (by omega)
    simp only [lt_dec hk, ix_dec hk, cond_true, chk_true, Int.toNat_natCast, m_spec_l1In, Option.bind_some, w64_succ (by omega : k < 4611686018427387904), w1]
    have e1 : (leB 0 (br.getD k 0) && leB (br.getD k 0) ((on.length : Int) - 1)) = (decide (0 ≤ br.getD k 0) && decide (br.getD k 0 < (on.length : Int))) := by rw [Bool.eq_iff_iff]; simp [leB]; omega
    rw [e1]
    have hx : (decide (0 ≤ br.getD k 0) && decide (br.getD k 0 < (on.length : Int))) = true → ixB (br.getD k 0) on.length = true := by intro h; simp at h; simp [ixB]; omega
    rcases k with _ | j
    · rw [brAt_0]
      have : ltB 0 ((0 : Nat) : Int) = false := rfl
      simp only [this, Bool.and_false, Bool.not_false, Bool.true_or, chk_true, Bool.or_false, Bool.false_and]
      cases h1 : decide (0 ≤ br.getD 0 0) && decide (br.getD 0 0 < (on.length : Int))
      · rfl
      · rw [hx h1]
        cases on.getD (br.getD 0 0).toNat false <;> simp
    · rw [brAt_s]
      have e2 : w64 (((j + 1 : Nat) : Int) - 1) = (j : Int) := by rw [w64_in (by omega) (by omega)]; omega
      have e3 : ltB 0 ((j + 1 : Nat) : Int) = true := decide_eq_true (by omega)
      simp only [e2, e3, ix_dec hk, ix_dec (show j < br.length by omega), Bool.or_true, chk_true, Bool.true_and, Int.toNat_natCast]
      cases h1 : decide (0 ≤ br.getD (j + 1) 0) && decide (br.getD (j + 1) 0 < (on.length : Int))
      · rfl
      · rw [hx h1]
        cases on.getD (br.getD (j + 1) 0).toNat false <;> cases leB (br.getD (j + 1) 0) (br.getD j 0) <;> rfl
  · rw [e_spec_WorldValid_l1, m_spec_WorldValid_l1s]; simp only [nlt_dec, cond_false]
include hp ho hm
theorem iWv : m_impl_WorldValid b ls pts on earth pm br = some (wv ⟨b, ls, pts, on, earth, pm, br⟩) := by
  unfold m_impl_WorldValid wv brV
  rw [iBuses b ls pts hp, iValid on earth pm ho hm]
  have e : ((on.length : Int) != (ls.length : Int)) = !decide (on.length = ls.length) := by rw [Bool.eq_iff_iff]; simp; omega
  rw [e]
  cases h1 : busesV b ls pts
  · rfl
  cases h2 : workV on earth pm
  · rfl
  by_cases h3 : on.length = ls.length
  · rw [decide_eq_true h3]
    simp only [Option.bind_some, Bool.not_true, Bool.not_false, gb_true, Bool.or_self, cond_false, iBr b ls on br hb h3, iRadial b ls on pts hp]
    have hok : radB b ls on pts = radP ls on pts := by
      have := busesV_iff.1 h1
      unfold radB
      rw [okV_iff.2 ⟨⟨this.net, h3⟩, this⟩]; rfl
    rw [hok]
    cases (List.range br.length).any fun k => !brAt on br k <;> cases radP ls on pts <;> rfl
  · rw [decide_eq_false h3]; simp
theorem sWv : m_spec_WorldValid b ls pts on earth pm br = some (wv ⟨b, ls, pts, on, earth, pm, br⟩) := by
  unfold m_spec_WorldValid wv brV
  rw [sBuses b ls pts hp, sValid on earth pm ho hm]
  have e : ((on.length : Int) != (ls.length : Int)) = !decide (on.length = ls.length) := by rw [Bool.eq_iff_iff]; simp; omega
  rw [e]
  cases h1 : busesV b ls pts
  · rfl
  cases h2 : workV on earth pm
  · rfl
  by_cases h3 : on.length = ls.length
  · rw [decide_eq_true h3]
    simp only [Option.bind_some, Bool.not_true, Bool.not_false, gb_true, Bool.or_self, cond_false, sBr on br ho hb, sRadial b ls on pts hp]
    have hok : radB b ls on pts = radP ls on pts := by
      have := busesV_iff.1 h1
      unfold radB
      rw [okV_iff.2 ⟨⟨this.net, h3⟩, this⟩]; rfl
    rw [hok]
    cases (List.range br.length).any fun k => !brAt on br k <;> cases radP ls on pts <;> rfl
  · rw [decide_eq_false h3]; simp
end
end Go.Proofs.YtekcjnpahohkaaaGreat
namespace Go.Proofs.YtekcjnpahohkaaaGreat
set_option linter.unusedVariables false
set_option linter.unusedSimpArgs false
set_option linter.unusedSectionVars false
def ddOf (d : Int × Bool) : Dd := (bif d.2 then (0 : Int) else 1, d.1, 0)
theorem steps_rest (on : List Bool) (x : Option (List Bool)) : (restO on x).1.map ddOf = stepsTo on x := by
  cases x with
  | none => rfl
  | some y =>
    show (ordTo on y).map ddOf = offsTo on y on.length ++ onsTo on y on.length
    unfold ordTo offsTo onsTo
    rw [List.map_append, List.map_map, List.map_map]; rfl
theorem rest_len (on : List Bool) (x : Option (List Bool)) : (restO on x).1.length ≤ 2 * on.length := by
  cases x with
  | none => simp [restO]
  | some y =>
    have a := List.length_filter_le (fun i => on.getD i false && !y.getD i false) (List.range on.length)
    have b := List.length_filter_le (fun i => y.getD i false && !on.getD i false) (List.range on.length)
    rw [List.length_range] at a b
    simp only [restO, ordTo, List.length_append, List.length_map]
    omega
theorem fix_snoc (earth : List Bool) (br : List Int) {k : Nat} (hk : k < br.length) : fixOf earth (br.take (k + 1)) = fixOf earth (br.take k) ++ ((if earth.getD (br.getD k 0).toNat false then [] else [(2, br.getD k 0, 0)]) ++ [(4, br.getD k 0, 0), (7, br.getD k 0, 0), (5, br.getD k 0, 0)]) := by
  rw [List.take_succ_eq_append_getElem hk, ← getD_ge hk (d := 0)]
  unfold fixOf
  rw [List.flatMap_append]; simp
theorem earthd_snoc (earth : List Bool) (br : List Int) {k : Nat} (hk : k < br.length) : earthd earth (br.take (k + 1)) = (earthd earth (br.take k)).set (br.getD k 0).toNat true := by
  rw [List.take_succ_eq_append_getElem hk, ← getD_ge hk (d := 0)]
  unfold earthd
  rw [List.foldl_append]; rfl
theorem fixlen (earth : List Bool) : ∀ br : List Int, (fixOf earth br).length ≤ 4 * br.length
  | [] => by simp [fixOf]
  | l :: br => by
    have := fixlen earth br
    rw [fix_len]
    simp only [List.length_append, List.length_cons, List.length_nil]
    split <;> simp <;> omega
theorem earthd_keep : ∀ (br : List Int) (earth : List Bool) (m : Nat), (∀ x ∈ br, x.toNat ≠ m) → (earthd earth br).getD m false = earth.getD m false
  | [], _, _, _ => rfl
  | l :: br, earth, m, h => by
    show (earthd (earth.set l.toNat true) br).getD m false = _
    rw [earthd_keep br _ m fun x hx => h x (List.mem_cons_of_mem _ hx)]
    have := h l List.mem_cons_self
    simp [List.getD, List.getElem?_set_ne this]
theorem earthd_get : ∀ (br : List Int) (earth : List Bool) (k : Nat), (∀ x ∈ br, 0 ≤ x ∧ x < (earth.length : Int)) → (earthd earth br).getD k false = (earth.getD k false || decide ((k : Int) ∈ br))
  | [], _, _, _ => by simp [earthd]
  | l :: br, earth, k, h => by
    show (earthd (earth.set l.toNat true) br).getD k false = _
    have hl := h l List.mem_cons_self
    rw [earthd_get br _ k fun x hx => by rw [List.length_set]; exact h x (List.mem_cons_of_mem _ hx)]
    by_cases e : (k : Int) = l
    · have e2 : l.toNat = k := by omega
      have : (earth.set l.toNat true).getD k false = true := by rw [e2]; simp [List.getD, show k < earth.length by omega]
      rw [this]; simp [e]
    · have e2 : l.toNat ≠ k := by omega
      have : (earth.set l.toNat true).getD k false = earth.getD k false := by simp [List.getD, List.getElem?_set_ne e2]
      rw [this]; simp [e]
theorem sor_low {br : List Int} (h : br.Pairwise (· < ·)) (h0 : ∀ x ∈ br, 0 ≤ x) : ∀ k, k < br.length → (k : Int) ≤ br.getD k 0
  | 0, hk => h0 _ (by rw [getD_ge hk]; exact List.getElem_mem hk)
  | k + 1, hk => by
    have := sor_low h h0 k (by omega)
    have := adj_of_sorted h hk
    omega
theorem br_len {w : Wd} (h : WdOk w) : w.br.length ≤ w.on.length := by
  cases hb : w.br.length with
  | zero => omega
  | succ n =>
    have h1 := sor_low h.sor (fun x hx => (h.inn x hx).1.1) n (by omega)
    have h2 := (h.inn (w.br.getD n 0) (by rw [getD_ge (show n < w.br.length by omega)]; exact List.getElem_mem _)).1.2
    omega
theorem sor_ne {br : List Int} (h : br.Pairwise (· < ·)) (h0 : ∀ x ∈ br, 0 ≤ x) {k : Nat} (hk : k < br.length) : ∀ x ∈ br.take k, x.toNat ≠ (br.getD k 0).toNat := by
  intro x hx e
  have hk0 := h0 (br.getD k 0) (by rw [getD_ge hk]; exact List.getElem_mem hk)
  have hx0 := h0 x (List.mem_of_mem_take hx)
  have h2 : (br.take k ++ br.drop k).Pairwise (· < ·) := by rw [List.take_append_drop]; exact h
  have := (List.pairwise_append.1 h2).2.2 x hx (br.getD k 0) (by rw [List.drop_eq_getElem_cons hk, getD_ge hk]; exact List.mem_cons_self)
  omega
theorem iSteps (p : List (Int × Bool) × Bool) (L : List Dd) (h : L.length + p.1.length ≤ 1048576) : m_impl_HealDeeds_l3 p FUEL (L, 0) = some (L ++ p.1.map ddOf) := by
  have hh := loop_all (m_impl_HealDeeds_l3 p) (fun k => (L ++ (p.1.take k).map ddOf, (k : Int))) p.1.length (some (L ++ p.1.map ddOf)) (by omega) (fun k fuel hk => ?_) (fun fuel => ?_)
  · simpa using hh
  · rw [e_impl_HealDeeds_l3, m_impl_HealDeeds_l3s]
    have ap : ∀ x : Dd, apB (L ++ (p.1.take k).map ddOf).length ([x] : List Dd).length = true := fun x => ap_small (by simp only [List.length_append, List.length_map, List.length_take, List.length_singleton]; omega)
    simp only [lt_dec hk, ix_dec hk, cond_true, chk_true, Int.toNat_natCast, ap, w64_succ (by omega : k < 4611686018427387904)]
    rw [List.take_succ_eq_append_getElem hk, ← getD_ge hk (d := ((0, false) : Int × Bool)), List.map_append, List.map_cons, List.map_nil, ← List.append_assoc]
    unfold ddOf
    cases (p.1.getD k ((0, false) : Int × Bool)).2 <;> rfl
  · rw [e_impl_HealDeeds_l3, m_impl_HealDeeds_l3s]; simp only [nlt_dec, cond_false, List.take_length]
theorem sSteps (p : List (Int × Bool) × Bool) (L : List Dd) (h : L.length + p.1.length ≤ 1048576) : m_spec_HealDeeds_l4 p FUEL (L, 0) = some (L ++ p.1.map ddOf) := by
  have hh := loop_all (m_spec_HealDeeds_l4 p) (fun k => (L ++ (p.1.take k).map ddOf, (k : Int))) p.1.length (some (L ++ p.1.map ddOf)) (by omega) (fun k fuel hk => ?_) (fun fuel => ?_)
  · simpa using hh
  · rw [e_spec_HealDeeds_l4, m_spec_HealDeeds_l4s]
    have ap : ∀ x : Dd, apB (L ++ (p.1.take k).map ddOf).length ([x] : List Dd).length = true := fun x => ap_small (by simp only [List.length_append, List.length_map, List.length_take, List.length_singleton]; omega)
    simp only [lt_dec hk, ix_dec hk, cond_true, chk_true, Int.toNat_natCast, ap, w64_succ (by omega : k < 4611686018427387904)]
    rw [List.take_succ_eq_append_getElem hk, ← getD_ge hk (d := ((0, false) : Int × Bool)), List.map_append, List.map_cons, List.map_nil, ← List.append_assoc]
    unfold ddOf
    cases (p.1.getD k ((0, false) : Int × Bool)).2 <;> rfl
  · rw [e_spec_HealDeeds_l4, m_spec_HealDeeds_l4s]; simp only [nlt_dec, cond_false, List.take_length]
theorem iThree (br : List Int) (p : List Dd × List Bool × Int) (L : List Dd) (h : L.length ≤ 1048576) : m_impl_HealDeeds_l2 br p FUEL (L, 0) = some (L ++ [(4, br.getD p.2.2.toNat 0, 0), (7, br.getD p.2.2.toNat 0, 0), (5, br.getD p.2.2.toNat 0, 0)]) := by
  have hh := loop_all (m_impl_HealDeeds_l2 br p) (fun k => (L ++ (([4, 7, 5] : List Int).take k).map (fun kd => (kd, br.getD p.2.2.toNat 0, 0)), (k : Int))) 3 (some (L ++ [(4, br.getD p.2.2.toNat 0, 0), (7, br.getD p.2.2.toNat 0, 0), (5, br.getD p.2.2.toNat 0, 0)])) (by omega) (fun k fuel hk => ?_) (fun fuel => ?_)
  · simpa using hh
  · rw [e_impl_HealDeeds_l2, m_impl_HealDeeds_l2s]
    have ap : ∀ x : Dd, apB (L ++ (([4, 7, 5] : List Int).take k).map (fun kd => (kd, br.getD p.2.2.toNat 0, (0 : Int)))).length ([x] : List Dd).length = true := fun x => ap_small (by simp only [List.length_append, List.length_map, List.length_take, List.length_singleton]; omega)
    have hlt : ltB (k : Int) 3 = true := decide_eq_true (by omega)
    have hix : ixB (k : Int) 3 = true := ix_dec hk
    simp only [hlt, hix, cond_true, chk_true, Int.toNat_natCast, ap, w64_succ (by omega : k < 4611686018427387904)]
    have : k = 0 ∨ k = 1 ∨ k = 2 := by omega
    rcases this with rfl | rfl | rfl <;> simp
  · rw [e_impl_HealDeeds_l2, m_impl_HealDeeds_l2s]; rfl
section
variable {earth : List Bool} {br : List Int} (hs : br.Pairwise (· < ·)) (hi : ∀ x ∈ br, 0 ≤ x ∧ x < (earth.length : Int)) (hb : br.length ≤ 1000) (L : List Dd) (hL : L.length ≤ 1000)
include hs hi hb hL
theorem iFix : m_impl_HealDeeds_l1 br earth FUEL (L, earth, 0) = some (L ++ fixOf earth br, earthd earth br) := by
  have hh := loop_all (m_impl_HealDeeds_l1 br earth) (fun k => (L ++ fixOf earth (br.take k), earthd earth (br.take k), (k : Int))) br.length (some (L ++ fixOf earth br, earthd earth br)) (by omega) (fun k fuel hk => ?_) (fun fuel => ?_)
  · simpa [fixOf, earthd] using hh
  · rw [e_impl_HealDeeds_l1, m_impl_HealDeeds_l1s]
    have hg := hi (br.getD k 0) (by rw [getD_ge hk]; exact List.getElem_mem hk)
    have hix : ixB (br.getD k 0) earth.length = true := by simp only [ixB, Bool.and_eq_true, decide_eq_true_eq]; omega
    have hfl := fixlen earth (br.take k)
    have htl : (br.take k).length ≤ k := by rw [List.length_take]; omega
    have hkeep := earthd_keep (br.take k) earth (br.getD k 0).toNat (sor_ne hs (fun x hx => (hi x hx).1) hk)
    have ap : ∀ x : Dd, apB (L ++ fixOf earth (br.take k)).length ([x] : List Dd).length = true := fun x => ap_small (by simp only [List.length_append, List.length_singleton]; omega)
    simp only [lt_dec hk, ix_dec hk, cond_true, chk_true, Int.toNat_natCast, hix, ap, w64_succ (by omega : k < 4611686018427387904)]
    rw [hkeep, fix_snoc earth br hk, earthd_snoc earth br hk]
    cases he : earth.getD (br.getD k 0).toNat false
    · simp only [cond_false, Option.bind_some, Bool.false_eq_true, if_false]
      rw [iThree _ _ _ (by simp only [List.length_append, List.length_singleton]; omega)]
      simp only [Option.bind_some, Int.toNat_natCast, List.append_assoc]
    · simp only [cond_true, Option.bind_some, if_true]
      rw [iThree _ _ _ (by simp only [List.length_append]; omega), set_true_self (hkeep.trans he)]
      simp only [Option.bind_some, Int.toNat_natCast, List.append_assoc, List.nil_append]
  · rw [e_impl_HealDeeds_l1, m_impl_HealDeeds_l1s]; simp only [nlt_dec, cond_false, List.take_length]
theorem sFix : m_spec_HealDeeds_l2 earth br FUEL (L, 0) = some (L ++ fixOf earth br) := by
  have hh := loop_all (m_spec_HealDeeds_l2 earth br) (fun k => (L ++ fixOf earth (br.take k), (k : Int))) br.length (some (L ++ fixOf earth br)) (by omega) (fun k fuel hk => ?_) (fun fuel => ?_)
  · simpa [fixOf] using hh
  · rw [e_spec_HealDeeds_l2, m_spec_HealDeeds_l2s]
    have hg := hi (br.getD k 0) (by rw [getD_ge hk]; exact List.getElem_mem hk)
    have hix : ixB (br.getD k 0) earth.length = true := by simp only [ixB, Bool.and_eq_true, decide_eq_true_eq]; omega
    have hfl := fixlen earth (br.take k)
    have htl : (br.take k).length ≤ k := by rw [List.length_take]; omega
    have ap : ∀ x : Dd, apB (L ++ fixOf earth (br.take k)).length ([x] : List Dd).length = true := fun x => ap_small (by simp only [List.length_append, List.length_singleton]; omega)
    have ap3 : ∀ x y z : Dd, apB (L ++ fixOf earth (br.take k)).length ([x, y, z] : List Dd).length = true := fun x y z => ap_small (by simp only [List.length_append, List.length_cons, List.length_nil]; omega)
    have ap4 : ∀ t x y z : Dd, apB (L ++ fixOf earth (br.take k) ++ [t]).length ([x, y, z] : List Dd).length = true := fun t x y z => ap_small (by simp only [List.length_append, List.length_cons, List.length_nil]; omega)
    simp only [lt_dec hk, ix_dec hk, cond_true, chk_true, Int.toNat_natCast, hix, ap, w64_succ (by omega : k < 4611686018427387904)]
    rw [fix_snoc earth br hk]
    cases he : earth.getD (br.getD k 0).toNat false
    · simp only [cond_false, Option.bind_some, Bool.false_eq_true, if_false, ap4, chk_true]
      simp only [List.append_assoc]
    · simp only [cond_true, Option.bind_some, if_true, ap3, chk_true, List.append_assoc, List.nil_append]
  · rw [e_spec_HealDeeds_l2, m_spec_HealDeeds_l2s]; simp only [nlt_dec, cond_false, List.take_length]
theorem sEarth (on : List Bool) (hl : earth.length = on.length) (ho : on.length ≤ 1000) : m_spec_HealDeeds_l3 on earth br FUEL (L, 0) = some (L ++ forOf 3 (earthd earth br) true on.length) := by
  have hh := loop_all (m_spec_HealDeeds_l3 on earth br) (fun k => (L ++ forOf 3 (earthd earth br) true k, (k : Int))) on.length (some (L ++ forOf 3 (earthd earth br) true on.length)) (by omega) (fun k fuel hk => ?_) (fun fuel => ?_)
  · simpa [forOf] using hh
  · rw [e_spec_HealDeeds_l3, m_spec_HealDeeds_l3s]
    have hfl := for_len 3 (earthd earth br) true k
    have ap : ∀ x : Dd, apB (L ++ forOf 3 (earthd earth br) true k).length ([x] : List Dd).length = true := fun x => ap_small (by simp only [List.length_append, List.length_singleton]; omega)
    have hg := earthd_get br earth k hi
    simp only [lt_dec hk, ix_dec (show k < earth.length by omega), cond_true, chk_true, Int.toNat_natCast, sHas br _ (by omega), ap, w64_succ (by omega : k < 4611686018427387904), forOf, hg]
    cases earth.getD k false
    · simp only [Bool.not_false, gb_true, Option.bind_some, Bool.false_or]
      cases decide ((k : Int) ∈ br)
      · rfl
      · simp only [cond_true, Option.bind_some, beq_self_eq_true, if_true, List.append_assoc]
    · simp only [Bool.not_true, gb_false, Option.bind_some, Bool.true_or, cond_true, beq_self_eq_true, if_true, List.append_assoc]
  · rw [e_spec_HealDeeds_l3, m_spec_HealDeeds_l3s]; simp only [nlt_dec, cond_false]
end
theorem sRets (pm : Pm) (hp : pm.length ≤ 1000) : m_spec_HealDeeds_l1 pm FUEL (([] : List Dd), 0) = some (retsOf pm) := by
  have h := loop_all (m_spec_HealDeeds_l1 pm) (fun k => (retsOf (pm.take k), (k : Int))) pm.length (some (retsOf pm)) (by omega) (fun k fuel hk => ?_) (fun fuel => ?_)
  · rw [show (([] : List (Int × Int × Int)), (0 : Int)) = (retsOf (pm.take 0), ((0 : Nat) : Int)) from rfl, h]
  · rw [e_spec_HealDeeds_l1, m_spec_HealDeeds_l1s]
    have ha : ∀ x : Dd, apB (retsOf (pm.take k)).length ([x] : List Dd).length = true := fun x => ap_small (by simp only [retsOf, List.length_map, List.length_take, List.length_singleton]; omega)
    simp only [lt_dec hk, ix_dec hk, chk_true, cond_true, Int.toNat_natCast, ha, w64_succ (by omega : k < 4611686018427387904)]
    rw [rets_take hk]
  · rw [e_spec_HealDeeds_l1, m_spec_HealDeeds_l1s]; simp only [nlt_dec, cond_false, List.take_length]
theorem heal_len {w : Wd} (h : WdOk w) : (healP w).length ≤ 1000 := by
  have h1 := br_len h
  have h2 := fixlen w.earth w.br
  have h3 := for_len 3 (earthd w.earth w.br) true w.on.length
  have h4 := rest_len w.on (bestP w.ls w.on w.pts)
  have h5 := h.work.lp
  have h6 := h.work.l1
  have h7 : (stepsTo w.on (bestP w.ls w.on w.pts)).length = (restO w.on (bestP w.ls w.on w.pts)).1.length := by rw [← steps_rest, List.length_map]
  simp only [Wd.wk] at h5 h6
  simp only [healP, List.length_append, retsOf, List.length_map, h7]
  omega
section
variable (b : Int) (ls : List Ln) (pts : List (Int × Int)) (on earth : List Bool) (pm : Pm) (br : List Int) (hp : pts.length ≤ 1048576) (ho : on.length ≤ 1048576) (hm : pm.length ≤ 1048576) (hb : br.length ≤ 1048576)
include hp ho hm hb
theorem iHeal : m_impl_HealDeeds b ls pts on earth pm br = some (if wv ⟨b, ls, pts, on, earth, pm, br⟩ then healP ⟨b, ls, pts, on, earth, pm, br⟩ else []) := by
  unfold m_impl_HealDeeds
  rw [iWv b ls pts on earth pm br hp ho hm hb, Option.bind_some]
  cases hv : wv ⟨b, ls, pts, on, earth, pm, br⟩
  · rfl
  have hw := wv_iff.1 hv
  have hbl := br_len hw
  have hlp := hw.bus.lp
  have w0 := hw.work.l0; have w1 := hw.work.l1; have we := hw.work.le; have wp := hw.work.lp; have hlen := hw.len
  have hin := hw.inn; have hsor := hw.sor
  simp only [Wd.wk] at w0 w1 we wp
  dsimp only at hlp hbl hlen hin hsor
  subst hlp
  have h01 : 1 ≤ ls.length := by omega
  have hel := earthd_len br earth
  have hfl := fixlen earth br
  have hol := for_len 3 (earthd earth br) true earth.length
  have hrl := rest_len on (bestP ls on pts)
  have hrt : (retsOf pm).length = pm.length := by simp [retsOf]
  have a1 : apB ([] : List Bool).length earth.length = true := ap_small (by simp only [List.length_nil]; omega)
  have a2 : apB (retsOf pm ++ fixOf earth br).length (forOf 3 (earthd earth br) true earth.length).length = true := ap_small (by simp only [List.length_append]; omega)
  simp only [cond_true, iRets (on, earth, pm) (show pm.length ≤ 1000 by omega), m_slices_Clone_bool_bool, a1, chk_true, Option.bind_some, if_true]
  rw [iFix hsor (fun x hx => by have := (hin x hx).1; omega) (by omega) _ (by omega), Option.bind_some]
  dsimp only
  rw [iFor 3 (earthd earth br) true (by omega), Option.bind_some, hel, a2, chk_true, iRestore ⟨hw.bus.net, hlen⟩ hw.bus h01, Option.bind_some, iSteps _ _ (by simp only [List.length_append]; omega), Option.bind_some, steps_rest]
  simp only [healP, we]
theorem sHeal : m_spec_HealDeeds b ls pts on earth pm br = some (if wv ⟨b, ls, pts, on, earth, pm, br⟩ then healP ⟨b, ls, pts, on, earth, pm, br⟩ else []) := by
  unfold m_spec_HealDeeds
  rw [sWv b ls pts on earth pm br hp ho hm hb, Option.bind_some]
  cases hv : wv ⟨b, ls, pts, on, earth, pm, br⟩
  · rfl
  have hw := wv_iff.1 hv
  have hbl := br_len hw
  have hlp := hw.bus.lp
  have w0 := hw.work.l0; have w1 := hw.work.l1; have we := hw.work.le; have wp := hw.work.lp; have hlen := hw.len
  have hin := hw.inn; have hsor := hw.sor
  simp only [Wd.wk] at w0 w1 we wp
  dsimp only at hlp hbl hlen hin hsor
  subst hlp
  have h01 : 1 ≤ ls.length := by omega
  have hfl := fixlen earth br
  have hol := for_len 3 (earthd earth br) true on.length
  have hrl := rest_len on (bestP ls on pts)
  have hrt : (retsOf pm).length = pm.length := by simp [retsOf]
  have hi2 : ∀ x ∈ br, 0 ≤ x ∧ x < (earth.length : Int) := fun x hx => by have := (hin x hx).1; omega
  rw [cond_true, sRets pm (by omega), Option.bind_some, sFix hsor hi2 (by omega) _ (by omega), Option.bind_some, sEarth hsor hi2 (by omega) _ (by simp only [List.length_append]; omega) on we (by omega), Option.bind_some, sRestore ⟨hw.bus.net, hlen⟩ hw.bus h01, Option.bind_some, sSteps _ _ (by simp only [List.length_append]; omega), Option.bind_some, steps_rest]
  rfl
end
end Go.Proofs.YtekcjnpahohkaaaGreat
namespace Go.Proofs.YtekcjnpahohkaaaGreat
set_option linter.unusedVariables false
set_option linter.unusedSimpArgs false
section
variable (on earth : List Bool) (pm : Pm) (line : Int) (ho : on.length ≤ 1048576) (hp : pm.length ≤ 1048576)
include ho hp
theorem sHeld : m_spec_WorkHeld on earth pm line = some (if workV on earth pm then heldOf pm line else []) := by
  unfold m_spec_WorkHeld
  cases hv : workV on earth pm
  · rw [FUEL_succ, e_spec_WorkHeld_l1, m_spec_WorkHeld_l1s]
    simp only [sValid on earth pm ho hp, hv]
    cases ltB (0 : Int) (pm.length : Int) <;> simp [gb]
  · have h := loop_all (m_spec_WorkHeld_l1 on earth pm line) (fun k => (heldOf (pm.take k) line, (k : Int))) pm.length (some (heldOf pm line)) (by omega) (fun k fuel hk => ?_) (fun fuel => ?_)
    · rw [show (([] : List Int), (0 : Int)) = (heldOf (pm.take 0) line, ((0 : Nat) : Int)) from rfl, h]; rfl
    · rw [e_spec_WorkHeld_l1, m_spec_WorkHeld_l1s]
      have hb := held_len (pm.take k) line
      have ha : ∀ x : Int, apB (heldOf (pm.take k) line).length [x].length = true := fun x => by simp [apB]; simp at hb; omega
      simp only [lt_dec hk, ix_dec hk, chk_true, cond_true, Int.toNat_natCast, sValid on earth pm ho hp, hv, gb, Option.bind_some, Bool.and_self, ha, w64_succ (by omega : k < 4611686018427387904)]
      rw [held_step hk]
      cases (pm.getD k (0, 0)).2 == line <;> rfl
    · rw [e_spec_WorkHeld_l1, m_spec_WorkHeld_l1s]; simp [nlt_dec, gb]
theorem iHeld : m_impl_WorkHeld on earth pm line = some (if workV on earth pm then heldOf pm line else []) := by
  unfold m_impl_WorkHeld
  rw [iValid on earth pm ho hp]
  cases hv : workV on earth pm
  · rfl
  · have h := loop_all (m_impl_WorkHeld_l1 pm line) (fun k => (heldOf (pm.take k) line, (k : Int))) pm.length (some (heldOf pm line)) (by omega) (fun k fuel hk => ?_) (fun fuel => ?_)
    · simp only [Option.bind_some, cond_true]
      rw [show (([] : List Int), (0 : Int)) = (heldOf (pm.take 0) line, ((0 : Nat) : Int)) from rfl, h]; rfl
    · rw [e_impl_WorkHeld_l1, m_impl_WorkHeld_l1s]
      have hb := held_len (pm.take k) line
      have ha : ∀ x : Int, apB (heldOf (pm.take k) line).length [x].length = true := fun x => by simp [apB]; simp at hb; omega
      simp only [lt_dec hk, ix_dec hk, chk_true, cond_true, Int.toNat_natCast, ha, w64_succ (by omega : k < 4611686018427387904)]
      rw [held_step hk]
      cases (pm.getD k (0, 0)).2 == line <;> rfl
    · rw [e_impl_WorkHeld_l1, m_impl_WorkHeld_l1s]; simp [nlt_dec]
end
section
variable (w : Wk) (kd a who : Int) (ho : w.1.length ≤ 1048576) (he : w.2.1.length ≤ 1048576) (hp : w.2.2.length ≤ 1048576)
include ho hp he
omit he in
theorem iMayP (hv : workV w.1 w.2.1 w.2.2 = true) (ha : 0 ≤ a ∧ a < (w.1.length : Int)) : m_impl_Work_may w.1 w.2.1 w.2.2 kd a who = some (wkMay w kd a who) := by
  have ok := workV_iff.1 hv
  have c1 : ixB a w.1.length = true := decide_eq_true (by omega)
  have c2 : ixB a w.2.1.length = true := decide_eq_true (by have := ok.le; omega)
  unfold m_impl_Work_may wkMay
  rw [c1, c2, iHas _ _ _ (by omega), iHeld _ _ _ _ ho hp, hv]
  simp only [chk_true, Option.bind_some, if_true, nil_dec]
  by_cases k0 : kd = 0
  · subst k0; simp
  by_cases k1 : kd = 1
  · subst k1; simp
  by_cases k2 : kd = 2
  · subst k2; simp
  by_cases k3 : kd = 3
  · subst k3; cases w.2.1.getD a.toNat false <;> simp
  by_cases k4 : kd = 4
  · subst k4
    simp only [show ((4 : Int) == 0) = false from rfl, show ((4 : Int) == 2) = false from rfl, show ((4 : Int) == 1) = false from rfl, show ((4 : Int) == 3) = false from rfl, show ((4 : Int) == 4) = true from rfl, cond_false, cond_true, Option.bind_some]
    rw [if_neg (by omega), if_neg (by omega), if_neg (by omega), if_pos trivial, inB_le]
    have c6 : ltB (w.2.2.length : Int) 6 = decide (w.2.2.length < 6) := by simp only [ltB]; exact decide_eq_decide.2 (by omega)
    rw [c6]
    cases w.2.1.getD a.toNat false <;> cases decide ((who, a) ∈ w.2.2) <;> simp
  by_cases k5 : kd = 5
  · subst k5; simp
  · have e0 : (kd == 0) = false := by simpa using k0
    have e1 : (kd == 1) = false := by simpa using k1
    have e2 : (kd == 2) = false := by simpa using k2
    have e3 : (kd == 3) = false := by simpa using k3
    have e4 : (kd == 4) = false := by simpa using k4
    have e5 : (kd == 5) = false := by simpa using k5
    simp [k0, k1, k2, k3, k4, k5, e0, e1, e2, e3, e4, e5]
omit he in
theorem sMayP (hv : workV w.1 w.2.1 w.2.2 = true) (ha : 0 ≤ a ∧ a < (w.1.length : Int)) : m_spec_l12May w.1 w.2.1 w.2.2 kd a who = some (wkMay w kd a who) := by
  have ok := workV_iff.1 hv
  have c1 : ixB a w.1.length = true := decide_eq_true (by omega)
  have c2 : ixB a w.2.1.length = true := decide_eq_true (by have := ok.le; omega)
  have c3 : ltB (fnd w.2.2 (who, a)) 0 = !decide ((who, a) ∈ w.2.2) := by rw [← fnd_mem]; rw [Bool.eq_iff_iff]; simp [ltB, leB]
  unfold m_spec_l12May wkMay m_spec_l1In
  rw [c1, c2, sFind _ _ _ (by omega), sHeld _ _ _ _ ho hp, hv]
  simp only [chk_true, Option.bind_some, if_true, nil_dec, Bool.or_true, c3, fnd_mem]
  by_cases k0 : kd = 0
  · subst k0; simp
  by_cases k1 : kd = 1
  · subst k1; simp
  by_cases k2 : kd = 2
  · subst k2; simp
  by_cases k3 : kd = 3
  · subst k3; cases w.2.1.getD a.toNat false <;> simp
  by_cases k4 : kd = 4
  · subst k4
    simp only [show ((4 : Int) == 0) = false from rfl, show ((4 : Int) == 2) = false from rfl, show ((4 : Int) == 1) = false from rfl, show ((4 : Int) == 3) = false from rfl, show ((4 : Int) == 4) = true from rfl, cond_false, cond_true, Option.bind_some]
    rw [if_neg (by omega), if_neg (by omega), if_neg (by omega), if_pos trivial, inB_le]
    have c6 : ltB (w.2.2.length : Int) 6 = decide (w.2.2.length < 6) := by simp only [ltB]; exact decide_eq_decide.2 (by omega)
    rw [c6]
    cases w.2.1.getD a.toNat false <;> simp [gb, Bool.and_assoc]
  by_cases k5 : kd = 5
  · subst k5; simp
  · have e0 : (kd == 0) = false := by simpa using k0
    have e1 : (kd == 1) = false := by simpa using k1
    have e2 : (kd == 2) = false := by simpa using k2
    have e3 : (kd == 3) = false := by simpa using k3
    have e4 : (kd == 4) = false := by simpa using k4
    have e5 : (kd == 5) = false := by simpa using k5
    simp [k0, k1, k2, k3, k4, k5, e0, e1, e2, e3, e4, e5]
theorem wcloneP : m_impl_Work_clone w.1 w.2.1 w.2.2 = some w := by
  have a1 : apB ([] : List Bool).length w.1.length = true := by simp [apB]; omega
  have a2 : apB ([] : List Bool).length w.2.1.length = true := by simp [apB]; omega
  have a3 : apB ([] : Pm).length w.2.2.length = true := by simp [apB]; omega
  simp only [m_impl_Work_clone, m_slices_Clone_bool_bool, m_slices_Clone_impl_Permit_impl_Permit, a1, a2, a3, chk_true, Option.bind_some]
theorem wcopyP : m_spec_l12Copy w.1 w.2.1 w.2.2 = some w := by
  have a1 : apB ([] : List Bool).length w.1.length = true := by simp [apB]; omega
  have a2 : apB ([] : List Bool).length w.2.1.length = true := by simp [apB]; omega
  have a3 : apB ([] : Pm).length w.2.2.length = true := by simp [apB]; omega
  simp only [m_spec_l12Copy, m_spec_l2Copy, a1, a2, a3, chk_true, Option.bind_some, List.nil_append]
theorem iDo : m_impl_WorkDo w.1 w.2.1 w.2.2 kd a who = some (out4w (wkDo w kd a who)) := by
  unfold m_impl_WorkDo wkDo
  rw [iValid _ _ _ ho hp]
  cases hv : workV w.1 w.2.1 w.2.2
  · rfl
  have ok := workV_iff.1 hv
  simp only [Option.bind_some, cond_true, if_true, wcloneP w ho he hp]
  by_cases ha : 0 ≤ a ∧ a < (w.1.length : Int)
  · have c0 : (ltB a 0 || leB (w.1.length : Int) a) = false := by simp [ltB, leB]; omega
    have c1 : ixB a w.1.length = true := decide_eq_true (by omega)
    have c2 : ixB a w.2.1.length = true := decide_eq_true (by have := ok.le; omega)
    simp only [c0, Bool.not_false, gb, cond_true, iMayP w kd a who ho hp hv ha, Option.bind_some, Bool.false_or]
    cases hm : wkMay w kd a who
    · rw [if_neg (fun h => by cases h.2.2)]; rfl
    rw [if_pos ⟨ha.1, ha.2, rfl⟩]
    simp only [Bool.not_true, cond_false]
    by_cases k0 : kd = 0
    · subst k0; simp [c1, wkPut, out4w]
    by_cases k1 : kd = 1
    · subst k1; simp [c1, wkPut, out4w]
    by_cases k2 : kd = 2
    · subst k2; simp [c2, wkPut, out4w]
    by_cases k3 : kd = 3
    · subst k3; simp [c2, wkPut, out4w]
    by_cases k4 : kd = 4
    · subst k4
      have a4 : apB w.2.2.length 1 = true := by simp [apB]; omega
      simp [wkPut, out4w, a4]
    by_cases k5 : kd = 5
    · subst k5
      have hmem : (who, a) ∈ w.2.2 := by simpa [wkMay] using hm
      rcases fnd_spec w.2.2 (who, a) with ⟨h1, h2⟩ | ⟨k, hk, h1, h2, h3⟩
      · exact absurd hmem h2
      have wk : w64 ((k : Int) + 1) = (k : Int) + 1 := w64_in (by omega) (by omega)
      have b1 : slB (k : Int) ((k : Int) + 1) w.2.2.length = true := decide_eq_true (by omega)
      have b2 : slB 0 (k : Int) w.2.2.length = true := decide_eq_true (by omega)
      have b3 : slB ((k : Int) + 1) (w.2.2.length : Int) w.2.2.length = true := decide_eq_true (by omega)
      have b4 : ((k : Int) == (k : Int) + 1) = false := by simp; omega
      have s1 : subL w.2.2 0 (k : Int) = w.2.2.take k := by simp [subL]
      have s2 : subL w.2.2 ((k : Int) + 1) (w.2.2.length : Int) = w.2.2.drop (k + 1) := by
        unfold subL; rw [show ((k : Int) + 1).toNat = k + 1 by omega, List.take_of_length_le (by simp <;> omega)]
      have b5 : apB (w.2.2.take k).length (w.2.2.drop (k + 1)).length = true := by simp [apB]; omega
      simp only [show ((5 : Int) == 0) = false from rfl, show ((5 : Int) == 1) = false from rfl, show ((5 : Int) == 2) = false from rfl, show ((5 : Int) == 3) = false from rfl, show ((5 : Int) == 4) = false from rfl, show ((5 : Int) == 5) = true from rfl, cond_false, cond_true, Option.bind_some, iFind w.2.2 who a (by omega), h1, m_slices_Delete_impl_Permit_impl_Permit, wk, b1, b2, b3, b4, s1, s2, b5, chk_true]
      simp [wkPut, out4w, h1]
    · exfalso
      simp [wkMay, k0, k1, k2, k3, k4, k5] at hm
  · have c0 : (ltB a 0 || leB (w.1.length : Int) a) = true := by simp [ltB, leB]; omega
    rw [if_neg (fun h => ha ⟨h.1, h.2.1⟩)]
    simp [c0, gb, out4w]
theorem sDo : m_spec_WorkDo w.1 w.2.1 w.2.2 kd a who = some (out4w (wkDo w kd a who)) := by
  unfold m_spec_WorkDo wkDo m_spec_l1In
  rw [sValid _ _ _ ho hp]
  cases hv : workV w.1 w.2.1 w.2.2
  · rfl
  have ok := workV_iff.1 hv
  have w1 : w64 ((w.1.length : Int) - 1) = (w.1.length : Int) - 1 := w64_in (by omega) (by omega)
  simp only [Option.bind_some, cond_true, if_true, wcopyP w ho he hp, w1]
  by_cases ha : 0 ≤ a ∧ a < (w.1.length : Int)
  · have c0 : (leB 0 a && leB a ((w.1.length : Int) - 1)) = true := by simp [leB]; omega
    have c1 : ixB a w.1.length = true := decide_eq_true (by omega)
    have c2 : ixB a w.2.1.length = true := decide_eq_true (by have := ok.le; omega)
    simp only [c0, Bool.not_true, Bool.not_false, gb, cond_true, sMayP w kd a who ho hp hv ha, Option.bind_some, Bool.false_or]
    cases hm : wkMay w kd a who
    · rw [if_neg (fun h => by cases h.2.2)]; rfl
    rw [if_pos ⟨ha.1, ha.2, rfl⟩]
    simp only [Bool.not_true, cond_false]
    by_cases k0 : kd = 0
    · subst k0; simp [c1, wkPut, out4w]
    by_cases k1 : kd = 1
    · subst k1; simp [c1, wkPut, out4w]
    by_cases k2 : kd = 2
    · subst k2; simp [c2, wkPut, out4w]
    by_cases k3 : kd = 3
    · subst k3; simp [c2, wkPut, out4w]
    by_cases k4 : kd = 4
    · subst k4
      have a4 : apB w.2.2.length 1 = true := by simp [apB]; omega
      simp [wkPut, out4w, a4]
    by_cases k5 : kd = 5
    · subst k5
      have hmem : (who, a) ∈ w.2.2 := by simpa [wkMay] using hm
      rcases fnd_spec w.2.2 (who, a) with ⟨h1, h2⟩ | ⟨k, hk, h1, h2, h3⟩
      · exact absurd hmem h2
      have wk : w64 ((k : Int) + 1) = (k : Int) + 1 := w64_in (by omega) (by omega)
      have b2 : slB 0 (k : Int) w.2.2.length = true := decide_eq_true (by omega)
      have b3 : slB ((k : Int) + 1) (w.2.2.length : Int) w.2.2.length = true := decide_eq_true (by omega)
      have s1 : subL w.2.2 0 (k : Int) = w.2.2.take k := by simp [subL]
      have s2 : subL w.2.2 ((k : Int) + 1) (w.2.2.length : Int) = w.2.2.drop (k + 1) := by
        unfold subL; rw [show ((k : Int) + 1).toNat = k + 1 by omega, List.take_of_length_le (by simp <;> omega)]
      have b5 : apB (w.2.2.take k).length (w.2.2.drop (k + 1)).length = true := by simp [apB]; omega
      simp only [show ((5 : Int) == 0) = false from rfl, show ((5 : Int) == 1) = false from rfl, show ((5 : Int) == 2) = false from rfl, show ((5 : Int) == 3) = false from rfl, show ((5 : Int) == 4) = false from rfl, cond_false, cond_true, Option.bind_some, sFind w.2.2 who a (by omega), h1, wk, b2, b3, s1, s2, b5, chk_true]
      simp [wkPut, out4w, h1]
    · exfalso
      simp [wkMay, k0, k1, k2, k3, k4, k5] at hm
  · have c0 : (leB 0 a && leB a ((w.1.length : Int) - 1)) = false := by simp [leB]; omega
    rw [if_neg (fun h => ha ⟨h.1, h.2.1⟩)]
    simp [c0, gb, out4w]
end
end Go.Proofs.YtekcjnpahohkaaaGreat
namespace Go.Proofs.YtekcjnpahohkaaaGreat
set_option linter.unusedVariables false
set_option linter.unusedSimpArgs false
theorem cmp_less (a b : Int) : m_cmp_Less_int a b = some (ltB a b) := by
  simp [m_cmp_Less_int, m_cmp_isNaN_int, gb]
theorem mid_val {a b : Nat} (h : a + b < 4611686018427387904) : w64 (bitsShr .u64 (wk .u64 (w64 ((a : Int) + (b : Int)))) 1) = (((a + b) / 2 : Nat) : Int) := by
  have e1 : w64 ((a : Int) + (b : Int)) = ((a + b : Nat) : Int) := by rw [w64_in (by omega) (by omega)]; omega
  have e2 : wk .u64 ((a + b : Nat) : Int) = ((a + b : Nat) : Int) := by
    unfold wk IntKind.wrap
    have : (IntKind.u64).bits = 64 := rfl
    simp only [this]
    first
      | (rw [Int.emod_eq_of_lt (by omega) (by omega)]; simp [IntKind.signed])
      | omega
  have e3 : bitsShr .u64 ((a + b : Nat) : Int) 1 = (((a + b) / 2 : Nat) : Int) := by
    unfold bitsShr
    rw [show min (1 : Int).toNat (IntKind.bits .u64) = 1 from rfl, Int.fdiv_eq_ediv_of_nonneg _ (by decide)]
    omega
  rw [e1, e2, e3, w64_in (by omega) (by omega)]
structure At (l : List Int) (x : Int) (p : Nat) : Prop where
  le : p ≤ l.length
  lo : ∀ k, k < p → l.getD k 0 < x
  hi : ∀ k, p ≤ k → k < l.length → x ≤ l.getD k 0
theorem bs_loop (l : List Int) (x : Int) (hs : ∀ i j, i < j → j < l.length → l.getD i 0 < l.getD j 0) (hl : l.length ≤ 1048576) : ∀ (d lo hi fuel : Nat), hi - lo = d → d < fuel → lo ≤ hi → hi ≤ l.length → (∀ k, k < lo → l.getD k 0 < x) → (∀ k, hi ≤ k → k < l.length → x ≤ l.getD k 0) →
    ∃ p : Nat, m_slices_BinarySearch_int_int_l1 l x fuel ((lo : Int), (hi : Int)) = some (p : Int) ∧ At l x p := by
  intro d
  induction d using Nat.strongRecOn with
  | _ d ih =>
    intro lo hi fuel hd hf h1 h2 h3 h4
    obtain ⟨f, rfl⟩ : ∃ f, fuel = f + 1 := ⟨fuel - 1, by omega⟩
    rw [e_slices_BinarySearch_int_int_l1, m_slices_BinarySearch_int_int_l1s]
    dsimp only
    by_cases hlt : lo < hi
    · have hm1 : lo ≤ (lo + hi) / 2 := by omega
      have hm2 : (lo + hi) / 2 < hi := by omega
      have hc : ltB (lo : Int) (hi : Int) = true := decide_eq_true (by omega)
      rw [hc, mid_val (by omega)]
      simp only [cond_true, ix_dec (show (lo + hi) / 2 < l.length by omega), chk_true, Int.toNat_natCast, cmp_less, Option.bind_some, w64_succ (by omega : (lo + hi) / 2 < 4611686018427387904)]
      by_cases hx : l.getD ((lo + hi) / 2) 0 < x
      · rw [show ltB (l.getD ((lo + hi) / 2) 0) x = true from decide_eq_true hx]
        simp only [cond_true, Option.bind_some]
        refine ih (hi - ((lo + hi) / 2 + 1)) (by omega) ((lo + hi) / 2 + 1) hi f rfl (by omega) (by omega) h2 (fun k hk => ?_) h4
        rcases Nat.lt_or_ge k ((lo + hi) / 2) with h | h
        · have := hs k _ h (by omega); omega
        · have : k = (lo + hi) / 2 := by omega
          rw [this]; exact hx
      · rw [show ltB (l.getD ((lo + hi) / 2) 0) x = false from decide_eq_false hx]
        simp only [cond_false, Option.bind_some]
        refine ih ((lo + hi) / 2 - lo) (by omega) lo ((lo + hi) / 2) f rfl (by omega) hm1 (by omega) h3 (fun k hk hk2 => ?_)
        rcases Nat.lt_or_ge ((lo + hi) / 2) k with h | h
        · have := hs _ k h hk2; omega
        · have : k = (lo + hi) / 2 := by omega
          rw [this]; omega
    · have hc : ltB (lo : Int) (hi : Int) = false := decide_eq_false (by omega)
      have : lo = hi := by omega
      subst this
      exact ⟨lo, by rw [hc]; rfl, h2, h3, h4⟩
theorem sor_get {l : List Int} (h : l.Pairwise (· < ·)) : ∀ i j, i < j → j < l.length → l.getD i 0 < l.getD j 0 := by
  intro i j hij hj
  rw [getD_ge (by omega), getD_ge hj]
  exact List.pairwise_iff_getElem.1 h i j (by omega) hj hij
theorem at_mem {l : List Int} {x : Int} {p : Nat} (hs : l.Pairwise (· < ·)) (h : At l x p) : (p < l.length ∧ l.getD p 0 = x) ↔ x ∈ l := by
  constructor
  · rintro ⟨h1, h2⟩; rw [← h2, getD_ge h1]; exact List.getElem_mem h1
  · intro hm
    obtain ⟨k, hk, e⟩ := List.getElem_of_mem hm
    have e2 : l.getD k 0 = x := by rw [getD_ge hk]; exact e
    have hk2 : p ≤ k := by
      rcases Nat.lt_or_ge k p with h3 | h3
      · have := h.lo k h3; omega
      · exact h3
    have h5 := h.hi p (Nat.le_refl p) (by omega)
    by_cases hpk : p = k
    · subst hpk; exact ⟨hk, e2⟩
    · have := sor_get hs p k (by omega) hk; omega
theorem iBs {l : List Int} {x : Int} (hs : l.Pairwise (· < ·)) (hl : l.length ≤ 1048576) : ∃ p : Nat, m_slices_BinarySearch_int_int l x = some ((p : Int), decide (x ∈ l)) ∧ At l x p := by
  obtain ⟨p, h1, h2⟩ := bs_loop l x (sor_get hs) hl l.length 0 l.length FUEL (by omega) (fuel_gt (by omega)) (by omega) (Nat.le_refl _) (fun k hk => by omega) (fun k h3 h4 => by omega)
  refine ⟨p, ?_, h2⟩
  have hm := at_mem hs h2
  have hle := h2.le
  unfold m_slices_BinarySearch_int_int
  rw [show m_slices_BinarySearch_int_int_l1 l x FUEL (0, (l.length : Int)) = _ from h1, Option.bind_some]
  by_cases hp : p < l.length
  · have e1 : ltB (p : Int) (l.length : Int) = true := decide_eq_true (by omega)
    have e2 : (l.getD p 0 == x) = decide (x ∈ l) := by
      rw [Bool.eq_iff_iff, beq_iff_eq, decide_eq_true_eq, ← hm]
      exact ⟨fun h => ⟨hp, h⟩, fun h => h.2⟩
    simp only [e1, ix_dec hp, Bool.or_true, chk_true, Int.toNat_natCast, e2, m_slices_isNaN_int]
    cases decide (x ∈ l) <;> simp [gb]
  · have e1 : ltB (p : Int) (l.length : Int) = false := decide_eq_false (by omega)
    have e2 : decide (x ∈ l) = false := decide_eq_false fun h => hp (hm.2 h).1
    simp [e1, e2, gb, chk]
theorem at_ins {l : List Int} {x : Int} {p : Nat} (hs : l.Pairwise (· < ·)) (h : At l x p) (hx : x ∉ l) : l.take p ++ [x] ++ l.drop p = insS x l := by
  have hlt : ∀ z ∈ l.take p, z < x := by
    intro z hz
    obtain ⟨k, hk, rfl⟩ := List.getElem_of_mem hz
    rw [List.length_take] at hk
    rw [List.getElem_take, ← getD_ge (d := 0)]
    exact h.lo k (by omega)
  have hgt : ∀ z ∈ l.drop p, x < z := by
    intro z hz
    obtain ⟨k, hk, rfl⟩ := List.getElem_of_mem hz
    rw [List.length_drop] at hk
    have hm : (l.drop p)[k]'(by rw [List.length_drop]; exact hk) ∈ l := List.mem_of_mem_drop (List.getElem_mem _)
    have h1 := h.hi (p + k) (by omega) (by omega)
    rw [getD_ge (by omega)] at h1
    rw [List.getElem_drop] at hm ⊢
    have : l[p + k] ≠ x := fun e => hx (e ▸ hm)
    omega
  refine sorted_ext ?_ (insS_sorted hs) (fun z => ?_)
  · rw [List.append_assoc, List.pairwise_append]
    refine ⟨hs.sublist (List.take_sublist _ _), ?_, fun a ha b hb => ?_⟩
    · rw [List.singleton_append, List.pairwise_cons]
      exact ⟨hgt, hs.sublist (List.drop_sublist _ _)⟩
    · rcases List.mem_append.1 hb with hb | hb
      · simp at hb; subst hb; exact hlt a ha
      · have := hlt a ha; have := hgt b hb; omega
  · rw [insS_mem, List.mem_append, List.mem_append, List.mem_singleton]
    have : z ∈ l ↔ z ∈ l.take p ∨ z ∈ l.drop p := by rw [← List.mem_append, List.take_append_drop]
    rw [this]
    constructor
    · rintro ((h | h) | h)
      · exact .inr (.inl h)
      · exact .inl h
      · exact .inr (.inr h)
    · rintro (h | h | h)
      · exact .inl (.inr h)
      · exact .inl (.inl h)
      · exact .inr h
theorem at_del {l : List Int} {x : Int} {p : Nat} (hs : l.Pairwise (· < ·)) (h : At l x p) (hx : x ∈ l) : l.take p ++ l.drop (p + 1) = l.filter fun z => z != x := by
  obtain ⟨hp, he⟩ := (at_mem hs h).2 hx
  refine sorted_ext ?_ (hs.sublist List.filter_sublist) (fun z => ?_)
  · rw [List.pairwise_append]
    refine ⟨hs.sublist (List.take_sublist _ _), hs.sublist (List.drop_sublist _ _), fun a ha b hb => ?_⟩
    have h2 : (l.take p ++ l.drop p).Pairwise (· < ·) := by rw [List.take_append_drop]; exact hs
    exact (List.pairwise_append.1 h2).2.2 a ha b (by rw [List.drop_eq_getElem_cons hp]; exact List.mem_cons_of_mem _ hb)
  · rw [List.mem_append, List.mem_filter]
    have e : l = l.take p ++ l[p] :: l.drop (p + 1) := by rw [← List.drop_eq_getElem_cons hp, List.take_append_drop]
    have hpx : l[p] = x := by rw [← getD_ge hp (d := 0)]; exact he
    have h2 : (l.take p ++ l[p] :: l.drop (p + 1)).Pairwise (· < ·) := by rw [← e]; exact hs
    have h3 := (List.pairwise_append.1 h2)
    have h4 := List.pairwise_cons.1 h3.2.1
    have hm : z ∈ l ↔ z ∈ l.take p ∨ z = x ∨ z ∈ l.drop (p + 1) := by
      conv => lhs; rw [e]
      rw [List.mem_append, List.mem_cons, hpx]
    rw [hm]
    simp only [bne_iff_ne, ne_eq]
    constructor
    · rintro (h | h)
      · exact ⟨.inl h, by have := h3.2.2 z h l[p] List.mem_cons_self; omega⟩
      · exact ⟨.inr (.inr h), by have := h4.1 z h; omega⟩
    · rintro ⟨h | h | h, hne⟩
      · exact .inl h
      · exact absurd h hne
      · exact .inr h
end Go.Proofs.YtekcjnpahohkaaaGreat
namespace Go.Proofs.YtekcjnpahohkaaaGreat
set_option linter.unusedVariables false
set_option linter.unusedSimpArgs false
abbrev W7 := Int × List Ln × List (Int × Int) × List Bool × List Bool × Pm × List Int
def o7 (w : Wd) : W7 := (w.b, w.ls, w.pts, w.on, w.earth, w.pm, w.br)
abbrev W8 := Int × List Ln × List (Int × Int) × List Bool × List Bool × Pm × List Int × Bool
def o8 (r : Wd × Bool) : W8 := (r.1.b, r.1.ls, r.1.pts, r.1.on, r.1.earth, r.1.pm, r.1.br, r.2)
structure Sm (w : Wd) : Prop where
  l : w.ls.length ≤ 1048576
  p : w.pts.length ≤ 1048576
  o : w.on.length ≤ 1048576
  e : w.earth.length ≤ 1048576
  m : w.pm.length ≤ 1048576
  b : w.br.length ≤ 1048576
theorem bl_of {w : Wd} (h : WdOk w) : w.br.length ≤ w.on.length := by
  have h1 : ∀ k, k < w.br.length → (k : Int) ≤ w.br.getD k 0 := by
    intro k
    induction k with
    | zero =>
      intro hk
      have := (h.inn (w.br.getD 0 0) (by rw [getD_ge hk]; exact List.getElem_mem hk)).1
      omega
    | succ k ih =>
      intro hk
      have h1 := ih (by omega)
      have h2 := adj_of_sorted h.sor hk
      omega
  rcases Nat.eq_zero_or_pos w.br.length with h0 | h0
  · omega
  · have h2 := h1 (w.br.length - 1) (by omega)
    have h3 := (h.inn (w.br.getD (w.br.length - 1) 0) (by rw [getD_ge (by omega)]; exact List.getElem_mem _)).1
    omega
theorem sm_of {w : Wd} (h : WdOk w) : Sm w := by
  have h1 := h.bus.net.ll; have h2 := h.bus.lp; have h3 := h.bus.net.b1; have h4 := h.work.l1; have h5 := h.work.le; have h6 := h.work.lp; have h7 := bl_of h
  simp only [Wd.wk] at h4 h5 h6
  exact ⟨by omega, by omega, by omega, by omega, by omega, by omega⟩
theorem radB_ok {w : Wd} (h : WdOk w) {on' : List Bool} (hl : on'.length = w.ls.length) : radB w.b w.ls on' w.pts = radP w.ls on' w.pts := by
  unfold radB
  rw [okV_iff.2 ⟨⟨h.bus.net, hl⟩, h.bus⟩]; rfl
theorem may_no {w : Wk} {kd a who : Int} (h : kd ≠ 0 ∧ kd ≠ 1 ∧ kd ≠ 2 ∧ kd ≠ 3 ∧ kd ≠ 4 ∧ kd ≠ 5) : wkMay w kd a who = false := by
  simp [wkMay, h.1, h.2.1, h.2.2.1, h.2.2.2.1, h.2.2.2.2.1, h.2.2.2.2.2]
theorem do_no {w : Wk} (hw : WOk w) {kd a who : Int} (h : kd ≠ 0 ∧ kd ≠ 1 ∧ kd ≠ 2 ∧ kd ≠ 3 ∧ kd ≠ 4 ∧ kd ≠ 5) : (wkDo w kd a who).2 = false := by
  rcases do_cases hw kd a who with ⟨_, _, h1, _⟩ | ⟨h1, _⟩
  · rw [may_no h] at h1; cases h1
  · rw [h1]
section
variable {w : Wd} (h : Sm w)
include h
theorem iClone7 : m_impl_World_clone w.b w.ls w.pts w.on w.earth w.pm w.br = some (o7 w) := by
  have a1 : apB ([] : List Ln).length w.ls.length = true := by have := h.l; simp [apB]; omega
  have a2 : apB ([] : List (Int × Int)).length w.pts.length = true := by have := h.p; simp [apB]; omega
  have a3 : apB ([] : List Int).length w.br.length = true := by have := h.b; simp [apB]; omega
  have := wcloneP (w.on, w.earth, w.pm) h.o h.e h.m
  simp only [m_impl_World_clone, m_slices_Clone_impl_Line_impl_Line, m_slices_Clone_impl_Bus_impl_Bus, m_slices_Clone_int_int, a1, a2, a3, chk_true, Option.bind_some, this]
  rfl
theorem sCopy7 : m_spec_l39Copy w.b w.ls w.pts w.on w.earth w.pm w.br = some (o7 w) := by
  have a1 : apB ([] : List Ln).length w.ls.length = true := by have := h.l; simp [apB]; omega
  have a2 : apB ([] : List (Int × Int)).length w.pts.length = true := by have := h.p; simp [apB]; omega
  have a3 : apB ([] : List Int).length w.br.length = true := by have := h.b; simp [apB]; omega
  have := wcopyP (w.on, w.earth, w.pm) h.o h.e h.m
  simp only [m_spec_l39Copy, a1, a2, a3, chk_true, Option.bind_some, List.nil_append, this]
  rfl
end
section
variable {w : Wd} (h : WdOk w) (kd a who : Int) (ha : 0 ≤ a ∧ a < (w.on.length : Int))
include h ha
theorem iWdo : ∃ st : W7, m_impl_World_do w.b w.ls w.pts w.on w.earth w.pm w.br kd a who = some ((wdDo w kd a who).2, st) ∧ ((wdDo w kd a who).2 = true → st = o7 (wdDo w kd a who).1) := by
  have sm := sm_of h
  obtain ⟨p, hp, hat⟩ := iBs (x := a) h.sor sm.b
  have hle := hat.le
  have hbl := sm.b
  have hix : ixB a w.on.length = true := decide_eq_true ha
  have hv := wv_iff.2 h
  unfold m_impl_World_do
  rw [hp, Option.bind_some]
  dsimp only
  by_cases k6 : kd = 6
  · subst k6
    by_cases hb : a ∈ w.br
    · have hf : wdDo w 6 a who = (w, false) := by
        unfold wdDo
        rw [if_pos hv, if_pos ha, if_neg (fun e => e.2 hb), if_neg (fun e => absurd e.1 (by decide)), if_neg (fun e => absurd e.1 (by decide)), if_neg (fun e => by rw [do_no h.work (by decide)] at e; cases e.1)]
      rw [hf]
      exact ⟨_, by rw [decide_eq_true hb]; rfl, fun e => by cases e⟩
    · have hf : wdDo w 6 a who = ({ w with on := w.on.set a.toNat false, br := insS a w.br }, true) := by
        unfold wdDo
        rw [if_pos hv, if_pos ha, if_pos ⟨rfl, hb⟩]
      rw [hf]
      have c1 : slB 0 (p : Int) w.br.length = true := decide_eq_true (by omega)
      have c2 : apB w.br.length 1 = true := by simp [apB]; omega
      refine ⟨_, ?_, fun _ => rfl⟩
      rw [decide_eq_false hb]
      simp only [cond_false, show ((6 : Int) == 6) = true from rfl, cond_true, m_slices_Insert_int_int, c1, c2, chk_true, List.length_singleton, show (((1 : Nat) : Int) == 1) = true from rfl, Option.bind_some, hix, Int.toNat_natCast, at_ins h.sor hat hb]
      rfl
  rw [show (kd == 6) = false from by simpa using k6, cond_false]
  by_cases k7 : kd = 7
  · subst k7
    have hh := iHas w.pm who a (by have := sm.m; omega)
    by_cases hb : a ∈ w.br
    · by_cases hm : (who, a) ∈ w.pm
      · have hf : wdDo w 7 a who = ({ w with br := w.br.filter fun x => x != a }, true) := by
          unfold wdDo
          rw [if_pos hv, if_pos ha, if_neg (fun e => absurd e.1 (by decide)), if_pos ⟨rfl, hb, hm⟩]
        rw [hf]
        obtain ⟨hpl, _⟩ := (at_mem h.sor hat).2 hb
        have wk : w64 ((p : Int) + 1) = (p : Int) + 1 := w64_in (by omega) (by omega)
        have b1 : slB (p : Int) ((p : Int) + 1) w.br.length = true := decide_eq_true (by omega)
        have b2 : slB 0 (p : Int) w.br.length = true := decide_eq_true (by omega)
        have b3 : slB ((p : Int) + 1) (w.br.length : Int) w.br.length = true := decide_eq_true (by omega)
        have b4 : ((p : Int) == (p : Int) + 1) = false := by simp; omega
        have s1 : subL w.br 0 (p : Int) = w.br.take p := by simp [subL]
        have s2 : subL w.br ((p : Int) + 1) (w.br.length : Int) = w.br.drop (p + 1) := by
          unfold subL; rw [show ((p : Int) + 1).toNat = p + 1 by omega, List.take_of_length_le (by simp <;> omega)]
        have b5 : apB (w.br.take p).length (w.br.drop (p + 1)).length = true := by simp [apB]; omega
        refine ⟨_, ?_, fun _ => rfl⟩
        rw [decide_eq_true hb, hh, decide_eq_true hm]
        simp only [show ((7 : Int) == 7) = true from rfl, cond_true, Bool.not_true, Bool.not_false, gb_true, Option.bind_some, Bool.or_self, cond_false, m_slices_Delete_int_int, wk, b1, b2, b3, b4, s1, s2, b5, chk_true, at_del h.sor hat hb]
        rfl
      · have hf : wdDo w 7 a who = (w, false) := by
          unfold wdDo
          rw [if_pos hv, if_pos ha, if_neg (fun e => absurd e.1 (by decide)), if_neg (fun e => hm e.2.2), if_neg (fun e => absurd e.1 (by decide)), if_neg (fun e => by rw [do_no h.work (by decide)] at e; cases e.1)]
        rw [hf]
        exact ⟨_, by rw [decide_eq_true hb, hh, decide_eq_false hm]; rfl, fun e => by cases e⟩
    · have hf : wdDo w 7 a who = (w, false) := by
        unfold wdDo
        rw [if_pos hv, if_pos ha, if_neg (fun e => absurd e.1 (by decide)), if_neg (fun e => hb e.2.1), if_neg (fun e => absurd e.1 (by decide)), if_neg (fun e => by rw [do_no h.work (by decide)] at e; cases e.1)]
      rw [hf]
      exact ⟨_, by rw [decide_eq_false hb]; rfl, fun e => by cases e⟩
  rw [show (kd == 7) = false from by simpa using k7, cond_false]
  have hdo := iDo w.wk kd a who sm.o sm.e sm.m
  have hlen := (wkDo_on h.work (kd := kd) (a := a) (who := who)).1
  have hrad : m_impl_Radial w.b w.ls (wkDo w.wk kd a who).1.1 w.pts = some (radP w.ls (wkDo w.wk kd a who).1.1 w.pts) := by
    rw [iRadial _ _ _ _ sm.p, radB_ok h (hlen.trans h.len)]
  by_cases k0 : kd = 0
  · subst k0
    by_cases hb : a ∈ w.br
    · have hf : wdDo w 0 a who = (w, false) := by
        unfold wdDo
        rw [if_pos hv, if_pos ha, if_neg (fun e => absurd e.1 (by decide)), if_neg (fun e => absurd e.1 (by decide)), if_pos ⟨rfl, hb⟩]
      rw [hf]
      exact ⟨_, by rw [decide_eq_true hb]; rfl, fun e => by cases e⟩
    · have hf : wdDo w 0 a who = if (wkDo w.wk 0 a who).2 = true ∧ radP w.ls (wkDo w.wk 0 a who).1.1 w.pts = true then (w.put (wkDo w.wk 0 a who).1, true) else (w, false) := by
        unfold wdDo
        rw [if_pos hv, if_pos ha, if_neg (fun e => absurd e.1 (by decide)), if_neg (fun e => absurd e.1 (by decide)), if_neg (fun e => hb e.2)]
      rw [hf]
      simp only [Wd.wk] at hdo
      rw [decide_eq_false hb]
      simp only [show ((0 : Int) == 0) = true from rfl, cond_true, cond_false, Option.bind_some, Sum.elim_inl, hdo, out4w, show ((0 : Int) != 0) = false from rfl, Bool.not_false, Bool.and_true, Bool.false_or]
      change ∃ st : W7, Option.bind (gb (wkDo w.wk 0 a who).2 (m_impl_Radial w.b w.ls (wkDo w.wk 0 a who).1.1 w.pts)) (fun p127 => some ((wkDo w.wk 0 a who).2 && p127, w.b, w.ls, w.pts, (wkDo w.wk 0 a who).1.1, (wkDo w.wk 0 a who).1.2.1, (wkDo w.wk 0 a who).1.2.2, w.br)) = _ ∧ _
      rw [hrad]
      cases h1 : (wkDo w.wk 0 a who).2
      · exact ⟨_, rfl, fun e => by cases e⟩
      · cases h2 : radP w.ls (wkDo w.wk 0 a who).1.1 w.pts
        · exact ⟨_, rfl, fun e => by cases e⟩
        · exact ⟨_, rfl, fun _ => rfl⟩
  · have hf : wdDo w kd a who = if (wkDo w.wk kd a who).2 = true ∧ radP w.ls (wkDo w.wk kd a who).1.1 w.pts = true then (w.put (wkDo w.wk kd a who).1, true) else (w, false) := by
      unfold wdDo
      rw [if_pos hv, if_pos ha, if_neg (fun e => k6 e.1), if_neg (fun e => k7 e.1), if_neg (fun e => k0 e.1)]
    rw [hf, wkDo_rad h k0]
    have e0 : (kd == 0) = false := by simpa using k0
    have e1 : (kd != 0) = true := by simpa using k0
    simp only [Wd.wk] at hdo
    simp only [e0, cond_false, Option.bind_some, Sum.elim_inl, hdo, out4w, e1, Bool.not_true, Bool.and_false, gb_false, Bool.true_or, Bool.and_true]
    change ∃ st : W7, some ((wkDo w.wk kd a who).2, w.b, w.ls, w.pts, (wkDo w.wk kd a who).1.1, (wkDo w.wk kd a who).1.2.1, (wkDo w.wk kd a who).1.2.2, w.br) = _ ∧ _
    cases h1 : (wkDo w.wk kd a who).2
    · exact ⟨_, rfl, fun e => by cases e⟩
    · exact ⟨_, rfl, fun _ => rfl⟩
end
theorem iWorldDo {w : Wd} (sm : Sm w) (kd a who : Int) : m_impl_WorldDo w.b w.ls w.pts w.on w.earth w.pm w.br kd a who = some (o8 (wdDo w kd a who)) := by
  unfold m_impl_WorldDo
  rw [iWv w.b w.ls w.pts w.on w.earth w.pm w.br sm.p sm.o sm.m sm.b, Option.bind_some]
  cases hv : wv w
  · unfold wdDo
    rw [if_neg (by rw [hv]; decide)]
    rfl
  rw [cond_true, iClone7 sm, Option.bind_some]
  have h := wv_iff.1 hv
  simp only [m_impl_Net_hasLine, Option.bind_some]
  by_cases ha : 0 ≤ a ∧ a < (w.on.length : Int)
  · have hc : (leB 0 a && ltB a (w.ls.length : Int)) = true := by rw [← h.len]; simp [leB, ltB]; omega
    obtain ⟨st, h1, h2⟩ := iWdo h kd a who ha
    simp only [o7]
    rw [hc, cond_true, h1]
    cases hr : (wdDo w kd a who).2
    · simp only [Option.bind_some, Bool.not_false, cond_true]
      have hs := wdDo_same h hr
      have : wdDo w kd a who = (w, false) := Prod.ext hs hr
      rw [this]; rfl
    · rw [h2 hr]
      simp only [Option.bind_some, Bool.not_true, cond_false, o7, o8, hr]
  · have hc : (leB 0 a && ltB a (w.ls.length : Int)) = false := by rw [← h.len]; simp [leB, ltB]; omega
    have hf : wdDo w kd a who = (w, false) := by unfold wdDo; rw [if_pos hv, if_neg ha]
    rw [hc, hf]; rfl
def bkL (br : List Int) (a : Int) (k : Nat) : List Int := ((List.range k).map fun (i : Nat) => (i : Int)).filter fun i => i == a || decide (i ∈ br)
theorem bkL_len (br : List Int) (a : Int) (k : Nat) : (bkL br a k).length ≤ k := by
  unfold bkL
  refine Nat.le_trans (List.length_filter_le _ _) ?_
  simp
theorem bkL_succ (br : List Int) (a : Int) (k : Nat) : bkL br a (k + 1) = bif (k : Int) == a || decide ((k : Int) ∈ br) then bkL br a k ++ [(k : Int)] else bkL br a k := by
  unfold bkL
  rw [List.range_succ, List.map_append, List.filter_append]
  cases hc : ((k : Int) == a || decide ((k : Int) ∈ br)) <;> simp [List.filter_cons, hc]
theorem bkL_eq {w : Wd} (h : WdOk w) {a : Int} (ha : 0 ≤ a ∧ a < (w.on.length : Int)) : bkL w.br a w.on.length = insS a w.br := by
  refine sorted_ext ?_ (insS_sorted h.sor) (fun x => ?_)
  · refine List.Pairwise.sublist List.filter_sublist ?_
    rw [List.pairwise_map]
    exact List.pairwise_lt_range.imp (fun h => by omega)
  · unfold bkL
    rw [insS_mem, List.mem_filter, List.mem_map]
    simp only [List.mem_range, Bool.or_eq_true, beq_iff_eq, decide_eq_true_eq]
    constructor
    · exact fun e => e.2
    · intro e
      refine ⟨?_, e⟩
      have : 0 ≤ x ∧ x < (w.on.length : Int) := by
        rcases e with rfl | e
        · exact ha
        · exact (h.inn x e).1
      exact ⟨x.toNat, by omega, by omega⟩
section
variable {w : Wd} (h : WdOk w) {a : Int} (ha : 0 ≤ a ∧ a < (w.on.length : Int))
include h ha
theorem sBreak : m_spec_l39Break w.b w.ls w.pts w.on w.earth w.pm w.br a = some (o7 { w with on := w.on.set a.toNat false, br := insS a w.br }) := by
  have sm := sm_of h
  have ho := sm.o; have hb := sm.b
  have hix : ixB a w.on.length = true := decide_eq_true ha
  have hh := loop_all (m_spec_l39Break_l1 w.on w.br a) (fun k => ((k : Int), bkL w.br a k)) w.on.length (some (insS a w.br)) (by omega) (fun k fuel hk => ?_) (fun fuel => ?_)
  · unfold m_spec_l39Break
    rw [sCopy7 sm]
    simp only [Option.bind_some, o7, hix, chk_true]
    rw [show m_spec_l39Break_l1 w.on w.br a FUEL (0, []) = _ from hh]
    rfl
  · rw [e_spec_l39Break_l1, m_spec_l39Break_l1s]
    have hl := bkL_len w.br a k
    have ap : apB (bkL w.br a k).length ([(k : Int)] : List Int).length = true := by simp [apB]; omega
    simp only [lt_dec hk, cond_true, sHas w.br (k : Int) (by omega), w64_succ (by omega : k < 4611686018427387904), ap, chk_true]
    rw [bkL_succ]
    cases hc : ((k : Int) == a)
    · simp only [Bool.not_false, gb_true, Option.bind_some, Bool.false_or]
      cases decide ((k : Int) ∈ w.br) <;> rfl
    · simp only [Bool.not_true, gb_false, Option.bind_some, Bool.true_or, cond_true]
  · rw [e_spec_l39Break_l1, m_spec_l39Break_l1s]
    simp only [nlt_dec, cond_false, bkL_eq h ha]
omit ha in
theorem sMend : m_spec_l39Mend w.b w.ls w.pts w.on w.earth w.pm w.br a = some (o7 { w with br := w.br.filter fun x => x != a }) := by
  have sm := sm_of h
  have hb := sm.b
  have hh := loop_all (m_spec_l39Mend_l1 w.br a) (fun k => ((k : Int), (w.br.take k).filter fun x => x != a)) w.br.length (some (w.br.filter fun x => x != a)) (by omega) (fun k fuel hk => ?_) (fun fuel => ?_)
  · unfold m_spec_l39Mend
    rw [sCopy7 sm]
    simp only [Option.bind_some, o7]
    rw [show m_spec_l39Mend_l1 w.br a FUEL (0, []) = _ from hh]
    rfl
  · rw [e_spec_l39Mend_l1, m_spec_l39Mend_l1s]
    have hl := List.length_filter_le (fun x => x != a) (w.br.take k)
    rw [List.length_take] at hl
    have ap : ∀ x : Int, apB ((w.br.take k).filter fun x => x != a).length ([x] : List Int).length = true := fun x => by simp only [apB, decide_eq_true_eq, List.length_singleton]; omega
    simp only [lt_dec hk, ix_dec hk, cond_true, chk_true, Int.toNat_natCast, ap, w64_succ (by omega : k < 4611686018427387904)]
    rw [List.take_succ_eq_append_getElem hk, List.filter_append, ← getD_ge hk (d := (0 : Int))]
    cases hc : (w.br.getD k 0 != a)
    · simp only [List.filter_cons, List.filter_nil, hc, Bool.false_eq_true, if_false, cond_false, Option.bind_some, List.append_nil]
    · simp only [List.filter_cons, List.filter_nil, hc, if_true, cond_true, Option.bind_some]
  · rw [e_spec_l39Mend_l1, m_spec_l39Mend_l1s]
    simp only [nlt_dec, cond_false, List.take_length]
end
theorem held_iff {pm : Pm} {a who : Int} : who ∈ heldOf pm a ↔ (who, a) ∈ pm := by
  unfold heldOf
  rw [List.mem_map]
  constructor
  · rintro ⟨p, hp, rfl⟩
    obtain ⟨h1, h2⟩ := List.mem_filter.1 hp
    have : p.2 = a := by simpa using h2
    rw [← this]; exact h1
  · intro hm
    exact ⟨(who, a), List.mem_filter.2 ⟨hm, by simp⟩, rfl⟩
theorem sWorldDo {w : Wd} (sm : Sm w) (kd a who : Int) : m_spec_WorldDo w.b w.ls w.pts w.on w.earth w.pm w.br kd a who = some (o8 (wdDo w kd a who)) := by
  unfold m_spec_WorldDo
  rw [sWv w.b w.ls w.pts w.on w.earth w.pm w.br sm.p sm.o sm.m sm.b, Option.bind_some]
  cases hv : wv w
  · unfold wdDo
    rw [if_neg (by rw [hv]; decide)]
    rfl
  rw [cond_true]
  have h := wv_iff.1 hv
  have hol := h.work.l1
  simp only [Wd.wk] at hol
  have e1 : w64 ((w.on.length : Int) - 1) = (w.on.length : Int) - 1 := w64_in (by omega) (by omega)
  simp only [m_spec_l1In, e1, Option.bind_some]
  by_cases hna : ¬ (0 ≤ a ∧ a < (w.on.length : Int))
  · have hc : (leB 0 a && leB a ((w.on.length : Int) - 1)) = false := by simp [leB]; omega
    have hf : wdDo w kd a who = (w, false) := by unfold wdDo; rw [if_pos hv, if_neg hna]
    rw [hc, hf, cond_false, sCopy7 sm]; rfl
  have ha : 0 ≤ a ∧ a < (w.on.length : Int) := Classical.byContradiction hna
  have hc : (leB 0 a && leB a ((w.on.length : Int) - 1)) = true := by simp [leB]; omega
  rw [hc, cond_true, sHas w.br a (by have := sm.b; omega), Option.bind_some]
  by_cases h6 : kd = 6 ∧ a ∉ w.br
  · have hf : wdDo w kd a who = ({ w with on := w.on.set a.toNat false, br := insS a w.br }, true) := by unfold wdDo; rw [if_pos hv, if_pos ha, if_pos h6]
    rw [hf, decide_eq_false h6.2, h6.1, show (((6 : Int) == 6) && !false) = true from rfl, cond_true, sBreak h ha]; rfl
  have c6 : ((kd == 6) && !decide (a ∈ w.br)) = false := by
    cases hk : (kd == 6)
    · rfl
    · have : a ∈ w.br := Classical.byContradiction fun hn => h6 ⟨by simpa using hk, hn⟩
      rw [decide_eq_true this]; rfl
  rw [c6, cond_false]
  have hheld : m_spec_WorkHeld w.on w.earth w.pm a = some (heldOf w.pm a) := by
    rw [sHeld w.on w.earth w.pm a sm.o sm.m, if_pos (show workV w.on w.earth w.pm = true from wok_iff.2 h.work)]
  have hhl := held_len w.pm a
  have hml := sm.m
  have c7 : (bif (kd == 7) && decide (a ∈ w.br) then Option.bind (m_spec_WorkHeld w.on w.earth w.pm a) (fun (p133 : List Int) => Option.bind (m_spec_l1Has p133 who) (fun (p137 : Bool) => some p137)) else some false) = some (decide (kd = 7 ∧ a ∈ w.br ∧ (who, a) ∈ w.pm)) := by
    rw [hheld]
    simp only [Option.bind_some, sHas (heldOf w.pm a) who (by omega)]
    by_cases hk : kd = 7
    · subst hk
      by_cases hb : a ∈ w.br
      · simp [hb, held_iff]
      · simp [hb]
    · have : (kd == 7) = false := by simpa using hk
      simp [this, hk]
  rw [c7, Option.bind_some]
  by_cases h7 : kd = 7 ∧ a ∈ w.br ∧ (who, a) ∈ w.pm
  · have hf : wdDo w kd a who = ({ w with br := w.br.filter fun x => x != a }, true) := by unfold wdDo; rw [if_pos hv, if_pos ha, if_neg h6, if_pos h7]
    rw [hf, decide_eq_true h7, cond_true, sMend h]; rfl
  rw [decide_eq_false h7, cond_false]
  by_cases h0 : kd = 0 ∧ a ∈ w.br
  · have hf : wdDo w kd a who = (w, false) := by unfold wdDo; rw [if_pos hv, if_pos ha, if_neg h6, if_neg h7, if_pos h0]
    rw [hf, h0.1, decide_eq_true h0.2, show (((0 : Int) == 0) && true) = true from rfl, cond_true, sCopy7 sm]; rfl
  have c0 : ((kd == 0) && decide (a ∈ w.br)) = false := by
    cases hk : (kd == 0)
    · rfl
    · have : a ∉ w.br := fun hn => h0 ⟨by simpa using hk, hn⟩
      rw [decide_eq_false this]; rfl
  rw [c0, cond_false, sCopy7 sm, Option.bind_some]
  have hdo := sDo w.wk kd a who sm.o sm.e sm.m
  have hlen := (wkDo_on h.work (kd := kd) (a := a) (who := who)).1
  have hrad : m_spec_Radial w.b w.ls (wkDo w.wk kd a who).1.1 w.pts = some (radP w.ls (wkDo w.wk kd a who).1.1 w.pts) := by
    rw [sRadial _ _ _ _ sm.p, radB_ok h (hlen.trans h.len)]
  have hf : wdDo w kd a who = if (wkDo w.wk kd a who).2 = true ∧ radP w.ls (wkDo w.wk kd a who).1.1 w.pts = true then (w.put (wkDo w.wk kd a who).1, true) else (w, false) := by
    unfold wdDo
    rw [if_pos hv, if_pos ha, if_neg h6, if_neg h7, if_neg h0]
  rw [hf]
  change Option.bind (m_spec_WorkDo w.wk.1 w.wk.2.1 w.wk.2.2 kd a who) _ = _
  rw [hdo, Option.bind_some]
  simp only [out4w, o7, hrad]
  cases h1 : (wkDo w.wk kd a who).2
  · simp only [Bool.not_false, Bool.not_true, gb_false, Option.bind_some, Bool.true_or, cond_true, Bool.false_eq_true, false_and, if_false]; rfl
  · cases h2 : radP w.ls (wkDo w.wk kd a who).1.1 w.pts
    · rfl
    · rfl
theorem fold_cnt (l : List Dd) (w : Wd) : ∀ k, 0 ≤ ((l.take k).foldl wdStep (0, w)).1 ∧ ((l.take k).foldl wdStep (0, w)).1 ≤ k := by
  intro k
  induction k with
  | zero => simp
  | succ k ih =>
    rcases Nat.lt_or_ge k l.length with hk | hk
    · rw [take_fold _ _ _ ((0, 0, 0) : Dd) hk]
      generalize (l.take k).foldl wdStep (0, w) = s at ih
      unfold wdStep
      split
      · dsimp only; omega
      · omega
    · rw [List.take_of_length_le (by omega)]
      rw [List.take_of_length_le hk] at ih
      omega
def st9 (k : Nat) (s : Int × Wd) : Int × Int × W7 := (s.1, (k : Int), o7 s.2)
def o8n (s : Int × Wd) : Int × List Ln × List (Int × Int) × List Bool × List Bool × Pm × List Int × Int := (s.2.b, s.2.ls, s.2.pts, s.2.on, s.2.earth, s.2.pm, s.2.br, s.1)
theorem iRunL {w : Wd} (h : WdOk w) (l : List Dd) (hl : l.length ≤ 1048576) : m_impl_WorldRun_l1 l FUEL (st9 0 (0, w)) = some ((l.foldl wdStep (0, w)).1, o7 (l.foldl wdStep (0, w)).2) := by
  have hh := loop_all (m_impl_WorldRun_l1 l) (fun k => st9 k ((l.take k).foldl wdStep (0, w))) l.length (some ((l.foldl wdStep (0, w)).1, o7 (l.foldl wdStep (0, w)).2)) (by omega) (fun k fuel hk => ?_) (fun fuel => ?_)
  · exact hh
  · rw [e_impl_WorldRun_l1, m_impl_WorldRun_l1s]
    have hc := fold_cnt l w k
    have hok := wdFold_ok (l.take k) (s := ((0 : Int), w)) h
    simp only [take_fold wdStep _ _ ((0, 0, 0) : Dd) hk]
    generalize (l.take k).foldl wdStep (0, w) = s at hc hok
    have hd := iWorldDo (sm_of hok) (l.getD k ((0, 0, 0) : Dd)).1 (l.getD k ((0, 0, 0) : Dd)).2.1 (l.getD k ((0, 0, 0) : Dd)).2.2
    have e1 : w64 (s.1 + 1) = s.1 + 1 := w64_in (by omega) (by omega)
    simp only [st9, o7, lt_dec hk, ix_dec hk, cond_true, chk_true, Int.toNat_natCast, hd, Option.bind_some, o8, w64_succ (by omega : k < 4611686018427387904)]
    unfold wdStep
    cases hr : (wdDo s.2 (l.getD k ((0, 0, 0) : Dd)).1 (l.getD k ((0, 0, 0) : Dd)).2.1 (l.getD k ((0, 0, 0) : Dd)).2.2).2
    · simp only [cond_false, Option.bind_some, Bool.false_eq_true, if_false]
    · simp only [cond_true, Option.bind_some, if_true, e1]
  · rw [e_impl_WorldRun_l1, m_impl_WorldRun_l1s]
    simp only [st9, o7, nlt_dec, cond_false, List.take_length]
theorem sRunL {w : Wd} (h : WdOk w) (l : List Dd) (hl : l.length ≤ 1048576) : m_spec_WorldRun_l1 l FUEL (st9 0 (0, w)) = some ((l.foldl wdStep (0, w)).1, o7 (l.foldl wdStep (0, w)).2) := by
  have hh := loop_all (m_spec_WorldRun_l1 l) (fun k => st9 k ((l.take k).foldl wdStep (0, w))) l.length (some ((l.foldl wdStep (0, w)).1, o7 (l.foldl wdStep (0, w)).2)) (by omega) (fun k fuel hk => ?_) (fun fuel => ?_)
  · exact hh
  · rw [e_spec_WorldRun_l1, m_spec_WorldRun_l1s]
    have hc := fold_cnt l w k
    have hok := wdFold_ok (l.take k) (s := ((0 : Int), w)) h
    simp only [take_fold wdStep _ _ ((0, 0, 0) : Dd) hk]
    generalize (l.take k).foldl wdStep (0, w) = s at hc hok
    have hd := sWorldDo (sm_of hok) (l.getD k ((0, 0, 0) : Dd)).1 (l.getD k ((0, 0, 0) : Dd)).2.1 (l.getD k ((0, 0, 0) : Dd)).2.2
    have e1 : w64 (s.1 + 1) = s.1 + 1 := w64_in (by omega) (by omega)
    simp only [st9, o7, lt_dec hk, ix_dec hk, cond_true, chk_true, Int.toNat_natCast, hd, Option.bind_some, o8, w64_succ (by omega : k < 4611686018427387904)]
    unfold wdStep
    cases hr : (wdDo s.2 (l.getD k ((0, 0, 0) : Dd)).1 (l.getD k ((0, 0, 0) : Dd)).2.1 (l.getD k ((0, 0, 0) : Dd)).2.2).2
    · simp only [cond_false, Option.bind_some, Bool.false_eq_true, if_false]
    · simp only [cond_true, Option.bind_some, if_true, e1]
  · rw [e_spec_WorldRun_l1, m_spec_WorldRun_l1s]
    simp only [st9, o7, nlt_dec, cond_false, List.take_length]
theorem iWorldRun {w : Wd} (sm : Sm w) (l : List Dd) (hl : l.length ≤ 1048576) : m_impl_WorldRun w.b w.ls w.pts w.on w.earth w.pm w.br l = some (o8n (wdRun w l)) := by
  unfold m_impl_WorldRun wdRun
  rw [iWv w.b w.ls w.pts w.on w.earth w.pm w.br sm.p sm.o sm.m sm.b, Option.bind_some]
  cases hv : wv w
  · rfl
  rw [cond_true, iClone7 sm, Option.bind_some]
  simp only [o7]
  rw [show m_impl_WorldRun_l1 l FUEL (0, 0, w.b, w.ls, w.pts, w.on, w.earth, w.pm, w.br) = _ from iRunL (wv_iff.1 hv) l hl]
  rfl
theorem sWorldRun {w : Wd} (sm : Sm w) (l : List Dd) (hl : l.length ≤ 1048576) : m_spec_WorldRun w.b w.ls w.pts w.on w.earth w.pm w.br l = some (o8n (wdRun w l)) := by
  unfold m_spec_WorldRun wdRun
  rw [sWv w.b w.ls w.pts w.on w.earth w.pm w.br sm.p sm.o sm.m sm.b, Option.bind_some]
  cases hv : wv w
  · rfl
  rw [cond_true, sCopy7 sm, Option.bind_some]
  simp only [o7]
  rw [show m_spec_WorldRun_l1 l FUEL (0, 0, w.b, w.ls, w.pts, w.on, w.earth, w.pm, w.br) = _ from sRunL (wv_iff.1 hv) l hl]
  rfl
theorem sm0 : Sm .zero := ⟨by decide, by decide, by decide, by decide, by decide, by decide⟩
theorem wdRun_small {w : Wd} (l : List Dd) : Sm (wdRun w l).2 := by
  cases hv : wv w
  · unfold wdRun; rw [hv, if_neg (by decide)]; exact sm0
  · exact sm_of (wdRun_ok (wv_iff.1 hv) l)
end Go.Proofs.YtekcjnpahohkaaaGreat
namespace Go.Proofs.YtekcjnpahohkaaaGreat
set_option linter.unusedVariables false
set_option linter.unusedSimpArgs false
def hdP (w : Wd) : List Dd := if wv w = true then healP w else []
def rsP (w : Wd) : Wd := (wdRun w (hdP w)).2
theorem hd_len (w : Wd) : (hdP w).length ≤ 1000 := by
  unfold hdP
  split
  · rename_i h; exact heal_len (wv_iff.1 h)
  · simp
theorem iHeal' {w : Wd} (h : Sm w) : m_impl_HealDeeds w.b w.ls w.pts w.on w.earth w.pm w.br = some (hdP w) := iHeal w.b w.ls w.pts w.on w.earth w.pm w.br h.p h.o h.m h.b
theorem sHeal' {w : Wd} (h : Sm w) : m_spec_HealDeeds w.b w.ls w.pts w.on w.earth w.pm w.br = some (hdP w) := sHeal w.b w.ls w.pts w.on w.earth w.pm w.br h.p h.o h.m h.b
theorem rs_small (w : Wd) : Sm (rsP w) := wdRun_small (w := w) (hdP w)
theorem iRest {w : Wd} (h : Sm w) : m_impl_WorldRest w.b w.ls w.pts w.on w.earth w.pm w.br = some (o7 (rsP w)) := by
  have hl := hd_len w
  unfold m_impl_WorldRest
  rw [iHeal' h, Option.bind_some, iWorldRun h (hdP w) (by omega)]
  rfl
theorem sRest {w : Wd} (h : Sm w) : m_spec_WorldRest w.b w.ls w.pts w.on w.earth w.pm w.br = some (o7 (rsP w)) := by
  have hl := hd_len w
  unfold m_spec_WorldRest
  rw [sHeal' h, Option.bind_some, sWorldRun h (hdP w) (by omega)]
  rfl
theorem core_ExactWorldRest (b : Int) (ls : List Ln) (pts : List (Int × Int)) (on earth : List Bool) (pm : Pm) (br : List Int) (hl : ls.length ≤ 1048576) (hp : pts.length ≤ 1048576) (ho : on.length ≤ 1048576) (he : earth.length ≤ 1048576) (hm : pm.length ≤ 1048576) (hb : br.length ≤ 1048576) (_ : inR b) (_ : ∀ z ∈ ls, inR z.1 ∧ inR z.2.1 ∧ inR z.2.2) (_ : ∀ z ∈ pts, inR z.1 ∧ inR z.2) (_ : ∀ z ∈ on, True) (_ : ∀ z ∈ earth, True) (_ : ∀ z ∈ pm, inR z.1 ∧ inR z.2) (_ : ∀ z ∈ br, inR z) :
    ∃ r, m_spec_WorldRest b ls pts on earth pm br = some r ∧ m_impl_WorldRest b ls pts on earth pm br = some r ∧ r.2.1.length ≤ 1048576 ∧ r.2.2.1.length ≤ 1048576 ∧ r.2.2.2.1.length ≤ 1048576 ∧ r.2.2.2.2.1.length ≤ 1048576 ∧ r.2.2.2.2.2.1.length ≤ 1048576 ∧ r.2.2.2.2.2.2.length ≤ 1048576 := by
  have sm : Sm ⟨b, ls, pts, on, earth, pm, br⟩ := ⟨hl, hp, ho, he, hm, hb⟩
  have s2 := rs_small ⟨b, ls, pts, on, earth, pm, br⟩
  have i1 := iRest (w := ⟨b, ls, pts, on, earth, pm, br⟩) sm
  have i2 := sRest (w := ⟨b, ls, pts, on, earth, pm, br⟩) sm
  generalize rsP ⟨b, ls, pts, on, earth, pm, br⟩ = x at i1 i2 s2
  exact ⟨o7 x, i2, i1, s2.l, s2.p, s2.o, s2.e, s2.m, s2.b⟩
end Go.Proofs.YtekcjnpahohkaaaGreat
