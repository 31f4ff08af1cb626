/- NetGood of the reference: ways by the lines through which buses are fed; the flows are flowP. -/
import Derived.Test.YtcmnjaccapbhfaaGreatQFlI
namespace Go.Proofs.YtcmnjaccapbhfaaGreat
set_option linter.unusedVariables false
set_option linter.unusedSimpArgs false
section
variable {ls:List Ln} {on:List Bool} {pts:List (Int×Int)} (h1:StOk (pts.length:Int) ls on) (h2:BusOk (pts.length:Int) ls pts)
include h1 h2
theorem sIslLoad {k:Nat} (hk : k < pts.length) : m_spec_IslandLoad (pts.length:Int) ls on pts (k:Int)=some (sumE (onE ls on) pts (·.2) k):=by
 have hB:=h1.net.b1
 unfold m_spec_IslandLoad m_spec_l1In
 have w1 : w64 ((pts.length:Int) - 1)=(pts.length:Int) - 1:=w64_in (by omega) (by omega)
 have c1:(leB 0 (k:Int) && leB (k:Int) ((pts.length:Int) - 1))=true:=by simp [leB]; omega
 rw [sFed _ ls pts (by omega),okV_iff.2 ⟨h1,h2⟩,Option.bind_some,w1,c1]
 simp only [Bool.not_true,Bool.not_false,gb_true,Option.bind_some,Bool.or_self,cond_false,sReached h1 hk]
 rw [← reach_sum]
 have hl:=reachL_len (onE ls on) pts.length k
 have hm : ∀ c ∈ reachL (onE ls on) pts.length k,c < pts.length:=fun c hc=>by have:=(List.mem_filter.1 hc).1; simpa using this
 generalize reachL (onE ls on) pts.length k=l at *
 have hh:=loop_all (m_spec_IslandLoad_l1 pts (zl l)) (fun j=>(((l.take j).map fun c=>(pts.getD c (0,0)).2).sum,(j:Int))) l.length (some ((l.map fun c=>(pts.getD c (0,0)).2).sum)) (by omega) (fun j fuel hj=>?_) (fun fuel=>?_)
 ·rw [show m_spec_IslandLoad_l1 pts (zl l) FUEL (0,0)=_ from hh]; rfl
 ·rw [m_spec_IslandLoad_l1.eq_2]
  have hc : l.getD j 0 < pts.length:=hm _ (by rw [getD_ge hj]; exact List.getElem_mem hj)
  have hb:=sum_sub (l.take j) (fun c=>(pts.getD c (0,0)).2) (fun c hc=>(h2.bs c (hm c (List.mem_of_mem_take hc))).2)
  have hlen:(l.take j).length=j:=by rw [List.length_take]; omega
  have hx:=(h2.bs _ hc).2
  rw [hlen] at hb
  have w2 : w64 (((l.take j).map fun c=>(pts.getD c (0,0)).2).sum+(pts.getD (l.getD j 0) (0,0)).2)=((l.take j).map fun c=>(pts.getD c (0,0)).2).sum+(pts.getD (l.getD j 0) (0,0)).2:=w64_in (by omega) (by omega)
  simp only [zl_len,lt_dec hj,ix_dec hj,cond_true,chk_true,Int.toNat_natCast,zl_get,ix_dec hc,w2,w64_succ (by omega : j < 4611686018427387904)]
  rw [sum_take_succ hj]
 ·rw [m_spec_IslandLoad_l1.eq_2]; simp only [zl_len,nlt_dec,cond_false,List.take_length]
end
theorem sweep_inv {Pr:Nat → Prop} (E:Ed):(∀ e ∈ E,Pr e.1 ↔ Pr e.2) → ∀ {s:Nat → Bool},(∀ c,s c=true → Pr c) → ∀ c,sweep E s c=true → Pr c:=by
 induction E with
 | nil=>intro _ s h c hc; exact h c hc
 | cons e E ih =>
  intro hE s h c hc
  refine ih (fun x hx=>hE x (by simp [hx])) (s:=hit s e) (fun c hc=>?_) c hc
  unfold hit at hc
  split at hc
  ·rename_i hs
   have he:=hE e (by simp)
   have h3:Pr e.1∧Pr e.2:=by
    rw [Bool.or_eq_true] at hs
    rcases hs with hs | hs
    ·exact ⟨h _ hs,he.1 (h _ hs)⟩
    ·exact ⟨he.2 (h _ hs),h _ hs⟩
   simp only [Bool.or_eq_true,beq_iff_eq] at hc
   rcases hc with (rfl | rfl) | hc
   ·exact h3.1
   ·exact h3.2
   ·exact h c hc
  ·exact h c hc
theorem sweeps_all {E:Ed} {B:Nat} (hE : ∀ e ∈ E,e.1 < B∧e.2 < B) (s0:Nat → Bool) (c:Nat) : sweeps E s0 B c=true ↔ ∃ b,s0 b=true∧Cn E b c:=by
 have hsh : ∀ k,Shut E (sweeps E s0 k) ∨ k ≤ (List.range B).countP (sweeps E s0 k):=by
  intro k
  induction k with
  | zero=>exact .inr (Nat.zero_le _)
  | succ k ih =>
   by_cases hs:Shut E (sweeps E s0 k)
   ·left
    have e : sweeps E s0 (k+1)=sweeps E s0 k:=funext (shut_stays hs)
    rw [e]; exact hs
   ·rcases ih with ih | ih
    ·exact absurd ih hs
    right
    have hm : ∀ c,sweeps E s0 k c=true → sweeps E s0 (k+1) c=true:=fun c hc=>sweep_mono E hc
    obtain ⟨e,he,hne⟩ : ∃ e ∈ E,sweeps E s0 k e.1 ≠ sweeps E s0 k e.2:=by
     refine Classical.byContradiction fun hn=>hs fun e he=>Classical.byContradiction fun h=>hn ⟨e,he,h⟩
    have hor:(sweeps E s0 k e.1 || sweeps E s0 k e.2)=true:=by
     revert hne; cases sweeps E s0 k e.1 <;> cases sweeps E s0 k e.2 <;> simp
    have hh:=sweep_hit E he hor
    have hlt:=hE e he
    have:=(count_lt (List.range B) hm).2 (by
     cases h1 : sweeps E s0 k e.1
     ·exact ⟨e.1,by simpa using hlt.1,hh.1,h1⟩
     ·cases h2 : sweeps E s0 k e.2
      ·exact ⟨e.2,by simpa using hlt.2,hh.2,h2⟩
      ·rw [h1,h2] at hne; exact absurd rfl hne)
    omega
 have hs:Shut E (sweeps E s0 B):=by
  rcases hsh B with h | h
  ·exact h
  ·intro e he
   have hall : ∀ x ∈ List.range B,sweeps E s0 B x=true:=by
    have h3:=List.countP_le_length (p:=sweeps E s0 B) (l:=List.range B)
    rw [List.length_range] at h3
    exact List.countP_eq_length.1 (by rw [List.length_range]; omega)
   rw [hall e.1 (by simpa using (hE e he).1),hall e.2 (by simpa using (hE e he).2)]
 constructor
 ·intro h
  have hinv : ∀ k c,sweeps E s0 k c=true → ∃ b,s0 b=true∧Cn E b c:=by
   intro k
   induction k with
   | zero=>intro c hc; exact ⟨c,hc,.refl _⟩
   | succ k ih =>
    refine sweep_inv E (fun e he=>?_) ih
    constructor
    ·rintro ⟨b,h1,h2⟩; exact ⟨b,h1,h2.step (.inl he)⟩
    ·rintro ⟨b,h1,h2⟩; exact ⟨b,h1,h2.step (.inr he)⟩
  exact hinv B c h
 ·rintro ⟨b,h1,h2⟩
  have hb : ∀ k,sweeps E s0 k b=true:=by
   intro k
   induction k with
   | zero=>exact h1
   | succ k ih=>exact sweep_mono E ih
  induction h2 with
  | refl=>exact hb B
  | step _ e ih =>
   rcases e with e | e
   ·rw [← hs _ e]; exact ih
   ·rw [hs _ e]; exact ih
structure PI (ls:List Ln) (on:List Bool) (pts:List (Int×Int)) (q:Nat → Int):Prop where
 feed : ∀ b,b < pts.length → feedA pts b=true → q b=-1
 neg : ∀ b,b < pts.length → q b=-1 → feedA pts b=true
 low : ∀ b,b < pts.length → -2 ≤ q b
 hi : ∀ b,b < pts.length → 0 ≤ q b → (q b).toNat < ls.length
 rk : ∃ rk:Nat → Nat,∀ b,b < pts.length → 0 ≤ q b → ∃ c,Lk ls on (q b).toNat b c∧c < pts.length∧-2 < q c∧rk c < rk b
theorem PI.put {ls:List Ln} {on:List Bool} {pts:List (Int×Int)} {q:Nat → Int} (h:PI ls on pts q) {k b c:Nat} (hb : b < pts.length) (hq : q b=-2) (hl:Lk ls on k b c) (hc : c < pts.length) (hqc : -2 < q c):PI ls on pts (fun x=>if x=b then (k:Int) else q x):=by
 obtain ⟨rk,hrk⟩:=h.rk
 have hcb : c ≠ b:=fun e=>by subst e; omega
 refine ⟨fun x hx hf=>?_,fun x hx he=>?_,fun x hx=>?_,fun x hx h0=>?_,fun x=>if x=b then rk c+1 else rk x,fun x hx h0=>?_⟩
 ·try dsimp only
  split
  ·rename_i e; subst e; have:=h.feed x hx hf; omega
  ·exact h.feed x hx hf
 ·try dsimp only at he
  split at he
  ·omega
  ·exact h.neg x hx he
 ·try dsimp only
  split
  ·omega
  ·exact h.low x hx
 ·try dsimp only at h0 ⊢
  split at h0
  ·rename_i e; rw [if_pos e]; simpa using hl.1
  ·rename_i e; rw [if_neg e]; exact h.hi x hx h0
 ·try dsimp only at h0 ⊢
  by_cases e : x=b
  ·subst e
   rw [if_pos rfl,if_pos rfl]
   refine ⟨c,by simpa using hl,hc,?_,?_⟩
   ·rw [if_neg hcb]; exact hqc
   ·rw [if_neg hcb]; omega
  ·rw [if_neg e] at h0 ⊢
   obtain ⟨d,d1,d2,d3,d4⟩:=hrk x hx h0
   have hdb : d ≠ b:=fun e2=>by subst e2; omega
   refine ⟨d,d1,d2,?_,?_⟩
   ·rw [if_neg hdb]; exact d3
   ·rw [if_neg hdb,if_neg e]; exact d4
theorem PI.toPar {ls : List Ln} {on : List Bool} {pts : List (Int × Int)} {q : Nat → Int} (h : PI ls on pts q) (hs : ∀ c, c < pts.length → (-2 < q c ↔ fedB (onE ls on) pts c = true)) : ∃ rk, Par ls on pts (fun b => (tab pts.length q).getD b (-1)) rk := by
  obtain ⟨rk, hrk⟩ := h.rk
  have hg : ∀ b, b < pts.length → (tab pts.length q).getD b (-1) = q b := fun b hb => by simp [tab, List.getD, hb]
  refine ⟨rk, ⟨fun b hb hf => ?_, fun b hb => ?_, fun b hb => ?_⟩⟩
  · try dsimp only
    rw [hg b hb]
    have h1 := (hs b hb).2 hf
    by_cases h2 : q b = -1
    · exact .inl (h.neg b hb h2)
    · exact .inr (by omega)
  · have hlt := feedA_lt hb
    try dsimp only
    rw [hg b hlt, h.feed b hlt hb]; omega
  · have hlt : b < pts.length := by
      rcases Nat.lt_or_ge b pts.length with h1 | h1
      · exact h1
      · try dsimp only at hb
        rw [List.getD_eq_getElem?_getD, List.getElem?_eq_none (by rw [tab_len]; exact h1)] at hb; simp at hb
    try dsimp only at hb ⊢
    rw [hg b hlt] at hb ⊢
    obtain ⟨c, c1, c2, c3, c4⟩ := hrk b hlt hb
    exact ⟨c, c1, c2, (hs c c2).1 c3, c4⟩
section
variable {ls:List Ln} {on:List Bool} {pts:List (Int×Int)} (h1:StOk (pts.length:Int) ls on) (h2:BusOk (pts.length:Int) ls pts)
include h1 h2
omit h2 in
theorem sPar3 {p0 : List Int} (hp0 : p0.length = pts.length) {q : Nat → Int} (hq : PI ls on pts q) {s0 : Nat → Bool} (hs : ∀ c, c < pts.length → decide (-2 < q c) = s0 c) :
    ∃ q', m_spec_l6Parents_l3 ls on p0 FUEL (tab pts.length q, 0) = some (tab pts.length q') ∧ PI ls on pts q' ∧ ∀ c, c < pts.length → decide (-2 < q' c) = sweep (onE ls on) s0 c := by
  have hll := h1.net.ll; have hl := h1.len
  obtain ⟨s, ⟨q', rfl, r1, r2⟩, hh⟩ := loop_rel (m_spec_l6Parents_l3 ls on p0) (fun k s => ∃ q, s = (tab pts.length q, (k : Int)) ∧ PI ls on pts q ∧ ∀ c, c < pts.length → decide (-2 < q c) = sweep (onL ((ls.zip on).take k)) s0 c) ls.length (fun s => some s.1) (by omega) (by
    rintro k fuel s hk ⟨q, rfl, r1, r2⟩
    rw [m_spec_l6Parents_l3.eq_2]
    have hln := ln_nat (h1.net.ln k hk)
    simp only [Int.toNat_natCast] at hln
    have hne := (h1.net.ln k hk).ne
    rw [hln.1, hln.2.1] at hne
    have hlt : ltB (k : Int) (on.length : Int) = true := by rw [hl]; exact lt_dec hk
    simp only [hlt, ix_dec hk, ix_dec (show k < on.length by omega), chk_true, cond_true, Int.toNat_natCast, w64_succ (by omega : k < 4611686018427387904)]
    rw [hln.1, hln.2.1]
    obtain ⟨e, he⟩ : ∃ e, edgeE (ls.getD k (0, 0, 0)) = e := ⟨_, rfl⟩
    rw [he] at hln hne ⊢
    have hAB : e.1 ≠ e.2 := by omega
    have xA : ixB (e.1 : Int) p0.length = true := by rw [hp0]; exact ix_dec hln.2.2.1
    have xB : ixB (e.2 : Int) p0.length = true := by rw [hp0]; exact ix_dec hln.2.2.2
    simp only [xA, xB, Int.toNat_natCast, Bool.or_true, chk_true]
    cases ho : on.getD k false
    · simp only [Bool.false_and, cond_false, Option.bind_some]
      exact ⟨_, ⟨q, rfl, r1, by rw [zip_at h1 hk, ho]; simpa using r2⟩, rfl⟩
    · have hlkA : Lk ls on k e.2 e.1 := ⟨hk, ho, .inr he⟩
      have hlkB : Lk ls on k e.1 e.2 := ⟨hk, ho, .inl he⟩
      have sA := r2 e.1 hln.2.2.1
      have sB := r2 e.2 hln.2.2.2
      simp only [Bool.true_and, tab_get hln.2.2.1, tab_get hln.2.2.2]
      by_cases c1 : -2 < q e.1 ∧ q e.2 = -2
      · have g1 : (ltB (-2) (q e.1) && (q e.2 == -2)) = true := by simp [ltB, c1.1, c1.2]
        obtain ⟨q1, hq1⟩ : ∃ q1 : Nat → Int, q1 = fun x => if x = e.2 then (k : Int) else q x := ⟨_, rfl⟩
        have hset : (tab pts.length q).set e.2 (k : Int) = tab pts.length q1 := by rw [hq1]; exact tab_set hln.2.2.2 (if_pos rfl) fun j _ hj => if_neg hj
        have qA : q1 e.1 = q e.1 := by rw [hq1]; exact if_neg hAB
        have qB : q1 e.2 = (k : Int) := by rw [hq1]; exact if_pos rfl
        have g2 : (ltB (-2) (k : Int) && (q e.1 == -2)) = false := by
          have : (q e.1 == -2) = false := by simp; omega
          rw [this, Bool.and_false]
        simp only [g1, cond_true, Option.bind_some, hset, tab_get hln.2.2.1, tab_get hln.2.2.2, qA, qB, g2, cond_false]
        subst hq1
        refine ⟨_, ⟨_, rfl, r1.put hln.2.2.2 c1.2 hlkA hln.2.2.1 c1.1, fun c hc => ?_⟩, rfl⟩
        rw [zip_at h1 hk, ho, if_pos rfl, he, sweep_snoc]
        have hor : (sweep (onL ((ls.zip on).take k)) s0 e.1 || sweep (onL ((ls.zip on).take k)) s0 e.2) = true := by rw [← sA, decide_eq_true c1.1]; rfl
        unfold hit
        rw [if_pos hor]
        try dsimp only
        by_cases hc2 : c = e.2
        · subst hc2; rw [if_pos rfl]; simp; omega
        · rw [if_neg hc2]
          by_cases hc1 : c = e.1
          · subst hc1; simp [c1.1]
          · rw [r2 c hc]; simp [hc1, hc2]
      · have g1 : (ltB (-2) (q e.1) && (q e.2 == -2)) = false := by
          rw [Bool.eq_false_iff]; intro h; simp [ltB] at h; exact c1 h
        simp only [g1, cond_false, Option.bind_some, tab_get hln.2.2.1, tab_get hln.2.2.2]
        by_cases c2 : -2 < q e.2 ∧ q e.1 = -2
        · have g2 : (ltB (-2) (q e.2) && (q e.1 == -2)) = true := by simp [ltB, c2.1, c2.2]
          have hset : (tab pts.length q).set e.1 (k : Int) = tab pts.length (fun x => if x = e.1 then (k : Int) else q x) := tab_set hln.2.2.1 (if_pos rfl) fun j _ hj => if_neg hj
          simp only [g2, cond_true, Option.bind_some, hset]
          refine ⟨_, ⟨_, rfl, r1.put hln.2.2.1 c2.2 hlkB hln.2.2.2 c2.1, fun c hc => ?_⟩, rfl⟩
          rw [zip_at h1 hk, ho, if_pos rfl, he, sweep_snoc]
          have hor : (sweep (onL ((ls.zip on).take k)) s0 e.1 || sweep (onL ((ls.zip on).take k)) s0 e.2) = true := by rw [← sB, decide_eq_true c2.1, Bool.or_true]
          unfold hit
          rw [if_pos hor]
          try dsimp only
          by_cases hc2 : c = e.1
          · subst hc2; rw [if_pos rfl]; simp; omega
          · rw [if_neg hc2]
            by_cases hc1 : c = e.2
            · subst hc1; simp [c2.1]
            · rw [r2 c hc]; simp [hc1, hc2]
        · have g2 : (ltB (-2) (q e.2) && (q e.1 == -2)) = false := by
            rw [Bool.eq_false_iff]; intro h; simp [ltB] at h; exact c2 h
          simp only [g2, cond_false, Option.bind_some]
          refine ⟨_, ⟨q, rfl, r1, fun c hc => ?_⟩, rfl⟩
          rw [zip_at h1 hk, ho, if_pos rfl, he, sweep_snoc, r2 c hc]
          have lA := r1.low e.1 hln.2.2.1
          have lB := r1.low e.2 hln.2.2.2
          unfold hit
          split
          · rename_i hor
            rw [← sA, ← sB, Bool.or_eq_true, decide_eq_true_eq, decide_eq_true_eq] at hor
            have hA : -2 < q e.1 := by omega
            have hB : -2 < q e.2 := by omega
            by_cases hc1 : c = e.1
            · subst hc1; rw [← sA]; simp [hA]
            · by_cases hc2 : c = e.2
              · subst hc2; rw [← sB]; simp [hB]
              · simp [hc1, hc2]
          · rfl) (by
    rintro fuel s ⟨q, rfl, r1, r2⟩
    rw [m_spec_l6Parents_l3.eq_2]
    have hlt : ltB (ls.length : Int) (on.length : Int) = false := by rw [hl]; exact nlt_dec
    simp only [hlt, cond_false]) (tab pts.length q, 0) ⟨q, rfl, hq, by simpa [sweep, onL] using hs⟩
  refine ⟨q', hh, r1, ?_⟩
  rw [zip_all h1] at r2; exact r2
omit h2 in
theorem sParents : ∃ q,m_spec_l6Parents (pts.length:Int) ls on pts=some (tab pts.length q)∧PI ls on pts q∧∀ c,c < pts.length → (-2 < q c ↔ fedB (onE ls on) pts c=true):=by
 have hB:=h1.net.b1
 unfold m_spec_l6Parents
 have q0:PI ls on pts (fun b=>if feedA pts b=true then -1 else -2):=by
  have e : ∀ b,(feedA pts b=true∧(if feedA pts b=true then (-1:Int) else -2)=-1) ∨ (feedA pts b=false∧(if feedA pts b=true then (-1:Int) else -2)=-2):=fun b=>by cases h : feedA pts b <;> simp
  refine ⟨fun b _ h=>if_pos h,fun b _ h=>?_,fun b _=>?_,fun b _ h=>?_,fun _=>0,fun b _ h=>?_⟩
  ·rcases e b with ⟨g,g2⟩ | ⟨g,g2⟩
   ·exact g
   ·rw [g2] at h; omega
  ·rcases e b with ⟨g,g2⟩ | ⟨g,g2⟩ <;> rw [g2] <;> omega
  ·rcases e b with ⟨g,g2⟩ | ⟨g,g2⟩ <;> rw [g2] at h <;> omega
  ·rcases e b with ⟨g,g2⟩ | ⟨g,g2⟩ <;> rw [g2] at h <;> omega
 have l1 : m_spec_l6Parents_l1 (pts.length:Int) pts FUEL (([]:List Int),0)=some (tab pts.length (fun b=>if feedA pts b=true then -1 else -2)):=by
  have hh:=loop_all (m_spec_l6Parents_l1 (pts.length:Int) pts) (fun k=>(tab k (fun b=>if feedA pts b=true then -1 else -2),(k:Int))) pts.length (some (tab pts.length (fun b=>if feedA pts b=true then -1 else -2))) (by omega) (fun k fuel hk=>?_) (fun fuel=>?_)
  ·exact hh
  ·rw [m_spec_l6Parents_l1.eq_2]
   have a1 : ∀ x:Int,apB (tab k (fun b=>if feedA pts b=true then -1 else -2)).length ([x]:List Int).length=true:=fun x=>by rw [tab_len]; simp [apB]; omega
   have e : tab (k+1) (fun b=>if feedA pts b=true then (-1:Int) else -2)=tab k (fun b=>if feedA pts b=true then -1 else -2)++[if feedA pts k=true then -1 else -2]:=by simp [tab,List.range_succ]
   simp only [lt_dec hk,ix_dec hk,cond_true,chk_true,Int.toNat_natCast,a1,w64_succ (by omega : k < 4611686018427387904)]
   rw [e,show ltB 0 (pts.getD k (0,0)).1=feedA pts k from rfl]
   cases feedA pts k <;> rfl
  ·rw [m_spec_l6Parents_l1.eq_2]; simp only [nlt_dec,cond_false]
 rw [l1,Option.bind_some]
 obtain ⟨s,⟨q,rfl,r1,r2⟩,hh⟩:=loop_rel (m_spec_l6Parents_l2 (pts.length:Int) ls on (tab pts.length (fun b=>if feedA pts b=true then -1 else -2))) (fun k s=>∃ q,s=(tab pts.length q,(k:Int))∧PI ls on pts q∧∀ c,c < pts.length → decide (-2 < q c)=sweeps (onE ls on) (feedA pts) k c) pts.length (fun s=>some s.1) (by omega) (by
  rintro k fuel s hk ⟨q,rfl,r1,r2⟩
  rw [m_spec_l6Parents_l2.eq_2]
  obtain ⟨q',a1,a2,a3⟩:=sPar3 h1 (p0:=tab pts.length (fun b=>if feedA pts b=true then -1 else -2)) (tab_len _ _) r1 r2
  simp only [lt_dec hk,cond_true,a1,Option.bind_some,w64_succ (by omega : k < 4611686018427387904)]
  exact ⟨_,⟨q',rfl,a2,a3⟩,rfl⟩) (by
  rintro fuel s ⟨q,rfl,r1,r2⟩
  rw [m_spec_l6Parents_l2.eq_2]; simp only [nlt_dec,cond_false]) (tab pts.length (fun b=>if feedA pts b=true then -1 else -2),0) ⟨_,rfl,q0,fun c hc=>by
   show decide (-2 < if feedA pts c=true then (-1:Int) else -2)=feedA pts c
   cases feedA pts c <;> rfl⟩
 refine ⟨q,by rw [hh]; rfl,r1,fun c hc=>?_⟩
 have h3:=r2 c hc
 rw [← decide_eq_true_iff (p:=-2 < q c),h3,sweeps_all (st_lt h1),fedB_iff]
omit h2 in
theorem sWay {q:Nat → Int} (hq:PI ls on pts q) {b:Nat} {w:List Nat} (hw:Way ls on (fun b=>(tab pts.length q).getD b (-1)) b w) : b < pts.length → ∀ (fuel:Nat) (out:List Int),w.length < fuel → out.length+w.length ≤ 1000 → m_spec_l6Way_l1 (pts.length:Int) ls (tab pts.length q) fuel ((b:Int),out)=some (zl w++out):=by
 have hg : ∀ b,b < pts.length → (tab pts.length q).getD b (-1)=q b:=fun b hb=>by simp [tab,List.getD,hb]
 have hll:=h1.net.ll
 induction hw with
 | @top b h =>
  intro hb fuel out hf ho
  obtain ⟨g,rfl⟩ : ∃ g,fuel=g+1:=⟨fuel - 1,by omega⟩
  rw [m_spec_l6Way_l1.eq_2]
  try dsimp only at h
  rw [hg b hb] at h
  have : leB 0 (q b)=false:=by simp only [leB,decide_eq_false_iff_not]; omega
  simp only [tab_len,ix_dec hb,chk_true,Int.toNat_natCast,tab_get hb,this,cond_false]
  rfl
 | @step b c w h hlk _ ih =>
  intro hb fuel out hf ho
  obtain ⟨g,rfl⟩ : ∃ g,fuel=g+1:=⟨fuel - 1,by omega⟩
  rw [m_spec_l6Way_l1.eq_2]
  try dsimp only at h hlk ih ⊢
  rw [hg b hb] at h hlk ⊢
  rw [List.length_append,List.length_singleton] at hf ho
  obtain ⟨rk,hrk⟩:=hq.rk
  obtain ⟨c',k1,k2,_⟩:=hrk b hb h
  obtain rfl:=edge_inj hlk k1
  have hge : leB 0 (q b)=true:=by simpa [leB] using h
  obtain ⟨j,hj⟩ : ∃ j:Nat,q b=(j:Int):=⟨(q b).toNat,by omega⟩
  have hne:=(h1.net.ln j (by rw [hj] at hlk; simpa using hlk.1)).ne
  have hlj:Lk ls on j b c:=by rw [hj] at hlk; simpa using hlk
  have hln:=ln_nat (h1.net.ln j hlj.1)
  simp only [Int.toNat_natCast] at hln
  have ha : apB ([(q b)]:List Int).length out.length=true:=by simp [apB]; omega
  have w1 : w64 ((ls.length:Int) - 1)=(ls.length:Int) - 1:=w64_in (by omega) (by omega)
  have c1:(leB 0 (j:Int) && leB (j:Int) ((ls.length:Int) - 1))=true:=by have:=hlj.1; simp [leB]; omega
  have hoe : m_spec_OtherEnd (pts.length:Int) ls (q b) (b:Int)=some (c:Int):=by
   unfold m_spec_OtherEnd m_spec_l1In
   rw [sNet,netV_iff.2 h1.net,hj,w1,c1]
   simp only [Option.bind_some,Bool.not_true,Bool.not_false,gb_true,Bool.or_self,cond_false,ix_dec hlj.1,chk_true,Int.toNat_natCast]
   rw [hln.1,hln.2.1] at hne ⊢
   rcases hlj.2.2 with e | e
   ·rw [e]; simp
   ·rw [e] at hne ⊢
    have:(((c:Nat):Int) == ((b:Nat):Int))=false:=by simpa using hne
    simp [this]
  simp only [tab_len,ix_dec hb,chk_true,Int.toNat_natCast,tab_get hb,hge,cond_true,ha,hoe,Option.bind_some]
  rw [ih k2 g _ (by omega) (by simp; omega),hj,Int.toNat_natCast]
  simp [zl]
theorem sFlows (hr : radP ls on pts = true) : m_spec_l7Flows (pts.length : Int) ls on pts = some (tab ls.length (flowP ls on pts)) := by
  have hll := h1.net.ll; have hB := h1.net.b1; have hl := h1.len
  obtain ⟨q, q1, q2, q3⟩ := sParents h1
  obtain ⟨rk, P⟩ := q2.toPar q3
  have hg : ∀ b, b < pts.length → (tab pts.length q).getD b (-1) = q b := fun b hb => by simp [tab, List.getD, hb]
  have hways : ∀ b, ∃ w, Way ls on (fun b => (tab pts.length q).getD b (-1)) b w := fun b => P.way (rk b) b (Nat.le_refl _)
  obtain ⟨wy, hwy⟩ : ∃ wy : Nat → List Nat, ∀ b, Way ls on (fun b => (tab pts.length q).getD b (-1)) b (wy b) := ⟨fun b => Classical.choose (hways b), fun b => Classical.choose_spec (hways b)⟩
  have hwlt : ∀ b, ∀ k ∈ wy b, k < ls.length := by
    intro b k hk
    obtain ⟨d, d1, d2, _⟩ := Way.mem P (hwy b) k hk
    obtain ⟨c, hc, _⟩ := P.line d d1
    rw [← d2]; exact hc.1
  have hwnd : ∀ b, (wy b).Nodup := fun b => Way.nodup P (hwy b)
  have hwl : ∀ b, (wy b).length ≤ 10 := fun b => by have := nodup_len ls.length (wy b) (hwnd b) (hwlt b); omega
  have hf2 : ∀ c, c < pts.length → 0 ≤ (pts.getD c (0, 0)).2 ∧ (pts.getD c (0, 0)).2 ≤ 999 := fun c hc => (h2.bs c hc).2
  have hbd : ∀ x k, k ≤ pts.length → 0 ≤ ((List.range k).map fun b => if x ∈ wy b then (pts.getD b (0, 0)).2 else 0).sum ∧ ((List.range k).map fun b => if x ∈ wy b then (pts.getD b (0, 0)).2 else 0).sum ≤ 999 * k := by
    intro x k
    induction k with
    | zero => intro _; simp
    | succ k ih =>
      intro hk
      have i1 := ih (by omega)
      have i2 := hf2 k (by omega)
      rw [List.range_succ, List.map_append, List.sum_append]
      simp only [List.map_cons, List.map_nil, List.sum_cons, List.sum_nil]
      split <;> omega
  unfold m_spec_l7Flows
  have m1 : mkB (on.length : Int) = true := by simp [mkB]; omega
  rw [m1, chk_true, q1, Option.bind_some, hl]
  have hh := loop_all (m_spec_l7Flows_l1 (pts.length : Int) ls (tab pts.length q) on pts) (fun k => (tab ls.length (fun x => ((List.range k).map fun b => if x ∈ wy b then (pts.getD b (0, 0)).2 else 0).sum), (k : Int))) pts.length (some (tab ls.length (flowP ls on pts))) (by omega) (fun k fuel hk => ?_) (fun fuel => ?_)
  · have e0 : tab ls.length (fun x => ((List.range 0).map fun b => if x ∈ wy b then (pts.getD b (0, 0)).2 else 0).sum) = List.replicate ls.length 0 := by rw [← tab_0]; rfl
    rw [e0] at hh
    rw [show m_spec_l7Flows_l1 (pts.length : Int) ls (tab pts.length q) on pts FUEL (List.replicate ls.length 0, 0) = _ from hh]; rfl
  · rw [m_spec_l7Flows_l1.eq_2]
    have hway : m_spec_l6Way (pts.length : Int) ls (tab pts.length q) (k : Int) = some (zl (wy k)) := by
      unfold m_spec_l6Way
      have := hwl k
      rw [sWay h1 q2 (hwy k) hk FUEL [] (fuel_gt (by omega)) (by simp; omega)]; simp
    have i2 := hf2 k hk
    have hin := loop_all (m_spec_l7Flows_l2 on pts (tab ls.length (fun x => ((List.range k).map fun b => if x ∈ wy b then (pts.getD b (0, 0)).2 else 0).sum), (k : Int)) (zl (wy k))) (fun j => (tab ls.length (fun x => ((List.range k).map fun b => if x ∈ wy b then (pts.getD b (0, 0)).2 else 0).sum + if x ∈ (wy k).take j then (pts.getD k (0, 0)).2 else 0), (j : Int))) (wy k).length (some (tab ls.length (fun x => ((List.range k).map fun b => if x ∈ wy b then (pts.getD b (0, 0)).2 else 0).sum + if x ∈ wy k then (pts.getD k (0, 0)).2 else 0))) (by have := hwl k; omega) (fun j fuel hj => ?_) (fun fuel => ?_)
    · have e0 : tab ls.length (fun x => ((List.range k).map fun b => if x ∈ wy b then (pts.getD b (0, 0)).2 else 0).sum + if x ∈ (wy k).take 0 then (pts.getD k (0, 0)).2 else 0) = tab ls.length (fun x => ((List.range k).map fun b => if x ∈ wy b then (pts.getD b (0, 0)).2 else 0).sum) := tab_congr fun x _ => by simp
      rw [e0] at hin
      simp only [lt_dec hk, cond_true, hway, Option.bind_some, w64_succ (by omega : k < 4611686018427387904)]
      rw [show m_spec_l7Flows_l2 on pts (tab ls.length (fun x => ((List.range k).map fun b => if x ∈ wy b then (pts.getD b (0, 0)).2 else 0).sum), (k : Int)) (zl (wy k)) FUEL (tab ls.length (fun x => ((List.range k).map fun b => if x ∈ wy b then (pts.getD b (0, 0)).2 else 0).sum), 0) = _ from hin, Option.bind_some]
      congr 2
      refine tab_congr fun x _ => ?_
      rw [List.range_succ, List.map_append, List.sum_append]; simp
    · rw [m_spec_l7Flows_l2.eq_2]
      have hwj : (wy k).getD j 0 < ls.length := hwlt k _ (by rw [getD_ge hj]; exact List.getElem_mem hj)
      have hwo : (wy k).getD j 0 < on.length := by omega
      have hnot : (wy k).getD j 0 ∉ (wy k).take j := by
        intro hm
        obtain ⟨i, hi, he⟩ := List.mem_iff_getElem.1 hm
        rw [List.length_take] at hi
        rw [List.getElem_take, getD_ge hj] at he
        have hnd := hwnd k
        rw [List.nodup_iff_pairwise_ne, List.pairwise_iff_getElem] at hnd
        exact hnd i j (by omega) hj (by omega) he
      have b1 := hbd ((wy k).getD j 0) k (by omega)
      have ws : w64 (((List.range k).map fun b => if (wy k).getD j 0 ∈ wy b then (pts.getD b (0, 0)).2 else 0).sum + (if (wy k).getD j 0 ∈ (wy k).take j then (pts.getD k (0, 0)).2 else 0) + (pts.getD k (0, 0)).2) = ((List.range k).map fun b => if (wy k).getD j 0 ∈ wy b then (pts.getD b (0, 0)).2 else 0).sum + (pts.getD k (0, 0)).2 := by
        rw [if_neg hnot, Int.add_zero]; exact w64_in (by omega) (by omega)
      simp only [zl_len, lt_dec hj, ix_dec hj, cond_true, chk_true, Int.toNat_natCast, zl_get, ix_dec hwo, ix_dec hk, tab_get hwj, ws, w64_succ (by have := hwl k; omega : j < 4611686018427387904)]
      congr 2
      refine tab_set hwj ?_ fun x hx hne => ?_
      · have : (wy k).getD j 0 ∈ (wy k).take (j + 1) := by rw [List.take_succ_eq_append_getElem hj, getD_ge hj]; exact List.mem_append_right _ (List.mem_singleton_self _)
        exact congrArg (fun z => ((List.range k).map fun b => if (wy k).getD j 0 ∈ wy b then (pts.getD b (0, 0)).2 else 0).sum + z) (if_pos this)
      · have : x ∈ (wy k).take (j + 1) ↔ x ∈ (wy k).take j := by
          rw [List.take_succ_eq_append_getElem hj, List.mem_append, List.mem_singleton]
          constructor
          · rintro (h | h)
            · exact h
            · exact absurd (h.trans (getD_ge hj).symm) hne
          · exact .inl
        simp only [this]
    · rw [m_spec_l7Flows_l2.eq_2]; simp only [zl_len, nlt_dec, cond_false, List.take_length]
  · rw [m_spec_l7Flows_l1.eq_2]
    simp only [nlt_dec, cond_false]
    congr 1
    refine tab_congr fun x hx => sum_same fun b hb => ?_
    cases hf : fedB (onE ls on) pts b
    · have hn : x ∉ wy b := by
        have hwb := hwy b
        generalize wy b = w at hwb
        cases hwb with
        | top _ => simp
        | step u1 u2 _ => rw [Up.fed P ⟨u1, u2⟩] at hf; cases hf
      simp [hn]
    · have := Way.iff P hl hr (hwy b) hb hf (k := x)
      cases hx2 : fedB (onE ls (on.set x false)) pts b
      · rw [if_pos (this.2 hx2)]; simp
      · rw [if_neg fun hm => by have := this.1 hm; rw [hx2] at this; cases this]; simp
theorem sGood (hr : radP ls on pts=true) : m_spec_l7Good (pts.length:Int) ls on pts=some (goodP ls on pts):=by
 have hll:=h1.net.ll; have hB:=h1.net.b1; have hl:=h1.len
 unfold m_spec_l7Good goodP
 rw [hr]
 have a1:=loop_find (m_spec_l7Good_l1 (pts.length:Int) ls on pts) (fun k=>(k:Int)) pts.length (fun b=>feedA pts b && decide ((pts.getD b (0,0)).1 < sumE (onE ls on) pts (·.2) b)) (some (.inr false)) (some (.inl ())) (by omega) (fun k fuel hk=>?_) (fun fuel=>?_)
 ·rw [show m_spec_l7Good_l1 (pts.length:Int) ls on pts FUEL 0=_ from a1]
  have a2 : m_spec_l7Over (pts.length:Int) ls on pts=some (zl ((List.range ls.length).filter fun k=>decide ((ls.getD k (0,0,0)).2.2 < flowP ls on pts k))):=by
   unfold m_spec_l7Over
   rw [sFlows h1 h2 hr,Option.bind_some]
   have hh:=loop_filter (m_spec_l7Over_l1 ls on (tab ls.length (flowP ls on pts))) ls.length (fun k=>decide ((ls.getD k (0,0,0)).2.2 < flowP ls on pts k)) some (by omega) (fun k fuel l hk ha=>?_) (fun fuel l=>?_)
   ·rw [hh]; rfl
   ·rw [m_spec_l7Over_l1.eq_2]
    have hlt : ltB (k:Int) (on.length:Int)=true:=by rw [hl]; exact lt_dec hk
    simp only [hlt,cond_true,tab_len,ix_dec hk,chk_true,Int.toNat_natCast,tab_get hk,ha,w64_succ (by omega : k < 4611686018427387904)]
    show Option.bind (bif decide ((ls.getD k (0,0,0)).2.2 < flowP ls on pts k) then _ else _) _=_
    cases decide ((ls.getD k (0,0,0)).2.2 < flowP ls on pts k) <;> rfl
   ·rw [m_spec_l7Over_l1.eq_2]
    have hlt : ltB (ls.length:Int) (on.length:Int)=false:=by rw [hl]; exact nlt_dec
    simp only [hlt,cond_false]
  rw [a2]
  have a3:(((zl ((List.range ls.length).filter fun k=>decide ((ls.getD k (0,0,0)).2.2 < flowP ls on pts k))).length:Int) == 0)=!(List.range ls.length).any fun k=>decide ((ls.getD k (0,0,0)).2.2 < flowP ls on pts k):=by
   rw [Bool.eq_iff_iff,zl_len,beq_iff_eq,Bool.not_eq_true',List.any_eq_false]
   constructor
   ·intro h k hk hc
    have:=List.length_pos_of_mem (List.mem_filter (p:=fun k=>decide ((ls.getD k (0,0,0)).2.2 < flowP ls on pts k)).2 ⟨hk,hc⟩)
    omega
   ·intro h
    have:(List.range ls.length).filter (fun k=>decide ((ls.getD k (0,0,0)).2.2 < flowP ls on pts k))=[]:=List.filter_eq_nil_iff.2 h
    rw [this]; rfl
  rw [Bool.true_and]
  cases (List.range pts.length).any fun b=>feedA pts b && decide ((pts.getD b (0,0)).1 < sumE (onE ls on) pts (·.2) b)
  ·simp only [cond_false,Option.bind_some,Sum.elim_inl,a3,Bool.not_false,Bool.and_true]
  ·simp only [cond_true,Option.bind_some,Sum.elim_inr,Bool.not_true,Bool.and_false]
 ·rw [m_spec_l7Good_l1.eq_2]
  simp only [lt_dec hk,ix_dec hk,cond_true,chk_true,Int.toNat_natCast,sIslLoad h1 h2 hk,Bool.or_true,w64_succ (by omega : k < 4611686018427387904)]
  rw [show ltB 0 (pts.getD k (0,0)).1=feedA pts k from rfl]
  cases feedA pts k <;> rfl
 ·rw [m_spec_l7Good_l1.eq_2]; simp only [nlt_dec,cond_false]
end
theorem sNetGood (b:Int) (ls:List Ln) (on:List Bool) (pts:List (Int×Int)) (hp : pts.length ≤ 1048576) : m_spec_NetGood b ls on pts=some (okV b ls on pts && goodP ls on pts):=by
 unfold m_spec_NetGood
 rw [sRadial b ls on pts hp,Option.bind_some]
 cases hv : radB b ls on pts
 ·simp only [gb_false,Option.bind_some,Bool.false_and]
  congr 1
  cases ho : okV b ls on pts
  ·rfl
  ·cases hg : goodP ls on pts
   ·rfl
   ·have:=good_rad hg
    unfold radB at hv
    rw [ho,this] at hv; cases hv
 ·have hv':=hv
  unfold radB at hv'
  rw [Bool.and_eq_true] at hv'
  obtain ⟨h1,h2⟩:=okV_iff.1 hv'.1
  have hlp:=h2.lp
  subst hlp
  rw [sGood h1 h2 hv'.2,hv'.1]
  simp only [gb_true,Option.bind_some,Bool.true_and]
end Go.Proofs.YtcmnjaccapbhfaaGreat
