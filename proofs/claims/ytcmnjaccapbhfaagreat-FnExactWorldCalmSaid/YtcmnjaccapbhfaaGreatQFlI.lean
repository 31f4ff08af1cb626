/- NetGood of the program: the flows from the ends to the feeds are flowP; the model is goodB. -/
import Derived.Test.YtcmnjaccapbhfaaGreatQSum
import Derived.Test.YtcmnjaccapbhfaaGreatQHl
namespace Go.Proofs.YtcmnjaccapbhfaaGreat
set_option linter.unusedVariables false
set_option linter.unusedSimpArgs false
theorem sumP_bound {n:Nat} {f:Nat → Int} {p:Nat → Prop} (hf : ∀ b,b < n → 0 ≤ f b∧f b ≤ 999) : 0 ≤ sumP n f p∧sumP n f p ≤ 999 * n:=by
 unfold sumP
 induction n with
 | zero=>simp
 | succ n ih =>
  have h1:=ih fun b hb=>hf b (by omega)
  have h2:=hf n (by omega)
  rw [List.range_succ,List.map_append,List.sum_append]
  simp only [List.map_cons,List.map_nil,List.sum_cons,List.sum_nil]
  split <;> omega
def tab (n:Nat) (f:Nat → Int):List Int:=(List.range n).map f
theorem tab_len (n:Nat) (f:Nat → Int):(tab n f).length=n:=by simp [tab]
theorem tab_get {n k:Nat} {f:Nat → Int} (h : k < n):(tab n f).getD k 0=f k:=by simp [tab,List.getD,h]
theorem tab_set {n k:Nat} {f g:Nat → Int} {v:Int} (hk : k < n) (h1 : g k=v) (h2 : ∀ j,j < n → j ≠ k → g j=f j):(tab n f).set k v=tab n g:=by
 apply List.ext_getElem (by simp [tab])
 intro i a b
 have hi : i < n:=by simpa [tab] using b
 rw [List.getElem_set]
 simp only [tab,List.getElem_map,List.getElem_range]
 split
 ·rename_i e; subst e; exact h1.symm
 ·rename_i e; exact (h2 i hi (Ne.symm e)).symm
theorem tab_congr {n:Nat} {f g:Nat → Int} (h : ∀ j,j < n → f j=g j) : tab n f=tab n g:=List.map_congr_left fun j hj=>h j (by simpa using hj)
theorem tab_0 (n:Nat) : tab n (fun _=>0)=List.replicate n 0:=by
 apply List.ext_getElem (by simp [tab])
 intro i a b
 simp [tab]
open Classical in
noncomputable def flK (ls:List Ln) (on:List Bool) (pts:List (Int×Int)) (par:Nat → Int) (rk:Nat → Nat) (i k:Nat):Int:=if ∃ d,0 ≤ par d∧(par d).toNat=k∧i ≤ rk d then flowP ls on pts k else 0
theorem fed_lt {b:Int} {ls:List Ln} {on:List Bool} {pts:List (Int×Int)} (h2:BusOk b ls pts) {c:Nat} (h : fedB (onE ls on) pts c=true) : c < pts.length:=by
 obtain ⟨f,f1,f2⟩:=fedB_iff.1 h
 cases f2 with
 | refl=>exact feedA_lt f1
 | step _ e =>
  rcases e with e | e
  ·exact (onE_lt h2 on _ e).2
  ·exact (onE_lt h2 on _ e).1
theorem idx_at {l:List Nat} (h : l.Nodup) {i:Nat} (hi : i < l.length) : l.idxOf (l.getD i 0)=i:=by
 rw [getD_ge hi]
 have hm : l.idxOf l[i] < l.length:=List.idxOf_lt_length_iff.2 (List.getElem_mem hi)
 have h1:=List.getElem_idxOf hm
 rw [List.nodup_iff_pairwise_ne,List.pairwise_iff_getElem] at h
 rcases Nat.lt_trichotomy (l.idxOf l[i]) i with h2 | h2 | h2
 ·exact absurd h1 (h _ _ hm hi h2)
 ·exact h2
 ·exact absurd h1.symm (h _ _ hi hm h2)
section
variable {ls:List Ln} {on:List Bool} {pts:List (Int×Int)} {feed parent:List Int} {ord:List Nat} (h1:StOk (pts.length:Int) ls on) (h2:BusOk (pts.length:Int) ls pts) (hr : radP ls on pts=true) (T:TreeOk ls on pts feed parent ord)
include h2 T
theorem rk_inj : ∀ a b,fedB (onE ls on) pts a=true → fedB (onE ls on) pts b=true → ord.idxOf a=ord.idxOf b → a=b:=by
 intro a b ha hb e
 have ha':=(T.mem a).2 ⟨fed_lt h2 ha,ha⟩
 have hb':=(T.mem b).2 ⟨fed_lt h2 hb,hb⟩
 have h3:=List.getElem_idxOf (List.idxOf_lt_length_iff.2 ha')
 have h4:=List.getElem_idxOf (List.idxOf_lt_length_iff.2 hb')
 rw [← h3,← h4]
 congr 1
theorem rk_lt {d:Nat} (h : 0 ≤ parent.getD d (-1)) : ord.idxOf d < ord.length:=by
 obtain ⟨c,hc,_⟩:=T.par.line d h
 have hf : fedB (onE ls on) pts d=true:=Up.fed T.par ⟨h,hc⟩
 exact List.idxOf_lt_length_iff.2 ((T.mem d).2 ⟨fed_lt h2 hf,hf⟩)
include h1 hr
theorem iFlows : m_impl_tree_flows (pts.length : Int) ls feed parent (zl ord) pts = some (tab ls.length (flowP ls on pts)) := by
  have hll := h1.net.ll; have hB := h1.net.b1
  have hol : ord.length ≤ pts.length := nodup_len _ ord T.nd fun b hb => ((T.mem b).1 hb).1
  have hf2 : ∀ c, c < pts.length → 0 ≤ (pts.getD c (0, 0)).2 ∧ (pts.getD c (0, 0)).2 ≤ 999 := fun c hc => (h2.bs c hc).2
  unfold m_impl_tree_flows
  have m1 : mkB (ls.length : Int) = true := by simp [mkB]; omega
  have m2 : mkB (pts.length : Int) = true := by simp [mkB]; omega
  have w0 : w64 (((zl ord).length : Int) - 1) = (ord.length : Int) - 1 := by rw [zl_len, w64_in (by omega) (by omega)]
  rw [m1, m2, chk_true, chk_true, w0]
  have P := T.par
  have hh := loop_all (m_impl_tree_flows_l1 (pts.length : Int) ls feed parent (zl ord) pts) (fun k => (tab ls.length (flK ls on pts (fun b => parent.getD b (-1)) (fun b => ord.idxOf b) (ord.length - k)), tab pts.length (wantP ls on pts (fun b => parent.getD b (-1)) (fun b => ord.idxOf b) (ord.length - k)), (ord.length : Int) - (k : Int) - 1)) ord.length (some (tab ls.length (flowP ls on pts))) (by omega) (fun k fuel hk => ?_) (fun fuel => ?_)
  · have e1 : tab ls.length (flK ls on pts (fun b => parent.getD b (-1)) (fun b => ord.idxOf b) (ord.length - 0)) = List.replicate ls.length 0 := by
      rw [← tab_0]
      refine tab_congr fun j hj => ?_
      unfold flK
      rw [if_neg]
      rintro ⟨d, d1, _, d3⟩
      have := rk_lt h2 T d1
      dsimp only at d3; omega
    have e2 : tab pts.length (wantP ls on pts (fun b => parent.getD b (-1)) (fun b => ord.idxOf b) (ord.length - 0)) = List.replicate pts.length 0 := by
      rw [← tab_0]
      refine tab_congr fun j hj => sumP_none fun b hb => ?_
      rintro (⟨_, hF, hi⟩ | ⟨d, d1, d2, _⟩)
      · have := List.idxOf_lt_length_iff.2 ((T.mem j).2 ⟨hj, hF⟩)
        dsimp only at hi; omega
      · have := rk_lt h2 T d1.1
        dsimp only at d2; omega
    rw [e1, e2] at hh
    rw [show (ord.length : Int) - 1 = (ord.length : Int) - ((0 : Nat) : Int) - 1 by omega, hh]; rfl
  · -- the bus at i
    obtain ⟨i, hi⟩ : ∃ i, ord.length - k = i + 1 := ⟨ord.length - k - 1, by omega⟩
    have hio : i < ord.length := by omega
    have e0 : (ord.length : Int) - (k : Int) - 1 = (i : Int) := by omega
    have e3 : (ord.length : Int) - ((k + 1 : Nat) : Int) - 1 = (i : Int) - 1 := by omega
    have e4 : ord.length - (k + 1) = i := by omega
    rw [hi, e0, e3, e4, m_impl_tree_flows_l1.eq_2]
    obtain ⟨o, ho⟩ : ∃ o, ord.getD i 0 = o := ⟨_, rfl⟩
    have hom : o ∈ ord := by rw [← ho, getD_ge hio]; exact List.getElem_mem hio
    obtain ⟨hon, hof⟩ := (T.mem o).1 hom
    have hrk : ord.idxOf o = i := by rw [← ho]; exact idx_at T.nd hio
    have hpo : parent.getD o 0 = parent.getD o (-1) := by rw [getD_ge (by rw [T.lp]; exact hon), getD_ge (by rw [T.lp]; exact hon)]
    have hinj := rk_inj h2 T
    have hself := Par.want_self P (i := i) (o := o) hrk hon hof
    have hnow := Par.want_now P (i := i) (o := o) hrk hof
    have hb1 : 0 ≤ belowP ls on pts (fun b => parent.getD b (-1)) o ∧ belowP ls on pts (fun b => parent.getD b (-1)) o ≤ 999 * pts.length := sumP_bound hf2
    have ws : w64 (wantP ls on pts (fun b => parent.getD b (-1)) (fun b => ord.idxOf b) (i + 1) o + (pts.getD o (0, 0)).2) = belowP ls on pts (fun b => parent.getD b (-1)) o := by rw [hself]; exact w64_in (by omega) (by omega)
    have wi : w64 ((i : Int) - 1) = (i : Int) - 1 := w64_in (by omega) (by omega)
    have hge : leB 0 (i : Int) = true := by simp [leB]
    have hxo : ixB (o : Int) parent.length = true := by rw [T.lp]; exact ix_dec hon
    simp only [hge, cond_true, zl_len, ix_dec hio, chk_true, Int.toNat_natCast, zl_get, ho, ix_dec hon, hxo, tab_get hon, ws, wi]
    by_cases hp : 0 ≤ parent.getD o (-1)
    · obtain ⟨c, hlk, hc, hfc, hrc⟩ := P.line o hp
      obtain ⟨j, hj⟩ : ∃ j : Nat, parent.getD o (-1) = (j : Int) := ⟨(parent.getD o (-1)).toNat, by omega⟩
      have hlk' := hlk
      rw [hj, Int.toNat_natCast] at hlk
      have hne : c ≠ o := fun e => by subst e; omega
      have u : Up ls on (fun b => parent.getD b (-1)) o c := ⟨hp, hlk'⟩
      have hup := Par.want_up P hinj hrk u
      have habove : m_impl_tree_above (pts.length : Int) ls feed parent (zl ord) (o : Int) = some (c : Int) := by
        unfold m_impl_tree_above
        rw [hxo, chk_true, Int.toNat_natCast, hpo, hj, ix_dec hlk.1, chk_true, Int.toNat_natCast]
        obtain ⟨z, z1, z2⟩ := other_lk h1 (b := o) hlk.1
        rw [z1, Option.bind_some]
        rcases z2 with ⟨_, z3⟩ | ⟨c', rfl, _, _, z4⟩
        · exact absurd hlk (z3 c)
        · rw [z4 c hlk]
      have hgj : leB 0 (parent.getD o 0) = true := by rw [hpo]; simpa [leB] using hp
      have hxj : ixB (parent.getD o 0) ls.length = true := by rw [hpo, hj]; exact ix_dec hlk.1
      have hset1 : ((tab pts.length (wantP ls on pts (fun b => parent.getD b (-1)) (fun b => ord.idxOf b) (i + 1))).set o (belowP ls on pts (fun b => parent.getD b (-1)) o)).getD o 0 = belowP ls on pts (fun b => parent.getD b (-1)) o := gset (by rw [tab_len]; exact hon)
      have hset2 : ((tab pts.length (wantP ls on pts (fun b => parent.getD b (-1)) (fun b => ord.idxOf b) (i + 1))).set o (belowP ls on pts (fun b => parent.getD b (-1)) o)).getD c 0 = wantP ls on pts (fun b => parent.getD b (-1)) (fun b => ord.idxOf b) (i + 1) c := by rw [gset_ne (Ne.symm hne), tab_get hc]
      have hb2 : 0 ≤ wantP ls on pts (fun b => parent.getD b (-1)) (fun b => ord.idxOf b) i c ∧ wantP ls on pts (fun b => parent.getD b (-1)) (fun b => ord.idxOf b) i c ≤ 999 * pts.length := sumP_bound hf2
      have wc : w64 (wantP ls on pts (fun b => parent.getD b (-1)) (fun b => ord.idxOf b) (i + 1) c + belowP ls on pts (fun b => parent.getD b (-1)) o) = wantP ls on pts (fun b => parent.getD b (-1)) (fun b => ord.idxOf b) i c := by rw [← hup]; exact w64_in (by omega) (by omega)
      simp only [hgj, cond_true, hxj, chk_true, habove, Option.bind_some, ix_dec hc, ix_dec hon, Int.toNat_natCast, hset1, hset2, wc]
      congr 2
      · rw [hpo, hj, Int.toNat_natCast]
        have hfl : flowP ls on pts (parent.getD o (-1)).toNat = belowP ls on pts (fun b => parent.getD b (-1)) o := Par.flow P h1.len hr (d := o) hp
        have hbel : belowP ls on pts (fun b => parent.getD b (-1)) o = flowP ls on pts j := by
          rw [hj, Int.toNat_natCast] at hfl
          exact hfl.symm
        refine tab_set hlk.1 ?_ fun k' hk' hne' => ?_
        · unfold flK
          rw [if_pos ⟨o, hp, by dsimp only; rw [hj]; rfl, by dsimp only; omega⟩, hbel]
        · unfold flK
          by_cases hex : ∃ d, 0 ≤ (fun b => parent.getD b (-1)) d ∧ ((fun b => parent.getD b (-1)) d).toNat = k' ∧ i + 1 ≤ (fun b => ord.idxOf b) d
          · rw [if_pos hex]
            obtain ⟨d, d1, d2, d3⟩ := hex
            rw [if_pos ⟨d, d1, d2, by omega⟩]
          · rw [if_neg hex, if_neg]
            rintro ⟨d, d1, d2, d3⟩
            refine hex ⟨d, d1, d2, ?_⟩
            dsimp only at d1 d2 d3 ⊢
            rcases Nat.lt_or_ge i (ord.idxOf d) with h | h
            · exact h
            · exfalso
              obtain ⟨c', hc', _⟩ := P.line d d1
              have : d = o := hinj d o (Up.fed P ⟨d1, hc'⟩) hof (by omega)
              subst this
              rw [hj] at d2
              exact hne' (by simpa using d2.symm)
      · congr 1
        rw [tab_set (g := fun x => if x = o then belowP ls on pts (fun b => parent.getD b (-1)) o else wantP ls on pts (fun b => parent.getD b (-1)) (fun b => ord.idxOf b) (i + 1) x) hon (if_pos rfl) (fun j' _ hj' => if_neg hj')]
        refine tab_set hc rfl fun x hx hxc => ?_
        by_cases hxo2 : x = o
        · subst hxo2; rw [if_pos rfl]; exact hnow
        · rw [if_neg hxo2]
          exact Par.want_else P hinj hrk hof hxo2 fun u' => hxc (u'.inj u).symm.symm
    · have hgj : leB 0 (parent.getD o 0) = false := by rw [hpo]; simp only [leB, decide_eq_false_iff_not]; exact hp
      simp only [hgj, cond_false, Option.bind_some]
      congr 2
      · refine tab_congr fun k' hk' => ?_
        unfold flK
        by_cases hex : ∃ d, 0 ≤ (fun b => parent.getD b (-1)) d ∧ ((fun b => parent.getD b (-1)) d).toNat = k' ∧ i + 1 ≤ (fun b => ord.idxOf b) d
        · rw [if_pos hex]
          obtain ⟨d, d1, d2, d3⟩ := hex
          rw [if_pos ⟨d, d1, d2, by omega⟩]
        · rw [if_neg hex, if_neg]
          rintro ⟨d, d1, d2, d3⟩
          refine hex ⟨d, d1, d2, ?_⟩
          dsimp only at d1 d2 d3 ⊢
          rcases Nat.lt_or_ge i (ord.idxOf d) with h | h
          · exact h
          · exfalso
            obtain ⟨c', hc', _⟩ := P.line d d1
            have : d = o := hinj d o (Up.fed P ⟨d1, hc'⟩) hof (by omega)
            subst this
            exact hp d1
      · congr 1
        refine tab_set hon hnow fun x hx hxo2 => ?_
        exact Par.want_else P hinj hrk hof hxo2 fun u' => hp u'.1
  · rw [m_impl_tree_flows_l1.eq_2]
    have e0 : leB 0 ((ord.length : Int) - (ord.length : Int) - 1) = false := by simp only [leB, decide_eq_false_iff_not]; omega
    simp only [e0, cond_false, Nat.sub_self]
    congr 1
    refine tab_congr fun k hk => ?_
    unfold flK
    by_cases hex : ∃ d, 0 ≤ (fun b => parent.getD b (-1)) d ∧ ((fun b => parent.getD b (-1)) d).toNat = k ∧ 0 ≤ (fun b => ord.idxOf b) d
    · rw [if_pos hex]
    · rw [if_neg hex]
      exact (Par.flow0 P h1.len hr fun d d1 d2 => hex ⟨d, d1, d2, Nat.zero_le _⟩).symm
omit hr in
theorem iGiven {b:Nat} (hb : b < pts.length) : m_impl_tree_given (pts.length:Int) ls feed parent (zl ord) pts (b:Int)=some (if feedA pts b=true then sumE (onE ls on) pts (·.2) b else 0):=by
 have hB:=h1.net.b1
 unfold m_impl_tree_given
 have hf2 : ∀ c,c < pts.length → 0 ≤ (pts.getD c (0,0)).2∧(pts.getD c (0,0)).2 ≤ 999:=fun c hc=>(h2.bs c hc).2
 have hbd : ∀ k,k ≤ pts.length → 0 ≤ ((List.range k).map fun c=>if feed.getD c 0=(b:Int) then (pts.getD c (0,0)).2 else 0).sum∧((List.range k).map fun c=>if feed.getD c 0=(b:Int) then (pts.getD c (0,0)).2 else 0).sum ≤ 999 * k:=by
  intro k
  induction k with
  | zero=>intro _; simp
  | succ k ih =>
   intro hk
   have i1:=ih (by omega)
   have i2:=hf2 k (by omega)
   rw [List.range_succ,List.map_append,List.sum_append]
   simp only [List.map_cons,List.map_nil,List.sum_cons,List.sum_nil]
   split <;> omega
 have hh:=loop_all (m_impl_tree_given_l1 feed pts (b:Int)) (fun k=>(((List.range k).map fun c=>if feed.getD c 0=(b:Int) then (pts.getD c (0,0)).2 else 0).sum,(k:Int))) pts.length (some (((List.range pts.length).map fun c=>if feed.getD c 0=(b:Int) then (pts.getD c (0,0)).2 else 0).sum)) (by omega) (fun k fuel hk=>?_) (fun fuel=>?_)
 ·rw [show m_impl_tree_given_l1 feed pts (b:Int) FUEL (0,0)=_ from hh,Option.bind_some]
  congr 1
  by_cases hfb : feedA pts b=true
  ·rw [if_pos hfb]
   refine sum_same fun c hc=>?_
   have:=T.fd c b hc
   by_cases e : labs (onE ls on) c=labs (onE ls on) b
   ·rw [if_pos e,if_pos (this.2 ⟨hfb,((labs_cn _ _ _).1 e).symm⟩)]
   ·rw [if_neg e,if_neg fun e2=>e ((labs_cn _ _ _).2 (this.1 e2).2.symm)]
  ·rw [if_neg hfb]
   exact sum_zero fun c hc=>if_neg fun e2=>hfb ((T.fd c b hc).1 e2).1
 ·rw [m_impl_tree_given_l1.eq_2]
  have hx : ixB (k:Int) feed.length=true:=by rw [T.lf]; exact ix_dec hk
  have i1:=hbd k (by omega)
  have i2:=hf2 k hk
  have wk : w64 (((List.range k).map fun c=>if feed.getD c 0=(b:Int) then (pts.getD c (0,0)).2 else 0).sum+(pts.getD k (0,0)).2)=((List.range k).map fun c=>if feed.getD c 0=(b:Int) then (pts.getD c (0,0)).2 else 0).sum+(pts.getD k (0,0)).2:=w64_in (by omega) (by omega)
  have hlt : ltB (k:Int) (feed.length:Int)=true:=by rw [T.lf]; exact lt_dec hk
  simp only [hlt,cond_true,hx,chk_true,Int.toNat_natCast,ix_dec hk,wk,w64_succ (by omega : k < 4611686018427387904)]
  rw [List.range_succ,List.map_append,List.sum_append]
  simp only [List.map_cons,List.map_nil,List.sum_cons,List.sum_nil]
  by_cases e : feed.getD k 0=(b:Int)
  ·rw [if_pos e,show (feed.getD k 0 == (b:Int))=true by rw [e]; simp]
   simp
  ·rw [if_neg e,show (feed.getD k 0 == (b:Int))=false by simpa using e]
   simp
 ·rw [m_impl_tree_given_l1.eq_2]
  have hlt : ltB (pts.length:Int) (feed.length:Int)=false:=by rw [T.lf]; exact nlt_dec
  simp only [hlt,cond_false]
theorem iGood : m_impl_tree_good (pts.length : Int) ls feed parent (zl ord) pts = some (goodP ls on pts) := by
  have hll := h1.net.ll; have hB := h1.net.b1
  unfold m_impl_tree_good goodP
  rw [iFlows h1 h2 hr T, Option.bind_some, hr]
  have a1 := loop_find (m_impl_tree_good_l1 ls (tab ls.length (flowP ls on pts))) (fun k => (k : Int)) ls.length (fun k => decide ((ls.getD k (0, 0, 0)).2.2 < flowP ls on pts k)) (some (.inr false)) (some (.inl ())) (by omega) (fun k fuel hk => ?_) (fun fuel => ?_)
  · have a2 := loop_find (m_impl_tree_good_l2 (pts.length : Int) ls feed parent (zl ord) pts) (fun k => (k : Int)) pts.length (fun b => feedA pts b && decide ((pts.getD b (0, 0)).1 < sumE (onE ls on) pts (·.2) b)) (some (.inr false)) (some (.inl ())) (by omega) (fun k fuel hk => ?_) (fun fuel => ?_)
    · rw [show m_impl_tree_good_l1 ls (tab ls.length (flowP ls on pts)) FUEL 0 = _ from a1, show m_impl_tree_good_l2 (pts.length : Int) ls feed parent (zl ord) pts FUEL 0 = _ from a2]
      cases (List.range ls.length).any fun k => decide ((ls.getD k (0, 0, 0)).2.2 < flowP ls on pts k)
      · cases (List.range pts.length).any fun b => feedA pts b && decide ((pts.getD b (0, 0)).1 < sumE (onE ls on) pts (·.2) b) <;> rfl
      · rfl
    · rw [m_impl_tree_good_l2.eq_2]
      simp only [lt_dec hk, ix_dec hk, cond_true, chk_true, Int.toNat_natCast, iGiven h1 h2 T hk, Option.bind_some, w64_succ (by omega : k < 4611686018427387904)]
      have := (h2.bs k hk).1
      cases hfa : feedA pts k
      · have : ltB (pts.getD k (0, 0)).1 (if false = true then sumE (onE ls on) pts (·.2) k else 0) = false := by
          simp only [Bool.false_eq_true, if_false, ltB, decide_eq_false_iff_not]; omega
        rw [this]; rfl
      · rfl
    · rw [m_impl_tree_good_l2.eq_2]; simp only [nlt_dec, cond_false]
  · rw [m_impl_tree_good_l1.eq_2]
    simp only [tab_len, lt_dec hk, ix_dec hk, cond_true, chk_true, Int.toNat_natCast, tab_get hk, w64_succ (by omega : k < 4611686018427387904)]
    rfl
  · rw [m_impl_tree_good_l1.eq_2]; simp only [tab_len, nlt_dec, cond_false]
end
theorem iNetGood (b:Int) (ls:List Ln) (on:List Bool) (pts:List (Int×Int)) (hp : pts.length ≤ 1048576) : m_impl_NetGood b ls on pts=some (okV b ls on pts && goodP ls on pts):=by
 obtain ⟨r,r1,r2,r3⟩:=iTree b ls on pts hp
 unfold m_impl_NetGood
 rw [r1,Option.bind_some,r2]
 cases hv : radB b ls on pts
 ·simp only [gb_false,Option.bind_some,Bool.false_and]
  congr 1
  cases ho : okV b ls on pts
  ·rfl
  ·cases hg : goodP ls on pts
   ·rfl
   ·have:=good_rad hg
    unfold radB at hv
    rw [ho,this] at hv; cases hv
 ·obtain ⟨g1,g2,ord,g3,T⟩:=r3 hv
  have hv':=hv
  unfold radB at hv'
  rw [Bool.and_eq_true] at hv'
  obtain ⟨h1,h2⟩:=okV_iff.1 hv'.1
  have hlp:=h2.lp
  subst hlp
  rw [g1,g2,g3,show ifL true ls=ls from rfl,iGood h1 h2 hv'.2 T,hv'.1]
  simp only [gb_true,Option.bind_some,Bool.true_and]
end Go.Proofs.YtcmnjaccapbhfaaGreat
