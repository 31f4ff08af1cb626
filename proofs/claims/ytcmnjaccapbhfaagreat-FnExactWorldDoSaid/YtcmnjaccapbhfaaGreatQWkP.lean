/- Work in plain Lean: what stays valid, runs, deeds that return and clear; the lists of deeds of the program. (Taken out of WorkD.) -/
import Derived.Test.YtcmnjaccapbhfaaGreatQWkA
namespace Go.Proofs.YtcmnjaccapbhfaaGreat
set_option linter.unusedVariables false
set_option linter.unusedSimpArgs false
theorem gset {α:Type} {l:List α} {k:Nat} {y d : α} (hk : k < l.length):(l.set k y).getD k d=y:=by simp [List.getD,hk]
theorem gset_ne {α:Type} {l:List α} {i j:Nat} {y d : α} (h : i ≠ j):(l.set i y).getD j d=l.getD j d:=by simp [List.getD,List.getElem?_set_ne h]
theorem gout {α:Type} {l:List α} {k:Nat} {d : α} (h : l.length ≤ k) : l.getD k d=d:=by simp [List.getD,List.getElem?_eq_none h]
structure WOk (w:Wk):Prop where
 l0 : 1 ≤ w.1.length
 l1 : w.1.length ≤ 10
 le : w.2.1.length=w.1.length
 lp : w.2.2.length ≤ 6
 ne : ∀ k,w.1.getD k false=true → w.2.1.getD k false=false
 pm : ∀ p ∈ w.2.2,(0 ≤ p.1∧p.1 ≤ 9)∧(0 ≤ p.2∧p.2 < (w.1.length:Int))∧w.2.1.getD p.2.toNat false=true
 nd : w.2.2.Nodup
theorem wok_iff {w:Wk} : workV w.1 w.2.1 w.2.2=true ↔ WOk w:=by
 rw [workV_iff]
 constructor
 ·intro h
  refine ⟨h.l0,h.l1,h.le,h.lp,h.ne,fun p hp=>?_,?_⟩
  ·obtain ⟨k,hk,rfl⟩:=List.mem_iff_getElem.1 hp
   have:=h.pm k hk
   rw [getD_ge hk] at this
   exact ⟨this.1,this.2.1,this.2.2.1⟩
  ·rw [List.nodup_iff_pairwise_ne,List.pairwise_iff_getElem]
   intro i j hi hj hij e
   refine (h.pm j hj).2.2.2 (mem_take_get.2 ⟨i,hij,hi,?_⟩)
   rw [getD_ge hi,getD_ge hj,e]
 ·intro h
  refine ⟨h.l0,h.l1,h.le,h.lp,h.ne,fun k hk=>?_⟩
  have hm:=h.pm (w.2.2.getD k (0,0)) (by rw [getD_ge hk]; exact List.getElem_mem hk)
  refine ⟨hm.1,hm.2.1,hm.2.2,fun ht=>?_⟩
  obtain ⟨j,h1,h2,h3⟩:=mem_take_get.1 ht
  have hp:=h.nd
  rw [List.nodup_iff_pairwise_ne,List.pairwise_iff_getElem] at hp
  rw [getD_ge h2,getD_ge hk] at h3
  exact hp j k h2 hk h1 h3
theorem ret_split {w:Wk} {a who:Int} (hm:(who,a) ∈ w.2.2) : ∃ A B,w.2.2=A++(who,a) :: B∧wkPut w 5 a who=(w.1,w.2.1,A++B):=by
 rcases fnd_spec w.2.2 (who,a) with ⟨h1,h2⟩ | ⟨k,hk,h1,h2,h3⟩
 ·exact absurd hm h2
 refine ⟨w.2.2.take k,w.2.2.drop (k+1),?_,?_⟩
 ·rw [← h2,getD_ge hk]; simp
 ·unfold wkPut
  rw [if_neg (by decide),if_neg (by decide),if_neg (by decide),if_neg (by decide),if_neg (by decide),h1,Int.toNat_natCast]
theorem held_mem {pm:Pm} {line x:Int} : x ∈ heldOf pm line ↔ (x,line) ∈ pm:=by
 simp only [heldOf,List.mem_map,List.mem_filter,beq_iff_eq]
 constructor
 ·rintro ⟨p,⟨h1,h2⟩,h3⟩
  rw [← h3,← h2]; exact h1
 ·intro h; exact ⟨(x,line),⟨h,rfl⟩,rfl⟩
theorem nd_mid {A B:Pm} {p:Int×Int} (h:(A++p :: B).Nodup):(A++B).Nodup∧p ∉ A++B:=by
 rw [List.nodup_append] at h
 obtain ⟨h1,h2,h3⟩:=h
 rw [List.nodup_cons] at h2
 refine ⟨List.nodup_append.2 ⟨h1,h2.2,fun a ha b hb=>h3 a ha b (by simp [hb])⟩,fun hm=>?_⟩
 rcases List.mem_append.1 hm with hm | hm
 ·exact h3 p hm p (by simp) rfl
 ·exact h2.1 hm
theorem put_ok {w:Wk} {kd a who:Int} (h:WOk w) (ha : 0 ≤ a∧a < (w.1.length:Int)) (hm : wkMay w kd a who=true):WOk (wkPut w kd a who)∧wkPut w kd a who ≠ w∧wkMay (wkPut w kd a who) kd a who=false:=by
 have hal : a.toNat < w.1.length:=by omega
 have hae : a.toNat < w.2.1.length:=by have:=h.le; omega
 by_cases k0 : kd=0
 ·subst k0
  have hm : w.1.getD a.toNat false=false∧w.2.1.getD a.toNat false=false:=by simpa only [wkMay,true_or,if_true,Bool.and_eq_true,Bool.not_eq_true'] using hm
  have e : wkPut w 0 a who=(w.1.set a.toNat true,w.2.1,w.2.2):=rfl
  rw [e]
  refine ⟨⟨by simpa using h.l0,by simpa using h.l1,by simpa using h.le,h.lp,fun k hk=>?_,fun p hp=>by simpa using h.pm p hp,h.nd⟩,fun hc=>?_,?_⟩
  ·by_cases hka : a.toNat=k
   ·rw [← hka]; exact hm.2
   ·exact h.ne k (by rwa [gset_ne hka] at hk)
  ·have:=congrArg (fun w:Wk=>w.1.getD a.toNat false) hc
   simp only [gset hal,hm.1] at this
   cases this
  ·simp only [wkMay,true_or,if_true,gset hal]; rfl
 by_cases k1 : kd=1
 ·subst k1
  have hm : w.1.getD a.toNat false=true:=hm
  have e : wkPut w 1 a who=(w.1.set a.toNat false,w.2.1,w.2.2):=rfl
  rw [e]
  refine ⟨⟨by simpa using h.l0,by simpa using h.l1,by simpa using h.le,h.lp,fun k hk=>?_,fun p hp=>by simpa using h.pm p hp,h.nd⟩,fun hc=>?_,?_⟩
  ·by_cases hka : a.toNat=k
   ·rw [← hka] at hk; rw [gset hal] at hk; cases hk
   ·exact h.ne k (by rwa [gset_ne hka] at hk)
  ·have:=congrArg (fun w:Wk=>w.1.getD a.toNat false) hc
   simp only [gset hal,hm] at this
   cases this
  ·exact gset hal
 by_cases k2 : kd=2
 ·subst k2
  have hm : w.1.getD a.toNat false=false∧w.2.1.getD a.toNat false=false:=by simpa only [wkMay,or_true,if_true,Bool.and_eq_true,Bool.not_eq_true'] using hm
  have e : wkPut w 2 a who=(w.1,w.2.1.set a.toNat true,w.2.2):=rfl
  rw [e]
  refine ⟨⟨h.l0,h.l1,by simpa using h.le,h.lp,fun k hk=>?_,fun p hp=>?_,h.nd⟩,fun hc=>?_,?_⟩
  ·by_cases hka : a.toNat=k
   ·rw [← hka] at hk; rw [hm.1] at hk; cases hk
   ·rw [gset_ne hka]; exact h.ne k hk
  ·obtain ⟨p1,p2,p3⟩:=h.pm p hp
   refine ⟨p1,p2,?_⟩
   by_cases hka : a.toNat=p.2.toNat
   ·rw [← hka,gset hae]
   ·rw [gset_ne hka]; exact p3
  ·have:=congrArg (fun w:Wk=>w.2.1.getD a.toNat false) hc
   simp only [gset hae,hm.2] at this
   cases this
  ·simp only [wkMay,or_true,if_true,gset hae]; simp
 by_cases k3 : kd=3
 ·subst k3
  have hm : w.2.1.getD a.toNat false=true∧heldOf w.2.2 a=[]:=by
   have:(w.2.1.getD a.toNat false && decide (heldOf w.2.2 a=[]))=true:=hm
   simpa only [Bool.and_eq_true,decide_eq_true_eq] using this
  have e : wkPut w 3 a who=(w.1,w.2.1.set a.toNat false,w.2.2):=rfl
  rw [e]
  refine ⟨⟨h.l0,h.l1,by simpa using h.le,h.lp,fun k hk=>?_,fun p hp=>?_,h.nd⟩,fun hc=>?_,?_⟩
  ·by_cases hka : a.toNat=k
   ·rw [← hka,gset hae]
   ·rw [gset_ne hka]; exact h.ne k hk
  ·obtain ⟨p1,p2,p3⟩:=h.pm p hp
   refine ⟨p1,p2,?_⟩
   have hka : a.toNat ≠ p.2.toNat:=fun hka=>by
    have hpa : p.2=a:=by omega
    have : p.1 ∈ heldOf w.2.2 a:=held_mem.2 (by rw [← hpa]; exact hp)
    rw [hm.2] at this; simp at this
   rw [gset_ne hka]; exact p3
  ·have:=congrArg (fun w:Wk=>w.2.1.getD a.toNat false) hc
   simp only [gset hae,hm.1] at this
   cases this
  ·show ((w.2.1.set a.toNat false).getD a.toNat false && _)=false
   rw [gset hae]; rfl
 by_cases k4 : kd=4
 ·subst k4
  have hm : w.2.1.getD a.toNat false=true∧(0 ≤ who∧who ≤ 9)∧(who,a) ∉ w.2.2∧w.2.2.length < 6:=by
   have:(w.2.1.getD a.toNat false && (inB who 0 9 && !decide ((who,a) ∈ w.2.2) && decide (w.2.2.length < 6)))=true:=hm
   simp only [Bool.and_eq_true,decide_eq_true_eq,inB_iff,Bool.not_eq_true',decide_eq_false_iff_not] at this
   exact ⟨this.1,this.2.1.1,this.2.1.2,this.2.2⟩
  have e : wkPut w 4 a who=(w.1,w.2.1,w.2.2++[(who,a)]):=rfl
  rw [e]
  refine ⟨⟨h.l0,h.l1,h.le,by simp; omega,h.ne,fun p hp=>?_,?_⟩,fun hc=>?_,?_⟩
  ·rcases List.mem_append.1 hp with hp | hp
   ·exact h.pm p hp
   ·have hp : p=(who,a):=by simpa using hp
    subst hp
    exact ⟨hm.2.1,ha,hm.1⟩
  ·refine List.nodup_append.2 ⟨h.nd,by simp,fun x hx y hy e=>?_⟩
   have hy : y=(who,a):=by simpa using hy
   rw [e,hy] at hx
   exact hm.2.2.1 hx
  ·have:=congrArg (fun w:Wk=>w.2.2.length) hc
   simp at this
  ·show (w.2.1.getD a.toNat false && (inB who 0 9 && !decide ((who,a) ∈ w.2.2++[(who,a)]) && decide ((w.2.2++[(who,a)]).length < 6)))=false
   simp
 by_cases k5 : kd=5
 ·subst k5
  have hmem:(who,a) ∈ w.2.2:=by
   have : decide ((who,a) ∈ w.2.2)=true:=hm
   simpa using this
  obtain ⟨A,B,e1,e2⟩:=ret_split hmem
  have hnd:=h.nd
  rw [e1] at hnd
  obtain ⟨n1,n2⟩:=nd_mid hnd
  rw [e2]
  have hlp:=h.lp
  rw [e1] at hlp
  refine ⟨⟨h.l0,h.l1,h.le,by simp at hlp ⊢; omega,h.ne,fun p hp=>h.pm p ?_,n1⟩,fun hc=>?_,?_⟩
  ·rw [e1]
   rcases List.mem_append.1 hp with hp | hp
   ·simp [hp]
   ·simp [hp]
  ·have:=congrArg (fun w:Wk=>w.2.2.length) hc
   rw [e1] at this
   simp at this <;> omega
  ·show decide ((who,a) ∈ A++B)=false
   exact decide_eq_false n2
 ·simp [wkMay,k0,k1,k2,k3,k4,k5] at hm
theorem do_cases {w:Wk} (h:WOk w) (kd a who:Int):(wkDo w kd a who=(wkPut w kd a who,true)∧(0 ≤ a∧a < (w.1.length:Int))∧wkMay w kd a who=true∧WOk (wkPut w kd a who)) ∨ (wkDo w kd a who=(w,false)∧¬ ((0 ≤ a∧a < (w.1.length:Int))∧wkMay w kd a who=true)):=by
 unfold wkDo
 rw [if_pos (wok_iff.2 h)]
 by_cases hc : 0 ≤ a∧a < (w.1.length:Int)∧wkMay w kd a who=true
 ·rw [if_pos hc]; exact .inl ⟨rfl,⟨hc.1,hc.2.1⟩,hc.2.2,(put_ok h ⟨hc.1,hc.2.1⟩ hc.2.2).1⟩
 ·rw [if_neg hc]; exact .inr ⟨rfl,fun hh=>hc ⟨hh.1.1,hh.1.2,hh.2⟩⟩
end Go.Proofs.YtcmnjaccapbhfaaGreat
