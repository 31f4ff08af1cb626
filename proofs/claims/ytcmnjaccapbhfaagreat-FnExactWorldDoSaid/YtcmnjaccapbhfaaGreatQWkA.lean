/- Work in plain Lean: valid work, deeds, runs. No program in sight. (Taken out of WorkM.) -/
import Derived.Test.YtcmnjaccapbhfaaGreatQPu
import Derived.Test.YtcmnjaccapbhfaaGreatQPre
namespace Go.Proofs.YtcmnjaccapbhfaaGreat
set_option linter.unusedVariables false
set_option linter.unusedSimpArgs false
theorem loop_first {σ Out:Type} (L:Nat → σ → Option Out) (st:Nat → σ) (n:Nat) (P:Nat → Bool) (fv:Nat → Option Out) (out:Option Out) (hn : n ≤ 1099511627776) (hstep : ∀ k fuel,k < n → L (fuel+1) (st k)=bif P k then fv k else L fuel (st (k+1))) (hend : ∀ fuel,L (fuel+1) (st n)=out) :
  L FUEL (st 0)=match (List.range n).find? P with | some k=>fv k | none=>out:=by
 have key : ∀ j k fuel,k+j=n → j < fuel → L fuel (st k)=match (List.range' k j).find? P with | some k=>fv k | none=>out:=by
  intro j
  induction j with
  | zero =>
   intro k fuel hk hf
   obtain ⟨f,rfl⟩ : ∃ f,fuel=f+1:=⟨fuel - 1,by omega⟩
   obtain rfl : k=n:=by omega
   simpa using hend f
  | succ j ih =>
   intro k fuel hk hf
   obtain ⟨f,rfl⟩ : ∃ f,fuel=f+1:=⟨fuel - 1,by omega⟩
   rw [hstep k f (by omega),ih (k+1) f (by omega) (by omega),List.range'_succ,List.find?_cons]
   cases P k <;> simp
 rw [key n 0 FUEL (by omega) (fuel_gt hn),List.range_eq_range']
abbrev Pm:=List (Int×Int)
abbrev Wk:=List Bool×List Bool×Pm
def fnd (l:Pm) (p:Int×Int):Int:=match (List.range l.length).find? (fun k=>(l.getD k (0,0)).1 == p.1 && (l.getD k (0,0)).2 == p.2) with | some k=>(k:Int) | none=>-1
theorem fnd_spec (l:Pm) (p:Int×Int):(fnd l p=-1∧p ∉ l) ∨ (∃ k,k < l.length∧fnd l p=(k:Int)∧l.getD k (0,0)=p∧∀ j,j < k → l.getD j (0,0) ≠ p):=by
 unfold fnd
 cases h:(List.range l.length).find? (fun k=>(l.getD k (0,0)).1 == p.1 && (l.getD k (0,0)).2 == p.2) with
 | none =>
  left
  refine ⟨rfl,fun hp=>?_⟩
  obtain ⟨k,hk,rfl⟩:=List.mem_iff_getElem.1 hp
  have:=List.find?_eq_none.1 h k (by simpa using hk)
  rw [getD_ge hk] at this
  simp at this
 | some k =>
  right
  obtain ⟨h1,h2,h3⟩:=List.find?_range_eq_some.1 h
  have hk : k < l.length:=by simpa using h2
  simp only [Bool.and_eq_true,beq_iff_eq] at h1
  refine ⟨k,hk,rfl,Prod.ext h1.1 h1.2,fun j hj e=>?_⟩
  have:=h3 j hj
  rw [e] at this
  simp at this
theorem fnd_mem {l:Pm} {p:Int×Int} : leB 0 (fnd l p)=decide (p ∈ l):=by
 rcases fnd_spec l p with ⟨h1,h2⟩ | ⟨k,hk,h1,h2,h3⟩
 ·rw [h1]; simp [leB,h2]
 ·have : p ∈ l:=by rw [← h2,getD_ge hk]; exact List.getElem_mem hk
  rw [h1]; simp [leB,this]
theorem mem_take_get {l:Pm} {p:Int×Int} {k:Nat} : p ∈ l.take k ↔ ∃ j,j < k∧j < l.length∧l.getD j (0,0)=p:=by
 constructor
 ·intro h
  obtain ⟨j,hj,rfl⟩:=List.mem_iff_getElem.1 h
  have hj' : j < k∧j < l.length:=by rw [List.length_take] at hj; omega
  exact ⟨j,hj'.1,hj'.2,by rw [getD_ge hj'.2]; simp⟩
 ·rintro ⟨j,h1,h2,rfl⟩
  rw [getD_ge h2]
  exact List.mem_iff_getElem.2 ⟨j,by simp; omega,by simp⟩
theorem fnd_take {l:Pm} {k:Nat} (hk : k < l.length) : ltB (fnd l (l.getD k (0,0))) (k:Int)=decide (l.getD k (0,0) ∈ l.take k):=by
 rcases fnd_spec l (l.getD k (0,0)) with ⟨h1,h2⟩ | ⟨i,hi,h1,h2,h3⟩
 ·exact absurd (by rw [getD_ge hk]; exact List.getElem_mem hk) h2
 ·rw [h1]
  have hle : i ≤ k:=by
   rcases Nat.lt_or_ge k i with h | h
   ·exact absurd rfl (h3 k h)
   ·exact h
  rcases Nat.lt_or_ge i k with h | h
  ·have : l.getD k (0,0) ∈ l.take k:=mem_take_get.2 ⟨i,h,hi,h2⟩
   rw [decide_eq_true this]; exact decide_eq_true (by omega)
  ·obtain rfl : i=k:=by omega
   have : ¬ l.getD i (0,0) ∈ l.take i:=fun hm=>by
    obtain ⟨j,j1,j2,j3⟩:=mem_take_get.1 hm
    exact h3 j j1 j3
   rw [decide_eq_false this]; exact decide_eq_false (by omega)
def pmOk (on earth:List Bool) (pm:Pm) (k:Nat):Bool :=
 inB (pm.getD k (0,0)).1 0 9 && (decide (0 ≤ (pm.getD k (0,0)).2) && decide ((pm.getD k (0,0)).2 < (on.length:Int))) && earth.getD (pm.getD k (0,0)).2.toNat false && !decide (pm.getD k (0,0) ∈ pm.take k)
def workV (on earth:List Bool) (pm:Pm):Bool :=
 inB (on.length:Int) 1 10 && (earth.length == on.length) && decide (pm.length ≤ 6) && (!(List.range on.length).any fun k=>on.getD k false && earth.getD k false) && !(List.range pm.length).any fun k=>!pmOk on earth pm k
structure WorkOk (on earth:List Bool) (pm:Pm):Prop where
 l0 : 1 ≤ on.length
 l1 : on.length ≤ 10
 le : earth.length=on.length
 lp : pm.length ≤ 6
 ne : ∀ k,on.getD k false=true → earth.getD k false=false
 pm : ∀ k,k < pm.length → (0 ≤ (pm.getD k (0,0)).1∧(pm.getD k (0,0)).1 ≤ 9)∧(0 ≤ (pm.getD k (0,0)).2∧(pm.getD k (0,0)).2 < (on.length:Int))∧earth.getD (pm.getD k (0,0)).2.toNat false=true∧pm.getD k (0,0) ∉ pm.take k
theorem pmOk_iff {on earth:List Bool} {pm:Pm} {k:Nat} : pmOk on earth pm k=true ↔ (0 ≤ (pm.getD k (0,0)).1∧(pm.getD k (0,0)).1 ≤ 9)∧(0 ≤ (pm.getD k (0,0)).2∧(pm.getD k (0,0)).2 < (on.length:Int))∧earth.getD (pm.getD k (0,0)).2.toNat false=true∧pm.getD k (0,0) ∉ pm.take k:=by
 simp only [pmOk,Bool.and_eq_true,inB_iff,decide_eq_true_eq,Bool.not_eq_true',decide_eq_false_iff_not,and_assoc]
theorem any_f {n:Nat} {f:Nat → Bool}:(!(List.range n).any f)=true ↔ ∀ k,k < n → f k=false:=by
 rw [Bool.not_eq_true',List.any_eq_false]
 simp only [List.mem_range,Bool.not_eq_true]
theorem workV_iff {on earth:List Bool} {pm:Pm} : workV on earth pm=true ↔ WorkOk on earth pm:=by
 unfold workV
 rw [Bool.and_eq_true,any_f,Bool.and_eq_true,any_f,Bool.and_eq_true,Bool.and_eq_true,inB_iff,beq_iff_eq,decide_eq_true_eq]
 constructor
 ·rintro ⟨⟨⟨⟨h1,h2⟩,h3⟩,h4⟩,h5⟩
  refine ⟨by omega,by omega,h2,h3,fun k hk=>?_,fun k hk=>pmOk_iff.1 (by have:=h5 k hk; simpa using this)⟩
  by_cases hl : k < on.length
  ·have:=h4 k hl
   rw [hk] at this
   simpa using this
  ·simp [List.getD,List.getElem?_eq_none (Nat.le_of_not_lt hl)] at hk
 ·intro h
  have:=h.l0; have:=h.l1
  refine ⟨⟨⟨⟨by omega,h.le⟩,h.lp⟩,fun k hk=>?_⟩,fun k hk=>by rw [pmOk_iff.2 (h.pm k hk)]; rfl⟩
  cases ho : on.getD k false
  ·rfl
  ·rw [h.ne k ho]; rfl
theorem inB10 (n:Int) : inB n 1 10=(!ltB n 1 && !ltB 10 n):=by rw [Bool.eq_iff_iff]; simp [inB,ltB]
theorem lt6 (n:Nat) : ltB 6 (n:Int)=!decide (n ≤ 6):=by rw [Bool.eq_iff_iff]; simp [ltB]; omega
theorem bne_len (a b:Nat):((a:Int) != (b:Int))=!(a == b):=by rw [Bool.eq_iff_iff]; simp; omega
def heldOf (pm:Pm) (line:Int):List Int:=(pm.filter (·.2 == line)).map (·.1)
theorem held_step {pm:Pm} {line:Int} {k:Nat} (hk : k < pm.length) : heldOf (pm.take (k+1)) line=if (pm.getD k (0,0)).2 == line then heldOf (pm.take k) line++[(pm.getD k (0,0)).1] else heldOf (pm.take k) line:=by
 unfold heldOf
 rw [List.take_succ_eq_append_getElem hk,List.filter_append,List.map_append,getD_ge hk]
 cases h : pm[k].2 == line <;> simp [h]
theorem held_len (pm:Pm) (line:Int):(heldOf pm line).length ≤ pm.length:=by
 unfold heldOf; rw [List.length_map]; exact List.length_filter_le _ _
def wkMay (w:Wk) (kd a who:Int):Bool :=
 if kd=0 ∨ kd=2 then !w.1.getD a.toNat false && !w.2.1.getD a.toNat false
 else if kd=1 then w.1.getD a.toNat false
 else if kd=3 then w.2.1.getD a.toNat false && decide (heldOf w.2.2 a=[])
 else if kd=4 then w.2.1.getD a.toNat false && (inB who 0 9 && !decide ((who,a) ∈ w.2.2) && decide (w.2.2.length < 6))
 else if kd=5 then decide ((who,a) ∈ w.2.2)
 else false
def wkPut (w:Wk) (kd a who:Int):Wk :=
 if kd=0 then (w.1.set a.toNat true,w.2.1,w.2.2)
 else if kd=1 then (w.1.set a.toNat false,w.2.1,w.2.2)
 else if kd=2 then (w.1,w.2.1.set a.toNat true,w.2.2)
 else if kd=3 then (w.1,w.2.1.set a.toNat false,w.2.2)
 else if kd=4 then (w.1,w.2.1,w.2.2++[(who,a)])
 else (w.1,w.2.1,w.2.2.take (fnd w.2.2 (who,a)).toNat++w.2.2.drop ((fnd w.2.2 (who,a)).toNat+1))
def wkDo (w:Wk) (kd a who:Int):Wk×Bool :=
 if workV w.1 w.2.1 w.2.2 then (if 0 ≤ a∧a < (w.1.length:Int)∧wkMay w kd a who=true then (wkPut w kd a who,true) else (w,false)) else (([],[],[]),false)
def out4w (r:Wk×Bool):List Bool×List Bool×Pm×Bool:=(r.1.1,r.1.2.1,r.1.2.2,r.2)
theorem nil_dec (l:List Int):((l.length:Int) == 0)=decide (l=[]):=by cases l <;> simp; omega
theorem put_len (w:Wk) (kd a who:Int):(wkPut w kd a who).1.length=w.1.length∧(wkPut w kd a who).2.1.length=w.2.1.length∧(wkPut w kd a who).2.2.length ≤ w.2.2.length+1:=by
 unfold wkPut
 repeat' split
 all_goals simp
 omega
end Go.Proofs.YtcmnjaccapbhfaaGreat
