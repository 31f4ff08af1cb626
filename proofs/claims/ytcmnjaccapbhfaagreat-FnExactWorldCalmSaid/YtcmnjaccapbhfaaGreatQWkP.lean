/- Work in plain Lean: what stays valid, runs, deeds that return and clear; the lists of deeds of the program. (Taken out of WorkD.) -/
import Derived.Test.YtcmnjaccapbhfaaGreatQWkA
namespace Go.Proofs.YtcmnjaccapbhfaaGreat
set_option linter.unusedVariables false
set_option linter.unusedSimpArgs false
theorem gset {α:Type} {l:List α} {k:Nat} {y d : α} (hk : k < l.length):(l.set k y).getD k d=y:=by simp [List.getD,hk]
theorem gset_ne {α:Type} {l:List α} {i j:Nat} {y d : α} (h : i ≠ j):(l.set i y).getD j d=l.getD j d:=by simp [List.getD,List.getElem?_set_ne h]
theorem gout {α:Type} {l:List α} {k:Nat} {d : α} (h : l.length ≤ k) : l.getD k d=d:=by simp [List.getD,List.getElem?_eq_none h]
structure WOk (w:Wk):Prop where
 l0 : 1 ≤ w.1.length
 l1 : w.1.length ≤ 10
 le : w.2.1.length=w.1.length
 lp : w.2.2.length ≤ 6
 ne : ∀ k,w.1.getD k false=true → w.2.1.getD k false=false
 pm : ∀ p ∈ w.2.2,(0 ≤ p.1∧p.1 ≤ 9)∧(0 ≤ p.2∧p.2 < (w.1.length:Int))∧w.2.1.getD p.2.toNat false=true
 nd : w.2.2.Nodup
theorem wok_iff {w:Wk} : workV w.1 w.2.1 w.2.2=true ↔ WOk w:=by
 rw [workV_iff]
 constructor
 ·intro h
  refine ⟨h.l0,h.l1,h.le,h.lp,h.ne,fun p hp=>?_,?_⟩
  ·obtain ⟨k,hk,rfl⟩:=List.mem_iff_getElem.1 hp
   have:=h.pm k hk
   rw [getD_ge hk] at this
   exact ⟨this.1,this.2.1,this.2.2.1⟩
  ·rw [List.nodup_iff_pairwise_ne,List.pairwise_iff_getElem]
   intro i j hi hj hij e
   refine (h.pm j hj).2.2.2 (mem_take_get.2 ⟨i,hij,hi,?_⟩)
   rw [getD_ge hi,getD_ge hj,e]
 ·intro h
  refine ⟨h.l0,h.l1,h.le,h.lp,h.ne,fun k hk=>?_⟩
  have hm:=h.pm (w.2.2.getD k (0,0)) (by rw [getD_ge hk]; exact List.getElem_mem hk)
  refine ⟨hm.1,hm.2.1,hm.2.2,fun ht=>?_⟩
  obtain ⟨j,h1,h2,h3⟩:=mem_take_get.1 ht
  have hp:=h.nd
  rw [List.nodup_iff_pairwise_ne,List.pairwise_iff_getElem] at hp
  rw [getD_ge h2,getD_ge hk] at h3
  exact hp j k h2 hk h1 h3
def retsOf (pm:Pm):List (Int×Int×Int):=pm.map fun p=>(5,p.2,p.1)
theorem rets_take {pm:Pm} {k:Nat} (hk : k < pm.length) : retsOf (pm.take (k+1))=retsOf (pm.take k)++[(5,(pm.getD k (0,0)).2,(pm.getD k (0,0)).1)]:=by
 rw [List.take_succ_eq_append_getElem hk,getD_ge hk]
 simp only [retsOf,List.map_append,List.map_cons,List.map_nil]
def forOf (kd:Int) (l:List Bool) (b:Bool):Nat → List (Int×Int×Int)
 | 0=>[]
 | k+1=>if (l.getD k false == b)=true then forOf kd l b k++[(kd,(k:Int),0)] else forOf kd l b k
theorem for_len (kd:Int) (l:List Bool) (b:Bool) : ∀ k,(forOf kd l b k).length ≤ k
 | 0=>by simp [forOf]
 | k+1=>by have:=for_len kd l b k; simp only [forOf]; split <;> simp <;> omega
end Go.Proofs.YtcmnjaccapbhfaaGreat
