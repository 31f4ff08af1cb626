/- A row of the call's own without some of its things, in place; slices that reach beyond a row's end. -/
import Derived.Test.YtcmnjaccapbhfaaGreatQDc
import Derived.Laws.BytesArg
import Derived.Laws.Concat
import Derived.Laws.Strings
namespace Go.Proofs.YtcmnjaccapbhfaaGreat
open Go.ChangeShapes Go.WideShapes Go.ChangeAt Go.RowKit
set_option linter.unusedVariables false
set_option linter.unusedSimpArgs false
section
variable {P:Program} {w0 w:World} {L:List Asn} {α:Type} {e : α → List Value} {t ty E:TypeId} {l:List α} {A:Option Addr} {n c i size:Nat}
theorem row_form (S:St w0 w L) (hi:L[i]?=some (.row E size (.slice A n c) n (l.flatMap e))):(A=none∧n=0∧c=0) ∨ ∃ g off cur,A=some ⟨g,off,none⟩∧Bk w g E cur∧(cur.toList.drop off).take (n * size)=l.flatMap e∧n ≤ c∧c ≤ maxLen∧off+c * size ≤ cur.size:=by
 have h:=S.own i hi
 rcases h.2 with ⟨h1,h2⟩ | ⟨g,off,cap,cur,hv,hg,h1,h2,h3,h4⟩
 ·injection h1 with e1 e2 e3
  exact .inl ⟨e1,h2,e3⟩
 ·injection hv with e1 _ e3
  subst e3
  exact .inr ⟨g,off,cur,e1,hg,h4,h1,h2,h3⟩
theorem zeros_one {z:Array Value} (h : z.toList.all (·.oneCell')=true) (k:Nat) : ∀ u ∈ (Builtin.zeroCells z k).toList,u.oneCell'=true:=by
 intro u hu
 simp only [Builtin.zeroCells,Array.toList_map,Array.toList_range,List.mem_map,List.mem_range] at hu
 obtain ⟨x,hx,rfl⟩:=hu
 have hz : 0 < z.size:=Nat.pos_of_ne_zero fun h0=>by rw [h0,Nat.mul_zero] at hx; omega
 have hm : x % z.size < z.size:=Nat.mod_lt _ hz
 rw [getElem!_pos z _ hm]
 exact List.all_eq_true.1 h _ (by simp)
theorem St.clear {hi:Int} {z:Value} {bytes:Nat} (S:St w0 w L) (hL:L[i]?=some (.row E size (.slice A n c) n (l.flatMap e))) (hn : n=l.length) (he : ∀ x,(e x).length=size) (ht:P.underlying t=some (.slice E)) (hinfo:(P.info? E).map (fun i=>(i.zero,i.size,i.bytes))=some (some z,size,bytes)) (hz : z.cells.size=size) (hz1 : z.cells.toList.all (·.oneCell')=true)
  (h:(n:Int) ≤ hi∧hi ≤ (c:Int)) :
  ∃ w',(∀ ty,(Builtin.clear_ #[t] ty #[.slice (subA c (n:Int).toNat size A) (hi.toNat - (n:Int).toNat) (c - (n:Int).toNat)]).run P w=.ok (.tuple #[]) w')∧St w0 w' L:=by
 obtain ⟨ti,hi1,hi2,hi3,hi4⟩:=info_parts hinfo
 simp only [Int.toNat_natCast]
 rcases row_form S hL with ⟨rfl,h2,rfl⟩ | ⟨g,off,cur,rfl,hb,h3,h4,h5,h6⟩
 ·refine ⟨w,fun ty=>?_,S⟩
  have : subA 0 n size none=none:=by unfold subA; split <;> rfl
  rw [this]
  simp [Builtin.clear_,run_underlying ht]
 ·rw [subA_at]
  by_cases hk : hi.toNat - n=0
  ·refine ⟨w,fun ty=>?_,S⟩
   rw [hk]
   split <;> simp [Builtin.clear_,run_underlying ht]
  ·obtain ⟨k,hk2⟩ : ∃ k,hi.toNat - n=k+1:=⟨hi.toNat - n - 1,by omega⟩
   have hc : ¬ c=n:=by omega
   rw [if_neg hc,hk2]
   have hzs:(Builtin.zeroCells z.cells (k+1)).size=(k+1) * size:=by rw [size_zeroCells,hz]
   have hkc : n * size+(k+1) * size ≤ c * size:=by rw [← Nat.add_mul]; exact Nat.mul_le_mul_right _ (by omega)
   have hst:=run_storeCells_at P g (off+n * size) E (Builtin.zeroCells z.cells (k+1)).toList 0 cur w hb (by simp [hzs]; omega) (zeros_one hz1 _)
   simp only [Nat.add_zero] at hst
   refine ⟨w.setRow g (cur.toList.take (off+n * size)++(Builtin.zeroCells z.cells (k+1)).toList++cur.toList.drop (off+n * size+(Builtin.zeroCells z.cells (k+1)).toList.length)).toArray,fun ty=>?_,?_⟩
   ·simp [Builtin.clear_,run_underlying ht,zeroValue,typeInfo,hi1,hi2,hst]
   ·have:=S.turn1 (b:=.row E size (.slice (some ⟨g,off,none⟩) n c) n (l.flatMap e)) hL (Grown.setRow w g (cur.toList.take (off+n * size)++(Builtin.zeroCells z.cells (k+1)).toList++cur.toList.drop (off+n * size+(Builtin.zeroCells z.cells (k+1)).toList.length)).toArray) (fun x hx=>by simpa [Asn.foot,Value.ownBlock] using hx) ?_ (fun x hx=>.inl hx)
    ·obtain ⟨k1,k2⟩:=List.getElem?_eq_some_iff.1 hL
     rw [← k2,List.set_getElem_self] at this
     exact this
    ·refine ⟨by rw [flat_len he,hn],.inr ⟨g,off,c,_,rfl,setRow_heap w g cur _ E (0,0) hb,h4,h5,?_,?_⟩⟩
     ·simp only [List.size_toArray,List.length_append,List.length_take,List.length_drop,Array.length_toList,hzs]
      omega
     ·have hnc : n * size ≤ c * size:=Nat.mul_le_mul_right _ h4
      rw [← h3]
      simp only [List.append_assoc]
      rw [List.drop_append,List.drop_take,show off+n * size - off=n * size by omega,List.take_left' (by simp; omega)]
end
section
variable {P:Program} {ρ:Operand → Value} {o:Oper} {w:World} {x y:Operand} {T U E:TypeId}
end
end Go.Proofs.YtcmnjaccapbhfaaGreat
