/- A row of the call's own without some of its things, in place; slices that reach beyond a row's end. -/
import Derived.Test.YtcmnjaccapbhfaaGreatQDc
import Derived.Laws.BytesArg
import Derived.Laws.Concat
import Derived.Laws.Strings
namespace Go.Proofs.YtcmnjaccapbhfaaGreat
open Go.ChangeShapes Go.WideShapes Go.ChangeAt Go.RowKit
set_option linter.unusedVariables false
set_option linter.unusedSimpArgs false
section
variable {P:Program} {w0 w:World} {L:List Asn} {α:Type} {e : α → List Value} {t ty E:TypeId} {l:List α} {A:Option Addr} {n c i size:Nat}
theorem row_form (S:St w0 w L) (hi:L[i]?=some (.row E size (.slice A n c) n (l.flatMap e))):(A=none∧n=0∧c=0) ∨ ∃ g off cur,A=some ⟨g,off,none⟩∧Bk w g E cur∧(cur.toList.drop off).take (n * size)=l.flatMap e∧n ≤ c∧c ≤ maxLen∧off+c * size ≤ cur.size:=by
 have h:=S.own i hi
 rcases h.2 with ⟨h1,h2⟩ | ⟨g,off,cap,cur,hv,hg,h1,h2,h3,h4⟩
 ·injection h1 with e1 e2 e3
  exact .inl ⟨e1,h2,e3⟩
 ·injection hv with e1 _ e3
  subst e3
  exact .inr ⟨g,off,cur,e1,hg,h4,h1,h2,h3⟩
theorem subA0 (c size:Nat) (A:Option Addr) : subA c (0:Int).toNat size A=A:=by
 unfold subA; split
 ·rfl
 ·cases A with
  | none=>rfl
  | some a=>simp [Addr.add]
theorem take_flat (he : ∀ x,(e x).length=size) (l:List α) (q:Nat):(l.take q).flatMap e=(l.flatMap e).take (q * size):=by
 have:=subL_flat he l 0 q
 simpa using this
theorem drop_flat (he : ∀ x,(e x).length=size) (q:Nat) : ∀ l:List α,(l.drop q).flatMap e=(l.flatMap e).drop (q * size):=by
 induction q with
 | zero=>intro l; simp
 | succ q ih =>
  intro l
  cases l with
  | nil=>simp
  | cons x l =>
   rw [List.drop_succ_cons,ih,List.flatMap_cons,show (q+1) * size=(e x).length+q * size from by rw [he,Nat.add_mul]; omega,List.drop_append]
   simp
theorem St.delrow {p q:Int} (S:St w0 w L) (hi:L[i]?=some (.row E size (.slice A n c) n (l.flatMap e))) (hn : n=l.length) (he : ∀ x,(e x).length=size) (h1 : ∀ x,∀ u ∈ e x,u.oneCell'=true) (ht:P.underlying t=some (.slice E)) (hE:(P.info? E).map (·.size)=some size)
  (hpq : p ≤ q) (hp : 0 ≤ p) (hq : q ≤ (n:Int)) :
  ∃ w',(Builtin.append_ #[t,t] ty #[.slice (subA c (0:Int).toNat size A) (subL l 0 p).length (c - (0:Int).toNat),.slice (subA c q.toNat size A) (subL l q (n:Int)).length (c - q.toNat)]).run P w=.ok (.slice A (subL l 0 p++subL l q (n:Int)).length c) w'
   ∧ St w0 w' (L.set i (.row E size (.slice A (subL l 0 p++subL l q (n:Int)).length c) (subL l 0 p++subL l q (n:Int)).length ((subL l 0 p++subL l q (n:Int)).flatMap e))):=by
 subst hn
 obtain ⟨j,hj,hz⟩:=Option.map_eq_some_iff.1 hE
 have l1:=subL_len (l:=l) (lo:=0) (hi:=p) ⟨by omega,hp,by omega⟩
 have l2:=subL_len (l:=l) (lo:=q) (hi:=(l.length:Int)) ⟨by omega,hq,by omega⟩
 have s1 : subL l 0 p=l.take p.toNat:=by simp [subL]
 have s2 : subL l q (l.length:Int)=l.drop q.toNat:=by
  unfold subL; rw [List.take_of_length_le (by simp)]
 have l3:(subL l 0 p++subL l q (l.length:Int)).length=p.toNat+(l.length - q.toNat):=by rw [List.length_append,l1,l2]; simp
 rw [subA0,l1,l2,l3,show c - (0:Int).toNat=c by simp]
 simp only [Int.toNat_zero,Nat.sub_zero,Int.toNat_natCast]
 rcases row_form S hi with ⟨rfl,h2,rfl⟩ | ⟨g,off,cur,rfl,hb,h3,h4,h5,h6⟩
 ·have hl : l=[]:=List.eq_nil_of_length_eq_zero h2
  subst hl
  have hp0 : p.toNat=0:=by simp at hq; omega
  refine ⟨w,?_,?_⟩
  ·rw [hp0]
   simp [Builtin.append_,run_underlying ht,sizeOf,typeInfo,hj,Builtin.lenOf,subA]
   cases hq' : q.toNat <;> simp_all [Builtin.firstCells]
  ·have : subL ([]:List α) 0 p++subL [] q (([]:List α).length:Int)=[]:=by simp [subL]
   rw [this,hp0]
   obtain ⟨k1,k2⟩:=List.getElem?_eq_some_iff.1 hi
   have:L.set i (.row E size (.slice none (0+(([]:List α).length - q.toNat)) 0) (0+(([]:List α).length - q.toNat)) (([]:List α).flatMap e))=L:=by
    rw [show (Asn.row E size (.slice none (0+(([]:List α).length - q.toNat)) 0) (0+(([]:List α).length - q.toNat)) (([]:List α).flatMap e))=L[i] by rw [k2]; simp,List.set_getElem_self]
   rw [this]; exact S
 ·have hlen:(l.flatMap e).length=l.length * size:=flat_len he l
  have hm1 : p.toNat * size ≤ l.length * size:=Nat.mul_le_mul_right _ (by omega)
  have hm2 : l.length * size ≤ c * size:=Nat.mul_le_mul_right _ h4
  have hqn : q.toNat ≤ l.length:=by omega
  have hm3:(l.length - q.toNat) * size=l.length * size - q.toNat * size:=Nat.sub_mul _ _ _
  have hm4 : q.toNat * size ≤ l.length * size:=Nat.mul_le_mul_right _ hqn
  have hm5 : p.toNat * size ≤ q.toNat * size:=Nat.mul_le_mul_right _ (by omega)
  have hnl:((l.drop q.toNat).flatMap e).length=(l.length - q.toNat) * j.size:=by rw [flat_len he,hz]; simp
  have hsrc : ∀ k u,((l.drop q.toNat).flatMap e)[k]?=some u → w.cell? ⟨g,off+q.toNat * size+k,none⟩=some u:=by
   intro k u hu
   rw [drop_flat he q.toNat l,List.getElem?_drop,← h3,List.getElem?_take] at hu
   split at hu
   ·rw [cell_of_row w g _ cur E (0,0) hb]
    rw [List.getElem?_drop] at hu
    simpa [Nat.add_assoc] using hu
   ·cases hu
  have hrun : ∀ a:Addr,(∀ k u,((l.drop q.toNat).flatMap e)[k]?=some u → w.cell? (a.add k)=some u) → _:=fun a ha=>run_append_room_at (P:=P) w t ty E j ht hj g off p.toNat c cur hb a (l.length - q.toNat) (c - q.toNat) ((l.drop q.toNat).flatMap e) hnl ha (one_flat h1 _) (by omega) (by rw [hnl,hz]; omega)
  have hA : ∃ a:Addr,subA c q.toNat size (some ⟨g,off,none⟩)=some a∧∀ k u,((l.drop q.toNat).flatMap e)[k]?=some u → w.cell? (a.add k)=some u:=by
   rw [subA_at]
   by_cases hc : c=q.toNat
   ·refine ⟨⟨g,off,none⟩,by rw [if_pos hc],fun k u hu=>?_⟩
    have : l.drop q.toNat=[]:=List.drop_eq_nil_of_le (by omega)
    rw [this] at hu; simp at hu
   ·refine ⟨⟨g,off+q.toNat * size,none⟩,by rw [if_neg hc],fun k u hu=>?_⟩
    rw [Go.WideShapes.add_plain]
    exact hsrc k u hu
  obtain ⟨a,ha,hcell⟩:=hA
  have h:=hrun a hcell
  rw [ha]
  refine ⟨_,h,?_⟩
  rw [hz]
  have hsz:((l.drop q.toNat).flatMap e).length=(l.length - q.toNat) * size:=by rw [flat_len he]; simp
  refine S.turn1 hi (Grown.setRow w g _) (fun x hx=>by simpa [Asn.foot,Value.ownBlock] using hx) ?_ (fun x hx=>.inl (by simpa [Asn.foot,Value.ownBlock] using hx))
  refine ⟨by rw [flat_len he,l3],.inr ⟨g,off,c,_,rfl,setRow_heap w g cur _ E (0,0) hb,by omega,h5,?_,?_⟩⟩
  ·simp only [List.size_toArray,List.length_append,List.length_take,List.length_drop,hsz,Array.length_toList]
   omega
  ·rw [s1,s2,List.flatMap_append,take_flat he l p.toNat,← h3,List.take_take,Nat.min_eq_left hm1]
   have hcl : cur.toList.length=cur.size:=Array.length_toList
   exact room_list cur.toList ((l.drop q.toNat).flatMap e) off (p.toNat * size) _ (by rw [hsz,hcl,hm3]; omega) (by rw [hsz,← Nat.add_mul])
theorem del_len {p q:Int} (hn : n=l.length) (h : 0 ≤ p∧p ≤ q∧q ≤ (n:Int)):(subL l 0 p++subL l q (n:Int)).length ≤ n:=by
 subst hn
 rw [List.length_append,subL_len ⟨by omega,h.1,by omega⟩,subL_len ⟨by omega,h.2.2,by omega⟩]
 simp; omega
theorem run_slice3 {ρ:Operand → Value} {o:Oper} {x yl yh ym:Operand} {kl kh km:IntKind} {lo hi mx:Int} {m:Nat} (ho : o.op=.slice t x (some yl) (some yh) (some ym)) (ht:P.underlying t=some (.slice E)) (hE:(P.info? E).map (·.size)=some size) (hx : ρ x=.slice A m c) (hl : ρ yl=.int kl lo) (hh : ρ yh=.int kh hi) (hm : ρ ym=.int km mx)
  (h : 0 ≤ lo∧lo ≤ hi∧hi ≤ mx) (hc : mx ≤ (c:Int)):(execOp ρ o).run P w=.ok (.value (.slice (subA mx.toNat lo.toNat size A) (hi.toNat - lo.toNat) (mx.toNat - lo.toNat))) w:=by
 have ht':P.underlying t=some (.slice (P.elem t)):=by rw [elem_of ht]; exact ht
 obtain ⟨j,hj,hz⟩:=Option.map_eq_some_iff.1 hE
 have h1:=run_slice_lhm (P:=P) w t A m c ht' kl kh km lo hi mx h.1 h.2.1 h.2.2 hc
 simp only [execOp,ho,Option.map_some,hx,hl,hh,hm,Sem.run_bind,run_sliceAt_slice w t _ _ _ _ ht',h1,sizeOf,typeInfo,elem_of ht,hj,hz,Sem.run_pure,Result.andThen_ok,sliced]
 simp [sizeOf,typeInfo,hj,hz,sliced,subA]
theorem run_slicebey {ρ:Operand → Value} {o:Oper} {x yl yh:Operand} {kl kh:IntKind} {lo hi:Int} {m:Nat} (ho : o.op=.slice t x (some yl) (some yh) none) (ht:P.underlying t=some (.slice E)) (hE:(P.info? E).map (·.size)=some size) (hx : ρ x=.slice A m c) (hl : ρ yl=.int kl lo) (hh : ρ yh=.int kh hi)
  (h : 0 ≤ lo∧lo ≤ hi∧hi ≤ (c:Int)):(execOp ρ o).run P w=.ok (.value (.slice (subA c lo.toNat size A) (hi.toNat - lo.toNat) (c - lo.toNat))) w:=by
 have ht':P.underlying t=some (.slice (P.elem t)):=by rw [elem_of ht]; exact ht
 obtain ⟨j,hj,hz⟩:=Option.map_eq_some_iff.1 hE
 have h1:=run_slice_lh (P:=P) w t A m c ht' kl kh lo hi h.1 h.2.1 h.2.2
 simp only [execOp,ho,Option.map_some,Option.map_none,hx,hl,hh,Sem.run_bind,run_sliceAt_slice w t _ _ _ _ ht',h1,sizeOf,typeInfo,elem_of ht,hj,hz,Sem.run_pure,Result.andThen_ok,sliced]
 simp [sizeOf,typeInfo,hj,hz,sliced,subA]
theorem zeros_one {z:Array Value} (h : z.toList.all (·.oneCell')=true) (k:Nat) : ∀ u ∈ (Builtin.zeroCells z k).toList,u.oneCell'=true:=by
 intro u hu
 simp only [Builtin.zeroCells,Array.toList_map,Array.toList_range,List.mem_map,List.mem_range] at hu
 obtain ⟨x,hx,rfl⟩:=hu
 have hz : 0 < z.size:=Nat.pos_of_ne_zero fun h0=>by rw [h0,Nat.mul_zero] at hx; omega
 have hm : x % z.size < z.size:=Nat.mod_lt _ hz
 rw [getElem!_pos z _ hm]
 exact List.all_eq_true.1 h _ (by simp)
theorem St.clear {hi:Int} {z:Value} {bytes:Nat} (S:St w0 w L) (hL:L[i]?=some (.row E size (.slice A n c) n (l.flatMap e))) (hn : n=l.length) (he : ∀ x,(e x).length=size) (ht:P.underlying t=some (.slice E)) (hinfo:(P.info? E).map (fun i=>(i.zero,i.size,i.bytes))=some (some z,size,bytes)) (hz : z.cells.size=size) (hz1 : z.cells.toList.all (·.oneCell')=true)
  (h:(n:Int) ≤ hi∧hi ≤ (c:Int)) :
  ∃ w',(∀ ty,(Builtin.clear_ #[t] ty #[.slice (subA c (n:Int).toNat size A) (hi.toNat - (n:Int).toNat) (c - (n:Int).toNat)]).run P w=.ok (.tuple #[]) w')∧St w0 w' L:=by
 obtain ⟨ti,hi1,hi2,hi3,hi4⟩:=info_parts hinfo
 simp only [Int.toNat_natCast]
 rcases row_form S hL with ⟨rfl,h2,rfl⟩ | ⟨g,off,cur,rfl,hb,h3,h4,h5,h6⟩
 ·refine ⟨w,fun ty=>?_,S⟩
  have : subA 0 n size none=none:=by unfold subA; split <;> rfl
  rw [this]
  simp [Builtin.clear_,run_underlying ht]
 ·rw [subA_at]
  by_cases hk : hi.toNat - n=0
  ·refine ⟨w,fun ty=>?_,S⟩
   rw [hk]
   split <;> simp [Builtin.clear_,run_underlying ht]
  ·obtain ⟨k,hk2⟩ : ∃ k,hi.toNat - n=k+1:=⟨hi.toNat - n - 1,by omega⟩
   have hc : ¬ c=n:=by omega
   rw [if_neg hc,hk2]
   have hzs:(Builtin.zeroCells z.cells (k+1)).size=(k+1) * size:=by rw [size_zeroCells,hz]
   have hkc : n * size+(k+1) * size ≤ c * size:=by rw [← Nat.add_mul]; exact Nat.mul_le_mul_right _ (by omega)
   have hst:=run_storeCells_at P g (off+n * size) E (Builtin.zeroCells z.cells (k+1)).toList 0 cur w hb (by simp [hzs]; omega) (zeros_one hz1 _)
   simp only [Nat.add_zero] at hst
   refine ⟨w.setRow g (cur.toList.take (off+n * size)++(Builtin.zeroCells z.cells (k+1)).toList++cur.toList.drop (off+n * size+(Builtin.zeroCells z.cells (k+1)).toList.length)).toArray,fun ty=>?_,?_⟩
   ·simp [Builtin.clear_,run_underlying ht,zeroValue,typeInfo,hi1,hi2,hst]
   ·have:=S.turn1 (b:=.row E size (.slice (some ⟨g,off,none⟩) n c) n (l.flatMap e)) hL (Grown.setRow w g (cur.toList.take (off+n * size)++(Builtin.zeroCells z.cells (k+1)).toList++cur.toList.drop (off+n * size+(Builtin.zeroCells z.cells (k+1)).toList.length)).toArray) (fun x hx=>by simpa [Asn.foot,Value.ownBlock] using hx) ?_ (fun x hx=>.inl hx)
    ·obtain ⟨k1,k2⟩:=List.getElem?_eq_some_iff.1 hL
     rw [← k2,List.set_getElem_self] at this
     exact this
    ·refine ⟨by rw [flat_len he,hn],.inr ⟨g,off,c,_,rfl,setRow_heap w g cur _ E (0,0) hb,h4,h5,?_,?_⟩⟩
     ·simp only [List.size_toArray,List.length_append,List.length_take,List.length_drop,Array.length_toList,hzs]
      omega
     ·have hnc : n * size ≤ c * size:=Nat.mul_le_mul_right _ h4
      rw [← h3]
      simp only [List.append_assoc]
      rw [List.drop_append,List.drop_take,show off+n * size - off=n * size by omega,List.take_left' (by simp; omega)]
theorem op_builtin0 {ops:Array Oper} {Q:Exit → Act → World → Prop} {rest:List Oper} {o:Oper} {a:Act} {w':World} {x:Operand} {v u:Value} (hg : o.guard=none) (hd : o.dst=none) (ho : o.op=.call { callee:=.builtin .clear,args:=#[x],argTypes:=#[t] }) (hx : a.eval x=v)
  (hr : ∀ ty,(Builtin.clear_ #[t] ty #[v]).run P w=.ok u w') (h : wpList P ops Q rest a w') : wpList P ops Q (o :: rest) a w:=by
 refine wpList_plain hg fun K hK=>?_
 unfold Oper.wp
 have:(execOp a.eval o).run P w=.ok (.value u) w':=by
  unfold execOp
  simp only [ho,resolve,invoke,builtin,Sem.run_bind,Sem.run_pure,Result.andThen_ok,List.map_toArray,List.map_cons,List.map_nil,hx,hr]
 rw [this]
 exact hK _ _ (by rw [hd]; exact h)
end
section
variable {P:Program} {ρ:Operand → Value} {o:Oper} {w:World} {x y:Operand} {T U E:TypeId}
end
end Go.Proofs.YtcmnjaccapbhfaaGreat
