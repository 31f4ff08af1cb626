/- More laws of the walk: new rows, append, comparing a slice with nil. -/
import Derived.Test.YtcmnjaccapbhfaaGreatQGs
import Derived.WalkSpells
import Derived.Laws.Cover3
namespace Go.Proofs.YtcmnjaccapbhfaaGreat
open Go.ChangeShapes Go.WideShapes Go.ChangeAt Go.RowKit
section
variable {w0 w:World} {L:List Asn}
theorem own_new (w:World) (e:TypeId) (size n:Nat) (cs:Array Value) (hs : cs.size=n * size) (hn : n ≤ maxLen):(w.alloc (.cells cs e)).ownsRow w.heap.size e size (.slice (some ⟨w.heap.size,0,none⟩) n n) n cs.toList :=
 ⟨by simpa using hs,.inr ⟨w.heap.size,n,cs,rfl,Nat.le_refl _,heap_alloc_new w _,Nat.le_refl _,hn,hs,by rw [← hs,← Array.length_toList,List.take_length]⟩⟩
theorem St.newrow (S:St w0 w L) (e:TypeId) (size n:Nat) (cs:Array Value) (hs : cs.size=n * size) (hn : n ≤ maxLen):St w0 (w.alloc (.cells cs e)) (.row e size (.slice (some ⟨w.heap.size,0,none⟩) n n) n cs.toList :: L) :=
 S.call (St.of_own (own_new w e size n cs hs hn) ((Below.refl _ _).alloc (Nat.le_refl _) _))
theorem St.append {P:Program} {i:Nat} {t ty e:TypeId} {z v:Value} {size bytes n m c:Nat} {xs news:List Value} {A:Option Addr} (S:St w0 w L) (hi:L[i]?=some (.row e size v n xs)) (ht:P.underlying t=some (.slice e))
  (hinfo:(P.info? e).map (fun i=>(i.zero,i.size,i.bytes))=some (some z,size,bytes)) (hzs : z.cells.size=size) (hsz : 0 < size) (hr:Rd w size A m news) (h1 : ∀ u ∈ news,u.oneCell'=true)
  (h63 : n+m ≤ maxLen) (hbytes:(n+m) * bytes ≤ 140737488355328) :
  ∃ B d w',(Builtin.append_ #[t,t] ty #[v,.slice A m c]).run P w=.ok (.slice B (n+m) d) w'∧St w0 w' (L.set i (.row e size (.slice B (n+m) d) (n+m) (xs++news))):=by
 obtain ⟨ti,h2,h3,h4,h5⟩:=info_parts hinfo
 obtain ⟨v',w',hrun,ho,hg,hb⟩:=run_append_ow (P:=P) w t ty e ti z size bytes ht h2 h3 h4 h5 hzs hsz v n xs (S.own i hi) A m c news hr h1 h63 hbytes
 obtain ⟨B,d,rfl,_,_⟩:=ho.form
 refine ⟨B,d,w',hrun,S.turn1 hi (Grown.of_row hg) (fun g h=>by simpa [Asn.foot] using h) ho (fun g h=>?_)⟩
 have hgf:(Value.slice B (n+m) d).ownBlock=some g:=by simpa [Asn.foot] using h
 rcases hb with hb | hb
 ·left; simp only [Asn.foot,← hb,hgf]; simp
 ·right; rw [hgf] at hb; injection hb with hb; omega
end
section
variable {P:Program} {ops:Array Oper} {Q:Exit → Act → World → Prop} {rest:List Oper} {o:Oper} {a:Act} {w w0:World} {n d:Nat} {l:List (Nat×Value)} {v:Value} {L:List Asn}
theorem op_newrow {cs:Array Value} {e:TypeId} {size m:Nat} (hg : o.guard=none) (hd : o.dst=some d) (hF:Fr a n l) (hdn:Nat.blt d n=true) (S:St w0 w L)
  (hr:(execOp a.eval o).run P w=.ok (.value (.slice (some ⟨w.heap.size,0,none⟩) m m)) (w.alloc (.cells cs e))) (hs : cs.size=m * size) (hm : m ≤ maxLen)
  (h : ∀ a g w',Fr a n ((d,.slice (some ⟨g,0,none⟩) m m) :: l) → St w0 w' (.row e size (.slice (some ⟨g,0,none⟩) m m) m cs.toList :: L) → wpList P ops Q rest a w') : wpList P ops Q (o :: rest) a w:=by
 refine wpList_plain hg fun K hK=>?_
 unfold Oper.wp
 rw [hr]
 exact hK _ _ (by rw [hd]; exact h _ _ _ (hF.put hdn _) (S.newrow e size m cs hs hm))
theorem run_append {x y:Operand} {t:TypeId} {A:Option Addr} {m c:Nat} {v':Value} {w':World} {ρ:Operand → Value} (ho : o.op=.call { callee:=.builtin .append,args:=#[x,y],argTypes:=#[t,t] }) (hx : ρ x=v) (hy : ρ y=.slice A m c)
  (h:(Builtin.append_ #[t,t] o.type #[v,.slice A m c]).run P w=.ok v' w'):(execOp ρ o).run P w=.ok (.value v') w':=by
 unfold execOp
 simp only [ho,resolve,invoke,builtin,Sem.run_bind,Sem.run_pure,Result.andThen_ok,List.map_toArray,List.map_cons,List.map_nil,hx,hy,h]
theorem run_buildSlice0 {ρ:Operand → Value} {t e:TypeId} (ho : o.op=.buildSlice t 0 #[]) (ht:P.underlying t=some (.slice e)) (hi:((P.info? e).map (·.size)).isSome=true) :
  (execOp ρ o).run P w=.ok (.value (.slice (some ⟨w.heap.size,0,none⟩) 0 0)) (w.alloc (.cells #[] e)):=by
 obtain ⟨sz,hsz⟩:=Option.isSome_iff_exists.1 hi
 obtain ⟨i,hi,hz⟩:=Option.map_eq_some_iff.1 hsz
 simp [execOp,ho,Instr.buildSlice,run_underlying ht,sizeOf,typeInfo,hi,Instr.fill,newRow,go_sem]
theorem run_eqlNil {ρ:Operand → Value} {t e T:TypeId} {x y:Operand} {A:Option Addr} {m c:Nat} (ho : o.op=.binOp .eql t x y T) (ht:P.underlying t=some (.slice e)) (hx : ρ x=.slice A m c) (hy : ρ y=.slice none 0 0) :
  (execOp ρ o).run P w=.ok (.value (.bool A.isNone)) w:=by
 have h2:=run_equal_slice_nil (P:=P) w t e A m c ht
 simp [execOp,ho,hx,hy,eqGuard,binOp,h2]
end
section
variable {w0 w:World} {L M:List Asn}
theorem St.nilrow (S:St w0 w L) (t:TypeId) (size:Nat):St w0 w (.row t size (.slice none 0 0) 0 [] :: L):=by
 refine ⟨S.below,fun a ha=>?_,List.pairwise_cons.2 ⟨fun b _=>Asn.far.nil rfl,S.apart⟩,fun a ha=>?_⟩
 ·rcases List.mem_cons.1 ha with rfl | h
  ·exact ⟨Ow.nil _ _ _,fun g hg=>by simp [Asn.foot,Value.ownBlock] at hg⟩
  ·exact S.all a h
 ·rcases List.mem_cons.1 ha with rfl | h
  ·exact Nat.zero_le _
  ·exact S.olds a h
theorem all_lt {is:List Nat} {n:Nat} (h:(is.all fun i=>Nat.blt i n)=true) : ∀ i ∈ is,i < n:=fun i hi=>by have:=List.all_eq_true.1 h i hi; simpa using this
theorem St.selT (S:St w0 w L) (n:Nat) (is:List Nat) (hlt:(is.all fun i=>Nat.blt i n)=true) (hnd : nodupB is=true) (hM : is.map (fun i=>L[i]?)=M.map some):St w0 w (M++L.drop n):=by
 have e:L.take n++L.drop n=L:=List.take_append_drop n L
 have S1:St w0 w (L.take n):=S.sub (List.take_sublist _ _)
 have hM1 : is.map (fun i=>(L.take n)[i]?)=M.map some:=by
  rw [← hM]
  exact List.map_congr_left fun i hi=>by rw [List.getElem?_take,if_pos (all_lt hlt i hi)]
 have S2:St w0 w M:=S1.sel is hnd hM1
 have S3:St w0 w (L.drop n):=S.sub (List.drop_sublist _ _)
 have hsub : ∀ a ∈ M,a ∈ L.take n:=by
  intro a ha
  obtain ⟨p,hp,rfl⟩:=List.mem_iff_getElem.1 ha
  have hl : is.length=M.length:=by simpa using congrArg List.length hM
  have:=congrArg (fun l=>l[p]?) hM1
  have hp' : p < is.length:=by omega
  simp [hp,hp'] at this
  exact List.mem_of_getElem? (i:=is[p]) (by simpa using this)
 refine ⟨S.below,fun a ha=>?_,List.pairwise_append.2 ⟨S2.apart,S3.apart,fun a ha b hb=>?_⟩,fun a ha=>?_⟩
 ·rcases List.mem_append.1 ha with h | h
  ·exact S2.all a h
  ·exact S3.all a h
 ·have hA:=S.apart
  rw [← e] at hA
  exact (List.pairwise_append.1 hA).2.2 a (hsub a ha) b hb
 ·rcases List.mem_append.1 ha with h | h
  ·exact S2.olds a h
  ·exact S3.olds a h
end
def PEvs (ρ:Operand → Value):List (Nat×Operand) → List (Nat×Value) → Prop
 | [],[]=>True
 | x :: xs,v :: vs=>(x.1=v.1∧ρ x.2=v.2)∧PEvs ρ xs vs
 | _,_=>False
theorem pevs_map {ρ:Operand → Value} : ∀ {xs:List (Nat×Operand)} {vs:List (Nat×Value)},PEvs ρ xs vs → xs.map (fun x=>(x.1,ρ x.2))=vs
 | [],[],_=>rfl
 | x :: xs,v :: vs,⟨⟨h1,h2⟩,r⟩=>by rw [List.map_cons,h1,h2,pevs_map r]
 | [],_ :: _,h=>h.elim
 | _ :: _,[],h=>h.elim
theorem run_build {P:Program} {ρ:Operand → Value} {o:Oper} {w:World} {T:TypeId} {ps:List (Nat×Operand)} {vs:List (Nat×Value)} {v:Value} (ho : o.op=.build T ps.toArray) (hv:PEvs ρ ps vs) (hb:(Instr.build T vs.toArray).run P w=.ok v w):(execOp ρ o).run P w=.ok (.value v) w:=by
 have : ps.toArray.map (fun x=>(x.1,ρ x.2))=vs.toArray:=by rw [List.map_toArray,pevs_map hv]
 simp only [execOp,ho]
 have e:(ps.toArray.map fun (i,x)=>(i,ρ x))=vs.toArray:=this
 rw [e]
 simp [hb]
end Go.Proofs.YtcmnjaccapbhfaaGreat
