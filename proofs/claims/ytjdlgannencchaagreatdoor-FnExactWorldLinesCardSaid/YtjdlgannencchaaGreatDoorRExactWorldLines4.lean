/- Texts of the claim, one behind the other: LnK, RgL, LnI, LnJ, DaT, Da1, LnT, WkA, WkP, Isl, For, Flw, Wl. -/
import Derived.MapKept
import Derived.Lib.ItoaLen
import Derived.Test.YtjdlgannencchaaGreatDoorRExactWorldLines3
namespace Go.Proofs.YtjdlgannencchaaGreatDoor
open Go.ChangeShapes Go.WideShapes Go.ChangeAt Go.RowKit
set_option linter.unusedVariables false
set_option linter.unusedSimpArgs false
set_option maxRecDepth 100000
def VU:Nat→List (ByteArray×Int)→List MapEntry
 |_,[]=> []
 |n,(k,v)::l=>⟨.string k,.int .i64 v,n⟩::VU (n+1) l
theorem OR (k:ByteArray) (v:Int): ∀n l,VU n (l++ [(k,v)])=VU n l++ [⟨.string k,.int .i64 v,n+l.length⟩]
 |n,[]=>rfl
 |n,(a,b)::l=>by simp [VU,OR k v (n+1) l];omega
def ZK:List (ByteArray×Int)→ByteArray→Nat→Option (Nat×Value)
 | [],_,_=>none
 |(k,v)::l,s,i=>bif s==k then some (i,.int .i64 v) else ZK l s (i+1)
theorem MH (s:ByteArray): ∀l n i,Instr.findNow .string (.string s) (VU n l) i=some (ZK l s i)
 | [],_,_=>rfl
 |(k,v)::l,n,i=>by
  have h:Instr.sameNow .string (.string s) (.string k)=some (s==k):=rfl
  unfold VU Instr.findNow ZK
  rw [h]
  cases s==k with
  |true=>rfl
  |false=>exact MH s l (n+1) (i+1)
theorem aej (s:ByteArray): ∀l i,(match ZK l s i with |some (_,v)=>(v,true) |none=>(Value.int .i64 0,false))=(Value.int .i64 (pO l s).1,(pO l s).2)
 | [],_=>rfl
 |(k,v)::l,i=>by
  unfold ZK pO
  cases s==k with
  |true=>rfl
  |false=>exact aej s l (i+1)
theorem OO (s:ByteArray): ∀l i,(pO l s).2=false→ZK l s i=none
 | [],_,_=>rfl
 |(k,v)::l,i,h=>by
  unfold ZK;unfold pO at h
  cases hc:s==k with
  |true=>rw [hc] at h;cases h
  |false=>rw [hc] at h;exact OO s l (i+1) h
def sH (w:World) (b:Nat) (l:List (ByteArray×Int)):Prop:=w.heap[b]?=some (.map (VU 0 l).toArray l.length)
section
variable {P:Program} {w:World} {b:Nat} {l:List (ByteArray×Int)} {t kt et:TypeId}
theorem Ss (w:World):sH (w.alloc (.map #[] 0)) w.heap.size []:=(MapKept.heap_alloc w (.map #[] 0)).1
theorem vf (h:sH w b l) (ht:P.underlying t=some (.map kt et)) (hk:P.underlying kt=some .string) {k:ByteArray} (v:Int) (hn:(pO l k).2=false):
 ∃w',(Instr.mapUpdate t (.map (some b)) (.string k) (.int .i64 v)).run P w= .ok () w'∧sH w' b (l++ [(k,v)])∧w'.heap.size=w.heap.size∧w.grownBy w' (some b):=by
 have h1:=MapKept.run_getObj_map (P:=P) h
 have hb:b<w.heap.size:=(Array.getElem?_eq_some_iff.1 h).1
 have hf:=MH k l 0 0
 rw [OO k l 0 hn] at hf
 refine ⟨{w with heap:=w.heap.setIfInBounds b (.map (VU 0 (l++ [(k,v)])).toArray (l.length+1))},?_,?_,?_,rfl,rfl,rfl,?_,?_⟩
 ·have hs:=MapKept.run_setObj_map (P:=P) (.map ((VU 0 l).toArray.push {key:=.string k,val:=.int .i64 v,born:=l.length}) (l.length+1)) h
  have hF:=MapKept.run_findKey (P:=P) (w:=w) hk hf
  have hik:MapKept.IsKey .string (.string k):=trivial
  have e:(VU 0 l).toArray.push {key:=.string k,val:=.int .i64 v,born:=l.length}=(VU 0 (l++ [(k,v)])).toArray:=by simp [OR]
  rw [e] at hs
  simp only [Instr.mapUpdate,Sem.run_bind,run_underlying ht,h1,MapKept.run_checkKey hk hik,hF,Result.andThen,e,hs]
 ·simp [sH,hb]
 ·simp
 ·simp
 ·intro g _ hg;simp [show b≠g from fun e=>hg (by rw [e])]
theorem OQ (h:sH w b l) (ht:P.underlying t=some (.map kt et)) (hk:P.underlying kt=some .string) (hz:(zeroValue et).run P w= .ok (.int .i64 0) w) (s:ByteArray):
 (Instr.lookup t (.map (some b)) (.string s) true).run P w= .ok (.tuple #[.int .i64 (pO l s).1,.bool (pO l s).2]) w:=by
 have h1:=MapKept.run_getObj_map (P:=P) h
 have hf:=MH s l 0 0
 have hl:=aej s l 0
 have hF:=MapKept.run_findKey (P:=P) (w:=w) hk hf
 have hik:MapKept.IsKey .string (.string s):=trivial
 cases hc:ZK l s 0 with
 |none=>
  rw [hc] at hF hl
  injection hl with e1 e2
  simp [Instr.lookup,run_underlying ht,h1,MapKept.run_checkKey hk hik,hF,Result.andThen,hz,←e1,←e2]
 |some p=>
  rw [hc] at hF hl
  injection hl with e1 e2
  simp [Instr.lookup,run_underlying ht,h1,MapKept.run_checkKey hk hik,hF,Result.andThen,←e1,←e2]
theorem JL {w':World} {g:Nat} (h:sH w b l) (hg:w.grownBy w' (some g)) (hne:b≠g):sH w' b l:=(hg.block b (Array.getElem?_eq_some_iff.1 h).1 (by simpa using hne)).trans h
theorem TB {w':World} (h:sH w b l) (hb:Below w.heap.size w w'):sH w' b l:=(hb.block b (Array.getElem?_eq_some_iff.1 h).1).trans h
theorem Hb (h:sH w b l) (o:Obj):sH (w.alloc o) b l:=TB h (Below.alloc (Below.refl _ _) (Nat.le_refl _) o)
theorem oa {w0 w':World} (h:Below w0.heap.size w0 w) (hg:w.grownBy w' (some b)) (hb:w0.heap.size≤b):Below w0.heap.size w0 w':=
 h.trans ⟨hg.os,hg.tape,hg.output,hg.size,fun k hk=>hg.block k (Nat.lt_of_lt_of_le hk h.size) (by simp;omega)⟩
end
def abK (ops:Array Oper) (L:Nat) (up:Nat→Nat):Bool:=
 (List.range L).all fun j=>decide (j<up j)&&decide (up j≤L)&&((ops[up j]?).map (bB · j)).getD false
section
variable {P:Program} {ops:Array Oper} {Q:Exit→Act→World→Prop} {a0:Act} {D:List Nat} {dep:Nat→Nat}
 {Inv:World→Prop} {R:World→World→Prop} {Fs:Nat→Value→World→Prop}
def IH (P:Program) (ops:Array Oper) (Q:Exit→Act→World→Prop) (a0:Act) (D:List Nat) (dep:Nat→Nat) (Inv:World→Prop) (Fs:Nat→Value→World→Prop) (o:Oper):Prop:=
 ∀(a:Act) (w:World),EQ a0 D a→Inv w→(∀j,j+1<ops.size→Fs j (sl a (dep j)) w)→
 Region.wanted o (yielded ops a.tmps)=true∧ ∃f args,(execOp a.eval o).run P w= .ok (.enter f args) w∧Calls P f args w fun e w'=> ∃v,e= .returned v∧Q .normal (a.put o.dst v) w'
theorem YQ {up:Nat→Nat} {L:Nat} {oL:Oper} (hL:ops.size=L+1) (hoL:ops[L]?=some oL) (hup:abK ops L up=true) (hs:tQ ops a0.tmps.size D dep=true) (hstab: ∀j a w w',R w w'→yB dep Fs j a w→yB dep Fs j a w')
 (hops: ∀i o,i<L→ops[i]?=some o→UB P ops a0 D [] dep Inv R Fs i o)
 (hlast:IH P ops Q a0 D dep Inv Fs oL):
 ∀(fuel:Nat) (listed:Array Bool) (a:Act) (w:World),listed.size=ops.size→listed.getD L true=false→EQ a0 D a→Inv w→
  (∀i,i<ops.size→listed.getD i true=true→yB dep Fs i a w)→
  (∀j oj i,ops[j]?=some oj→listed.getD j true=true→bB oj i=true→listed.getD i false=true)→
  ((List.range ops.size).filter fun i=> !listed.getD i true).length≤fuel→wpAny P .any ops Q fuel listed a w:=by
 have hall: ∀(listed:Array Bool),listed.size=ops.size→Region.ready .any ops listed=[]→ ∀n i,i≤n→i<ops.size→listed.getD i true=true:=by
  intro listed hsz hr n
  induction n with
  |zero=>
   intro i hi hlt
   obtain rfl:i=0:=by omega
   cases hl:listed.getD 0 true with
   |true=>rfl
   |false=>
    exfalso
    obtain ⟨o,ho⟩: ∃o,ops[0]?=some o:=⟨ops[0],by simp [hlt]⟩
    have hm:0∈Region.ready .any ops listed:=by
     unfold Region.ready
     rw [List.mem_filter]
     refine ⟨by simpa using hlt,?_⟩
     rw [hl,ho]
     simp only [Bool.not_false,Bool.true_and,Option.map_some,Option.getD_some]
     refine Array.all_eq_true'.2 fun e he=>?_
     cases hb:Region.binds .any e with
     |false=>rfl
     |true=>have:=(Hl hs ho).1 e he hb;omega
    rw [hr] at hm
    cases hm
  |succ n ih=>
   intro i hi hlt
   by_cases hle:i≤n
   ·exact ih i hle hlt
   obtain rfl:i=n+1:=by omega
   cases hl:listed.getD (n+1) true with
   |true=>rfl
   |false=>
    exfalso
    obtain ⟨o,ho⟩: ∃o,ops[n+1]?=some o:=⟨ops[n+1],by simp [hlt]⟩
    have hm:n+1∈Region.ready .any ops listed:=by
     unfold Region.ready
     rw [List.mem_filter]
     refine ⟨by simpa using hlt,?_⟩
     rw [hl,ho]
     simp only [Bool.not_false,Bool.true_and,Option.map_some,Option.getD_some]
     refine Array.all_eq_true'.2 fun e he=>?_
     cases hb:Region.binds .any e with
     |false=>rfl
     |true=>
      have h1:=(Hl hs ho).1 e he hb
      have h2:=ih e.on (by omega) (by omega)
      have h3:e.on<listed.size:=by omega
      simp [h3] at h2
      simp [h3,h2]
    rw [hr] at hm
    cases hm
 intro fuel
 induction fuel with
 |zero=>
  intro listed a w hsz hun0 hB hI hF hcl hn
  exfalso
  have hnil:(List.range ops.size).filter (fun i=> !listed.getD i true)=[]:=List.eq_nil_of_length_eq_zero (by omega)
  have:=List.filter_eq_nil_iff.1 hnil L (by simp;omega)
  rw [hun0] at this
  simp at this
 |succ fuel ih=>
  intro listed a w hsz hun0 hB hI hF hcl hn
  refine ⟨fun hr=>(by have:=(hall listed hsz hr L L (Nat.le_refl _) (by omega)).symm.trans hun0
                      cases this),fun i hi=>?_⟩
  have hi':=hi
  unfold Region.ready at hi'
  rw [List.mem_filter] at hi'
  obtain ⟨hir,hib⟩:=hi'
  have hilt:i<ops.size:=by simpa using hir
  obtain ⟨o,ho⟩: ∃o,ops[i]?=some o:=⟨ops[i],by simp [hilt]⟩
  rw [ho] at hib
  simp only [Option.map_some,Option.getD_some,Bool.and_eq_true,Bool.not_eq_true'] at hib
  obtain ⟨hun,hpre⟩:=hib
  have hpre': ∀j,bB o j=true→listed.getD j false=true:=by
   intro j hj
   unfold bB at hj
   obtain ⟨e,he,hb⟩:=List.any_eq_true.1 hj
   have he:=Array.mem_toList_iff.1 he
   simp only [Bool.and_eq_true,beq_iff_eq] at hb
   have:=Array.all_eq_true'.1 hpre e he
   rw [hb.1] at this
   simpa [hb.2] using this
  have hst:=Hl hs ho
  have hgd: ∀j d,(listed.setIfInBounds i true).getD j d=if j=i then true else listed.getD j d:=by
   intro j d
   have hil:i<listed.size:=by omega
   by_cases hji:j=i
   ·subst hji;simp [hil]
   ·rw [if_neg hji]
    simp only [Array.getD_eq_getD_getElem?]
    rw [Array.getElem?_setIfInBounds_ne (fun e=>hji e.symm)]
  by_cases hiL:i=L
  ·subst hiL
   obtain rfl:o=oL:=Option.some.inj (ho.symm.trans hoL)
   have hlt: ∀(n j:Nat),i-j≤n→j<i→listed.getD j true=true:=by
    intro n
    induction n with
    |zero=>intro j h1 h2;omega
    |succ n ihn=>
     intro j h1 h2
     have hu:=List.all_eq_true.1 hup j (by simpa using h2)
     simp only [Bool.and_eq_true,decide_eq_true_eq] at hu
     obtain ⟨⟨u1,u2⟩,u3⟩:=hu
     obtain ⟨ou,hou⟩: ∃ou,ops[up j]?=some ou:=⟨ops[up j]'(by omega),by simp [show up j<ops.size by omega]⟩
     rw [hou] at u3
     have u3:bB ou j=true:=u3
     have hj:listed.getD j false=true:=by
      by_cases hui:up j=i
      ·rw [hui,ho] at hou
       injection hou with hou
       subst hou
       exact hpre' j u3
      ·exact hcl (up j) ou j hou (ihn (up j) (by omega) (by omega)) u3
     have hjl:j<listed.size:=by omega
     simp [hjl] at hj
     simp [hjl,hj]
   have hallF: ∀j,j+1<ops.size→yB dep Fs j a w:=fun j hj=>hF j (by omega) (hlt i j (by omega) (by omega))
   obtain ⟨hw,f,args,hr,hg⟩:=hlast a w hB hI hallF
   unfold wpOp
   rw [ho]
   simp only [hw,if_true,Oper.wp,hr,Oper.upon]
   refine .inl (hg.mono ?_)
   rintro e w' ⟨v,rfl,hq⟩
   have hnone:Region.ready .any ops (listed.setIfInBounds i true)=[]:=by
    unfold Region.ready
    rw [List.filter_eq_nil_iff]
    intro j hj
    have hj':j<ops.size:=by simpa using hj
    have:(listed.setIfInBounds i true).getD j true=true:=by
     rw [hgd]
     by_cases hji:j=i
     ·simp [hji]
     ·rw [if_neg hji];exact hlt i j (by omega) (by omega)
    simp only [this,Bool.not_true,Bool.false_and,Bool.false_eq_true,not_false_eq_true]
   cases fuel with
   |zero=>exact ⟨hnone,hq⟩
   |succ fuel=>exact ⟨fun _=>hq,fun j hj=>by rw [hnone] at hj;cases hj⟩
  have howe:UB P ops a0 D [] dep Inv R Fs i o:=hops i o (by omega) ho
  have hfacts: ∀j,bB o j=true→yB dep Fs j a w:=by
   intro j hj
   have h1:=hpre' j hj
   have hjl:j<listed.size:=by
    rcases Nat.lt_or_ge j listed.size with h |h
    ·exact h
    ·simp [h] at h1
   refine hF j (by omega) ?_
   simp [hjl] at h1
   simp [hjl,h1]
  -- what holds behind operation i
  have hnext: ∀a' w',(∃v,a'=a.put o.dst v)→Inv w'→yB dep Fs i a' w'→(w'=w∨(R w w'∧VY ops [] i=true))→
   wpAny P .any ops Q fuel (listed.setIfInBounds i true) a' w':=by
   rintro a' w' ⟨v,rfl⟩ hI' hFi hch
   refine ih _ _ _ (by simp [hsz]) (by rw [hgd,if_neg (fun e=>hiL e.symm)];exact hun0) (NX hB _ hst.2.1 v) hI' ?_ ?_ ?_
   ·intro j hj hlj
    rw [hgd] at hlj
    by_cases hji:j=i
    ·subst hji;exact hFi
    rw [if_neg hji] at hlj
    obtain ⟨oj,hoj⟩: ∃oj,ops[j]?=some oj:=⟨ops[j],by simp [hj]⟩
    have hnw:bB oj i=false:=by
     cases hw:bB oj i with
     |false=>rfl
     |true=>
      have h1:=hcl j oj i hoj hlj hw
      have hil:i<listed.size:=by omega
      simp [hil] at h1 hun
      rw [h1] at hun
      cases hun
    have h1:yB dep Fs j (a.put o.dst v) w:=Vf _ _ (fun d hd=>hst.2.2 j oj hoj hji hnw d hd) (hF j hj hlj)
    rcases hch with rfl |⟨hR,hnl⟩
    ·exact h1
    ·exact hstab j _ _ _ hR h1
   ·intro j oj k hoj hlj hw
    rw [hgd] at hlj ⊢
    by_cases hki:k=i
    ·simp [hki]
    rw [if_neg hki]
    by_cases hji:j=i
    ·subst hji
     rw [ho] at hoj
     injection hoj with hoj
     subst hoj
     exact hpre' k hw
    ·rw [if_neg hji] at hlj
     exact hcl j oj k hoj hlj hw
   ·have hsub:(List.range ops.size).filter (fun j=> !(listed.setIfInBounds i true).getD j true)=((List.range ops.size).filter fun j=> !listed.getD j true).filter (fun j=> !(j==i)):=by
     rw [List.filter_filter]
     refine List.filter_congr fun j _=>?_
     rw [hgd]
     by_cases hji:j=i<;>simp [hji]
    rw [hsub]
    have hlt:(((List.range ops.size).filter fun j=> !listed.getD j true).filter (fun j=> !(j==i))).length<((List.range ops.size).filter fun j=> !listed.getD j true).length:=by
     rw [List.length_filter_lt_length_iff_exists]
     exact ⟨i,List.mem_filter.2 ⟨hir,by simp [hun]⟩,by simp⟩
    omega
  have hgive: ∀v w',NO ops [] dep Inv R Fs i o a w v w'→wpAny P .any ops Q fuel (listed.setIfInBounds i true) (a.put o.dst v) w':=by
   rintro v w' ⟨h1,h2,h3⟩
   refine hnext _ _ ⟨v,rfl⟩ h1 ?_ h3
   unfold yB
   cases hd:o.dst with
   |none=>rw [hd] at h2;exact h2
   |some d=>
    rw [hd] at h2
    obtain ⟨e1,e2⟩:=Rl hs ho hd
    rw [e1,og _ _ (by rw [hB.1];exact e2)]
    exact h2
  unfold wpOp
  rw [ho]
  rcases howe a w hB hI hfacts with ⟨hw,v,w',hr,hg⟩ |⟨hw,w',hr,hg⟩ |⟨hw,f,args,hr,hg⟩ |⟨hw,hg⟩
  ·simp only [hw,if_true,Oper.wp,hr,Oper.upon]
   exact .inl (hgive _ _ hg)
  ·simp only [hw,if_true,Oper.wp,hr,Oper.upon]
   exact .inl (hgive _ _ hg)
  ·simp only [hw,if_true,Oper.wp,hr,Oper.upon]
   refine .inl (hg.mono ?_)
   rintro e w' ⟨v,rfl,hg'⟩
   exact hgive _ _ hg'
  ·simp only [hw,Bool.false_eq_true,if_false]
   exact hgive _ _ hg
theorem Pn {id:Nat} {w:World} {up:Nat→Nat} {L:Nat} {oL:Oper} (hm:P.follows .mixedOrders=true) (hL:ops.size=L+1) (hoL:ops[L]?=some oL) (hup:abK ops L up=true) (hs:tQ ops a0.tmps.size D dep=true)
 (hstab: ∀j a w w',R w w'→yB dep Fs j a w→yB dep Fs j a w') (hI:Inv w.drew)
 (hops: ∀i o,i<L→ops[i]?=some o→UB P ops a0 D [] dep Inv R Fs i o) (hlast:IH P ops Q a0 D dep Inv Fs oL):(Code.region id ops true).wp P Q a0 w:=
 wp_region_any hm (YQ hL hoL hup hs hstab hops hlast ops.size _ a0 _ (by simp) (by simp [hL]) ⟨rfl,rfl,fun _ _=>rfl⟩ hI
  (fun i hi h=>by simp [hi] at h)
  (fun j oj i hj h=>by
   have:j<ops.size:=by
    rcases Nat.lt_or_ge j ops.size with h |h
    ·exact h
    ·simp [h] at hj
   simp [this] at h)
  (by have:=List.length_filter_le (fun i=> !(Array.replicate ops.size false).getD i true) (List.range ops.size);simpa using this))
theorem Nh {id:Nat} {w:World} {up:Nat→Nat} {L:Nat} {oL:Oper} (hm:P.follows .mixedOrders=true) (hL:ops.size=L+1) (hoL:ops[L]?=some oL) (hup:abK ops L up=true) (hs:tQ ops a0.tmps.size D dep=true)
 (hstab: ∀j a w w',R w w'→yB dep Fs j a w→yB dep Fs j a w') (hI:Inv w.drew)
 (hops:Mk P ops a0 D [] dep Inv R Fs 0 (ops.toList.take L)) (hlast:IH P ops Q a0 D dep Inv Fs oL):(Code.region id ops true).wp P Q a0 w:=
 Pn hm hL hoL hup hs hstab hI (fun i o hi ho=>by
  have:=YI hops i o (by rw [List.getElem?_take_of_lt hi];simpa using ho)
  rwa [Nat.zero_add] at this) hlast
end
theorem Tq {f:FuncId} {own:Bool} (h:aL Tryz.prog ⟨f,[.o (.int .i64)],[.o .s],own,fun x=>cb ii 30 x⟩):aL Tryz.prog ⟨f,[.o (.int .i64)],[.o .s],own,fun x=>aY x⟩:=⟨h.1,fun x res hm=>h.2 x res (aen hm)⟩
theorem EW {w w1:World} (h:Bs w) (hb:Below w.heap.size w w1):Bs w1:=by
 obtain ⟨h1,m,h2⟩:=h
 exact ⟨fun w' h'=>h1 w' (bp h' hb),m,fun w' h'=>h2 w' (bp h' hb)⟩
theorem Hf {own:Bool} (hN:aL Tryz.prog ⟨118,[.o .s],[.o (.int .i64),.o .b],own,fun x=>aD x⟩) {w:World} (hbs:Bs w) {s:ByteArray} {r:Int×Bool} (hm:aD s=some r) {w1:World} (h1:Below w.heap.size w w1):
 Calls Tryz.prog 118 #[.string s] w1 fun e w'=>e= .returned (.tuple #[.int .i64 r.1,.bool r.2])∧Below w1.heap.size w1 w':=by
 have h:=hN.2 s r hm (abg []) w1 w1 [] (EW hbs h1) ⟨_,_,rfl,⟨s,rfl⟩,rfl⟩ (St.nil w1)
 refine h.mono ?_
 rintro e w' ⟨us,A,rfl,⟨v1,v2,v3,A1,A2,A3,hv,rfl,q1,q2,q3⟩,S⟩
 obtain ⟨v,vr,u,ur,B1,B2,rfl,rfl,rfl,⟨k,z,rfl,rfl,rfl⟩,v,vr,u,ur,B1,B2,rfl,rfl,rfl,⟨y,rfl,rfl,rfl⟩,rfl,rfl,rfl⟩:=q1
 have hv: [PV.int .i64 r.1,PV.b r.2]=_:=hv
 simp only [List.cons_append,List.nil_append,List.cons.injEq,PV.int.injEq,PV.b.injEq] at hv
 obtain ⟨⟨rfl,rfl⟩,rfl,_⟩:=hv
 exact ⟨rfl,S.below⟩
theorem Rr (w:World): ∃w1 w2 w3 w4 w5 w6 w7 w8,(Instr.makeMap 159 none).run Tryz.prog (w.alloc (.cells #[.int .i64 0,.int .i64 0,.int .i64 0] 86))= .ok (.map (some (w.heap.size+1))) (((w.alloc (.cells #[.int .i64 0,.int .i64 0,.int .i64 0] 86))).alloc (.map #[] 0))∧(Instr.makeMap 159 none).run Tryz.prog w5= .ok (.map (some (w.heap.size+2))) (w5.alloc (.map #[] 0))∧(Instr.mapUpdate 159 (.map (some (w.heap.size+1))) (.string {data:= #[111,110]}) (.int .i64 0)).run Tryz.prog (((w.alloc (.cells #[.int .i64 0,.int .i64 0,.int .i64 0] 86))).alloc (.map #[] 0))= .ok () w1∧(Instr.mapUpdate 159 (.map (some (w.heap.size+1))) (.string {data:= #[111,102,102]}) (.int .i64 1)).run Tryz.prog w1= .ok () w2∧(Instr.mapUpdate 159 (.map (some (w.heap.size+1))) (.string {data:= #[101,97,114,116,104]}) (.int .i64 2)).run Tryz.prog w2= .ok () w3∧(Instr.mapUpdate 159 (.map (some (w.heap.size+1))) (.string {data:= #[99,108,101,97,114]}) (.int .i64 3)).run Tryz.prog w3= .ok () w4∧(Instr.mapUpdate 159 (.map (some (w.heap.size+1))) (.string {data:= #[98,114,101,97,107]}) (.int .i64 6)).run Tryz.prog w4= .ok () w5∧(Instr.mapUpdate 159 (.map (some (w.heap.size+2))) (.string {data:= #[105,115,115,117,101]}) (.int .i64 4)).run Tryz.prog (w5.alloc (.map #[] 0))= .ok () w6∧(Instr.mapUpdate 159 (.map (some (w.heap.size+2))) (.string {data:= #[114,101,116,117,114,110]}) (.int .i64 5)).run Tryz.prog w6= .ok () w7∧(Instr.mapUpdate 159 (.map (some (w.heap.size+2))) (.string {data:= #[109,101,110,100]}) (.int .i64 7)).run Tryz.prog w7= .ok () w8∧sH w8 (w.heap.size+1) Ih∧sH w8 (w.heap.size+2) Ii∧w8.heap.size=w.heap.size+3∧w5.heap.size=w.heap.size+2∧Below w.heap.size w w8∧Bk w8 w.heap.size 86 #[.int .i64 0,.int .i64 0,.int .i64 0]:=by
 have ht:Tryz.prog.underlying 159=some (.map 9 3):=Tryz.underlying159
 have hk:Tryz.prog.underlying 9=some .string:=Tryz.underlying9
 have b0:Below w.heap.size w (((w.alloc (.cells #[.int .i64 0,.int .i64 0,.int .i64 0] 86))).alloc (.map #[] 0)):=(Below.refl _ _).alloc (Nat.le_refl _) _ |>.alloc (by simp) _
 have B0:Bk (((w.alloc (.cells #[.int .i64 0,.int .i64 0,.int .i64 0] 86))).alloc (.map #[] 0)) w.heap.size 86 #[.int .i64 0,.int .i64 0,.int .i64 0]:=(Bk.new w _ _).alloc _
 have m0:sH (((w.alloc (.cells #[.int .i64 0,.int .i64 0,.int .i64 0] 86))).alloc (.map #[] 0)) (w.heap.size+1) []:=by have:=Ss ((w.alloc (.cells #[.int .i64 0,.int .i64 0,.int .i64 0] 86)));simpa using this
 have z0:(((w.alloc (.cells #[.int .i64 0,.int .i64 0,.int .i64 0] 86))).alloc (.map #[] 0)).heap.size=w.heap.size+2:=by simp
 obtain ⟨w1,r1,m1,z1,g1⟩:=vf m0 ht hk (k:= {data:= #[111,110]}) 0 rfl
 have b1:=oa b0 g1 (by omega)
 have B1:=B0.grown' g1 (by omega)
 obtain ⟨w2,r2,m2,z2,g2⟩:=vf m1 ht hk (k:= {data:= #[111,102,102]}) 1 rfl
 have b2:=oa b1 g2 (by omega)
 have B2:=B1.grown' g2 (by omega)
 obtain ⟨w3,r3,m3,z3,g3⟩:=vf m2 ht hk (k:= {data:= #[101,97,114,116,104]}) 2 rfl
 have b3:=oa b2 g3 (by omega)
 have B3:=B2.grown' g3 (by omega)
 obtain ⟨w4,r4,m4,z4,g4⟩:=vf m3 ht hk (k:= {data:= #[99,108,101,97,114]}) 3 rfl
 have b4:=oa b3 g4 (by omega)
 have B4:=B3.grown' g4 (by omega)
 obtain ⟨w5,r5,m5,z5,g5⟩:=vf m4 ht hk (k:= {data:= #[98,114,101,97,107]}) 6 rfl
 have b5:=oa b4 g5 (by omega)
 have B5:=B4.grown' g5 (by omega)
 have z5':w5.heap.size=w.heap.size+2:=by omega
 have n0:sH (w5.alloc (.map #[] 0)) w5.heap.size []:=Ss w5
 have m5':=Hb m5 (.map #[] 0)
 have b5':Below w.heap.size w (w5.alloc (.map #[] 0)):=b5.alloc (by omega) _
 have B5':=B5.alloc (.map #[] 0)
 obtain ⟨w6,r6,n1,z6,g6⟩:=vf n0 ht hk (k:= {data:= #[105,115,115,117,101]}) 4 rfl
 have m6:=JL m5' g6 (by omega)
 have b6:=oa b5' g6 (by omega)
 have B6:=B5'.grown' g6 (by omega)
 obtain ⟨w7,r7,n2,z7,g7⟩:=vf n1 ht hk (k:= {data:= #[114,101,116,117,114,110]}) 5 rfl
 have m7:=JL m6 g7 (by omega)
 have b7:=oa b6 g7 (by omega)
 have B7:=B6.grown' g7 (by omega)
 obtain ⟨w8,r8,n3,z8,g8⟩:=vf n2 ht hk (k:= {data:= #[109,101,110,100]}) 7 rfl
 have m8:=JL m7 g8 (by omega)
 have b8:=oa b7 g8 (by omega)
 have B8:=B7.grown' g8 (by omega)
 have z6':(w5.alloc (.map #[] 0)).heap.size=w.heap.size+3:=by simp;omega
 have q0:(Instr.makeMap 159 none).run Tryz.prog (w.alloc (.cells #[.int .i64 0,.int .i64 0,.int .i64 0] 86))= .ok (.map (some (w.heap.size+1))) (((w.alloc (.cells #[.int .i64 0,.int .i64 0,.int .i64 0] 86))).alloc (.map #[] 0)):=by have:=run_makeMap (P:=Tryz.prog) 159 ((w.alloc (.cells #[.int .i64 0,.int .i64 0,.int .i64 0] 86)));simpa using this
 have q5:(Instr.makeMap 159 none).run Tryz.prog w5= .ok (.map (some w5.heap.size)) (w5.alloc (.map #[] 0)):=rfl
 rw [z5'] at q5 r6 r7 r8 n3
 exact ⟨w1,w2,w3,w4,w5,w6,w7,w8,q0,q5,r1,r2,r3,r4,r5,r6,r7,r8,m8,n3,by omega,z5',b8,B8⟩
theorem SJ {w:World} {A:Option Addr} {c:Nat} {ws:List ByteArray} (R:Rc w 1 A ws.length c (ws.flatMap (EK.s).enc)) (h:0<ws.length): ∃b off,A=some ⟨b,off,none⟩∧b<w.heap.size∧ ∀j s,ws[j]?=some s→w.cell? ⟨b,off+j,none⟩=some (.string s):=by
 have hf:ws.flatMap (EK.s).enc=ws.map Value.string:=by rw [List.map_eq_flatMap];rfl
 obtain ⟨b,off,hA,hcell⟩:=R.rd.2 (by omega)
 rw [hf] at hcell
 have hc: ∀j s,ws[j]?=some s→w.cell? ⟨b,off+j,none⟩=some (.string s):=fun j z hz=>hcell j _ (by rw [List.getElem?_map,hz];rfl)
 refine ⟨b,off,hA,?_,hc⟩
 have:=hc 0 ws[0] (by simp)
 rcases Nat.lt_or_ge b w.heap.size with h |h
 ·exact h
 ·simp [World.cell?,Array.getElem?_eq_none h] at this
def Ml (w:World) (r:Int×Int×Int×Bool) (e:Ending) (w':World):Prop:=e= .returned (.tuple #[.agg #[.int .i64 r.1,.int .i64 r.2.1,.int .i64 r.2.2.1],.bool r.2.2.2])∧Below w.heap.size w w'
set_option maxRecDepth 20000 in
theorem TQ {w:World} {A:Option Addr} {c n:Nat} (h2: ¬n=2) (h3: ¬n=3):Calls Tryz.prog 52 #[.slice A n c] w (Ml w (0,0,0,false)):=by
 obtain ⟨w1,w2,w3,w4,w5,w6,w7,w8,q1,q2,r1,r2,r3,r4,r5,r6,r7,r8,m1,m2,z8,z5,b8,B8⟩:=Rr w
 have e2:((n:Int)==2)=false:=by rw [beq_eq_false_iff_ne];omega
 have e3:((n:Int)==3)=false:=by rw [beq_eq_false_iff_ne];omega
 have f8:=B8.c3
 go_enter Tryz.func52,Tryz.ntmps52
 go_wp2
 exact bodyPost_ret (v:=.tuple #[.agg #[.int .i64 0,.int .i64 0,.int .i64 0],.bool false]) (by simp [results,Tryz.results52,go_sem, *]) rfl ⟨rfl,(by repeat' (first |exact Below.refl _ _ |assumption |refine Below.drew ?_ |refine cell_drew ?_ |refine Below.setCell ?_ (by (try simp);(try omega)) _ |refine Below.alloc ?_ (by (try simp);(try omega)) _ |refine xe (by assumption) (by (try simp);(try omega)) ?_))⟩
set_option maxRecDepth 20000 in
theorem Ws {own:Bool} (hN:aL Tryz.prog ⟨118,[.o .s],[.o (.int .i64),.o .b],own,fun x=>aD x⟩) {w:World} (hbs:Bs w) {x y:ByteArray} {A:Option Addr} {c:Nat} (R:Rc w 1 A [x,y].length c ([x,y].flatMap (EK.s).enc)) {p:Int×Bool} (hp:aD y=some p):
 Calls Tryz.prog 52 #[.slice A 2 c] w (Ml w ((pO Ih x).1,p.1,0,(pO Ih x).2&&p.2)):=by
 obtain ⟨b,off,rfl,hb,hc⟩:=SJ R (by simp)
 have c0:w.cell? ⟨b,off,none⟩=some (.string x):=hc 0 x rfl
 have c1:w.cell? ⟨b,off+1,none⟩=some (.string y):=hc 1 y rfl
 clear hc R
 obtain ⟨w1,w2,w3,w4,w5,w6,w7,w8,q1,q2,r1,r2,r3,r4,r5,r6,r7,r8,m1,m2,z8,z5,b8,B8⟩:=Rr w
 have hc0: ∀o,(w8.alloc o).cell? ⟨b,off,none⟩=some (.string x):=fun o=>((b8.alloc (by omega) o).cell (p:=⟨b,off,none⟩) hb).trans c0
 have hc1: ∀o,(w8.alloc o).cell? ⟨b,off+1,none⟩=some (.string y):=fun o=>((b8.alloc (by omega) o).cell (p:=⟨b,off+1,none⟩) hb).trans c1
 have hl: ∀o,(Instr.lookup 159 (.map (some (w.heap.size+1))) (.string x) true).run Tryz.prog (w8.alloc o)= .ok (.tuple #[.int .i64 (pO Ih x).1,.bool (pO Ih x).2]) (w8.alloc o):=fun o=>OQ (Hb m1 o) Tryz.underlying159 Tryz.underlying9 (by simp [go_sem]) x
 have BD: ∀cs,Bk (w8.alloc (.cells cs 86)) (w.heap.size+3) 86 cs:=fun cs=>by have:=Bk.new w8 86 cs;rwa [z8] at this
 have B0: ∀cs,Bk (w8.alloc (.cells cs 86)) w.heap.size 86 #[.int .i64 0,.int .i64 0,.int .i64 0]:=fun cs=>B8.alloc _
 have bA: ∀o,Below w.heap.size w (w8.alloc o):=fun o=>b8.alloc (by omega) o
 have f8:=B8.c3
 generalize pO Ih x=l at*
 obtain ⟨l1,l2⟩:=l
 obtain ⟨p1,p2⟩:=p
 go_enter Tryz.func52,Tryz.ntmps52
 go_wp2_with fail
 refine (Hf hN hbs hp (bA _)).mono ?_
 rintro e w9 ⟨rfl,hb9⟩
 have b9:=bp hb9 (bA _)
 have f0:=((B0 _).after hb9).c3
 have f1:=((BD _).after hb9).c3
 clear hb9 bA B0 BD f8 B8 b8 hl hc0 hc1 m1 m2 r1 r2 r3 r4 r5 r6 r7 r8 q1 q2
 cases l2
 all_goals
  go_wp2
  exact bodyPost_ret (v:=.tuple #[.agg #[.int .i64 l1,.int .i64 p1,.int .i64 0],.bool _]) (by simp [results,Tryz.results52,go_sem, *]) rfl ⟨rfl,(by repeat' (first |exact Below.refl _ _ |assumption |refine Below.drew ?_ |refine cell_drew ?_ |refine Below.setCell ?_ (by (try simp);(try omega)) _ |refine Below.alloc ?_ (by (try simp);(try omega)) _ |refine xe (by assumption) (by (try simp);(try omega)) ?_))⟩
set_option maxRecDepth 20000 in
set_option maxHeartbeats 2000000 in
theorem QT {own:Bool} (hN:aL Tryz.prog ⟨118,[.o .s],[.o (.int .i64),.o .b],own,fun x=>aD x⟩) {w:World} (hbs:Bs w) {x y z:ByteArray} {A:Option Addr} {c:Nat} (R:Rc w 1 A [x,y,z].length c ([x,y,z].flatMap (EK.s).enc)) {p q:Int×Bool} (hp:aD y=some p) (hq:aD z=some q):
 Calls Tryz.prog 52 #[.slice A 3 c] w (Ml w ((pO Ii x).1,p.1,q.1,(pO Ii x).2&&p.2&&q.2)):=by
 obtain ⟨b,off,rfl,hb,hc⟩:=SJ R (by simp)
 have c0:w.cell? ⟨b,off,none⟩=some (.string x):=hc 0 x rfl
 have c1:w.cell? ⟨b,off+1,none⟩=some (.string y):=hc 1 y rfl
 have c2:w.cell? ⟨b,off+2,none⟩=some (.string z):=hc 2 z rfl
 clear hc R
 obtain ⟨w1,w2,w3,w4,w5,w6,w7,w8,q1,q2,r1,r2,r3,r4,r5,r6,r7,r8,m1,m2,z8,z5,b8,B8⟩:=Rr w
 have hc0: ∀o,(w8.alloc o).cell? ⟨b,off,none⟩=some (.string x):=fun o=>((b8.alloc (by omega) o).cell (p:=⟨b,off,none⟩) hb).trans c0
 have hc1: ∀o,(w8.alloc o).cell? ⟨b,off+1,none⟩=some (.string y):=fun o=>((b8.alloc (by omega) o).cell (p:=⟨b,off+1,none⟩) hb).trans c1
 have hl: ∀o,(Instr.lookup 159 (.map (some (w.heap.size+2))) (.string x) true).run Tryz.prog (w8.alloc o)= .ok (.tuple #[.int .i64 (pO Ii x).1,.bool (pO Ii x).2]) (w8.alloc o):=fun o=>OQ (Hb m2 o) Tryz.underlying159 Tryz.underlying9 (by simp [go_sem]) x
 have BD: ∀cs,Bk (w8.alloc (.cells cs 86)) (w.heap.size+3) 86 cs:=fun cs=>by have:=Bk.new w8 86 cs;rwa [z8] at this
 have B0: ∀cs,Bk (w8.alloc (.cells cs 86)) w.heap.size 86 #[.int .i64 0,.int .i64 0,.int .i64 0]:=fun cs=>B8.alloc _
 have bA: ∀o,Below w.heap.size w (w8.alloc o):=fun o=>b8.alloc (by omega) o
 have f8:=B8.c3
 generalize pO Ii x=l at*
 obtain ⟨l1,l2⟩:=l
 obtain ⟨p1,p2⟩:=p
 obtain ⟨p3,p4⟩:=q
 go_enter Tryz.func52,Tryz.ntmps52
 go_wp2_with fail
 refine (Hf hN hbs hp (bA _)).mono ?_
 rintro e w9 ⟨rfl,hb9⟩
 have z9:=hb9.size
 simp at z9
 have b9:=bp hb9 (bA _)
 have f0:=((B0 _).after hb9).c3
 have f1:=((BD _).after hb9).c3
 have e2:=(b9.cell (p:=⟨b,off+2,none⟩) hb).trans c2
 have D:=(BD _).after hb9
 have D0:=(B0 _).after hb9
 clear hb9 bA B0 BD f8 B8 b8 hl hc0 hc1 m1 m2 r1 r2 r3 r4 r5 r6 r7 r8 q1 q2
 go_wp2_with fail
 have Dn:Bk (w9.setCell ⟨w.heap.size+3,1,none⟩ (.int .i64 p1)) (w.heap.size+3) 86 #[.int .i64 l1,.int .i64 p1,.int .i64 0]:=D.set_ 1 _
 have Dm:Bk (w9.setCell ⟨w.heap.size+3,1,none⟩ (.int .i64 p1)) w.heap.size 86 #[.int .i64 0,.int .i64 0,.int .i64 0]:=D0.far (by simp) _
 have bn:Below w.heap.size w (w9.setCell ⟨w.heap.size+3,1,none⟩ (.int .i64 p1)):=b9.setCell (by simp) _
 refine (Hf hN hbs hq bn).mono ?_
 rintro e w10 ⟨rfl,hb10⟩
 have b10:=bp hb10 bn
 have g0:=(Dm.after hb10).c3
 have g1:=(Dn.after hb10).c3
 clear hb10 Dn Dm D D0 f0 f1 b9 bn
 cases l2<;>cases p2
 all_goals
  go_wp2
  exact bodyPost_ret (v:=.tuple #[.agg #[.int .i64 l1,.int .i64 p1,.int .i64 p3],.bool _]) (by simp [results,Tryz.results52,go_sem, *]) rfl ⟨rfl,(by repeat' (first |exact Below.refl _ _ |assumption |refine Below.drew ?_ |refine cell_drew ?_ |refine Below.setCell ?_ (by (try simp);(try omega)) _ |refine Below.alloc ?_ (by (try simp);(try omega)) _ |refine xe (by assumption) (by (try simp);(try omega)) ?_))⟩
theorem OE {own:Bool} (co:CallOk Tryz.prog 52) (hN:aL Tryz.prog ⟨118,[.o .s],[.o (.int .i64),.o .b],own,fun x=>aD x⟩):aL Tryz.prog ⟨52,[.o (.sl .ro 9 .s)],[.g [.int .i64,.int .i64,.int .i64],.o .b],false,fun x=>dG x⟩:=⟨co,fun x res hm e w0 w X hbs hp hS=>by
 have hm:dG x=some res:=hm
 obtain ⟨v,vr,hv,⟨l,hl,hro⟩,_⟩:=hp
 have hl:=(List.head_eq_of_cons_eq hv).trans hl
 injection hl with _ hl
 subst hl
 have R:=hro w _ hS (fun y hy=>List.mem_append_right _ hy)
 have hbs1:=EW hbs hS.below
 have key:Calls Tryz.prog 52 #[.slice (e.a 0) x.length (e.c 0)] w (Ml w res):=by
  unfold dG at hm
  by_cases h2:x.length=2
  ·obtain ⟨a,b,rfl⟩: ∃a b,x=[a,b]:=by
    match x,h2 with
    | [a,b],_=>exact ⟨a,b,rfl⟩
   rw [decide_eq_true h2] at hm
   obtain ⟨p,hp,hm⟩:=xg hm
   injection hm with hm
   subst hm
   exact Ws hN hbs1 R hp
  by_cases h3:x.length=3
  ·obtain ⟨a,b,c,rfl⟩: ∃a b c,x=[a,b,c]:=by
    match x,h3 with
    | [a,b,c],_=>exact ⟨a,b,c,rfl⟩
   rw [decide_eq_false h2,decide_eq_true h3] at hm
   obtain ⟨p,hp,hm⟩:=xg hm
   obtain ⟨q,hq,hm⟩:=xg hm
   injection hm with hm
   subst hm
   exact QT hN hbs1 R hp hq
  rw [decide_eq_false h2,decide_eq_false h3] at hm
  injection hm with hm
  subst hm
  exact TQ h2 h3
 refine Calls.mono key ?_
 rintro en w' ⟨rfl,hb⟩
 exact ⟨[_,_],[],rfl,⟨[_,_,_,_],[],[],[],[],[],rfl,rfl,⟨[_,_,_],[_],[_,_,_],[_],[],[],rfl,rfl,rfl,⟨_,_,_,_,[],[],rfl,rfl,rfl,⟨_,_,rfl,rfl,rfl⟩,_,_,_,_,[],[],rfl,rfl,rfl,⟨_,_,rfl,rfl,rfl⟩,_,_,_,_,[],[],rfl,rfl,rfl,⟨_,_,rfl,rfl,rfl⟩,rfl,rfl,rfl⟩,⟨_,[],_,[],[],[],rfl,rfl,rfl,⟨_,rfl,rfl,rfl⟩,rfl,rfl,rfl⟩⟩,⟨rfl,rfl⟩,⟨[],[],[],[],rfl,rfl,⟨rfl,rfl⟩,⟨rfl,rfl⟩⟩⟩,hS.quiet hb⟩⟩
abbrev Tk:EK:=.p (.int .i64) (.p (.int .i64) (.int .i64))
theorem OW {own:Bool} (hN:aL Tryz.prog ⟨100,[.g [.int .i64,.sl .ro 77 Tk]],[.o .b],own,fun x=>aX x.1 x.2⟩) {w:World} (hbs:Bs w) {b:Int} {ls:List (Int×Int×Int)} {A:Option Addr} {c:Nat} (R:Rc w 3 A ls.length c (ls.flatMap Tk.enc)) {p:Bool} (hp:aX b ls=some p) {w1:World} (h1:Below w.heap.size w w1):
 Calls Tryz.prog 100 #[.agg #[.int .i64 b,.slice A ls.length c]] w1 fun e w'=>e= .returned (.bool p)∧Below w1.heap.size w1 w':=by
 have R1:Rc w1 3 A ls.length c (ls.flatMap Tk.enc):=⟨R.rd.after h1,R.cap⟩
 refine (ZH hN (x:=(b,ls)) hp (e:=abg [(none,0),(A,c)]) (w:=w1) (b:=p) (EW hbs h1) ⟨_,_,rfl,⟨.i64,b,rfl⟩,_,_,rfl,⟨ls,rfl,fun u L S _=>S.rc0 R1⟩,rfl⟩ rfl rfl rfl).mono ?_
 rintro e w' ⟨rfl,S⟩
 exact ⟨rfl,S.below⟩
theorem NW {T e:TypeId} {B b:Nat} {p:Value} {bs:List Value} {w w':World} (h:Lib.BuilderAtF T e B b p bs w) (hb:Below w.heap.size w w'):Lib.BuilderAtF T e B b p bs w':=by
 have hlt:=h.lt
 obtain ⟨h1,v,h2,h3,h4⟩:=h
 refine ⟨h1,v,(hb.block b hlt).trans h2,h3.kept (row:=none) ⟨hb.os,hb.tape,hb.output,hb.size,fun k hk _=>hb.block k hk⟩ ?_,h4⟩
 cases v.ownBlock<;>simp
theorem Lq {T e:TypeId} {B b:Nat} {bs:List Value} {w w':World} (h:Lib.IsBuilderF T e B b bs w) (hb:Below w.heap.size w w'):Lib.IsBuilderF T e B b bs w':=
 h.imp (fun h=>NW h hb) (fun h=>NW h hb)
theorem HE (B b:Nat) (bs:List Value) (s:ByteArray) (w:World) (h:Lib.IsBuilderF 131 5 B b bs w) (hlen:bs.length+s.size≤140737488355328) (hBw:B≤w.heap.size):
 Calls Tryz.prog 102 #[.pointer (some ⟨b,0,none⟩),.string s] w fun e w'=>e= .returned (.tuple #[.int .i64 s.size,.nilIface])∧Lib.IsBuilderF 131 5 B b (bs++Lib.strCells s) w'∧Below B w w':=by
 refine (Any.Builder_WriteString_k {Tryz.lays156 with} Tryz.Builder_Extra_156 B b bs s w h hlen hBw).mono ?_
 rintro e w' ⟨rfl,h1,h2,_⟩
 exact ⟨rfl,.inr h1,h2⟩
def Qa (w:World) (s:ByteArray) (e:Ending) (w':World):Prop:=e= .returned (.string s)∧Below w.heap.size w w'
theorem Xf {own:Bool} (hN:aL Tryz.prog ⟨100,[.g [.int .i64,.sl .ro 77 Tk]],[.o .b],own,fun x=>aX x.1 x.2⟩) {w:World} (hbs:Bs w) {b:Int} {ls:List (Int×Int×Int)} {A:Option Addr} {c:Nat} (R:Rc w 3 A ls.length c (ls.flatMap Tk.enc)) (hp:aX b ls=some false):Calls Tryz.prog 42 #[.agg #[.int .i64 b,.slice A ls.length c]] w (Qa w (aW [])):=by
 have b0:Below w.heap.size w (w.alloc (.cells #[.int .i64 b,.slice A ls.length c] 25)):=(Below.refl _ _).alloc (Nat.le_refl _) _
 have hS:(aW []:ByteArray)= {data:= #[]}:=rfl
 rw [hS]
 go_enter Tryz.func42,Tryz.ntmps42
 go_wp2_with fail
 refine (OW hN hbs R hp b0).mono ?_
 rintro e w1 ⟨rfl,h1⟩
 have b1:=bp h1 b0
 go_wp2
 exact bodyPost_ret (v:=.string {data:= #[]}) (by simp [results,Tryz.results42,go_sem, *]) rfl ⟨rfl,(by repeat' (first |exact Below.refl _ _ |assumption |refine Below.drew ?_ |refine cell_drew ?_ |refine Below.setCell ?_ (by (try simp);(try omega)) _ |refine Below.alloc ?_ (by (try simp);(try omega)) _ |refine xe (by assumption) (by (try simp);(try omega)) ?_))⟩
def lnT (x:Int×Int×Int):List UInt8:=32::(Lib.itoa x.1++45::(Lib.itoa x.2.1++58::Lib.itoa x.2.2))
def Kx (b:Int) (ls:List (Int×Int×Int)) (k:Nat):List UInt8:=Lib.itoa b++(ls.take k).flatMap lnT
theorem NS (b:Int) (ls:List (Int×Int×Int)):Kx b ls 0=Lib.itoa b:=by simp [Kx]
theorem NR (b:Int) (ls:List (Int×Int×Int)) {k:Nat} (h:k<ls.length):Kx b ls (k+1)=Kx b ls k++lnT ls[k]:=by
 unfold Kx
 rw [List.take_succ_eq_append_getElem h,List.flatMap_append];simp
theorem XA (b:Int) (ls:List (Int×Int×Int)):Kx b ls ls.length=TE b ls:=by
 unfold Kx;rw [List.take_length];rfl
def Zr (n:Int):Prop:= -9223372036854775808≤n∧n≤9223372036854775807
theorem uM {n:Int} (h:Zr n):(Lib.itoa n).length≤21:=Lib.itoa_length_le n h.1 h.2
theorem VT {x:Int×Int×Int} (h:(Zr x.1∧Zr x.2.1)∧Zr x.2.2):(lnT x).length≤66:=by
 have h1:=uM h.1.1;have h2:=uM h.1.2;have h3:=uM h.2
 unfold lnT;simp;omega
theorem UC {b:Int} {ls:List (Int×Int×Int)} (h1:Zr b) (h3: ∀x∈ls,(Zr x.1∧Zr x.2.1)∧Zr x.2.2): ∀k,k≤ls.length→(Kx b ls k).length≤21+66*k
 |0,_=>by rw [NS];exact uM h1
 |k+1,hk=>by
  have:=UC h1 h3 k (by omega)
  have:=VT (h3 ls[k] (List.getElem_mem _))
  rw [NR b ls (by omega),List.length_append];omega
def fsT (g:Nat) (xa xb xm:Int):Nat→Value→World→Prop
 |0,v,_=>v= .pointer (some ⟨g,0,none⟩)
 |1,v,_=>v= .int .i64 xa
 |2,v,_=>v= .string (aW (Lib.itoa xa))
 |3,v,_=>v= .string (aW ([32]++Lib.itoa xa))
 |4,v,_=>v= .string (aW ([32]++Lib.itoa xa++ [45]))
 |5,v,_=>v= .pointer (some ⟨g,1,none⟩)
 |6,v,_=>v= .int .i64 xb
 |7,v,_=>v= .string (aW (Lib.itoa xb))
 |8,v,_=>v= .string (aW ([32]++Lib.itoa xa++ [45]++Lib.itoa xb))
 |9,v,_=>v= .string (aW ([32]++Lib.itoa xa++ [45]++Lib.itoa xb++ [58]))
 |10,v,_=>v= .pointer (some ⟨g,2,none⟩)
 |11,v,_=>v= .int .i64 xm
 |12,v,_=>v= .string (aW (Lib.itoa xm))
 |13,v,_=>v= .string (aW ([32]++Lib.itoa xa++ [45]++Lib.itoa xb++ [58]++Lib.itoa xm))
 |_,_,_=>True
def aap (j:Nat):Nat:=if j<15 then 20+j else 0
def upT:Nat→Nat
 |0=>1 |1=>2 |2=>3 |3=>4 |4=>8 |5=>6 |6=>7 |7=>8 |8=>9 |9=>13 |10=>11 |11=>12 |12=>13 |13=>14 |_=>0
theorem aa1 (xa xb xm:Int): [32]++Lib.itoa xa++ [45]++Lib.itoa xb++ [58]++Lib.itoa xm=lnT (xa,xb,xm):=by simp [lnT]
theorem Yb (g:Nat) (xa xb xm:Int) (j:Nat) (a:Act) (w w':World) (h:yB aap (fsT g xa xb xm) j a w):yB aap (fsT g xa xb xm) j a w':=by
 unfold yB at h ⊢
 match j with
 |0 |1 |2 |3 |4 |5 |6 |7 |8 |9 |10 |11 |12 |13=>exact h
 |n+14=>trivial
theorem Ez {a:Act} {k:Nat} {v:Value} (h:a.tmps[k]?.getD undef=v):a.eval (.tmp k)=v:=by rw [←h];simp [Act.eval]
theorem UD {P:Program} {a:Act} {w:World} {o:Oper} {T U:TypeId} {x y:Operand} {p q:List UInt8} (ho:o.op= .binOp .add T x y U) (hx:a.eval x= .string (aW p)) (hy:a.eval y= .string (aW q)) (h:p.length≤100∧q.length≤100):(execOp a.eval o).run P w= .ok (.value (.string (aW (p++q)))) w:=by
 have:=Pq (P:=P) (w:=w) ho hx hy (by rw [eL,eL];omega)
 rwa [zY] at this
set_option maxRecDepth 20000 in
set_option maxHeartbeats 2000000 in
theorem Zi {own:Bool} (hN:aL Tryz.prog ⟨100,[.g [.int .i64,.sl .ro 77 Tk]],[.o .b],own,fun x=>aX x.1 x.2⟩) {w:World} (hbs:Bs w) {b:Int} {ls:List (Int×Int×Int)} {A:Option Addr} {c:Nat} (R:Rc w 3 A ls.length c (ls.flatMap Tk.enc)) (hp:aX b ls=some true) (hb:VV b ls=true):Calls Tryz.prog 42 #[.agg #[.int .i64 b,.slice A ls.length c]] w (Qa w (aW (TE b ls))):=by
 have b0:Below w.heap.size w (w.alloc (.cells #[.int .i64 b,.slice A ls.length c] 25)):=(Below.refl _ _).alloc (Nat.le_refl _) _
 have B0:Bk (w.alloc (.cells #[.int .i64 b,.slice A ls.length c] 25)) w.heap.size 25 #[.int .i64 b,.slice A ls.length c]:=Bk.new _ _ _
 unfold VV n64 at hb
 simp only [Bool.and_eq_true,decide_eq_true_eq,List.all_eq_true] at hb
 obtain ⟨⟨hb1,hb2⟩,hb3⟩:=hb
 go_enter Tryz.func42,Tryz.ntmps42
 go_wp2_with fail
 refine (OW hN hbs R hp b0).mono ?_
 rintro e w1 ⟨rfl,h1⟩
 have b1:=bp h1 b0
 have B1:=B0.after h1
 have s1:=b1.size
 have f1:=(B1.alloc (.cells #[.pointer none,.slice none 0 0] 131)).c2
 go_wp2_with fail
 refine (tv hbs hb1 (b1.alloc s1 _)).mono ?_
 rintro e w2 ⟨rfl,h2⟩
 have F2:Lib.IsBuilderF 131 5 w1.heap.size w1.heap.size [] w2:=Lq (Lib.IsBuilderF.of (Lib.fresh_isBuilder _ _ w1)) h2
 have z2:=h2.size
 simp at z2
 have b2:=bp h2 (b1.alloc s1 _)
 have l0:=uM hb1
 have B2:=(B1.alloc (.cells #[.pointer none,.slice none 0 0] 131)).after h2
 go_wp2_with fail
 refine (HE w1.heap.size w1.heap.size [] _ w2 F2 (by rw [eL];simp;omega) (by omega)).mono ?_
 rintro e w3 ⟨rfl,F3,h3⟩
 have b3:Below w.heap.size w w3:=b2.trans (h3.mono s1)
 have z3:=h3.size
 have zl:w.heap.size<w1.heap.size:=by have:=h1.size;simp at this;omega
 have B3:=B2.below h3 zl
 have e3:([]:List Value)++Lib.strCells (aW (Lib.itoa b))=Lib.byteCells (Kx b ls 0):=by rw [NS,List.nil_append,Lib.strCells_eq,lN]
 rw [e3] at F3
 have HF:=Lib.hid F3
 have HB:=Lib.hid (Below.refl w1.heap.size w3)
 have f3:=B3.c2
 clear F3 f1 B1 B2 F2 b2 h3 h2 b1 h1
 go_wp2
 go_loopw [16] (fun i wr=> ∃k:Nat,k≤ls.length∧i= .int .i64 k∧Hid (Lib.IsBuilderF 131 5 w1.heap.size w1.heap.size (Lib.byteCells (Kx b ls k)) wr)∧Hid (Below w1.heap.size w3 wr)) (fun i _=>ls.length-(intOf i).toNat)
 case atStart=>exact ⟨0,Nat.zero_le _,rfl,HF,HB⟩
 case round=>
  obtain ⟨k,hk,rfl,HF,HB⟩:=hrel
  have sr:=HB.out.size
  by_cases hlt:k<ls.length
  ·obtain ⟨bk,off,rfl,hcell⟩:=R.rd.2 (by omega)
   have hx3:=hb3 ls[k] (List.getElem_mem _)
   have hkk:ls.getD k (0,0,0)=ls[k]:=by simp [hlt]
   have hc0:=hcell (k*3+0) (.int .i64 ls[k].1) (wg (f:=Tk.enc) (fun _=>rfl) (0,0,0) hlt (by rw [hkk];rfl))
   have hc1:=hcell (k*3+1) (.int .i64 ls[k].2.1) (wg (f:=Tk.enc) (fun _=>rfl) (0,0,0) hlt (by rw [hkk];rfl))
   have hc2:=hcell (k*3+2) (.int .i64 ls[k].2.2) (wg (f:=Tk.enc) (fun _=>rfl) (0,0,0) hlt (by rw [hkk];rfl))
   have hbk:bk<w.heap.size:=by
    rcases Nat.lt_or_ge bk w.heap.size with h |h
    ·exact h
    ·simp [World.cell?,Array.getElem?_eq_none h] at hc0
   have hac:=NR b ls hlt
   have hal:=UC hb1 hb3 k hk
   have HA:=Lib.hid hac
   clear hac hcell hkk
   generalize ls[k]=x at*
   obtain ⟨xa,xb,xm⟩:=x
   have br:Below w.heap.size w wr:=b3.trans (HB.out.mono s1)
   have g0:wr.cell? ⟨bk,off+k*3,none⟩=some (.int .i64 xa):=(br.cell (p:=⟨bk,off+(k*3+0),none⟩) hbk).trans hc0
   have g1:wr.cell? ⟨bk,off+k*3+1,none⟩=some (.int .i64 xb):=(br.cell (p:=⟨bk,off+(k*3+1),none⟩) hbk).trans hc1
   have g2:wr.cell? ⟨bk,off+k*3+2,none⟩=some (.int .i64 xm):=(br.cell (p:=⟨bk,off+(k*3+2),none⟩) hbk).trans hc2
   clear hc0 hc1 hc2
   have BL:Bk (wr.alloc (.cells #[.int .i64 xa,.int .i64 xb,.int .i64 xm] 77)) wr.heap.size 77 #[.int .i64 xa,.int .i64 xb,.int .i64 xm]:=Bk.new _ _ _
   have FL:=HF.out.alloc (.cells #[.int .i64 xa,.int .i64 xb,.int .i64 xm] 77)
   have bL:=br.alloc (by omega) (.cells #[.int .i64 xa,.int .i64 xb,.int .i64 xm] 77)
   have HL:=HB.out.alloc (by omega) (.cells #[.int .i64 xa,.int .i64 xb,.int .i64 xm] 77)
   obtain ⟨⟨hxa,hxb⟩,hxm⟩:=hx3
   have la:=uM hxa;have lb:=uM hxb;have lm:=uM hxm
   go_wp2
   refine Nh (up:=upT) (L:=14) (D:=[20,21,22,23,24,25,26,27,28,29,30,31,32,33,34]) (dep:=aap) (R:=fun w w'=>Below w.heap.size w w') (Inv:=fun wx=>Below (wr.alloc (.cells #[.int .i64 xa,.int .i64 xb,.int .i64 xm] 77)).heap.size (wr.alloc (.cells #[.int .i64 xa,.int .i64 xb,.int .i64 xm] 77)) wx) (Fs:=fsT wr.heap.size xa xb xm) mixed rfl rfl (by kernel_rfl) (by kernel_rfl) (fun j a w w' _ h=>Yb _ _ _ _ j a w w' h) (Below.refl _ _).drew ?_ ?_
   ·refine ⟨?_,?_,?_,?_,?_,?_,?_,?_,?_,?_,?_,?_,?_,?_,trivial⟩<;>rintro a wx ⟨hs,hd,hB⟩ I hp
    ·have e1:a.tmps[5]?.getD undef= .pointer (some ⟨wr.heap.size,0,none⟩):=hB 5 rfl
     exact .inl ⟨rfl,_,wx,by simp [go_sem,e1],I,rfl,.inl rfl⟩
    ·have e1:a.tmps[20]?.getD undef=_:=hp 0 rfl
     have f:=(BL.after I).c3
     exact .inl ⟨rfl,_,wx,by simp [go_sem,e1,f],I,rfl,.inl rfl⟩
    ·have e1:a.tmps[21]?.getD undef=_:=hp 1 rfl
     refine .inr (.inr (.inl ⟨rfl,_,_,by simp [go_sem,e1];exact ⟨rfl,rfl⟩,?_⟩))
     refine (tv hbs hxa (bp I bL)).mono ?_
     rintro e w5 ⟨rfl,h5⟩
     exact ⟨_,rfl,bp h5 I,rfl,.inr ⟨h5,rfl⟩⟩
    ·have e1:a.eval (.const (.string {data:= #[32]}))= .string (aW [32]):=rfl
     have e2:a.tmps[22]?.getD undef=_:=hp 2 rfl
     exact .inl ⟨rfl,_,wx,UD rfl e1 (Ez e2) (by simp;omega),I,rfl,.inl rfl⟩
    ·have e1:a.tmps[23]?.getD undef=_:=hp 3 rfl
     have e2:a.eval (.const (.string {data:= #[45]}))= .string (aW [45]):=rfl
     exact .inl ⟨rfl,_,wx,UD rfl (Ez e1) e2 (by simp;omega),I,rfl,.inl rfl⟩
    ·have e1:a.tmps[5]?.getD undef= .pointer (some ⟨wr.heap.size,0,none⟩):=hB 5 rfl
     exact .inl ⟨rfl,_,wx,by simp [go_sem,e1],I,rfl,.inl rfl⟩
    ·have e1:a.tmps[25]?.getD undef=_:=hp 5 rfl
     have f:=(BL.after I).c3
     exact .inl ⟨rfl,_,wx,by simp [go_sem,e1,f],I,rfl,.inl rfl⟩
    ·have e1:a.tmps[26]?.getD undef=_:=hp 6 rfl
     refine .inr (.inr (.inl ⟨rfl,_,_,by simp [go_sem,e1];exact ⟨rfl,rfl⟩,?_⟩))
     refine (tv hbs hxb (bp I bL)).mono ?_
     rintro e w5 ⟨rfl,h5⟩
     exact ⟨_,rfl,bp h5 I,rfl,.inr ⟨h5,rfl⟩⟩
    ·have e1:a.tmps[24]?.getD undef=_:=hp 4 rfl
     have e2:a.tmps[27]?.getD undef=_:=hp 7 rfl
     exact .inl ⟨rfl,_,wx,UD rfl (Ez e1) (Ez e2) (by simp;omega),I,rfl,.inl rfl⟩
    ·have e1:a.tmps[28]?.getD undef=_:=hp 8 rfl
     have e2:a.eval (.const (.string {data:= #[58]}))= .string (aW [58]):=rfl
     exact .inl ⟨rfl,_,wx,UD rfl (Ez e1) e2 (by simp;omega),I,rfl,.inl rfl⟩
    ·have e1:a.tmps[5]?.getD undef= .pointer (some ⟨wr.heap.size,0,none⟩):=hB 5 rfl
     exact .inl ⟨rfl,_,wx,by simp [go_sem,e1],I,rfl,.inl rfl⟩
    ·have e1:a.tmps[30]?.getD undef=_:=hp 10 rfl
     have f:=(BL.after I).c3
     exact .inl ⟨rfl,_,wx,by simp [go_sem,e1,f],I,rfl,.inl rfl⟩
    ·have e1:a.tmps[31]?.getD undef=_:=hp 11 rfl
     refine .inr (.inr (.inl ⟨rfl,_,_,by simp [go_sem,e1];exact ⟨rfl,rfl⟩,?_⟩))
     refine (tv hbs hxm (bp I bL)).mono ?_
     rintro e w5 ⟨rfl,h5⟩
     exact ⟨_,rfl,bp h5 I,rfl,.inr ⟨h5,rfl⟩⟩
    ·have e1:a.tmps[29]?.getD undef=_:=hp 9 rfl
     have e2:a.tmps[32]?.getD undef=_:=hp 12 rfl
     exact .inl ⟨rfl,_,wx,UD rfl (Ez e1) (Ez e2) (by simp;omega),I,rfl,.inl rfl⟩
   ·intro a wx hB I hF
    have e13:a.tmps[33]?.getD undef= .string (aW (lnT (xa,xb,xm))):=by rw [←aa1];exact hF 13 (by decide)
    have e3:a.tmps[3]?.getD undef= .pointer (some ⟨w1.heap.size,0,none⟩):=hB.2.2 3 rfl
    refine ⟨rfl,_,_,by simp [go_sem,e13,e3];exact ⟨rfl,rfl⟩,?_⟩
    have hl3:=VT (x:=(xa,xb,xm)) ⟨⟨hxa,hxb⟩,hxm⟩
    refine (HE w1.heap.size w1.heap.size _ _ wx (Lq FL I) (by rw [Lib.byteCells_length,eL];omega) (by have:=I.size;simp at this;omega)).mono ?_
    rintro e w6 ⟨rfl,F6,h6⟩
    refine ⟨_,rfl,?_⟩
    have b6:=(bp I HL (by omega)).trans h6
    rw [Lib.strCells_eq,lN,←Lib.byteCells_append,←HA.out] at F6
    have HF6:=Lib.hid F6
    have HB6:=Lib.hid b6
    rw [XG hB]
    simp only [List.foldl]
    generalize sl a 20=v20
    generalize sl a 21=v21
    generalize sl a 22=v22
    generalize sl a 23=v23
    generalize sl a 24=v24
    generalize sl a 25=v25
    generalize sl a 26=v26
    generalize sl a 27=v27
    generalize sl a 28=v28
    generalize sl a 29=v29
    generalize sl a 30=v30
    generalize sl a 31=v31
    generalize sl a 32=v32
    generalize sl a 33=v33
    generalize sl a 34=v34
    clear hB hF e13 e3 F6 b6 h6 I BL FL bL HL g0 g1 g2 br HF HB
    go_simp
    go_wp2
    go_roundw
    case rel=>exact ⟨k+1,hlt,by go_num,HF6,HB6⟩
    case measure=>simp [intOf];omega
  ·obtain rfl:k=ls.length:=by omega
   have HF':=HF.out
   rw [XA] at HF'
   have b4:Below w.heap.size w wr:=b3.trans (HB.out.mono s1)
   have zw:w1.heap.size≤wr.heap.size:=by have:=HB.out.size;omega
   go_wp2_with fail
   refine (Tryz.Builder_String_any_k w1.heap.size w1.heap.size _ wr HF' zw).mono ?_
   rintro e w7 ⟨rfl,_,h7,_⟩
   have b7:=b4.trans (h7.mono s1)
   clear h7 HF' HF HB
   go_wp2
   exact bodyPost_ret (v:=.string (aW (TE b ls))) (by simp [results,Tryz.results42,go_sem, *];rfl) rfl ⟨rfl,b7⟩
theorem Qx {own:Bool} (co:CallOk Tryz.prog 42) (hN:aL Tryz.prog ⟨100,[.g [.int .i64,.sl .ro 77 Tk]],[.o .b],own,fun x=>aX x.1 x.2⟩):aL Tryz.prog ⟨42,[.g [.int .i64,.sl .ro 77 Tk]],[.o .s],false,fun x=>cX x.1 x.2⟩:=⟨co,fun x res hm e w0 w X hbs hp hS=>by
 obtain ⟨b,ls⟩:=x
 have hm:cX b ls=some res:=hm
 obtain ⟨v0,r0,q0,l0,p1⟩:=hp
 obtain ⟨v1,r1,q1,l1,p2⟩:=p1
 replace q1:=(List.tail_eq_of_cons_eq q0).trans q1
 obtain ⟨z1,m1,hro1⟩:=l1
 replace m1:=(List.head_eq_of_cons_eq q1).trans m1
 injection m1 with _ m1
 subst m1
 have R:Rc w 3 (e.a 1) ls.length (e.c 1) (ls.flatMap Tk.enc):=hro1 w _ hS (fun y hy=>List.mem_append_right _ hy)
 have hbs1:=EW hbs hS.below
 have key:Calls Tryz.prog 42 #[.agg #[.int .i64 b,.slice (e.a 1) ls.length (e.c 1)]] w (Qa w res):=by
  unfold cX at hm
  obtain ⟨p,hp,hm⟩:=xg hm
  cases p with
  |false=>
   injection hm with hm
   subst hm
   exact Xf hN hbs1 R hp
  |true=>
   obtain ⟨hb,hm⟩:=cI hm
   injection hm with hm
   subst hm
   exact Zi hN hbs1 R hp hb
 refine Calls.mono key ?_
 rintro en w' ⟨rfl,hb⟩
 exact ⟨[_],[],rfl,⟨[_],[],[],[],[],[],rfl,rfl,⟨_,[],_,[],[],[],rfl,rfl,rfl,⟨_,rfl,rfl,rfl⟩,rfl,rfl,rfl⟩,⟨rfl,rfl⟩,⟨[],[],[],[],rfl,rfl,⟨rfl,rfl⟩,⟨rfl,rfl⟩⟩⟩,hS.quiet hb⟩⟩
theorem RB {x0:Value} {w:World} (h0:x0.cells= #[x0]):(Instr.build 117 [(0,x0)].toArray).run Tryz.prog w= .ok (.agg #[x0,.int .i64 0]) w:=by unfold Value.cells at h0;simp [go_sem,h0]
theorem abQ:CallOk Tryz.prog 100:=⟨by kernel_rfl⟩
theorem abR:CallOk Tryz.prog 101:=⟨by kernel_rfl⟩
theorem abS:CallOk Tryz.prog 103:=⟨by kernel_rfl⟩
theorem abT:CallOk Tryz.prog 105:=⟨by kernel_rfl⟩
theorem abU:CallOk Tryz.prog 106:=⟨by kernel_rfl⟩
theorem abV:CallOk Tryz.prog 107:=⟨by kernel_rfl⟩
theorem abW:CallOk Tryz.prog 108:=⟨by kernel_rfl⟩
theorem abX:CallOk Tryz.prog 109:=⟨by kernel_rfl⟩
theorem ae0:CallOk Tryz.prog 11:=⟨by kernel_rfl⟩
theorem abY:CallOk Tryz.prog 110:=⟨by kernel_rfl⟩
theorem abZ:CallOk Tryz.prog 111:=⟨by kernel_rfl⟩
theorem ab0:CallOk Tryz.prog 112:=⟨by kernel_rfl⟩
theorem ab1:CallOk Tryz.prog 113:=⟨by kernel_rfl⟩
theorem ab2:CallOk Tryz.prog 114:=⟨by kernel_rfl⟩
theorem ab3:CallOk Tryz.prog 115:=⟨by kernel_rfl⟩
theorem ab4:CallOk Tryz.prog 116:=⟨by kernel_rfl⟩
theorem ab5:CallOk Tryz.prog 118:=⟨by kernel_rfl⟩
theorem ab6:CallOk Tryz.prog 119:=⟨by kernel_rfl⟩
theorem ae1:CallOk Tryz.prog 12:=⟨by kernel_rfl⟩
theorem ab7:CallOk Tryz.prog 120:=⟨by kernel_rfl⟩
theorem ab8:CallOk Tryz.prog 121:=⟨by kernel_rfl⟩
theorem ab9:CallOk Tryz.prog 122:=⟨by kernel_rfl⟩
theorem aca:CallOk Tryz.prog 123:=⟨by kernel_rfl⟩
theorem acb:CallOk Tryz.prog 124:=⟨by kernel_rfl⟩
theorem acd:CallOk Tryz.prog 125:=⟨by kernel_rfl⟩
theorem ace:CallOk Tryz.prog 126:=⟨by kernel_rfl⟩
theorem acf:CallOk Tryz.prog 127:=⟨by kernel_rfl⟩
theorem acg:CallOk Tryz.prog 128:=⟨by kernel_rfl⟩
theorem ach:CallOk Tryz.prog 129:=⟨by kernel_rfl⟩
theorem aci:CallOk Tryz.prog 130:=⟨by kernel_rfl⟩
theorem acj:CallOk Tryz.prog 131:=⟨by kernel_rfl⟩
theorem ack:CallOk Tryz.prog 132:=⟨by kernel_rfl⟩
theorem acl:CallOk Tryz.prog 133:=⟨by kernel_rfl⟩
theorem acm:CallOk Tryz.prog 134:=⟨by kernel_rfl⟩
theorem acn:CallOk Tryz.prog 135:=⟨by kernel_rfl⟩
theorem aco:CallOk Tryz.prog 136:=⟨by kernel_rfl⟩
theorem acp:CallOk Tryz.prog 137:=⟨by kernel_rfl⟩
theorem acq:CallOk Tryz.prog 138:=⟨by kernel_rfl⟩
theorem acr:CallOk Tryz.prog 139:=⟨by kernel_rfl⟩
theorem ae2:CallOk Tryz.prog 14:=⟨by kernel_rfl⟩
theorem acs:CallOk Tryz.prog 140:=⟨by kernel_rfl⟩
theorem act:CallOk Tryz.prog 143:=⟨by kernel_rfl⟩
theorem acu:CallOk Tryz.prog 144:=⟨by kernel_rfl⟩
theorem acv:CallOk Tryz.prog 145:=⟨by kernel_rfl⟩
theorem acw:CallOk Tryz.prog 146:=⟨by kernel_rfl⟩
theorem acx:CallOk Tryz.prog 147:=⟨by kernel_rfl⟩
theorem acy:CallOk Tryz.prog 148:=⟨by kernel_rfl⟩
theorem acz:CallOk Tryz.prog 149:=⟨by kernel_rfl⟩
theorem acA:CallOk Tryz.prog 150:=⟨by kernel_rfl⟩
theorem acB:CallOk Tryz.prog 151:=⟨by kernel_rfl⟩
theorem acC:CallOk Tryz.prog 152:=⟨by kernel_rfl⟩
theorem acD:CallOk Tryz.prog 153:=⟨by kernel_rfl⟩
theorem acE:CallOk Tryz.prog 154:=⟨by kernel_rfl⟩
theorem acF:CallOk Tryz.prog 155:=⟨by kernel_rfl⟩
theorem acG:CallOk Tryz.prog 156:=⟨by kernel_rfl⟩
theorem acH:CallOk Tryz.prog 157:=⟨by kernel_rfl⟩
theorem acI:CallOk Tryz.prog 158:=⟨by kernel_rfl⟩
theorem acJ:CallOk Tryz.prog 159:=⟨by kernel_rfl⟩
theorem ae3:CallOk Tryz.prog 16:=⟨by kernel_rfl⟩
theorem acK:CallOk Tryz.prog 160:=⟨by kernel_rfl⟩
theorem acL:CallOk Tryz.prog 161:=⟨by kernel_rfl⟩
theorem acM:CallOk Tryz.prog 162:=⟨by kernel_rfl⟩
theorem acN:CallOk Tryz.prog 163:=⟨by kernel_rfl⟩
theorem acO:CallOk Tryz.prog 164:=⟨by kernel_rfl⟩
theorem acP:CallOk Tryz.prog 165:=⟨by kernel_rfl⟩
theorem acQ:CallOk Tryz.prog 168:=⟨by kernel_rfl⟩
theorem acR:CallOk Tryz.prog 169:=⟨by kernel_rfl⟩
theorem ae4:CallOk Tryz.prog 17:=⟨by kernel_rfl⟩
theorem acS:CallOk Tryz.prog 170:=⟨by kernel_rfl⟩
theorem acT:CallOk Tryz.prog 171:=⟨by kernel_rfl⟩
theorem acU:CallOk Tryz.prog 172:=⟨by kernel_rfl⟩
theorem acV:CallOk Tryz.prog 173:=⟨by kernel_rfl⟩
theorem acW:CallOk Tryz.prog 174:=⟨by kernel_rfl⟩
theorem acX:CallOk Tryz.prog 175:=⟨by kernel_rfl⟩
theorem acY:CallOk Tryz.prog 179:=⟨by kernel_rfl⟩
theorem acZ:CallOk Tryz.prog 180:=⟨by kernel_rfl⟩
theorem ac0:CallOk Tryz.prog 181:=⟨by kernel_rfl⟩
theorem ac1:CallOk Tryz.prog 182:=⟨by kernel_rfl⟩
theorem ac2:CallOk Tryz.prog 183:=⟨by kernel_rfl⟩
theorem ac3:CallOk Tryz.prog 185:=⟨by kernel_rfl⟩
theorem ac4:CallOk Tryz.prog 186:=⟨by kernel_rfl⟩
theorem ac5:CallOk Tryz.prog 187:=⟨by kernel_rfl⟩
theorem ac6:CallOk Tryz.prog 188:=⟨by kernel_rfl⟩
theorem ac7:CallOk Tryz.prog 189:=⟨by kernel_rfl⟩
theorem ae5:CallOk Tryz.prog 19:=⟨by kernel_rfl⟩
theorem ac8:CallOk Tryz.prog 190:=⟨by kernel_rfl⟩
theorem ac9:CallOk Tryz.prog 191:=⟨by kernel_rfl⟩
theorem ada:CallOk Tryz.prog 192:=⟨by kernel_rfl⟩
theorem adb:CallOk Tryz.prog 193:=⟨by kernel_rfl⟩
theorem adc:CallOk Tryz.prog 194:=⟨by kernel_rfl⟩
theorem ade:CallOk Tryz.prog 195:=⟨by kernel_rfl⟩
theorem adf:CallOk Tryz.prog 196:=⟨by kernel_rfl⟩
theorem adg:CallOk Tryz.prog 197:=⟨by kernel_rfl⟩
theorem adh:CallOk Tryz.prog 198:=⟨by kernel_rfl⟩
theorem adi:CallOk Tryz.prog 199:=⟨by kernel_rfl⟩
theorem ae6:CallOk Tryz.prog 20:=⟨by kernel_rfl⟩
theorem adj:CallOk Tryz.prog 200:=⟨by kernel_rfl⟩
theorem adk:CallOk Tryz.prog 201:=⟨by kernel_rfl⟩
theorem adl:CallOk Tryz.prog 204:=⟨by kernel_rfl⟩
theorem adm:CallOk Tryz.prog 205:=⟨by kernel_rfl⟩
theorem adn:CallOk Tryz.prog 206:=⟨by kernel_rfl⟩
theorem ado:CallOk Tryz.prog 207:=⟨by kernel_rfl⟩
theorem adp:CallOk Tryz.prog 212:=⟨by kernel_rfl⟩
theorem adq:CallOk Tryz.prog 213:=⟨by kernel_rfl⟩
theorem adr:CallOk Tryz.prog 216:=⟨by kernel_rfl⟩
theorem ads:CallOk Tryz.prog 217:=⟨by kernel_rfl⟩
theorem adt:CallOk Tryz.prog 219:=⟨by kernel_rfl⟩
theorem ae7:CallOk Tryz.prog 22:=⟨by kernel_rfl⟩
theorem adu:CallOk Tryz.prog 220:=⟨by kernel_rfl⟩
theorem adv:CallOk Tryz.prog 221:=⟨by kernel_rfl⟩
theorem adw:CallOk Tryz.prog 222:=⟨by kernel_rfl⟩
theorem ae8:CallOk Tryz.prog 23:=⟨by kernel_rfl⟩
theorem adx:CallOk Tryz.prog 232:=⟨by kernel_rfl⟩
theorem ady:CallOk Tryz.prog 234:=⟨by kernel_rfl⟩
theorem adz:CallOk Tryz.prog 236:=⟨by kernel_rfl⟩
theorem adA:CallOk Tryz.prog 237:=⟨by kernel_rfl⟩
theorem adC:CallOk Tryz.prog 238:=⟨by kernel_rfl⟩
theorem adD:CallOk Tryz.prog 239:=⟨by kernel_rfl⟩
theorem ae9:CallOk Tryz.prog 24:=⟨by kernel_rfl⟩
theorem adE:CallOk Tryz.prog 248:=⟨by kernel_rfl⟩
theorem afa:CallOk Tryz.prog 25:=⟨by kernel_rfl⟩
theorem adF:CallOk Tryz.prog 251:=⟨by kernel_rfl⟩
theorem afb:CallOk Tryz.prog 26:=⟨by kernel_rfl⟩
theorem afc:CallOk Tryz.prog 27:=⟨by kernel_rfl⟩
theorem afd:CallOk Tryz.prog 28:=⟨by kernel_rfl⟩
theorem afe:CallOk Tryz.prog 29:=⟨by kernel_rfl⟩
theorem aff:CallOk Tryz.prog 30:=⟨by kernel_rfl⟩
theorem afg:CallOk Tryz.prog 31:=⟨by kernel_rfl⟩
theorem afh:CallOk Tryz.prog 37:=⟨by kernel_rfl⟩
theorem afi:CallOk Tryz.prog 38:=⟨by kernel_rfl⟩
theorem afj:CallOk Tryz.prog 39:=⟨by kernel_rfl⟩
theorem afk:CallOk Tryz.prog 40:=⟨by kernel_rfl⟩
theorem afl:CallOk Tryz.prog 42:=⟨by kernel_rfl⟩
theorem afm:CallOk Tryz.prog 43:=⟨by kernel_rfl⟩
theorem afn:CallOk Tryz.prog 44:=⟨by kernel_rfl⟩
theorem afo:CallOk Tryz.prog 45:=⟨by kernel_rfl⟩
theorem afp:CallOk Tryz.prog 46:=⟨by kernel_rfl⟩
theorem afq:CallOk Tryz.prog 47:=⟨by kernel_rfl⟩
theorem afr:CallOk Tryz.prog 48:=⟨by kernel_rfl⟩
theorem afs:CallOk Tryz.prog 49:=⟨by kernel_rfl⟩
theorem aft:CallOk Tryz.prog 50:=⟨by kernel_rfl⟩
theorem afu:CallOk Tryz.prog 51:=⟨by kernel_rfl⟩
theorem afv:CallOk Tryz.prog 52:=⟨by kernel_rfl⟩
theorem afw:CallOk Tryz.prog 53:=⟨by kernel_rfl⟩
theorem afx:CallOk Tryz.prog 54:=⟨by kernel_rfl⟩
theorem afy:CallOk Tryz.prog 55:=⟨by kernel_rfl⟩
theorem afz:CallOk Tryz.prog 56:=⟨by kernel_rfl⟩
theorem afA:CallOk Tryz.prog 57:=⟨by kernel_rfl⟩
theorem afB:CallOk Tryz.prog 58:=⟨by kernel_rfl⟩
theorem afC:CallOk Tryz.prog 59:=⟨by kernel_rfl⟩
theorem afD:CallOk Tryz.prog 60:=⟨by kernel_rfl⟩
theorem afE:CallOk Tryz.prog 61:=⟨by kernel_rfl⟩
theorem adG:CallOk Tryz.prog 62:=⟨by kernel_rfl⟩
theorem afF:CallOk Tryz.prog 63:=⟨by kernel_rfl⟩
theorem afG:CallOk Tryz.prog 64:=⟨by kernel_rfl⟩
theorem afH:CallOk Tryz.prog 69:=⟨by kernel_rfl⟩
theorem afI:CallOk Tryz.prog 70:=⟨by kernel_rfl⟩
theorem afJ:CallOk Tryz.prog 71:=⟨by kernel_rfl⟩
theorem afK:CallOk Tryz.prog 72:=⟨by kernel_rfl⟩
theorem afL:CallOk Tryz.prog 73:=⟨by kernel_rfl⟩
theorem afM:CallOk Tryz.prog 74:=⟨by kernel_rfl⟩
theorem afN:CallOk Tryz.prog 75:=⟨by kernel_rfl⟩
theorem afO:CallOk Tryz.prog 76:=⟨by kernel_rfl⟩
theorem afP:CallOk Tryz.prog 77:=⟨by kernel_rfl⟩
theorem afQ:CallOk Tryz.prog 78:=⟨by kernel_rfl⟩
theorem afR:CallOk Tryz.prog 79:=⟨by kernel_rfl⟩
theorem afS:CallOk Tryz.prog 80:=⟨by kernel_rfl⟩
theorem afT:CallOk Tryz.prog 81:=⟨by kernel_rfl⟩
theorem afU:CallOk Tryz.prog 82:=⟨by kernel_rfl⟩
theorem afV:CallOk Tryz.prog 83:=⟨by kernel_rfl⟩
theorem afW:CallOk Tryz.prog 84:=⟨by kernel_rfl⟩
theorem afX:CallOk Tryz.prog 85:=⟨by kernel_rfl⟩
theorem afY:CallOk Tryz.prog 86:=⟨by kernel_rfl⟩
theorem afZ:CallOk Tryz.prog 87:=⟨by kernel_rfl⟩
theorem af0:CallOk Tryz.prog 88:=⟨by kernel_rfl⟩
theorem af1:CallOk Tryz.prog 89:=⟨by kernel_rfl⟩
theorem co9:CallOk Tryz.prog 9:=⟨by kernel_rfl⟩
theorem af2:CallOk Tryz.prog 90:=⟨by kernel_rfl⟩
theorem af3:CallOk Tryz.prog 91:=⟨by kernel_rfl⟩
theorem af4:CallOk Tryz.prog 92:=⟨by kernel_rfl⟩
theorem af5:CallOk Tryz.prog 95:=⟨by kernel_rfl⟩
theorem af6:CallOk Tryz.prog 96:=⟨by kernel_rfl⟩
theorem af7:CallOk Tryz.prog 97:=⟨by kernel_rfl⟩
theorem af8:CallOk Tryz.prog 98:=⟨by kernel_rfl⟩
theorem af9:CallOk Tryz.prog 99:=⟨by kernel_rfl⟩
theorem aaS:(Tryz.prog.info? 122).map (fun i=>(i.zero,i.size,i.bytes))=some (some (.agg #[.int .i64 0,.int .i64 0]),2,16):=by kernel_rfl
theorem VH:(Tryz.prog.info? 125).map (fun i=>(i.zero,i.size,i.bytes))=some (some (.agg #[.int .i64 0,.int .i64 0]),2,16):=by kernel_rfl
theorem aee:(Tryz.prog.info? 3).map (fun i=>(i.zero,i.size,i.bytes))=some (some (.int .i64 0),1,8):=by kernel_rfl
theorem agi:(Tryz.prog.info? 4).map (fun i=>(i.zero,i.size,i.bytes))=some (some (.bool false),1,1):=by kernel_rfl
theorem aef:(Tryz.prog.info? 77).map (fun i=>(i.zero,i.size,i.bytes))=some (some (.agg #[.int .i64 0,.int .i64 0,.int .i64 0]),3,24):=by kernel_rfl
theorem aeS:(Tryz.prog.info? 122).map (·.size)=some 2:=by kernel_rfl
theorem Mf:(Tryz.prog.info? 125).map (·.size)=some 2:=by kernel_rfl
theorem sz3:(Tryz.prog.info? 3).map (·.size)=some 1:=by kernel_rfl
theorem sz4:(Tryz.prog.info? 4).map (·.size)=some 1:=by kernel_rfl
theorem sz5:(Tryz.prog.info? 5).map (·.size)=some 1:=by kernel_rfl
theorem agq:(Tryz.prog.info? 77).map (·.size)=some 3:=by kernel_rfl
theorem adJ:Tryz.prog.eqGuardType Tryz.prog.depth 122=false:=by kernel_rfl
theorem adL {a0 b0:Int} {a1 b1:Int} {w:World}:(Op.equalIn 10000 122 (.agg #[.int .i64 a0,.int .i64 a1]) (.agg #[.int .i64 b0,.int .i64 b1])).run Tryz.prog w= .ok ((a0==b0)&&(a1==b1)) w:=by
 simp [go_sem]
 (repeat' split)<;>simp_all
theorem adK:Tryz.prog.eqGuardType Tryz.prog.depth 125=false:=by kernel_rfl
theorem adM {a0 b0:Int} {a1 b1:Int} {w:World}:(Op.equalIn 10000 125 (.agg #[.int .i64 a0,.int .i64 a1]) (.agg #[.int .i64 b0,.int .i64 b1])).run Tryz.prog w= .ok ((a0==b0)&&(a1==b1)) w:=by
 simp [go_sem]
 (repeat' split)<;>simp_all
theorem aga:Tryz.prog.eqGuardType Tryz.prog.depth 77=false:=by kernel_rfl
theorem agb {a0 b0:Int} {a1 b1:Int} {a2 b2:Int} {w:World}:(Op.equalIn 10000 77 (.agg #[.int .i64 a0,.int .i64 a1,.int .i64 a2]) (.agg #[.int .i64 b0,.int .i64 b1,.int .i64 b2])).run Tryz.prog w= .ok ((a0==b0)&&(a1==b1)&&(a2==b2)) w:=by
 simp [go_sem]
 (repeat' split)<;>simp_all
noncomputable section
def tys:List (Nat×TyI):=[(3,⟨.int .i64,1,8,[.int .i64 0],(.int .i64)⟩),(4,⟨.bo,1,1,[.bool false],.b⟩),(5,⟨.int .u8,1,1,[.int .u8 0],(.int .u8)⟩),(9,⟨.st,1,16,[.str ByteArray.empty],.s⟩),(22,⟨.sl 5,1,24,[.ns],.b⟩),(23,⟨.sl 77,1,24,[.ns],.b⟩),(25,⟨.ag [(0,1),(1,1)],2,32,[.int .i64 0,.ns],.b⟩),(26,⟨.sl 122,1,24,[.ns],.b⟩),(27,⟨.sl 4,1,24,[.ns],.b⟩),(28,⟨.sl 125,1,24,[.ns],.b⟩),(30,⟨.ag [(0,1),(1,1),(2,1)],3,72,[.ns,.ns,.ns],.b⟩),(31,⟨.sl 3,1,24,[.ns],.b⟩),(33,⟨.ag [(0,2),(2,1),(3,3),(6,1)],7,152,[.int .i64 0,.ns,.ns,.ns,.ns,.ns,.ns],.b⟩),(34,⟨.sl 9,1,24,[.ns],.b⟩),(49,⟨.sl 210,1,24,[.ns],.b⟩),(51,⟨.ag [(0,1),(1,1)],2,32,[.int .i64 0,.ns],.b⟩),(52,⟨.sl 185,1,24,[.ns],.b⟩),(53,⟨.sl 212,1,24,[.ns],.b⟩),(55,⟨.ag [(0,1),(1,1),(2,1)],3,72,[.ns,.ns,.ns],.b⟩),(57,⟨.ag [(0,2),(2,1),(3,3),(6,1)],7,152,[.int .i64 0,.ns,.ns,.ns,.ns,.ns,.ns],.b⟩),(65,⟨.ot,1,8,[.np],.b⟩),(77,⟨.ag [(0,1),(1,1),(2,1)],3,24,[.int .i64 0,.int .i64 0,.int .i64 0],(.p (.int .i64) (.p (.int .i64) (.int .i64)))⟩),(82,⟨.sl 86,1,24,[.ns],.b⟩),(86,⟨.ag [(0,1),(1,1),(2,1)],3,24,[.int .i64 0,.int .i64 0,.int .i64 0],(.p (.int .i64) (.p (.int .i64) (.int .i64)))⟩),(117,⟨.ag [(0,1),(1,1)],2,32,[.ns,.int .i64 0],.b⟩),(122,⟨.ag [(0,1),(1,1)],2,16,[.int .i64 0,.int .i64 0],(.p (.int .i64) (.int .i64))⟩),(125,⟨.ag [(0,1),(1,1)],2,16,[.int .i64 0,.int .i64 0],(.p (.int .i64) (.int .i64))⟩),(140,⟨.ar 8 3,8,64,[.int .i64 0,.int .i64 0,.int .i64 0,.int .i64 0,.int .i64 0,.int .i64 0,.int .i64 0,.int .i64 0],.b⟩),(142,⟨.ag [(0,8),(8,8)],16,128,[.int .i64 0,.int .i64 0,.int .i64 0,.int .i64 0,.int .i64 0,.int .i64 0,.int .i64 0,.int .i64 0,.int .i64 0,.int .i64 0,.int .i64 0,.int .i64 0,.int .i64 0,.int .i64 0,.int .i64 0,.int .i64 0],(.p (.int .i64) (.p (.int .i64) (.p (.int .i64) (.p (.int .i64) (.p (.int .i64) (.p (.int .i64) (.p (.int .i64) (.p (.int .i64) (.p (.int .i64) (.p (.int .i64) (.p (.int .i64) (.p (.int .i64) (.p (.int .i64) (.p (.int .i64) (.p (.int .i64) (.int .i64))))))))))))))))⟩),(145,⟨.ag [(0,2),(2,1),(3,1),(4,1)],5,104,[.int .i64 0,.ns,.ns,.ns,.ns],.b⟩),(151,⟨.ar 3 3,3,24,[.int .i64 0,.int .i64 0,.int .i64 0],.b⟩),(153,⟨.sl 157,1,24,[.ns],.b⟩),(157,⟨.ag [(0,1),(1,1)],2,16,[.int .i64 0,.bool false],(.p (.int .i64) .b)⟩),(185,⟨.ag [(0,1),(1,1)],2,16,[.int .i64 0,.int .i64 0],(.p (.int .i64) (.int .i64))⟩),(195,⟨.sl 3,1,24,[.ns],.b⟩),(210,⟨.ag [(0,1),(1,1),(2,1)],3,24,[.int .i64 0,.int .i64 0,.int .i64 0],(.p (.int .i64) (.p (.int .i64) (.int .i64)))⟩),(212,⟨.ag [(0,1),(1,1)],2,16,[.int .i64 0,.int .i64 0],(.p (.int .i64) (.int .i64))⟩),(227,⟨.int .u64,1,8,[.int .u64 0],.b⟩)]
theorem abJ:PO Tryz.prog tys=true:=by kernel_rfl
def eqt:List (Nat×EK):=[(77,(.p (.int .i64) (.p (.int .i64) (.int .i64)))),(122,(.p (.int .i64) (.int .i64))),(125,(.p (.int .i64) (.int .i64)))]
theorem IK {x0:List Int} {A0:Option Addr} {n0 c0:Nat} {w:World} (h0:Rt w 1 eU A0 n0 c0 x0):
 Calls Tryz.prog 32 #[.slice A0 n0 c0] w (fun e w'=> ∃G0,e= .returned (.pointer (some ⟨G0,0,none⟩))∧St w w' [.box G0 117 #[.slice (opA c0 n0 A0) (x0.take 2000).length c0,.int .i64 0]]):=by
 obtain rfl:=h0.len
 refine qD Tryz.func32 Tryz.ntmps32 rfl [(0,.slice A0 x0.length c0)] ⟨rfl,trivial⟩ rfl ?_
 intro a hF
 have S:=St.nil w
 refine wp_seq ?_
 refine wp_region_lit ?_
 refine ao (v:=.pointer none) rfl rfl hF rfl (aA rfl rfl) ?_;clear hF;intro a hF
 refine wpList_nil ?_
 refine wp_seq ?_
 refine wp_seq ?_
 refine wp_region_lit ?_
 refine ao (v:=.slice A0 x0.length c0) rfl rfl hF rfl (ax rfl (hF.ev rfl)) ?_;clear hF;intro a hF
 refine ao (v:=.int .i64 (x0.length:Int)) rfl rfl hF rfl (md rfl rfl Tryz.underlying22 (hF.ev rfl)) ?_;clear hF;intro a hF
 refine ao (v:=.bool (af 2000 (x0.length:Int))) rfl rfl hF rfl (SO (hF.ev rfl) rfl rfl) ?_;clear hF;intro a hF
 refine wpList_nil ?_
 cases hc101:(af 2000 (x0.length:Int))
 ·have hc101_:=hc101
  refine yF hF rfl hc101 ?_
  refine wp_skip ?_
  refine wp_seq ?_
  refine wp_region_lit ?_
  refine ao (v:=.slice A0 x0.length c0) rfl rfl hF rfl (ax rfl (hF.ev rfl)) ?_;clear hF;intro a hF
  refine ao (v:=.agg #[.slice A0 x0.length c0,.int .i64 0]) rfl rfl hF rfl (Mb (vs:=[(0,.slice A0 x0.length c0)]) rfl ⟨⟨rfl,(hF.ev rfl)⟩,trivial⟩ (RB rfl)) ?_;clear hF;intro a hF
  refine Wh (cs:= #[.slice A0 x0.length c0,.int .i64 0]) rfl rfl hF rfl S (Np rfl (hF.ev rfl) rfl) ?_;clear hF S;intro a g102 u hF S
  refine ao (v:=.pointer (some ⟨g102,0,none⟩)) rfl rfl hF rfl (aA rfl (hF.ev rfl)) ?_;clear hF;intro a hF
  refine wpList_nil ?_
  refine wp_ret ?_
  repeat with_reducible (first |refine ej ?_ |refine mV ?_ |refine mU ?_)
  refine iX (.inl rfl) hF rfl (ib (hF.ev rfl)) ?_
  have q1:=OP hc101
  rw [opA,if_neg (by omega),List.take_of_length_le (by omega)]
  exact ⟨g102,rfl,S.sel [0] rfl rfl⟩
 ·have hc101_:=hc101
  refine yG hF rfl hc101 ?_
  refine wp_region_lit ?_
  refine ao (v:=.slice A0 x0.length c0) rfl rfl hF rfl (ax rfl (hF.ev rfl)) ?_;clear hF;intro a hF
  have hk103:=rb (show DF 0 2000 x0.length=true by have:=Sr hc101;simp [DF];omega)
  refine ao (v:=.slice (bI c0 ((0:Int).toNat) 1 A0) ((ai x0 0 2000).length) (c0-(0:Int).toNat)) rfl rfl hF rfl (xF (l:=x0) rfl Tryz.underlying22 sz5 (hF.ev rfl) rfl hk103 rfl (S.rc0 h0.rc).cap) ?_;clear hF;intro a hF
  refine ao (v:=.slice (bI c0 ((0:Int).toNat) 1 A0) ((ai x0 0 2000).length) (c0-(0:Int).toNat)) rfl rfl hF rfl (aA rfl (hF.ev rfl)) ?_;clear hF;intro a hF
  refine wpList_nil ?_
  refine wp_seq ?_
  refine wp_region_lit ?_
  refine ao (v:=.slice (bI c0 ((0:Int).toNat) 1 A0) ((ai x0 0 2000).length) (c0-(0:Int).toNat)) rfl rfl hF rfl (ax rfl (hF.ev rfl)) ?_;clear hF;intro a hF
  refine ao (v:=.agg #[.slice (bI c0 ((0:Int).toNat) 1 A0) ((ai x0 0 2000).length) (c0-(0:Int).toNat),.int .i64 0]) rfl rfl hF rfl (Mb (vs:=[(0,.slice (bI c0 ((0:Int).toNat) 1 A0) ((ai x0 0 2000).length) (c0-(0:Int).toNat))]) rfl ⟨⟨rfl,(hF.ev rfl)⟩,trivial⟩ (RB rfl)) ?_;clear hF;intro a hF
  refine Wh (cs:= #[.slice (bI c0 ((0:Int).toNat) 1 A0) ((ai x0 0 2000).length) (c0-(0:Int).toNat),.int .i64 0]) rfl rfl hF rfl S (Np rfl (hF.ev rfl) rfl) ?_;clear hF S;intro a g104 u hF S
  refine ao (v:=.pointer (some ⟨g104,0,none⟩)) rfl rfl hF rfl (aA rfl (hF.ev rfl)) ?_;clear hF;intro a hF
  refine wpList_nil ?_
  refine wp_ret ?_
  repeat with_reducible (first |refine ej ?_ |refine mV ?_ |refine mU ?_)
  refine iX (.inl rfl) hF rfl (ib (hF.ev rfl)) ?_
  have q1:=Sr hc101
  rw [opA,if_pos (by omega),Xd]
  exact ⟨g104,rfl,S.sel [0] rfl rfl⟩
def opn:List (Nat×Nat):=[(32,117)]
theorem abb:NQ Tryz.prog opn:=⟨YH ⟨by kernel_rfl⟩ IK,trivial⟩
theorem aay:Xy Tryz.prog eqt:=⟨⟨aga,fun w x y=>agb⟩,⟨adJ,fun w x y=>adL⟩,⟨adK,fun w x y=>adM⟩,trivial⟩
theorem ck {c:Ctr} {fn:Func} {body:Code} {n:Nat} (cs:List Ctr) (rv:List ResultVar) (crt:Crt) (hcs:Xx Tryz.prog cs) (hco:CallOk Tryz.prog c.f) (hf:Tryz.prog.funcs[c.f]?=some fn) (hn:fn.ntmps=n) (hb:fn.body=some body) (hr:fn.results=rv.toArray) (hal:(c.rs.flatMap RSh.ks).all (alK (nY c.ps))=true) (he: ∀x,c.m x=exF ⟨tys,eqt,cs,opn⟩ ⟨c.ps,c.rs,rv,n⟩ crt body x):aL Tryz.prog c:=cok (op:=opn) abJ aay rfl hcs abb hco hf hb hn hr hal he
abbrev Aa:EK:=.int .i64
abbrev Ab:Crt:=.q .z .z
abbrev Ac:P1:=.o .k
abbrev Ah:PK:=.int .i64
abbrev Af:EK:=.p Aa Aa
abbrev Aw:EK:=.p Aa Af
abbrev Bg:PK:=.sl .ro 77 Aw
abbrev Ak:PK:=.sl .ro 4 .b
abbrev Dk:PK:=.sl .ro 125 Af
abbrev AC:PK:=.sl .ro 3 Aa
abbrev Ad:Prm:=.g [Ah,Bg,.sl .ro 122 Af,Ak,Ak,Dk,AC]
abbrev BY:Crt:=.q Ab .z
abbrev Ae:Crt:=.q .z BY
abbrev AQ:P0:=.i .i64
abbrev Ag:P1:=.o AQ
abbrev Ai:Prm:=.g [Ah,Bg]
abbrev Ap:RK:=.int .i64
abbrev Da:RK:=.row 77 Aw
abbrev AX:RK:=.row 4 .b
abbrev BI:RK:=.row 125 Af
abbrev CK:RK:=.row 3 Aa
abbrev Aj:RSh:=.g [Ap,Da,.row 122 Af,AX,AX,BI,CK]
abbrev Al:Crt:=.q .z Ab
abbrev Am:List P0:=[.k,.k,.k,.k,.k,.k,.k]
abbrev Au:Nat×P1:=(4,Ac)
abbrev BM:Shp:=⟨[Au],[],[]⟩
abbrev BO:List Alt:=[.rt]
abbrev Ba:Nat×P1:=(0,Ac)
abbrev AA:Nat×P1:=(1,Ac)
abbrev CO:Nat×P1:=(5,Ag)
abbrev Bm:Crt:=.q Al (.q (.b Ae) .z)
abbrev Ao:Crt:=.q (.q .z (.cut BM BO (.b (.lp ⟨[Ba,AA,Au,CO],[],[]⟩ Bm)))) Ab
abbrev Cw:P0:=.r 4 .b
abbrev CL:P0:=.r 125 Af
abbrev Be:P0:=.r 3 Aa
abbrev Aq:List P0:=[AQ,.r 77 Aw,.r 122 Af,Cw,Cw,CL,Be]
abbrev As:Prm:=.o (.sl .ro 122 Af)
abbrev Av:Nat×P1:=(2,Ac)
abbrev Az:P1:=.o Be
abbrev AB:Prm:=.o Ah
abbrev AD:Nat×P1:=(6,Ac)
abbrev AE:Prm:=.g [Ak,Ak,Dk]
abbrev CD:P0:=.w 3 Aa
abbrev AF:P1:=.o CD
abbrev Bi:Nat×P1:=(5,Ac)
abbrev CU:List P0:=[.k,.k,.k,.k,.k,.k,Be]
abbrev AG:Crt:=.q .z (.q .z (.q .z (.q (.q .z (.cut ⟨[Au,Bi],[(5,CU),(4,Am)],[]⟩ [] (.b (.lp ⟨[AA,Av,Au,Bi,(6,Ag)],[(5,CU),(4,Am),(2,Am)],[]⟩ (.q Al (.q (.b (.q .z (.cut ⟨[AA,Av,Au,Bi,AD],[(5,CU),(4,Am),(2,Am)],[]⟩ [] Ab))) .z)))))) Ab)))
abbrev AH:RSh:=.o .b
abbrev Bw:List P0:=[.k,.k]
abbrev AI:List (Nat×List P0):=[(3,Bw)]
abbrev Ci:Crt:=.q (.b (.q .z Ae)) .z
abbrev AJ:Crt:=.q .z (.q Ab Ci)
abbrev AK:RSh:=.o CK
abbrev CX:Crt:=.q Ae Ab
abbrev AL:Crt:=.q .z CX
abbrev AM:P1:=.o (.r 86 Aw)
abbrev BT:List (Nat×P1):=[(1,Ag),Au]
abbrev CT:Shp:=⟨BT,[],[]⟩
abbrev BG:Shp:=⟨[Ba,(1,Ag),Au,CO],[],[]⟩
abbrev CA:Crt:=.q Ae .z
abbrev AN:Crt:=.q .z (.q (.q .z (.cut CT BO (.b (.lp BG (.q Al (.q (.b CA) .z)))))) Ab)
abbrev AO:Prm:=.o Ak
abbrev AP:P1:=.o (.r 157 (.p Aa .b))
abbrev AR:RSh:=.o Ap
abbrev AS:List P0:=[.k,.k,.k,.k,.k,.k,.k,.k,.k,.k,.k,.k,.k,.k,.k,.k]
abbrev AT:List P0:=[.k,.k,.k]
abbrev AU:Crt:=.q Al (.q (.b .z) .z)
abbrev Bz:Crt:=.q .z Al
abbrev AV:Crt:=.q .z (.q .z Bz)
abbrev AW:Prm:=.o (.sl .ro 9 .s)
abbrev AY:Crt:=.q .z (.q Ab (.q (.b Ab) .z))
abbrev AZ:Nat×P1:=(3,Ac)
abbrev Bb:Crt:=.q .z (.q (.q .z (.cut CT BO (.b (.lp BG (.q Al (.q (.b (.q Ae (.q .z CA))) .z)))))) Ab)
abbrev Bc:Nat×P1:=(8,Ac)
abbrev Bd:P0:=.w 4 .b
abbrev CC:Nat×P1:=(10,Ac)
abbrev Bf:Crt:=.q .z (.q Ae (.q .z (.q .z (.q (.q .z (.cut ⟨[Bc,(9,Ag)],[],[]⟩ [] (.b (.lp ⟨[Av,Bc,(9,Ag),CC,(11,Ag)],[],[]⟩ AU)))) Ab))))
abbrev Bh:Prm:=.g [Ah,Ah,Ah]
abbrev Bj:Crt:=.q Ae CX
abbrev Ch:Crt:=.q .z (.q Ab Ae)
abbrev Bl:Crt:=.q .z (.q Ab (.q .z (.q Ab (.q .z (.q Ab Ch)))))
abbrev CE:Nat×P1:=(8,Ag)
abbrev Bn:Crt:=.b (.lp ⟨[AA,Av,AZ,AD,(7,Az),CE],AI,[]⟩ (.q Al (.q (.b (.q .z (.cut ⟨[AA,Av,AZ,AD,(7,Az),Bc],AI,[]⟩ [] Ab))) .z)))
abbrev Co:PK:=.sl .ro 210 Aw
abbrev Dg:PK:=.sl .ro 185 Af
abbrev Cp:PK:=.sl .ro 212 Af
abbrev Bo:Prm:=.g [Ah,Co,Dg,Ak,Ak,Cp,AC]
abbrev Bp:List Prm:=[Ai,AO,As]
abbrev Bq:List P0:=[.k,.k,.k,.k,.k]
abbrev Bt:Prm:=.o Dk
abbrev Bu:List (Nat×List P0):=[(4096,[.k,.k,CD,CD,Be])]
abbrev Bv:Crt:=.q Al (.q (.b Ab) .z)
abbrev Cs:P1:=.o .b
abbrev Bx:Crt:=.q Ab (.q .z (.q Ab (.q .z (.q (.q (.cut ⟨[(4,Cs)],[],[]⟩ [] .z) .z) Ch))))
abbrev By:PK:=.sl .mu 3 Aa
abbrev BA:Crt:=.q .z (.q Ae (.q .z (.q Ae AL)))
abbrev BB:Nat×P1:=(7,Ac)
abbrev BC:Shp:=⟨[Au,Bi,AD],[(6,[Bd,Bd,CL]),(4,AT)],[]⟩
abbrev BE:Shp:=⟨[Au,Bi,AD],[(6,[.k,Bd,CL]),(4,AT)],[]⟩
abbrev BF:Shp:=⟨[Au,Bi,AD],[(6,[.k,.k,CL]),(4,AT)],[]⟩
abbrev BH:List RSh:=[AH]
abbrev BJ:List (Nat×List P0):=[(1,Am)]
abbrev BV:Nat×P1:=(9,Ac)
abbrev CS:List (Nat×List P0):=[(4,Bw)]
abbrev BK:Shp:=⟨[AA,Av,Au,Bc,BV,CC,(13,.z 4 .b),(14,Ag),(15,Ag),(42,Ac),(43,Ac)],CS,[]⟩
abbrev Db:Nat×P1:=(5,Az)
abbrev BN:Shp:=⟨[Au,Db],[],[]⟩
abbrev BP:Prm:=.g [Ah,Ah]
abbrev BQ:Prm:=.o AC
abbrev BR:Crt:=.q .z (.q Ae Ao)
abbrev BS:List RSh:=[AR]
abbrev BU:Nat×P1:=(12,Ac)
abbrev BW:PK:=.sl .mu 4 .b
abbrev BX:P1:=.o (.w 9 .s)
abbrev BZ:RSh:=.o (.row 157 (.p Aa .b))
abbrev Ca:Crt:=.q .z AL
abbrev Cb:List (Nat×List P0):=[(6,Aq),(4,Am)]
abbrev Cc:RSh:=.o .s
abbrev Cd:Nat×P1:=(7,Ag)
abbrev Ce:Shp:=⟨[Av,(3,.o .s)],[],[]⟩
abbrev Cf:Nat×P1:=(3,AM)
abbrev Cg:Nat×P1:=(13,Ac)
abbrev Cj:P1:=.o Bd
abbrev Ck:Shp:=⟨[AD,(7,Az)],[],[]⟩
abbrev Cm:Prm:=.g [Ah,Bg,AC,AC,AC]
abbrev Cq:RSh:=.o (.row 9 .s)
abbrev Cr:RSh:=.g [AX,AX,BI]
abbrev Cu:Crt:=.q .z (.cut ⟨[Ba,Av,(3,.o .s),Au],[],[]⟩ [] Ab)
abbrev Cv:Prm:=.o .s
abbrev Dj:PK:=.sl .mu 125 Af
abbrev Cy:List PK:=[Ah,.sl .mu 77 Aw,.sl .mu 122 Af,BW,BW,Dj,By]
abbrev Cz:P1:=.o (.r 9 .s)
abbrev CB:RSh:=.o (.row 86 Aw)
abbrev CF:List P0:=[AQ,AQ,AQ,AQ,AQ,AQ,AQ,AQ,AQ,AQ,AQ,AQ,AQ,AQ,AQ,AQ]
abbrev CG:P1:=.o (.w 5 (.int .u8))
abbrev CH:Shp:=⟨[Av],[],[]⟩
abbrev CI:RSh:=.o AX
abbrev CJ:Shp:=⟨[AA,Av,Cf],BJ,[]⟩
abbrev CM:Shp:=⟨[AA,Au,(5,AF),BU,Cg,(14,Ag)],[],[]⟩
abbrev CN:Shp:=⟨[AA,Au,(5,AF),BU,Cg,(14,Ac)],[],[]⟩
abbrev CP:Nat×P1:=(4,Ag)
abbrev CQ:List (Nat×List P0):=[(8,[AQ,.k,Be,Be,Be]),(6,Bq)]
abbrev CR:Prm:=.o (.sl .tk 3 Aa)
abbrev CV:List RSh:=[AK]
abbrev CW:Crt:=.q .z (.q Ae Bj)
abbrev CY:Shp:=⟨[Av,Cf],[],[]⟩
abbrev CZ:Crt:=.q .z Bj
abbrev Dc:Shp:=⟨[Ba,AA,Au,Bi,AD,Cd,CE],[],[]⟩
abbrev De:Nat×P1:=(11,Ac)
abbrev Df:Nat×P1:=(7,AF)
abbrev Dh:P1:=.o (.w 122 Af)
abbrev Di:P1:=.o (.w 125 Af)
abbrev Dl:Shp:=⟨[Ba,Av,(3,.o .s),CP],[],[]⟩
def oV:Ctr:=⟨103,[AB],[Cc],false,fun x=>bH x⟩
theorem sP:aL Tryz.prog oV:=Yg (abS)
def yy:Ctr:=⟨51,[Cv,Cv],[Cq],false,fun x=>fH x.1 x.2⟩
theorem If:aL Tryz.prog yy:=Vq (afu)
def tJ:Ctr:=⟨122,[AW,Cv],[Cc],false,fun x=>dp x.1 x.2⟩
theorem yQ:aL Tryz.prog tJ:=Yh (ab9)
def JE (n:Nat):Ctr:=⟨62,[AB],[Cc],false,fun x=>cb ii n x⟩
theorem IN: ∀n,aL Tryz.prog (JE n)
 |0=>⟨adG,fun x res h=>by cases h⟩
 |n+1=>ck [JE n] [.tmp 2] CW ⟨IN n,trivial⟩ adG Tryz.func62 Tryz.ntmps62 rfl rfl rfl fun _=>by kernel_rfl
def kC:Ctr:=⟨62,[AB],[Cc],false,fun x=>aY x⟩
theorem nu:aL Tryz.prog kC:=Tq (IN 30)
def uO:Ctr:=⟨165,[Ai,AB],BH,false,fun x=>kQ x.1 x.2.1 x.2.2⟩
theorem EZ:aL Tryz.prog uO:=ck [] [.tmp 4] Al trivial acP Tryz.func165 Tryz.ntmps165 rfl rfl rfl fun _=>by kernel_rfl
def ri:Ctr:=⟨100,[Ai],BH,false,fun x=>aX x.1 x.2⟩
theorem rh:aL Tryz.prog ri:=ck [uO] [.tmp 2] (.q .z (.q Ae (.q (.q .z (.cut CH BO (.b (.lp ⟨[AA,Av,(20,Ac),(21,Ac),(22,Ag)],[(1,Bw)],[]⟩ AJ)))) Ab))) ⟨EZ,trivial⟩ abQ Tryz.func100 Tryz.ntmps100 rfl rfl rfl fun _=>by kernel_rfl
def ya:Ctr:=⟨179,[Cv],BS,false,fun x=>nF x⟩
theorem HO:aL Tryz.prog ya:=ck [] [.tmp 2] (.q .z (.q Ae (.q .z (.q (.q .z (.cut ⟨[Av,(3,Ag)],[],[]⟩ BO (.b (.lp ⟨[Ba,Av,(3,Ag),(14,Ac),(15,Ag)],[],[]⟩ (.q .z (.q Ab (.q (.b (.q .z CA)) .z))))))) Ab)))) trivial acY Tryz.func179 Tryz.ntmps179 rfl rfl rfl fun _=>by kernel_rfl
def uT:Ctr:=⟨118,[Cv],[AR,AH],false,fun x=>aD x⟩
theorem ua:aL Tryz.prog uT:=ck [ya,oV] [.tmp 2,.tmp 3] Bz ⟨HO,sP,trivial⟩ ab5 Tryz.func118 Tryz.ntmps118 rfl rfl rfl fun _=>by kernel_rfl
def ze:Ctr:=⟨42,[Ai],[Cc],false,fun x=>cX x.1 x.2⟩
theorem IS:aL Tryz.prog ze:=Qx (afl) rh
def ye:Ctr:=⟨52,[AW],[.g [Ap,Ap,Ap],AH],false,fun x=>dG x⟩
theorem HR:aL Tryz.prog ye:=OE (afv) ua
def bj:Ctr:=⟨39,[AB,AB,AB],BH,false,fun x=>am x.1 x.2.1 x.2.2⟩
theorem bu:aL Tryz.prog bj:=ck [] [.tmp 6] Al trivial afj Tryz.func39 Tryz.ntmps39 rfl rfl rfl fun _=>by kernel_rfl
def kB:Ctr:=⟨95,[Ai],BH,false,fun x=>dI x.1 x.2⟩
theorem nr:aL Tryz.prog kB:=ck [bj] [.tmp 2] (.q .z (.q Ae (.q (.q .z (.cut CH BO (.b (.lp ⟨[AA,Av,(3,Ag)],[(1,Bw)],[]⟩ (.q Al Ci))))) Ab))) ⟨bu,trivial⟩ af5 Tryz.func95 Tryz.ntmps95 rfl rfl rfl fun _=>by kernel_rfl
def oO:Ctr:=⟨37,[Ai,As],BH,false,fun x=>gB x.1 x.2.1 x.2.2⟩
theorem ue:aL Tryz.prog oO:=ck [bj,kB] [.tmp 4] (.q .z (.q (.q .z (.cut ⟨[AA,Av,Au],[(2,Bw)],[]⟩ BO (.b (.lp ⟨[AA,Av,Au,CO],[(2,Bw)],[]⟩ Bm)))) Ab)) ⟨bu,nr,trivial⟩ afh Tryz.func37 Tryz.ntmps37 rfl rfl rfl fun _=>by kernel_rfl
def oU:Ctr:=⟨96,[Bt,BP],BS,false,fun x=>jq x.1 x.2.1 x.2.2⟩
theorem sO:aL Tryz.prog oU:=ck [] [.tmp 4] (.q .z (.q (.q .z (.cut BM BO (.b (.lp ⟨[Ba,AZ,Au,CO],AI,[]⟩ Bm)))) Ab)) trivial af6 Tryz.func96 Tryz.ntmps96 rfl rfl rfl fun _=>by kernel_rfl
def mj:Ctr:=⟨38,[AE],BH,false,fun x=>eK x.1 x.2.1 x.2.2⟩
theorem pT:aL Tryz.prog mj:=ck [bj,oU] [.tmp 2] (.q .z (.q Ae (.q (.q .z (.cut ⟨[AA,Av],[(1,AT)],[]⟩ BO (.b (.lp ⟨[AA,Av,(3,Ag)],[(1,AT)],[]⟩ Bm)))) (.q (.q .z (.cut CH BO (.b (.lp ⟨[AA,Av,CP],[(1,AT)],[]⟩ (.q Al Ci))))) Ab)))) ⟨bu,sO,trivial⟩ afi Tryz.func38 Tryz.ntmps38 rfl rfl rfl fun _=>by kernel_rfl
def fM:Ctr:=⟨162,[Ai,AO],BH,false,fun x=>cm x.1 x.2.1 x.2.2⟩
theorem kN:aL Tryz.prog fM:=ck [kB] [.tmp 4] Al ⟨nr,trivial⟩ acM Tryz.func162 Tryz.ntmps162 rfl rfl rfl fun _=>by kernel_rfl
def lR:Ctr:=⟨97,Bp,BH,false,fun x=>gX x.1 x.2.1 x.2.2.1 x.2.2.2⟩
theorem ob:aL Tryz.prog lR:=ck [fM,oO] [.tmp 6] Al ⟨kN,ue,trivial⟩ af7 Tryz.func97 Tryz.ntmps97 rfl rfl rfl fun _=>by kernel_rfl
def vC:Ctr:=⟨190,[AO],[CI],false,fun x=>kJ x⟩
theorem DL:aL Tryz.prog vC:=ck [] [.tmp 2] Al trivial ac8 Tryz.func190 Tryz.ntmps190 rfl rfl rfl fun _=>by kernel_rfl
def uZ:Ctr:=⟨200,[Ai,AO,AB,.o .b],[CI,AH],false,fun x=>lE x.1 x.2.1 x.2.2.1 x.2.2.2.1 x.2.2.2.2⟩
theorem Fj:aL Tryz.prog uZ:=ck [fM,vC,bj] [.tmp 8,.tmp 9] (.q .z (.q Ae (.q .z (.q Ae Al)))) ⟨kN,DL,bu,trivial⟩ adj Tryz.func200 Tryz.ntmps200 rfl rfl rfl fun _=>by kernel_rfl
def zC:Ctr:=⟨201,[Ai,AO,AB],[CI],false,fun x=>px x.1 x.2.1 x.2.2.1 x.2.2.2⟩
theorem Jl:aL Tryz.prog zC:=ck [] [.tmp 6] (.q .z (.q .z (.q .z (.q (.q .z (.cut ⟨[AD,(7,Cj)],[],[]⟩ [] (.b (.lp ⟨[AA,AZ,AD,(7,Cj),CE],AI,[]⟩ (.q Al (.q (.b (.q .z (.cut ⟨[AA,AZ,AD,(7,Cj),Bc],AI,[]⟩ [] (.b (.lp ⟨[AA,AZ,AD,(7,Cj),Bc,(9,Ag)],AI,[]⟩ (.q Al (.q (.b (.q .z (.q .z (.cut ⟨[AA,AZ,AD,(7,Cj),Bc,BV],AI,[]⟩ [] BY)))) .z))))))) .z)))))) Ab)))) trivial adk Tryz.func201 Tryz.ntmps201 rfl rfl rfl fun _=>by kernel_rfl
def oR:Ctr:=⟨164,[Ai,AO,AB],CV,false,fun x=>jm x.1 x.2.1 x.2.2.1 x.2.2.2⟩
theorem sM:aL Tryz.prog oR:=ck [fM,bj,zC] [.tmp 6] (.q .z (.q .z (.q Ae (.q .z (.q (.q .z (.cut Ck [] (.b (.lp ⟨[AZ,AD,(7,Az),Bc,(9,Ag)],AI,[]⟩ (.q Al (.q (.b (.q .z (.cut ⟨[AZ,AD,(7,Az),Bc,BV],AI,[]⟩ [] Ab))) .z)))))) Ab))))) ⟨kN,bu,Jl,trivial⟩ acO Tryz.func164 Tryz.ntmps164 rfl rfl rfl fun _=>by kernel_rfl
def ml:Ctr:=⟨136,[BQ,AB],BH,false,fun x=>cQ x.1 x.2⟩
theorem ox:aL Tryz.prog ml:=ck [] [.tmp 4] (.q .z Ao) trivial aco Tryz.func136 Tryz.ntmps136 rfl rfl rfl fun _=>by kernel_rfl
def oS:Ctr:=⟨99,[Ai,AO,AB,AB],BH,false,fun x=>gM x.1 x.2.1 x.2.2.1 x.2.2.2.1 x.2.2.2.2⟩
theorem uh:aL Tryz.prog oS:=ck [oR,ml] [.tmp 8] Al ⟨sM,ox,trivial⟩ af9 Tryz.func99 Tryz.ntmps99 rfl rfl rfl fun _=>by kernel_rfl
def uY:Ctr:=⟨163,[Ai,AO],CV,false,fun x=>pn x.1 x.2.1 x.2.2⟩
theorem Fi:aL Tryz.prog uY:=ck [fM,uZ,oS] [.tmp 4] (.q .z (.q .z (.q (.q .z (.cut BN [] (.b (.lp ⟨[AA,Av,Au,Db,(6,Ag)],[(2,Bw)],[]⟩ (.q Al (.q (.b (.q .z (.q .z (.cut ⟨[AA,Av,Au,Db,AD],[(2,Bw)],[]⟩ [] Ab)))) .z)))))) Ab))) ⟨kN,Fj,uh,trivial⟩ acN Tryz.func163 Tryz.ntmps163 rfl rfl rfl fun _=>by kernel_rfl
def yq:Ctr:=⟨98,[Ai,AO],BH,false,fun x=>nN x.1 x.2.1 x.2.2⟩
theorem Ia:aL Tryz.prog yq:=ck [uY] [.tmp 4] Al ⟨Fi,trivial⟩ af8 Tryz.func98 Tryz.ntmps98 rfl rfl rfl fun _=>by kernel_rfl
def ni:Ctr:=⟨40,Bp,BH,false,fun x=>eD x.1 x.2.1 x.2.2.1 x.2.2.2⟩
theorem qf:aL Tryz.prog ni:=ck [lR,yq,oS] [.tmp 6] (.q .z (.q Ae (.q (.q .z (.cut ⟨[AD],[],[]⟩ BO (.b (.lp ⟨[AA,Av,AZ,AD,Cd],AI,[]⟩ (.q Al (.q (.b (.q .z (.cut ⟨[AA,Av,AZ,AD,BB],AI,[]⟩ BO (.b (.lp ⟨[AA,Av,AZ,AD,BB,CE],AI,[]⟩ Bm))))) .z)))))) Ab))) ⟨ob,Ia,uh,trivial⟩ afk Tryz.func40 Tryz.ntmps40 rfl rfl rfl fun _=>by kernel_rfl
def cf:Ctr:=⟨9,[Ad],BH,false,fun x=>bg x.1 x.2.1 x.2.2.1 x.2.2.2.1 x.2.2.2.2.1 x.2.2.2.2.2.1 x.2.2.2.2.2.2⟩
theorem dA:aL Tryz.prog cf:=ck [oO,mj,bj,ni] [.tmp 2] (.q .z (.q Ae (.q (.q .z (.cut ⟨[AA,Av],BJ,[]⟩ BO (.b (.lp ⟨[AA,Av,(3,Ag)],BJ,[]⟩ Bm)))) Ab))) ⟨ue,pT,bu,qf,trivial⟩ co9 Tryz.func9 Tryz.ntmps9 rfl rfl rfl fun _=>by kernel_rfl
def tH:Ctr:=⟨130,[AE],[Cr],false,fun x=>ma x.1 x.2.1 x.2.2⟩
theorem yO:aL Tryz.prog tH:=ck [vC] [.cell 2 30] Al ⟨DL,trivial⟩ aci Tryz.func130 Tryz.ntmps130 rfl rfl rfl fun _=>by kernel_rfl
def eQ:Ctr:=⟨61,[Ad],[Aj],false,fun x=>bb x.1 x.2.1 x.2.2.1 x.2.2.2.1 x.2.2.2.2.1 x.2.2.2.2.2.1 x.2.2.2.2.2.2⟩
theorem iY:aL Tryz.prog eQ:=ck [tH] [.cell 2 33] Bz ⟨yO,trivial⟩ afE Tryz.func61 Tryz.ntmps61 rfl rfl rfl fun _=>by kernel_rfl
def rm:Ctr:=⟨138,[AE,AB],CV,false,fun x=>dJ x.1 x.2.1 x.2.2.1 x.2.2.2⟩
theorem xO:aL Tryz.prog rm:=ck [mj] [.tmp 4] (.q .z (.q .z (.q (.q .z (.cut BN [] (.b (.lp ⟨[AA,Av,Au,Db,(6,Ag)],[(2,AT)],[]⟩ (.q Al (.q (.b (.q .z (.cut ⟨[AA,Av,Au,Db,AD],[(2,AT)],[]⟩ [] Ab))) .z)))))) Ab))) ⟨pT,trivial⟩ acq Tryz.func138 Tryz.ntmps138 rfl rfl rfl fun _=>by kernel_rfl
def zB:Ctr:=⟨139,[Ad,AB],[Aj],false,fun x=>pw x.1 x.2.1 x.2.2.1 x.2.2.2.1 x.2.2.2.2.1 x.2.2.2.2.2.1 x.2.2.2.2.2.2.1 x.2.2.2.2.2.2.2⟩
theorem Jk:aL Tryz.prog zB:=ck [eQ] [.cell 4 33] AG ⟨iY,trivial⟩ acr Tryz.func139 Tryz.ntmps139 rfl rfl rfl fun _=>by kernel_rfl
def yx:Ctr:=⟨137,[Ad,AB],[Aj],false,fun x=>nR x.1 x.2.1 x.2.2.1 x.2.2.2.1 x.2.2.2.2.1 x.2.2.2.2.2.1 x.2.2.2.2.2.2.1 x.2.2.2.2.2.2.2⟩
theorem Ie:aL Tryz.prog yx:=ck [eQ,ml] [.cell 4 33] (.q .z AG) ⟨iY,ox,trivial⟩ acp Tryz.func137 Tryz.ntmps137 rfl rfl rfl fun _=>by kernel_rfl
def Ea:Ctr:=⟨194,[AE,Bh],BH,false,fun x=>qw x.1 x.2.1 x.2.2.1 x.2.2.2.1 x.2.2.2.2.1 x.2.2.2.2.2⟩
theorem KO:aL Tryz.prog Ea:=ck [oU,rm,bj] [.tmp 4] (.q .z (.q .z (.q (.q .z (.b (.q .z (.q Ab (.q .z Bx))))) Ab))) ⟨sO,xO,bu,trivial⟩ adc Tryz.func194 Tryz.ntmps194 rfl rfl rfl fun _=>by kernel_rfl
def DZ:Ctr:=⟨140,[AE,Bh],[Cr,AH],false,fun x=>nk x.1 x.2.1 x.2.2.1 x.2.2.2.1 x.2.2.2.2.1 x.2.2.2.2.2⟩
theorem KN:aL Tryz.prog DZ:=ck [mj,tH,bj,Ea,oU] [.cell 4 30,.tmp 5] (.q .z (.q Ae (.q .z (.q Ae (.q (.q .z (.b (.q .z (.cut BC [] (.q .z (.q .z (.cut BC [] (.q .z (.q .z (.cut BE [] (.q .z (.q .z (.cut BE [] (.q .z (.q .z (.cut BF [] Al)))))))))))))))) Ab))))) ⟨pT,yO,bu,KO,sO,trivial⟩ acs Tryz.func140 Tryz.ntmps140 rfl rfl rfl fun _=>by kernel_rfl
def tG:Ctr:=⟨64,[Ad,Bh],[Aj,AH],false,fun x=>lZ x.1 x.2.1 x.2.2.1 x.2.2.2.1 x.2.2.2.2.1 x.2.2.2.2.2.1 x.2.2.2.2.2.2.1 x.2.2.2.2.2.2.2.1 x.2.2.2.2.2.2.2.2.1 x.2.2.2.2.2.2.2.2.2⟩
theorem yN:aL Tryz.prog tG:=ck [cf,bj,eQ,ml,yx,rm,zB,DZ,ni] [.cell 4 33,.tmp 5] (.q .z (.q Ae (.q Ae (.q .z (.q (.b (.q .z (.q Ab (.q (.cut ⟨[Av,AZ,Au,Bi,AD,(42,Cs)],[(4,Am),(3,AT),(2,Am)],[]⟩ [] .z) (.q Ab Ae))))) (.q .z (.q .z (.q Ae Al)))))))) ⟨dA,bu,iY,ox,Ie,xO,Jk,KN,qf,trivial⟩ afG Tryz.func64 Tryz.ntmps64 rfl rfl rfl fun _=>by kernel_rfl
def uS:Ctr:=⟨143,[AB],BH,false,fun x=>kS x⟩
theorem Fd:aL Tryz.prog uS:=ck [] [.tmp 2] Al trivial act Tryz.func143 Tryz.ntmps143 rfl rfl rfl fun _=>by kernel_rfl
def oF:Ctr:=⟨69,[Ai,As],BH,false,fun x=>fP x.1 x.2.1 x.2.2⟩
theorem tX:aL Tryz.prog oF:=ck [ri,uS] [.tmp 4] (.q .z (.q Ae (.q (.q .z (.cut BM BO (.b (.lp ⟨[Au,(17,Ac),(18,Ac),(19,Ag)],[],[]⟩ AJ)))) Ab))) ⟨rh,Fd,trivial⟩ afH Tryz.func69 Tryz.ntmps69 rfl rfl rfl fun _=>by kernel_rfl
def bE:Ctr:=⟨195,[Bt,BP],BS,false,fun x=>aK x.1 x.2.1 x.2.2⟩
theorem cS:aL Tryz.prog bE:=ck [] [.tmp 4] (.q .z (.q (.q .z (.cut BM BO (.b (.lp ⟨[Ba,AZ,Au,BB,CE],AI,[]⟩ AJ)))) Ab)) trivial ade Tryz.func195 Tryz.ntmps195 rfl rfl rfl fun _=>by kernel_rfl
def aS:Ctr:=⟨144,[Bt,BP],BH,false,fun x=>az x.1 x.2.1 x.2.2⟩
theorem bq:aL Tryz.prog aS:=ck [bE] [.tmp 4] Al ⟨cS,trivial⟩ acu Tryz.func144 Tryz.ntmps144 rfl rfl rfl fun _=>by kernel_rfl
def mi:Ctr:=⟨70,[AE],BH,false,fun x=>eH x.1 x.2.1 x.2.2⟩
theorem pS:aL Tryz.prog mi:=ck [aS] [.tmp 2] (.q .z (.q Ae (.q (.q .z (.cut ⟨[AA,Av],[(1,AT)],[]⟩ BO (.b (.lp ⟨[AA,Av,(33,Ac),(34,Ag)],[(1,AT)],[]⟩ AJ)))) (.q (.q .z (.cut CH BO (.b (.lp ⟨[AA,Av,(51,Ac),(52,Ac),(53,Ag)],[(1,AT)],[]⟩ AJ)))) Ab)))) ⟨bq,trivial⟩ afI Tryz.func70 Tryz.ntmps70 rfl rfl rfl fun _=>by kernel_rfl
def cJ:Ctr:=⟨45,[Ai,AB],BH,false,fun x=>bd x.1 x.2.1 x.2.2⟩
theorem eM:aL Tryz.prog cJ:=ck [] [.tmp 4] Al trivial afo Tryz.func45 Tryz.ntmps45 rfl rfl rfl fun _=>by kernel_rfl
def uQ:Ctr:=⟨109,[Ai,AO],BH,false,fun x=>kR x.1 x.2.1 x.2.2⟩
theorem Fb:aL Tryz.prog uQ:=ck [ri] [.tmp 4] Al ⟨rh,trivial⟩ abX Tryz.func109 Tryz.ntmps109 rfl rfl rfl fun _=>by kernel_rfl
def kA:Ctr:=⟨44,Bp,BH,false,fun x=>dE x.1 x.2.1 x.2.2.1 x.2.2.2⟩
theorem nq:aL Tryz.prog kA:=ck [uQ,oF] [.tmp 6] Al ⟨Fb,tX,trivial⟩ afn Tryz.func44 Tryz.ntmps44 rfl rfl rfl fun _=>by kernel_rfl
def rj:Ctr:=⟨204,[AB],CV,false,fun x=>kD x⟩
theorem xM:aL Tryz.prog rj:=ck [] [.tmp 2] (.q .z (.q .z (.q (.q .z (.cut ⟨[Av,(3,AF)],[],[]⟩ [] (.b (.lp ⟨[Av,(3,AF),Bc,(9,Ag)],[],[]⟩ AY)))) Ab))) trivial adl Tryz.func204 Tryz.ntmps204 rfl rfl rfl fun _=>by kernel_rfl
def fK:Ctr:=⟨170,[.o By,AB],BS,true,fun x=>bz x.1 x.2⟩
theorem kM:aL Tryz.prog fK:=ck [] [.tmp 4] (.q .z (.q (.cut ⟨BT,[],[(0,Be)]⟩ [] (.b (.lp ⟨[(0,AF),(1,Ag),Au],[],[]⟩ (.q Al (.b Ab))))) Ab)) trivial acS Tryz.func170 Tryz.ntmps170 rfl rfl rfl fun _=>by kernel_rfl
def uW:Ctr:=⟨206,[.o By,AB,AB],BH,true,fun x=>kZ x.1 x.2.1 x.2.2⟩
theorem Fg:aL Tryz.prog uW:=ck [fK] [.tmp 6] Al ⟨kM,trivial⟩ adn Tryz.func206 Tryz.ntmps206 rfl rfl rfl fun _=>by kernel_rfl
def oK:Ctr:=⟨205,[.o By,AB,AB],[],true,fun x=>gl x.1 x.2.1 x.2.2⟩
theorem ud:aL Tryz.prog oK:=ck [fK] [] Ab ⟨kM,trivial⟩ adm Tryz.func205 Tryz.ntmps205 rfl rfl rfl fun _=>by kernel_rfl
def yb:Ctr:=⟨171,[Ai,AO],BH,false,fun x=>nG x.1 x.2.1 x.2.2⟩
theorem HP:aL Tryz.prog yb:=ck [rj,uW,oK] [.tmp 4] (.q .z (.q .z (.q (.q .z (.cut BM BO (.b (.lp CM (.q .z (.q Ab (.q (.b (.q .z (.q .z (.cut CN BO (.q CA .z))))) .z))))))) Ab))) ⟨xM,Fg,ud,trivial⟩ acT Tryz.func171 Tryz.ntmps171 rfl rfl rfl fun _=>by kernel_rfl
def oG:Ctr:=⟨101,[Bh,AB],BS,false,fun x=>fT x.1 x.2.1 x.2.2.1 x.2.2.2⟩
theorem tY:aL Tryz.prog oG:=ck [] [.tmp 4] (.q .z (.q (.q .z (.b Ch)) Ab)) trivial abR Tryz.func101 Tryz.ntmps101 rfl rfl rfl fun _=>by kernel_rfl
def tx:Ctr:=⟨172,[.bx 145 [Ah,Bg,By,By,By],AO,AB],[],true,fun x=>jH x.1 x.2.1 x.2.2.1 x.2.2.2.1 x.2.2.2.2.1 x.2.2.2.2.2.1 x.2.2.2.2.2.2⟩
theorem Ep:aL Tryz.prog tx:=ck [oG] [] (.q .z (.q .z (.cut ⟨[],Bu,[]⟩ [] (.b (.lp ⟨[Ba,AA,Av,(6,Ag)],Bu,[]⟩ (.q Al (.q (.b (.q .z (.q .z (.cut ⟨[Ba,AA,Av,AD],Bu,[]⟩ [] (.b (.lp ⟨[Ba,AA,Av,AD,BB,(46,Ac),(47,Ac),(48,Ag)],Bu,[]⟩ (.q .z (.q Ab (.q (.b (.q .z (.q .z (.q .z (.cut ⟨[Ba,AA,Av,AD,BB,(46,Ac),(47,Ac),(48,Ac)],Bu,[]⟩ [] BY))))) .z))))))))) .z))))))) ⟨tY,trivial⟩ acU Tryz.func172 Tryz.ntmps172 rfl rfl rfl fun _=>by kernel_rfl
def qi:Ctr:=⟨111,Bp,[.g [Ap,.al 1,CK,CK,CK],AH],false,fun x=>kI x.1 x.2.1 x.2.2.1 x.2.2.2⟩
theorem vu:aL Tryz.prog qi:=ck [kA,yb,tx] [.cell 6 145,.tmp 7] (.q .z (.q Ae (.q .z (.q (.q .z (.cut ⟨[AA,Av,AD,BB,Bc],[(8,[.k,.k,CD,CD,.k]),(6,Bq)],[]⟩ [] (.b (.lp ⟨[AA,Av,AD,BB,Bc,(32,Ac),(33,Ag)],[(8,[.k,.k,CD,CD,.k]),(6,Bq)],[]⟩ AY)))) (.q (.q .z (.cut ⟨[AD,BB,Bc],CQ,[]⟩ BO (.b (.lp ⟨[AA,AD,BB,Bc,(45,Ac),(46,Ac),(47,Ag)],CQ,[]⟩ (.q .z (.q Ab (.q (.cut ⟨[AA,AD,BB,Bc,(45,Ac),(46,Ac),(47,Ac)],CQ,[]⟩ BO (.b (.q .z (.q Al CX)))) .z))))))) Ab))))) ⟨nq,HP,Ep,trivial⟩ abZ Tryz.func111 Tryz.ntmps111 rfl rfl rfl fun _=>by kernel_rfl
def vz:Ctr:=⟨71,Bp,BH,false,fun x=>ij x.1 x.2.1 x.2.2.1 x.2.2.2⟩
theorem DJ:aL Tryz.prog vz:=ck [qi] [.tmp 6] Bz ⟨vu,trivial⟩ afJ Tryz.func71 Tryz.ntmps71 rfl rfl rfl fun _=>by kernel_rfl
def ce:Ctr:=⟨19,[Ad],BH,false,fun x=>bf x.1 x.2.1 x.2.2.1 x.2.2.2.1 x.2.2.2.2.1 x.2.2.2.2.2.1 x.2.2.2.2.2.2⟩
theorem dz:aL Tryz.prog ce:=ck [oF,mi,cJ,vz] [.tmp 2] (.q .z (.q Ae (.q (.q .z (.cut ⟨[AA,Av],BJ,[]⟩ BO (.b (.lp ⟨[AA,Av,(29,Ac),(30,Ac),(31,Ag)],BJ,[]⟩ AJ)))) Ab))) ⟨tX,pS,eM,DJ,trivial⟩ ae5 Tryz.func19 Tryz.ntmps19 rfl rfl rfl fun _=>by kernel_rfl
set_option maxHeartbeats 4000000 in
theorem nT {x0:List (Int×Int×Int)} {A0:Option Addr} {n0 c0:Nat} {w:World} {r:List (Int×Int×Int)} (h0:Rt w 3 RO A0 n0 c0 x0) (hM:aU x0=some r):
 Calls Tryz.prog 105 #[.slice A0 n0 c0] w (fun e w'=> ∃(B0:Option Addr) (N0 D0:Nat),e= .returned (.slice B0 N0 D0)∧N0=r.length∧St w w' [.row 77 3 (.slice B0 N0 D0) N0 (r.flatMap RO)]):=by
 obtain rfl:=h0.len
 unfold aU at hM
 obtain ⟨hk,hM⟩:=cI hM
 replace hk:=EU hk
 obtain rfl:=Option.some.inj hM
 refine qD Tryz.func105 Tryz.ntmps105 rfl [(0,.slice A0 x0.length c0)] ⟨rfl,trivial⟩ rfl ?_
 intro a hF
 have S:=St.nil w
 refine wp_seq ?_
 refine wp_region_lit ?_
 refine ao (v:=.slice none 0 0) rfl rfl hF rfl (aA rfl rfl) ?_;clear hF;intro a hF
 refine wpList_nil ?_
 refine wp_seq ?_
 refine wp_seq ?_
 refine wp_region_lit ?_
 refine ao (v:=.slice A0 x0.length c0) rfl rfl hF rfl (ax rfl (hF.ev rfl)) ?_;clear hF;intro a hF
 refine ao (v:=.bool (Option.isNone A0)) rfl rfl hF rfl (qa rfl Tryz.underlying23 (hF.ev rfl) rfl) ?_;clear hF;intro a hF
 refine wpList_nil ?_
 cases hc101:(Option.isNone A0)
 ·have hx:=trivial
  refine yF hF rfl hc101 ?_
  refine wp_skip ?_
  refine wp_seq ?_
  refine wp_region_lit ?_
  refine wY (cs:= #[]) (size:=3) rfl rfl hF rfl S (kG rfl Tryz.underlying23 (congrArg Option.isSome agq)) rfl (Nat.zero_le _) ?_;clear hF S;intro a g102 u hF S
  refine ao (v:=.slice A0 x0.length c0) rfl rfl hF rfl (ax rfl (hF.ev rfl)) ?_;clear hF;intro a hF
  have hk105:=hk
  refine tN (lx:=[]) (ly:=x0) rfl rfl hF rfl S rfl (hF.ev rfl) (hF.ev rfl) (i:=0) rfl rfl Tryz.underlying23 aef rfl (by decide) (S.rc0 h0.rc).rd rfl Tm hk105 (by decide) ?_;clear hF S;intro a B103 d104 u hF S
  refine ao (v:=.slice B103 ((([]:List (Int×Int×Int))++x0).length) d104) rfl rfl hF rfl (aA rfl (hF.ev rfl)) ?_;clear hF;intro a hF
  refine wpList_nil ?_
  refine wp_ret ?_
  repeat with_reducible (first |refine ej ?_ |refine mV ?_ |refine mU ?_)
  refine iX (.inl rfl) hF rfl (ib (hF.ev rfl)) ?_
  exact ⟨B103,((([]:List (Int×Int×Int))++x0).length),d104,rfl,rfl,S.sel [0] rfl rfl⟩
 ·have hx:=zK h0.rc.rd rfl hc101
  refine yG hF rfl hc101 ?_
  refine wp_seq ?_
  refine wp_region_lit ?_
  refine ao (v:=.slice none 0 0) rfl rfl hF rfl (aA rfl rfl) ?_;clear hF;intro a hF
  refine wpList_nil ?_
  refine wp_ret ?_
  repeat with_reducible (first |refine ej ?_ |refine mV ?_ |refine mU ?_)
  refine iX (.inl rfl) hF rfl (ib (hF.ev rfl)) ?_
  subst hx
  replace S:=S.nilrow 77 3
  exact ⟨none,0,0,rfl,rfl,S.sel [0] rfl rfl⟩
def eP:Ctr:=⟨105,[.o Bg],[.o Da],false,fun x=>aU x⟩
theorem nU:aL Tryz.prog eP:=⟨abT,fun x res hm e w0 w X _ hp hS=>by
 obtain ⟨v,vr,hv,⟨l,hl,hro⟩,_⟩:=hp
 have hl:=(List.head_eq_of_cons_eq hv).trans hl
 injection hl with _ hl
 subst hl
 refine (nT (A0:=e.a 0) (n0:=List.length x) (c0:=e.c 0) (w:=w) ⟨hro w _ hS (fun y hy=>List.mem_append_right _ hy),rfl⟩ hm).mono ?_
 rintro en w' ⟨B,N,D,rfl,hN,S⟩
 subst hN
 exact ⟨[_],[_],rfl,⟨[_],[],[],[_],[],[],rfl,rfl,⟨_,[],_,[],[_],[],rfl,rfl,rfl,⟨res,B,D,rfl,rfl,rfl⟩,rfl,rfl,rfl⟩,⟨rfl,rfl⟩,⟨[],[],[],[],rfl,rfl,⟨rfl,rfl⟩,⟨rfl,rfl⟩⟩⟩,hS.call1 S⟩⟩
set_option maxHeartbeats 4000000 in
theorem ov {x0:List (Int×Int)} {A0:Option Addr} {n0 c0:Nat} {w:World} {r:List (Int×Int)} (h0:Rt w 2 XX A0 n0 c0 x0) (hM:ba x0=some r):
 Calls Tryz.prog 106 #[.slice A0 n0 c0] w (fun e w'=> ∃(B0:Option Addr) (N0 D0:Nat),e= .returned (.slice B0 N0 D0)∧N0=r.length∧St w w' [.row 122 2 (.slice B0 N0 D0) N0 (r.flatMap XX)]):=by
 obtain rfl:=h0.len
 unfold ba at hM
 obtain ⟨hk,hM⟩:=cI hM
 replace hk:=EU hk
 obtain rfl:=Option.some.inj hM
 refine qD Tryz.func106 Tryz.ntmps106 rfl [(0,.slice A0 x0.length c0)] ⟨rfl,trivial⟩ rfl ?_
 intro a hF
 have S:=St.nil w
 refine wp_seq ?_
 refine wp_region_lit ?_
 refine ao (v:=.slice none 0 0) rfl rfl hF rfl (aA rfl rfl) ?_;clear hF;intro a hF
 refine wpList_nil ?_
 refine wp_seq ?_
 refine wp_seq ?_
 refine wp_region_lit ?_
 refine ao (v:=.slice A0 x0.length c0) rfl rfl hF rfl (ax rfl (hF.ev rfl)) ?_;clear hF;intro a hF
 refine ao (v:=.bool (Option.isNone A0)) rfl rfl hF rfl (qa rfl Tryz.underlying26 (hF.ev rfl) rfl) ?_;clear hF;intro a hF
 refine wpList_nil ?_
 cases hc101:(Option.isNone A0)
 ·have hx:=trivial
  refine yF hF rfl hc101 ?_
  refine wp_skip ?_
  refine wp_seq ?_
  refine wp_region_lit ?_
  refine wY (cs:= #[]) (size:=2) rfl rfl hF rfl S (kG rfl Tryz.underlying26 (congrArg Option.isSome aeS)) rfl (Nat.zero_le _) ?_;clear hF S;intro a g102 u hF S
  refine ao (v:=.slice A0 x0.length c0) rfl rfl hF rfl (ax rfl (hF.ev rfl)) ?_;clear hF;intro a hF
  have hk105:=hk
  refine tN (lx:=[]) (ly:=x0) rfl rfl hF rfl S rfl (hF.ev rfl) (hF.ev rfl) (i:=0) rfl rfl Tryz.underlying26 aaS rfl (by decide) (S.rc0 h0.rc).rd rfl UZ hk105 (by decide) ?_;clear hF S;intro a B103 d104 u hF S
  refine ao (v:=.slice B103 ((([]:List (Int×Int))++x0).length) d104) rfl rfl hF rfl (aA rfl (hF.ev rfl)) ?_;clear hF;intro a hF
  refine wpList_nil ?_
  refine wp_ret ?_
  repeat with_reducible (first |refine ej ?_ |refine mV ?_ |refine mU ?_)
  refine iX (.inl rfl) hF rfl (ib (hF.ev rfl)) ?_
  exact ⟨B103,((([]:List (Int×Int))++x0).length),d104,rfl,rfl,S.sel [0] rfl rfl⟩
 ·have hx:=zK h0.rc.rd rfl hc101
  refine yG hF rfl hc101 ?_
  refine wp_seq ?_
  refine wp_region_lit ?_
  refine ao (v:=.slice none 0 0) rfl rfl hF rfl (aA rfl rfl) ?_;clear hF;intro a hF
  refine wpList_nil ?_
  refine wp_ret ?_
  repeat with_reducible (first |refine ej ?_ |refine mV ?_ |refine mU ?_)
  refine iX (.inl rfl) hF rfl (ib (hF.ev rfl)) ?_
  subst hx
  replace S:=S.nilrow 122 2
  exact ⟨none,0,0,rfl,rfl,S.sel [0] rfl rfl⟩
def fL:Ctr:=⟨106,[As],[.o (.row 122 Af)],false,fun x=>ba x⟩
theorem ow:aL Tryz.prog fL:=⟨abU,fun x res hm e w0 w X _ hp hS=>by
 obtain ⟨v,vr,hv,⟨l,hl,hro⟩,_⟩:=hp
 have hl:=(List.head_eq_of_cons_eq hv).trans hl
 injection hl with _ hl
 subst hl
 refine (ov (A0:=e.a 0) (n0:=List.length x) (c0:=e.c 0) (w:=w) ⟨hro w _ hS (fun y hy=>List.mem_append_right _ hy),rfl⟩ hm).mono ?_
 rintro en w' ⟨B,N,D,rfl,hN,S⟩
 subst hN
 exact ⟨[_],[_],rfl,⟨[_],[],[],[_],[],[],rfl,rfl,⟨_,[],_,[],[_],[],rfl,rfl,rfl,⟨res,B,D,rfl,rfl,rfl⟩,rfl,rfl,rfl⟩,⟨rfl,rfl⟩,⟨[],[],[],[],rfl,rfl,⟨rfl,rfl⟩,⟨rfl,rfl⟩⟩⟩,hS.call1 S⟩⟩
set_option maxHeartbeats 4000000 in
theorem vt {x0:List Bool} {A0:Option Addr} {n0 c0:Nat} {w:World} {r:List Bool} (h0:Rt w 1 eB A0 n0 c0 x0) (hM:aR x0=some r):
 Calls Tryz.prog 114 #[.slice A0 n0 c0] w (fun e w'=> ∃(B0:Option Addr) (N0 D0:Nat),e= .returned (.slice B0 N0 D0)∧N0=r.length∧St w w' [.row 4 1 (.slice B0 N0 D0) N0 (r.flatMap eB)]):=by
 obtain rfl:=h0.len
 unfold aR at hM
 obtain ⟨hk,hM⟩:=cI hM
 replace hk:=EU hk
 obtain rfl:=Option.some.inj hM
 refine qD Tryz.func114 Tryz.ntmps114 rfl [(0,.slice A0 x0.length c0)] ⟨rfl,trivial⟩ rfl ?_
 intro a hF
 have S:=St.nil w
 refine wp_seq ?_
 refine wp_region_lit ?_
 refine ao (v:=.slice none 0 0) rfl rfl hF rfl (aA rfl rfl) ?_;clear hF;intro a hF
 refine wpList_nil ?_
 refine wp_seq ?_
 refine wp_seq ?_
 refine wp_region_lit ?_
 refine ao (v:=.slice A0 x0.length c0) rfl rfl hF rfl (ax rfl (hF.ev rfl)) ?_;clear hF;intro a hF
 refine ao (v:=.bool (Option.isNone A0)) rfl rfl hF rfl (qa rfl Tryz.underlying27 (hF.ev rfl) rfl) ?_;clear hF;intro a hF
 refine wpList_nil ?_
 cases hc101:(Option.isNone A0)
 ·have hx:=trivial
  refine yF hF rfl hc101 ?_
  refine wp_skip ?_
  refine wp_seq ?_
  refine wp_region_lit ?_
  refine wY (cs:= #[]) (size:=1) rfl rfl hF rfl S (kG rfl Tryz.underlying27 (congrArg Option.isSome sz4)) rfl (Nat.zero_le _) ?_;clear hF S;intro a g102 u hF S
  refine ao (v:=.slice A0 x0.length c0) rfl rfl hF rfl (ax rfl (hF.ev rfl)) ?_;clear hF;intro a hF
  have hk105:=hk
  refine tN (lx:=[]) (ly:=x0) rfl rfl hF rfl S rfl (hF.ev rfl) (hF.ev rfl) (i:=0) rfl rfl Tryz.underlying27 agi rfl (by decide) (S.rc0 h0.rc).rd rfl aat hk105 (by decide) ?_;clear hF S;intro a B103 d104 u hF S
  refine ao (v:=.slice B103 ((([]:List Bool)++x0).length) d104) rfl rfl hF rfl (aA rfl (hF.ev rfl)) ?_;clear hF;intro a hF
  refine wpList_nil ?_
  refine wp_ret ?_
  repeat with_reducible (first |refine ej ?_ |refine mV ?_ |refine mU ?_)
  refine iX (.inl rfl) hF rfl (ib (hF.ev rfl)) ?_
  exact ⟨B103,((([]:List Bool)++x0).length),d104,rfl,rfl,S.sel [0] rfl rfl⟩
 ·have hx:=zK h0.rc.rd rfl hc101
  refine yG hF rfl hc101 ?_
  refine wp_seq ?_
  refine wp_region_lit ?_
  refine ao (v:=.slice none 0 0) rfl rfl hF rfl (aA rfl rfl) ?_;clear hF;intro a hF
  refine wpList_nil ?_
  refine wp_ret ?_
  repeat with_reducible (first |refine ej ?_ |refine mV ?_ |refine mU ?_)
  refine iX (.inl rfl) hF rfl (ib (hF.ev rfl)) ?_
  subst hx
  replace S:=S.nilrow 4 1
  exact ⟨none,0,0,rfl,rfl,S.sel [0] rfl rfl⟩
def ig:Ctr:=⟨114,[AO],[CI],false,fun x=>aR x⟩
theorem na:aL Tryz.prog ig:=⟨ab2,fun x res hm e w0 w X _ hp hS=>by
 obtain ⟨v,vr,hv,⟨l,hl,hro⟩,_⟩:=hp
 have hl:=(List.head_eq_of_cons_eq hv).trans hl
 injection hl with _ hl
 subst hl
 refine (vt (A0:=e.a 0) (n0:=List.length x) (c0:=e.c 0) (w:=w) ⟨hro w _ hS (fun y hy=>List.mem_append_right _ hy),rfl⟩ hm).mono ?_
 rintro en w' ⟨B,N,D,rfl,hN,S⟩
 subst hN
 exact ⟨[_],[_],rfl,⟨[_],[],[],[_],[],[],rfl,rfl,⟨_,[],_,[],[_],[],rfl,rfl,rfl,⟨res,B,D,rfl,rfl,rfl⟩,rfl,rfl,rfl⟩,⟨rfl,rfl⟩,⟨[],[],[],[],rfl,rfl,⟨rfl,rfl⟩,⟨rfl,rfl⟩⟩⟩,hS.call1 S⟩⟩
set_option maxHeartbeats 4000000 in
theorem lP {x0:List (Int×Int)} {A0:Option Addr} {n0 c0:Nat} {w:World} {r:List (Int×Int)} (h0:Rt w 2 jy A0 n0 c0 x0) (hM:aJ x0=some r):
 Calls Tryz.prog 168 #[.slice A0 n0 c0] w (fun e w'=> ∃(B0:Option Addr) (N0 D0:Nat),e= .returned (.slice B0 N0 D0)∧N0=r.length∧St w w' [.row 125 2 (.slice B0 N0 D0) N0 (r.flatMap jy)]):=by
 obtain rfl:=h0.len
 unfold aJ at hM
 obtain ⟨hk,hM⟩:=cI hM
 replace hk:=EU hk
 obtain rfl:=Option.some.inj hM
 refine qD Tryz.func168 Tryz.ntmps168 rfl [(0,.slice A0 x0.length c0)] ⟨rfl,trivial⟩ rfl ?_
 intro a hF
 have S:=St.nil w
 refine wp_seq ?_
 refine wp_region_lit ?_
 refine ao (v:=.slice none 0 0) rfl rfl hF rfl (aA rfl rfl) ?_;clear hF;intro a hF
 refine wpList_nil ?_
 refine wp_seq ?_
 refine wp_seq ?_
 refine wp_region_lit ?_
 refine ao (v:=.slice A0 x0.length c0) rfl rfl hF rfl (ax rfl (hF.ev rfl)) ?_;clear hF;intro a hF
 refine ao (v:=.bool (Option.isNone A0)) rfl rfl hF rfl (qa rfl Tryz.underlying28 (hF.ev rfl) rfl) ?_;clear hF;intro a hF
 refine wpList_nil ?_
 cases hc101:(Option.isNone A0)
 ·have hx:=trivial
  refine yF hF rfl hc101 ?_
  refine wp_skip ?_
  refine wp_seq ?_
  refine wp_region_lit ?_
  refine wY (cs:= #[]) (size:=2) rfl rfl hF rfl S (kG rfl Tryz.underlying28 (congrArg Option.isSome Mf)) rfl (Nat.zero_le _) ?_;clear hF S;intro a g102 u hF S
  refine ao (v:=.slice A0 x0.length c0) rfl rfl hF rfl (ax rfl (hF.ev rfl)) ?_;clear hF;intro a hF
  have hk105:=hk
  refine tN (lx:=[]) (ly:=x0) rfl rfl hF rfl S rfl (hF.ev rfl) (hF.ev rfl) (i:=0) rfl rfl Tryz.underlying28 VH rfl (by decide) (S.rc0 h0.rc).rd rfl Hv hk105 (by decide) ?_;clear hF S;intro a B103 d104 u hF S
  refine ao (v:=.slice B103 ((([]:List (Int×Int))++x0).length) d104) rfl rfl hF rfl (aA rfl (hF.ev rfl)) ?_;clear hF;intro a hF
  refine wpList_nil ?_
  refine wp_ret ?_
  repeat with_reducible (first |refine ej ?_ |refine mV ?_ |refine mU ?_)
  refine iX (.inl rfl) hF rfl (ib (hF.ev rfl)) ?_
  exact ⟨B103,((([]:List (Int×Int))++x0).length),d104,rfl,rfl,S.sel [0] rfl rfl⟩
 ·have hx:=zK h0.rc.rd rfl hc101
  refine yG hF rfl hc101 ?_
  refine wp_seq ?_
  refine wp_region_lit ?_
  refine ao (v:=.slice none 0 0) rfl rfl hF rfl (aA rfl rfl) ?_;clear hF;intro a hF
  refine wpList_nil ?_
  refine wp_ret ?_
  repeat with_reducible (first |refine ej ?_ |refine mV ?_ |refine mU ?_)
  refine iX (.inl rfl) hF rfl (ib (hF.ev rfl)) ?_
  subst hx
  replace S:=S.nilrow 125 2
  exact ⟨none,0,0,rfl,rfl,S.sel [0] rfl rfl⟩
def cV:Ctr:=⟨168,[Bt],[.o BI],false,fun x=>aJ x⟩
theorem lQ:aL Tryz.prog cV:=⟨acQ,fun x res hm e w0 w X _ hp hS=>by
 obtain ⟨v,vr,hv,⟨l,hl,hro⟩,_⟩:=hp
 have hl:=(List.head_eq_of_cons_eq hv).trans hl
 injection hl with _ hl
 subst hl
 refine (lP (A0:=e.a 0) (n0:=List.length x) (c0:=e.c 0) (w:=w) ⟨hro w _ hS (fun y hy=>List.mem_append_right _ hy),rfl⟩ hm).mono ?_
 rintro en w' ⟨B,N,D,rfl,hN,S⟩
 subst hN
 exact ⟨[_],[_],rfl,⟨[_],[],[],[_],[],[],rfl,rfl,⟨_,[],_,[],[_],[],rfl,rfl,rfl,⟨res,B,D,rfl,rfl,rfl⟩,rfl,rfl,rfl⟩,⟨rfl,rfl⟩,⟨[],[],[],[],rfl,rfl,⟨rfl,rfl⟩,⟨rfl,rfl⟩⟩⟩,hS.call1 S⟩⟩
def oH:Ctr:=⟨107,[AE],[Cr],false,fun x=>fZ x.1 x.2.1 x.2.2⟩
theorem tZ:aL Tryz.prog oH:=ck [ig,cV] [.cell 2 30] Al ⟨na,lQ,trivial⟩ abV Tryz.func107 Tryz.ntmps107 rfl rfl rfl fun _=>by kernel_rfl
set_option maxHeartbeats 4000000 in
theorem xi {x0:List Int} {A0:Option Addr} {n0 c0:Nat} {w:World} {r:List Int} (h0:Rt w 1 eI A0 n0 c0 x0) (hM:cg x0=some r):
 Calls Tryz.prog 108 #[.slice A0 n0 c0] w (fun e w'=> ∃(B0:Option Addr) (N0 D0:Nat),e= .returned (.slice B0 N0 D0)∧N0=r.length∧St w w' [.row 3 1 (.slice B0 N0 D0) N0 (r.flatMap eI)]):=by
 obtain rfl:=h0.len
 unfold cg at hM
 obtain ⟨hk,hM⟩:=cI hM
 replace hk:=EU hk
 obtain rfl:=Option.some.inj hM
 refine qD Tryz.func108 Tryz.ntmps108 rfl [(0,.slice A0 x0.length c0)] ⟨rfl,trivial⟩ rfl ?_
 intro a hF
 have S:=St.nil w
 refine wp_seq ?_
 refine wp_region_lit ?_
 refine ao (v:=.slice none 0 0) rfl rfl hF rfl (aA rfl rfl) ?_;clear hF;intro a hF
 refine wpList_nil ?_
 refine wp_seq ?_
 refine wp_seq ?_
 refine wp_region_lit ?_
 refine ao (v:=.slice A0 x0.length c0) rfl rfl hF rfl (ax rfl (hF.ev rfl)) ?_;clear hF;intro a hF
 refine ao (v:=.bool (Option.isNone A0)) rfl rfl hF rfl (qa rfl Tryz.underlying31 (hF.ev rfl) rfl) ?_;clear hF;intro a hF
 refine wpList_nil ?_
 cases hc101:(Option.isNone A0)
 ·have hx:=trivial
  refine yF hF rfl hc101 ?_
  refine wp_skip ?_
  refine wp_seq ?_
  refine wp_region_lit ?_
  refine wY (cs:= #[]) (size:=1) rfl rfl hF rfl S (kG rfl Tryz.underlying31 (congrArg Option.isSome sz3)) rfl (Nat.zero_le _) ?_;clear hF S;intro a g102 u hF S
  refine ao (v:=.slice A0 x0.length c0) rfl rfl hF rfl (ax rfl (hF.ev rfl)) ?_;clear hF;intro a hF
  have hk105:=hk
  refine tN (lx:=[]) (ly:=x0) rfl rfl hF rfl S rfl (hF.ev rfl) (hF.ev rfl) (i:=0) rfl rfl Tryz.underlying31 aee rfl (by decide) (S.rc0 h0.rc).rd rfl Va hk105 (by decide) ?_;clear hF S;intro a B103 d104 u hF S
  refine ao (v:=.slice B103 ((([]:List Int)++x0).length) d104) rfl rfl hF rfl (aA rfl (hF.ev rfl)) ?_;clear hF;intro a hF
  refine wpList_nil ?_
  refine wp_ret ?_
  repeat with_reducible (first |refine ej ?_ |refine mV ?_ |refine mU ?_)
  refine iX (.inl rfl) hF rfl (ib (hF.ev rfl)) ?_
  exact ⟨B103,((([]:List Int)++x0).length),d104,rfl,rfl,S.sel [0] rfl rfl⟩
 ·have hx:=zK h0.rc.rd rfl hc101
  refine yG hF rfl hc101 ?_
  refine wp_seq ?_
  refine wp_region_lit ?_
  refine ao (v:=.slice none 0 0) rfl rfl hF rfl (aA rfl rfl) ?_;clear hF;intro a hF
  refine wpList_nil ?_
  refine wp_ret ?_
  repeat with_reducible (first |refine ej ?_ |refine mV ?_ |refine mU ?_)
  refine iX (.inl rfl) hF rfl (ib (hF.ev rfl)) ?_
  subst hx
  replace S:=S.nilrow 3 1
  exact ⟨none,0,0,rfl,rfl,S.sel [0] rfl rfl⟩
def oM:Ctr:=⟨108,[BQ],CV,false,fun x=>cg x⟩
theorem xj:aL Tryz.prog oM:=⟨abW,fun x res hm e w0 w X _ hp hS=>by
 obtain ⟨v,vr,hv,⟨l,hl,hro⟩,_⟩:=hp
 have hl:=(List.head_eq_of_cons_eq hv).trans hl
 injection hl with _ hl
 subst hl
 refine (xi (A0:=e.a 0) (n0:=List.length x) (c0:=e.c 0) (w:=w) ⟨hro w _ hS (fun y hy=>List.mem_append_right _ hy),rfl⟩ hm).mono ?_
 rintro en w' ⟨B,N,D,rfl,hN,S⟩
 subst hN
 exact ⟨[_],[_],rfl,⟨[_],[],[],[_],[],[],rfl,rfl,⟨_,[],_,[],[_],[],rfl,rfl,rfl,⟨res,B,D,rfl,rfl,rfl⟩,rfl,rfl,rfl⟩,⟨rfl,rfl⟩,⟨[],[],[],[],rfl,rfl,⟨rfl,rfl⟩,⟨rfl,rfl⟩⟩⟩,hS.call1 S⟩⟩
def eO:Ctr:=⟨43,[Ad],[Aj],false,fun x=>bG x.1 x.2.1 x.2.2.1 x.2.2.2.1 x.2.2.2.2.1 x.2.2.2.2.2.1 x.2.2.2.2.2.2⟩
theorem jx:aL Tryz.prog eO:=ck [eP,fL,oH,oM] [.cell 2 33] Al ⟨nU,ow,tZ,xj,trivial⟩ afm Tryz.func43 Tryz.ntmps43 rfl rfl rfl fun _=>by kernel_rfl
def xT:Ctr:=⟨232,[AB],BH,false,fun x=>nv x⟩
theorem HG:aL Tryz.prog xT:=ck [] [.tmp 2] Al trivial adx Tryz.func232 Tryz.ntmps232 rfl rfl rfl fun _=>by kernel_rfl
def zb:Ctr:=⟨212,[AB,AB],BH,false,fun x=>oZ x.1 x.2⟩
theorem IP:aL Tryz.prog zb:=ck [xT] [.tmp 4] Al ⟨HG,trivial⟩ adp Tryz.func212 Tryz.ntmps212 rfl rfl rfl fun _=>by kernel_rfl
def tE:Ctr:=⟨213,[AB],BH,false,fun x=>jT x⟩
theorem Ev:aL Tryz.prog tE:=ck [] [.tmp 2] Al trivial adq Tryz.func213 Tryz.ntmps213 rfl rfl rfl fun _=>by kernel_rfl
def ju:Ctr:=⟨180,[BQ,AB],[AR,AH],false,fun x=>bO x.1 x.2⟩
theorem qE:aL Tryz.prog ju:=ck [zb,tE] [.tmp 4,.tmp 5] (.q .z (.q .z (.q .z (.q (.cut ⟨[Ba,AA,Au,Bi,AD,Cd],[],[]⟩ [] (.b (.lp Dc (.q Al (.b (.q .z (.q .z (.cut Dc [] Ab)))))))) Ab)))) ⟨IP,Ev,trivial⟩ acZ Tryz.func180 Tryz.ntmps180 rfl rfl rfl fun _=>by kernel_rfl
set_option maxHeartbeats 4000000 in
theorem vJ {x0:List Int} {x1:Int} {x2:Int} {A0:Option Addr} {n0 c0:Nat} {w:World} {r:List Int} {w0:World} {X:List Asn} (h0:n0=x0.length) (S:St w0 w (Asn.row 3 1 (.slice A0 n0 c0) n0 (x0.flatMap eI)::X)) (hM:bX x0 x1 x2=some r):
 Calls Tryz.prog 182 #[.slice A0 n0 c0,.int .i64 x1,.int .i64 x2] w (fun e w'=> ∃(B0:Option Addr) (N0 D0:Nat),e= .returned (.slice B0 N0 D0)∧N0=r.length∧St w0 w' (Asn.row 3 1 (.slice B0 N0 D0) N0 (r.flatMap eI)::X)):=by
 obtain rfl:=h0
 unfold bX at hM
 refine qD Tryz.func182 Tryz.ntmps182 rfl [(0,.slice A0 x0.length c0),(1,.int .i64 x1),(2,.int .i64 x2)] ⟨rfl,rfl,rfl,trivial⟩ rfl ?_
 intro a hF
 refine wp_seq ?_
 refine wp_region_lit ?_
 refine ao (v:=.slice none 0 0) rfl rfl hF rfl (aA rfl rfl) ?_;clear hF;intro a hF
 refine wpList_nil ?_
 refine wp_seq ?_
 refine wp_region_lit ?_
 refine ao (v:=.slice A0 x0.length c0) rfl rfl hF rfl (ax rfl (hF.ev rfl)) ?_;clear hF;intro a hF
 refine ao (v:=.int .i64 x1) rfl rfl hF rfl (ax rfl (hF.ev rfl)) ?_;clear hF;intro a hF
 refine ao (v:=.int .i64 x2) rfl rfl hF rfl (ax rfl (hF.ev rfl)) ?_;clear hF;intro a hF
 refine ao (v:=.slice A0 x0.length c0) rfl rfl hF rfl (ax rfl (hF.ev rfl)) ?_;clear hF;intro a hF
 refine ao (v:=.int .i64 (x0.length:Int)) rfl rfl hF rfl (md rfl rfl Tryz.underlying31 (hF.ev rfl)) ?_;clear hF;intro a hF
 obtain ⟨hk101,hM⟩:=cI hM
 replace hk101:=rb hk101
 refine ao (v:=.slice (bI ((x0.length:Int).toNat) x1.toNat 1 A0) (x2.toNat-x1.toNat) ((x0.length:Int).toNat-x1.toNat)) rfl rfl hF rfl (Kf rfl Tryz.underlying31 sz3 (hF.ev rfl) (hF.ev rfl) (hF.ev rfl) (hF.ev rfl) hk101 (Int.ofNat_le.2 (S.rc 0 rfl).cap)) ?_;clear hF;intro a hF
 refine wpList_nil ?_
 refine wp_seq ?_
 refine wp_seq ?_
 refine wp_region_lit ?_
 refine ao (v:=.int .i64 x1) rfl rfl hF rfl (ax rfl (hF.ev rfl)) ?_;clear hF;intro a hF
 refine ao (v:=.int .i64 x2) rfl rfl hF rfl (ax rfl (hF.ev rfl)) ?_;clear hF;intro a hF
 refine ao (v:=.bool (x1==x2)) rfl rfl hF rfl (Nq (hF.ev rfl) (hF.ev rfl) rfl) ?_;clear hF;intro a hF
 refine wpList_nil ?_
 cases hc102:(x1==x2)
 ·replace hM:=Zt hc102 hM
  refine yF hF rfl hc102 ?_
  refine wp_skip ?_
  refine wp_seq ?_
  refine wp_region_lit ?_
  refine ao (v:=.slice A0 x0.length c0) rfl rfl hF rfl (ax rfl (hF.ev rfl)) ?_;clear hF;intro a hF
  refine ao (v:=.int .i64 (x0.length:Int)) rfl rfl hF rfl (md rfl rfl Tryz.underlying31 (hF.ev rfl)) ?_;clear hF;intro a hF
  refine ao (v:=.int .i64 (x0.length:Int)) rfl rfl hF rfl (aA rfl (hF.ev rfl)) ?_;clear hF;intro a hF
  refine wpList_nil ?_
  refine wp_seq ?_
  obtain ⟨hk103,hM⟩:=cI hM
  replace hk103:=rb hk103
  obtain ⟨hk104,hM⟩:=cI hM
  replace hk104:=rb hk104
  obtain ⟨hk105,hM⟩:=cI hM
  replace hk105:=EU hk105
  have hp106:=(S.rc 0 rfl).cap
  have hq107:=RL (l:=x0) (p:=x1) (q:=x2) rfl (by omega)
  refine LX (D:=[20,21,22,23,24,25,26,0]) (Lr:=(X)) (deps:=(fun |0=> [20] |1=> [21] |2=> [22] |3=> [23] |4=> [24] |5=> [25] |6=> [26] |7=> [0] |_=> [])) (rd:=(fun _=> [])) (zr:=(fun |2=> [6] |5=> [6] |_=> []))
   (φ:=fun i vs=>match i,vs with |0,[v20]=>v20= .slice A0 x0.length c0 |1,[v21]=>v21= .int .i64 x1 |2,[v22]=>v22= .slice (bI c0 ((0:Int).toNat) 1 A0) ((ai x0 0 x1).length) (c0-(0:Int).toNat) |3,[v23]=>v23= .slice A0 x0.length c0 |4,[v24]=>v24= .int .i64 x2 |5,[v25]=>v25= .slice (bI c0 x2.toNat 1 A0) ((ai x0 x2 (x0.length:Int)).length) (c0-x2.toNat) |6,[v26]=>v26= .slice A0 (((ai x0 0 x1)++(ai x0 x2 (x0.length:Int))).length) c0 |7,[v0]=>v0= .slice A0 (((ai x0 0 x1)++(ai x0 x2 (x0.length:Int))).length) c0 |_,_=>True)
   (C:=fun i vs=>match i,vs with |6,[v26]=> [.row 3 1 (.slice A0 (((ai x0 0 x1)++(ai x0 x2 (x0.length:Int))).length) c0) (((ai x0 0 x1)++(ai x0 x2 (x0.length:Int))).length) (((ai x0 0 x1)++(ai x0 x2 (x0.length:Int))).flatMap eI)] |_,_=> [])
   (κ:=(fun _=>none)) (Z:=(fun |6=> [.row 3 1 (.slice A0 x0.length c0) x0.length (x0.flatMap eI)] |_=> [])) mixed hF (by kernel_rfl) (show St w0 _ (Asn.row 3 1 (.slice A0 x0.length c0) x0.length (x0.flatMap eI)::X) from S.selT (M:=[.row 3 1 (.slice A0 x0.length c0) x0.length (x0.flatMap eI)]) 1 [0] rfl rfl rfl) ?_ ?_
  ·refine ⟨?_,?_,?_,?_,?_,?_,?_,?_,trivial⟩
   ·intro a u X' hB hu hp hr hz hl S
    replace S:St w0 u ([]++X'):=S
    exact .inl ⟨rfl,.slice A0 x0.length c0,u,(ax rfl (hF.evU (hu 7 0 rfl rfl) rfl)),rfl,S⟩
   ·intro a u X' hB hu hp hr hz hl S
    replace S:St w0 u ([]++X'):=S
    exact .inl ⟨rfl,.int .i64 x1,u,(ax rfl (hF.evB hB rfl rfl)),rfl,S⟩
   ·intro a u X' hB hu hp hr hz hl S
    replace S:St w0 u ([]++X'):=S
    have e20:sl a 20= .slice A0 x0.length c0:=hp 0 rfl
    have e21:sl a 21= .int .i64 x1:=hp 1 rfl
    exact .inl ⟨rfl,.slice (bI c0 ((0:Int).toNat) 1 A0) ((ai x0 0 x1).length) (c0-(0:Int).toNat),u,(xF (l:=x0) rfl Tryz.underlying31 sz3 (kx e20) (kx e21) hk103 rfl (EG (show Ow _ _ _ _ _ _ from S.mem (List.mem_append_right _ (hz 6 (List.mem_of_getElem? (i:=0) rfl) _ (List.mem_of_getElem? (i:=0) rfl))))).cap),rfl,S⟩
   ·intro a u X' hB hu hp hr hz hl S
    replace S:St w0 u ([]++X'):=S
    exact .inl ⟨rfl,.slice A0 x0.length c0,u,(ax rfl (hF.evU (hu 7 0 rfl rfl) rfl)),rfl,S⟩
   ·intro a u X' hB hu hp hr hz hl S
    replace S:St w0 u ([]++X'):=S
    exact .inl ⟨rfl,.int .i64 x2,u,(ax rfl (hF.evB hB rfl rfl)),rfl,S⟩
   ·intro a u X' hB hu hp hr hz hl S
    replace S:St w0 u ([]++X'):=S
    have e23:sl a 23= .slice A0 x0.length c0:=hp 3 rfl
    have e24:sl a 24= .int .i64 x2:=hp 4 rfl
    exact .inl ⟨rfl,.slice (bI c0 x2.toNat 1 A0) ((ai x0 x2 (x0.length:Int)).length) (c0-x2.toNat),u,(vD (l:=x0) rfl Tryz.underlying31 sz3 (kx e23) (kx e24) hk104 rfl (EG (show Ow _ _ _ _ _ _ from S.mem (List.mem_append_right _ (hz 6 (List.mem_of_getElem? (i:=0) rfl) _ (List.mem_of_getElem? (i:=0) rfl))))).cap),rfl,S⟩
   ·intro a u X' hB hu hp hr hz hl S
    replace S:St w0 u ([.row 3 1 (.slice A0 x0.length c0) x0.length (x0.flatMap eI)]++X'):=S
    have e22:sl a 22= .slice (bI c0 ((0:Int).toNat) 1 A0) ((ai x0 0 x1).length) (c0-(0:Int).toNat):=hp 2 rfl
    have e25:sl a 25= .slice (bI c0 x2.toNat 1 A0) ((ai x0 x2 (x0.length:Int)).length) (c0-x2.toNat):=hp 5 rfl
    obtain ⟨w',hrun,S'⟩:=S.delrow (i:=0) (P:=Tryz.prog) (ty:=31) (p:=x1) (q:=x2) rfl rfl Qp Va Tryz.underlying31 sz3 (by omega) (by omega) (by omega)
    exact .inl ⟨rfl,_,w',xE rfl (kx e22) (kx e25) hrun,rfl,S'⟩
   ·intro a u X' hB hu hp hr hz hl S
    replace S:St w0 u ([]++X'):=S
    have e26:sl a 26= .slice A0 (((ai x0 0 x1)++(ai x0 x2 (x0.length:Int))).length) c0:=hp 6 rfl
    exact .inl ⟨rfl,.slice A0 (((ai x0 0 x1)++(ai x0 x2 (x0.length:Int))).length) c0,u,(aA rfl (kx e26)),rfl,S⟩
  ·intro a u hB hp S
   obtain ⟨q0,q1,q2,q3,q4,q5,q6,q7,_⟩:=hp
   have e20:sl a 20= .slice A0 x0.length c0:=q0
   have e21:sl a 21= .int .i64 x1:=q1
   have e22:sl a 22= .slice (bI c0 ((0:Int).toNat) 1 A0) ((ai x0 0 x1).length) (c0-(0:Int).toNat):=q2
   have e23:sl a 23= .slice A0 x0.length c0:=q3
   have e24:sl a 24= .int .i64 x2:=q4
   have e25:sl a 25= .slice (bI c0 x2.toNat 1 A0) ((ai x0 x2 (x0.length:Int)).length) (c0-x2.toNat):=q5
   have e26:sl a 26= .slice A0 (((ai x0 0 x1)++(ai x0 x2 (x0.length:Int))).length) c0:=q6
   have e0:sl a 0= .slice A0 (((ai x0 0 x1)++(ai x0 x2 (x0.length:Int))).length) c0:=q7
   replace S:St w0 u (Asn.row 3 1 (.slice A0 (((ai x0 0 x1)++(ai x0 x2 (x0.length:Int))).length) c0) (((ai x0 0 x1)++(ai x0 x2 (x0.length:Int))).length) (((ai x0 0 x1)++(ai x0 x2 (x0.length:Int))).flatMap eI)::X):=S
   clear q0 q1 q2 q3 q4 q5 q6 q7
   have hF:=hF.region hB [(20,.slice A0 x0.length c0),(21,.int .i64 x1),(22,.slice (bI c0 ((0:Int).toNat) 1 A0) ((ai x0 0 x1).length) (c0-(0:Int).toNat)),(23,.slice A0 x0.length c0),(24,.int .i64 x2),(25,.slice (bI c0 x2.toNat 1 A0) ((ai x0 x2 (x0.length:Int)).length) (c0-x2.toNat)),(26,.slice A0 (((ai x0 0 x1)++(ai x0 x2 (x0.length:Int))).length) c0),(0,.slice A0 (((ai x0 0 x1)++(ai x0 x2 (x0.length:Int))).length) c0)] (Gl ⟨e20,e21,e22,e23,e24,e25,e26,e0,trivial⟩) rfl
   clear hB e20 e21 e22 e23 e24 e25 e26 e0
   refine wp_seq ?_
   refine wp_region_lit ?_
   refine ao (v:=.slice A0 (((ai x0 0 x1)++(ai x0 x2 (x0.length:Int))).length) c0) rfl rfl hF rfl (ax rfl (hF.ev rfl)) ?_;clear hF;intro a hF
   refine ao (v:=.slice A0 (((ai x0 0 x1)++(ai x0 x2 (x0.length:Int))).length) c0) rfl rfl hF rfl (ax rfl (hF.ev rfl)) ?_;clear hF;intro a hF
   refine ao (v:=.int .i64 ((((ai x0 0 x1)++(ai x0 x2 (x0.length:Int))).length):Int)) rfl rfl hF rfl (md rfl rfl Tryz.underlying31 (hF.ev rfl)) ?_;clear hF;intro a hF
   refine ao (v:=.int .i64 (x0.length:Int)) rfl rfl hF rfl (ax rfl (hF.ev rfl)) ?_;clear hF;intro a hF
   refine ao (v:=.slice (bI c0 (((((ai x0 0 x1)++(ai x0 x2 (x0.length:Int))).length):Int).toNat) 1 A0) ((x0.length:Int).toNat-((((ai x0 0 x1)++(ai x0 x2 (x0.length:Int))).length):Int).toNat) (c0-((((ai x0 0 x1)++(ai x0 x2 (x0.length:Int))).length):Int).toNat)) rfl rfl hF rfl (Gd rfl Tryz.underlying31 sz3 (hF.ev rfl) (hF.ev rfl) (hF.ev rfl) ⟨Int.natCast_nonneg _,Int.ofNat_le.2 hq107,Int.ofNat_le.2 hp106⟩) ?_;clear hF;intro a hF
   obtain ⟨w',hrun,S'⟩:=S.clear (i:=0) (P:=Tryz.prog) (hi:=(x0.length:Int)) rfl rfl Qp Tryz.underlying31 aee rfl rfl ⟨Int.ofNat_le.2 hq107,Int.ofNat_le.2 hp106⟩
   refine HD rfl rfl rfl (hF.ev rfl) hrun ?_
   clear S hrun;have S:=S';clear S';generalize w'=u at S ⊢
   refine wpList_nil ?_
   refine wp_seq ?_
   refine wp_region_lit ?_
   refine ao (v:=.slice A0 (((ai x0 0 x1)++(ai x0 x2 (x0.length:Int))).length) c0) rfl rfl hF rfl (ax rfl (hF.ev rfl)) ?_;clear hF;intro a hF
   refine ao (v:=.slice A0 (((ai x0 0 x1)++(ai x0 x2 (x0.length:Int))).length) c0) rfl rfl hF rfl (aA rfl (hF.ev rfl)) ?_;clear hF;intro a hF
   refine wpList_nil ?_
   refine wp_ret ?_
   repeat with_reducible (first |refine ej ?_ |refine mV ?_ |refine mU ?_)
   refine iX (.inl rfl) hF rfl (ib (hF.ev rfl)) ?_
   obtain rfl:=Option.some.inj hM
   exact ⟨A0,(((ai x0 0 x1)++(ai x0 x2 (x0.length:Int))).length),c0,rfl,rfl,S.selT (M:=[.row 3 1 (.slice A0 (((ai x0 0 x1)++(ai x0 x2 (x0.length:Int))).length) c0) (((ai x0 0 x1)++(ai x0 x2 (x0.length:Int))).length) (((ai x0 0 x1)++(ai x0 x2 (x0.length:Int))).flatMap eI)]) 1 [0] rfl rfl rfl⟩
 ·replace hM:=Zu hc102 hM
  refine yG hF rfl hc102 ?_
  refine wp_seq ?_
  refine wp_region_lit ?_
  refine ao (v:=.slice A0 x0.length c0) rfl rfl hF rfl (ax rfl (hF.ev rfl)) ?_;clear hF;intro a hF
  refine ao (v:=.slice A0 x0.length c0) rfl rfl hF rfl (aA rfl (hF.ev rfl)) ?_;clear hF;intro a hF
  refine wpList_nil ?_
  refine wp_ret ?_
  repeat with_reducible (first |refine ej ?_ |refine mV ?_ |refine mU ?_)
  refine iX (.inl rfl) hF rfl (ib (hF.ev rfl)) ?_
  obtain rfl:=Option.some.inj hM
  exact ⟨A0,x0.length,c0,rfl,rfl,S.selT (M:=[.row 3 1 (.slice A0 x0.length c0) x0.length (x0.flatMap eI)]) 1 [0] rfl rfl rfl⟩
def oc:Ctr:=⟨182,[CR,AB,AB],CV,true,fun x=>bX x.1 x.2.1 x.2.2⟩
theorem vL:aL Tryz.prog oc:=⟨ac1,fun x res hm e w0 w X _ hp hS=>(vJ (w:=w) (w0:=w0) (X:=X) (A0:=e.a 0) (n0:=x.1.length) (c0:=e.c 0) rfl hS hm).mono (by
 rintro en w' ⟨B,N,D,rfl,hN,S⟩
 subst hN
 exact ⟨_,_,rfl,⟨[_],[],[],[_],[],[],rfl,rfl,⟨_,[],_,[],[_],[],rfl,rfl,rfl,⟨res,B,D,rfl,rfl,rfl⟩,rfl,rfl,rfl⟩,⟨rfl,rfl⟩,⟨[],[],[],[],rfl,rfl,⟨rfl,rfl⟩,⟨[],[],[],[],rfl,rfl,⟨rfl,rfl⟩,⟨[],[],[],[],rfl,rfl,⟨rfl,rfl⟩,⟨rfl,rfl⟩⟩⟩⟩⟩,S⟩)⟩
set_option maxHeartbeats 4000000 in
theorem vK {x0:List Int} {x1:Int} {x2:List Int} {A0:Option Addr} {n0 c0:Nat} {A2:Option Addr} {n2 c2:Nat} {w:World} {r:List Int} {w0:World} {X:List Asn} (h0:n0=x0.length) (h2:n2=x2.length) (S:St w0 w (Asn.row 3 1 (.slice A0 n0 c0) n0 (x0.flatMap eI)::Asn.row 3 1 (.slice A2 n2 c2) n2 (x2.flatMap eI)::X)) (hM:bY x0 x1 x2=some r):
 Calls Tryz.prog 181 #[.slice A0 n0 c0,.int .i64 x1,.slice A2 n2 c2] w (fun e w'=> ∃(B0:Option Addr) (N0 D0:Nat),e= .returned (.slice B0 N0 D0)∧N0=r.length∧St w0 w' (Asn.row 3 1 (.slice B0 N0 D0) N0 (r.flatMap eI)::X)):=by
 obtain rfl:=h0
 obtain rfl:=h2
 unfold bY at hM
 obtain ⟨hk1,hM⟩:=cI hM
 obtain ⟨hk2,hM⟩:=cI hM
 obtain ⟨hk3,hM⟩:=cI hM
 obtain rfl:=Option.some.inj hM
 replace hk1:=rb hk1
 replace hk2:=EU hk2
 obtain ⟨y,rfl⟩: ∃y,x2=[y]:=List.length_eq_one_iff.1 (by have:=eq_of_beq hk3;omega)
 refine (Tv S (k:=0) (m:=1) rfl rfl rfl (by decide) ⟨hk1.2.1,hk1.2.2⟩ hk2).mono ?_
 rintro e w' ⟨B,D,rfl,T⟩
 exact ⟨B,_,D,rfl,Yp hk1.2.1 hk1.2.2,T.sub (.cons_cons _ (.cons _ (List.Sublist.refl _)))⟩
def od:Ctr:=⟨181,[CR,AB,CR],CV,true,fun x=>bY x.1 x.2.1 x.2.2⟩
theorem vM:aL Tryz.prog od:=⟨ac0,fun x res hm e w0 w X _ hp hS=>(vK (w:=w) (w0:=w0) (X:=X) (A0:=e.a 0) (n0:=x.1.length) (c0:=e.c 0) (A2:=e.a 2) (n2:=x.2.2.length) (c2:=e.c 2) rfl rfl hS hm).mono (by
 rintro en w' ⟨B,N,D,rfl,hN,S⟩
 subst hN
 exact ⟨_,_,rfl,⟨[_],[],[],[_],[],[],rfl,rfl,⟨_,[],_,[],[_],[],rfl,rfl,rfl,⟨res,B,D,rfl,rfl,rfl⟩,rfl,rfl,rfl⟩,⟨rfl,rfl⟩,⟨[],[],[],[],rfl,rfl,⟨rfl,rfl⟩,⟨[],[],[],[],rfl,rfl,⟨rfl,rfl⟩,⟨[],[],[],[],rfl,rfl,⟨rfl,rfl⟩,⟨rfl,rfl⟩⟩⟩⟩⟩,S⟩)⟩
def xV:Ctr:=⟨234,[AE,AB],CV,false,fun x=>nA x.1 x.2.1 x.2.2.1 x.2.2.2⟩
theorem HI:aL Tryz.prog xV:=ck [mi] [.tmp 4] (.q .z (.q Ae (.q .z (.q (.q .z (.cut BN [] (.b (.lp ⟨[AA,Au,Db,BU,Cg,(14,Ag)],[],[]⟩ (.q .z (.q Ab (.q (.b (.q .z (.q .z (.cut ⟨[AA,Au,Db,BU,Cg,(14,Ac)],[],[]⟩ [] Ab)))) .z))))))) Ab)))) ⟨pS,trivial⟩ ady Tryz.func234 Tryz.ntmps234 rfl rfl rfl fun _=>by kernel_rfl
def xW:Ctr:=⟨216,[AE,Bh],BH,false,fun x=>nB x.1 x.2.1 x.2.2.1 x.2.2.2.1 x.2.2.2.2.1 x.2.2.2.2.2⟩
theorem HJ:aL Tryz.prog xW:=ck [aS,xV] [.tmp 4] (.q .z (.q .z (.q .z (.q (.q .z (.b (.q (.q .z (.cut ⟨[Av,AZ,Au,Bi,AD,BB,(29,Ac),(30,Cs)],[(3,AT),(2,AT)],[]⟩ [] Ab)) Bx))) Ab)))) ⟨bq,HI,trivial⟩ adr Tryz.func216 Tryz.ntmps216 rfl rfl rfl fun _=>by kernel_rfl
set_option maxHeartbeats 4000000 in
theorem lK {x0:List (Int×Int)} {x1:Int} {x2:Int} {A0:Option Addr} {n0 c0:Nat} {w:World} {r:List (Int×Int)} {w0:World} {X:List Asn} (h0:n0=x0.length) (S:St w0 w (Asn.row 125 2 (.slice A0 n0 c0) n0 (x0.flatMap jy)::X)) (hM:aH x0 x1 x2=some r):
 Calls Tryz.prog 217 #[.slice A0 n0 c0,.int .i64 x1,.int .i64 x2] w (fun e w'=> ∃(B0:Option Addr) (N0 D0:Nat),e= .returned (.slice B0 N0 D0)∧N0=r.length∧St w0 w' (Asn.row 125 2 (.slice B0 N0 D0) N0 (r.flatMap jy)::X)):=by
 obtain rfl:=h0
 unfold aH at hM
 refine qD Tryz.func217 Tryz.ntmps217 rfl [(0,.slice A0 x0.length c0),(1,.int .i64 x1),(2,.int .i64 x2)] ⟨rfl,rfl,rfl,trivial⟩ rfl ?_
 intro a hF
 refine wp_seq ?_
 refine wp_region_lit ?_
 refine ao (v:=.slice none 0 0) rfl rfl hF rfl (aA rfl rfl) ?_;clear hF;intro a hF
 refine wpList_nil ?_
 refine wp_seq ?_
 refine wp_region_lit ?_
 refine ao (v:=.slice A0 x0.length c0) rfl rfl hF rfl (ax rfl (hF.ev rfl)) ?_;clear hF;intro a hF
 refine ao (v:=.int .i64 x1) rfl rfl hF rfl (ax rfl (hF.ev rfl)) ?_;clear hF;intro a hF
 refine ao (v:=.int .i64 x2) rfl rfl hF rfl (ax rfl (hF.ev rfl)) ?_;clear hF;intro a hF
 refine ao (v:=.slice A0 x0.length c0) rfl rfl hF rfl (ax rfl (hF.ev rfl)) ?_;clear hF;intro a hF
 refine ao (v:=.int .i64 (x0.length:Int)) rfl rfl hF rfl (md rfl rfl Tryz.underlying28 (hF.ev rfl)) ?_;clear hF;intro a hF
 obtain ⟨hk101,hM⟩:=cI hM
 replace hk101:=rb hk101
 refine ao (v:=.slice (bI ((x0.length:Int).toNat) x1.toNat 2 A0) (x2.toNat-x1.toNat) ((x0.length:Int).toNat-x1.toNat)) rfl rfl hF rfl (Kf rfl Tryz.underlying28 Mf (hF.ev rfl) (hF.ev rfl) (hF.ev rfl) (hF.ev rfl) hk101 (Int.ofNat_le.2 (S.rc 0 rfl).cap)) ?_;clear hF;intro a hF
 refine wpList_nil ?_
 refine wp_seq ?_
 refine wp_seq ?_
 refine wp_region_lit ?_
 refine ao (v:=.int .i64 x1) rfl rfl hF rfl (ax rfl (hF.ev rfl)) ?_;clear hF;intro a hF
 refine ao (v:=.int .i64 x2) rfl rfl hF rfl (ax rfl (hF.ev rfl)) ?_;clear hF;intro a hF
 refine ao (v:=.bool (x1==x2)) rfl rfl hF rfl (Nq (hF.ev rfl) (hF.ev rfl) rfl) ?_;clear hF;intro a hF
 refine wpList_nil ?_
 cases hc102:(x1==x2)
 ·replace hM:=Zt hc102 hM
  refine yF hF rfl hc102 ?_
  refine wp_skip ?_
  refine wp_seq ?_
  refine wp_region_lit ?_
  refine ao (v:=.slice A0 x0.length c0) rfl rfl hF rfl (ax rfl (hF.ev rfl)) ?_;clear hF;intro a hF
  refine ao (v:=.int .i64 (x0.length:Int)) rfl rfl hF rfl (md rfl rfl Tryz.underlying28 (hF.ev rfl)) ?_;clear hF;intro a hF
  refine ao (v:=.int .i64 (x0.length:Int)) rfl rfl hF rfl (aA rfl (hF.ev rfl)) ?_;clear hF;intro a hF
  refine wpList_nil ?_
  refine wp_seq ?_
  obtain ⟨hk103,hM⟩:=cI hM
  replace hk103:=rb hk103
  obtain ⟨hk104,hM⟩:=cI hM
  replace hk104:=rb hk104
  obtain ⟨hk105,hM⟩:=cI hM
  replace hk105:=EU hk105
  have hp106:=(S.rc 0 rfl).cap
  have hq107:=RL (l:=x0) (p:=x1) (q:=x2) rfl (by omega)
  refine LX (D:=[20,21,22,23,24,25,26,0]) (Lr:=(X)) (deps:=(fun |0=> [20] |1=> [21] |2=> [22] |3=> [23] |4=> [24] |5=> [25] |6=> [26] |7=> [0] |_=> [])) (rd:=(fun _=> [])) (zr:=(fun |2=> [6] |5=> [6] |_=> []))
   (φ:=fun i vs=>match i,vs with |0,[v20]=>v20= .slice A0 x0.length c0 |1,[v21]=>v21= .int .i64 x1 |2,[v22]=>v22= .slice (bI c0 ((0:Int).toNat) 2 A0) ((ai x0 0 x1).length) (c0-(0:Int).toNat) |3,[v23]=>v23= .slice A0 x0.length c0 |4,[v24]=>v24= .int .i64 x2 |5,[v25]=>v25= .slice (bI c0 x2.toNat 2 A0) ((ai x0 x2 (x0.length:Int)).length) (c0-x2.toNat) |6,[v26]=>v26= .slice A0 (((ai x0 0 x1)++(ai x0 x2 (x0.length:Int))).length) c0 |7,[v0]=>v0= .slice A0 (((ai x0 0 x1)++(ai x0 x2 (x0.length:Int))).length) c0 |_,_=>True)
   (C:=fun i vs=>match i,vs with |6,[v26]=> [.row 125 2 (.slice A0 (((ai x0 0 x1)++(ai x0 x2 (x0.length:Int))).length) c0) (((ai x0 0 x1)++(ai x0 x2 (x0.length:Int))).length) (((ai x0 0 x1)++(ai x0 x2 (x0.length:Int))).flatMap jy)] |_,_=> [])
   (κ:=(fun _=>none)) (Z:=(fun |6=> [.row 125 2 (.slice A0 x0.length c0) x0.length (x0.flatMap jy)] |_=> [])) mixed hF (by kernel_rfl) (show St w0 _ (Asn.row 125 2 (.slice A0 x0.length c0) x0.length (x0.flatMap jy)::X) from S.selT (M:=[.row 125 2 (.slice A0 x0.length c0) x0.length (x0.flatMap jy)]) 1 [0] rfl rfl rfl) ?_ ?_
  ·refine ⟨?_,?_,?_,?_,?_,?_,?_,?_,trivial⟩
   ·intro a u X' hB hu hp hr hz hl S
    replace S:St w0 u ([]++X'):=S
    exact .inl ⟨rfl,.slice A0 x0.length c0,u,(ax rfl (hF.evU (hu 7 0 rfl rfl) rfl)),rfl,S⟩
   ·intro a u X' hB hu hp hr hz hl S
    replace S:St w0 u ([]++X'):=S
    exact .inl ⟨rfl,.int .i64 x1,u,(ax rfl (hF.evB hB rfl rfl)),rfl,S⟩
   ·intro a u X' hB hu hp hr hz hl S
    replace S:St w0 u ([]++X'):=S
    have e20:sl a 20= .slice A0 x0.length c0:=hp 0 rfl
    have e21:sl a 21= .int .i64 x1:=hp 1 rfl
    exact .inl ⟨rfl,.slice (bI c0 ((0:Int).toNat) 2 A0) ((ai x0 0 x1).length) (c0-(0:Int).toNat),u,(xF (l:=x0) rfl Tryz.underlying28 Mf (kx e20) (kx e21) hk103 rfl (EG (show Ow _ _ _ _ _ _ from S.mem (List.mem_append_right _ (hz 6 (List.mem_of_getElem? (i:=0) rfl) _ (List.mem_of_getElem? (i:=0) rfl))))).cap),rfl,S⟩
   ·intro a u X' hB hu hp hr hz hl S
    replace S:St w0 u ([]++X'):=S
    exact .inl ⟨rfl,.slice A0 x0.length c0,u,(ax rfl (hF.evU (hu 7 0 rfl rfl) rfl)),rfl,S⟩
   ·intro a u X' hB hu hp hr hz hl S
    replace S:St w0 u ([]++X'):=S
    exact .inl ⟨rfl,.int .i64 x2,u,(ax rfl (hF.evB hB rfl rfl)),rfl,S⟩
   ·intro a u X' hB hu hp hr hz hl S
    replace S:St w0 u ([]++X'):=S
    have e23:sl a 23= .slice A0 x0.length c0:=hp 3 rfl
    have e24:sl a 24= .int .i64 x2:=hp 4 rfl
    exact .inl ⟨rfl,.slice (bI c0 x2.toNat 2 A0) ((ai x0 x2 (x0.length:Int)).length) (c0-x2.toNat),u,(vD (l:=x0) rfl Tryz.underlying28 Mf (kx e23) (kx e24) hk104 rfl (EG (show Ow _ _ _ _ _ _ from S.mem (List.mem_append_right _ (hz 6 (List.mem_of_getElem? (i:=0) rfl) _ (List.mem_of_getElem? (i:=0) rfl))))).cap),rfl,S⟩
   ·intro a u X' hB hu hp hr hz hl S
    replace S:St w0 u ([.row 125 2 (.slice A0 x0.length c0) x0.length (x0.flatMap jy)]++X'):=S
    have e22:sl a 22= .slice (bI c0 ((0:Int).toNat) 2 A0) ((ai x0 0 x1).length) (c0-(0:Int).toNat):=hp 2 rfl
    have e25:sl a 25= .slice (bI c0 x2.toNat 2 A0) ((ai x0 x2 (x0.length:Int)).length) (c0-x2.toNat):=hp 5 rfl
    obtain ⟨w',hrun,S'⟩:=S.delrow (i:=0) (P:=Tryz.prog) (ty:=28) (p:=x1) (q:=x2) rfl rfl Hu Hv Tryz.underlying28 Mf (by omega) (by omega) (by omega)
    exact .inl ⟨rfl,_,w',xE rfl (kx e22) (kx e25) hrun,rfl,S'⟩
   ·intro a u X' hB hu hp hr hz hl S
    replace S:St w0 u ([]++X'):=S
    have e26:sl a 26= .slice A0 (((ai x0 0 x1)++(ai x0 x2 (x0.length:Int))).length) c0:=hp 6 rfl
    exact .inl ⟨rfl,.slice A0 (((ai x0 0 x1)++(ai x0 x2 (x0.length:Int))).length) c0,u,(aA rfl (kx e26)),rfl,S⟩
  ·intro a u hB hp S
   obtain ⟨q0,q1,q2,q3,q4,q5,q6,q7,_⟩:=hp
   have e20:sl a 20= .slice A0 x0.length c0:=q0
   have e21:sl a 21= .int .i64 x1:=q1
   have e22:sl a 22= .slice (bI c0 ((0:Int).toNat) 2 A0) ((ai x0 0 x1).length) (c0-(0:Int).toNat):=q2
   have e23:sl a 23= .slice A0 x0.length c0:=q3
   have e24:sl a 24= .int .i64 x2:=q4
   have e25:sl a 25= .slice (bI c0 x2.toNat 2 A0) ((ai x0 x2 (x0.length:Int)).length) (c0-x2.toNat):=q5
   have e26:sl a 26= .slice A0 (((ai x0 0 x1)++(ai x0 x2 (x0.length:Int))).length) c0:=q6
   have e0:sl a 0= .slice A0 (((ai x0 0 x1)++(ai x0 x2 (x0.length:Int))).length) c0:=q7
   replace S:St w0 u (Asn.row 125 2 (.slice A0 (((ai x0 0 x1)++(ai x0 x2 (x0.length:Int))).length) c0) (((ai x0 0 x1)++(ai x0 x2 (x0.length:Int))).length) (((ai x0 0 x1)++(ai x0 x2 (x0.length:Int))).flatMap jy)::X):=S
   clear q0 q1 q2 q3 q4 q5 q6 q7
   have hF:=hF.region hB [(20,.slice A0 x0.length c0),(21,.int .i64 x1),(22,.slice (bI c0 ((0:Int).toNat) 2 A0) ((ai x0 0 x1).length) (c0-(0:Int).toNat)),(23,.slice A0 x0.length c0),(24,.int .i64 x2),(25,.slice (bI c0 x2.toNat 2 A0) ((ai x0 x2 (x0.length:Int)).length) (c0-x2.toNat)),(26,.slice A0 (((ai x0 0 x1)++(ai x0 x2 (x0.length:Int))).length) c0),(0,.slice A0 (((ai x0 0 x1)++(ai x0 x2 (x0.length:Int))).length) c0)] (Gl ⟨e20,e21,e22,e23,e24,e25,e26,e0,trivial⟩) rfl
   clear hB e20 e21 e22 e23 e24 e25 e26 e0
   refine wp_seq ?_
   refine wp_region_lit ?_
   refine ao (v:=.slice A0 (((ai x0 0 x1)++(ai x0 x2 (x0.length:Int))).length) c0) rfl rfl hF rfl (ax rfl (hF.ev rfl)) ?_;clear hF;intro a hF
   refine ao (v:=.slice A0 (((ai x0 0 x1)++(ai x0 x2 (x0.length:Int))).length) c0) rfl rfl hF rfl (ax rfl (hF.ev rfl)) ?_;clear hF;intro a hF
   refine ao (v:=.int .i64 ((((ai x0 0 x1)++(ai x0 x2 (x0.length:Int))).length):Int)) rfl rfl hF rfl (md rfl rfl Tryz.underlying28 (hF.ev rfl)) ?_;clear hF;intro a hF
   refine ao (v:=.int .i64 (x0.length:Int)) rfl rfl hF rfl (ax rfl (hF.ev rfl)) ?_;clear hF;intro a hF
   refine ao (v:=.slice (bI c0 (((((ai x0 0 x1)++(ai x0 x2 (x0.length:Int))).length):Int).toNat) 2 A0) ((x0.length:Int).toNat-((((ai x0 0 x1)++(ai x0 x2 (x0.length:Int))).length):Int).toNat) (c0-((((ai x0 0 x1)++(ai x0 x2 (x0.length:Int))).length):Int).toNat)) rfl rfl hF rfl (Gd rfl Tryz.underlying28 Mf (hF.ev rfl) (hF.ev rfl) (hF.ev rfl) ⟨Int.natCast_nonneg _,Int.ofNat_le.2 hq107,Int.ofNat_le.2 hp106⟩) ?_;clear hF;intro a hF
   obtain ⟨w',hrun,S'⟩:=S.clear (i:=0) (P:=Tryz.prog) (hi:=(x0.length:Int)) rfl rfl Hu Tryz.underlying28 VH rfl rfl ⟨Int.ofNat_le.2 hq107,Int.ofNat_le.2 hp106⟩
   refine HD rfl rfl rfl (hF.ev rfl) hrun ?_
   clear S hrun;have S:=S';clear S';generalize w'=u at S ⊢
   refine wpList_nil ?_
   refine wp_seq ?_
   refine wp_region_lit ?_
   refine ao (v:=.slice A0 (((ai x0 0 x1)++(ai x0 x2 (x0.length:Int))).length) c0) rfl rfl hF rfl (ax rfl (hF.ev rfl)) ?_;clear hF;intro a hF
   refine ao (v:=.slice A0 (((ai x0 0 x1)++(ai x0 x2 (x0.length:Int))).length) c0) rfl rfl hF rfl (aA rfl (hF.ev rfl)) ?_;clear hF;intro a hF
   refine wpList_nil ?_
   refine wp_ret ?_
   repeat with_reducible (first |refine ej ?_ |refine mV ?_ |refine mU ?_)
   refine iX (.inl rfl) hF rfl (ib (hF.ev rfl)) ?_
   obtain rfl:=Option.some.inj hM
   exact ⟨A0,(((ai x0 0 x1)++(ai x0 x2 (x0.length:Int))).length),c0,rfl,rfl,S.selT (M:=[.row 125 2 (.slice A0 (((ai x0 0 x1)++(ai x0 x2 (x0.length:Int))).length) c0) (((ai x0 0 x1)++(ai x0 x2 (x0.length:Int))).length) (((ai x0 0 x1)++(ai x0 x2 (x0.length:Int))).flatMap jy)]) 1 [0] rfl rfl rfl⟩
 ·replace hM:=Zu hc102 hM
  refine yG hF rfl hc102 ?_
  refine wp_seq ?_
  refine wp_region_lit ?_
  refine ao (v:=.slice A0 x0.length c0) rfl rfl hF rfl (ax rfl (hF.ev rfl)) ?_;clear hF;intro a hF
  refine ao (v:=.slice A0 x0.length c0) rfl rfl hF rfl (aA rfl (hF.ev rfl)) ?_;clear hF;intro a hF
  refine wpList_nil ?_
  refine wp_ret ?_
  repeat with_reducible (first |refine ej ?_ |refine mV ?_ |refine mU ?_)
  refine iX (.inl rfl) hF rfl (ib (hF.ev rfl)) ?_
  obtain rfl:=Option.some.inj hM
  exact ⟨A0,x0.length,c0,rfl,rfl,S.selT (M:=[.row 125 2 (.slice A0 x0.length c0) x0.length (x0.flatMap jy)]) 1 [0] rfl rfl rfl⟩
def cO:Ctr:=⟨217,[.o (.sl .tk 125 Af),AB,AB],[.o BI],true,fun x=>aH x.1 x.2.1 x.2.2⟩
theorem lL:aL Tryz.prog cO:=⟨ads,fun x res hm e w0 w X _ hp hS=>(lK (w:=w) (w0:=w0) (X:=X) (A0:=e.a 0) (n0:=x.1.length) (c0:=e.c 0) rfl hS hm).mono (by
 rintro en w' ⟨B,N,D,rfl,hN,S⟩
 subst hN
 exact ⟨_,_,rfl,⟨[_],[],[],[_],[],[],rfl,rfl,⟨_,[],_,[],[_],[],rfl,rfl,rfl,⟨res,B,D,rfl,rfl,rfl⟩,rfl,rfl,rfl⟩,⟨rfl,rfl⟩,⟨[],[],[],[],rfl,rfl,⟨rfl,rfl⟩,⟨[],[],[],[],rfl,rfl,⟨rfl,rfl⟩,⟨[],[],[],[],rfl,rfl,⟨rfl,rfl⟩,⟨rfl,rfl⟩⟩⟩⟩⟩,S⟩)⟩
def DM:Ctr:=⟨183,[AE,Bh],[Cr,AH],false,fun x=>qj x.1 x.2.1 x.2.2.1 x.2.2.2.1 x.2.2.2.2.1 x.2.2.2.2.2⟩
theorem KB:aL Tryz.prog DM:=ck [mi,oH,xW,bE,cO] [.cell 4 30,.tmp 5] (.q .z (.q Ae (.q .z (.q Ae (.q .z (.q (.q .z (.b (.q (.q .z (.cut ⟨[AZ,Au,Bi,AD,BB,(39,Ac),(40,Cs)],[(7,Bw),(6,AT),(4,AT),(3,AT)],[]⟩ [] Ab)) (.cut BC [] (.q .z (.q (.q .z (.cut ⟨[AZ,Au,Bi,AD,BB,(39,Ac),(51,Cs)],[(7,Bw),(6,AT),(4,AT),(3,AT)],[]⟩ [] Ab)) (.cut BE [] (.q .z (.q .z (.cut BF [] (.q .z (.q .z (.cut BF [] BY))))))))))))) Ab)))))) ⟨pS,tZ,HJ,cS,lL,trivial⟩ ac2 Tryz.func183 Tryz.ntmps183 rfl rfl rfl fun _=>by kernel_rfl
def xY:Ctr:=⟨119,[.bx 33 Cy,Bh],BH,true,fun x=>nD x.1 x.2.1 x.2.2.1 x.2.2.2.1 x.2.2.2.2.1 x.2.2.2.2.2.1 x.2.2.2.2.2.2.1 x.2.2.2.2.2.2.2.1 x.2.2.2.2.2.2.2.2.1 x.2.2.2.2.2.2.2.2.2⟩
theorem HM:aL Tryz.prog xY:=ck [ju,od,aS,oc,DM,vz] [.tmp 4] (.q .z (.q .z (.q (.q .z (.b (.q .z (.q (.q Ae Bz) (.q .z (.q (.q Ae Al) (.q .z (.cut ⟨[Ba,AZ,Au],[(3,AT),(4096,Am)],[]⟩ BO CA)))))))) Bz))) ⟨qE,vM,bq,vL,KB,DJ,trivial⟩ ab6 Tryz.func119 Tryz.ntmps119 rfl rfl rfl fun _=>by kernel_rfl
def tw:Ctr:=⟨53,[Ad,Bh],[Aj,AH],false,fun x=>lT x.1 x.2.1 x.2.2.1 x.2.2.2.1 x.2.2.2.2.1 x.2.2.2.2.2.1 x.2.2.2.2.2.2.1 x.2.2.2.2.2.2.2.1 x.2.2.2.2.2.2.2.2.1 x.2.2.2.2.2.2.2.2.2⟩
theorem yK:aL Tryz.prog tw:=ck [ce,eO,cJ,xY] [.cell 4 33,.tmp 5] (.q .z (.q Ae (.q .z (.q (.q (.cut ⟨[Av,Au,Bi,AD,(23,Cs)],[(6,Aq),(4,Am),(2,Am)],[]⟩ [] .z) BY) Ab)))) ⟨dz,jx,eM,HM,trivial⟩ afw Tryz.func53 Tryz.ntmps53 rfl rfl rfl fun _=>by kernel_rfl
def sc:Ctr:=⟨113,[AE],[CB],false,fun x=>iv x.1 x.2.1 x.2.2⟩
theorem Dz:aL Tryz.prog sc:=ck [] [.tmp 2] (.q .z (.q .z (.q (.q .z (.cut CY [] (.b (.lp ⟨[Av,Cf,BB,Bc,(9,Ag)],[],[]⟩ AY)))) Ab))) trivial ab1 Tryz.func113 Tryz.ntmps113 rfl rfl rfl fun _=>by kernel_rfl
def xZ:Ctr:=⟨115,[AB,AO,.o .b],[CB],false,fun x=>nE x.1 x.2.1 x.2.2⟩
theorem HN:aL Tryz.prog xZ:=ck [] [.tmp 6] (.q .z (.q .z (.q (.q .z (.cut ⟨[AD,(7,AM)],[],[]⟩ [] (.b (.lp ⟨[Ba,Av,AD,(7,AM),CC,De,(12,Ag)],[],[]⟩ (.q .z (.q Ab (.q (.b (.q .z (.q .z (.cut ⟨[Ba,Av,AD,(7,AM),CC,De,BU],[],[]⟩ [] Ab)))) .z))))))) Ab))) trivial ab3 Tryz.func115 Tryz.ntmps115 rfl rfl rfl fun _=>by kernel_rfl
def zg:Ctr:=⟨46,[AB,AB],[CI],false,fun x=>pe x.1 x.2⟩
theorem IU:aL Tryz.prog zg:=ck [] [.tmp 4] (.q .z (.q .z (.q (.q .z (.cut ⟨[Au,(5,Cj)],[],[]⟩ [] (.b (.lp ⟨[Ba,Au,(5,Cj),CC,(11,Ag)],[],[]⟩ AY)))) Ab))) trivial afp Tryz.func46 Tryz.ntmps46 rfl rfl rfl fun _=>by kernel_rfl
def tz:Ctr:=⟨169,[Ai,AO],CV,false,fun x=>lU x.1 x.2.1 x.2.2⟩
theorem yL:aL Tryz.prog tz:=ck [rj,oK] [.tmp 4] (.q .z (.q .z (.q (.q .z (.cut ⟨[Au,(5,AF)],[],[]⟩ [] (.b (.lp CM (.q .z (.q Ab (.q (.b (.q .z (.q .z (.cut CN [] Ab)))) .z))))))) Ab))) ⟨xM,ud,trivial⟩ acR Tryz.func169 Tryz.ntmps169 rfl rfl rfl fun _=>by kernel_rfl
def vA:Ctr:=⟨110,Bp,[.g [Ap,Ap,Ap,Ap,Ap,Ap,Ap,Ap,Ap,Ap,Ap,Ap,Ap,Ap,Ap,Ap]],false,fun x=>nj x.1 x.2.1 x.2.2.1 x.2.2.2⟩
theorem DK:aL Tryz.prog vA:=ck [tz,fK] [.cell 6 142] (.q .z (.q .z (.q .z (.q (.q .z (.cut ⟨[AD,BB],[(7,CF),(6,AS)],[]⟩ [] (.b (.lp ⟨[AD,BB,(8,AF),(15,Ac),(16,Ac),(17,Ag)],[(7,CF),(6,AS)],[]⟩ (.q .z (.q Ab (.q (.b Bz) .z))))))) Ab)))) ⟨yL,kM,trivial⟩ abY Tryz.func110 Tryz.ntmps110 rfl rfl rfl fun _=>by kernel_rfl
def oI:Ctr:=⟨47,Bp,BS,false,fun x=>gc x.1 x.2.1 x.2.2.1 x.2.2.2⟩
theorem ub:aL Tryz.prog oI:=ck [vA] [.tmp 6] (.q .z (.q .z (.q (.q .z (.cut ⟨[AD,CE],[],[]⟩ [] (.b (.lp ⟨[AD,BB,CE,(16,Ac),(17,Ag)],[(7,AS)],[]⟩ (.q .z (.q Ab (.q (.b (.q .z (.q .z (.cut ⟨[AD,BB,CE,(16,Ac),(17,Ac)],[(7,AS)],[]⟩ [] Ab)))) .z))))))) Ab))) ⟨DK,trivial⟩ afq Tryz.func47 Tryz.ntmps47 rfl rfl rfl fun _=>by kernel_rfl
def zc:Ctr:=⟨48,[AO,AO],CV,false,fun x=>pb x.1 x.2⟩
theorem IQ:aL Tryz.prog zc:=ck [] [.tmp 4] (.q .z (.q Ae (.q .z (.q (.q .z (.cut BN [] (.b (.lp ⟨[Ba,AA,Au,Db,Cg,(14,Ag)],[],[]⟩ (.q .z (.q Ab (.q (.b (.q .z (.q .z (.cut ⟨[Ba,AA,Au,Db,Cg,(14,Ac)],[],[]⟩ [] Ab)))) .z))))))) Ab)))) trivial afr Tryz.func48 Tryz.ntmps48 rfl rfl rfl fun _=>by kernel_rfl
def uU:Ctr:=⟨207,[Cm,AB],BS,false,fun x=>kW x.1 x.2.1 x.2.2.1 x.2.2.2.1 x.2.2.2.2.1 x.2.2.2.2.2⟩
theorem Fe:aL Tryz.prog uU:=ck [oG] [.tmp 4] Al ⟨tY,trivial⟩ ado Tryz.func207 Tryz.ntmps207 rfl rfl rfl fun _=>by kernel_rfl
def oJ:Ctr:=⟨173,[Cm,As],CV,false,fun x=>gg x.1 x.2.1 x.2.2.1 x.2.2.2.1 x.2.2.2.2.1 x.2.2.2.2.2⟩
theorem uc:aL Tryz.prog oJ:=ck [uU] [.tmp 4] (.q .z (.q .z (.q .z (.q (.q .z (.cut ⟨[Au,(5,AF)],[],[]⟩ [] (.b (.lp ⟨[AA,Av,Au,(5,AF),(6,AF),Cd],[(2,Bq)],[]⟩ (.q Al (.q (.b (.q .z (.q .z (.q .z (.q .z (.cut ⟨[AA,Av,Au,(5,AF),(6,AF),BB],[(2,Bq)],[]⟩ [] BY)))))) .z)))))) Ab)))) ⟨Fe,trivial⟩ acV Tryz.func173 Tryz.ntmps173 rfl rfl rfl fun _=>by kernel_rfl
def uV:Ctr:=⟨174,[Cm,As,AB],BS,false,fun x=>kX x.1 x.2.1 x.2.2.1 x.2.2.2.1 x.2.2.2.2.1 x.2.2.2.2.2.1 x.2.2.2.2.2.2⟩
theorem Ff:aL Tryz.prog uV:=ck [] [.tmp 6] (.q .z (.q .z (.q (.q .z (.cut ⟨[AD,Cd],[],[]⟩ [] (.b (.lp ⟨[AA,Av,AD,Cd,De,BU,(13,Ag)],[],[]⟩ (.q .z (.q Ab (.q (.b (.q .z (.q .z (.cut ⟨[AA,Av,AD,Cd,De,BU,Cg],[],[]⟩ [] Ab)))) .z))))))) Ab))) trivial acW Tryz.func174 Tryz.ntmps174 rfl rfl rfl fun _=>by kernel_rfl
def wt:Ctr:=⟨112,[Cm,As],BH,false,fun x=>mq x.1 x.2.1 x.2.2.1 x.2.2.2.1 x.2.2.2.2.1 x.2.2.2.2.2⟩
theorem Gx:aL Tryz.prog wt:=ck [oJ,uV] [.tmp 4] (.q .z (.q (.q .z (.cut ⟨[AA,Av,Au],[(2,Bq)],[]⟩ BO (.b (.lp ⟨[AA,Av,Au,De,BU,(13,Ag)],[(2,Bq)],[]⟩ AJ)))) (.q (.q .z (.cut BM BO (.b (.lp ⟨[AA,Av,Au,(28,Ac),(29,Ac),(30,Ag)],[(2,Bq)],[]⟩ AJ)))) Ab))) ⟨uc,Ff,trivial⟩ ab0 Tryz.func112 Tryz.ntmps112 rfl rfl rfl fun _=>by kernel_rfl
def zd:Ctr:=⟨49,Bp,BH,false,fun x=>pc x.1 x.2.1 x.2.2.1 x.2.2.2⟩
theorem IR:aL Tryz.prog zd:=ck [qi,wt] [.tmp 6] Bz ⟨vu,Gx,trivial⟩ afs Tryz.func49 Tryz.ntmps49 rfl rfl rfl fun _=>by kernel_rfl
def wj:Ctr:=⟨12,[Ai,AO,As,BQ],[CI,AH],false,fun x=>mm x.1 x.2.1 x.2.2.1 x.2.2.2.1 x.2.2.2.2⟩
theorem Gp:aL Tryz.prog wj:=ck [kA,cJ,zg,oI,zc,zd] [.tmp 8,.tmp 9] (.q .z (.q Ae (.q .z (.q (.q .z (.cut ⟨[AA,Av,Au,Bc,BV,(10,Ag)],CS,[]⟩ [] (.b (.lp ⟨[AA,Av,Au,Bc,BV,(10,Ag),(25,Ac),(26,Ac),(27,Ag)],CS,[]⟩ (.q .z (.q Ab (.q (.b (.q .z (.q .z (.cut ⟨[AA,Av,Au,Bc,BV,(10,Ag),(25,Ac),(26,Ac),(27,Ac)],CS,[]⟩ [] Ab)))) .z))))))) (.q .z (.q .z (.q (.q .z (.cut ⟨[Bc,BV,(13,.z 4 .b)],[],[]⟩ [] (.b (.lp ⟨[AA,Av,Au,Bc,BV,CC,(13,.z 4 .b),(14,Ag),(15,Ag),(42,Ac),(43,Ag)],CS,[]⟩ (.q .z (.q Ab (.q (.cut BK [] (.b (.q .z (.q Al (.q .z (.q .z (.q Al (.q .z (.q .z (.cut BK [] Ab)))))))))) .z))))))) Ab))))))) ⟨nq,eM,IU,ub,IQ,IR,trivial⟩ ae1 Tryz.func12 Tryz.ntmps12 rfl rfl rfl fun _=>by kernel_rfl
def zf:Ctr:=⟨175,[AO,AO],[BZ],false,fun x=>pd x.1 x.2⟩
theorem IT:aL Tryz.prog zf:=ck [] [.tmp 4] (.q .z (.q Ae (.q .z (.q (.q .z (.cut ⟨[Au,(5,AP),(6,AP)],[],[]⟩ [] (.b (.lp ⟨[Ba,AA,Au,(5,AP),(6,AP),(19,Ac),(20,Ag)],[],[]⟩ (.q .z (.q Ab (.q (.b (.q .z (.b (.q .z (.cut ⟨[Ba,AA,Au,(5,AP),(6,AP),(19,Ac),(20,Ac)],[],[]⟩ [] (.q .z (.q .z (.cut ⟨[Ba,AA,Au,Bi,(6,AP),(19,Ac),(20,Ac)],[],[]⟩ [] Ab)))))))) .z))))))) Ab)))) trivial acX Tryz.func175 Tryz.ntmps175 rfl rfl rfl fun _=>by kernel_rfl
def sb:Ctr:=⟨116,[Ai,AO,As,BQ],[BZ,AH],false,fun x=>iq x.1 x.2.1 x.2.2.1 x.2.2.2.1 x.2.2.2.2⟩
theorem Dy:aL Tryz.prog sb:=ck [wj,zf] [.tmp 8,.tmp 9] Ca ⟨Gp,IT,trivial⟩ ab4 Tryz.func116 Tryz.ntmps116 rfl rfl rfl fun _=>by kernel_rfl
def wl:Ctr:=⟨50,[Ad],[CB],false,fun x=>ja x.1 x.2.1 x.2.2.1 x.2.2.2.1 x.2.2.2.2.1 x.2.2.2.2.2.1 x.2.2.2.2.2.2⟩
theorem Gq:aL Tryz.prog wl:=ck [ce,sc,ig,xZ,sb] [.tmp 2] (.q .z (.q Ae (.q .z (.q .z (.q (.q .z (.cut ⟨[AA,Av,Cf,(4,Cj)],BJ,[]⟩ [] (.b (.lp ⟨[AA,Av,Cf,(4,Cj),(25,Ac),(26,Ac),(27,Ag)],BJ,[]⟩ (.q .z (.q Ab (.q (.b (.q .z (.q (.q .z (.cut ⟨[AA,Av,Cf,(4,Cj),AD,(25,Ac),(26,Ac),(27,Ac)],BJ,[]⟩ [] BY)) (.q .z (.cut ⟨[AA,Av,Cf,Au,(25,Ac),(26,Ac),(27,Ac)],BJ,[]⟩ [] (.b (.lp ⟨[AA,Av,Cf,Au,AD,(25,Ac),(26,Ac),(27,Ac),(44,Ac),(45,Ag)],BJ,[]⟩ AY))))))) .z))))))) (.q .z (.q .z (.q (.q .z (.cut CY [] (.b (.lp ⟨[Av,Cf,(71,Ac),(72,Ac),(73,Ag)],[],[]⟩ (.q .z (.q Ab (.q (.b (.q .z (.q .z (.q (.q .z (.cut ⟨[Av,AZ,BU,(13,Ag),(71,Ac),(72,Ac),(73,Ac)],[(12,Bw)],[]⟩ [] Ab)) .z)))) .z))))))) Ab)))))))) ⟨dz,Dz,na,HN,Dy,trivial⟩ aft Tryz.func50 Tryz.ntmps50 rfl rfl rfl fun _=>by kernel_rfl
def xX:Ctr:=⟨120,[Ad,.o (.sl .ro 86 Aw)],[Aj,AR],false,fun x=>nC x.1 x.2.1 x.2.2.1 x.2.2.2.1 x.2.2.2.2.1 x.2.2.2.2.2.1 x.2.2.2.2.2.2.1 x.2.2.2.2.2.2.2⟩
theorem HK:aL Tryz.prog xX:=ck [ce,eO,tw] [.cell 4 33,.tmp 5] (.q .z (.q Ae (.q .z (.q (.q .z (.cut ⟨[Au,Bi,AD,Cd],Cb,[]⟩ [] (.b (.lp ⟨[Au,Bi,AD,Cd,(18,Ac),(19,Ac),(20,Ag)],Cb,[]⟩ (.q .z (.q Ab (.q (.b (.q .z (.q .z (.q .z (.cut ⟨[Au,Bi,AD,Cd,(18,Ac),(19,Ac),(20,Ac)],Cb,[]⟩ [] BY))))) .z))))))) Ab)))) ⟨dz,jx,yK,trivial⟩ ab7 Tryz.func120 Tryz.ntmps120 rfl rfl rfl fun _=>by kernel_rfl
def wq:Ctr:=⟨54,[Ad],[Aj],false,fun x=>mn x.1 x.2.1 x.2.2.1 x.2.2.2.1 x.2.2.2.2.1 x.2.2.2.2.2.1 x.2.2.2.2.2.2⟩
theorem Gw:aL Tryz.prog wq:=ck [wl,xX] [.cell 2 33] Bz ⟨Gq,HK,trivial⟩ afx Tryz.func54 Tryz.ntmps54 rfl rfl rfl fun _=>by kernel_rfl
def xU:Ctr:=⟨121,[Ai,AO,As,AB],BS,false,fun x=>nz x.1 x.2.1 x.2.2.1 x.2.2.2.1 x.2.2.2.2⟩
theorem HH:aL Tryz.prog xU:=ck [qi,cJ,oJ] [.tmp 8] Ca ⟨vu,eM,uc,trivial⟩ ab8 Tryz.func121 Tryz.ntmps121 rfl rfl rfl fun _=>by kernel_rfl
def yc:Ctr:=⟨124,[BQ],[Cc],false,fun x=>dF x⟩
theorem HQ:aL Tryz.prog yc:=ck [oV,tJ] [.tmp 2] (.q .z (.q Ae (.q .z (.q (.q .z (.cut ⟨[Av,(3,BX)],[],[]⟩ [] (.b (.lp ⟨[Av,(3,BX),BU,Cg,(14,Ag)],[],[]⟩ AY)))) Ab)))) ⟨sP,yQ,trivial⟩ acb Tryz.func124 Tryz.ntmps124 rfl rfl rfl fun _=>by kernel_rfl
def uN:Ctr:=⟨185,Bp,CV,false,fun x=>kO x.1 x.2.1 x.2.2.1 x.2.2.2⟩
theorem EY:aL Tryz.prog uN:=ck [kA,tz,vA,fK] [.tmp 6] (.q .z (.q Ae (.q .z (.q .z (.q (.q .z (.cut ⟨[AD,(9,Az)],[],[]⟩ [] (.b (.lp ⟨[AD,Df,Bc,(9,Az),(24,Ac),(25,Ag)],[(8,AS)],[]⟩ (.q .z (.q Ab (.q (.b (.q .z (.q .z (.cut ⟨[AD,BB,Bc,(9,Az),(24,Ac),(25,Ac)],[(8,AS)],[]⟩ [] Ab)))) .z))))))) Ab))))) ⟨nq,yL,DK,kM,trivial⟩ ac3 Tryz.func185 Tryz.ntmps185 rfl rfl rfl fun _=>by kernel_rfl
def oN:Ctr:=⟨219,[BQ,AB],BS,false,fun x=>ez x.1 x.2⟩
theorem xk:aL Tryz.prog oN:=ck [] [.tmp 4] (.q .z (.q (.q .z (.cut BM BO (.b (.lp ⟨[Ba,AA,Au,BB,CE],[],[]⟩ AJ)))) Ab)) trivial adt Tryz.func219 Tryz.ntmps219 rfl rfl rfl fun _=>by kernel_rfl
def mR:Ctr:=⟨186,[BQ,AB],BH,false,fun x=>cD x.1 x.2⟩
theorem tU:aL Tryz.prog mR:=ck [oN] [.tmp 4] Al ⟨xk,trivial⟩ ac4 Tryz.func186 Tryz.ntmps186 rfl rfl rfl fun _=>by kernel_rfl
def wn:Ctr:=⟨125,[Ad],CV,false,fun x=>eJ x.1 x.2.1 x.2.2.1 x.2.2.2.1 x.2.2.2.2.1 x.2.2.2.2.2.1 x.2.2.2.2.2.2⟩
theorem Gu:aL Tryz.prog wn:=ck [ce,uN,mR] [.tmp 2] (.q .z (.q Ae (.q .z (.q .z (.q (.q .z (.cut ⟨[Av,(4,Az)],[],[]⟩ [] (.b (.lp ⟨[Av,AZ,(4,Az),(19,Ac),(20,Ac),(21,Ag)],[],[]⟩ (.q .z (.q Ab (.q (.b (.q .z (.q .z (.cut ⟨[Av,AZ,(4,Az),(19,Ac),(20,Ac),(21,Ac)],[],[]⟩ [] Ab)))) .z))))))) Ab))))) ⟨dz,EY,tU,trivial⟩ acd Tryz.func125 Tryz.ntmps125 rfl rfl rfl fun _=>by kernel_rfl
def uP:Ctr:=⟨14,Bp,BS,false,fun x=>fV x.1 x.2.1 x.2.2.1 x.2.2.2⟩
theorem Fa:aL Tryz.prog uP:=ck [kA,oI] [.tmp 6] AL ⟨nq,ub,trivial⟩ ae2 Tryz.func14 Tryz.ntmps14 rfl rfl rfl fun _=>by kernel_rfl
def wm:Ctr:=⟨123,[AO],[Cc],false,fun x=>jb x⟩
theorem Gs:aL Tryz.prog wm:=ck [] [.tmp 2] (.q .z (.q Ae (.q .z (.q (.q .z (.cut ⟨[Av,(3,CG)],[],[]⟩ [] (.b (.lp ⟨[Av,(3,CG),BU,Cg,(14,Ag)],[],[]⟩ (.q .z (.q Ab (.q (.b (.q .z (.q .z (.q .z (.cut ⟨[Av,(3,CG),BU,Cg,(14,Ac)],[],[]⟩ [] Ab))))) .z))))))) Ab)))) trivial aca Tryz.func123 Tryz.ntmps123 rfl rfl rfl fun _=>by kernel_rfl
def sd:Ctr:=⟨55,[Ad,AW],[Cc],false,fun x=>iz x.1 x.2.1 x.2.2.1 x.2.2.2.1 x.2.2.2.2.1 x.2.2.2.2.2.1 x.2.2.2.2.2.2.1 x.2.2.2.2.2.2.2⟩
theorem DA:aL Tryz.prog sd:=ck [uT,cJ,xU,oV,tJ,wm,uP,wn,yc,ze] [.tmp 4] (.q .z (.q (.q .z (.q (.q .z (.q (.b Ch) Ab)) .z)) (.q (.q .z (.b Bl)) Ab))) ⟨ua,eM,HH,sP,yQ,Gs,Fa,Gu,HQ,IS,trivial⟩ afy Tryz.func55 Tryz.ntmps55 rfl rfl rfl fun _=>by kernel_rfl
def wo:Ctr:=⟨16,[Ad,Cv],[Aj,Cc],false,fun x=>jc x.1 x.2.1 x.2.2.1 x.2.2.2.1 x.2.2.2.2.1 x.2.2.2.2.2.1 x.2.2.2.2.2.2.1 x.2.2.2.2.2.2.2⟩
theorem Gv:aL Tryz.prog wo:=ck [ce,yy,ye,tw,wq,eO,sd] [.cell 4 33,.tmp 5] (.q .z (.q Ae (.q .z (.q (.q .z (.q .z (.q AL .z))) CX)))) ⟨dz,If,HR,yK,Gw,jx,DA,trivial⟩ ae3 Tryz.func16 Tryz.ntmps16 rfl rfl rfl fun _=>by kernel_rfl
def FF:Ctr:=⟨56,[Cv,.o (.int .u8)],[Cq],false,fun x=>ss x.1 x.2⟩
theorem My:aL Tryz.prog FF:=ck [] [.tmp 4] (.q .z (.q .z (.q .z (.q (.q .z (.cut ⟨[Ba,Au,(5,Cz),(6,Ag)],[],[]⟩ [] (.b (.lp ⟨[Ba,AA,Au,(5,Cz),(6,Ag),Cd],[],[]⟩ (.q Al (.q (.b (.q .z (.cut ⟨[Ba,AA,Au,(5,Cz),(6,Ag),BB],[],[]⟩ [] BY))) .z)))))) Ab)))) trivial afz Tryz.func56 Tryz.ntmps56 rfl rfl rfl fun _=>by kernel_rfl
def Eb:Ctr:=⟨126,[Cv],BS,false,fun x=>nm x⟩
theorem KP:aL Tryz.prog Eb:=ck [bj] [.tmp 2] (.q .z (.q Ae (.q .z (.q (.q .z (.cut ⟨[Av,(3,Ag)],[],[]⟩ BO (.b (.lp ⟨[Ba,Av,(3,Ag),CP],[],[]⟩ (.q Al (.q (.b CA) .z)))))) Ab)))) ⟨bu,trivial⟩ ace Tryz.func126 Tryz.ntmps126 rfl rfl rfl fun _=>by kernel_rfl
def ve:Ctr:=⟨57,[AW],[AK,AH],false,fun x=>lF x⟩
theorem Fl:aL Tryz.prog ve:=ck [Eb] [.tmp 2,.tmp 3] (.q .z (.q .z (.q .z (.q (.q .z (.cut ⟨[Av,AZ,(4,Az),(5,Cs)],[],[]⟩ [] (.b (.lp ⟨[Ba,Av,AZ,(4,Az),(5,Cs),(6,Ag)],[],[]⟩ Bv)))) Ab)))) ⟨KP,trivial⟩ afA Tryz.func57 Tryz.ntmps57 rfl rfl rfl fun _=>by kernel_rfl
def zD:Ctr:=⟨58,[Cv],[AR,AR],false,fun x=>py x⟩
theorem Jm:aL Tryz.prog zD:=ck [] [.tmp 2,.tmp 3] (.q .z (.q (.q .z (.b (.q .z (.q Ab (.q .z (.q Ab (.q .z (.q Ab Bl)))))))) Ab)) trivial afB Tryz.func58 Tryz.ntmps58 rfl rfl rfl fun _=>by kernel_rfl
def zy:Ctr:=⟨135,[Ai],[Cc],false,fun x=>pp x.1 x.2⟩
theorem Jh:aL Tryz.prog zy:=ck [kB,kC] [.tmp 2] (.q .z (.q Ae (.q .z (.q (.q .z (.cut Ce [] (.b (.lp ⟨[AA,Av,(3,.o .s),CP],[(1,Bw)],[]⟩ Bv)))) Ab)))) ⟨nr,nu,trivial⟩ acn Tryz.func135 Tryz.ntmps135 rfl rfl rfl fun _=>by kernel_rfl
def zE:Ctr:=⟨133,[BQ],[Cc],false,fun x=>mb x⟩
theorem Jo:aL Tryz.prog zE:=ck [kC] [.tmp 2] (.q .z (.q .z (.q (.q .z (.cut Ce [] (.b (.lp Dl (.q Al (.q (.b (.q Cu .z)) .z)))))) CX))) ⟨nu,trivial⟩ acl Tryz.func133 Tryz.ntmps133 rfl rfl rfl fun _=>by kernel_rfl
def oP:Ctr:=⟨191,[Ai,AO,As,AB],BS,false,fun x=>gG x.1 x.2.1 x.2.2.1 x.2.2.2.1 x.2.2.2.2⟩
theorem uf:aL Tryz.prog oP:=ck [lR,bj,oR] [.tmp 8] Bf ⟨ob,bu,sM,trivial⟩ ac9 Tryz.func191 Tryz.ntmps191 rfl rfl rfl fun _=>by kernel_rfl
def uX:Ctr:=⟨193,Bp,CV,false,fun x=>lw x.1 x.2.1 x.2.2.1 x.2.2.2⟩
theorem Fh:aL Tryz.prog uX:=ck [lR,oP] [.tmp 6] (.q .z (.q .z (.q (.q .z (.cut Ck [] Bn)) Ab))) ⟨ob,uf,trivial⟩ adb Tryz.func193 Tryz.ntmps193 rfl rfl rfl fun _=>by kernel_rfl
def wM:Ctr:=⟨134,[Ad],CV,false,fun x=>jn x.1 x.2.1 x.2.2.1 x.2.2.2.1 x.2.2.2.2.1 x.2.2.2.2.2.1 x.2.2.2.2.2.2⟩
theorem GN:aL Tryz.prog wM:=ck [cf,uX,ml] [.tmp 2] (.q .z (.q .z (.q Ae (.q .z (.q (.q .z (.cut ⟨[Av,(3,Az)],[],[]⟩ [] (.b (.lp ⟨[AA,Av,(3,Az),Au,CO],BJ,[]⟩ (.q Al (.q (.b (.q .z (.cut ⟨[AA,Av,(3,Az),Au,Bi],BJ,[]⟩ [] Ab))) .z)))))) Ab))))) ⟨dA,Fh,ox,trivial⟩ acm Tryz.func134 Tryz.ntmps134 rfl rfl rfl fun _=>by kernel_rfl
def oQ:Ctr:=⟨192,[Ai,AO,As,AB],BS,false,fun x=>gH x.1 x.2.1 x.2.2.1 x.2.2.2.1 x.2.2.2.2⟩
theorem ug:aL Tryz.prog oQ:=ck [lR,bj,oR] [.tmp 8] Bf ⟨ob,bu,sM,trivial⟩ ada Tryz.func192 Tryz.ntmps192 rfl rfl rfl fun _=>by kernel_rfl
def oT:Ctr:=⟨132,Bp,BS,false,fun x=>cj x.1 x.2.1 x.2.2.1 x.2.2.2⟩
theorem ui:aL Tryz.prog oT:=ck [lR,oP,oQ] [.tmp 6] (.q .z (.q Ae (.q .z (.q (.q .z (.cut ⟨[AD,Cd],[],[]⟩ [] (.b (.lp ⟨[AA,Av,AZ,AD,Cd,CE],AI,[]⟩ (.q Al (.q (.b (.q .z (.cut ⟨[AA,Av,AZ,AD,Cd,Bc],AI,[]⟩ [] Ab))) .z)))))) Ab)))) ⟨ob,uf,ug,trivial⟩ ack Tryz.func132 Tryz.ntmps132 rfl rfl rfl fun _=>by kernel_rfl
def wL:Ctr:=⟨131,[AO],[Cc],false,fun x=>mH x⟩
theorem GM:aL Tryz.prog wL:=ck [] [.tmp 2] (.q .z (.q .z (.q (.q .z (.cut Ce [] (.b (.lp Dl (.q Al (.q (.b Cu) .z)))))) Ab))) trivial acj Tryz.func131 Tryz.ntmps131 rfl rfl rfl fun _=>by kernel_rfl
def Ec:Ctr:=⟨63,[Ad,Cv],[Cc],false,fun x=>qx x.1 x.2.1 x.2.2.1 x.2.2.2.1 x.2.2.2.2.1 x.2.2.2.2.2.1 x.2.2.2.2.2.2.1 x.2.2.2.2.2.2.2⟩
theorem KQ:aL Tryz.prog Ec:=ck [wL,oT,kC,wM,zE,zy] [.tmp 4] (.q .z (.q (.q .z (.b Bl)) Ab)) ⟨GM,ui,nu,GN,Jo,Jh,trivial⟩ afF Tryz.func63 Tryz.ntmps63 rfl rfl rfl fun _=>by kernel_rfl
def wQ:Ctr:=⟨188,Bp,CV,false,fun x=>mL x.1 x.2.1 x.2.2.1 x.2.2.2⟩
theorem GT:aL Tryz.prog wQ:=ck [] [.tmp 6] (.q .z (.q .z (.q (.q .z (.cut ⟨[AA,AZ,AD,(7,Az)],AI,[]⟩ [] Bn)) (.q (.q .z (.cut ⟨[AD,Df],[],[]⟩ [] (.b (.lp ⟨[AA,AZ,AD,Df,(9,Ag)],AI,[]⟩ (.q Al (.q (.b (.q .z (.cut ⟨[AA,AZ,AD,Df,BV],AI,[]⟩ [] (.b (.lp ⟨[AA,AZ,AD,Df,BV,(10,Ag)],AI,[]⟩ (.q Al (.q (.b (.q .z (.q (.q .z (.cut ⟨[AA,AZ,AD,Df,BV,CC,De],[(11,AT),(3,Bw)],[]⟩ [] Ab)) (.q .z (.cut ⟨[AA,AZ,AD,Df,BV,CC],AI,[]⟩ [] Ab))))) .z))))))) .z)))))) Ab)))) trivial ac6 Tryz.func188 Tryz.ntmps188 rfl rfl rfl fun _=>by kernel_rfl
def yv:Ctr:=⟨222,[Ai,AB,AB],BS,false,fun x=>nP x.1 x.2.1 x.2.2.1 x.2.2.2⟩
theorem Ic:aL Tryz.prog yv:=ck [kB,bj] [.tmp 6] (.q .z (.q Ae CZ)) ⟨nr,bu,trivial⟩ adw Tryz.func222 Tryz.ntmps222 rfl rfl rfl fun _=>by kernel_rfl
def FG:Ctr:=⟨189,[Ai,BQ,AB],CV,false,fun x=>su x.1 x.2.1 x.2.2.1 x.2.2.2⟩
theorem Mz:aL Tryz.prog FG:=ck [yv] [.tmp 6] (.q .z (.q .z (.q (.cut Ck [] (.b (.lp ⟨[AA,(2,Ag),AZ,AD,(7,Az)],AI,[]⟩ (.q Al (.b Ab))))) Ab))) ⟨Ic,trivial⟩ ac7 Tryz.func189 Tryz.ntmps189 rfl rfl rfl fun _=>by kernel_rfl
def tI:Ctr:=⟨129,Bp,CV,false,fun x=>mc x.1 x.2.1 x.2.2.1 x.2.2.2⟩
theorem yP:aL Tryz.prog tI:=ck [wQ,FG] [.tmp 6] (.q .z (.q .z (.q .z (.q (.q .z (.cut ⟨[AD,Df],[],[]⟩ [] (.b (.lp ⟨[Av,AZ,AD,Df,Bc,(9,Ag)],AI,[]⟩ (.q Al (.q (.b (.q .z (.q .z (.cut ⟨[Av,AZ,AD,Df,Bc,BV],AI,[]⟩ [] (.b (.lp ⟨[Av,AZ,AD,Df,Bc,BV,CC,(11,Ag)],AI,[]⟩ AU)))))) .z)))))) Ab)))) ⟨GT,Mz,trivial⟩ ach Tryz.func129 Tryz.ntmps129 rfl rfl rfl fun _=>by kernel_rfl
def yu:Ctr:=⟨60,[Ai,AO,As,AB],BS,false,fun x=>nO x.1 x.2.1 x.2.2.1 x.2.2.2.1 x.2.2.2.2⟩
theorem Ib:aL Tryz.prog yu:=ck [ni,bj,tI] [.tmp 8] AL ⟨qf,bu,yP,trivial⟩ afD Tryz.func60 Tryz.ntmps60 rfl rfl rfl fun _=>by kernel_rfl
def zA:Ctr:=⟨236,[AB,AB],[CI,AH],false,fun x=>pu x.1 x.2⟩
theorem Jj:aL Tryz.prog zA:=ck [bj] [.tmp 4,.tmp 5] (.q .z (.q .z (.q Ae (.q (.q .z (.cut ⟨[Au,Bi,(6,.o Cw)],[],[]⟩ [] (.b (.lp ⟨[(0,Ag),AA,Au,Bi,(6,.o Cw),Cd],[],[]⟩ Bv)))) Ab)))) ⟨bu,trivial⟩ adz Tryz.func236 Tryz.ntmps236 rfl rfl rfl fun _=>by kernel_rfl
def Eh:Ctr:=⟨251,Bp,CV,false,fun x=>qz x.1 x.2.1 x.2.2.1 x.2.2.2⟩
theorem KS:aL Tryz.prog Eh:=ck [tI] [.tmp 6] (.q .z (.q .z (.q .z (.q (.q .z (.cut Ck [] (.b (.lp ⟨[AA,AZ,AD,(7,Az),Bc,(9,Ag)],AI,[]⟩ (.q Al (.q (.b (.q .z (.cut ⟨[AA,AZ,AD,(7,Az),Bc,BV],AI,[]⟩ [] Ab))) .z)))))) Ab)))) ⟨yP,trivial⟩ adF Tryz.func251 Tryz.ntmps251 rfl rfl rfl fun _=>by kernel_rfl
def Eg:Ctr:=⟨248,Bp,BH,false,fun x=>qy x.1 x.2.1 x.2.2.1 x.2.2.2⟩
theorem KR:aL Tryz.prog Eg:=ck [oQ,Eh] [.tmp 6] (.q .z (.q (.q .z (.cut ⟨[AA,Av,AZ,AD],AI,[]⟩ BO (.b (.lp ⟨[AA,Av,AZ,AD,Cd],AI,[]⟩ Bm)))) Ab)) ⟨ug,KS,trivial⟩ adE Tryz.func248 Tryz.ntmps248 rfl rfl rfl fun _=>by kernel_rfl
def zx:Ctr:=⟨237,Bp,BH,false,fun x=>po x.1 x.2.1 x.2.2.1 x.2.2.2⟩
theorem Jg:aL Tryz.prog zx:=ck [ni,Eg] [.tmp 6] Al ⟨qf,KR,trivial⟩ adA Tryz.func237 Tryz.ntmps237 rfl rfl rfl fun _=>by kernel_rfl
def tF:Ctr:=⟨239,[AO,AO],CV,false,fun x=>jh x.1 x.2⟩
theorem yM:aL Tryz.prog tF:=ck [] [.tmp 4] (.q .z (.q .z (.q (.q .z (.cut BN [] (.b (.lp ⟨[Ba,AA,Au,Db,(6,Ag)],[],[]⟩ (.q Al (.q (.b (.q .z (.cut ⟨[Ba,AA,Au,Db,AD],[],[]⟩ [] Ab))) .z)))))) Ab))) trivial adD Tryz.func239 Tryz.ntmps239 rfl rfl rfl fun _=>by kernel_rfl
def wP:Ctr:=⟨238,[AB,AB,AB,AB],BH,false,fun x=>pW x.1 x.2.1 x.2.2.1 x.2.2.2⟩
theorem GS:aL Tryz.prog wP:=ck [] [.tmp 8] Al trivial adC Tryz.func238 Tryz.ntmps238 rfl rfl rfl fun _=>by kernel_rfl
def wJ:Ctr:=⟨220,[Ai,AO,As,BQ],[CI,AH],false,fun x=>mG x.1 x.2.1 x.2.2.1 x.2.2.2.1 x.2.2.2.2⟩
theorem GK:aL Tryz.prog wJ:=ck [lR,zA,bj,zx,oT,tF,wP] [.tmp 8,.tmp 9] (.q .z (.q .z (.q Ae (.q .z (.q .z (.q (.q .z (.cut ⟨[Bc,BV,(10,.o Cw),(11,Ag)],[],[]⟩ [] (.b (.lp ⟨[AA,Av,AZ,Au,Bc,BV,(10,.o Cw),(11,Ag),(12,Ag),(13,Ag)],CS,[]⟩ (.q Al (.q (.b (.q .z (.q .z (.q (.q .z (.cut ⟨[AA,Av,AZ,Au,Bc,BV,CC,De,BU,Cg,(14,Ac),(16,Cs)],CS,[]⟩ [] (.b (.lp ⟨[AA,Av,AZ,Au,Bc,BV,CC,De,BU,Cg,(14,Ac),(16,Cs),(17,Ag)],CS,[]⟩ AU)))) (.q (.cut ⟨[AA,Av,AZ,Au,Bc,BV,CC,De,BU,Cg,(14,Ac),(86,Cs)],CS,[]⟩ [] .z) (.cut ⟨[AA,Av,AZ,Au,Bc,BV,(10,.o Cw),(11,Ag),(12,Ag),Cg],CS,[]⟩ [] (.q Al .z))))))) .z)))))) Ab)))))) ⟨ob,Jj,bu,Jg,ui,yM,GS,trivial⟩ adu Tryz.func220 Tryz.ntmps220 rfl rfl rfl fun _=>by kernel_rfl
def zz:Ctr:=⟨221,[AO,AO],[BZ],false,fun x=>pq x.1 x.2⟩
theorem Ji:aL Tryz.prog zz:=ck [tF] [.tmp 4] (.q .z (.q .z (.q .z (.q Ae (.q (.q .z (.cut ⟨[AA,Au,(5,AP),AD],[],[]⟩ [] (.b (.lp ⟨[Ba,AA,Au,(5,AP),AD,Cd],[],[]⟩ (.q Al (.q (.b (.q .z (.cut ⟨[Ba,AA,Au,(5,AP),AD,BB],[],[]⟩ [] Ab))) .z)))))) (.q (.q .z (.cut ⟨[Au,(5,AP)],[],[]⟩ [] (.b (.lp ⟨[AA,Au,(5,AP),AD,CE],[],[]⟩ (.q Al (.q (.b (.q .z (.cut ⟨[AA,Au,(5,AP),AD,Bc],[],[]⟩ [] Ab))) .z)))))) Ab)))))) ⟨yM,trivial⟩ adv Tryz.func221 Tryz.ntmps221 rfl rfl rfl fun _=>by kernel_rfl
def se:Ctr:=⟨187,[Ai,AO,As,BQ],[BZ,AH],false,fun x=>iS x.1 x.2.1 x.2.2.1 x.2.2.2.1 x.2.2.2.2⟩
theorem DB:aL Tryz.prog se:=ck [wJ,zz] [.tmp 8,.tmp 9] Ca ⟨GK,Ji,trivial⟩ ac5 Tryz.func187 Tryz.ntmps187 rfl rfl rfl fun _=>by kernel_rfl
def wK:Ctr:=⟨128,[Ad],[CB],false,fun x=>jj x.1 x.2.1 x.2.2.1 x.2.2.2.1 x.2.2.2.2.1 x.2.2.2.2.2.1 x.2.2.2.2.2.2⟩
theorem GL:aL Tryz.prog wK:=ck [cf,ml,se] [.tmp 2] (.q .z (.q .z (.q Ae (.q (.q .z (.cut CJ [] (.b (.lp ⟨[AA,Av,Cf,CP],BJ,[]⟩ AU)))) (.q (.q .z (.cut CJ [] (.b (.lp ⟨[AA,Av,Cf,CO],BJ,[]⟩ (.q Al (.q (.b (.q (.q .z (.cut ⟨[AA,Av,Cf,Bi],BJ,[]⟩ [] Ab)) .z)) .z)))))) (.q (.q .z (.cut CJ [] (.b (.lp ⟨[AA,Av,Cf,(6,Ag)],BJ,[]⟩ (.q Al (.q (.b (.q .z (.cut ⟨[AA,Av,Cf,AD],BJ,[]⟩ [] Ab))) .z)))))) (.q .z (.q (.q .z (.cut CY [] (.b (.lp ⟨[Av,Cf,BB,(9,Ag)],[],[]⟩ (.q Al (.q (.b (.q .z (.cut ⟨[Av,Cf,BB,BV],[],[]⟩ [] Ab))) .z)))))) Ab)))))))) ⟨dA,ox,DB,trivial⟩ acg Tryz.func128 Tryz.ntmps128 rfl rfl rfl fun _=>by kernel_rfl
def yw:Ctr:=⟨127,[Ad,.o (.sl .ro 86 Aw)],[Aj,AR],false,fun x=>nQ x.1 x.2.1 x.2.2.1 x.2.2.2.1 x.2.2.2.2.1 x.2.2.2.2.2.1 x.2.2.2.2.2.2.1 x.2.2.2.2.2.2.2⟩
theorem Id:aL Tryz.prog yw:=ck [cf,eQ,tG] [.cell 4 33,.tmp 5] (.q .z (.q Ae (.q .z (.q .z (.q (.q .z (.cut ⟨[Au,Bi,AD,Cd],Cb,[]⟩ [] (.b (.lp ⟨[AA,Au,Bi,AD,Cd,CE],Cb,[]⟩ (.q Al (.q (.b (.q .z (.q .z (.cut ⟨[AA,Au,Bi,AD,Cd,Bc],Cb,[]⟩ [] BY)))) .z)))))) Ab))))) ⟨dA,iY,yN,trivial⟩ acf Tryz.func127 Tryz.ntmps127 rfl rfl rfl fun _=>by kernel_rfl
def wO:Ctr:=⟨59,[Ad],[Aj],false,fun x=>mI x.1 x.2.1 x.2.2.1 x.2.2.2.1 x.2.2.2.2.1 x.2.2.2.2.2.1 x.2.2.2.2.2.2⟩
theorem GR:aL Tryz.prog wO:=ck [wK,yw] [.cell 2 33] Bz ⟨GL,Id,trivial⟩ afC Tryz.func59 Tryz.ntmps59 rfl rfl rfl fun _=>by kernel_rfl
def wN:Ctr:=⟨17,[Ad,Cv],[Aj,Cc],false,fun x=>jo x.1 x.2.1 x.2.2.1 x.2.2.2.1 x.2.2.2.2.1 x.2.2.2.2.2.1 x.2.2.2.2.2.2.1 x.2.2.2.2.2.2.2⟩
theorem GO:aL Tryz.prog wN:=ck [cf,FF,ve,zD,wO,yu,eQ,kC,Ec,tG] [.cell 4 33,.tmp 5] (.q .z (.q Ae (.q .z (.q .z (.q .z (.q (.b (.q .z (.q Ab (.q .z (.q AL Ch))))) (.q .z (.q (.q .z (.cut ⟨[Av,Au,Bi,BU],[(12,[.k,.k,AQ]),(4,Am),(2,Am)],[]⟩ [] Ab)) AL)))))))) ⟨dA,My,Fl,Jm,GR,Ib,iY,nu,KQ,yN,trivial⟩ ae4 Tryz.func17 Tryz.ntmps17 rfl rfl rfl fun _=>by kernel_rfl
def uR:Ctr:=⟨11,[Ad,AW],[Aj,Cq],false,fun x=>dC x.1 x.2.1 x.2.2.1 x.2.2.2.1 x.2.2.2.2.1 x.2.2.2.2.2.1 x.2.2.2.2.2.2.1 x.2.2.2.2.2.2.2⟩
theorem Fc:aL Tryz.prog uR:=ck [ce,eO,wo] [.cell 4 33,.tmp 5] (.q .z (.q Ae (.q .z (.q .z (.q (.q .z (.cut ⟨[Au,Bi,AD,(7,BX)],Cb,[]⟩ [] (.b (.lp ⟨[Au,Bi,AD,(7,BX),(24,Ac),(25,Ac),(26,Ag)],Cb,[]⟩ AY)))) Ab))))) ⟨dz,jx,Gv,trivial⟩ ae0 Tryz.func11 Tryz.ntmps11 rfl rfl rfl fun _=>by kernel_rfl
def vd:Ctr:=⟨20,[Ad,AW],[Aj,Cq],false,fun x=>gR x.1 x.2.1 x.2.2.1 x.2.2.2.1 x.2.2.2.2.1 x.2.2.2.2.2.1 x.2.2.2.2.2.2.1 x.2.2.2.2.2.2.2⟩
theorem Fk:aL Tryz.prog vd:=ck [cf,eQ,wN] [.cell 4 33,.tmp 5] (.q .z (.q .z (.q Ae (.q .z (.q (.q .z (.cut ⟨[Au,Bi,(6,Cz),BB],[(7,Aq),(4,Am)],[]⟩ [] (.b (.lp ⟨[AA,Au,Bi,(6,Cz),BB,CE],[(7,Aq),(4,Am)],[]⟩ (.q Al (.q (.b Al) .z)))))) Ab))))) ⟨dA,iY,GO,trivial⟩ ae6 Tryz.func20 Tryz.ntmps20 rfl rfl rfl fun _=>by kernel_rfl
def zo:Ctr:=⟨145,[.o Co,AB],BS,false,fun x=>ph x.1 x.2⟩
theorem Jb:aL Tryz.prog zo:=ck [] [.tmp 4] Ca trivial acv Tryz.func145 Tryz.ntmps145 rfl rfl rfl fun _=>by kernel_rfl
def FC:Ctr:=⟨72,[.g [Ah,Co],AB],BS,false,fun x=>sn x.1 x.2.1 x.2.2⟩
theorem Mv:aL Tryz.prog FC:=ck [zo] [.tmp 4] Ca ⟨Jb,trivial⟩ afK Tryz.func72 Tryz.ntmps72 rfl rfl rfl fun _=>by kernel_rfl
def DS:Ctr:=⟨73,[.o Dg,AB],BS,false,fun x=>qo x.1 x.2⟩
theorem KG:aL Tryz.prog DS:=ck [] [.tmp 4] Ca trivial afL Tryz.func73 Tryz.ntmps73 rfl rfl rfl fun _=>by kernel_rfl
def zn:Ctr:=⟨146,[AO,AB],BS,false,fun x=>lW x.1 x.2⟩
theorem Ja:aL Tryz.prog zn:=ck [] [.tmp 4] Ca trivial acw Tryz.func146 Tryz.ntmps146 rfl rfl rfl fun _=>by kernel_rfl
def wF:Ctr:=⟨147,[.o Cp,AB],BS,false,fun x=>mB x.1 x.2⟩
theorem GG:aL Tryz.prog wF:=ck [] [.tmp 4] Ca trivial acx Tryz.func147 Tryz.ntmps147 rfl rfl rfl fun _=>by kernel_rfl
def DU:Ctr:=⟨74,[.g [Ak,Ak,Cp],AB],BS,false,fun x=>qq x.1 x.2.1 x.2.2.1 x.2.2.2⟩
theorem KI:aL Tryz.prog DU:=ck [zn,wF] [.tmp 4] (.q .z BA) ⟨Ja,GG,trivial⟩ afM Tryz.func74 Tryz.ntmps74 rfl rfl rfl fun _=>by kernel_rfl
def DT:Ctr:=⟨75,[BQ,AB],BS,false,fun x=>qp x.1 x.2⟩
theorem KH:aL Tryz.prog DT:=ck [] [.tmp 4] Ca trivial afN Tryz.func75 Tryz.ntmps75 rfl rfl rfl fun _=>by kernel_rfl
def zp:Ctr:=⟨22,[Bo,AB],BS,false,fun x=>pi x.1 x.2.1 x.2.2.1 x.2.2.2.1 x.2.2.2.2.1 x.2.2.2.2.2.1 x.2.2.2.2.2.2.1 x.2.2.2.2.2.2.2⟩
theorem Jc:aL Tryz.prog zp:=ck [FC,DS,DU,DT] [.tmp 4] (.q .z (.q .z (.q Ae BA))) ⟨Mv,KG,KI,KH,trivial⟩ ae7 Tryz.func22 Tryz.ntmps22 rfl rfl rfl fun _=>by kernel_rfl
def DX:Ctr:=⟨196,[Bh],[.g [Ap,Ap,Ap]],false,fun x=>qu x.1 x.2.1 x.2.2⟩
theorem KL:aL Tryz.prog DX:=ck [] [.cell 2 77] (.q .z AV) trivial adf Tryz.func196 Tryz.ntmps196 rfl rfl rfl fun _=>by kernel_rfl
def zt:Ctr:=⟨148,[.o Co],[.o Da],false,fun x=>pj x⟩
theorem Je:aL Tryz.prog zt:=ck [DX] [.tmp 2] (.q .z (.q .z (.q (.q .z (.cut ⟨[Av,(3,.o (.w 77 Aw))],[],[]⟩ [] (.b (.lp ⟨[Ba,Av,(3,.o (.w 77 Aw)),CP],[],[]⟩ AU)))) Ab))) ⟨KL,trivial⟩ acy Tryz.func148 Tryz.ntmps148 rfl rfl rfl fun _=>by kernel_rfl
def FE:Ctr:=⟨76,[.g [Ah,Co]],[.g [Ap,Da]],false,fun x=>sq x.1 x.2⟩
theorem Mx:aL Tryz.prog FE:=ck [zt] [.cell 2 25] AV ⟨Je,trivial⟩ afO Tryz.func76 Tryz.ntmps76 rfl rfl rfl fun _=>by kernel_rfl
def FD:Ctr:=⟨149,[BP],[.g [Ap,Ap]],false,fun x=>sp x.1 x.2⟩
theorem Mw:aL Tryz.prog FD:=ck [] [.cell 2 122] AV trivial acz Tryz.func149 Tryz.ntmps149 rfl rfl rfl fun _=>by kernel_rfl
def DV:Ctr:=⟨77,[.o Dg],[.o (.row 122 Af)],false,fun x=>qs x⟩
theorem KJ:aL Tryz.prog DV:=ck [FD] [.tmp 2] (.q .z (.q .z (.q (.q .z (.cut ⟨[Av,(3,Dh)],[],[]⟩ [] (.b (.lp ⟨[Ba,Av,(3,Dh),CP],[],[]⟩ AU)))) Ab))) ⟨Mw,trivial⟩ afP Tryz.func77 Tryz.ntmps77 rfl rfl rfl fun _=>by kernel_rfl
def zq:Ctr:=⟨150,[AO],[CI],false,fun x=>lY x⟩
theorem Jd:aL Tryz.prog zq:=ck [] [.tmp 2] (.q .z (.q .z (.q (.q .z (.cut ⟨[Av,(3,Cj)],[],[]⟩ [] (.b (.lp ⟨[Ba,Av,(3,Cj),CP],[],[]⟩ AU)))) Ab))) trivial acA Tryz.func150 Tryz.ntmps150 rfl rfl rfl fun _=>by kernel_rfl
def yp:Ctr:=⟨197,[BP],[.g [Ap,Ap]],false,fun x=>nM x.1 x.2⟩
theorem HZ:aL Tryz.prog yp:=ck [] [.cell 2 125] AV trivial adg Tryz.func197 Tryz.ntmps197 rfl rfl rfl fun _=>by kernel_rfl
def wH:Ctr:=⟨151,[.o Cp],[.o BI],false,fun x=>mF x⟩
theorem GI:aL Tryz.prog wH:=ck [yp] [.tmp 2] (.q .z (.q .z (.q (.q .z (.cut ⟨[Av,(3,Di)],[],[]⟩ [] (.b (.lp ⟨[Ba,Av,(3,Di),CP],[],[]⟩ AU)))) Ab))) ⟨HZ,trivial⟩ acB Tryz.func151 Tryz.ntmps151 rfl rfl rfl fun _=>by kernel_rfl
def DY:Ctr:=⟨78,[.g [Ak,Ak,Cp]],[Cr],false,fun x=>qv x.1 x.2.1 x.2.2⟩
theorem KM:aL Tryz.prog DY:=ck [zq,wH] [.cell 2 30] (.q .z AV) ⟨Jd,GI,trivial⟩ afQ Tryz.func78 Tryz.ntmps78 rfl rfl rfl fun _=>by kernel_rfl
def DW:Ctr:=⟨79,[BQ],CV,false,fun x=>qt x⟩
theorem KK:aL Tryz.prog DW:=ck [] [.tmp 2] (.q .z (.q .z (.q (.q .z (.cut ⟨[Av,(3,AF)],[],[]⟩ [] (.b (.lp ⟨[Ba,Av,(3,AF),CP],[],[]⟩ AU)))) Ab))) trivial afR Tryz.func79 Tryz.ntmps79 rfl rfl rfl fun _=>by kernel_rfl
def zu:Ctr:=⟨23,[Bo],[Aj],false,fun x=>fa x.1 x.2.1 x.2.2.1 x.2.2.2.1 x.2.2.2.2.1 x.2.2.2.2.2.1 x.2.2.2.2.2.2⟩
theorem Jf:aL Tryz.prog zu:=ck [FE,DV,DY,DW] [.cell 2 33] (.q .z (.q .z AV)) ⟨Mx,KJ,KM,KK,trivial⟩ ae8 Tryz.func23 Tryz.ntmps23 rfl rfl rfl fun _=>by kernel_rfl
def DP:Ctr:=⟨198,[Bh,Bh],BH,false,fun x=>qm x.1 x.2.1 x.2.2.1 x.2.2.2.1 x.2.2.2.2.1 x.2.2.2.2.2⟩
theorem KE:aL Tryz.prog DP:=ck [] [.tmp 4] CW trivial adh Tryz.func198 Tryz.ntmps198 rfl rfl rfl fun _=>by kernel_rfl
def zi:Ctr:=⟨152,[.o Bg,.o Bg],BH,false,fun x=>pf x.1 x.2⟩
theorem IW:aL Tryz.prog zi:=ck [DP] [.tmp 4] BR ⟨KE,trivial⟩ acC Tryz.func152 Tryz.ntmps152 rfl rfl rfl fun _=>by kernel_rfl
def FB:Ctr:=⟨80,[Ai,Ai],BH,false,fun x=>sk x.1 x.2.1 x.2.2.1 x.2.2.2⟩
theorem Mu:aL Tryz.prog FB:=ck [zi] [.tmp 4] CZ ⟨IW,trivial⟩ afS Tryz.func80 Tryz.ntmps80 rfl rfl rfl fun _=>by kernel_rfl
def FA:Ctr:=⟨153,[BP,BP],BH,false,fun x=>sj x.1 x.2.1 x.2.2.1 x.2.2.2⟩
theorem Mt:aL Tryz.prog FA:=ck [] [.tmp 4] CZ trivial acD Tryz.func153 Tryz.ntmps153 rfl rfl rfl fun _=>by kernel_rfl
def DN:Ctr:=⟨81,[As,As],BH,false,fun x=>qk x.1 x.2⟩
theorem KC:aL Tryz.prog DN:=ck [FA] [.tmp 4] BR ⟨Mt,trivial⟩ afT Tryz.func81 Tryz.ntmps81 rfl rfl rfl fun _=>by kernel_rfl
def zh:Ctr:=⟨154,[AO,AO],BH,false,fun x=>lV x.1 x.2⟩
theorem IV:aL Tryz.prog zh:=ck [] [.tmp 4] BR trivial acE Tryz.func154 Tryz.ntmps154 rfl rfl rfl fun _=>by kernel_rfl
def yf:Ctr:=⟨199,[BP,BP],BH,false,fun x=>nH x.1 x.2.1 x.2.2.1 x.2.2.2⟩
theorem HS:aL Tryz.prog yf:=ck [] [.tmp 4] CZ trivial adi Tryz.func199 Tryz.ntmps199 rfl rfl rfl fun _=>by kernel_rfl
def wu:Ctr:=⟨155,[Bt,Bt],BH,false,fun x=>mv x.1 x.2⟩
theorem Gy:aL Tryz.prog wu:=ck [yf] [.tmp 4] BR ⟨HS,trivial⟩ acF Tryz.func155 Tryz.ntmps155 rfl rfl rfl fun _=>by kernel_rfl
def DQ:Ctr:=⟨82,[AE,AE],BH,false,fun x=>qn x.1 x.2.1 x.2.2.1 x.2.2.2.1 x.2.2.2.2.1 x.2.2.2.2.2⟩
theorem KF:aL Tryz.prog DQ:=ck [zh,wu] [.tmp 4] CW ⟨IV,Gy,trivial⟩ afU Tryz.func82 Tryz.ntmps82 rfl rfl rfl fun _=>by kernel_rfl
def DO:Ctr:=⟨83,[BQ,BQ],BH,false,fun x=>ql x.1 x.2⟩
theorem KD:aL Tryz.prog DO:=ck [] [.tmp 4] BR trivial afV Tryz.func83 Tryz.ntmps83 rfl rfl rfl fun _=>by kernel_rfl
def zj:Ctr:=⟨24,[Ad,Ad],BH,false,fun x=>eW x.1 x.2.1 x.2.2.1 x.2.2.2.1 x.2.2.2.2.1 x.2.2.2.2.2.1 x.2.2.2.2.2.2.1 x.2.2.2.2.2.2.2.1 x.2.2.2.2.2.2.2.2.1 x.2.2.2.2.2.2.2.2.2.1 x.2.2.2.2.2.2.2.2.2.2.1 x.2.2.2.2.2.2.2.2.2.2.2.1 x.2.2.2.2.2.2.2.2.2.2.2.2.1 x.2.2.2.2.2.2.2.2.2.2.2.2.2⟩
theorem IX:aL Tryz.prog zj:=ck [FB,DN,DQ,DO] [.tmp 4] (.q .z (.q Ae (.q Ae Bj))) ⟨Mu,KC,KF,KD,trivial⟩ ae9 Tryz.func24 Tryz.ntmps24 rfl rfl rfl fun _=>by kernel_rfl
def wD:Ctr:=⟨156,[.o (.sl .mu 77 Aw),AB],BS,true,fun x=>mz x.1 x.2⟩
theorem GE:aL Tryz.prog wD:=ck [] [.tmp 4] (.q .z (.q (.q .z (.cut ⟨BT,[],[(0,.r 77 Aw)]⟩ [] (.b (.lp ⟨[(0,.o (.w 77 Aw)),(1,Ag),Au,CO],[],[]⟩ (.q Al (.q (.b AV) .z)))))) Ab)) trivial acG Tryz.func156 Tryz.ntmps156 rfl rfl rfl fun _=>by kernel_rfl
def zm:Ctr:=⟨84,[.g [Ah,.sl .mu 77 Aw],AB],BS,true,fun x=>tM x.1 x.2.1 x.2.2⟩
theorem IZ:aL Tryz.prog zm:=ck [wD] [.tmp 4] Bz ⟨GE,trivial⟩ afW Tryz.func84 Tryz.ntmps84 rfl rfl rfl fun _=>by kernel_rfl
def yk:Ctr:=⟨85,[.o (.sl .mu 122 Af),AB],BS,true,fun x=>nK x.1 x.2⟩
theorem HW:aL Tryz.prog yk:=ck [] [.tmp 4] (.q .z (.q (.q .z (.cut ⟨BT,[],[(0,.r 122 Af)]⟩ [] (.b (.lp ⟨[(0,Dh),(1,Ag),Au,CO],[],[]⟩ (.q Al (.q (.b Bz) .z)))))) Ab)) trivial afX Tryz.func85 Tryz.ntmps85 rfl rfl rfl fun _=>by kernel_rfl
def wC:Ctr:=⟨157,[.o BW,AB],BS,true,fun x=>jg x.1 x.2⟩
theorem GD:aL Tryz.prog wC:=ck [] [.tmp 4] (.q .z (.q (.q .z (.cut ⟨BT,[],[(0,Cw)]⟩ [] (.b (.lp ⟨[(0,Cj),(1,Ag),Au,CO],[],[]⟩ Bv)))) Ab)) trivial acH Tryz.func157 Tryz.ntmps157 rfl rfl rfl fun _=>by kernel_rfl
def tC:Ctr:=⟨158,[.o Dj,AB],BS,true,fun x=>jQ x.1 x.2⟩
theorem Et:aL Tryz.prog tC:=ck [] [.tmp 4] (.q .z (.q (.q .z (.cut ⟨BT,[],[(0,CL)]⟩ [] (.b (.lp ⟨[(0,Di),(1,Ag),Au,CO],[],[]⟩ (.q Al (.q (.b Bz) .z)))))) Ab)) trivial acI Tryz.func158 Tryz.ntmps158 rfl rfl rfl fun _=>by kernel_rfl
def yo:Ctr:=⟨86,[.g [BW,BW,Dj],AB],BS,true,fun x=>rp x.1 x.2.1 x.2.2.1 x.2.2.2⟩
theorem HY:aL Tryz.prog yo:=ck [wC,tC] [.tmp 4] AV ⟨GD,Et,trivial⟩ afY Tryz.func86 Tryz.ntmps86 rfl rfl rfl fun _=>by kernel_rfl
def yn:Ctr:=⟨87,[.o By,AB],BS,true,fun x=>nL x.1 x.2⟩
theorem HX:aL Tryz.prog yn:=ck [] [.tmp 4] (.q .z (.q (.q .z (.cut ⟨BT,[],[(0,Be)]⟩ [] (.b (.lp ⟨[(0,AF),(1,Ag),Au,CO],[],[]⟩ Bv)))) Ab)) trivial afZ Tryz.func87 Tryz.ntmps87 rfl rfl rfl fun _=>by kernel_rfl
def wE:Ctr:=⟨25,[.g Cy,AB],BS,true,fun x=>mA x.1 x.2.1 x.2.2.1 x.2.2.2.1 x.2.2.2.2.1 x.2.2.2.2.2.1 x.2.2.2.2.2.2.1 x.2.2.2.2.2.2.2⟩
theorem GF:aL Tryz.prog wE:=ck [zm,yk,yo,yn] [.tmp 4] (.q .z AV) ⟨IZ,HW,HY,HX,trivial⟩ afa Tryz.func25 Tryz.ntmps25 rfl rfl rfl fun _=>by kernel_rfl
def wA:Ctr:=⟨159,[.o Bg,AB],BS,false,fun x=>mw x.1 x.2⟩
theorem GB:aL Tryz.prog wA:=ck [] [.tmp 4] (.q .z (.q (.q .z (.cut CT BO (.b (.lp BG (.q Al (.q (.b (.q Ae (.q .z (.q Ae (.q .z CA))))) .z)))))) Ab)) trivial acJ Tryz.func159 Tryz.ntmps159 rfl rfl rfl fun _=>by kernel_rfl
def zk:Ctr:=⟨88,[Ai,AB],BS,false,fun x=>tL x.1 x.2.1 x.2.2⟩
theorem IY:aL Tryz.prog zk:=ck [wA] [.tmp 4] Ca ⟨GB,trivial⟩ af0 Tryz.func88 Tryz.ntmps88 rfl rfl rfl fun _=>by kernel_rfl
def yg:Ctr:=⟨89,[As,AB],BS,false,fun x=>nI x.1 x.2⟩
theorem HT:aL Tryz.prog yg:=ck [] [.tmp 4] Bb trivial af1 Tryz.func89 Tryz.ntmps89 rfl rfl rfl fun _=>by kernel_rfl
def wz:Ctr:=⟨160,[AO,AB],BS,false,fun x=>jf x.1 x.2⟩
theorem GA:aL Tryz.prog wz:=ck [] [.tmp 4] AN trivial acK Tryz.func160 Tryz.ntmps160 rfl rfl rfl fun _=>by kernel_rfl
def tA:Ctr:=⟨161,[Bt,AB],BS,false,fun x=>jN x.1 x.2⟩
theorem Er:aL Tryz.prog tA:=ck [] [.tmp 4] Bb trivial acL Tryz.func161 Tryz.ntmps161 rfl rfl rfl fun _=>by kernel_rfl
def yj:Ctr:=⟨90,[AE,AB],BS,false,fun x=>rn x.1 x.2.1 x.2.2.1 x.2.2.2⟩
theorem HV:aL Tryz.prog yj:=ck [wz,tA] [.tmp 4] (.q .z BA) ⟨GA,Er,trivial⟩ af2 Tryz.func90 Tryz.ntmps90 rfl rfl rfl fun _=>by kernel_rfl
def yi:Ctr:=⟨91,[BQ,AB],BS,false,fun x=>nJ x.1 x.2⟩
theorem HU:aL Tryz.prog yi:=ck [] [.tmp 4] AN trivial af3 Tryz.func91 Tryz.ntmps91 rfl rfl rfl fun _=>by kernel_rfl
def wB:Ctr:=⟨26,[Ad,AB],BS,false,fun x=>my x.1 x.2.1 x.2.2.1 x.2.2.2.1 x.2.2.2.2.1 x.2.2.2.2.2.1 x.2.2.2.2.2.2.1 x.2.2.2.2.2.2.2⟩
theorem GC:aL Tryz.prog wB:=ck [zk,yg,yj,yi] [.tmp 4] (.q .z (.q .z (.q Ae BA))) ⟨IY,HT,HV,HU,trivial⟩ afb Tryz.func26 Tryz.ntmps26 rfl rfl rfl fun _=>by kernel_rfl
def wG:Ctr:=⟨27,[AW,AB],BS,false,fun x=>mC x.1 x.2⟩
theorem GH:aL Tryz.prog wG:=ck [] [.tmp 4] (.q .z (.q .z (.q Ae (.q (.q .z (.cut CT BO (.b (.lp BG (.q Al Ci))))) Ab)))) trivial afc Tryz.func27 Tryz.ntmps27 rfl rfl rfl fun _=>by kernel_rfl
def wI:Ctr:=⟨28,[AW],[Cq],false,fun x=>cM x⟩
theorem GJ:aL Tryz.prog wI:=ck [] [.tmp 2] (.q .z (.q .z (.q (.q .z (.cut ⟨[Av,(3,BX)],[],[]⟩ [] (.b (.lp ⟨[Ba,Av,(3,BX),CP],[],[]⟩ AU)))) Ab))) trivial afd Tryz.func28 Tryz.ntmps28 rfl rfl rfl fun _=>by kernel_rfl
def ww:Ctr:=⟨29,[AW,AW],BH,false,fun x=>cL x.1 x.2⟩
theorem Gz:aL Tryz.prog ww:=ck [] [.tmp 4] BR trivial afe Tryz.func29 Tryz.ntmps29 rfl rfl rfl fun _=>by kernel_rfl
def rl:Ctr:=⟨92,[AB],[Cc],false,fun x=>dH x⟩
theorem xN:aL Tryz.prog rl:=ck [] [.tmp 2] (.q .z (.q Ae (.q .z (.q (.cut Ce [] (.b (.lp ⟨[(0,Ag),Av,(3,.o .s)],[],[]⟩ (.q Al (.b Ab))))) Ab)))) trivial af4 Tryz.func92 Tryz.ntmps92 rfl rfl rfl fun _=>by kernel_rfl
def tD:Ctr:=⟨30,[.o (.sl .mu 9 .s),AB],BS,true,fun x=>eY x.1 x.2⟩
theorem Eu:aL Tryz.prog tD:=ck [rl] [.tmp 4] (.q .z (.q (.q .z (.cut ⟨BT,[],[(0,.r 9 .s)]⟩ [] (.b (.lp ⟨[(0,BX),(1,Ag),Au,CO],[],[]⟩ Bv)))) Ab)) ⟨xN,trivial⟩ aff Tryz.func30 Tryz.ntmps30 rfl rfl rfl fun _=>by kernel_rfl
def tB:Ctr:=⟨31,[AW,AB],BS,false,fun x=>eX x.1 x.2⟩
theorem Es:aL Tryz.prog tB:=ck [rl] [.tmp 4] AN ⟨xN,trivial⟩ afg Tryz.func31 Tryz.ntmps31 rfl rfl rfl fun _=>by kernel_rfl
def vB:Ctr:=⟨7,[Bo,AW],BH,false,fun x=>cP x.1 x.2.1 x.2.2.1 x.2.2.2.1 x.2.2.2.2.1 x.2.2.2.2.2.1 x.2.2.2.2.2.2.1 x.2.2.2.2.2.2.2⟩
theorem vv:aL Tryz.prog vB:=ck [zp,wG,zu,wI,vd,uR,zj,ww,wE,tD,wB,tB] [.tmp 4] (.q .z (.q .z (.q .z (.q Ae (.q .z (.q Ae (.q .z (.q .z (.q .z (.q .z (.q Ae (.q Ae (.q Ae (.q .z (.q .z (.q .z (.q Ae (.q .z (.q .z (.q .z (.q .z (.q .z (.q Ae (.q .z (.q Ae (.q Ae (.q .z (.q Ae (.q .z (.q .z (.q Ae CZ))))))))))))))))))))))))))))))) ⟨Jc,GH,Jf,GJ,Fk,Fc,IX,Gz,GF,Eu,GC,Es,trivial⟩ ⟨by kernel_rfl⟩ Tryz.func7 Tryz.ntmps7 rfl rfl rfl fun _=>by kernel_rfl
theorem vq {x0:Int} {x1:List (Int×Int×Int)} {x2:List (Int×Int)} {x3:List Bool} {x4:List Bool} {x5:List (Int×Int)} {x6:List Int} {x7:List ByteArray} {A1:Option Addr} {n1 c1:Nat} {A2:Option Addr} {n2 c2:Nat} {A3:Option Addr} {n3 c3:Nat} {A4:Option Addr} {n4 c4:Nat} {A5:Option Addr} {n5 c5:Nat} {A6:Option Addr} {n6 c6:Nat} {A7:Option Addr} {n7 c7:Nat} {w:World} (hbs:Bs w) {r:Bool} (h1:Rt w 3 Ew A1 n1 c1 x1) (h2:Rt w 2 LB A2 n2 c2 x2) (h3:Rt w 1 eB A3 n3 c3 x3) (h4:Rt w 1 eB A4 n4 c4 x4) (h5:Rt w 2 sR A5 n5 c5 x5) (h6:Rt w 1 eI A6 n6 c6 x6) (h7:Rt w 1 eS A7 n7 c7 x7) (hM:cP x0 x1 x2 x3 x4 x5 x6 x7=some r):
 Calls Tryz.prog 7 #[.agg #[.int .i64 x0,.slice A1 n1 c1,.slice A2 n2 c2,.slice A3 n3 c3,.slice A4 n4 c4,.slice A5 n5 c5,.slice A6 n6 c6],.slice A7 n7 c7] w (fun e w'=>e= .returned (.bool r)∧St w w' []):=by
 obtain rfl:=h1.len
 obtain rfl:=h2.len
 obtain rfl:=h3.len
 obtain rfl:=h4.len
 obtain rfl:=h5.len
 obtain rfl:=h6.len
 obtain rfl:=h7.len
 exact ZH vv (x:=(x0,x1,x2,x3,x4,x5,x6,x7)) hM (e:=abg [(none,0),(A1,c1),(A2,c2),(A3,c3),(A4,c4),(A5,c5),(A6,c6),(A7,c7)]) hbs ⟨_,_,rfl,⟨_,_,rfl⟩,⟨_,_,rfl,⟨_,rfl,fun _ _ S _=>S.rc0 h1.rc⟩,⟨_,_,rfl,⟨_,rfl,fun _ _ S _=>S.rc0 h2.rc⟩,⟨_,_,rfl,⟨_,rfl,fun _ _ S _=>S.rc0 h3.rc⟩,⟨_,_,rfl,⟨_,rfl,fun _ _ S _=>S.rc0 h4.rc⟩,⟨_,_,rfl,⟨_,rfl,fun _ _ S _=>S.rc0 h5.rc⟩,⟨_,_,rfl,⟨_,rfl,fun _ _ S _=>S.rc0 h6.rc⟩,⟨_,_,rfl,⟨_,rfl,fun _ _ S _=>S.rc0 h7.rc⟩,rfl⟩⟩⟩⟩⟩⟩⟩⟩ rfl rfl rfl
end
end Go.Proofs.YtjdlgannencchaaGreatDoor
namespace Go.Proofs.YtjdlgannencchaaGreatDoor
open Go.Lib
set_option linter.unusedVariables false
set_option linter.unusedSimpArgs false
def tl (s:ByteArray):List UInt8:=s.data.toList
theorem Dw (s:ByteArray):(tl s).length=s.size:=by simp [tl]
theorem Hq (l:List UInt8):tl (aW l)=l:=lN l
theorem Zk (s:ByteArray):s.toList=tl s:=ByteArray.toList_eq s
theorem Lv (s:ByteArray) (k:Nat):lO s (k:Int)=(((tl s).getD k 0).toNat:Int):=rfl
theorem LA (c:UInt8):dv c≤207:=by have:=c.toNat_lt;unfold dv;omega
theorem Zn (l:List UInt8) (h:l.length≤3):qd l≤100000:=by
 match l,h with
 | [],_=>simp [qd]
 | [a],_=>have:=LA a;simp [qd];omega
 | [a,b],_=>have:=LA a;have:=LA b;simp [qd];omega
 | [a,b,c],_=>have:=LA a;have:=LA b;have:=LA c;simp [qd];omega
theorem Ur (l:List UInt8) {k:Nat} (h:k<l.length):qd (l.take (k+1))=10*qd (l.take k)+dv (l.getD k 0):=by
 unfold qd
 rw [List.take_succ_eq_append_getElem h,List.foldl_append,ac h];rfl
theorem UW (c:UInt8):(af (c.toNat:Int) 48 ||af 57 (c.toNat:Int))= !oE c:=by
 unfold af oE
 by_cases h1:48≤c.toNat<;>by_cases h2:c.toNat≤57<;>simp [h1,h2]<;>omega
theorem Oj (s:ByteArray) (h:s.size≤3):bT s ah (0,0)=some (if (tl s).all oE=true then .inl (qd (tl s):Int) else .inr (-1)):=by
 have hl:=Dw s
 have hh:=bW (bT s) (fun k=>((qd ((tl s).take k):Int),(k:Int))) s.size (fun k=> !oE ((tl s).getD k 0)) (some (.inr (-1))) (some (.inl (qd (tl s):Int))) (by omega) (fun k fuel hk=>by
  have hk2:k<(tl s).length:=by omega
  have hv:=Zn ((tl s).take k) (by simp;omega)
  rw [sW,iB]
  simp only [au hk,ae hk,Lv,UW,Bool.or_true,aa,cond_true,ab (by omega:k<4611686018427387904)]
  cases hd:oE ((tl s).getD k 0) with
  |false=>rfl
  |true=>
   have hr:=Fz hd
   have hdv:(((tl s).getD k 0).toNat:Int)-48=(dv ((tl s).getD k 0):Int):=by unfold dv;omega
   have hlt:=vP hd
   simp only [Bool.not_true,cond_false]
   have e1:ay (10*(qd ((tl s).take k):Int))=10*(qd ((tl s).take k):Int):=aO (by omega)
   have e2:ay (dv ((tl s).getD k 0):Int)=(dv ((tl s).getD k 0):Int):=aO (by omega)
   rw [hdv,wk8 (by omega),e1,e2,aO (by omega),Ur _ hk2]
   rfl) (fun fuel=>by
   have ht:(tl s).take s.size=tl s:=List.take_of_length_le (by omega)
   rw [sW,iB,ht]
   simp only [ak,cond_false])
 rw [←hl,NU (tl s) 0 (fun c=> !oE c)] at hh
 have hany:(tl s).any (fun c=> !oE c)= !(tl s).all oE:=by simp [List.all_eq_not_any_not]
 rw [hany] at hh
 rw [show bT s ah (0,0)=_ from hh]
 cases (tl s).all oE<;>rfl
theorem Yj (s:ByteArray):nF s=some (Qo (tl s)):=by
 have hl:=Dw s
 unfold nF Qo
 by_cases h:1≤s.size∧s.size≤3
 ·rw [show af (s.size:Int) 1=false from decide_eq_false (by omega),show af 3 (s.size:Int)=false from decide_eq_false (by omega),Oj s h.2]
  by_cases ha:(tl s).all oE=true
  ·have hc:1≤(tl s).length∧(tl s).length≤3∧(tl s).all oE=true:=⟨by omega,by omega,ha⟩
   rw [if_pos hc];simp [ha]
  ·have hc: ¬(1≤(tl s).length∧(tl s).length≤3∧(tl s).all oE=true):=fun k=>ha k.2.2
   rw [if_neg hc];simp [ha]
 ·have hc: ¬(1≤(tl s).length∧(tl s).length≤3∧(tl s).all oE=true):=fun k=>h ⟨by omega,by omega⟩
  rw [if_neg hc]
  have:(af (s.size:Int) 1 ||af 3 (s.size:Int))=true:=by
   unfold af;simp only [Bool.or_eq_true,decide_eq_true_eq];omega
  rw [this];rfl
theorem Fw (s:ByteArray):aD s=some (Qo (tl s),decide (0≤bh (tl s))):=by
 have hb:=aaq (tl s)
 unfold aD
 rw [Yj,Option.bind_some]
 by_cases h:0≤Qo (tl s)
 ·obtain ⟨n,hn⟩: ∃n:Nat,Qo (tl s)=n:=⟨(Qo (tl s)).toNat,by omega⟩
  have h3:=Wa (tl s)
  rw [hn] at hb h3 ⊢
  rw [show aF 0 (n:Int)=true from decide_eq_true (by omega),Sj (by omega)]
  simp only [gb,cond_true,Option.bind_some,Bool.true_and,mZ,Zk]
  rw [Int.toNat_natCast] at h3
  congr 2
  rw [Bool.eq_iff_iff,beq_iff_eq,decide_eq_true_eq,←h3]
  exact ⟨fun e=>⟨by omega,e⟩,fun e=>e.2⟩
 ·have h3: ¬0≤bh (tl s):=fun k=>h (by rw [yR k];exact k)
  rw [show aF 0 (Qo (tl s))=false from decide_eq_false h,decide_eq_false h3]
  rfl
theorem aeK (s:ByteArray):nm s=some (bh (tl s)):=by
 have hl:=Dw s
 have same:wT s=bT s:=rfl
 unfold nm am bh
 rw [same]
 by_cases h:1≤s.size∧s.size≤3
 ·have h1:(aF 1 (s.size:Int)&&aF (s.size:Int) 3)=true:=by unfold aF;simp;omega
  have h0:aq 0 s.size=true:=decide_eq_true (by omega)
  have hz:((lO s 0)==48)=decide ((tl s).headD 0=48):=by
   rw [show lO s 0=(((tl s).getD 0 0).toNat:Int) from rfl,show (tl s).getD 0 0=(tl s).headD 0 by cases tl s<;>rfl]
   generalize (tl s).headD 0=c
   rw [Bool.eq_iff_iff,beq_iff_eq,decide_eq_true_eq]
   exact ⟨fun e=>UInt8.toNat_inj.1 (by have:c.toNat=48:=by omega
                                       rw [this];rfl),fun e=>by subst e;rfl⟩
  simp only [Option.bind_some,h1,h0,hz,Bool.not_true,Bool.false_or,Bool.or_true,aa]
  rw [Oj s h.2]
  by_cases h2:1<s.size∧(tl s).headD 0=48
  ·have hc: ¬((1≤(tl s).length∧(tl s).length≤3∧(tl s).all oE=true)∧ ¬(1<(tl s).length∧(tl s).headD 0=48)):=fun k=>k.2 ⟨by omega,h2.2⟩
   rw [if_neg hc,show af 1 (s.size:Int)=true from decide_eq_true (by omega),decide_eq_true h2.2];rfl
  ·have:(af 1 (s.size:Int)&&decide ((tl s).headD 0=48))=false:=by
    rw [Bool.eq_false_iff];intro hh;simp only [Bool.and_eq_true,decide_eq_true_eq,af] at hh;exact h2 ⟨by omega,hh.2⟩
   rw [this]
   by_cases ha:(tl s).all oE=true
   ·have hc:(1≤(tl s).length∧(tl s).length≤3∧(tl s).all oE=true)∧ ¬(1<(tl s).length∧(tl s).headD 0=48):=⟨⟨by omega,by omega,ha⟩,fun k=>h2 ⟨by omega,k.2⟩⟩
    rw [if_pos hc];simp [ha]
   ·have hc: ¬((1≤(tl s).length∧(tl s).length≤3∧(tl s).all oE=true)∧ ¬(1<(tl s).length∧(tl s).headD 0=48)):=fun k=>ha k.1.2.2
    rw [if_neg hc];simp [ha]
 ·have h1:(aF 1 (s.size:Int)&&aF (s.size:Int) 3)=false:=by unfold aF;rw [Bool.eq_false_iff];simp;omega
  have hc: ¬((1≤(tl s).length∧(tl s).length≤3∧(tl s).all oE=true)∧ ¬(1<(tl s).length∧(tl s).headD 0=48)):=fun k=>h ⟨by omega,by omega⟩
  rw [if_neg hc]
  simp [h1]
def jw (c:UInt8) (l:List UInt8):Nat→List (List UInt8)×Nat
 |0=>([],0)
 |k+1=>if l.getD k 0=c then ((jw c l k).1++ [(l.drop (jw c l k).2).take (k-(jw c l k).2)],k+1) else jw c l k
theorem Im (c:UInt8) (l:List UInt8): ∀k,(jw c l k).2≤k∧(jw c l k).1.length≤k
 |0=>by simp [jw]
 |k+1=>by
  have:=Im c l k
  unfold jw;split
  ·simp;omega
  ·omega
theorem Oe (c:UInt8) (l:List UInt8): ∀k,k≤l.length→(∀j,(jw c l k).2≤j→j<k→l.getD j 0≠c)∧eG c l=(jw c l k).1++eG c (l.drop (jw c l k).2)
 |0,_=>by simp [jw]
 |k+1,hk=>by
  obtain ⟨h1,h2⟩:=Oe c l k (by omega)
  have hle:=(Im c l k).1
  unfold jw;split
  ·rename_i e
   refine ⟨fun j h3 h4=>by simp only at h3;omega,?_⟩
   have hsp:l.drop (jw c l k).2=(l.drop (jw c l k).2).take (k-(jw c l k).2)++c::l.drop (k+1):=by
    conv=>lhs;rw [←List.take_append_drop (k-(jw c l k).2) (l.drop (jw c l k).2)]
    rw [List.drop_drop,show (jw c l k).2+(k-(jw c l k).2)=k by omega,List.drop_eq_getElem_cons (by omega:k<l.length),←ac (d:=0) (by omega:k<l.length),e]
   have hn:c∉(l.drop (jw c l k).2).take (k-(jw c l k).2):=by
    intro hm
    obtain ⟨j,hj,he⟩:=List.mem_iff_getElem.1 hm
    have hj2:j<k-(jw c l k).2:=by have:=List.length_take_le (k-(jw c l k).2) (l.drop (jw c l k).2);omega
    have:=h1 ((jw c l k).2+j) (by omega) (by omega)
    rw [ac (by omega:(jw c l k).2+j<l.length)] at this
    simp only [List.getElem_take,List.getElem_drop] at he
    exact this he
   rw [h2]
   conv=>lhs;rw [hsp,IM c _ _ hn]
   simp
  ·rename_i e
   refine ⟨fun j h3 h4=>?_,h2⟩
   rcases Nat.lt_or_ge j k with h |h
   ·exact h1 j h3 h
   ·obtain rfl:j=k:=by omega
    exact e
theorem LF (s:ByteArray) (a b:Nat):ByteArray.extract s a b=aW (((tl s).drop a).take (b-a)):=by
 rw [←vI s]
 exact ByteArray.extract_mk s.data.toList a b
theorem agm (s:ByteArray) (hs:s.size≤1048576):ss s 32=some ((eG 32 (tl s)).map aW):=by
 have hl:=Dw s
 unfold ss
 have hh:=av (kE s 32) (fun k=>((jw 32 (tl s) k).1.map aW,((jw 32 (tl s) k).2:Int),(k:Int))) s.size (some ((jw 32 (tl s) s.size).1.map aW,((jw 32 (tl s) s.size).2:Int))) (by omega) (fun k fuel hk=>by
  obtain ⟨c1,c2⟩:=Im 32 (tl s) k
  rw [xQ,mJ]
  have hb:((((tl s).getD k 0).toNat:Int)==32)=decide ((tl s).getD k 0=32):=by
   generalize (tl s).getD k 0=c
   rw [Bool.eq_iff_iff,beq_iff_eq,decide_eq_true_eq]
   exact ⟨fun e=>UInt8.toNat_inj.1 (by have:c.toNat=32:=by omega
                                       rw [this];rfl),fun e=>by subst e;rfl⟩
  simp only [au hk,ae hk,Lv,hb,aa,cond_true,ab (by omega:k<4611686018427387904)]
  have b1:DF ((jw 32 (tl s) k).2:Int) (k:Int) s.size=true:=decide_eq_true (by omega)
  have b2: ∀x:ByteArray,bw ((jw 32 (tl s) k).1.map aW).length ([x]:List ByteArray).length=true:=fun x=>decide_eq_true (by simp;omega)
  by_cases e:(tl s).getD k 0=32
  ·rw [decide_eq_true e]
   simp only [cond_true,b1,b2,aa,Option.bind_some,Int.toNat_natCast,LF]
   conv=>rhs;unfold jw
   rw [if_pos e]
   simp
  ·rw [decide_eq_false e]
   simp only [cond_false,Option.bind_some]
   conv=>rhs;unfold jw
   rw [if_neg e]) (fun fuel=>by
  rw [xQ,mJ];simp only [ak,cond_false])
 rw [show kE s 32 ah (([]:List ByteArray),0,0)=_ from hh]
 obtain ⟨c1,c2⟩:=Im 32 (tl s) s.size
 obtain ⟨d1,d2⟩:=Oe 32 (tl s) s.size (by omega)
 have b1:DF ((jw 32 (tl s) s.size).2:Int) (s.size:Int) s.size=true:=decide_eq_true (by omega)
 have b2: ∀x:ByteArray,bw ((jw 32 (tl s) s.size).1.map aW).length ([x]:List ByteArray).length=true:=fun x=>decide_eq_true (by simp;omega)
 simp only [Option.bind_some,b1,b2,aa,LF,Int.toNat_natCast]
 have hn:(32:UInt8)∉(tl s).drop (jw 32 (tl s) s.size).2:=by
  intro hm
  obtain ⟨j,hj,he⟩:=List.mem_iff_getElem.1 hm
  rw [List.length_drop] at hj
  have:=d1 ((jw 32 (tl s) s.size).2+j) (by omega) (by omega)
  rw [ac (by omega)] at this
  rw [List.getElem_drop] at he
  exact this he
 rw [d2,zZ 32 _ hn,List.map_append,List.take_of_length_le (by rw [List.length_drop];omega)]
 rfl
end Go.Proofs.YtjdlgannencchaaGreatDoor
namespace Go.Proofs.YtjdlgannencchaaGreatDoor
open Go.ChangeShapes Go.WideShapes Go.ChangeAt Go.RowKit
set_option linter.unusedVariables false
set_option linter.unusedSimpArgs false
theorem EB {σ Out:Type} (L:Nat→σ→Option Out) (st:Nat→σ) (n:Nat) (P:Nat→Bool) (fv:Nat→Option Out) (out:Option Out) (hn:n≤1099511627776) (hstep: ∀k fuel,k<n→L (fuel+1) (st k)=bif P k then fv k else L fuel (st (k+1))) (hend: ∀fuel,L (fuel+1) (st n)=out):
 L ah (st 0)=match (List.range n).find? P with |some k=>fv k |none=>out:=by
 have key: ∀j k fuel,k+j=n→j<fuel→L fuel (st k)=match (List.range' k j).find? P with |some k=>fv k |none=>out:=by
  intro j
  induction j with
  |zero=>
   intro k fuel hk hf
   obtain ⟨f,rfl⟩: ∃f,fuel=f+1:=⟨fuel-1,by omega⟩
   obtain rfl:k=n:=by omega
   simpa using hend f
  |succ j ih=>
   intro k fuel hk hf
   obtain ⟨f,rfl⟩: ∃f,fuel=f+1:=⟨fuel-1,by omega⟩
   rw [hstep k f (by omega),ih (k+1) f (by omega) (by omega),List.range'_succ,List.find?_cons]
   cases P k<;>simp
 rw [key n 0 ah (by omega) (qh hn),List.range_eq_range']
abbrev Pm:=List (Int×Int)
abbrev Wk:=List Bool×List Bool×Pm
def Ux (l:Pm) (p:Int×Int):Int:=match (List.range l.length).find? (fun k=>(l.getD k (0,0)).1==p.1&&(l.getD k (0,0)).2==p.2) with |some k=>(k:Int) |none=> -1
theorem yX (l:Pm) (p:Int×Int):(Ux l p= -1∧p∉l)∨(∃k,k<l.length∧Ux l p=(k:Int)∧l.getD k (0,0)=p∧ ∀j,j<k→l.getD j (0,0)≠p):=by
 unfold Ux
 cases h:(List.range l.length).find? (fun k=>(l.getD k (0,0)).1==p.1&&(l.getD k (0,0)).2==p.2) with
 |none=>
  left
  refine ⟨rfl,fun hp=>?_⟩
  obtain ⟨k,hk,rfl⟩:=List.mem_iff_getElem.1 hp
  have:=List.find?_eq_none.1 h k (by simpa using hk)
  rw [ac hk] at this
  simp at this
 |some k=>
  right
  obtain ⟨h1,h2,h3⟩:=List.find?_range_eq_some.1 h
  have hk:k<l.length:=by simpa using h2
  simp only [Bool.and_eq_true,beq_iff_eq] at h1
  refine ⟨k,hk,rfl,Prod.ext h1.1 h1.2,fun j hj e=>?_⟩
  have:=h3 j hj
  rw [e] at this
  simp at this
theorem MJ {l:Pm} {p:Int×Int}:aF 0 (Ux l p)=decide (p∈l):=by
 rcases yX l p with ⟨h1,h2⟩ |⟨k,hk,h1,h2,h3⟩
 ·rw [h1];simp [aF,h2]
 ·have:p∈l:=by rw [←h2,ac hk];exact List.getElem_mem hk
  rw [h1];simp [aF,this]
theorem sw {l:Pm} {p:Int×Int} {k:Nat}:p∈l.take k↔ ∃j,j<k∧j<l.length∧l.getD j (0,0)=p:=by
 constructor
 ·intro h
  obtain ⟨j,hj,rfl⟩:=List.mem_iff_getElem.1 h
  have hj':j<k∧j<l.length:=by rw [List.length_take] at hj;omega
  exact ⟨j,hj'.1,hj'.2,by rw [ac hj'.2];simp⟩
 ·rintro ⟨j,h1,h2,rfl⟩
  rw [ac h2]
  exact List.mem_iff_getElem.2 ⟨j,by simp;omega,by simp⟩
theorem Vj {l:Pm} {k:Nat} (hk:k<l.length):af (Ux l (l.getD k (0,0))) (k:Int)=decide (l.getD k (0,0)∈l.take k):=by
 rcases yX l (l.getD k (0,0)) with ⟨h1,h2⟩ |⟨i,hi,h1,h2,h3⟩
 ·exact absurd (by rw [ac hk];exact List.getElem_mem hk) h2
 ·rw [h1]
  have hle:i≤k:=by
   rcases Nat.lt_or_ge k i with h |h
   ·exact absurd rfl (h3 k h)
   ·exact h
  rcases Nat.lt_or_ge i k with h |h
  ·have:l.getD k (0,0)∈l.take k:=sw.2 ⟨i,h,hi,h2⟩
   rw [decide_eq_true this];exact decide_eq_true (by omega)
  ·obtain rfl:i=k:=by omega
   have: ¬l.getD i (0,0)∈l.take i:=fun hm=>by
    obtain ⟨j,j1,j2,j3⟩:=sw.1 hm
    exact h3 j j1 j3
   rw [decide_eq_false this];exact decide_eq_false (by omega)
def JV (on earth:List Bool) (pm:Pm) (k:Nat):Bool:=
 LK (pm.getD k (0,0)).1 0 9&&(decide (0≤(pm.getD k (0,0)).2)&&decide ((pm.getD k (0,0)).2<(on.length:Int)))&&earth.getD (pm.getD k (0,0)).2.toNat false&& !decide (pm.getD k (0,0)∈pm.take k)
def oi (on earth:List Bool) (pm:Pm):Bool:=
 LK (on.length:Int) 1 10&&(earth.length==on.length)&&decide (pm.length≤6)&&(!(List.range on.length).any fun k=>on.getD k false&&earth.getD k false)&& !(List.range pm.length).any fun k=> !JV on earth pm k
structure WorkOk (on earth:List Bool) (pm:Pm):Prop where
 l0:1≤on.length
 l1:on.length≤10
 le:earth.length=on.length
 lp:pm.length≤6
 ne: ∀k,on.getD k false=true→earth.getD k false=false
 pm: ∀k,k<pm.length→(0≤(pm.getD k (0,0)).1∧(pm.getD k (0,0)).1≤9)∧(0≤(pm.getD k (0,0)).2∧(pm.getD k (0,0)).2<(on.length:Int))∧earth.getD (pm.getD k (0,0)).2.toNat false=true∧pm.getD k (0,0)∉pm.take k
theorem Pi {on earth:List Bool} {pm:Pm} {k:Nat}:JV on earth pm k=true↔(0≤(pm.getD k (0,0)).1∧(pm.getD k (0,0)).1≤9)∧(0≤(pm.getD k (0,0)).2∧(pm.getD k (0,0)).2<(on.length:Int))∧earth.getD (pm.getD k (0,0)).2.toNat false=true∧pm.getD k (0,0)∉pm.take k:=by
 simp only [JV,Bool.and_eq_true,uL,decide_eq_true_eq,Bool.not_eq_true',decide_eq_false_iff_not,and_assoc]
theorem NT {n:Nat} {f:Nat→Bool}:(!(List.range n).any f)=true↔ ∀k,k<n→f k=false:=by
 rw [Bool.not_eq_true',List.any_eq_false]
 simp only [List.mem_range,Bool.not_eq_true]
theorem xd {on earth:List Bool} {pm:Pm}:oi on earth pm=true↔WorkOk on earth pm:=by
 unfold oi
 rw [Bool.and_eq_true,NT,Bool.and_eq_true,NT,Bool.and_eq_true,Bool.and_eq_true,uL,beq_iff_eq,decide_eq_true_eq]
 constructor
 ·rintro ⟨⟨⟨⟨h1,h2⟩,h3⟩,h4⟩,h5⟩
  refine ⟨by omega,by omega,h2,h3,fun k hk=>?_,fun k hk=>Pi.1 (by have:=h5 k hk;simpa using this)⟩
  by_cases hl:k<on.length
  ·have:=h4 k hl
   rw [hk] at this
   simpa using this
  ·simp [List.getD,List.getElem?_eq_none (Nat.le_of_not_lt hl)] at hk
 ·intro h
  have:=h.l0;have:=h.l1
  refine ⟨⟨⟨⟨by omega,h.le⟩,h.lp⟩,fun k hk=>?_⟩,fun k hk=>by rw [Pi.2 (h.pm k hk)];rfl⟩
  cases ho:on.getD k false
  ·rfl
  ·rw [h.ne k ho];rfl
theorem aed (n:Int):LK n 1 10=(!af n 1&& !af 10 n):=by rw [Bool.eq_iff_iff];simp [LK,af]
theorem lt6 (n:Nat):af 6 (n:Int)= !decide (n≤6):=by rw [Bool.eq_iff_iff];simp [af];omega
theorem RE (a b:Nat):((a:Int) !=(b:Int))= !(a==b):=by rw [Bool.eq_iff_iff];simp;omega
def cU (pm:Pm) (line:Int):List Int:=(pm.filter (·.2==line)).map (·.1)
theorem LI {pm:Pm} {line:Int} {k:Nat} (hk:k<pm.length):cU (pm.take (k+1)) line=if (pm.getD k (0,0)).2==line then cU (pm.take k) line++ [(pm.getD k (0,0)).1] else cU (pm.take k) line:=by
 unfold cU
 rw [List.take_succ_eq_append_getElem hk,List.filter_append,List.map_append,ac hk]
 cases h:pm[k].2==line<;>simp [h]
theorem Jv (pm:Pm) (line:Int):(cU pm line).length≤pm.length:=by
 unfold cU;rw [List.length_map];exact List.length_filter_le _ _
def mf (w:Wk) (kd a who:Int):Bool:=
 if kd=0∨kd=2 then !w.1.getD a.toNat false&& !w.2.1.getD a.toNat false
 else if kd=1 then w.1.getD a.toNat false
 else if kd=3 then w.2.1.getD a.toNat false&&decide (cU w.2.2 a=[])
 else if kd=4 then w.2.1.getD a.toNat false&&(LK who 0 9&& !decide ((who,a)∈w.2.2)&&decide (w.2.2.length<6))
 else if kd=5 then decide ((who,a)∈w.2.2)
 else false
def eF (w:Wk) (kd a who:Int):Wk:=
 if kd=0 then (w.1.set a.toNat true,w.2.1,w.2.2)
 else if kd=1 then (w.1.set a.toNat false,w.2.1,w.2.2)
 else if kd=2 then (w.1,w.2.1.set a.toNat true,w.2.2)
 else if kd=3 then (w.1,w.2.1.set a.toNat false,w.2.2)
 else if kd=4 then (w.1,w.2.1,w.2.2++ [(who,a)])
 else (w.1,w.2.1,w.2.2.take (Ux w.2.2 (who,a)).toNat++w.2.2.drop ((Ux w.2.2 (who,a)).toNat+1))
def ic (w:Wk) (kd a who:Int):Wk×Bool:=
 if oi w.1 w.2.1 w.2.2 then (if 0≤a∧a<(w.1.length:Int)∧mf w kd a who=true then (eF w kd a who,true) else (w,false)) else (([],[],[]),false)
def pz (r:Wk×Bool):List Bool×List Bool×Pm×Bool:=(r.1.1,r.1.2.1,r.1.2.2,r.2)
theorem Sw (l:List Int):((l.length:Int)==0)=decide (l=[]):=by cases l<;>simp;omega
theorem YP (w:Wk) (kd a who:Int):(eF w kd a who).1.length=w.1.length∧(eF w kd a who).2.1.length=w.2.1.length∧(eF w kd a who).2.2.length≤w.2.2.length+1:=by
 unfold eF
 repeat' split
 all_goals simp
 omega
theorem wh {α:Type} {l:List α} {k:Nat} {y d:α} (hk:k<l.length):(l.set k y).getD k d=y:=by simp [List.getD,hk]
theorem fJ {α:Type} {l:List α} {i j:Nat} {y d:α} (h:i≠j):(l.set i y).getD j d=l.getD j d:=by simp [List.getD,List.getElem?_set_ne h]
theorem adR {α:Type} {l:List α} {k:Nat} {d:α} (h:l.length≤k):l.getD k d=d:=by simp [List.getD,List.getElem?_eq_none h]
structure WOk (w:Wk):Prop where
 l0:1≤w.1.length
 l1:w.1.length≤10
 le:w.2.1.length=w.1.length
 lp:w.2.2.length≤6
 ne: ∀k,w.1.getD k false=true→w.2.1.getD k false=false
 pm: ∀p∈w.2.2,(0≤p.1∧p.1≤9)∧(0≤p.2∧p.2<(w.1.length:Int))∧w.2.1.getD p.2.toNat false=true
 nd:w.2.2.Nodup
theorem IG {w:Wk}:oi w.1 w.2.1 w.2.2=true↔WOk w:=by
 rw [xd]
 constructor
 ·intro h
  refine ⟨h.l0,h.l1,h.le,h.lp,h.ne,fun p hp=>?_,?_⟩
  ·obtain ⟨k,hk,rfl⟩:=List.mem_iff_getElem.1 hp
   have:=h.pm k hk
   rw [ac hk] at this
   exact ⟨this.1,this.2.1,this.2.2.1⟩
  ·rw [List.nodup_iff_pairwise_ne,List.pairwise_iff_getElem]
   intro i j hi hj hij e
   refine (h.pm j hj).2.2.2 (sw.2 ⟨i,hij,hi,?_⟩)
   rw [ac hi,ac hj,e]
 ·intro h
  refine ⟨h.l0,h.l1,h.le,h.lp,h.ne,fun k hk=>?_⟩
  have hm:=h.pm (w.2.2.getD k (0,0)) (by rw [ac hk];exact List.getElem_mem hk)
  refine ⟨hm.1,hm.2.1,hm.2.2,fun ht=>?_⟩
  obtain ⟨j,h1,h2,h3⟩:=sw.1 ht
  have hp:=h.nd
  rw [List.nodup_iff_pairwise_ne,List.pairwise_iff_getElem] at hp
  rw [ac h2,ac hk] at h3
  exact hp j k h2 hk h1 h3
theorem TW {w:Wk} {a who:Int} (hm:(who,a)∈w.2.2): ∃A B,w.2.2=A++(who,a)::B∧eF w 5 a who=(w.1,w.2.1,A++B):=by
 rcases yX w.2.2 (who,a) with ⟨h1,h2⟩ |⟨k,hk,h1,h2,h3⟩
 ·exact absurd hm h2
 refine ⟨w.2.2.take k,w.2.2.drop (k+1),?_,?_⟩
 ·rw [←h2,ac hk];simp
 ·unfold eF
  rw [if_neg (by decide),if_neg (by decide),if_neg (by decide),if_neg (by decide),if_neg (by decide),h1,Int.toNat_natCast]
theorem Vu {pm:Pm} {line x:Int}:x∈cU pm line↔(x,line)∈pm:=by
 simp only [cU,List.mem_map,List.mem_filter,beq_iff_eq]
 constructor
 ·rintro ⟨p,⟨h1,h2⟩,h3⟩
  rw [←h3,←h2];exact h1
 ·intro h;exact ⟨(x,line),⟨h,rfl⟩,rfl⟩
theorem aa4 {A B:Pm} {p:Int×Int} (h:(A++p::B).Nodup):(A++B).Nodup∧p∉A++B:=by
 rw [List.nodup_append] at h
 obtain ⟨h1,h2,h3⟩:=h
 rw [List.nodup_cons] at h2
 refine ⟨List.nodup_append.2 ⟨h1,h2.2,fun a ha b hb=>h3 a ha b (by simp [hb])⟩,fun hm=>?_⟩
 rcases List.mem_append.1 hm with hm |hm
 ·exact h3 p hm p (by simp) rfl
 ·exact h2.1 hm
theorem abk {w:Wk} {kd a who:Int} (h:WOk w) (ha:0≤a∧a<(w.1.length:Int)) (hm:mf w kd a who=true):WOk (eF w kd a who)∧eF w kd a who≠w∧mf (eF w kd a who) kd a who=false:=by
 have hal:a.toNat<w.1.length:=by omega
 have hae:a.toNat<w.2.1.length:=by have:=h.le;omega
 by_cases k0:kd=0
 ·subst k0
  have hm:w.1.getD a.toNat false=false∧w.2.1.getD a.toNat false=false:=by simpa only [mf,true_or,if_true,Bool.and_eq_true,Bool.not_eq_true'] using hm
  have e:eF w 0 a who=(w.1.set a.toNat true,w.2.1,w.2.2):=rfl
  rw [e]
  refine ⟨⟨by simpa using h.l0,by simpa using h.l1,by simpa using h.le,h.lp,fun k hk=>?_,fun p hp=>by simpa using h.pm p hp,h.nd⟩,fun hc=>?_,?_⟩
  ·by_cases hka:a.toNat=k
   ·rw [←hka];exact hm.2
   ·exact h.ne k (by rwa [fJ hka] at hk)
  ·have:=congrArg (fun w:Wk=>w.1.getD a.toNat false) hc
   simp only [wh hal,hm.1] at this
   cases this
  ·simp only [mf,true_or,if_true,wh hal];rfl
 by_cases k1:kd=1
 ·subst k1
  have hm:w.1.getD a.toNat false=true:=hm
  have e:eF w 1 a who=(w.1.set a.toNat false,w.2.1,w.2.2):=rfl
  rw [e]
  refine ⟨⟨by simpa using h.l0,by simpa using h.l1,by simpa using h.le,h.lp,fun k hk=>?_,fun p hp=>by simpa using h.pm p hp,h.nd⟩,fun hc=>?_,?_⟩
  ·by_cases hka:a.toNat=k
   ·rw [←hka] at hk;rw [wh hal] at hk;cases hk
   ·exact h.ne k (by rwa [fJ hka] at hk)
  ·have:=congrArg (fun w:Wk=>w.1.getD a.toNat false) hc
   simp only [wh hal,hm] at this
   cases this
  ·exact wh hal
 by_cases k2:kd=2
 ·subst k2
  have hm:w.1.getD a.toNat false=false∧w.2.1.getD a.toNat false=false:=by simpa only [mf,or_true,if_true,Bool.and_eq_true,Bool.not_eq_true'] using hm
  have e:eF w 2 a who=(w.1,w.2.1.set a.toNat true,w.2.2):=rfl
  rw [e]
  refine ⟨⟨h.l0,h.l1,by simpa using h.le,h.lp,fun k hk=>?_,fun p hp=>?_,h.nd⟩,fun hc=>?_,?_⟩
  ·by_cases hka:a.toNat=k
   ·rw [←hka] at hk;rw [hm.1] at hk;cases hk
   ·rw [fJ hka];exact h.ne k hk
  ·obtain ⟨p1,p2,p3⟩:=h.pm p hp
   refine ⟨p1,p2,?_⟩
   by_cases hka:a.toNat=p.2.toNat
   ·rw [←hka,wh hae]
   ·rw [fJ hka];exact p3
  ·have:=congrArg (fun w:Wk=>w.2.1.getD a.toNat false) hc
   simp only [wh hae,hm.2] at this
   cases this
  ·simp only [mf,or_true,if_true,wh hae];simp
 by_cases k3:kd=3
 ·subst k3
  have hm:w.2.1.getD a.toNat false=true∧cU w.2.2 a=[]:=by
   have:(w.2.1.getD a.toNat false&&decide (cU w.2.2 a=[]))=true:=hm
   simpa only [Bool.and_eq_true,decide_eq_true_eq] using this
  have e:eF w 3 a who=(w.1,w.2.1.set a.toNat false,w.2.2):=rfl
  rw [e]
  refine ⟨⟨h.l0,h.l1,by simpa using h.le,h.lp,fun k hk=>?_,fun p hp=>?_,h.nd⟩,fun hc=>?_,?_⟩
  ·by_cases hka:a.toNat=k
   ·rw [←hka,wh hae]
   ·rw [fJ hka];exact h.ne k hk
  ·obtain ⟨p1,p2,p3⟩:=h.pm p hp
   refine ⟨p1,p2,?_⟩
   have hka:a.toNat≠p.2.toNat:=fun hka=>by
    have hpa:p.2=a:=by omega
    have:p.1∈cU w.2.2 a:=Vu.2 (by rw [←hpa];exact hp)
    rw [hm.2] at this;simp at this
   rw [fJ hka];exact p3
  ·have:=congrArg (fun w:Wk=>w.2.1.getD a.toNat false) hc
   simp only [wh hae,hm.1] at this
   cases this
  ·show ((w.2.1.set a.toNat false).getD a.toNat false&&_)=false
   rw [wh hae];rfl
 by_cases k4:kd=4
 ·subst k4
  have hm:w.2.1.getD a.toNat false=true∧(0≤who∧who≤9)∧(who,a)∉w.2.2∧w.2.2.length<6:=by
   have:(w.2.1.getD a.toNat false&&(LK who 0 9&& !decide ((who,a)∈w.2.2)&&decide (w.2.2.length<6)))=true:=hm
   simp only [Bool.and_eq_true,decide_eq_true_eq,uL,Bool.not_eq_true',decide_eq_false_iff_not] at this
   exact ⟨this.1,this.2.1.1,this.2.1.2,this.2.2⟩
  have e:eF w 4 a who=(w.1,w.2.1,w.2.2++ [(who,a)]):=rfl
  rw [e]
  refine ⟨⟨h.l0,h.l1,h.le,by simp;omega,h.ne,fun p hp=>?_,?_⟩,fun hc=>?_,?_⟩
  ·rcases List.mem_append.1 hp with hp |hp
   ·exact h.pm p hp
   ·have hp:p=(who,a):=by simpa using hp
    subst hp
    exact ⟨hm.2.1,ha,hm.1⟩
  ·refine List.nodup_append.2 ⟨h.nd,by simp,fun x hx y hy e=>?_⟩
   have hy:y=(who,a):=by simpa using hy
   rw [e,hy] at hx
   exact hm.2.2.1 hx
  ·have:=congrArg (fun w:Wk=>w.2.2.length) hc
   simp at this
  ·show (w.2.1.getD a.toNat false&&(LK who 0 9&& !decide ((who,a)∈w.2.2++ [(who,a)])&&decide ((w.2.2++ [(who,a)]).length<6)))=false
   simp
 by_cases k5:kd=5
 ·subst k5
  have hmem:(who,a)∈w.2.2:=by
   have:decide ((who,a)∈w.2.2)=true:=hm
   simpa using this
  obtain ⟨A,B,e1,e2⟩:=TW hmem
  have hnd:=h.nd
  rw [e1] at hnd
  obtain ⟨n1,n2⟩:=aa4 hnd
  rw [e2]
  have hlp:=h.lp
  rw [e1] at hlp
  refine ⟨⟨h.l0,h.l1,h.le,by simp at hlp ⊢;omega,h.ne,fun p hp=>h.pm p ?_,n1⟩,fun hc=>?_,?_⟩
  ·rw [e1]
   rcases List.mem_append.1 hp with hp |hp
   ·simp [hp]
   ·simp [hp]
  ·have:=congrArg (fun w:Wk=>w.2.2.length) hc
   rw [e1] at this
   simp at this<;>omega
  ·show decide ((who,a)∈A++B)=false
   exact decide_eq_false n2
 ·simp [mf,k0,k1,k2,k3,k4,k5] at hm
theorem Fn {w:Wk} (h:WOk w) (kd a who:Int):(ic w kd a who=(eF w kd a who,true)∧(0≤a∧a<(w.1.length:Int))∧mf w kd a who=true∧WOk (eF w kd a who))∨(ic w kd a who=(w,false)∧ ¬((0≤a∧a<(w.1.length:Int))∧mf w kd a who=true)):=by
 unfold ic
 rw [if_pos (IG.2 h)]
 by_cases hc:0≤a∧a<(w.1.length:Int)∧mf w kd a who=true
 ·rw [if_pos hc];exact .inl ⟨rfl,⟨hc.1,hc.2.1⟩,hc.2.2,(abk h ⟨hc.1,hc.2.1⟩ hc.2.2).1⟩
 ·rw [if_neg hc];exact .inr ⟨rfl,fun hh=>hc ⟨hh.1.1,hh.1.2,hh.2⟩⟩
def fE (pm:Pm):List (Int×Int×Int):=pm.map fun p=>(5,p.2,p.1)
theorem LY {pm:Pm} {k:Nat} (hk:k<pm.length):fE (pm.take (k+1))=fE (pm.take k)++ [(5,(pm.getD k (0,0)).2,(pm.getD k (0,0)).1)]:=by
 rw [List.take_succ_eq_append_getElem hk,ac hk]
 simp only [fE,List.map_append,List.map_cons,List.map_nil]
def oD (kd:Int) (l:List Bool) (b:Bool):Nat→List (Int×Int×Int)
 |0=> []
 |k+1=>if (l.getD k false==b)=true then oD kd l b k++ [(kd,(k:Int),0)] else oD kd l b k
theorem Dq (kd:Int) (l:List Bool) (b:Bool): ∀k,(oD kd l b k).length≤k
 |0=>by simp [oD]
 |k+1=>by have:=Dq kd l b k;simp only [oD];split<;>simp<;>omega
inductive Cn (E:List (Nat×Nat)):Nat→Nat→Prop
 |refl (a:Nat):Cn E a a
 |step {a b c:Nat}:Cn E a b→(b,c)∈E∨(c,b)∈E→Cn E a c
theorem Cn.trans {E:List (Nat×Nat)} {a b c:Nat} (h:Cn E a b) (k:Cn E b c):Cn E a c:=by
 induction k with
 |refl=>exact h
 |step _ e ih=>exact ih.step e
theorem Cn.one {E:List (Nat×Nat)} {a b:Nat} (h:(a,b)∈E∨(b,a)∈E):Cn E a b:=(Cn.refl a).step h
theorem Cn.symm {E:List (Nat×Nat)} {a b:Nat} (h:Cn E a b):Cn E b a:=by
 induction h with
 |refl=>exact .refl _
 |step _ e ih=>exact (Cn.one e.symm).trans ih
theorem Cn.mono {E F:List (Nat×Nat)} (hEF: ∀e∈E,e∈F) {a b:Nat} (h:Cn E a b):Cn F a b:=by
 induction h with
 |refl=>exact .refl _
 |step _ e ih=>exact ih.step (e.imp (hEF _) (hEF _))
theorem RI {E:List (Nat×Nat)} {x y a b:Nat}:Cn (E++ [(x,y)]) a b↔Cn E a b∨(Cn E a x∧Cn E y b)∨(Cn E a y∧Cn E x b):=by
 have hm: ∀ {a b:Nat},Cn E a b→Cn (E++ [(x,y)]) a b:=fun h=>h.mono fun e he=>by simp [he]
 constructor
 ·intro h
  induction h with
  |refl=>exact .inl (.refl _)
  | @step b c _ e ih=>
   have he:((b,c)∈E∨(c,b)∈E)∨((b=x∧c=y)∨(b=y∧c=x)):=by
    simp only [List.mem_append,List.mem_singleton,Prod.mk.injEq] at e
    rcases e with (e |e) |(e |e)
    ·exact .inl (.inl e)
    ·exact .inr (.inl e)
    ·exact .inl (.inr e)
    ·exact .inr (.inr ⟨e.2,e.1⟩)
   rcases he with he |⟨rfl,rfl⟩ |⟨rfl,rfl⟩
   ·rcases ih with ih |⟨h1,h2⟩ |⟨h1,h2⟩
    ·exact .inl (ih.step he)
    ·exact .inr (.inl ⟨h1,h2.step he⟩)
    ·exact .inr (.inr ⟨h1,h2.step he⟩)
   ·rcases ih with ih |⟨h1,h2⟩ |⟨h1,h2⟩
    ·exact .inr (.inl ⟨ih,.refl _⟩)
    ·exact .inr (.inl ⟨h1,.refl _⟩)
    ·exact .inl h1
   ·rcases ih with ih |⟨h1,h2⟩ |⟨h1,h2⟩
    ·exact .inr (.inr ⟨ih,.refl _⟩)
    ·exact .inl h1
    ·exact .inr (.inr ⟨h1,.refl _⟩)
 ·have hxy:Cn (E++ [(x,y)]) x y:=.one (.inl (by simp))
  rintro (h |⟨h1,h2⟩ |⟨h1,h2⟩)
  ·exact hm h
  ·exact ((hm h1).trans hxy).trans (hm h2)
  ·exact ((hm h1).trans hxy.symm).trans (hm h2)
def sh (f:Nat→Nat) (a b:Nat) (c:Nat):Nat:=if f c=max (f a) (f b) then min (f a) (f b) else f c
def aP (E:List (Nat×Nat)):Nat→Nat:=E.foldl (fun f e=>sh f e.1 e.2) id
theorem Dr (E:List (Nat×Nat)) (e:Nat×Nat):aP (E++ [e])=sh (aP E) e.1 e.2:=by unfold aP;rw [List.foldl_append];rfl
theorem Wu (f:Nat→Nat) (x y a b:Nat):sh f x y a=sh f x y b↔f a=f b∨(f a=f x∧f y=f b)∨(f a=f y∧f x=f b):=by
 unfold sh
 split<;>split<;>omega
theorem Iy {α:Type} {P:List α→Prop} (h0:P []) (h1: ∀l a,P l→P (l++ [a])): ∀l,P l:=by
 intro l
 have: ∀r:List α,P r.reverse:=by
  intro r
  induction r with
  |nil=>exact h0
  |cons a r ih=>rw [List.reverse_cons];exact h1 _ _ ih
 have:=this l.reverse
 rwa [List.reverse_reverse] at this
theorem oW (E:List (Nat×Nat)): ∀a b,aP E a=aP E b↔Cn E a b:=by
 refine Iy (P:=fun E=> ∀a b,aP E a=aP E b↔Cn E a b) ?_ ?_ E
 ·intro a b
  constructor
  ·intro h;have h:a=b:=h;subst h;exact .refl _
  ·intro h
   cases h with
   |refl=>rfl
   |step _ e=>simp at e
 ·intro E e ih a b
  obtain ⟨x,y⟩:=e
  rw [Dr,Wu,ih,ih,ih,ih,ih,RI]
theorem VN (E:List (Nat×Nat)):(∀a,aP E a≤a)∧ ∀a,aP E (aP E a)=aP E a:=by
 refine Iy (P:=fun E=>(∀a,aP E a≤a)∧ ∀a,aP E (aP E a)=aP E a) ⟨fun a=>Nat.le_refl a,fun a=>rfl⟩ ?_ E
 rintro E ⟨x,y⟩ ⟨h1,h2⟩
 rw [Dr]
 refine ⟨fun a=>?_,fun a=>?_⟩
 ·have:=h1 a
  unfold sh
  split<;>omega
 ·have ha:=h2 a
  have hx:=h2 x
  have hy:=h2 y
  unfold sh
  by_cases hc:aP E a=max (aP E x) (aP E y)
  ·rw [if_pos hc]
   rcases Nat.le_total (aP E x) (aP E y) with hle |hle
   ·rw [Nat.min_eq_left hle,hx];split<;>omega
   ·rw [Nat.min_eq_right hle,hy];split<;>omega
  ·rw [if_neg hc,ha,if_neg hc]
def Dn (u:List Nat):Prop:= ∀b,b<u.length→u.getD b 0≤b
inductive Rot (u:List Nat):Nat→Nat→Prop
 |stop {r:Nat}:u.getD r 0=r→Rot u r r
 |go {b r:Nat}:Rot u (u.getD b 0) r→Rot u b r
theorem Rot.root {u:List Nat} {b r:Nat} (h:Rot u b r):u.getD r 0=r:=by
 induction h with
 |stop h=>exact h
 |go _ ih=>exact ih
theorem Rot.fix {u:List Nat} {b r:Nat} (h:Rot u b r) (hb:u.getD b 0=b):r=b:=by
 induction h with
 |stop _=>rfl
 |go _ ih=>exact (ih (by rw [hb];exact hb)).trans hb
theorem Rot.uniq {u:List Nat} {b r r':Nat} (h:Rot u b r) (h':Rot u b r'):r=r':=by
 induction h with
 |stop h=>exact (h'.fix h).symm
 | @go b r h1 ih=>
  cases h' with
  |stop h2=>exact h1.fix (by rw [h2];exact h2) |>.trans h2
  |go h2=>exact ih h2
theorem Rot.next {u:List Nat} {b r:Nat} (h:Rot u b r):Rot u (u.getD b 0) r:=by
 cases h with
 |stop h=>rw [h];exact .stop h
 |go h=>exact h
theorem Rot.ex {u:List Nat} (h:Dn u): ∀b,b<u.length→ ∃r,Rot u b r∧r≤b:=by
 intro b
 induction b using Nat.strongRecOn with
 |ind b ih=>
  intro hb
  by_cases hc:u.getD b 0=b
  ·exact ⟨b,.stop hc,Nat.le_refl _⟩
  ·have h1:=h b hb
   obtain ⟨r,h2,h3⟩:=ih (u.getD b 0) (by omega) (by omega)
   exact ⟨r,.go h2,by omega⟩
theorem pC {u:List Nat} {b v c:Nat} (hb:b<u.length):(u.set b v).getD c 0=if c=b then v else u.getD c 0:=by
 by_cases h:c=b
 ·subst h;simp [List.getD,hb]
 ·rw [if_neg h];simp [List.getD,List.getElem?_set_ne (Ne.symm h)]
theorem Rot.halve {u:List Nat} (h:Dn u) {b:Nat} (hb:b<u.length): ∀c r,c<u.length→(Rot u c r→Rot (u.set b (u.getD (u.getD b 0) 0)) c r):=by
 intro c
 induction c using Nat.strongRecOn with
 |ind c ih=>
  intro r hc hr
  by_cases hf:u.getD c 0=c
  ·have e:=hr.fix hf
   subst e
   refine .stop ?_
   rw [pC hb]
   split
   ·rename_i e;subst e;rw [hf];exact hf
   ·exact hf
  ·have h1:=h c hc
   refine .go ?_
   rw [pC hb]
   split
   ·rename_i e;subst e
    have h2:=h (u.getD c 0) (by omega)
    exact ih _ (by omega) r (by omega) hr.next.next
   ·exact ih _ (by omega) r (by omega) hr.next
theorem Dn.halve {u:List Nat} (h:Dn u) {b:Nat} (hb:b<u.length):Dn (u.set b (u.getD (u.getD b 0) 0)):=by
 intro c hc
 rw [List.length_set] at hc
 rw [pC hb]
 split
 ·rename_i e;subst e
  have h1:=h c hc
  have h2:=h (u.getD c 0) (by omega)
  omega
 ·exact h c hc
theorem Rot.join {u:List Nat} {f:Nat→Nat} (h:Dn u) (hf: ∀c,c<u.length→Rot u c (f c)) {a b:Nat} (ha:a<u.length) (hb:b<u.length) (hlt: ∀c,c<u.length→f c≤c):
 ∀c,c<u.length→Rot (u.set (max (f a) (f b)) (min (f a) (f b))) c (sh f a b c):=by
 have la:=hlt a ha
 have lb:=hlt b hb
 have hm:max (f a) (f b)<u.length:=by omega
 have hmin:(u.set (max (f a) (f b)) (min (f a) (f b))).getD (min (f a) (f b)) 0=min (f a) (f b):=by
  rw [pC hm]
  split
  ·rfl
  ·rcases Nat.le_total (f a) (f b) with hle |hle
   ·rw [Nat.min_eq_left hle];exact (hf a ha).root
   ·rw [Nat.min_eq_right hle];exact (hf b hb).root
 intro c
 induction c using Nat.strongRecOn with
 |ind c ih=>
  intro hc
  by_cases hcm:c=max (f a) (f b)
  ·have hroot:u.getD c 0=c:=by
    rw [hcm]
    rcases Nat.le_total (f a) (f b) with hle |hle
    ·rw [Nat.max_eq_right hle];exact (hf b hb).root
    ·rw [Nat.max_eq_left hle];exact (hf a ha).root
   have hfc:f c=c:=(hf c hc).fix hroot
   have e:sh f a b c=min (f a) (f b):=by unfold sh;rw [if_pos (by rw [hfc];exact hcm)]
   rw [e]
   refine .go ?_
   rw [pC hm,if_pos hcm]
   exact .stop hmin
  ·by_cases hroot:u.getD c 0=c
   ·have hfc:f c=c:=(hf c hc).fix hroot
    have e:sh f a b c=c:=by unfold sh;rw [if_neg (by rw [hfc];exact hcm),hfc]
    rw [e]
    refine .stop ?_
    rw [pC hm,if_neg hcm];exact hroot
   ·have h1:=h c hc
    have e:f (u.getD c 0)=f c:=(hf (u.getD c 0) (by omega)).uniq (hf c hc).next
    have e2:sh f a b c=sh f a b (u.getD c 0):=by unfold sh;rw [e]
    rw [e2]
    refine .go ?_
    rw [pC hm,if_neg hcm]
    exact ih _ (by omega) (by omega)
def LJ (s:Nat→Bool) (e:Nat×Nat):Nat→Bool:=if s e.1 ||s e.2 then fun c=>c==e.1 ||c==e.2 ||s c else s
def me (E:List (Nat×Nat)) (s:Nat→Bool):Nat→Bool:=E.foldl LJ s
def aM (E:List (Nat×Nat)) (s:Nat→Bool):Nat→Nat→Bool
 |0=>s
 |k+1=>me E (aM E s k)
theorem Jw {s:Nat→Bool} {e:Nat×Nat} {c:Nat} (h:s c=true):LJ s e c=true:=by
 unfold LJ;split<;>simp [h]
theorem qb (E:List (Nat×Nat)): ∀ {s:Nat→Bool} {c:Nat},s c=true→me E s c=true:=by
 induction E with
 |nil=>intro s c h;exact h
 |cons e E ih=>intro s c h;exact ih (Jw h)
theorem Me (E:List (Nat×Nat)): ∀ {s:Nat→Bool} {e:Nat×Nat},e∈E→(s e.1 ||s e.2)=true→me E s e.1=true∧me E s e.2=true:=by
 induction E with
 |nil=>intro s e h;simp at h
 |cons d E ih=>
  intro s e h hs
  rcases List.mem_cons.1 h with rfl |h
  ·have h1:LJ s e e.1=true:=by unfold LJ;rw [if_pos hs];simp
   have h2:LJ s e e.2=true:=by unfold LJ;rw [if_pos hs];simp
   exact ⟨qb E h1,qb E h2⟩
  ·refine ih (s:=LJ s d) h ?_
   rw [Bool.or_eq_true] at hs ⊢
   exact hs.imp Jw Jw
theorem PF {F:List (Nat×Nat)} {b:Nat} (E:List (Nat×Nat)): ∀ {s:Nat→Bool},(∀e∈E,e∈F)→(∀c,s c=true→Cn F b c)→ ∀c,me E s c=true→Cn F b c:=by
 induction E with
 |nil=>intro s _ h c hc;exact h c hc
 |cons e E ih=>
  intro s hE h c hc
  refine ih (s:=LJ s e) (fun x hx=>hE x (by simp [hx])) (fun c hc=>?_) c hc
  unfold LJ at hc
  split at hc
  ·rename_i hs
   have he:e∈F:=hE e (by simp)
   have h1:Cn F b e.1∧Cn F b e.2:=by
    rw [Bool.or_eq_true] at hs
    rcases hs with hs |hs
    ·exact ⟨h _ hs,(h _ hs).step (.inl he)⟩
    ·exact ⟨(h _ hs).step (.inr he),h _ hs⟩
   simp only [Bool.or_eq_true,beq_iff_eq] at hc
   rcases hc with (rfl |rfl) |hc
   ·exact h1.1
   ·exact h1.2
   ·exact h c hc
  ·exact h c hc
theorem NE {E:List (Nat×Nat)} {b:Nat} (k:Nat): ∀c,aM E (fun c=>c==b) k c=true→Cn E b c:=by
 induction k with
 |zero=>intro c hc;have:c=b:=by simpa [aM] using hc
        subst this;exact .refl _
 |succ k ih=>exact PF E (fun _ h=>h) ih
theorem Od {p q:Nat→Bool} (l:List Nat) (h: ∀c,p c=true→q c=true):l.countP p≤l.countP q∧((∃c∈l,q c=true∧p c=false)→l.countP p+1≤l.countP q):=by
 induction l with
 |nil=>exact ⟨Nat.le_refl _,fun ⟨c,hc,_⟩=>by simp at hc⟩
 |cons x l ih=>
  simp only [List.countP_cons]
  have hx:=h x
  refine ⟨?_,?_⟩
  ·cases hp:p x
   ·simp;omega
   ·rw [hx hp];simp;omega
  ·rintro ⟨c,hc,h1,h2⟩
   rcases List.mem_cons.1 hc with rfl |hc
   ·rw [h1,h2];simp;omega
   ·have:=ih.2 ⟨c,hc,h1,h2⟩
    cases hp:p x
    ·simp;omega
    ·rw [hx hp];simp;omega
def PZ (E:List (Nat×Nat)) (s:Nat→Bool):Prop:= ∀e∈E,s e.1=s e.2
theorem Kj {E:List (Nat×Nat)} {s:Nat→Bool} (h:PZ E s): ∀c,me E s c=s c:=by
 have: ∀(F:List (Nat×Nat)),(∀e∈F,s e.1=s e.2)→me F s=s:=by
  intro F
  induction F with
  |nil=>intro _;rfl
  |cons e F ih=>
   intro hF
   have he:LJ s e=s:=by
    have e0:=hF e (by simp)
    unfold LJ
    split
    ·rename_i hs
     funext c
     rw [e0,Bool.or_self] at hs
     by_cases h1:c=e.1
     ·subst h1;simp [e0,hs]
     ·by_cases h2:c=e.2
      ·subst h2;simp [hs]
      ·simp [h1,h2]
    ·rfl
   show me F (LJ s e)=s
   rw [he]
   exact ih fun x hx=>hF x (by simp [hx])
 intro c;rw [this E h]
theorem PH {E:List (Nat×Nat)} {B b:Nat} (hE: ∀e∈E,e.1<B∧e.2<B) (hb:b<B): ∀k,PZ E (aM E (fun c=>c==b) k)∨k+1≤(List.range B).countP (aM E (fun c=>c==b) k):=by
 intro k
 induction k with
 |zero=>
  refine .inr ?_
  have:=List.countP_pos_iff (p:=fun c=>c==b) (l:=List.range B) |>.2 ⟨b,by simpa using hb,by simp⟩
  simpa [aM] using this
 |succ k ih=>
  by_cases hs:PZ E (aM E (fun c=>c==b) k)
  ·left
   have e:aM E (fun c=>c==b) (k+1)=aM E (fun c=>c==b) k:=funext (Kj hs)
   rw [e];exact hs
  ·rcases ih with ih |ih
   ·exact absurd ih hs
   right
   have hm: ∀c,aM E (fun c=>c==b) k c=true→aM E (fun c=>c==b) (k+1) c=true:=fun c hc=>qb E hc
   obtain ⟨e,he,hne⟩: ∃e∈E,aM E (fun c=>c==b) k e.1≠aM E (fun c=>c==b) k e.2:=by
    refine Classical.byContradiction fun hn=>hs fun e he=>Classical.byContradiction fun h=>hn ⟨e,he,h⟩
   have hor:(aM E (fun c=>c==b) k e.1 ||aM E (fun c=>c==b) k e.2)=true:=by
    revert hne;cases aM E (fun c=>c==b) k e.1<;>cases aM E (fun c=>c==b) k e.2<;>simp
   have hh:=Me E he hor
   have hlt:=hE e he
   have:=(Od (List.range B) hm).2 (by
    cases h1:aM E (fun c=>c==b) k e.1
    ·exact ⟨e.1,by simpa using hlt.1,hh.1,h1⟩
    ·cases h2:aM E (fun c=>c==b) k e.2
     ·exact ⟨e.2,by simpa using hlt.2,hh.2,h2⟩
     ·rw [h1,h2] at hne;exact absurd rfl hne)
   omega
theorem Ul {E:List (Nat×Nat)} {B b c:Nat} (hE: ∀e∈E,e.1<B∧e.2<B) (hb:b<B):aM E (fun c=>c==b) B c=true↔Cn E b c:=by
 refine ⟨NE B c,fun h=>?_⟩
 have hs:PZ E (aM E (fun c=>c==b) B):=by
  rcases PH hE hb B with h |h
  ·exact h
  ·have:=List.countP_le_length (p:=aM E (fun c=>c==b) B) (l:=List.range B)
   simp at this;omega
 have hstart: ∀k,aM E (fun c=>c==b) k b=true:=by
  intro k
  induction k with
  |zero=>simp [aM]
  |succ k ih=>exact qb E ih
 induction h with
 |refl=>exact hstart B
 |step _ e ih=>
  rcases e with e |e
  ·rw [←hs _ e];exact ih
  ·rw [hs _ e];exact ih
abbrev Ed:=List (Nat×Nat)
def Fo (E:Ed):Prop:= ∀P e Q,E=P++e::Q→ ¬Cn P e.1 e.2
theorem aaB:Fo []:=by
 intro P e Q h
 have:=congrArg List.length h
 simp at this
theorem RU {E:Ed} {e:Nat×Nat}:Fo (E++ [e])↔Fo E∧ ¬Cn E e.1 e.2:=by
 constructor
 ·intro h
  exact ⟨fun P f Q hE=>h P f (Q++ [e]) (by rw [hE];simp),h E e [] rfl⟩
 ·rintro ⟨h1,h2⟩ P f Q hE
  rcases List.eq_nil_or_concat Q with rfl |⟨Q',x,rfl⟩
  ·obtain ⟨rfl,h3⟩:=List.append_inj' hE rfl
   obtain rfl:e=f:=by simpa using h3
   exact h2
  ·have hE':E++ [e]=(P++f::Q')++ [x]:=by rw [hE];simp
   obtain ⟨rfl,h3⟩:=List.append_inj' hE' rfl
   exact h1 P f Q' rfl
theorem Zz: ∀(Q P:Ed) (e:Nat×Nat),Fo (P++e::Q)→ ¬Cn (P++Q) e.1 e.2:=by
 refine Iy (P:=fun Q=> ∀(P:Ed) (e:Nat×Nat),Fo (P++e::Q)→ ¬Cn (P++Q) e.1 e.2) ?_ ?_
 ·intro P e h
  rw [List.append_nil];exact h P e [] rfl
 ·rintro Q ⟨x,y⟩ ih P e h hc
  have h':Fo ((P++e::Q)++ [(x,y)]):=by simpa using h
  rw [RU] at h'
  have hn:=ih P e h'.1
  have M: ∀ {a b:Nat},Cn (P++Q) a b→Cn (P++e::Q) a b:=fun h=>h.mono fun f hf=>by
   rcases List.mem_append.1 hf with hf |hf<;>simp [hf]
  have he:Cn (P++e::Q) e.1 e.2:=.one (.inl (by simp))
  rw [←List.append_assoc,RI] at hc
  rcases hc with hc |⟨h1,h2⟩ |⟨h1,h2⟩
  ·exact hn hc
  ·exact h'.2 ((M h1).symm.trans (he.trans (M h2).symm))
  ·exact h'.2 ((M h2).trans (he.symm.trans (M h1)))
theorem aaC {E F:Ed} (hs:E.Sublist F) (h:Fo F):Fo E:=by
 intro P e Q hE hc
 subst hE
 obtain ⟨F1,F2,rfl,s1,s2⟩:=List.append_sublist_iff.1 hs
 obtain ⟨G1,G2,rfl,m1,m2⟩:=List.cons_sublist_iff.1 s2
 obtain ⟨H1,H2,rfl⟩:=List.append_of_mem m1
 refine h (F1++H1) e (H2++G2) (by simp) (hc.mono fun f hf=>?_)
 simp [s1.subset hf]
abbrev Ln:=Int×Int×Int
def bS (l:Ln):Nat×Nat:=(l.1.toNat,l.2.1.toNat)
def wX (z:List (Ln×Bool)):Ed:=(z.filter (·.2)).map fun p=>bS p.1
def aw (ls:List Ln) (on:List Bool):Ed:=wX (ls.zip on)
theorem Nd (y z:List (Ln×Bool)):wX (y++z)=wX y++wX z:=by simp [wX]
theorem OZ {z:List (Ln×Bool)} {k:Nat} (hk:k<z.length):wX (z.take (k+1))=if z[k].2 then wX (z.take k)++ [bS z[k].1] else wX (z.take k):=by
 rw [List.take_succ_eq_append_getElem hk,Nd]
 cases h:z[k].2<;>simp [wX,h]
theorem YF {z:List (Ln×Bool)} {k:Nat} (hk:k<z.length):z=z.take k++z[k]::z.drop (k+1):=by
 rw [←List.drop_eq_getElem_cons hk,List.take_append_drop]
theorem Nb {ls:List Ln} {on:List Bool} {k:Nat} (hk:k<ls.length) (hl:on.length=ls.length) (ho:on.getD k false=true):
 aw ls on=wX ((ls.zip on).take k)++bS (ls.getD k (0,0,0))::wX ((ls.zip on).drop (k+1)):=by
 have hz:k<(ls.zip on).length:=by simp;omega
 have e:(ls.zip on)[k]=(ls.getD k (0,0,0),true):=by
  rw [ac (by omega:k<on.length)] at ho
  rw [List.getElem_zip,ac hk,ho]
 have h:=YF hz
 unfold aw
 rw [e] at h
 conv=>lhs;rw [h]
 rw [Nd]
 simp [wX]
theorem Nc {ls:List Ln} {on:List Bool} {k:Nat} (hk:k<ls.length) (hl:on.length=ls.length):
 aw ls (on.set k false)=wX ((ls.zip on).take k)++wX ((ls.zip on).drop (k+1)):=by
 have e:ls.zip (on.set k false)=(ls.zip on).take k++(ls[k],false)::(ls.zip on).drop (k+1):=by
  apply List.ext_getElem
  ·simp;omega
  ·intro i h1 h2
   have hi:i<ls.length:=by simp at h1;omega
   rw [List.getElem_zip,List.getElem_set,List.getElem_append]
   have hkz:((ls.zip on).take k).length=k:=by simp;omega
   split
   ·rename_i hik
    subst hik
    simp [hkz]
   ·split
    ·simp
    ·rename_i h3 h4
     rw [hkz] at h4
     obtain ⟨j,hj⟩: ∃j,i-((ls.zip on).take k).length=j+1:=⟨i-k-1,by rw [hkz];omega⟩
     simp only [hj,List.getElem_cons_succ,List.getElem_drop,List.getElem_zip]
     have:k+1+j=i:=by rw [hkz] at hj;omega
     simp [this]
 unfold aw
 rw [e,Nd]
 simp [wX]
theorem FP {ls:List Ln} {on:List Bool} {e:Nat×Nat}:e∈aw ls on↔ ∃k,k<ls.length∧on.getD k false=true∧e=bS (ls.getD k (0,0,0)):=by
 unfold aw wX
 rw [List.mem_map]
 constructor
 ·rintro ⟨p,hp,rfl⟩
  obtain ⟨h1,h2⟩:=List.mem_filter.1 hp
  obtain ⟨k,hk,rfl⟩:=List.mem_iff_getElem.1 h1
  have hk':k<ls.length∧k<on.length:=by rw [List.length_zip] at hk;omega
  rw [List.getElem_zip] at h2 ⊢
  exact ⟨k,hk'.1,by rw [ac hk'.2];exact h2,by rw [ac hk'.1]⟩
 ·rintro ⟨k,hk,ho,rfl⟩
  have hk2:k<on.length:=by
   rcases Nat.lt_or_ge k on.length with h |h
   ·exact h
   ·rw [List.getD_eq_getElem?_getD,List.getElem?_eq_none h] at ho;simp at ho
  refine ⟨(ls[k],on[k]),List.mem_filter.2 ⟨List.mem_iff_getElem.2 ⟨k,by simp;omega,by simp⟩,?_⟩,by rw [ac hk]⟩
  rw [ac hk2] at ho
  exact ho
theorem YE {ls:List Ln}: ∀ {on on':List Bool},on.length=on'.length→(∀k,on.getD k false=true→on'.getD k false=true)→(aw ls on).Sublist (aw ls on'):=by
 induction ls with
 |nil=>intro on on' _ _;simp [aw,wX]
 |cons l ls ih=>
  intro on on' hl h
  cases on with
  |nil=>simp [aw,wX]
  |cons b on=>
   cases on' with
   |nil=>simp at hl
   |cons b' on'=>
    have h2:=ih (on:=on) (on':=on') (by simpa using hl) (fun k hk=>by have:=h (k+1);simpa using this (by simpa using hk))
    have h0:b=true→b'=true:=fun hb=>by have:=h 0;simpa using this (by simpa using hb)
    unfold aw wX at h2 ⊢
    cases b
    ·cases b'
     ·simpa using h2
     ·simpa using h2.trans (List.sublist_cons_self _ _)
    ·rw [h0 rfl];simpa using h2
def Qk (ls:List Ln) (on:List Bool):Bool:=(List.range ls.length).any fun k=>on.getD k false&&aP (aw ls (on.set k false)) (bS (ls.getD k (0,0,0))).1==aP (aw ls (on.set k false)) (bS (ls.getD k (0,0,0))).2
def Qj (ls:List Ln) (on:List Bool):Bool:=(List.range ls.length).any fun k=>on.getD k false&&aP (wX ((ls.zip on).take k)) (bS (ls.getD k (0,0,0))).1==aP (wX ((ls.zip on).take k)) (bS (ls.getD k (0,0,0))).2
theorem RV {ls:List Ln} {on:List Bool} (hl:on.length=ls.length) (h: ∀k,k<ls.length→on.getD k false=true→ ¬Cn (wX ((ls.zip on).take k)) (bS (ls.getD k (0,0,0))).1 (bS (ls.getD k (0,0,0))).2):Fo (aw ls on):=by
 have: ∀k,k≤ls.length→Fo (wX ((ls.zip on).take k)):=by
  intro k
  induction k with
  |zero=>intro _;exact aaB
  |succ k ih=>
   intro hk
   have hz:k<(ls.zip on).length:=by simp;omega
   rw [OZ hz]
   have e1:(ls.zip on)[k].2=on.getD k false:=by rw [ac (by omega)];simp
   have e2:(ls.zip on)[k].1=ls.getD k (0,0,0):=by rw [ac (by omega)];simp
   rw [e1,e2]
   split
   ·rename_i ho
    exact RU.2 ⟨ih (by omega),h k (by omega) ho⟩
   ·exact ih (by omega)
 have h2:=this ls.length (Nat.le_refl _)
 rwa [List.take_of_length_le (by simp;omega)] at h2
theorem RJ {ls:List Ln} {on:List Bool} (hl:on.length=ls.length):Qj ls on=false↔Fo (aw ls on):=by
 unfold Qj
 rw [List.any_eq_false]
 constructor
 ·intro h
  refine RV hl fun k hk ho hc=>h k (by simpa using hk) ?_
  rw [ho,(oW _ _ _).2 hc];simp
 ·intro h k hk hc
  have hk:k<ls.length:=by simpa using hk
  simp only [Bool.and_eq_true,beq_iff_eq] at hc
  exact h _ _ _ (Nb hk hl hc.1) ((oW _ _ _).1 hc.2)
theorem Ms {ls:List Ln} {on:List Bool} (hl:on.length=ls.length):Qk ls on=false↔Fo (aw ls on):=by
 unfold Qk
 rw [List.any_eq_false]
 constructor
 ·intro h
  refine RV hl fun k hk ho hc=>h k (by simpa using hk) ?_
  rw [ho,Nc hk hl,(oW _ _ _).2 (hc.mono fun f hf=>by simp [hf])];simp
 ·intro h k hk hc
  have hk:k<ls.length:=by simpa using hk
  simp only [Bool.and_eq_true,beq_iff_eq] at hc
  rw [Nc hk hl] at hc
  rw [Nb hk hl hc.1] at h
  exact Zz _ _ _ h ((oW _ _ _).1 hc.2)
theorem aam {ls:List Ln} {on:List Bool} (hl:on.length=ls.length):Qj ls on=Qk ls on:=by
 cases h:Qk ls on
 ·exact (RJ hl).2 ((Ms hl).1 h)
 ·cases h2:Qj ls on
  ·rw [(Ms hl).2 ((RJ hl).1 h2)] at h;exact h
  ·rfl
def aG (pts:List (Int×Int)) (b:Nat):Bool:=decide (0<(pts.getD b (0,0)).1)
theorem qV {pts:List (Int×Int)} {b:Nat} (h:aG pts b=true):b<pts.length:=by
 rcases Nat.lt_or_ge b pts.length with h1 |h1
 ·exact h1
 ·simp [aG,List.getElem?_eq_none h1] at h
def Rv (E:Ed) (pts:List (Int×Int)):Bool:=(List.range pts.length).any fun k=>(List.range k).any fun j=>aG pts k&&aG pts j&&aP E j==aP E k
theorem Ko {E:Ed} {pts:List (Int×Int)}:Rv E pts=false↔ ∀a b,aG pts a=true→aG pts b=true→Cn E a b→a=b:=by
 unfold Rv
 rw [List.any_eq_false]
 constructor
 ·intro h
  have key: ∀a b,aG pts a=true→aG pts b=true→Cn E a b→ ¬a<b:=by
   intro a b ha hb hc hlt
   refine h b (by simpa using qV hb) (List.any_eq_true.2 ⟨a,by simpa using hlt,?_⟩)
   rw [ha,hb,(oW _ _ _).2 hc];simp
  intro a b ha hb hc
  have h1:=key a b ha hb hc
  have h2:=key b a hb ha hc.symm
  omega
 ·intro h k hk hc
  obtain ⟨j,hj,h2⟩:=List.any_eq_true.1 hc
  simp only [Bool.and_eq_true,beq_iff_eq] at h2
  have:=h j k h2.1.2 h2.1.1 ((oW _ _ _).1 h2.2)
  have:j<k:=by simpa using hj
  omega
def nn (ls:List Ln) (on:List Bool) (pts:List (Int×Int)):Bool:= !Qk ls on&& !Rv (aw ls on) pts
theorem JZ {ls:List Ln} {on:List Bool} {pts:List (Int×Int)} (hl:on.length=ls.length):nn ls on pts=true↔Fo (aw ls on)∧ ∀a b,aG pts a=true→aG pts b=true→Cn (aw ls on) a b→a=b:=by
 unfold nn
 rw [Bool.and_eq_true,Bool.not_eq_true',Bool.not_eq_true',Ms hl,Ko]
theorem Pk {ls:List Ln} {on on':List Bool} {pts:List (Int×Int)} (hl:on.length=ls.length) (hl':on'.length=ls.length) (h: ∀k,on.getD k false=true→on'.getD k false=true) (hr:nn ls on' pts=true):nn ls on pts=true:=by
 rw [JZ hl'] at hr
 rw [JZ hl]
 have hs:=YE (ls:=ls) (hl.trans hl'.symm) h
 exact ⟨aaC hs hr.1,fun a b ha hb hc=>hr.2 a b ha hb (hc.mono fun e he=>hs.subset he)⟩
def ie (E:Ed) (pts:List (Int×Int)) (b:Nat):Bool:=(List.range pts.length).any fun f=>aG pts f&&aP E f==aP E b
theorem nf {E:Ed} {pts:List (Int×Int)} {b:Nat}:ie E pts b=true↔ ∃f,aG pts f=true∧Cn E f b:=by
 unfold ie
 rw [List.any_eq_true]
 constructor
 ·rintro ⟨f,_,h⟩
  simp only [Bool.and_eq_true,beq_iff_eq] at h
  exact ⟨f,h.1,(oW _ _ _).1 h.2⟩
 ·rintro ⟨f,h1,h2⟩
  exact ⟨f,by simpa using qV h1,by rw [h1,(oW _ _ _).2 h2];simp⟩
theorem RS {E:Ed} {pts:List (Int×Int)} {a b:Nat} (h:ie E pts a=true) (hc:Cn E a b):ie E pts b=true:=by
 obtain ⟨f,h1,h2⟩:=nf.1 h
 exact nf.2 ⟨f,h1,h2.trans hc⟩
def Lk (ls:List Ln) (on:List Bool) (k b c:Nat):Prop:=k<ls.length∧on.getD k false=true∧(bS (ls.getD k (0,0,0))=(b,c)∨bS (ls.getD k (0,0,0))=(c,b))
structure Par (ls:List Ln) (on:List Bool) (pts:List (Int×Int)) (par:Nat→Int) (rk:Nat→Nat):Prop where
 fed: ∀b,b<pts.length→ie (aw ls on) pts b=true→aG pts b=true∨0≤par b
 feed: ∀b,aG pts b=true→par b<0
 line: ∀b,0≤par b→ ∃c,Lk ls on (par b).toNat b c∧c<pts.length∧ie (aw ls on) pts c=true∧rk c<rk b
inductive Way (ls:List Ln) (on:List Bool) (par:Nat→Int):Nat→List Nat→Prop
 |top {b:Nat}:par b<0→Way ls on par b []
 |step {b c:Nat} {w:List Nat}:0≤par b→Lk ls on (par b).toNat b c→Way ls on par c w→Way ls on par b (w++ [(par b).toNat])
theorem Fp {ls:List Ln} {on:List Bool} {k b c d:Nat} (h:Lk ls on k b c) (h':Lk ls on k b d):c=d:=by
 obtain ⟨_,_,h⟩:=h
 obtain ⟨_,_,h'⟩:=h'
 rcases h with h |h<;>rcases h' with h' |h'<;>rw [h] at h'<;>simp only [Prod.mk.injEq] at h'<;>omega
theorem Lk.cn {ls:List Ln} {on:List Bool} {k b c:Nat} (h:Lk ls on k b c):Cn (aw ls on) b c:=by
 obtain ⟨h1,h2,h3⟩:=h
 have hm:=FP.2 ⟨k,h1,h2,rfl⟩
 rcases h3 with h3 |h3<;>rw [h3] at hm
 ·exact .one (.inl hm)
 ·exact .one (.inr hm)
theorem Lk.off {ls:List Ln} {on:List Bool} {k j b c:Nat} (h:Lk ls on k b c) (hj:k≠j):Lk ls (on.set j false) k b c:=by
 obtain ⟨h1,h2,h3⟩:=h
 exact ⟨h1,by rw [←h2];simp [List.getD,List.getElem?_set_ne (Ne.symm hj)],h3⟩
section
variable {ls:List Ln} {on:List Bool} {pts:List (Int×Int)} {par:Nat→Int} {rk:Nat→Nat} (P:Par ls on pts par rk) (hl:on.length=ls.length)
include P
theorem Par.way: ∀(n b:Nat),rk b≤n→ ∃w,Way ls on par b w:=by
 intro n
 induction n with
 |zero=>
  intro b hb
  by_cases h:0≤par b
  ·obtain ⟨c,_,_,_,h2⟩:=P.line b h;omega
  ·exact ⟨[],.top (by omega)⟩
 |succ n ih=>
  intro b hb
  by_cases h:0≤par b
  ·obtain ⟨c,h1,_,_,h2⟩:=P.line b h
   obtain ⟨w,hw⟩:=ih c (by omega)
   exact ⟨_,.step h h1 hw⟩
  ·exact ⟨[],.top (by omega)⟩
omit P in
theorem Way.uniq {b:Nat} {w v:List Nat} (h:Way ls on par b w):Way ls on par b v→w=v:=by
 induction h generalizing v with
 |top h=>intro h';cases h' with
  |top _=>rfl
  |step h2 _ _=>omega
 |step h1 h2 _ ih=>intro h';cases h' with
  |top h3=>omega
  |step h3 h4 h5=>
   obtain rfl:=Fp h2 h4
   rw [ih h5]
theorem Par.up {b c:Nat} (h:0≤par b) (h2:Lk ls on (par b).toNat b c):c<pts.length∧ie (aw ls on) pts c=true∧rk c<rk b:=by
 obtain ⟨d,h3,h4⟩:=P.line b h
 rw [Fp h2 h3];exact h4
theorem Par.inj {b d:Nat} (hb:0≤par b) (hd:0≤par d) (h:par b=par d):b=d:=by
 obtain ⟨c,h1,_,_,h2⟩:=P.line b hb
 obtain ⟨e,h3,_,_,h4⟩:=P.line d hd
 rw [←h] at h3
 obtain ⟨_,_,h1⟩:=h1
 obtain ⟨_,_,h3⟩:=h3
 rcases h1 with h1 |h1<;>rcases h3 with h3 |h3<;>rw [h1] at h3<;>simp only [Prod.mk.injEq] at h3<;>obtain ⟨rfl,rfl⟩:=h3<;>first |rfl |omega
theorem Way.mem {b:Nat} {w:List Nat} (h:Way ls on par b w): ∀k∈w,∃d,0≤par d∧(par d).toNat=k∧rk d≤rk b:=by
 induction h with
 |top _=>intro k hk;simp at hk
 | @step b c w h1 h2 _ ih=>
  intro k hk
  rcases List.mem_append.1 hk with hk |hk
  ·obtain ⟨d,h3,h4,h5⟩:=ih k hk
   exact ⟨d,h3,h4,by have:=(P.up h1 h2).2.2;omega⟩
  ·exact ⟨b,h1,(List.mem_singleton.1 hk).symm,Nat.le_refl _⟩
theorem Way.last {b c:Nat} {w:List Nat} (h1:0≤par b) (h2:Lk ls on (par b).toNat b c) (h:Way ls on par c w):(par b).toNat∉w:=by
 intro hm
 obtain ⟨d,h3,h4,h5⟩:=Way.mem P h _ hm
 have h6:=(P.up h1 h2).2.2
 have:b=d:=P.inj h1 h3 (by omega)
 subst this;omega
theorem Way.nodup {b:Nat} {w:List Nat} (h:Way ls on par b w):w.Nodup:=by
 induction h with
 |top _=>simp
 |step h1 h2 h3 ih=>
  rw [List.nodup_append]
  refine ⟨ih,by simp,fun a ha b hb=>?_⟩
  obtain rfl:b=_:=by simpa using hb
  intro e
  exact Way.last P h1 h2 h3 (e▸ha)
theorem Way.stays {b k:Nat} {w:List Nat} (h:Way ls on par b w) (hb:b<pts.length) (hf:ie (aw ls on) pts b=true) (hk:k∉w):ie (aw ls (on.set k false)) pts b=true:=by
 induction h with
 | @top b h=>
  rcases P.fed b hb hf with h1 |h1
  ·exact nf.2 ⟨b,h1,.refl _⟩
  ·omega
 | @step b c w h1 h2 _ ih=>
  have hc:=P.up h1 h2
  have:=ih hc.1 hc.2.1 fun hm=>hk (by simp [hm])
  exact RS this (h2.off fun e=>hk (by simp [e])).cn.symm
theorem Way.under {b k:Nat} {w:List Nat} (h:Way ls on par b w) (hk:k∈w): ∃d c v,0≤par d∧(par d).toNat=k∧Lk ls on k d c∧Way ls on par c v∧k∉v∧c<pts.length∧ie (aw ls on) pts c=true∧Cn (aw ls (on.set k false)) d b:=by
 induction h with
 |top _=>simp at hk
 | @step b c w h1 h2 h3 ih=>
  have hc:=P.up h1 h2
  by_cases he:k=(par b).toNat
  ·subst he
   exact ⟨b,c,w,h1,rfl,h2,h3,Way.last P h1 h2 h3,hc.1,hc.2.1,.refl _⟩
  ·have hm:k∈w:=by simpa [he] using hk
   obtain ⟨d,e,v,g1,g2,g3,g4,g5,g6,g7,g8⟩:=ih hm
   exact ⟨d,e,v,g1,g2,g3,g4,g5,g6,g7,g8.trans (h2.off (Ne.symm he)).cn.symm⟩
include hl in
theorem Way.iff (hr:nn ls on pts=true) {b k:Nat} {w:List Nat} (h:Way ls on par b w) (hb:b<pts.length) (hf:ie (aw ls on) pts b=true):k∈w↔ie (aw ls (on.set k false)) pts b=false:=by
 constructor
 ·intro hk
  obtain ⟨d,c,v,h1,h2,h3,h4,h5,h6,h7,h8⟩:=Way.under P h hk
  cases hx:ie (aw ls (on.set k false)) pts b
  ·rfl
  exfalso
  obtain ⟨f,f1,f2⟩:=nf.1 hx
  obtain ⟨g,g1,g2⟩:=nf.1 (Way.stays P h4 h6 h7 h5)
  obtain ⟨hk1,hk2,hk3⟩:=h3
  have hoff:=Nc hk1 hl
  have hon:=Nb hk1 hl hk2
  have M: ∀ {x y:Nat},Cn (aw ls (on.set k false)) x y→Cn (aw ls on) x y:=fun hxy=>hxy.mono fun e he=>by
   rw [hoff] at he;rw [hon]
   rcases List.mem_append.1 he with he |he<;>simp [he]
  rw [JZ hl] at hr
  have hdc:Cn (aw ls on) d c:=Lk.cn ⟨hk1,hk2,hk3⟩
  have hfg:f=g:=hr.2 f g f1 g1 ((M f2).trans ((M h8).symm.trans (hdc.trans (M g2).symm)))
  subst hfg
  have hj:Cn (aw ls (on.set k false)) d c:=(h8.trans f2.symm).trans g2
  rw [hoff] at hj
  have hfo:=hr.1
  rw [hon] at hfo
  have:=Zz _ _ _ hfo
  rcases hk3 with e |e<;>rw [e] at this
  ·exact this hj
  ·exact this hj.symm
 ·intro hx
  refine Classical.byContradiction fun hk=>?_
  rw [Way.stays P h hb hf hk] at hx
  cases hx
end
def fI (ls:List Ln) (on:List Bool) (pts:List (Int×Int)) (k:Nat):Int:=
 ((List.range pts.length).map fun b=>if ie (aw ls on) pts b&& !ie (aw ls (on.set k false)) pts b then (pts.getD b (0,0)).2 else 0).sum
open Classical in
noncomputable def Hn (n:Nat) (f:Nat→Int) (p:Nat→Prop):Int:=((List.range n).map fun b=>if p b then f b else 0).sum
theorem SZ {n:Nat} {f g h:Nat→Int} (e: ∀b,b<n→f b=g b+h b):((List.range n).map f).sum=((List.range n).map g).sum+((List.range n).map h).sum:=by
 induction n with
 |zero=>rfl
 |succ n ih=>
  rw [List.range_succ,List.map_append,List.map_append,List.map_append,List.sum_append,List.sum_append,List.sum_append,ih fun b hb=>e b (by omega)]
  have:=e n (by omega)
  simp only [List.map_cons,List.map_nil,List.sum_cons,List.sum_nil]
  omega
theorem re {n:Nat} {f g:Nat→Int} (e: ∀b,b<n→f b=g b):((List.range n).map f).sum=((List.range n).map g).sum:=by
 congr 1
 exact List.map_congr_left fun b hb=>e b (by simpa using hb)
theorem zV {n:Nat} {f:Nat→Int} (e: ∀b,b<n→f b=0):((List.range n).map f).sum=0:=by
 rw [re e]
 induction n with
 |zero=>rfl
 |succ n ih=>rw [List.range_succ,List.map_append,List.sum_append,ih fun b hb=>e b (by omega)];rfl
theorem SX {n:Nat} (f:Nat→Int) {a:Nat} (ha:a<n):((List.range n).map fun b=>if b=a then f b else 0).sum=f a:=by
 induction n with
 |zero=>omega
 |succ n ih=>
  rw [List.range_succ,List.map_append,List.sum_append]
  by_cases h:a=n
  ·subst h
   rw [zV fun b hb=>if_neg (by omega)]
   simp
  ·rw [ih (by omega)]
   simp only [List.map_cons,List.map_nil,List.sum_cons,List.sum_nil]
   rw [if_neg (by omega)];omega
theorem PD {n:Nat} {f:Nat→Int} {p q r:Nat→Prop} (e: ∀b,b<n→(p b↔q b∨r b)) (d: ∀b,b<n→ ¬(q b∧r b)):Hn n f p=Hn n f q+Hn n f r:=by
 refine SZ fun b hb=>?_
 have h1:=e b hb
 have h2:=d b hb
 by_cases hq:q b
 ·have hr: ¬r b:=fun h=>h2 ⟨hq,h⟩
  rw [if_pos (h1.2 (.inl hq)),if_pos hq,if_neg hr];omega
 ·by_cases hr:r b
  ·rw [if_pos (h1.2 (.inr hr)),if_neg hq,if_pos hr];omega
  ·rw [if_neg (fun h=>(h1.1 h).elim hq hr),if_neg hq,if_neg hr];rfl
theorem Kn {n:Nat} {f:Nat→Int} {p q:Nat→Prop} (e: ∀b,b<n→(p b↔q b)):Hn n f p=Hn n f q:=by
 refine re fun b hb=>?_
 by_cases h:p b
 ·rw [if_pos h,if_pos ((e b hb).1 h)]
 ·rw [if_neg h,if_neg fun h2=>h ((e b hb).2 h2)]
theorem WY {n:Nat} {f:Nat→Int} {a:Nat} (ha:a<n):Hn n f (fun b=>b=a)=f a:=by
 rw [←SX f ha]
 exact re fun b hb=>by by_cases h:b=a<;>simp [h]
theorem Uj {n:Nat} {f:Nat→Int} {p:Nat→Prop} (e: ∀b,b<n→ ¬p b):Hn n f p=0:=
 zV fun b hb=>if_neg (e b hb)
def cR (E:Ed) (pts:List (Int×Int)) (f:Int×Int→Int) (b:Nat):Int:=((List.range pts.length).map fun c=>if aP E c=aP E b then f (pts.getD c (0,0)) else 0).sum
def Up (ls:List Ln) (on:List Bool) (par:Nat→Int) (b c:Nat):Prop:=0≤par b∧Lk ls on (par b).toNat b c
inductive An (ls:List Ln) (on:List Bool) (par:Nat→Int) (d:Nat):Nat→Prop
 |self:An ls on par d d
 |step {b c:Nat}:Up ls on par b c→An ls on par d c→An ls on par d b
section
variable {ls:List Ln} {on:List Bool} {pts:List (Int×Int)} {par:Nat→Int} {rk:Nat→Nat} (P:Par ls on pts par rk) (hl:on.length=ls.length)
theorem Up.inj {b c d:Nat} (h:Up ls on par b c) (h':Up ls on par b d):c=d:=Fp h.2 h'.2
theorem An.trans {a b c:Nat} (h:An ls on par a b) (h':An ls on par b c):An ls on par a c:=by
 induction h' with
 |self=>exact h
 |step u _ ih=>exact .step u ih
theorem An.top {o b:Nat}:An ls on par o b↔b=o∨ ∃d,Up ls on par d o∧An ls on par d b:=by
 constructor
 ·intro h
  induction h with
  |self=>exact .inl rfl
  | @step b c u h ih=>
   rcases ih with rfl |⟨d,h1,h2⟩
   ·exact .inr ⟨b,u,.self⟩
   ·exact .inr ⟨d,h1,.step u h2⟩
 ·rintro (rfl |⟨d,h1,h2⟩)
  ·exact .self
  ·exact An.trans (.step h1 .self) h2
theorem An.chain {d e b:Nat} (h:An ls on par d b) (h':An ls on par e b):An ls on par d e∨An ls on par e d:=by
 induction h with
 |self=>exact .inr h'
 | @step b c u h ih=>
  cases h' with
  |self=>exact .inl (.step u h)
  |step u' h2=>
   obtain rfl:=u.inj u'
   exact ih h2
include P
theorem An.rkle {d b:Nat} (h:An ls on par d b):rk d≤rk b:=by
 induction h with
 |self=>exact Nat.le_refl _
 |step u _ ih=>have:=(P.up u.1 u.2).2.2;omega
omit P in
theorem An.proper {d b c:Nat} (h:An ls on par d b) (u:Up ls on par b c) (hne:d≠b):An ls on par d c:=by
 cases h with
 |self=>exact absurd rfl hne
 |step u' h'=>rw [u.inj u'];exact h'
theorem An.way {d b:Nat} {w:List Nat} (hd:0≤par d) (h:Way ls on par b w):An ls on par d b↔(par d).toNat∈w:=by
 induction h with
 | @top b h=>
  constructor
  ·intro h1
   cases h1 with
   |self=>omega
   |step u _=>have:=u.1;omega
  ·intro h1;simp at h1
 | @step b c w h1 h2 h3 ih=>
  constructor
  ·intro h
   by_cases e:d=b
   ·subst e;simp
   ·have:=ih.1 (An.proper h ⟨h1,h2⟩ e)
    simp [this]
  ·intro h
   rcases List.mem_append.1 h with h |h
   ·exact .step ⟨h1,h2⟩ (ih.2 h)
   ·have e:(par d).toNat=(par b).toNat:=by simpa using h
    rw [P.inj hd h1 (by omega)];exact .self
theorem Up.fed {b c:Nat} (u:Up ls on par b c):ie (aw ls on) pts b=true:=RS (P.up u.1 u.2).2.1 u.2.cn.symm
theorem An.fed {d b:Nat} (h:An ls on par d b) (hd:ie (aw ls on) pts d=true):ie (aw ls on) pts b=true:=by
 induction h with
 |self=>exact hd
 |step u _ _=>exact Up.fed P u
include hl in
theorem Par.flow (hr:nn ls on pts=true) {d:Nat} (hd:0≤par d):fI ls on pts (par d).toNat=Hn pts.length (fun b=>(pts.getD b (0,0)).2) (An ls on par d):=by
 refine re fun b hb=>?_
 obtain ⟨c,hc,_⟩:=P.line d hd
 have hdf:ie (aw ls on) pts d=true:=Up.fed P ⟨hd,hc⟩
 obtain ⟨w,hw⟩:=P.way (rk b) b (Nat.le_refl _)
 cases hf:ie (aw ls on) pts b
 ·have hna: ¬An ls on par d b:=fun h=>by rw [An.fed P h hdf] at hf;cases hf
  simp [hna]
 ·have h1:=Way.iff P hl hr hw hb hf (k:=(par d).toNat)
  have h2:=An.way P hd hw
  cases hx:ie (aw ls (on.set (par d).toNat false)) pts b
  ·have ha:=h2.2 (h1.2 hx)
   simp [ha]
  ·have hna: ¬An ls on par d b:=fun h=>by have:=h1.1 (h2.1 h);rw [hx] at this;cases this
   simp [hna]
include hl in
theorem Par.flow0 (hr:nn ls on pts=true) {k:Nat} (hk: ∀d,0≤par d→(par d).toNat≠k):fI ls on pts k=0:=by
 refine zV fun b hb=>?_
 obtain ⟨w,hw⟩:=P.way (rk b) b (Nat.le_refl _)
 cases hf:ie (aw ls on) pts b
 ·rfl
 ·cases hx:ie (aw ls (on.set k false)) pts b
  ·have h1:=(Way.iff P hl hr hw hb hf (k:=k)).2 hx
   obtain ⟨d,h2,h3,_⟩:=Way.mem P hw k h1
   exact absurd h3 (hk d h2)
  ·rfl
omit P
def Wt (ls:List Ln) (on:List Bool) (par:Nat→Int) (rk:Nat→Nat) (F:Nat→Prop) (i c b:Nat):Prop:=(b=c∧F c∧i≤rk c)∨ ∃d,Up ls on par d c∧i≤rk d∧An ls on par d b
noncomputable def pQ (ls:List Ln) (on:List Bool) (pts:List (Int×Int)) (par:Nat→Int) (rk:Nat→Nat) (i c:Nat):Int:=Hn pts.length (fun b=>(pts.getD b (0,0)).2) (Wt ls on par rk (fun c=>ie (aw ls on) pts c=true) i c)
noncomputable def oo (ls:List Ln) (on:List Bool) (pts:List (Int×Int)) (par:Nat→Int) (o:Nat):Int:=Hn pts.length (fun b=>(pts.getD b (0,0)).2) (An ls on par o)
include P
theorem Par.want_self {i o:Nat} (ho:rk o=i) (hb:o<pts.length) (hf:ie (aw ls on) pts o=true):pQ ls on pts par rk (i+1) o+(pts.getD o (0,0)).2=oo ls on pts par o:=by
 unfold pQ oo
 rw [←WY (f:=fun b=>(pts.getD b (0,0)).2) hb]
 refine (PD (fun b hb=>?_) (fun b hb=>?_)).symm
 ·rw [An.top]
  constructor
  ·rintro (h |⟨d,h1,h2⟩)
   ·exact .inr h
   ·exact .inl (.inr ⟨d,h1,by have:=(P.up h1.1 h1.2).2.2;omega,h2⟩)
  ·rintro ((⟨_,_,h⟩ |⟨d,h1,_,h2⟩) |h)
   ·omega
   ·exact .inr ⟨d,h1,h2⟩
   ·exact .inl h
 ·rintro ⟨⟨_,_,h⟩ |⟨d,h1,_,h2⟩,rfl⟩
  ·omega
  ·have:=An.rkle P h2
   have:=(P.up h1.1 h1.2).2.2
   omega
theorem Par.want_now {i o:Nat} (ho:rk o=i) (hf:ie (aw ls on) pts o=true):pQ ls on pts par rk i o=oo ls on pts par o:=by
 refine Kn fun b hb=>?_
 rw [An.top]
 constructor
 ·rintro (⟨h,_⟩ |⟨d,h1,_,h2⟩)
  ·exact .inl h
  ·exact .inr ⟨d,h1,h2⟩
 ·rintro (h |⟨d,h1,h2⟩)
  ·exact .inl ⟨h,hf,by omega⟩
  ·exact .inr ⟨d,h1,by have:=(P.up h1.1 h1.2).2.2;omega,h2⟩
theorem Par.want_up {i o c:Nat} (hinj: ∀a b,ie (aw ls on) pts a=true→ie (aw ls on) pts b=true→rk a=rk b→a=b) (ho:rk o=i) (u:Up ls on par o c):pQ ls on pts par rk i c=pQ ls on pts par rk (i+1) c+oo ls on pts par o:=by
 have hrk:=(P.up u.1 u.2).2.2
 refine PD (fun b hb=>?_) (fun b hb=>?_)
 ·constructor
  ·rintro (⟨_,_,h⟩ |⟨d,h1,h2,h3⟩)
   ·omega
   ·by_cases e:rk d=i
    ·rw [hinj o d (Up.fed P u) (Up.fed P h1) (by omega)];exact .inr h3
    ·exact .inl (.inr ⟨d,h1,by omega,h3⟩)
  ·rintro ((⟨_,_,h⟩ |⟨d,h1,h2,h3⟩) |h)
   ·omega
   ·exact .inr ⟨d,h1,by omega,h3⟩
   ·exact .inr ⟨o,u,by omega,h⟩
 ·rintro ⟨⟨_,_,h⟩ |⟨d,h1,h2,h3⟩,h4⟩
  ·omega
  ·have hne:d≠o:=fun e=>by subst e;omega
   rcases An.chain h3 h4 with h |h
   ·have:=An.rkle P (An.proper h u hne)
    have:=(P.up h1.1 h1.2).2.2
    omega
   ·have:=An.rkle P (An.proper h h1 (Ne.symm hne))
    omega
theorem Par.want_else {i o c:Nat} (hinj: ∀a b,ie (aw ls on) pts a=true→ie (aw ls on) pts b=true→rk a=rk b→a=b) (ho:rk o=i) (hf:ie (aw ls on) pts o=true) (h1:c≠o) (h2: ¬Up ls on par o c):pQ ls on pts par rk i c=pQ ls on pts par rk (i+1) c:=by
 refine Kn fun b hb=>?_
 constructor
 ·rintro (⟨h3,h4,h5⟩ |⟨d,h3,h4,h5⟩)
  ·refine .inl ⟨h3,h4,?_⟩
   by_cases e:rk c=i
   ·exact absurd (hinj c o h4 hf (by omega)) h1
   ·omega
  ·refine .inr ⟨d,h3,?_,h5⟩
   by_cases e:rk d=i
   ·rw [hinj d o (Up.fed P h3) hf (by omega)] at h3;exact absurd h3 h2
   ·omega
 ·rintro (⟨h3,h4,h5⟩ |⟨d,h3,h4,h5⟩)
  ·exact .inl ⟨h3,h4,by omega⟩
  ·exact .inr ⟨d,h3,by omega,h5⟩
end
def Ei (b:Int) (l:Ln):Bool:=LK l.1 0 (b-1)&&LK l.2.1 0 (b-1)&& !(l.1==l.2.1)&&LK l.2.2 1 999
def Hd (b:Int) (ls:List Ln):Bool:=LK b 1 8&&decide (ls.length≤10)&& !(List.range ls.length).any fun k=> !Ei b (ls.getD k (0,0,0))
def KA (p:Int×Int):Bool:=LK p.1 0 999&&LK p.2 0 999
def rg (b:Int) (ls:List Ln) (pts:List (Int×Int)):Bool:=Hd b ls&&decide ((pts.length:Int)=b)&& !(List.range pts.length).any fun k=> !KA (pts.getD k (0,0))
def Zh (b:Int) (ls:List Ln) (on:List Bool):Bool:=Hd b ls&&decide (on.length=ls.length)
def OY (b:Int) (ls:List Ln) (on:List Bool) (pts:List (Int×Int)):Bool:=Zh b ls on&&rg b ls pts
def wZ (b:Int) (ls:List Ln) (on:List Bool) (pts:List (Int×Int)):Bool:=OY b ls on pts&&nn ls on pts
structure LnOk (b:Int) (l:Ln):Prop where
 a:0≤l.1∧l.1<b
 b:0≤l.2.1∧l.2.1<b
 ne:l.1≠l.2.1
 m:1≤l.2.2∧l.2.2≤999
structure NetOk (b:Int) (ls:List Ln):Prop where
 b0:1≤b
 b1:b≤8
 ll:ls.length≤10
 ln: ∀k,k<ls.length→LnOk b (ls.getD k (0,0,0))
theorem LP {b:Int} {l:Ln}:Ei b l=true↔LnOk b l:=by
 simp only [Ei,Bool.and_eq_true,uL,Bool.not_eq_true',beq_eq_false_iff_ne]
 constructor
 ·rintro ⟨⟨⟨h1,h2⟩,h3⟩,h4⟩;exact ⟨by omega,by omega,h3,h4⟩
 ·intro h;have:=h.a;have:=h.b;exact ⟨⟨⟨by omega,by omega⟩,h.ne⟩,h.m⟩
theorem zJ {b:Int} {ls:List Ln}:Hd b ls=true↔NetOk b ls:=by
 unfold Hd
 rw [Bool.and_eq_true,NT,Bool.and_eq_true,uL,decide_eq_true_eq]
 constructor
 ·rintro ⟨⟨h1,h2⟩,h3⟩;exact ⟨h1.1,h1.2,h2,fun k hk=>LP.1 (by have:=h3 k hk;simpa using this)⟩
 ·intro h;exact ⟨⟨⟨h.b0,h.b1⟩,h.ll⟩,fun k hk=>by rw [LP.2 (h.ln k hk)];rfl⟩
structure BusOk (b:Int) (ls:List Ln) (pts:List (Int×Int)):Prop where
 net:NetOk b ls
 lp:(pts.length:Int)=b
 bs: ∀k,k<pts.length→(0≤(pts.getD k (0,0)).1∧(pts.getD k (0,0)).1≤999)∧(0≤(pts.getD k (0,0)).2∧(pts.getD k (0,0)).2≤999)
theorem xh {b:Int} {ls:List Ln} {pts:List (Int×Int)}:rg b ls pts=true↔BusOk b ls pts:=by
 unfold rg
 rw [Bool.and_eq_true,NT,Bool.and_eq_true,zJ,decide_eq_true_eq]
 constructor
 ·rintro ⟨⟨h1,h2⟩,h3⟩;exact ⟨h1,h2,fun k hk=>by have:=h3 k hk;simpa [KA,uL] using this⟩
 ·intro h;exact ⟨⟨h.net,h.lp⟩,fun k hk=>by
   have h2:KA (pts.getD k (0,0))=true:=by unfold KA;rw [Bool.and_eq_true,uL,uL];exact h.bs k hk
   rw [h2];rfl⟩
theorem Wc {b:Int} {ls:List Ln} {pts:List (Int×Int)} (h:BusOk b ls pts) (on:List Bool): ∀e∈aw ls on,e.1<pts.length∧e.2<pts.length:=by
 intro e he
 obtain ⟨k,hk,_,rfl⟩:=FP.1 he
 have h1:=h.net.ln k hk
 have:=h.lp;have:=h1.a;have:=h1.b
 exact ⟨by unfold bS;dsimp only;omega,by unfold bS;dsimp only;omega⟩
theorem xG: ∀ {l m:List Int},l.Pairwise (· < ·)→m.Pairwise (· < ·)→(∀x,x∈l↔x∈m)→l=m
 | [],[],_,_,_=>rfl
 | [],y::m,_,_,h=>by have:=(h y).2 (by simp);simp at this
 |x::l,[],_,_,h=>by have:=(h x).1 (by simp);simp at this
 |x::l,y::m,hl,hm,h=>by
  rw [List.pairwise_cons] at hl hm
  have hxy:x=y:=by
   rcases List.mem_cons.1 ((h x).1 (by simp)) with h1 |h1
   ·exact h1
   ·rcases List.mem_cons.1 ((h y).2 (by simp)) with h2 |h2
    ·exact h2.symm
    ·have:=hm.1 x h1;have:=hl.1 y h2;omega
  subst hxy
  rw [xG hl.2 hm.2 fun z=>?_]
  constructor
  ·intro hz
   rcases List.mem_cons.1 ((h z).1 (by simp [hz])) with h1 |h1
   ·subst h1;have:=hl.1 z hz;omega
   ·exact h1
  ·intro hz
   rcases List.mem_cons.1 ((h z).2 (by simp [hz])) with h1 |h1
   ·subst h1;have:=hm.1 z hz;omega
   ·exact h1
def JC (a:Int) (l:List Int):List Int:=l.filter (fun x=>decide (x<a))++a::l.filter (fun x=>decide (a<x))
theorem JD {a:Int} {l:List Int} {x:Int}:x∈JC a l↔x=a∨x∈l:=by
 simp only [JC,List.mem_append,List.mem_cons,List.mem_filter,decide_eq_true_eq]
 constructor
 ·rintro (⟨h,_⟩ |h |⟨h,_⟩)
  ·exact .inr h
  ·exact .inl h
  ·exact .inr h
 ·rintro (h |h)
  ·exact .inr (.inl h)
  ·rcases Int.lt_trichotomy x a with h1 |h1 |h1
   ·exact .inl ⟨h,h1⟩
   ·exact .inr (.inl h1)
   ·exact .inr (.inr ⟨h,h1⟩)
theorem yZ {a:Int} {l:List Int} (h:l.Pairwise (· < ·)):(JC a l).Pairwise (· < ·):=by
 unfold JC
 rw [List.pairwise_append,List.pairwise_cons]
 refine ⟨h.sublist List.filter_sublist,⟨fun x hx=>?_,h.sublist List.filter_sublist⟩,fun x hx y hy=>?_⟩
 ·have:=(List.mem_filter.1 hx).2;simpa using this
 ·have h1:x<a:=by have:=(List.mem_filter.1 hx).2;simpa using this
  rcases List.mem_cons.1 hy with rfl |hy
  ·exact h1
  ·have:a<y:=by have:=(List.mem_filter.1 hy).2;simpa using this
   omega
theorem Lh {l:List Int} (h: ∀k,k+1<l.length→l.getD k 0<l.getD (k+1) 0):l.Pairwise (· < ·):=by
 rw [List.pairwise_iff_getElem]
 have key: ∀d i,i+d+1<l.length→l.getD i 0<l.getD (i+d+1) 0:=by
  intro d
  induction d with
  |zero=>intro i hi;exact h i hi
  |succ d ih=>
   intro i hi
   have h1:=ih i (by omega)
   have h2:=h (i+d+1) (by omega)
   have e:i+(d+1)+1=i+d+1+1:=by omega
   rw [e];omega
 intro i j hi hj hij
 have:=key (j-i-1) i (by omega)
 rw [show i+(j-i-1)+1=j by omega,ac hi,ac hj] at this
 exact this
theorem vo {l:List Int} (h:l.Pairwise (· < ·)) {k:Nat} (hk:k+1<l.length):l.getD k 0<l.getD (k+1) 0:=by
 rw [List.pairwise_iff_getElem] at h
 rw [ac (by omega),ac hk]
 exact h k (k+1) (by omega) hk (by omega)
@[ext] structure Wd where
 b:Int
 ls:List Ln
 pts:List (Int×Int)
 on:List Bool
 earth:List Bool
 pm:Pm
 br:List Int
def Wd.wk (w:Wd):Wk:=(w.on,w.earth,w.pm)
def Wd.put (w:Wd) (k:Wk):Wd:=⟨w.b,w.ls,w.pts,k.1,k.2.1,k.2.2,w.br⟩
def Wd.zero:Wd:=⟨0,[],[],[],[],[],[]⟩
def EV (on:List Bool) (br:List Int) (k:Nat):Bool:=(decide (0≤br.getD k 0)&&decide (br.getD k 0<(on.length:Int)))&& !on.getD (br.getD k 0).toNat false&&(decide (k=0) ||decide (br.getD (k-1) 0<br.getD k 0))
def brV (on:List Bool) (br:List Int):Bool:= !(List.range br.length).any fun k=> !EV on br k
def wv (w:Wd):Bool:=rg w.b w.ls w.pts&&oi w.on w.earth w.pm&&decide (w.on.length=w.ls.length)&&brV w.on w.br&&nn w.ls w.on w.pts
structure WdOk (w:Wd):Prop where
 bus:BusOk w.b w.ls w.pts
 work:WOk w.wk
 len:w.on.length=w.ls.length
 inn: ∀x∈w.br,(0≤x∧x<(w.on.length:Int))∧w.on.getD x.toNat false=false
 sor:w.br.Pairwise (· < ·)
 rad:nn w.ls w.on w.pts=true
theorem XO {on:List Bool} {br:List Int}:brV on br=true↔(∀x∈br,(0≤x∧x<(on.length:Int))∧on.getD x.toNat false=false)∧br.Pairwise (· < ·):=by
 unfold brV
 rw [NT]
 constructor
 ·intro h
  have h1: ∀k,k<br.length→(0≤br.getD k 0∧br.getD k 0<(on.length:Int))∧on.getD (br.getD k 0).toNat false=false∧(k=0∨br.getD (k-1) 0<br.getD k 0):=by
   intro k hk
   have:=h k hk
   simpa only [EV,Bool.not_eq_false',Bool.and_eq_true,Bool.or_eq_true,decide_eq_true_eq,Bool.not_eq_true',and_assoc] using this
  refine ⟨fun x hx=>?_,Lh fun k hk=>?_⟩
  ·obtain ⟨k,hk,rfl⟩:=List.mem_iff_getElem.1 hx
   have:=h1 k hk
   rw [ac hk] at this
   exact ⟨this.1,this.2.1⟩
  ·rcases (h1 (k+1) hk).2.2 with h2 |h2
   ·omega
   ·simpa using h2
 ·rintro ⟨h1,h2⟩ k hk
  have h3:=h1 (br.getD k 0) (by rw [ac hk];exact List.getElem_mem hk)
  have h4:k=0∨br.getD (k-1) 0<br.getD k 0:=by
   rcases Nat.eq_zero_or_pos k with h |h
   ·exact .inl h
   ·obtain ⟨j,rfl⟩: ∃j,k=j+1:=⟨k-1,by omega⟩
    exact .inr (vo h2 hk)
  have:EV on br k=true:=by simpa only [EV,Bool.and_eq_true,Bool.or_eq_true,decide_eq_true_eq,Bool.not_eq_true',and_assoc] using ⟨h3.1.1,h3.1.2,h3.2,h4⟩
  rw [this];rfl
theorem kv {w:Wd}:wv w=true↔WdOk w:=by
 unfold wv
 rw [Bool.and_eq_true,Bool.and_eq_true,Bool.and_eq_true,Bool.and_eq_true,xh,decide_eq_true_eq,XO]
 constructor
 ·rintro ⟨⟨⟨⟨h1,h2⟩,h3⟩,h4,h5⟩,h6⟩;exact ⟨h1,IG.1 h2,h3,h4,h5,h6⟩
 ·intro h;exact ⟨⟨⟨⟨h.bus,IG.2 h.work⟩,h.len⟩,h.inn,h.sor⟩,h.rad⟩
def dw (w:Wd) (kd a who:Int):Wd×Bool:=
 if wv w=true then
  if 0≤a∧a<(w.on.length:Int) then
   if kd=6∧a∉w.br then ({w with on:=w.on.set a.toNat false,br:=JC a w.br},true)
   else if kd=7∧a∈w.br∧(who,a)∈w.pm then ({w with br:=w.br.filter fun x=>x !=a},true)
   else if kd=0∧a∈w.br then (w,false)
   else if (ic w.wk kd a who).2=true∧nn w.ls (ic w.wk kd a who).1.1 w.pts=true then (w.put (ic w.wk kd a who).1,true)
   else (w,false)
  else (w,false)
 else (.zero,false)
theorem abl {w:Wk} {kd a who:Int} (h:kd≠0): ∀k,(eF w kd a who).1.getD k false=true→w.1.getD k false=true:=by
 intro k hk
 unfold eF at hk
 rw [if_neg h] at hk
 split at hk
 ·by_cases e:a.toNat=k
  ·subst e
   rcases Nat.lt_or_ge a.toNat w.1.length with h1 |h1
   ·rw [wh h1] at hk;cases hk
   ·rw [adR (by simpa using h1)] at hk;cases hk
  ·rwa [fJ e] at hk
 ·split at hk
  ·exact hk
  ·split at hk
   ·exact hk
   ·split at hk<;>exact hk
theorem QR (w:Wk) (kd a who:Int):(eF w kd a who).1.length=w.1.length:=(YP w kd a who).1
theorem IF {w:Wk} (hw:WOk w) {kd a who:Int}:(ic w kd a who).1.1.length=w.1.length∧(kd≠0→ ∀k,(ic w kd a who).1.1.getD k false=true→w.1.getD k false=true):=by
 rcases Fn hw kd a who with ⟨h,_⟩ |⟨h,_⟩
 ·rw [h];exact ⟨QR _ _ _ _,fun h0=>abl h0⟩
 ·rw [h];exact ⟨rfl,fun _ k hk=>hk⟩
theorem Xl {w:Wd} (h:WdOk w) {kd a who:Int} (h0:kd≠0):nn w.ls (ic w.wk kd a who).1.1 w.pts=true:=by
 have h1:=IF h.work (kd:=kd) (a:=a) (who:=who)
 exact Pk (h1.1.trans h.len) h.len (h1.2 h0) h.rad
theorem Uu {w:Wd} (h:WdOk w) {k:Wk} (hk:WOk k) (hl:k.1.length=w.on.length) (hbr: ∀x∈w.br,k.1.getD x.toNat false=false) (hr:nn w.ls k.1 w.pts=true):WdOk (w.put k):=
 ⟨h.bus,hk,hl.trans h.len,fun x hx=>⟨by have:=(h.inn x hx).1;show 0≤x∧x<(k.1.length:Int);rw [hl];exact this,hbr x hx⟩,h.sor,hr⟩
theorem Xm {w:Wk} (h:WOk w) (kd a who:Int):WOk (ic w kd a who).1:=by
 rcases Fn h kd a who with ⟨h1,_,_,h2⟩ |⟨h1,_⟩
 ·rw [h1];exact h2
 ·rw [h1];exact h
theorem Tb {w:Wd} (h:WdOk w) (kd a who:Int):WdOk (dw w kd a who).1:=by
 unfold dw
 rw [if_pos (kv.2 h)]
 split
 ·rename_i ha
  split
  ·rename_i h6
   have hal:a.toNat<w.on.length:=by omega
   have hsub: ∀k,(w.on.set a.toNat false).getD k false=true→w.on.getD k false=true:=by
    intro k hk
    by_cases e:a.toNat=k
    ·subst e;rw [wh hal] at hk;cases hk
    ·rwa [fJ e] at hk
   have hw:=h.work
   refine ⟨h.bus,⟨by simpa [Wd.wk] using hw.l0,by simpa [Wd.wk] using hw.l1,by simpa [Wd.wk] using hw.le,hw.lp,fun k hk=>hw.ne k (hsub k hk),fun p hp=>?_,hw.nd⟩,by simpa using h.len,fun x hx=>?_,yZ h.sor,Pk (by simpa using h.len) h.len hsub h.rad⟩
   ·have:=hw.pm p hp
    simpa [Wd.wk] using this
   ·dsimp only at hx ⊢
    rcases JD.1 hx with rfl |hx
    ·exact ⟨by simpa using ha,wh hal⟩
    ·have:=h.inn x hx
     refine ⟨by simpa using this.1,?_⟩
     cases hc:(w.on.set a.toNat false).getD x.toNat false
     ·rfl
     ·rw [hsub _ hc] at this;exact this.2
  ·split
   ·exact ⟨h.bus,h.work,h.len,fun x hx=>h.inn x (List.mem_filter.1 hx).1,h.sor.sublist List.filter_sublist,h.rad⟩
   ·split
    ·exact h
    ·rename_i h6 h7 h0
     split
     ·rename_i hr
      have h1:=IF h.work (kd:=kd) (a:=a) (who:=who)
      refine Uu h (Xm h.work kd a who) h1.1 (fun x hx=>?_) hr.2
      have hi:=h.inn x hx
      by_cases hk:kd=0
      ·subst hk
       have hne:a≠x:=fun e=>h0 ⟨rfl,e▸hx⟩
       rcases Fn h.work 0 a who with ⟨g,_⟩ |⟨g,_⟩
       ·rw [g]
        show (w.on.set a.toNat true).getD x.toNat false=false
        rw [fJ (by omega)];exact hi.2
       ·rw [g];exact hi.2
      ·cases hc:(ic w.wk kd a who).1.1.getD x.toNat false
       ·rfl
       ·have h2:=h1.2 hk _ hc
        rw [show w.wk.1=w.on from rfl] at h2
        rw [h2] at hi;exact hi.2
     ·exact h
 ·exact h
theorem Us {w:Wd} (h:WdOk w) {kd a who:Int} (hf:(dw w kd a who).2=false):(dw w kd a who).1=w:=by
 unfold dw at hf ⊢
 rw [if_pos (kv.2 h)] at hf ⊢
 split<;>rename_i ha
 ·rw [if_pos ha] at hf
  split<;>rename_i h6
  ·rw [if_pos h6] at hf;cases hf
  ·rw [if_neg h6] at hf
   split<;>rename_i h7
   ·rw [if_pos h7] at hf;cases hf
   ·rw [if_neg h7] at hf
    split<;>rename_i h0
    ·rfl
    ·rw [if_neg h0] at hf
     split<;>rename_i hr
     ·rw [if_pos hr] at hf;cases hf
     ·rfl
 ·rfl
abbrev Dd:=Int×Int×Int
def eA (s:Int×Wd) (d:Dd):Int×Wd:=if (dw s.2 d.1 d.2.1 d.2.2).2=true then (s.1+1,(dw s.2 d.1 d.2.1 d.2.2).1) else s
theorem Ut {s:Int×Wd} (h:WdOk s.2) (d:Dd):WdOk (eA s d).2:=by
 unfold eA
 split
 ·exact Tb h _ _ _
 ·exact h
theorem Hs (l:List Dd): ∀ {s:Int×Wd},WdOk s.2→WdOk (l.foldl eA s).2:=by
 induction l with
 |nil=>intro s h;exact h
 |cons d l ih=>intro s h;exact ih (Ut h d)
def Gi (w:Wd) (l:List Dd):Int×Wd:=if wv w=true then l.foldl eA (0,w) else (0,.zero)
theorem Xk {w:Wd} (h:WdOk w) (l:List Dd):WdOk (Gi w l).2:=by
 unfold Gi;rw [if_pos (kv.2 h)];exact Hs l h
end Go.Proofs.YtjdlgannencchaaGreatDoor
