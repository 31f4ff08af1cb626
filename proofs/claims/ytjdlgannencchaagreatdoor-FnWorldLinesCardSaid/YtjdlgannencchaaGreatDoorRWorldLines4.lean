/- Texts of the claim, one behind the other: LnK, RgL, LnI, LnJ, DaT, Da1, LnT, WkA, WkP, Isl, For, Flw, Wl, Net. -/
import Derived.MapKept
import Derived.Lib.ItoaLen
import Derived.Test.YtjdlgannencchaaGreatDoorRWorldLines3
namespace Go.Proofs.YtjdlgannencchaaGreatDoor
open Go.ChangeShapes Go.WideShapes Go.ChangeAt Go.RowKit
set_option linter.unusedVariables false
set_option linter.unusedSimpArgs false
set_option maxRecDepth 100000
def SS:Nat→List (ByteArray×Int)→List MapEntry
 |_,[]=> []
 |n,(k,v)::l=>⟨.string k,.int .i64 v,n⟩::SS (n+1) l
theorem LD (k:ByteArray) (v:Int): ∀n l,SS n (l++ [(k,v)])=SS n l++ [⟨.string k,.int .i64 v,n+l.length⟩]
 |n,[]=>rfl
 |n,(a,b)::l=>by simp [SS,LD k v (n+1) l];omega
def WU:List (ByteArray×Int)→ByteArray→Nat→Option (Nat×Value)
 | [],_,_=>none
 |(k,v)::l,s,i=>bif s==k then some (i,.int .i64 v) else WU l s (i+1)
theorem Jr (s:ByteArray): ∀l n i,Instr.findNow .string (.string s) (SS n l) i=some (WU l s i)
 | [],_,_=>rfl
 |(k,v)::l,n,i=>by
  have h:Instr.sameNow .string (.string s) (.string k)=some (s==k):=rfl
  unfold SS Instr.findNow WU
  rw [h]
  cases s==k with
  |true=>rfl
  |false=>exact Jr s l (n+1) (i+1)
theorem abV (s:ByteArray): ∀l i,(match WU l s i with |some (_,v)=>(v,true) |none=>(Value.int .i64 0,false))=(Value.int .i64 (oP l s).1,(oP l s).2)
 | [],_=>rfl
 |(k,v)::l,i=>by
  unfold WU oP
  cases s==k with
  |true=>rfl
  |false=>exact abV s l (i+1)
theorem Lz (s:ByteArray): ∀l i,(oP l s).2=false→WU l s i=none
 | [],_,_=>rfl
 |(k,v)::l,i,h=>by
  unfold WU;unfold oP at h
  cases hc:s==k with
  |true=>rw [hc] at h;cases h
  |false=>rw [hc] at h;exact Lz s l (i+1) h
def qZ (w:World) (b:Nat) (l:List (ByteArray×Int)):Prop:=w.heap[b]?=some (.map (SS 0 l).toArray l.length)
section
variable {P:Program} {w:World} {b:Nat} {l:List (ByteArray×Int)} {t kt et:TypeId}
theorem OY (w:World):qZ (w.alloc (.map #[] 0)) w.heap.size []:=(MapKept.heap_alloc w (.map #[] 0)).1
theorem tv (h:qZ w b l) (ht:P.underlying t=some (.map kt et)) (hk:P.underlying kt=some .string) {k:ByteArray} (v:Int) (hn:(oP l k).2=false):
 ∃w',(Instr.mapUpdate t (.map (some b)) (.string k) (.int .i64 v)).run P w= .ok () w'∧qZ w' b (l++ [(k,v)])∧w'.heap.size=w.heap.size∧w.grownBy w' (some b):=by
 have h1:=MapKept.run_getObj_map (P:=P) h
 have hb:b<w.heap.size:=(Array.getElem?_eq_some_iff.1 h).1
 have hf:=Jr k l 0 0
 rw [Lz k l 0 hn] at hf
 refine ⟨{w with heap:=w.heap.setIfInBounds b (.map (SS 0 (l++ [(k,v)])).toArray (l.length+1))},?_,?_,?_,rfl,rfl,rfl,?_,?_⟩
 ·have hs:=MapKept.run_setObj_map (P:=P) (.map ((SS 0 l).toArray.push {key:=.string k,val:=.int .i64 v,born:=l.length}) (l.length+1)) h
  have hF:=MapKept.run_findKey (P:=P) (w:=w) hk hf
  have hik:MapKept.IsKey .string (.string k):=trivial
  have e:(SS 0 l).toArray.push {key:=.string k,val:=.int .i64 v,born:=l.length}=(SS 0 (l++ [(k,v)])).toArray:=by simp [LD]
  rw [e] at hs
  simp only [Instr.mapUpdate,Sem.run_bind,run_underlying ht,h1,MapKept.run_checkKey hk hik,hF,Result.andThen,e,hs]
 ·simp [qZ,hb]
 ·simp
 ·simp
 ·intro g _ hg;simp [show b≠g from fun e=>hg (by rw [e])]
theorem LB (h:qZ w b l) (ht:P.underlying t=some (.map kt et)) (hk:P.underlying kt=some .string) (hz:(zeroValue et).run P w= .ok (.int .i64 0) w) (s:ByteArray):
 (Instr.lookup t (.map (some b)) (.string s) true).run P w= .ok (.tuple #[.int .i64 (oP l s).1,.bool (oP l s).2]) w:=by
 have h1:=MapKept.run_getObj_map (P:=P) h
 have hf:=Jr s l 0 0
 have hl:=abV s l 0
 have hF:=MapKept.run_findKey (P:=P) (w:=w) hk hf
 have hik:MapKept.IsKey .string (.string s):=trivial
 cases hc:WU l s 0 with
 |none=>
  rw [hc] at hF hl
  injection hl with e1 e2
  simp [Instr.lookup,run_underlying ht,h1,MapKept.run_checkKey hk hik,hF,Result.andThen,hz,←e1,←e2]
 |some p=>
  rw [hc] at hF hl
  injection hl with e1 e2
  simp [Instr.lookup,run_underlying ht,h1,MapKept.run_checkKey hk hik,hF,Result.andThen,←e1,←e2]
theorem GM {w':World} {g:Nat} (h:qZ w b l) (hg:w.grownBy w' (some g)) (hne:b≠g):qZ w' b l:=(hg.block b (Array.getElem?_eq_some_iff.1 h).1 (by simpa using hne)).trans h
theorem Qn {w':World} (h:qZ w b l) (hb:Below w.heap.size w w'):qZ w' b l:=(hb.block b (Array.getElem?_eq_some_iff.1 h).1).trans h
theorem Eb (h:qZ w b l) (o:Obj):qZ (w.alloc o) b l:=Qn h (Below.alloc (Below.refl _ _) (Nat.le_refl _) o)
theorem ni {w0 w':World} (h:Below w0.heap.size w0 w) (hg:w.grownBy w' (some b)) (hb:w0.heap.size≤b):Below w0.heap.size w0 w':=
 h.trans ⟨hg.os,hg.tape,hg.output,hg.size,fun k hk=>hg.block k (Nat.lt_of_lt_of_le hk h.size) (by simp;omega)⟩
end
def Zr (ops:Array Oper) (L:Nat) (up:Nat→Nat):Bool:=
 (List.range L).all fun j=>decide (j<up j)&&decide (up j≤L)&&((ops[up j]?).map (bN · j)).getD false
section
variable {P:Program} {ops:Array Oper} {Q:Exit→Act→World→Prop} {a0:Act} {D:List Nat} {dep:Nat→Nat}
 {Inv:World→Prop} {R:World→World→Prop} {Fs:Nat→Value→World→Prop}
def FM (P:Program) (ops:Array Oper) (Q:Exit→Act→World→Prop) (a0:Act) (D:List Nat) (dep:Nat→Nat) (Inv:World→Prop) (Fs:Nat→Value→World→Prop) (o:Oper):Prop:=
 ∀(a:Act) (w:World),zc a0 D a→Inv w→(∀j,j+1<ops.size→Fs j (sl a (dep j)) w)→
 Region.wanted o (yielded ops a.tmps)=true∧ ∃f args,(execOp a.eval o).run P w= .ok (.enter f args) w∧Calls P f args w fun e w'=> ∃v,e= .returned v∧Q .normal (a.put o.dst v) w'
theorem VY {up:Nat→Nat} {L:Nat} {oL:Oper} (hL:ops.size=L+1) (hoL:ops[L]?=some oL) (hup:Zr ops L up=true) (hs:rV ops a0.tmps.size D dep=true) (hstab: ∀j a w w',R w w'→wh dep Fs j a w→wh dep Fs j a w')
 (hops: ∀i o,i<L→ops[i]?=some o→Rj P ops a0 D [] dep Inv R Fs i o)
 (hlast:FM P ops Q a0 D dep Inv Fs oL):
 ∀(fuel:Nat) (listed:Array Bool) (a:Act) (w:World),listed.size=ops.size→listed.getD L true=false→zc a0 D a→Inv w→
  (∀i,i<ops.size→listed.getD i true=true→wh dep Fs i a w)→
  (∀j oj i,ops[j]?=some oj→listed.getD j true=true→bN oj i=true→listed.getD i false=true)→
  ((List.range ops.size).filter fun i=> !listed.getD i true).length≤fuel→wpAny P .any ops Q fuel listed a w:=by
 have hall: ∀(listed:Array Bool),listed.size=ops.size→Region.ready .any ops listed=[]→ ∀n i,i≤n→i<ops.size→listed.getD i true=true:=by
  intro listed hsz hr n
  induction n with
  |zero=>
   intro i hi hlt
   obtain rfl:i=0:=by omega
   cases hl:listed.getD 0 true with
   |true=>rfl
   |false=>
    exfalso
    obtain ⟨o,ho⟩: ∃o,ops[0]?=some o:=⟨ops[0],by simp [hlt]⟩
    have hm:0∈Region.ready .any ops listed:=by
     unfold Region.ready
     rw [List.mem_filter]
     refine ⟨by simpa using hlt,?_⟩
     rw [hl,ho]
     simp only [Bool.not_false,Bool.true_and,Option.map_some,Option.getD_some]
     refine Array.all_eq_true'.2 fun e he=>?_
     cases hb:Region.binds .any e with
     |false=>rfl
     |true=>have:=(Eo hs ho).1 e he hb;omega
    rw [hr] at hm
    cases hm
  |succ n ih=>
   intro i hi hlt
   by_cases hle:i≤n
   ·exact ih i hle hlt
   obtain rfl:i=n+1:=by omega
   cases hl:listed.getD (n+1) true with
   |true=>rfl
   |false=>
    exfalso
    obtain ⟨o,ho⟩: ∃o,ops[n+1]?=some o:=⟨ops[n+1],by simp [hlt]⟩
    have hm:n+1∈Region.ready .any ops listed:=by
     unfold Region.ready
     rw [List.mem_filter]
     refine ⟨by simpa using hlt,?_⟩
     rw [hl,ho]
     simp only [Bool.not_false,Bool.true_and,Option.map_some,Option.getD_some]
     refine Array.all_eq_true'.2 fun e he=>?_
     cases hb:Region.binds .any e with
     |false=>rfl
     |true=>
      have h1:=(Eo hs ho).1 e he hb
      have h2:=ih e.on (by omega) (by omega)
      have h3:e.on<listed.size:=by omega
      simp [h3] at h2
      simp [h3,h2]
    rw [hr] at hm
    cases hm
 intro fuel
 induction fuel with
 |zero=>
  intro listed a w hsz hun0 hB hI hF hcl hn
  exfalso
  have hnil:(List.range ops.size).filter (fun i=> !listed.getD i true)=[]:=List.eq_nil_of_length_eq_zero (by omega)
  have:=List.filter_eq_nil_iff.1 hnil L (by simp;omega)
  rw [hun0] at this
  simp at this
 |succ fuel ih=>
  intro listed a w hsz hun0 hB hI hF hcl hn
  refine ⟨fun hr=>(by have:=(hall listed hsz hr L L (Nat.le_refl _) (by omega)).symm.trans hun0
                      cases this),fun i hi=>?_⟩
  have hi':=hi
  unfold Region.ready at hi'
  rw [List.mem_filter] at hi'
  obtain ⟨hir,hib⟩:=hi'
  have hilt:i<ops.size:=by simpa using hir
  obtain ⟨o,ho⟩: ∃o,ops[i]?=some o:=⟨ops[i],by simp [hilt]⟩
  rw [ho] at hib
  simp only [Option.map_some,Option.getD_some,Bool.and_eq_true,Bool.not_eq_true'] at hib
  obtain ⟨hun,hpre⟩:=hib
  have hpre': ∀j,bN o j=true→listed.getD j false=true:=by
   intro j hj
   unfold bN at hj
   obtain ⟨e,he,hb⟩:=List.any_eq_true.1 hj
   have he:=Array.mem_toList_iff.1 he
   simp only [Bool.and_eq_true,beq_iff_eq] at hb
   have:=Array.all_eq_true'.1 hpre e he
   rw [hb.1] at this
   simpa [hb.2] using this
  have hst:=Eo hs ho
  have hgd: ∀j d,(listed.setIfInBounds i true).getD j d=if j=i then true else listed.getD j d:=by
   intro j d
   have hil:i<listed.size:=by omega
   by_cases hji:j=i
   ·subst hji;simp [hil]
   ·rw [if_neg hji]
    simp only [Array.getD_eq_getD_getElem?]
    rw [Array.getElem?_setIfInBounds_ne (fun e=>hji e.symm)]
  by_cases hiL:i=L
  ·subst hiL
   obtain rfl:o=oL:=Option.some.inj (ho.symm.trans hoL)
   have hlt: ∀(n j:Nat),i-j≤n→j<i→listed.getD j true=true:=by
    intro n
    induction n with
    |zero=>intro j h1 h2;omega
    |succ n ihn=>
     intro j h1 h2
     have hu:=List.all_eq_true.1 hup j (by simpa using h2)
     simp only [Bool.and_eq_true,decide_eq_true_eq] at hu
     obtain ⟨⟨u1,u2⟩,u3⟩:=hu
     obtain ⟨ou,hou⟩: ∃ou,ops[up j]?=some ou:=⟨ops[up j]'(by omega),by simp [show up j<ops.size by omega]⟩
     rw [hou] at u3
     have u3:bN ou j=true:=u3
     have hj:listed.getD j false=true:=by
      by_cases hui:up j=i
      ·rw [hui,ho] at hou
       injection hou with hou
       subst hou
       exact hpre' j u3
      ·exact hcl (up j) ou j hou (ihn (up j) (by omega) (by omega)) u3
     have hjl:j<listed.size:=by omega
     simp [hjl] at hj
     simp [hjl,hj]
   have hallF: ∀j,j+1<ops.size→wh dep Fs j a w:=fun j hj=>hF j (by omega) (hlt i j (by omega) (by omega))
   obtain ⟨hw,f,args,hr,hg⟩:=hlast a w hB hI hallF
   unfold wpOp
   rw [ho]
   simp only [hw,if_true,Oper.wp,hr,Oper.upon]
   refine .inl (hg.mono ?_)
   rintro e w' ⟨v,rfl,hq⟩
   have hnone:Region.ready .any ops (listed.setIfInBounds i true)=[]:=by
    unfold Region.ready
    rw [List.filter_eq_nil_iff]
    intro j hj
    have hj':j<ops.size:=by simpa using hj
    have:(listed.setIfInBounds i true).getD j true=true:=by
     rw [hgd]
     by_cases hji:j=i
     ·simp [hji]
     ·rw [if_neg hji];exact hlt i j (by omega) (by omega)
    simp only [this,Bool.not_true,Bool.false_and,Bool.false_eq_true,not_false_eq_true]
   cases fuel with
   |zero=>exact ⟨hnone,hq⟩
   |succ fuel=>exact ⟨fun _=>hq,fun j hj=>by rw [hnone] at hj;cases hj⟩
  have howe:Rj P ops a0 D [] dep Inv R Fs i o:=hops i o (by omega) ho
  have hfacts: ∀j,bN o j=true→wh dep Fs j a w:=by
   intro j hj
   have h1:=hpre' j hj
   have hjl:j<listed.size:=by
    rcases Nat.lt_or_ge j listed.size with h |h
    ·exact h
    ·simp [h] at h1
   refine hF j (by omega) ?_
   simp [hjl] at h1
   simp [hjl,h1]
  -- what holds behind operation i
  have hnext: ∀a' w',(∃v,a'=a.put o.dst v)→Inv w'→wh dep Fs i a' w'→(w'=w∨(R w w'∧SW ops [] i=true))→
   wpAny P .any ops Q fuel (listed.setIfInBounds i true) a' w':=by
   rintro a' w' ⟨v,rfl⟩ hI' hFi hch
   refine ih _ _ _ (by simp [hsz]) (by rw [hgd,if_neg (fun e=>hiL e.symm)];exact hun0) (KI hB _ hst.2.1 v) hI' ?_ ?_ ?_
   ·intro j hj hlj
    rw [hgd] at hlj
    by_cases hji:j=i
    ·subst hji;exact hFi
    rw [if_neg hji] at hlj
    obtain ⟨oj,hoj⟩: ∃oj,ops[j]?=some oj:=⟨ops[j],by simp [hj]⟩
    have hnw:bN oj i=false:=by
     cases hw:bN oj i with
     |false=>rfl
     |true=>
      have h1:=hcl j oj i hoj hlj hw
      have hil:i<listed.size:=by omega
      simp [hil] at h1 hun
      rw [h1] at hun
      cases hun
    have h1:wh dep Fs j (a.put o.dst v) w:=RU _ _ (fun d hd=>hst.2.2 j oj hoj hji hnw d hd) (hF j hj hlj)
    rcases hch with rfl |⟨hR,hnl⟩
    ·exact h1
    ·exact hstab j _ _ _ hR h1
   ·intro j oj k hoj hlj hw
    rw [hgd] at hlj ⊢
    by_cases hki:k=i
    ·simp [hki]
    rw [if_neg hki]
    by_cases hji:j=i
    ·subst hji
     rw [ho] at hoj
     injection hoj with hoj
     subst hoj
     exact hpre' k hw
    ·rw [if_neg hji] at hlj
     exact hcl j oj k hoj hlj hw
   ·have hsub:(List.range ops.size).filter (fun j=> !(listed.setIfInBounds i true).getD j true)=((List.range ops.size).filter fun j=> !listed.getD j true).filter (fun j=> !(j==i)):=by
     rw [List.filter_filter]
     refine List.filter_congr fun j _=>?_
     rw [hgd]
     by_cases hji:j=i<;>simp [hji]
    rw [hsub]
    have hlt:(((List.range ops.size).filter fun j=> !listed.getD j true).filter (fun j=> !(j==i))).length<((List.range ops.size).filter fun j=> !listed.getD j true).length:=by
     rw [List.length_filter_lt_length_iff_exists]
     exact ⟨i,List.mem_filter.2 ⟨hir,by simp [hun]⟩,by simp⟩
    omega
  have hgive: ∀v w',KA ops [] dep Inv R Fs i o a w v w'→wpAny P .any ops Q fuel (listed.setIfInBounds i true) (a.put o.dst v) w':=by
   rintro v w' ⟨h1,h2,h3⟩
   refine hnext _ _ ⟨v,rfl⟩ h1 ?_ h3
   unfold wh
   cases hd:o.dst with
   |none=>rw [hd] at h2;exact h2
   |some d=>
    rw [hd] at h2
    obtain ⟨e1,e2⟩:=NS hs ho hd
    rw [e1,nr _ _ (by rw [hB.1];exact e2)]
    exact h2
  unfold wpOp
  rw [ho]
  rcases howe a w hB hI hfacts with ⟨hw,v,w',hr,hg⟩ |⟨hw,w',hr,hg⟩ |⟨hw,f,args,hr,hg⟩ |⟨hw,hg⟩
  ·simp only [hw,if_true,Oper.wp,hr,Oper.upon]
   exact .inl (hgive _ _ hg)
  ·simp only [hw,if_true,Oper.wp,hr,Oper.upon]
   exact .inl (hgive _ _ hg)
  ·simp only [hw,if_true,Oper.wp,hr,Oper.upon]
   refine .inl (hg.mono ?_)
   rintro e w' ⟨v,rfl,hg'⟩
   exact hgive _ _ hg'
  ·simp only [hw,Bool.false_eq_true,if_false]
   exact hgive _ _ hg
theorem LZ {id:Nat} {w:World} {up:Nat→Nat} {L:Nat} {oL:Oper} (hm:P.follows .mixedOrders=true) (hL:ops.size=L+1) (hoL:ops[L]?=some oL) (hup:Zr ops L up=true) (hs:rV ops a0.tmps.size D dep=true)
 (hstab: ∀j a w w',R w w'→wh dep Fs j a w→wh dep Fs j a w') (hI:Inv w.drew)
 (hops: ∀i o,i<L→ops[i]?=some o→Rj P ops a0 D [] dep Inv R Fs i o) (hlast:FM P ops Q a0 D dep Inv Fs oL):(Code.region id ops true).wp P Q a0 w:=
 wp_region_any hm (VY hL hoL hup hs hstab hops hlast ops.size _ a0 _ (by simp) (by simp [hL]) ⟨rfl,rfl,fun _ _=>rfl⟩ hI
  (fun i hi h=>by simp [hi] at h)
  (fun j oj i hj h=>by
   have:j<ops.size:=by
    rcases Nat.lt_or_ge j ops.size with h |h
    ·exact h
    ·simp [h] at hj
   simp [this] at h)
  (by have:=List.length_filter_le (fun i=> !(Array.replicate ops.size false).getD i true) (List.range ops.size);simpa using this))
theorem JP {id:Nat} {w:World} {up:Nat→Nat} {L:Nat} {oL:Oper} (hm:P.follows .mixedOrders=true) (hL:ops.size=L+1) (hoL:ops[L]?=some oL) (hup:Zr ops L up=true) (hs:rV ops a0.tmps.size D dep=true)
 (hstab: ∀j a w w',R w w'→wh dep Fs j a w→wh dep Fs j a w') (hI:Inv w.drew)
 (hops:Ja P ops a0 D [] dep Inv R Fs 0 (ops.toList.take L)) (hlast:FM P ops Q a0 D dep Inv Fs oL):(Code.region id ops true).wp P Q a0 w:=
 LZ hm hL hoL hup hs hstab hI (fun i o hi ho=>by
  have:=VQ hops i o (by rw [List.getElem?_take_of_lt hi];simpa using ho)
  rwa [Nat.zero_add] at this) hlast
end
theorem Qe {f:FuncId} {own:Bool} (h:bz Tryz.prog ⟨f,[.o (.int .i64)],[.o .s],own,fun x=>de ic 30 x⟩):bz Tryz.prog ⟨f,[.o (.int .i64)],[.o .s],own,fun x=>aT x⟩:=⟨h.1,fun x res hm=>h.2 x res (abZ hm)⟩
theorem zh {w w1:World} (h:Bs w) (hb:Below w.heap.size w w1):Bs w1:=by
 obtain ⟨h1,m,h2⟩:=h
 exact ⟨fun w' h'=>h1 w' (bH h' hb),m,fun w' h'=>h2 w' (bH h' hb)⟩
theorem Eh {own:Bool} (hN:bz Tryz.prog ⟨118,[.o .s],[.o (.int .i64),.o .b],own,fun x=>aI x⟩) {w:World} (hbs:Bs w) {s:ByteArray} {r:Int×Bool} (hm:aI s=some r) {w1:World} (h1:Below w.heap.size w w1):
 Calls Tryz.prog 118 #[.string s] w1 fun e w'=>e= .returned (.tuple #[.int .i64 r.1,.bool r.2])∧Below w1.heap.size w1 w':=by
 have h:=hN.2 s r hm (YK []) w1 w1 [] (zh hbs h1) ⟨_,_,rfl,⟨s,rfl⟩,rfl⟩ (St.nil w1)
 refine h.mono ?_
 rintro e w' ⟨us,A,rfl,⟨v1,v2,v3,A1,A2,A3,hv,rfl,q1,q2,q3⟩,S⟩
 obtain ⟨v,vr,u,ur,B1,B2,rfl,rfl,rfl,⟨k,z,rfl,rfl,rfl⟩,v,vr,u,ur,B1,B2,rfl,rfl,rfl,⟨y,rfl,rfl,rfl⟩,rfl,rfl,rfl⟩:=q1
 have hv: [PV.int .i64 r.1,PV.b r.2]=_:=hv
 simp only [List.cons_append,List.nil_append,List.cons.injEq,PV.int.injEq,PV.b.injEq] at hv
 obtain ⟨⟨rfl,rfl⟩,rfl,_⟩:=hv
 exact ⟨rfl,S.below⟩
theorem NX (w:World): ∃w1 w2 w3 w4 w5 w6 w7 w8,(Instr.makeMap 159 none).run Tryz.prog (w.alloc (.cells #[.int .i64 0,.int .i64 0,.int .i64 0] 86))= .ok (.map (some (w.heap.size+1))) (((w.alloc (.cells #[.int .i64 0,.int .i64 0,.int .i64 0] 86))).alloc (.map #[] 0))∧(Instr.makeMap 159 none).run Tryz.prog w5= .ok (.map (some (w.heap.size+2))) (w5.alloc (.map #[] 0))∧(Instr.mapUpdate 159 (.map (some (w.heap.size+1))) (.string {data:= #[111,110]}) (.int .i64 0)).run Tryz.prog (((w.alloc (.cells #[.int .i64 0,.int .i64 0,.int .i64 0] 86))).alloc (.map #[] 0))= .ok () w1∧(Instr.mapUpdate 159 (.map (some (w.heap.size+1))) (.string {data:= #[111,102,102]}) (.int .i64 1)).run Tryz.prog w1= .ok () w2∧(Instr.mapUpdate 159 (.map (some (w.heap.size+1))) (.string {data:= #[101,97,114,116,104]}) (.int .i64 2)).run Tryz.prog w2= .ok () w3∧(Instr.mapUpdate 159 (.map (some (w.heap.size+1))) (.string {data:= #[99,108,101,97,114]}) (.int .i64 3)).run Tryz.prog w3= .ok () w4∧(Instr.mapUpdate 159 (.map (some (w.heap.size+1))) (.string {data:= #[98,114,101,97,107]}) (.int .i64 6)).run Tryz.prog w4= .ok () w5∧(Instr.mapUpdate 159 (.map (some (w.heap.size+2))) (.string {data:= #[105,115,115,117,101]}) (.int .i64 4)).run Tryz.prog (w5.alloc (.map #[] 0))= .ok () w6∧(Instr.mapUpdate 159 (.map (some (w.heap.size+2))) (.string {data:= #[114,101,116,117,114,110]}) (.int .i64 5)).run Tryz.prog w6= .ok () w7∧(Instr.mapUpdate 159 (.map (some (w.heap.size+2))) (.string {data:= #[109,101,110,100]}) (.int .i64 7)).run Tryz.prog w7= .ok () w8∧qZ w8 (w.heap.size+1) Ff∧qZ w8 (w.heap.size+2) Fg∧w8.heap.size=w.heap.size+3∧w5.heap.size=w.heap.size+2∧Below w.heap.size w w8∧Bk w8 w.heap.size 86 #[.int .i64 0,.int .i64 0,.int .i64 0]:=by
 have ht:Tryz.prog.underlying 159=some (.map 9 3):=Tryz.underlying159
 have hk:Tryz.prog.underlying 9=some .string:=Tryz.underlying9
 have b0:Below w.heap.size w (((w.alloc (.cells #[.int .i64 0,.int .i64 0,.int .i64 0] 86))).alloc (.map #[] 0)):=(Below.refl _ _).alloc (Nat.le_refl _) _ |>.alloc (by simp) _
 have B0:Bk (((w.alloc (.cells #[.int .i64 0,.int .i64 0,.int .i64 0] 86))).alloc (.map #[] 0)) w.heap.size 86 #[.int .i64 0,.int .i64 0,.int .i64 0]:=(Bk.new w _ _).alloc _
 have m0:qZ (((w.alloc (.cells #[.int .i64 0,.int .i64 0,.int .i64 0] 86))).alloc (.map #[] 0)) (w.heap.size+1) []:=by have:=OY ((w.alloc (.cells #[.int .i64 0,.int .i64 0,.int .i64 0] 86)));simpa using this
 have z0:(((w.alloc (.cells #[.int .i64 0,.int .i64 0,.int .i64 0] 86))).alloc (.map #[] 0)).heap.size=w.heap.size+2:=by simp
 obtain ⟨w1,r1,m1,z1,g1⟩:=tv m0 ht hk (k:= {data:= #[111,110]}) 0 rfl
 have b1:=ni b0 g1 (by omega)
 have B1:=B0.grown' g1 (by omega)
 obtain ⟨w2,r2,m2,z2,g2⟩:=tv m1 ht hk (k:= {data:= #[111,102,102]}) 1 rfl
 have b2:=ni b1 g2 (by omega)
 have B2:=B1.grown' g2 (by omega)
 obtain ⟨w3,r3,m3,z3,g3⟩:=tv m2 ht hk (k:= {data:= #[101,97,114,116,104]}) 2 rfl
 have b3:=ni b2 g3 (by omega)
 have B3:=B2.grown' g3 (by omega)
 obtain ⟨w4,r4,m4,z4,g4⟩:=tv m3 ht hk (k:= {data:= #[99,108,101,97,114]}) 3 rfl
 have b4:=ni b3 g4 (by omega)
 have B4:=B3.grown' g4 (by omega)
 obtain ⟨w5,r5,m5,z5,g5⟩:=tv m4 ht hk (k:= {data:= #[98,114,101,97,107]}) 6 rfl
 have b5:=ni b4 g5 (by omega)
 have B5:=B4.grown' g5 (by omega)
 have z5':w5.heap.size=w.heap.size+2:=by omega
 have n0:qZ (w5.alloc (.map #[] 0)) w5.heap.size []:=OY w5
 have m5':=Eb m5 (.map #[] 0)
 have b5':Below w.heap.size w (w5.alloc (.map #[] 0)):=b5.alloc (by omega) _
 have B5':=B5.alloc (.map #[] 0)
 obtain ⟨w6,r6,n1,z6,g6⟩:=tv n0 ht hk (k:= {data:= #[105,115,115,117,101]}) 4 rfl
 have m6:=GM m5' g6 (by omega)
 have b6:=ni b5' g6 (by omega)
 have B6:=B5'.grown' g6 (by omega)
 obtain ⟨w7,r7,n2,z7,g7⟩:=tv n1 ht hk (k:= {data:= #[114,101,116,117,114,110]}) 5 rfl
 have m7:=GM m6 g7 (by omega)
 have b7:=ni b6 g7 (by omega)
 have B7:=B6.grown' g7 (by omega)
 obtain ⟨w8,r8,n3,z8,g8⟩:=tv n2 ht hk (k:= {data:= #[109,101,110,100]}) 7 rfl
 have m8:=GM m7 g8 (by omega)
 have b8:=ni b7 g8 (by omega)
 have B8:=B7.grown' g8 (by omega)
 have z6':(w5.alloc (.map #[] 0)).heap.size=w.heap.size+3:=by simp;omega
 have q0:(Instr.makeMap 159 none).run Tryz.prog (w.alloc (.cells #[.int .i64 0,.int .i64 0,.int .i64 0] 86))= .ok (.map (some (w.heap.size+1))) (((w.alloc (.cells #[.int .i64 0,.int .i64 0,.int .i64 0] 86))).alloc (.map #[] 0)):=by have:=run_makeMap (P:=Tryz.prog) 159 ((w.alloc (.cells #[.int .i64 0,.int .i64 0,.int .i64 0] 86)));simpa using this
 have q5:(Instr.makeMap 159 none).run Tryz.prog w5= .ok (.map (some w5.heap.size)) (w5.alloc (.map #[] 0)):=rfl
 rw [z5'] at q5 r6 r7 r8 n3
 exact ⟨w1,w2,w3,w4,w5,w6,w7,w8,q0,q5,r1,r2,r3,r4,r5,r6,r7,r8,m8,n3,by omega,z5',b8,B8⟩
theorem Ps {w:World} {A:Option Addr} {c:Nat} {ws:List ByteArray} (R:Rc w 1 A ws.length c (ws.flatMap (EK.s).enc)) (h:0<ws.length): ∃b off,A=some ⟨b,off,none⟩∧b<w.heap.size∧ ∀j s,ws[j]?=some s→w.cell? ⟨b,off+j,none⟩=some (.string s):=by
 have hf:ws.flatMap (EK.s).enc=ws.map Value.string:=by rw [List.map_eq_flatMap];rfl
 obtain ⟨b,off,hA,hcell⟩:=R.rd.2 (by omega)
 rw [hf] at hcell
 have hc: ∀j s,ws[j]?=some s→w.cell? ⟨b,off+j,none⟩=some (.string s):=fun j z hz=>hcell j _ (by rw [List.getElem?_map,hz];rfl)
 refine ⟨b,off,hA,?_,hc⟩
 have:=hc 0 ws[0] (by simp)
 rcases Nat.lt_or_ge b w.heap.size with h |h
 ·exact h
 ·simp [World.cell?,Array.getElem?_eq_none h] at this
def Jb (w:World) (r:Int×Int×Int×Bool) (e:Ending) (w':World):Prop:=e= .returned (.tuple #[.agg #[.int .i64 r.1,.int .i64 r.2.1,.int .i64 r.2.2.1],.bool r.2.2.2])∧Below w.heap.size w w'
set_option maxRecDepth 20000 in
theorem Qy {w:World} {A:Option Addr} {c n:Nat} (h2: ¬n=2) (h3: ¬n=3):Calls Tryz.prog 52 #[.slice A n c] w (Jb w (0,0,0,false)):=by
 obtain ⟨w1,w2,w3,w4,w5,w6,w7,w8,q1,q2,r1,r2,r3,r4,r5,r6,r7,r8,m1,m2,z8,z5,b8,B8⟩:=NX w
 have e2:((n:Int)==2)=false:=by rw [beq_eq_false_iff_ne];omega
 have e3:((n:Int)==3)=false:=by rw [beq_eq_false_iff_ne];omega
 have f8:=B8.c3
 go_enter Tryz.func52,Tryz.ntmps52
 go_wp2
 exact bodyPost_ret (v:=.tuple #[.agg #[.int .i64 0,.int .i64 0,.int .i64 0],.bool false]) (by simp [results,Tryz.results52,go_sem, *]) rfl ⟨rfl,(by repeat' (first |exact Below.refl _ _ |assumption |refine Below.drew ?_ |refine cell_drew ?_ |refine Below.setCell ?_ (by (try simp);(try omega)) _ |refine Below.alloc ?_ (by (try simp);(try omega)) _ |refine uT (by assumption) (by (try simp);(try omega)) ?_))⟩
set_option maxRecDepth 20000 in
theorem To {own:Bool} (hN:bz Tryz.prog ⟨118,[.o .s],[.o (.int .i64),.o .b],own,fun x=>aI x⟩) {w:World} (hbs:Bs w) {x y:ByteArray} {A:Option Addr} {c:Nat} (R:Rc w 1 A [x,y].length c ([x,y].flatMap (EK.s).enc)) {p:Int×Bool} (hp:aI y=some p):
 Calls Tryz.prog 52 #[.slice A 2 c] w (Jb w ((oP Ff x).1,p.1,0,(oP Ff x).2&&p.2)):=by
 obtain ⟨b,off,rfl,hb,hc⟩:=Ps R (by simp)
 have c0:w.cell? ⟨b,off,none⟩=some (.string x):=hc 0 x rfl
 have c1:w.cell? ⟨b,off+1,none⟩=some (.string y):=hc 1 y rfl
 clear hc R
 obtain ⟨w1,w2,w3,w4,w5,w6,w7,w8,q1,q2,r1,r2,r3,r4,r5,r6,r7,r8,m1,m2,z8,z5,b8,B8⟩:=NX w
 have hc0: ∀o,(w8.alloc o).cell? ⟨b,off,none⟩=some (.string x):=fun o=>((b8.alloc (by omega) o).cell (p:=⟨b,off,none⟩) hb).trans c0
 have hc1: ∀o,(w8.alloc o).cell? ⟨b,off+1,none⟩=some (.string y):=fun o=>((b8.alloc (by omega) o).cell (p:=⟨b,off+1,none⟩) hb).trans c1
 have hl: ∀o,(Instr.lookup 159 (.map (some (w.heap.size+1))) (.string x) true).run Tryz.prog (w8.alloc o)= .ok (.tuple #[.int .i64 (oP Ff x).1,.bool (oP Ff x).2]) (w8.alloc o):=fun o=>LB (Eb m1 o) Tryz.underlying159 Tryz.underlying9 (by simp [go_sem]) x
 have BD: ∀cs,Bk (w8.alloc (.cells cs 86)) (w.heap.size+3) 86 cs:=fun cs=>by have:=Bk.new w8 86 cs;rwa [z8] at this
 have B0: ∀cs,Bk (w8.alloc (.cells cs 86)) w.heap.size 86 #[.int .i64 0,.int .i64 0,.int .i64 0]:=fun cs=>B8.alloc _
 have bA: ∀o,Below w.heap.size w (w8.alloc o):=fun o=>b8.alloc (by omega) o
 have f8:=B8.c3
 generalize oP Ff x=l at*
 obtain ⟨l1,l2⟩:=l
 obtain ⟨p1,p2⟩:=p
 go_enter Tryz.func52,Tryz.ntmps52
 go_wp2_with fail
 refine (Eh hN hbs hp (bA _)).mono ?_
 rintro e w9 ⟨rfl,hb9⟩
 have b9:=bH hb9 (bA _)
 have f0:=((B0 _).after hb9).c3
 have f1:=((BD _).after hb9).c3
 clear hb9 bA B0 BD f8 B8 b8 hl hc0 hc1 m1 m2 r1 r2 r3 r4 r5 r6 r7 r8 q1 q2
 cases l2
 all_goals
  go_wp2
  exact bodyPost_ret (v:=.tuple #[.agg #[.int .i64 l1,.int .i64 p1,.int .i64 0],.bool _]) (by simp [results,Tryz.results52,go_sem, *]) rfl ⟨rfl,(by repeat' (first |exact Below.refl _ _ |assumption |refine Below.drew ?_ |refine cell_drew ?_ |refine Below.setCell ?_ (by (try simp);(try omega)) _ |refine Below.alloc ?_ (by (try simp);(try omega)) _ |refine uT (by assumption) (by (try simp);(try omega)) ?_))⟩
set_option maxRecDepth 20000 in
set_option maxHeartbeats 2000000 in
theorem NB {own:Bool} (hN:bz Tryz.prog ⟨118,[.o .s],[.o (.int .i64),.o .b],own,fun x=>aI x⟩) {w:World} (hbs:Bs w) {x y z:ByteArray} {A:Option Addr} {c:Nat} (R:Rc w 1 A [x,y,z].length c ([x,y,z].flatMap (EK.s).enc)) {p q:Int×Bool} (hp:aI y=some p) (hq:aI z=some q):
 Calls Tryz.prog 52 #[.slice A 3 c] w (Jb w ((oP Fg x).1,p.1,q.1,(oP Fg x).2&&p.2&&q.2)):=by
 obtain ⟨b,off,rfl,hb,hc⟩:=Ps R (by simp)
 have c0:w.cell? ⟨b,off,none⟩=some (.string x):=hc 0 x rfl
 have c1:w.cell? ⟨b,off+1,none⟩=some (.string y):=hc 1 y rfl
 have c2:w.cell? ⟨b,off+2,none⟩=some (.string z):=hc 2 z rfl
 clear hc R
 obtain ⟨w1,w2,w3,w4,w5,w6,w7,w8,q1,q2,r1,r2,r3,r4,r5,r6,r7,r8,m1,m2,z8,z5,b8,B8⟩:=NX w
 have hc0: ∀o,(w8.alloc o).cell? ⟨b,off,none⟩=some (.string x):=fun o=>((b8.alloc (by omega) o).cell (p:=⟨b,off,none⟩) hb).trans c0
 have hc1: ∀o,(w8.alloc o).cell? ⟨b,off+1,none⟩=some (.string y):=fun o=>((b8.alloc (by omega) o).cell (p:=⟨b,off+1,none⟩) hb).trans c1
 have hl: ∀o,(Instr.lookup 159 (.map (some (w.heap.size+2))) (.string x) true).run Tryz.prog (w8.alloc o)= .ok (.tuple #[.int .i64 (oP Fg x).1,.bool (oP Fg x).2]) (w8.alloc o):=fun o=>LB (Eb m2 o) Tryz.underlying159 Tryz.underlying9 (by simp [go_sem]) x
 have BD: ∀cs,Bk (w8.alloc (.cells cs 86)) (w.heap.size+3) 86 cs:=fun cs=>by have:=Bk.new w8 86 cs;rwa [z8] at this
 have B0: ∀cs,Bk (w8.alloc (.cells cs 86)) w.heap.size 86 #[.int .i64 0,.int .i64 0,.int .i64 0]:=fun cs=>B8.alloc _
 have bA: ∀o,Below w.heap.size w (w8.alloc o):=fun o=>b8.alloc (by omega) o
 have f8:=B8.c3
 generalize oP Fg x=l at*
 obtain ⟨l1,l2⟩:=l
 obtain ⟨p1,p2⟩:=p
 obtain ⟨p3,p4⟩:=q
 go_enter Tryz.func52,Tryz.ntmps52
 go_wp2_with fail
 refine (Eh hN hbs hp (bA _)).mono ?_
 rintro e w9 ⟨rfl,hb9⟩
 have z9:=hb9.size
 simp at z9
 have b9:=bH hb9 (bA _)
 have f0:=((B0 _).after hb9).c3
 have f1:=((BD _).after hb9).c3
 have e2:=(b9.cell (p:=⟨b,off+2,none⟩) hb).trans c2
 have D:=(BD _).after hb9
 have D0:=(B0 _).after hb9
 clear hb9 bA B0 BD f8 B8 b8 hl hc0 hc1 m1 m2 r1 r2 r3 r4 r5 r6 r7 r8 q1 q2
 go_wp2_with fail
 have Dn:Bk (w9.setCell ⟨w.heap.size+3,1,none⟩ (.int .i64 p1)) (w.heap.size+3) 86 #[.int .i64 l1,.int .i64 p1,.int .i64 0]:=D.set_ 1 _
 have Dm:Bk (w9.setCell ⟨w.heap.size+3,1,none⟩ (.int .i64 p1)) w.heap.size 86 #[.int .i64 0,.int .i64 0,.int .i64 0]:=D0.far (by simp) _
 have bn:Below w.heap.size w (w9.setCell ⟨w.heap.size+3,1,none⟩ (.int .i64 p1)):=b9.setCell (by simp) _
 refine (Eh hN hbs hq bn).mono ?_
 rintro e w10 ⟨rfl,hb10⟩
 have b10:=bH hb10 bn
 have g0:=(Dm.after hb10).c3
 have g1:=(Dn.after hb10).c3
 clear hb10 Dn Dm D D0 f0 f1 b9 bn
 cases l2<;>cases p2
 all_goals
  go_wp2
  exact bodyPost_ret (v:=.tuple #[.agg #[.int .i64 l1,.int .i64 p1,.int .i64 p3],.bool _]) (by simp [results,Tryz.results52,go_sem, *]) rfl ⟨rfl,(by repeat' (first |exact Below.refl _ _ |assumption |refine Below.drew ?_ |refine cell_drew ?_ |refine Below.setCell ?_ (by (try simp);(try omega)) _ |refine Below.alloc ?_ (by (try simp);(try omega)) _ |refine uT (by assumption) (by (try simp);(try omega)) ?_))⟩
theorem Lj {own:Bool} (co:CallOk Tryz.prog 52) (hN:bz Tryz.prog ⟨118,[.o .s],[.o (.int .i64),.o .b],own,fun x=>aI x⟩):bz Tryz.prog ⟨52,[.o (.sl .ro 9 .s)],[.g [.int .i64,.int .i64,.int .i64],.o .b],false,fun x=>dT x⟩:=⟨co,fun x res hm e w0 w X hbs hp hS=>by
 have hm:dT x=some res:=hm
 obtain ⟨v,vr,hv,⟨l,hl,hro⟩,_⟩:=hp
 have hl:=(List.head_eq_of_cons_eq hv).trans hl
 injection hl with _ hl
 subst hl
 have R:=hro w _ hS (fun y hy=>List.mem_append_right _ hy)
 have hbs1:=zh hbs hS.below
 have key:Calls Tryz.prog 52 #[.slice (e.a 0) x.length (e.c 0)] w (Jb w res):=by
  unfold dT at hm
  by_cases h2:x.length=2
  ·obtain ⟨a,b,rfl⟩: ∃a b,x=[a,b]:=by
    match x,h2 with
    | [a,b],_=>exact ⟨a,b,rfl⟩
   rw [decide_eq_true h2] at hm
   obtain ⟨p,hp,hm⟩:=uW hm
   injection hm with hm
   subst hm
   exact To hN hbs1 R hp
  by_cases h3:x.length=3
  ·obtain ⟨a,b,c,rfl⟩: ∃a b c,x=[a,b,c]:=by
    match x,h3 with
    | [a,b,c],_=>exact ⟨a,b,c,rfl⟩
   rw [decide_eq_false h2,decide_eq_true h3] at hm
   obtain ⟨p,hp,hm⟩:=uW hm
   obtain ⟨q,hq,hm⟩:=uW hm
   injection hm with hm
   subst hm
   exact NB hN hbs1 R hp hq
  rw [decide_eq_false h2,decide_eq_false h3] at hm
  injection hm with hm
  subst hm
  exact Qy h2 h3
 refine Calls.mono key ?_
 rintro en w' ⟨rfl,hb⟩
 exact ⟨[_,_],[],rfl,⟨[_,_,_,_],[],[],[],[],[],rfl,rfl,⟨[_,_,_],[_],[_,_,_],[_],[],[],rfl,rfl,rfl,⟨_,_,_,_,[],[],rfl,rfl,rfl,⟨_,_,rfl,rfl,rfl⟩,_,_,_,_,[],[],rfl,rfl,rfl,⟨_,_,rfl,rfl,rfl⟩,_,_,_,_,[],[],rfl,rfl,rfl,⟨_,_,rfl,rfl,rfl⟩,rfl,rfl,rfl⟩,⟨_,[],_,[],[],[],rfl,rfl,rfl,⟨_,rfl,rfl,rfl⟩,rfl,rfl,rfl⟩⟩,⟨rfl,rfl⟩,⟨[],[],[],[],rfl,rfl,⟨rfl,rfl⟩,⟨rfl,rfl⟩⟩⟩,hS.quiet hb⟩⟩
abbrev PZ:EK:=.p (.int .i64) (.p (.int .i64) (.int .i64))
theorem LI {own:Bool} (hN:bz Tryz.prog ⟨100,[.g [.int .i64,.sl .ro 77 PZ]],[.o .b],own,fun x=>aN x.1 x.2⟩) {w:World} (hbs:Bs w) {b:Int} {ls:List (Int×Int×Int)} {A:Option Addr} {c:Nat} (R:Rc w 3 A ls.length c (ls.flatMap PZ.enc)) {p:Bool} (hp:aN b ls=some p) {w1:World} (h1:Below w.heap.size w w1):
 Calls Tryz.prog 100 #[.agg #[.int .i64 b,.slice A ls.length c]] w1 fun e w'=>e= .returned (.bool p)∧Below w1.heap.size w1 w':=by
 have R1:Rc w1 3 A ls.length c (ls.flatMap PZ.enc):=⟨R.rd.after h1,R.cap⟩
 refine (WR hN (x:=(b,ls)) hp (e:=YK [(none,0),(A,c)]) (w:=w1) (b:=p) (zh hbs h1) ⟨_,_,rfl,⟨.i64,b,rfl⟩,_,_,rfl,⟨ls,rfl,fun u L S _=>S.rc0 R1⟩,rfl⟩ rfl rfl rfl).mono ?_
 rintro e w' ⟨rfl,S⟩
 exact ⟨rfl,S.below⟩
theorem KH {T e:TypeId} {B b:Nat} {p:Value} {bs:List Value} {w w':World} (h:Lib.BuilderAtF T e B b p bs w) (hb:Below w.heap.size w w'):Lib.BuilderAtF T e B b p bs w':=by
 have hlt:=h.lt
 obtain ⟨h1,v,h2,h3,h4⟩:=h
 refine ⟨h1,v,(hb.block b hlt).trans h2,h3.kept (row:=none) ⟨hb.os,hb.tape,hb.output,hb.size,fun k hk _=>hb.block k hk⟩ ?_,h4⟩
 cases v.ownBlock<;>simp
theorem If {T e:TypeId} {B b:Nat} {bs:List Value} {w w':World} (h:Lib.IsBuilderF T e B b bs w) (hb:Below w.heap.size w w'):Lib.IsBuilderF T e B b bs w':=
 h.imp (fun h=>KH h hb) (fun h=>KH h hb)
theorem EH (B b:Nat) (bs:List Value) (s:ByteArray) (w:World) (h:Lib.IsBuilderF 131 5 B b bs w) (hlen:bs.length+s.size≤140737488355328) (hBw:B≤w.heap.size):
 Calls Tryz.prog 102 #[.pointer (some ⟨b,0,none⟩),.string s] w fun e w'=>e= .returned (.tuple #[.int .i64 s.size,.nilIface])∧Lib.IsBuilderF 131 5 B b (bs++Lib.strCells s) w'∧Below B w w':=by
 refine (Any.Builder_WriteString_k {Tryz.lays156 with} Tryz.Builder_Extra_156 B b bs s w h hlen hBw).mono ?_
 rintro e w' ⟨rfl,h1,h2,_⟩
 exact ⟨rfl,.inr h1,h2⟩
def ML (w:World) (s:ByteArray) (e:Ending) (w':World):Prop:=e= .returned (.string s)∧Below w.heap.size w w'
theorem Uj {own:Bool} (hN:bz Tryz.prog ⟨100,[.g [.int .i64,.sl .ro 77 PZ]],[.o .b],own,fun x=>aN x.1 x.2⟩) {w:World} (hbs:Bs w) {b:Int} {ls:List (Int×Int×Int)} {A:Option Addr} {c:Nat} (R:Rc w 3 A ls.length c (ls.flatMap PZ.enc)) (hp:aN b ls=some false):Calls Tryz.prog 42 #[.agg #[.int .i64 b,.slice A ls.length c]] w (ML w (ba [])):=by
 have b0:Below w.heap.size w (w.alloc (.cells #[.int .i64 b,.slice A ls.length c] 25)):=(Below.refl _ _).alloc (Nat.le_refl _) _
 have hS:(ba []:ByteArray)= {data:= #[]}:=rfl
 rw [hS]
 go_enter Tryz.func42,Tryz.ntmps42
 go_wp2_with fail
 refine (LI hN hbs R hp b0).mono ?_
 rintro e w1 ⟨rfl,h1⟩
 have b1:=bH h1 b0
 go_wp2
 exact bodyPost_ret (v:=.string {data:= #[]}) (by simp [results,Tryz.results42,go_sem, *]) rfl ⟨rfl,(by repeat' (first |exact Below.refl _ _ |assumption |refine Below.drew ?_ |refine cell_drew ?_ |refine Below.setCell ?_ (by (try simp);(try omega)) _ |refine Below.alloc ?_ (by (try simp);(try omega)) _ |refine uT (by assumption) (by (try simp);(try omega)) ?_))⟩
def Yr (x:Int×Int×Int):List UInt8:=32::(Lib.itoa x.1++45::(Lib.itoa x.2.1++58::Lib.itoa x.2.2))
def Hx (b:Int) (ls:List (Int×Int×Int)) (k:Nat):List UInt8:=Lib.itoa b++(ls.take k).flatMap Yr
theorem KD (b:Int) (ls:List (Int×Int×Int)):Hx b ls 0=Lib.itoa b:=by simp [Hx]
theorem KC (b:Int) (ls:List (Int×Int×Int)) {k:Nat} (h:k<ls.length):Hx b ls (k+1)=Hx b ls k++Yr ls[k]:=by
 unfold Hx
 rw [List.take_succ_eq_append_getElem h,List.flatMap_append];simp
theorem UH (b:Int) (ls:List (Int×Int×Int)):Hx b ls ls.length=Nt b ls:=by
 unfold Hx;rw [List.take_length];rfl
def WD (n:Int):Prop:= -9223372036854775808≤n∧n≤9223372036854775807
theorem sU {n:Int} (h:WD n):(Lib.itoa n).length≤21:=Lib.itoa_length_le n h.1 h.2
theorem SR {x:Int×Int×Int} (h:(WD x.1∧WD x.2.1)∧WD x.2.2):(Yr x).length≤66:=by
 have h1:=sU h.1.1;have h2:=sU h.1.2;have h3:=sU h.2
 unfold Yr;simp;omega
theorem Rk {b:Int} {ls:List (Int×Int×Int)} (h1:WD b) (h3: ∀x∈ls,(WD x.1∧WD x.2.1)∧WD x.2.2): ∀k,k≤ls.length→(Hx b ls k).length≤21+66*k
 |0,_=>by rw [KD];exact sU h1
 |k+1,hk=>by
  have:=Rk h1 h3 k (by omega)
  have:=SR (h3 ls[k] (List.getElem_mem _))
  rw [KC b ls (by omega),List.length_append];omega
def fsT (g:Nat) (xa xb xm:Int):Nat→Value→World→Prop
 |0,v,_=>v= .pointer (some ⟨g,0,none⟩)
 |1,v,_=>v= .int .i64 xa
 |2,v,_=>v= .string (ba (Lib.itoa xa))
 |3,v,_=>v= .string (ba ([32]++Lib.itoa xa))
 |4,v,_=>v= .string (ba ([32]++Lib.itoa xa++ [45]))
 |5,v,_=>v= .pointer (some ⟨g,1,none⟩)
 |6,v,_=>v= .int .i64 xb
 |7,v,_=>v= .string (ba (Lib.itoa xb))
 |8,v,_=>v= .string (ba ([32]++Lib.itoa xa++ [45]++Lib.itoa xb))
 |9,v,_=>v= .string (ba ([32]++Lib.itoa xa++ [45]++Lib.itoa xb++ [58]))
 |10,v,_=>v= .pointer (some ⟨g,2,none⟩)
 |11,v,_=>v= .int .i64 xm
 |12,v,_=>v= .string (ba (Lib.itoa xm))
 |13,v,_=>v= .string (ba ([32]++Lib.itoa xa++ [45]++Lib.itoa xb++ [58]++Lib.itoa xm))
 |_,_,_=>True
def XB (j:Nat):Nat:=if j<15 then 20+j else 0
def upT:Nat→Nat
 |0=>1 |1=>2 |2=>3 |3=>4 |4=>8 |5=>6 |6=>7 |7=>8 |8=>9 |9=>13 |10=>11 |11=>12 |12=>13 |13=>14 |_=>0
theorem Yt (xa xb xm:Int): [32]++Lib.itoa xa++ [45]++Lib.itoa xb++ [58]++Lib.itoa xm=Yr (xa,xb,xm):=by simp [Yr]
theorem Vl (g:Nat) (xa xb xm:Int) (j:Nat) (a:Act) (w w':World) (h:wh XB (fsT g xa xb xm) j a w):wh XB (fsT g xa xb xm) j a w':=by
 unfold wh at h ⊢
 match j with
 |0 |1 |2 |3 |4 |5 |6 |7 |8 |9 |10 |11 |12 |13=>exact h
 |n+14=>trivial
theorem yN {a:Act} {k:Nat} {v:Value} (h:a.tmps[k]?.getD undef=v):a.eval (.tmp k)=v:=by rw [←h];simp [Act.eval]
theorem Rl {P:Program} {a:Act} {w:World} {o:Oper} {T U:TypeId} {x y:Operand} {p q:List UInt8} (ho:o.op= .binOp .add T x y U) (hx:a.eval x= .string (ba p)) (hy:a.eval y= .string (ba q)) (h:p.length≤100∧q.length≤100):(execOp a.eval o).run P w= .ok (.value (.string (ba (p++q)))) w:=by
 have:=Me (P:=P) (w:=w) ho hx hy (by rw [cE,cE];omega)
 rwa [xJ] at this
set_option maxRecDepth 20000 in
set_option maxHeartbeats 2000000 in
theorem Wv {own:Bool} (hN:bz Tryz.prog ⟨100,[.g [.int .i64,.sl .ro 77 PZ]],[.o .b],own,fun x=>aN x.1 x.2⟩) {w:World} (hbs:Bs w) {b:Int} {ls:List (Int×Int×Int)} {A:Option Addr} {c:Nat} (R:Rc w 3 A ls.length c (ls.flatMap PZ.enc)) (hp:aN b ls=some true) (hb:ST b ls=true):Calls Tryz.prog 42 #[.agg #[.int .i64 b,.slice A ls.length c]] w (ML w (ba (Nt b ls))):=by
 have b0:Below w.heap.size w (w.alloc (.cells #[.int .i64 b,.slice A ls.length c] 25)):=(Below.refl _ _).alloc (Nat.le_refl _) _
 have B0:Bk (w.alloc (.cells #[.int .i64 b,.slice A ls.length c] 25)) w.heap.size 25 #[.int .i64 b,.slice A ls.length c]:=Bk.new _ _ _
 unfold ST Zw at hb
 simp only [Bool.and_eq_true,decide_eq_true_eq,List.all_eq_true] at hb
 obtain ⟨⟨hb1,hb2⟩,hb3⟩:=hb
 go_enter Tryz.func42,Tryz.ntmps42
 go_wp2_with fail
 refine (LI hN hbs R hp b0).mono ?_
 rintro e w1 ⟨rfl,h1⟩
 have b1:=bH h1 b0
 have B1:=B0.after h1
 have s1:=b1.size
 have f1:=(B1.alloc (.cells #[.pointer none,.slice none 0 0] 131)).c2
 go_wp2_with fail
 refine (rG hbs hb1 (b1.alloc s1 _)).mono ?_
 rintro e w2 ⟨rfl,h2⟩
 have F2:Lib.IsBuilderF 131 5 w1.heap.size w1.heap.size [] w2:=If (Lib.IsBuilderF.of (Lib.fresh_isBuilder _ _ w1)) h2
 have z2:=h2.size
 simp at z2
 have b2:=bH h2 (b1.alloc s1 _)
 have l0:=sU hb1
 have B2:=(B1.alloc (.cells #[.pointer none,.slice none 0 0] 131)).after h2
 go_wp2_with fail
 refine (EH w1.heap.size w1.heap.size [] _ w2 F2 (by rw [cE];simp;omega) (by omega)).mono ?_
 rintro e w3 ⟨rfl,F3,h3⟩
 have b3:Below w.heap.size w w3:=b2.trans (h3.mono s1)
 have z3:=h3.size
 have zl:w.heap.size<w1.heap.size:=by have:=h1.size;simp at this;omega
 have B3:=B2.below h3 zl
 have e3:([]:List Value)++Lib.strCells (ba (Lib.itoa b))=Lib.byteCells (Hx b ls 0):=by rw [KD,List.nil_append,Lib.strCells_eq,kY]
 rw [e3] at F3
 have HF:=Lib.hid F3
 have HB:=Lib.hid (Below.refl w1.heap.size w3)
 have f3:=B3.c2
 clear F3 f1 B1 B2 F2 b2 h3 h2 b1 h1
 go_wp2
 go_loopw [16] (fun i wr=> ∃k:Nat,k≤ls.length∧i= .int .i64 k∧Hid (Lib.IsBuilderF 131 5 w1.heap.size w1.heap.size (Lib.byteCells (Hx b ls k)) wr)∧Hid (Below w1.heap.size w3 wr)) (fun i _=>ls.length-(intOf i).toNat)
 case atStart=>exact ⟨0,Nat.zero_le _,rfl,HF,HB⟩
 case round=>
  obtain ⟨k,hk,rfl,HF,HB⟩:=hrel
  have sr:=HB.out.size
  by_cases hlt:k<ls.length
  ·obtain ⟨bk,off,rfl,hcell⟩:=R.rd.2 (by omega)
   have hx3:=hb3 ls[k] (List.getElem_mem _)
   have hkk:ls.getD k (0,0,0)=ls[k]:=by simp [hlt]
   have hc0:=hcell (k*3+0) (.int .i64 ls[k].1) (uf (f:=PZ.enc) (fun _=>rfl) (0,0,0) hlt (by rw [hkk];rfl))
   have hc1:=hcell (k*3+1) (.int .i64 ls[k].2.1) (uf (f:=PZ.enc) (fun _=>rfl) (0,0,0) hlt (by rw [hkk];rfl))
   have hc2:=hcell (k*3+2) (.int .i64 ls[k].2.2) (uf (f:=PZ.enc) (fun _=>rfl) (0,0,0) hlt (by rw [hkk];rfl))
   have hbk:bk<w.heap.size:=by
    rcases Nat.lt_or_ge bk w.heap.size with h |h
    ·exact h
    ·simp [World.cell?,Array.getElem?_eq_none h] at hc0
   have hac:=KC b ls hlt
   have hal:=Rk hb1 hb3 k hk
   have HA:=Lib.hid hac
   clear hac hcell hkk
   generalize ls[k]=x at*
   obtain ⟨xa,xb,xm⟩:=x
   have br:Below w.heap.size w wr:=b3.trans (HB.out.mono s1)
   have g0:wr.cell? ⟨bk,off+k*3,none⟩=some (.int .i64 xa):=(br.cell (p:=⟨bk,off+(k*3+0),none⟩) hbk).trans hc0
   have g1:wr.cell? ⟨bk,off+k*3+1,none⟩=some (.int .i64 xb):=(br.cell (p:=⟨bk,off+(k*3+1),none⟩) hbk).trans hc1
   have g2:wr.cell? ⟨bk,off+k*3+2,none⟩=some (.int .i64 xm):=(br.cell (p:=⟨bk,off+(k*3+2),none⟩) hbk).trans hc2
   clear hc0 hc1 hc2
   have BL:Bk (wr.alloc (.cells #[.int .i64 xa,.int .i64 xb,.int .i64 xm] 77)) wr.heap.size 77 #[.int .i64 xa,.int .i64 xb,.int .i64 xm]:=Bk.new _ _ _
   have FL:=HF.out.alloc (.cells #[.int .i64 xa,.int .i64 xb,.int .i64 xm] 77)
   have bL:=br.alloc (by omega) (.cells #[.int .i64 xa,.int .i64 xb,.int .i64 xm] 77)
   have HL:=HB.out.alloc (by omega) (.cells #[.int .i64 xa,.int .i64 xb,.int .i64 xm] 77)
   obtain ⟨⟨hxa,hxb⟩,hxm⟩:=hx3
   have la:=sU hxa;have lb:=sU hxb;have lm:=sU hxm
   go_wp2
   refine JP (up:=upT) (L:=14) (D:=[20,21,22,23,24,25,26,27,28,29,30,31,32,33,34]) (dep:=XB) (R:=fun w w'=>Below w.heap.size w w') (Inv:=fun wx=>Below (wr.alloc (.cells #[.int .i64 xa,.int .i64 xb,.int .i64 xm] 77)).heap.size (wr.alloc (.cells #[.int .i64 xa,.int .i64 xb,.int .i64 xm] 77)) wx) (Fs:=fsT wr.heap.size xa xb xm) mixed rfl rfl (by kernel_rfl) (by kernel_rfl) (fun j a w w' _ h=>Vl _ _ _ _ j a w w' h) (Below.refl _ _).drew ?_ ?_
   ·refine ⟨?_,?_,?_,?_,?_,?_,?_,?_,?_,?_,?_,?_,?_,?_,trivial⟩<;>rintro a wx ⟨hs,hd,hB⟩ I hp
    ·have e1:a.tmps[5]?.getD undef= .pointer (some ⟨wr.heap.size,0,none⟩):=hB 5 rfl
     exact .inl ⟨rfl,_,wx,by simp [go_sem,e1],I,rfl,.inl rfl⟩
    ·have e1:a.tmps[20]?.getD undef=_:=hp 0 rfl
     have f:=(BL.after I).c3
     exact .inl ⟨rfl,_,wx,by simp [go_sem,e1,f],I,rfl,.inl rfl⟩
    ·have e1:a.tmps[21]?.getD undef=_:=hp 1 rfl
     refine .inr (.inr (.inl ⟨rfl,_,_,by simp [go_sem,e1];exact ⟨rfl,rfl⟩,?_⟩))
     refine (rG hbs hxa (bH I bL)).mono ?_
     rintro e w5 ⟨rfl,h5⟩
     exact ⟨_,rfl,bH h5 I,rfl,.inr ⟨h5,rfl⟩⟩
    ·have e1:a.eval (.const (.string {data:= #[32]}))= .string (ba [32]):=rfl
     have e2:a.tmps[22]?.getD undef=_:=hp 2 rfl
     exact .inl ⟨rfl,_,wx,Rl rfl e1 (yN e2) (by simp;omega),I,rfl,.inl rfl⟩
    ·have e1:a.tmps[23]?.getD undef=_:=hp 3 rfl
     have e2:a.eval (.const (.string {data:= #[45]}))= .string (ba [45]):=rfl
     exact .inl ⟨rfl,_,wx,Rl rfl (yN e1) e2 (by simp;omega),I,rfl,.inl rfl⟩
    ·have e1:a.tmps[5]?.getD undef= .pointer (some ⟨wr.heap.size,0,none⟩):=hB 5 rfl
     exact .inl ⟨rfl,_,wx,by simp [go_sem,e1],I,rfl,.inl rfl⟩
    ·have e1:a.tmps[25]?.getD undef=_:=hp 5 rfl
     have f:=(BL.after I).c3
     exact .inl ⟨rfl,_,wx,by simp [go_sem,e1,f],I,rfl,.inl rfl⟩
    ·have e1:a.tmps[26]?.getD undef=_:=hp 6 rfl
     refine .inr (.inr (.inl ⟨rfl,_,_,by simp [go_sem,e1];exact ⟨rfl,rfl⟩,?_⟩))
     refine (rG hbs hxb (bH I bL)).mono ?_
     rintro e w5 ⟨rfl,h5⟩
     exact ⟨_,rfl,bH h5 I,rfl,.inr ⟨h5,rfl⟩⟩
    ·have e1:a.tmps[24]?.getD undef=_:=hp 4 rfl
     have e2:a.tmps[27]?.getD undef=_:=hp 7 rfl
     exact .inl ⟨rfl,_,wx,Rl rfl (yN e1) (yN e2) (by simp;omega),I,rfl,.inl rfl⟩
    ·have e1:a.tmps[28]?.getD undef=_:=hp 8 rfl
     have e2:a.eval (.const (.string {data:= #[58]}))= .string (ba [58]):=rfl
     exact .inl ⟨rfl,_,wx,Rl rfl (yN e1) e2 (by simp;omega),I,rfl,.inl rfl⟩
    ·have e1:a.tmps[5]?.getD undef= .pointer (some ⟨wr.heap.size,0,none⟩):=hB 5 rfl
     exact .inl ⟨rfl,_,wx,by simp [go_sem,e1],I,rfl,.inl rfl⟩
    ·have e1:a.tmps[30]?.getD undef=_:=hp 10 rfl
     have f:=(BL.after I).c3
     exact .inl ⟨rfl,_,wx,by simp [go_sem,e1,f],I,rfl,.inl rfl⟩
    ·have e1:a.tmps[31]?.getD undef=_:=hp 11 rfl
     refine .inr (.inr (.inl ⟨rfl,_,_,by simp [go_sem,e1];exact ⟨rfl,rfl⟩,?_⟩))
     refine (rG hbs hxm (bH I bL)).mono ?_
     rintro e w5 ⟨rfl,h5⟩
     exact ⟨_,rfl,bH h5 I,rfl,.inr ⟨h5,rfl⟩⟩
    ·have e1:a.tmps[29]?.getD undef=_:=hp 9 rfl
     have e2:a.tmps[32]?.getD undef=_:=hp 12 rfl
     exact .inl ⟨rfl,_,wx,Rl rfl (yN e1) (yN e2) (by simp;omega),I,rfl,.inl rfl⟩
   ·intro a wx hB I hF
    have e13:a.tmps[33]?.getD undef= .string (ba (Yr (xa,xb,xm))):=by rw [←Yt];exact hF 13 (by decide)
    have e3:a.tmps[3]?.getD undef= .pointer (some ⟨w1.heap.size,0,none⟩):=hB.2.2 3 rfl
    refine ⟨rfl,_,_,by simp [go_sem,e13,e3];exact ⟨rfl,rfl⟩,?_⟩
    have hl3:=SR (x:=(xa,xb,xm)) ⟨⟨hxa,hxb⟩,hxm⟩
    refine (EH w1.heap.size w1.heap.size _ _ wx (If FL I) (by rw [Lib.byteCells_length,cE];omega) (by have:=I.size;simp at this;omega)).mono ?_
    rintro e w6 ⟨rfl,F6,h6⟩
    refine ⟨_,rfl,?_⟩
    have b6:=(bH I HL (by omega)).trans h6
    rw [Lib.strCells_eq,kY,←Lib.byteCells_append,←HA.out] at F6
    have HF6:=Lib.hid F6
    have HB6:=Lib.hid b6
    rw [UN hB]
    simp only [List.foldl]
    generalize sl a 20=v20
    generalize sl a 21=v21
    generalize sl a 22=v22
    generalize sl a 23=v23
    generalize sl a 24=v24
    generalize sl a 25=v25
    generalize sl a 26=v26
    generalize sl a 27=v27
    generalize sl a 28=v28
    generalize sl a 29=v29
    generalize sl a 30=v30
    generalize sl a 31=v31
    generalize sl a 32=v32
    generalize sl a 33=v33
    generalize sl a 34=v34
    clear hB hF e13 e3 F6 b6 h6 I BL FL bL HL g0 g1 g2 br HF HB
    go_simp
    go_wp2
    go_roundw
    case rel=>exact ⟨k+1,hlt,by go_num,HF6,HB6⟩
    case measure=>simp [intOf];omega
  ·obtain rfl:k=ls.length:=by omega
   have HF':=HF.out
   rw [UH] at HF'
   have b4:Below w.heap.size w wr:=b3.trans (HB.out.mono s1)
   have zw:w1.heap.size≤wr.heap.size:=by have:=HB.out.size;omega
   go_wp2_with fail
   refine (Tryz.Builder_String_any_k w1.heap.size w1.heap.size _ wr HF' zw).mono ?_
   rintro e w7 ⟨rfl,_,h7,_⟩
   have b7:=b4.trans (h7.mono s1)
   clear h7 HF' HF HB
   go_wp2
   exact bodyPost_ret (v:=.string (ba (Nt b ls))) (by simp [results,Tryz.results42,go_sem, *];rfl) rfl ⟨rfl,b7⟩
theorem Ni {own:Bool} (co:CallOk Tryz.prog 42) (hN:bz Tryz.prog ⟨100,[.g [.int .i64,.sl .ro 77 PZ]],[.o .b],own,fun x=>aN x.1 x.2⟩):bz Tryz.prog ⟨42,[.g [.int .i64,.sl .ro 77 PZ]],[.o .s],false,fun x=>cd x.1 x.2⟩:=⟨co,fun x res hm e w0 w X hbs hp hS=>by
 obtain ⟨b,ls⟩:=x
 have hm:cd b ls=some res:=hm
 obtain ⟨v0,r0,q0,l0,p1⟩:=hp
 obtain ⟨v1,r1,q1,l1,p2⟩:=p1
 replace q1:=(List.tail_eq_of_cons_eq q0).trans q1
 obtain ⟨z1,m1,hro1⟩:=l1
 replace m1:=(List.head_eq_of_cons_eq q1).trans m1
 injection m1 with _ m1
 subst m1
 have R:Rc w 3 (e.a 1) ls.length (e.c 1) (ls.flatMap PZ.enc):=hro1 w _ hS (fun y hy=>List.mem_append_right _ hy)
 have hbs1:=zh hbs hS.below
 have key:Calls Tryz.prog 42 #[.agg #[.int .i64 b,.slice (e.a 1) ls.length (e.c 1)]] w (ML w res):=by
  unfold cd at hm
  obtain ⟨p,hp,hm⟩:=uW hm
  cases p with
  |false=>
   injection hm with hm
   subst hm
   exact Uj hN hbs1 R hp
  |true=>
   obtain ⟨hb,hm⟩:=cY hm
   injection hm with hm
   subst hm
   exact Wv hN hbs1 R hp hb
 refine Calls.mono key ?_
 rintro en w' ⟨rfl,hb⟩
 exact ⟨[_],[],rfl,⟨[_],[],[],[],[],[],rfl,rfl,⟨_,[],_,[],[],[],rfl,rfl,rfl,⟨_,rfl,rfl,rfl⟩,rfl,rfl,rfl⟩,⟨rfl,rfl⟩,⟨[],[],[],[],rfl,rfl,⟨rfl,rfl⟩,⟨rfl,rfl⟩⟩⟩,hS.quiet hb⟩⟩
theorem Of {x0:Value} {w:World} (h0:x0.cells= #[x0]):(Instr.build 117 [(0,x0)].toArray).run Tryz.prog w= .ok (.agg #[x0,.int .i64 0]) w:=by unfold Value.cells at h0;simp [go_sem,h0]
theorem acA:CallOk Tryz.prog 10:=⟨by kernel_rfl⟩
theorem ZF:CallOk Tryz.prog 100:=⟨by kernel_rfl⟩
theorem ZG:CallOk Tryz.prog 101:=⟨by kernel_rfl⟩
theorem ZH:CallOk Tryz.prog 103:=⟨by kernel_rfl⟩
theorem ZI:CallOk Tryz.prog 105:=⟨by kernel_rfl⟩
theorem ZJ:CallOk Tryz.prog 106:=⟨by kernel_rfl⟩
theorem ZK:CallOk Tryz.prog 107:=⟨by kernel_rfl⟩
theorem ZL:CallOk Tryz.prog 108:=⟨by kernel_rfl⟩
theorem ZM:CallOk Tryz.prog 109:=⟨by kernel_rfl⟩
theorem acB:CallOk Tryz.prog 11:=⟨by kernel_rfl⟩
theorem ZN:CallOk Tryz.prog 110:=⟨by kernel_rfl⟩
theorem ZO:CallOk Tryz.prog 111:=⟨by kernel_rfl⟩
theorem ZP:CallOk Tryz.prog 112:=⟨by kernel_rfl⟩
theorem ZQ:CallOk Tryz.prog 113:=⟨by kernel_rfl⟩
theorem ZR:CallOk Tryz.prog 114:=⟨by kernel_rfl⟩
theorem ZS:CallOk Tryz.prog 115:=⟨by kernel_rfl⟩
theorem ZT:CallOk Tryz.prog 116:=⟨by kernel_rfl⟩
theorem ZU:CallOk Tryz.prog 118:=⟨by kernel_rfl⟩
theorem ZV:CallOk Tryz.prog 119:=⟨by kernel_rfl⟩
theorem acC:CallOk Tryz.prog 12:=⟨by kernel_rfl⟩
theorem ZW:CallOk Tryz.prog 120:=⟨by kernel_rfl⟩
theorem ZX:CallOk Tryz.prog 121:=⟨by kernel_rfl⟩
theorem ZY:CallOk Tryz.prog 122:=⟨by kernel_rfl⟩
theorem ZZ:CallOk Tryz.prog 123:=⟨by kernel_rfl⟩
theorem aaa:CallOk Tryz.prog 124:=⟨by kernel_rfl⟩
theorem aab:CallOk Tryz.prog 125:=⟨by kernel_rfl⟩
theorem aac:CallOk Tryz.prog 126:=⟨by kernel_rfl⟩
theorem aad:CallOk Tryz.prog 127:=⟨by kernel_rfl⟩
theorem aae:CallOk Tryz.prog 128:=⟨by kernel_rfl⟩
theorem aaf:CallOk Tryz.prog 129:=⟨by kernel_rfl⟩
theorem aag:CallOk Tryz.prog 130:=⟨by kernel_rfl⟩
theorem aah:CallOk Tryz.prog 131:=⟨by kernel_rfl⟩
theorem aai:CallOk Tryz.prog 132:=⟨by kernel_rfl⟩
theorem aaj:CallOk Tryz.prog 133:=⟨by kernel_rfl⟩
theorem aak:CallOk Tryz.prog 134:=⟨by kernel_rfl⟩
theorem aal:CallOk Tryz.prog 135:=⟨by kernel_rfl⟩
theorem aam:CallOk Tryz.prog 136:=⟨by kernel_rfl⟩
theorem aan:CallOk Tryz.prog 137:=⟨by kernel_rfl⟩
theorem aao:CallOk Tryz.prog 138:=⟨by kernel_rfl⟩
theorem aap:CallOk Tryz.prog 139:=⟨by kernel_rfl⟩
theorem acD:CallOk Tryz.prog 14:=⟨by kernel_rfl⟩
theorem aaq:CallOk Tryz.prog 140:=⟨by kernel_rfl⟩
theorem aar:CallOk Tryz.prog 141:=⟨by kernel_rfl⟩
theorem aas:CallOk Tryz.prog 142:=⟨by kernel_rfl⟩
theorem aat:CallOk Tryz.prog 143:=⟨by kernel_rfl⟩
theorem aau:CallOk Tryz.prog 144:=⟨by kernel_rfl⟩
theorem acE:CallOk Tryz.prog 16:=⟨by kernel_rfl⟩
theorem aav:CallOk Tryz.prog 162:=⟨by kernel_rfl⟩
theorem aaw:CallOk Tryz.prog 163:=⟨by kernel_rfl⟩
theorem aax:CallOk Tryz.prog 164:=⟨by kernel_rfl⟩
theorem aay:CallOk Tryz.prog 165:=⟨by kernel_rfl⟩
theorem aaz:CallOk Tryz.prog 168:=⟨by kernel_rfl⟩
theorem aaA:CallOk Tryz.prog 169:=⟨by kernel_rfl⟩
theorem acF:CallOk Tryz.prog 17:=⟨by kernel_rfl⟩
theorem aaB:CallOk Tryz.prog 170:=⟨by kernel_rfl⟩
theorem aaC:CallOk Tryz.prog 171:=⟨by kernel_rfl⟩
theorem aaD:CallOk Tryz.prog 172:=⟨by kernel_rfl⟩
theorem aaE:CallOk Tryz.prog 173:=⟨by kernel_rfl⟩
theorem aaF:CallOk Tryz.prog 174:=⟨by kernel_rfl⟩
theorem aaG:CallOk Tryz.prog 175:=⟨by kernel_rfl⟩
theorem aaH:CallOk Tryz.prog 179:=⟨by kernel_rfl⟩
theorem acG:CallOk Tryz.prog 18:=⟨by kernel_rfl⟩
theorem aaI:CallOk Tryz.prog 180:=⟨by kernel_rfl⟩
theorem aaJ:CallOk Tryz.prog 181:=⟨by kernel_rfl⟩
theorem aaK:CallOk Tryz.prog 182:=⟨by kernel_rfl⟩
theorem aaL:CallOk Tryz.prog 183:=⟨by kernel_rfl⟩
theorem aaM:CallOk Tryz.prog 185:=⟨by kernel_rfl⟩
theorem aaN:CallOk Tryz.prog 186:=⟨by kernel_rfl⟩
theorem aaO:CallOk Tryz.prog 187:=⟨by kernel_rfl⟩
theorem aaP:CallOk Tryz.prog 188:=⟨by kernel_rfl⟩
theorem aaQ:CallOk Tryz.prog 189:=⟨by kernel_rfl⟩
theorem acH:CallOk Tryz.prog 19:=⟨by kernel_rfl⟩
theorem aaR:CallOk Tryz.prog 190:=⟨by kernel_rfl⟩
theorem aaS:CallOk Tryz.prog 191:=⟨by kernel_rfl⟩
theorem aaT:CallOk Tryz.prog 192:=⟨by kernel_rfl⟩
theorem aaU:CallOk Tryz.prog 193:=⟨by kernel_rfl⟩
theorem aaV:CallOk Tryz.prog 194:=⟨by kernel_rfl⟩
theorem aaW:CallOk Tryz.prog 195:=⟨by kernel_rfl⟩
theorem acI:CallOk Tryz.prog 20:=⟨by kernel_rfl⟩
theorem aaX:CallOk Tryz.prog 200:=⟨by kernel_rfl⟩
theorem aaY:CallOk Tryz.prog 201:=⟨by kernel_rfl⟩
theorem aaZ:CallOk Tryz.prog 204:=⟨by kernel_rfl⟩
theorem aa0:CallOk Tryz.prog 205:=⟨by kernel_rfl⟩
theorem aa1:CallOk Tryz.prog 206:=⟨by kernel_rfl⟩
theorem aa2:CallOk Tryz.prog 207:=⟨by kernel_rfl⟩
theorem acJ:CallOk Tryz.prog 21:=⟨by kernel_rfl⟩
theorem aa3:CallOk Tryz.prog 212:=⟨by kernel_rfl⟩
theorem aa4:CallOk Tryz.prog 213:=⟨by kernel_rfl⟩
theorem aa5:CallOk Tryz.prog 216:=⟨by kernel_rfl⟩
theorem aa6:CallOk Tryz.prog 217:=⟨by kernel_rfl⟩
theorem aa7:CallOk Tryz.prog 219:=⟨by kernel_rfl⟩
theorem aa8:CallOk Tryz.prog 220:=⟨by kernel_rfl⟩
theorem aa9:CallOk Tryz.prog 221:=⟨by kernel_rfl⟩
theorem aba:CallOk Tryz.prog 222:=⟨by kernel_rfl⟩
theorem abb:CallOk Tryz.prog 232:=⟨by kernel_rfl⟩
theorem abc:CallOk Tryz.prog 234:=⟨by kernel_rfl⟩
theorem abd:CallOk Tryz.prog 236:=⟨by kernel_rfl⟩
theorem abe:CallOk Tryz.prog 237:=⟨by kernel_rfl⟩
theorem abf:CallOk Tryz.prog 238:=⟨by kernel_rfl⟩
theorem abg:CallOk Tryz.prog 239:=⟨by kernel_rfl⟩
theorem abh:CallOk Tryz.prog 248:=⟨by kernel_rfl⟩
theorem abi:CallOk Tryz.prog 251:=⟨by kernel_rfl⟩
theorem acK:CallOk Tryz.prog 33:=⟨by kernel_rfl⟩
theorem acL:CallOk Tryz.prog 34:=⟨by kernel_rfl⟩
theorem acM:CallOk Tryz.prog 35:=⟨by kernel_rfl⟩
theorem acN:CallOk Tryz.prog 36:=⟨by kernel_rfl⟩
theorem acO:CallOk Tryz.prog 37:=⟨by kernel_rfl⟩
theorem acP:CallOk Tryz.prog 38:=⟨by kernel_rfl⟩
theorem acQ:CallOk Tryz.prog 39:=⟨by kernel_rfl⟩
theorem acR:CallOk Tryz.prog 40:=⟨by kernel_rfl⟩
theorem acS:CallOk Tryz.prog 41:=⟨by kernel_rfl⟩
theorem acT:CallOk Tryz.prog 42:=⟨by kernel_rfl⟩
theorem acU:CallOk Tryz.prog 43:=⟨by kernel_rfl⟩
theorem acV:CallOk Tryz.prog 44:=⟨by kernel_rfl⟩
theorem acW:CallOk Tryz.prog 45:=⟨by kernel_rfl⟩
theorem acX:CallOk Tryz.prog 46:=⟨by kernel_rfl⟩
theorem acY:CallOk Tryz.prog 47:=⟨by kernel_rfl⟩
theorem acZ:CallOk Tryz.prog 48:=⟨by kernel_rfl⟩
theorem ac0:CallOk Tryz.prog 49:=⟨by kernel_rfl⟩
theorem ac1:CallOk Tryz.prog 50:=⟨by kernel_rfl⟩
theorem ac2:CallOk Tryz.prog 51:=⟨by kernel_rfl⟩
theorem ac3:CallOk Tryz.prog 52:=⟨by kernel_rfl⟩
theorem ac4:CallOk Tryz.prog 53:=⟨by kernel_rfl⟩
theorem ac5:CallOk Tryz.prog 54:=⟨by kernel_rfl⟩
theorem ac6:CallOk Tryz.prog 55:=⟨by kernel_rfl⟩
theorem ac7:CallOk Tryz.prog 56:=⟨by kernel_rfl⟩
theorem ac8:CallOk Tryz.prog 57:=⟨by kernel_rfl⟩
theorem ac9:CallOk Tryz.prog 58:=⟨by kernel_rfl⟩
theorem ada:CallOk Tryz.prog 59:=⟨by kernel_rfl⟩
theorem adb:CallOk Tryz.prog 60:=⟨by kernel_rfl⟩
theorem adc:CallOk Tryz.prog 61:=⟨by kernel_rfl⟩
theorem abj:CallOk Tryz.prog 62:=⟨by kernel_rfl⟩
theorem ade:CallOk Tryz.prog 63:=⟨by kernel_rfl⟩
theorem adf:CallOk Tryz.prog 64:=⟨by kernel_rfl⟩
theorem adg:CallOk Tryz.prog 65:=⟨by kernel_rfl⟩
theorem adh:CallOk Tryz.prog 66:=⟨by kernel_rfl⟩
theorem adi:CallOk Tryz.prog 67:=⟨by kernel_rfl⟩
theorem adj:CallOk Tryz.prog 68:=⟨by kernel_rfl⟩
theorem adk:CallOk Tryz.prog 69:=⟨by kernel_rfl⟩
theorem adl:CallOk Tryz.prog 70:=⟨by kernel_rfl⟩
theorem adm:CallOk Tryz.prog 71:=⟨by kernel_rfl⟩
theorem co8:CallOk Tryz.prog 8:=⟨by kernel_rfl⟩
theorem co9:CallOk Tryz.prog 9:=⟨by kernel_rfl⟩
theorem adn:CallOk Tryz.prog 93:=⟨by kernel_rfl⟩
theorem ado:CallOk Tryz.prog 94:=⟨by kernel_rfl⟩
theorem adp:CallOk Tryz.prog 95:=⟨by kernel_rfl⟩
theorem adq:CallOk Tryz.prog 96:=⟨by kernel_rfl⟩
theorem adr:CallOk Tryz.prog 97:=⟨by kernel_rfl⟩
theorem ads:CallOk Tryz.prog 98:=⟨by kernel_rfl⟩
theorem adt:CallOk Tryz.prog 99:=⟨by kernel_rfl⟩
theorem Yh:(Tryz.prog.info? 122).map (fun i=>(i.zero,i.size,i.bytes))=some (some (.agg #[.int .i64 0,.int .i64 0]),2,16):=by kernel_rfl
theorem SF:(Tryz.prog.info? 125).map (fun i=>(i.zero,i.size,i.bytes))=some (some (.agg #[.int .i64 0,.int .i64 0]),2,16):=by kernel_rfl
theorem abQ:(Tryz.prog.info? 3).map (fun i=>(i.zero,i.size,i.bytes))=some (some (.int .i64 0),1,8):=by kernel_rfl
theorem adC:(Tryz.prog.info? 4).map (fun i=>(i.zero,i.size,i.bytes))=some (some (.bool false),1,1):=by kernel_rfl
theorem abR:(Tryz.prog.info? 77).map (fun i=>(i.zero,i.size,i.bytes))=some (some (.agg #[.int .i64 0,.int .i64 0,.int .i64 0]),3,24):=by kernel_rfl
theorem acv:(Tryz.prog.info? 122).map (·.size)=some 2:=by kernel_rfl
theorem IU:(Tryz.prog.info? 125).map (·.size)=some 2:=by kernel_rfl
theorem ZA:(Tryz.prog.info? 3).map (·.size)=some 1:=by kernel_rfl
theorem sz4:(Tryz.prog.info? 4).map (·.size)=some 1:=by kernel_rfl
theorem sz5:(Tryz.prog.info? 5).map (·.size)=some 1:=by kernel_rfl
theorem adK:(Tryz.prog.info? 77).map (·.size)=some 3:=by kernel_rfl
theorem abn:Tryz.prog.eqGuardType Tryz.prog.depth 122=false:=by kernel_rfl
theorem abp {a0 b0:Int} {a1 b1:Int} {w:World}:(Op.equalIn 10000 122 (.agg #[.int .i64 a0,.int .i64 a1]) (.agg #[.int .i64 b0,.int .i64 b1])).run Tryz.prog w= .ok ((a0==b0)&&(a1==b1)) w:=by
 simp [go_sem]
 (repeat' split)<;>simp_all
theorem abo:Tryz.prog.eqGuardType Tryz.prog.depth 125=false:=by kernel_rfl
theorem abq {a0 b0:Int} {a1 b1:Int} {w:World}:(Op.equalIn 10000 125 (.agg #[.int .i64 a0,.int .i64 a1]) (.agg #[.int .i64 b0,.int .i64 b1])).run Tryz.prog w= .ok ((a0==b0)&&(a1==b1)) w:=by
 simp [go_sem]
 (repeat' split)<;>simp_all
theorem adu:Tryz.prog.eqGuardType Tryz.prog.depth 77=false:=by kernel_rfl
theorem adv {a0 b0:Int} {a1 b1:Int} {a2 b2:Int} {w:World}:(Op.equalIn 10000 77 (.agg #[.int .i64 a0,.int .i64 a1,.int .i64 a2]) (.agg #[.int .i64 b0,.int .i64 b1,.int .i64 b2])).run Tryz.prog w= .ok ((a0==b0)&&(a1==b1)&&(a2==b2)) w:=by
 simp [go_sem]
 (repeat' split)<;>simp_all
noncomputable section
def tys:List (Nat×TyI):=[(3,⟨.int .i64,1,8,[.int .i64 0],(.int .i64)⟩),(4,⟨.bo,1,1,[.bool false],.b⟩),(5,⟨.int .u8,1,1,[.int .u8 0],(.int .u8)⟩),(9,⟨.st,1,16,[.str ByteArray.empty],.s⟩),(22,⟨.sl 5,1,24,[.ns],.b⟩),(23,⟨.sl 77,1,24,[.ns],.b⟩),(25,⟨.ag [(0,1),(1,1)],2,32,[.int .i64 0,.ns],.b⟩),(26,⟨.sl 122,1,24,[.ns],.b⟩),(27,⟨.sl 4,1,24,[.ns],.b⟩),(28,⟨.sl 125,1,24,[.ns],.b⟩),(30,⟨.ag [(0,1),(1,1),(2,1)],3,72,[.ns,.ns,.ns],.b⟩),(31,⟨.sl 3,1,24,[.ns],.b⟩),(33,⟨.ag [(0,2),(2,1),(3,3),(6,1)],7,152,[.int .i64 0,.ns,.ns,.ns,.ns,.ns,.ns],.b⟩),(34,⟨.sl 9,1,24,[.ns],.b⟩),(49,⟨.sl 210,1,24,[.ns],.b⟩),(51,⟨.ag [(0,1),(1,1)],2,32,[.int .i64 0,.ns],.b⟩),(52,⟨.sl 185,1,24,[.ns],.b⟩),(53,⟨.sl 212,1,24,[.ns],.b⟩),(55,⟨.ag [(0,1),(1,1),(2,1)],3,72,[.ns,.ns,.ns],.b⟩),(57,⟨.ag [(0,2),(2,1),(3,3),(6,1)],7,152,[.int .i64 0,.ns,.ns,.ns,.ns,.ns,.ns],.b⟩),(65,⟨.ot,1,8,[.np],.b⟩),(77,⟨.ag [(0,1),(1,1),(2,1)],3,24,[.int .i64 0,.int .i64 0,.int .i64 0],(.p (.int .i64) (.p (.int .i64) (.int .i64)))⟩),(82,⟨.sl 86,1,24,[.ns],.b⟩),(86,⟨.ag [(0,1),(1,1),(2,1)],3,24,[.int .i64 0,.int .i64 0,.int .i64 0],(.p (.int .i64) (.p (.int .i64) (.int .i64)))⟩),(117,⟨.ag [(0,1),(1,1)],2,32,[.ns,.int .i64 0],.b⟩),(122,⟨.ag [(0,1),(1,1)],2,16,[.int .i64 0,.int .i64 0],(.p (.int .i64) (.int .i64))⟩),(125,⟨.ag [(0,1),(1,1)],2,16,[.int .i64 0,.int .i64 0],(.p (.int .i64) (.int .i64))⟩),(140,⟨.ar 8 3,8,64,[.int .i64 0,.int .i64 0,.int .i64 0,.int .i64 0,.int .i64 0,.int .i64 0,.int .i64 0,.int .i64 0],.b⟩),(142,⟨.ag [(0,8),(8,8)],16,128,[.int .i64 0,.int .i64 0,.int .i64 0,.int .i64 0,.int .i64 0,.int .i64 0,.int .i64 0,.int .i64 0,.int .i64 0,.int .i64 0,.int .i64 0,.int .i64 0,.int .i64 0,.int .i64 0,.int .i64 0,.int .i64 0],(.p (.int .i64) (.p (.int .i64) (.p (.int .i64) (.p (.int .i64) (.p (.int .i64) (.p (.int .i64) (.p (.int .i64) (.p (.int .i64) (.p (.int .i64) (.p (.int .i64) (.p (.int .i64) (.p (.int .i64) (.p (.int .i64) (.p (.int .i64) (.p (.int .i64) (.int .i64))))))))))))))))⟩),(145,⟨.ag [(0,2),(2,1),(3,1),(4,1)],5,104,[.int .i64 0,.ns,.ns,.ns,.ns],.b⟩),(151,⟨.ar 3 3,3,24,[.int .i64 0,.int .i64 0,.int .i64 0],.b⟩),(153,⟨.sl 157,1,24,[.ns],.b⟩),(157,⟨.ag [(0,1),(1,1)],2,16,[.int .i64 0,.bool false],(.p (.int .i64) .b)⟩),(185,⟨.ag [(0,1),(1,1)],2,16,[.int .i64 0,.int .i64 0],(.p (.int .i64) (.int .i64))⟩),(195,⟨.sl 3,1,24,[.ns],.b⟩),(210,⟨.ag [(0,1),(1,1),(2,1)],3,24,[.int .i64 0,.int .i64 0,.int .i64 0],(.p (.int .i64) (.p (.int .i64) (.int .i64)))⟩),(212,⟨.ag [(0,1),(1,1)],2,16,[.int .i64 0,.int .i64 0],(.p (.int .i64) (.int .i64))⟩),(227,⟨.int .u64,1,8,[.int .u64 0],.b⟩)]
theorem Zq:Mz Tryz.prog tys=true:=by kernel_rfl
def eqt:List (Nat×EK):=[(77,(.p (.int .i64) (.p (.int .i64) (.int .i64)))),(122,(.p (.int .i64) (.int .i64))),(125,(.p (.int .i64) (.int .i64)))]
theorem FQ {x0:List Int} {A0:Option Addr} {n0 c0:Nat} {w:World} (h0:Rt w 1 eU A0 n0 c0 x0):
 Calls Tryz.prog 32 #[.slice A0 n0 c0] w (fun e w'=> ∃G0,e= .returned (.pointer (some ⟨G0,0,none⟩))∧St w w' [.box G0 117 #[.slice (Zx c0 n0 A0) (x0.take 2000).length c0,.int .i64 0]]):=by
 obtain rfl:=h0.len
 refine pz Tryz.func32 Tryz.ntmps32 rfl [(0,.slice A0 x0.length c0)] ⟨rfl,trivial⟩ rfl ?_
 intro a hF
 have S:=St.nil w
 refine wp_seq ?_
 refine wp_region_lit ?_
 refine ay (v:=.pointer none) rfl rfl hF rfl (aF rfl rfl) ?_;clear hF;intro a hF
 refine wpList_nil ?_
 refine wp_seq ?_
 refine wp_seq ?_
 refine wp_region_lit ?_
 refine ay (v:=.slice A0 x0.length c0) rfl rfl hF rfl (aD rfl (hF.ev rfl)) ?_;clear hF;intro a hF
 refine ay (v:=.int .i64 (x0.length:Int)) rfl rfl hF rfl (lE rfl rfl Tryz.underlying22 (hF.ev rfl)) ?_;clear hF;intro a hF
 refine ay (v:=.bool (av 2000 (x0.length:Int))) rfl rfl hF rfl (Px (hF.ev rfl) rfl rfl) ?_;clear hF;intro a hF
 refine wpList_nil ?_
 cases hc101:(av 2000 (x0.length:Int))
 ·have hc101_:=hc101
  refine wq hF rfl hc101 ?_
  refine wp_skip ?_
  refine wp_seq ?_
  refine wp_region_lit ?_
  refine ay (v:=.slice A0 x0.length c0) rfl rfl hF rfl (aD rfl (hF.ev rfl)) ?_;clear hF;intro a hF
  refine ay (v:=.agg #[.slice A0 x0.length c0,.int .i64 0]) rfl rfl hF rfl (IR (vs:=[(0,.slice A0 x0.length c0)]) rfl ⟨⟨rfl,(hF.ev rfl)⟩,trivial⟩ (Of rfl)) ?_;clear hF;intro a hF
  refine Td (cs:= #[.slice A0 x0.length c0,.int .i64 0]) rfl rfl hF rfl S (JX rfl (hF.ev rfl) rfl) ?_;clear hF S;intro a g102 u hF S
  refine ay (v:=.pointer (some ⟨g102,0,none⟩)) rfl rfl hF rfl (aF rfl (hF.ev rfl)) ?_;clear hF;intro a hF
  refine wpList_nil ?_
  refine wp_ret ?_
  repeat with_reducible (first |refine eH ?_ |refine mh ?_ |refine mg ?_)
  refine iO (.inl rfl) hF rfl (hZ (hF.ev rfl)) ?_
  have q1:=LA hc101
  rw [Zx,if_neg (by omega),List.take_of_length_le (by omega)]
  exact ⟨g102,rfl,S.sel [0] rfl rfl⟩
 ·have hc101_:=hc101
  refine wt hF rfl hc101 ?_
  refine wp_region_lit ?_
  refine ay (v:=.slice A0 x0.length c0) rfl rfl hF rfl (aD rfl (hF.ev rfl)) ?_;clear hF;intro a hF
  have hk103:=pX (show vq 0 2000 x0.length=true by have:=zS hc101;simp [vq];omega)
  refine ay (v:=.slice (bV c0 ((0:Int).toNat) 1 A0) ((aj x0 0 2000).length) (c0-(0:Int).toNat)) rfl rfl hF rfl (vp (l:=x0) rfl Tryz.underlying22 sz5 (hF.ev rfl) rfl hk103 rfl (S.rc0 h0.rc).cap) ?_;clear hF;intro a hF
  refine ay (v:=.slice (bV c0 ((0:Int).toNat) 1 A0) ((aj x0 0 2000).length) (c0-(0:Int).toNat)) rfl rfl hF rfl (aF rfl (hF.ev rfl)) ?_;clear hF;intro a hF
  refine wpList_nil ?_
  refine wp_seq ?_
  refine wp_region_lit ?_
  refine ay (v:=.slice (bV c0 ((0:Int).toNat) 1 A0) ((aj x0 0 2000).length) (c0-(0:Int).toNat)) rfl rfl hF rfl (aD rfl (hF.ev rfl)) ?_;clear hF;intro a hF
  refine ay (v:=.agg #[.slice (bV c0 ((0:Int).toNat) 1 A0) ((aj x0 0 2000).length) (c0-(0:Int).toNat),.int .i64 0]) rfl rfl hF rfl (IR (vs:=[(0,.slice (bV c0 ((0:Int).toNat) 1 A0) ((aj x0 0 2000).length) (c0-(0:Int).toNat))]) rfl ⟨⟨rfl,(hF.ev rfl)⟩,trivial⟩ (Of rfl)) ?_;clear hF;intro a hF
  refine Td (cs:= #[.slice (bV c0 ((0:Int).toNat) 1 A0) ((aj x0 0 2000).length) (c0-(0:Int).toNat),.int .i64 0]) rfl rfl hF rfl S (JX rfl (hF.ev rfl) rfl) ?_;clear hF S;intro a g104 u hF S
  refine ay (v:=.pointer (some ⟨g104,0,none⟩)) rfl rfl hF rfl (aF rfl (hF.ev rfl)) ?_;clear hF;intro a hF
  refine wpList_nil ?_
  refine wp_ret ?_
  repeat with_reducible (first |refine eH ?_ |refine mh ?_ |refine mg ?_)
  refine iO (.inl rfl) hF rfl (hZ (hF.ev rfl)) ?_
  have q1:=zS hc101
  rw [Zx,if_pos (by omega),Uh]
  exact ⟨g104,rfl,S.sel [0] rfl rfl⟩
def opn:List (Nat×Nat):=[(32,117)]
theorem YE:KB Tryz.prog opn:=⟨VP ⟨by kernel_rfl⟩ FQ,trivial⟩
theorem XK:UF Tryz.prog eqt:=⟨⟨adu,fun w x y=>adv⟩,⟨abn,fun w x y=>abp⟩,⟨abo,fun w x y=>abq⟩,trivial⟩
theorem ck {c:Ctr} {fn:Func} {body:Code} {n:Nat} (cs:List Ctr) (rv:List ResultVar) (crt:Crt) (hcs:UE Tryz.prog cs) (hco:CallOk Tryz.prog c.f) (hf:Tryz.prog.funcs[c.f]?=some fn) (hn:fn.ntmps=n) (hb:fn.body=some body) (hr:fn.results=rv.toArray) (hal:(c.rs.flatMap RSh.ks).all (alK (nf c.ps))=true) (he: ∀x,c.m x=exF ⟨tys,eqt,cs,opn⟩ ⟨c.ps,c.rs,rv,n⟩ crt body x):bz Tryz.prog c:=cok (op:=opn) Zq XK rfl hcs YE hco hf hb hn hr hal he
abbrev Aa:EK:=.int .i64
abbrev Ab:P1:=.o .k
abbrev Ac:Crt:=.q .z .z
abbrev Ak:PK:=.int .i64
abbrev Ae:EK:=.p Aa Aa
abbrev AT:EK:=.p Aa Ae
abbrev BB:PK:=.sl .ro 77 AT
abbrev Al:PK:=.sl .ro 4 .b
abbrev Bu:PK:=.sl .ro 125 Ae
abbrev AE:PK:=.sl .ro 3 Aa
abbrev Ad:Prm:=.g [Ak,BB,.sl .ro 122 Ae,Al,Al,Bu,AE]
abbrev BT:Crt:=.q Ac .z
abbrev Af:Crt:=.q .z BT
abbrev AD:P0:=.i .i64
abbrev Ag:P1:=.o AD
abbrev Ah:Prm:=.g [Ak,BB]
abbrev Ai:List P0:=[.k,.k,.k,.k,.k,.k,.k]
abbrev AA:RK:=.int .i64
abbrev Ba:RK:=.row 4 .b
abbrev BW:RK:=.row 125 Ae
abbrev CH:RK:=.row 3 Aa
abbrev Aj:RSh:=.g [AA,.row 77 AT,.row 122 Ae,Ba,Ba,BW,CH]
abbrev Am:Crt:=.q .z Ac
abbrev Ci:P0:=.r 122 Ae
abbrev AV:P0:=.r 4 .b
abbrev CV:P0:=.r 125 Ae
abbrev Aw:P0:=.r 3 Aa
abbrev Ao:List P0:=[AD,.r 77 AT,Ci,AV,AV,CV,Aw]
abbrev As:Nat×P1:=(4,Ab)
abbrev Bv:Shp:=⟨[As],[],[]⟩
abbrev BP:List Alt:=[.rt]
abbrev AX:Nat×P1:=(0,Ab)
abbrev Au:Nat×P1:=(1,Ab)
abbrev AY:Crt:=.q Am (.q (.b Af) .z)
abbrev Ap:Crt:=.q (.q .z (.cut Bv BP (.b (.lp ⟨[AX,Au,As,(5,Ag)],[],[]⟩ AY)))) Ac
abbrev Aq:Prm:=.o (.sl .ro 122 Ae)
abbrev Av:Nat×P1:=(2,Ab)
abbrev Az:P1:=.o (.r 86 AT)
abbrev AB:Nat×P1:=(6,Ab)
abbrev AC:List P0:=[.k,.k]
abbrev AF:Prm:=.o Ak
abbrev AQ:Nat×P1:=(5,Ab)
abbrev BA:List P0:=[.k,.k,.k,.k,.k,.k,Aw]
abbrev BF:Nat×List P0:=(4,Ai)
abbrev AG:Crt:=.q .z (.q .z (.q .z (.q (.q .z (.cut ⟨[As,AQ],[(5,BA),BF],[]⟩ [] (.b (.lp ⟨[Au,Av,As,AQ,(6,Ag)],[(5,BA),BF,(2,Ai)],[]⟩ (.q Am (.q (.b (.q .z (.cut ⟨[Au,Av,As,AQ,AB],[(5,BA),BF,(2,Ai)],[]⟩ [] Ac))) .z)))))) Ac)))
abbrev AH:RSh:=.o .b
abbrev AI:Prm:=.g [Al,Al,Bu]
abbrev Cv:Crt:=.q (.b (.q .z Af)) .z
abbrev AJ:Crt:=.q .z (.q Ac Cv)
abbrev Cs:P0:=.w 3 Aa
abbrev AK:P1:=.o Cs
abbrev AL:RSh:=.o CH
abbrev AM:P1:=.o (.r 157 (.p Aa .b))
abbrev AN:Prm:=.o Al
abbrev AO:List P0:=[.k,.k,.k,.k,.k,.k,.k,.k,.k,.k,.k,.k,.k,.k,.k,.k]
abbrev AP:List P0:=[.k,.k,.k]
abbrev AR:P1:=.o Aw
abbrev AS:Nat×P1:=(8,Ab)
abbrev AU:Nat×P1:=(3,Ab)
abbrev AW:Crt:=.q .z (.q Ac (.q (.b Ac) .z))
abbrev CB:PK:=.sl .ro 5 (.int .u8)
abbrev AZ:Prm:=.bx 117 [CB,Ak]
abbrev CQ:Nat×P1:=(9,Ag)
abbrev Cf:Nat×P1:=(10,Ab)
abbrev Bt:Crt:=.q Am (.q (.b .z) .z)
abbrev Bb:Crt:=.q .z (.q Af (.q .z (.q .z (.q (.q .z (.cut ⟨[AS,CQ],[],[]⟩ [] (.b (.lp ⟨[Av,AS,CQ,Cf,(11,Ag)],[],[]⟩ Bt)))) Ac))))
abbrev Bg:Nat×P1:=(7,Ab)
abbrev Cb:P1:=.o AV
abbrev Cp:Nat×List P0:=(4096,AC)
abbrev Co:Nat×List P0:=(4,AC)
abbrev Bc:Shp:=⟨[As,AQ,AB,Bg,(8,Cb),(9,.o Ci)],[Cp,(7,AC),Co],[]⟩
abbrev Bd:List (Nat×List P0):=[(3,AC)]
abbrev Be:P0:=.w 4 .b
abbrev Bf:Nat×List P0:=(4096,[.k,AD])
abbrev Bh:Crt:=.q .z (.q Ac Af)
abbrev CC:Crt:=.q Af Ac
abbrev Bi:Crt:=.q .z CC
abbrev Cw:Nat×P1:=(8,Ag)
abbrev Bj:Crt:=.b (.lp ⟨[Au,Av,AU,AB,(7,AR),Cw],Bd,[]⟩ (.q Am (.q (.b (.q .z (.cut ⟨[Au,Av,AU,AB,(7,AR),AS],Bd,[]⟩ [] Ac))) .z)))
abbrev Bl:List Prm:=[Ah,AN,Aq]
abbrev Bm:RSh:=.o AA
abbrev Bn:List P0:=[.k,.k,.k,.k,.k]
abbrev Bo:Prm:=.o (.sl .ro 9 .s)
abbrev Bp:List (Nat×List P0):=[(4096,[.k,.k,Cs,Cs,Aw])]
abbrev Bq:Nat×P1:=(9,Ab)
abbrev Bw:Crt:=.q .z (.q Ac (.q .z (.q Ac (.q .z (.q Ac Bh)))))
abbrev Bx:Shp:=⟨[As,AQ,AB],[(6,[Be,Be,CV]),(4,AP)],[]⟩
abbrev By:Shp:=⟨[As,AQ,AB],[(6,[.k,Be,CV]),(4,AP)],[]⟩
abbrev Bz:Shp:=⟨[As,AQ,AB],[(6,[.k,.k,CV]),(4,AP)],[]⟩
abbrev BC:Prm:=.g [Ak,Ak,Ak]
abbrev BE:Nat×P1:=(12,Ab)
abbrev BG:List (Nat×List P0):=[Bf,(7,[.k,.r 77 AT]),Co]
abbrev BH:List (Nat×List P0):=[(1,Ai)]
abbrev BI:List RSh:=[AH]
abbrev BJ:P1:=.o (.r 9 .s)
abbrev BK:Shp:=⟨[Au,Av,As,AS,Bq,Cf,(13,.z 4 .b),(14,Ag),(15,Ag),(42,Ab),(43,Ab)],[Co],[]⟩
abbrev CR:Nat×P1:=(5,AR)
abbrev BM:Shp:=⟨[As,CR],[],[]⟩
abbrev BX:P1:=.o .b
abbrev BN:Crt:=.q Ac (.q .z (.q Ac (.q .z (.q (.q (.cut ⟨[(4,BX)],[],[]⟩ [] .z) .z) Bh))))
abbrev BO:Nat×P1:=(13,Ab)
abbrev BQ:Nat×P1:=(7,Ag)
abbrev BR:PK:=.sl .mu 3 Aa
abbrev BS:Crt:=.q .z Am
abbrev BU:RSh:=.o (.row 157 (.p Aa .b))
abbrev BV:RSh:=.o .s
abbrev BY:Nat×P1:=(3,Az)
abbrev BZ:Prm:=.o AE
abbrev Ca:Crt:=.q .z (.q Af Ap)
abbrev Cc:P1:=.o Be
abbrev Cd:Shp:=⟨[AB,(7,AR)],[],[]⟩
abbrev Ce:Shp:=⟨[As,AS],[Cp,(8,[.k,.k,.w 122 Ae,AV,AV,.k,Aw]),BF],[]⟩
abbrev Cg:Prm:=.g [Ak,BB,AE,AE,AE]
abbrev Ch:RSh:=.o (.row 9 .s)
abbrev Cj:Crt:=.q .z (.cut ⟨[AX,Av,(3,.o .s),As],[],[]⟩ [] Ac)
abbrev Ck:Prm:=.o .s
abbrev Cm:Nat×P1:=(11,Ab)
abbrev Cq:Shp:=⟨[Av,(3,.o .s)],[],[]⟩
abbrev Cr:RSh:=.o (.row 86 AT)
abbrev Cu:List (Nat×List P0):=[(6,Ao),BF]
abbrev Cy:Crt:=.q Am (.q (.b Ac) .z)
abbrev Cz:List P0:=[AD,AD,AD,AD,AD,AD,AD,AD,AD,AD,AD,AD,AD,AD,AD,AD]
abbrev CA:P1:=.o (.w 5 (.int .u8))
abbrev CD:Shp:=⟨[Av],[],[]⟩
abbrev CE:RSh:=.o Ba
abbrev CF:RSh:=.g [Ba,Ba,BW]
abbrev CG:Shp:=⟨[Au,Av,BY],BH,[]⟩
abbrev CI:P1:=.o (.w 9 .s)
abbrev CJ:Shp:=⟨[Au,As,(5,AK),BE,BO,(14,Ag)],[],[]⟩
abbrev CK:Shp:=⟨[Au,As,(5,AK),BE,BO,(14,Ab)],[],[]⟩
abbrev CL:List (Nat×List P0):=[(8,[AD,.k,Aw,Aw,Aw]),(6,Bn)]
abbrev CM:Prm:=.o (.sl .tk 3 Aa)
abbrev CN:Shp:=⟨[Av,BY],[],[]⟩
abbrev CO:Shp:=⟨[AX,Av,(3,.o .s),(4,Ag)],[],[]⟩
abbrev CP:List RSh:=[AL]
abbrev CS:Shp:=⟨[AX,Au,As,AQ,AB,BQ,Cw],[],[]⟩
abbrev CT:Nat×P1:=(7,AK)
abbrev CU:List RSh:=[Bm]
def ob:Ctr:=⟨103,[AF],[BV],false,fun x=>bU x⟩
theorem ri:bz Tryz.prog ob:=Vq (ZH)
def wa:Ctr:=⟨51,[Ck,Ck],[Ch],false,fun x=>fN x.1 x.2⟩
theorem Fd:bz Tryz.prog wa:=Sh (ac2)
def rQ:Ctr:=⟨122,[Bo,Ck],[BV],false,fun x=>dH x.1 x.2⟩
theorem wG:bz Tryz.prog rQ:=Vr (ZY)
def GG (n:Nat):Ctr:=⟨62,[AF],[BV],false,fun x=>de ic n x⟩
theorem FU: ∀n,bz Tryz.prog (GG n)
 |0=>⟨abj,fun x res h=>by cases h⟩
 |n+1=>ck [GG n] [.tmp 2] (.q .z (.q Af (.q Af CC))) ⟨FU n,trivial⟩ abj Tryz.func62 Tryz.ntmps62 rfl rfl rfl fun _=>by kernel_rfl
def fM:Ctr:=⟨62,[AF],[BV],false,fun x=>aT x⟩
theorem jV:bz Tryz.prog fM:=Qe (FU 30)
def sW:Ctr:=⟨165,[Ah,AF],BI,false,fun x=>kz x.1 x.2.1 x.2.2⟩
theorem zm:bz Tryz.prog sW:=ck [] [.tmp 4] Am trivial aay Tryz.func165 Tryz.ntmps165 rfl rfl rfl fun _=>by kernel_rfl
def mB:Ctr:=⟨100,[Ah],BI,false,fun x=>aN x.1 x.2⟩
theorem my:bz Tryz.prog mB:=ck [sW] [.tmp 2] (.q .z (.q Af (.q (.q .z (.cut CD BP (.b (.lp ⟨[Au,Av,(20,Ab),(21,Ab),(22,Ag)],[(1,AC)],[]⟩ AJ)))) Ac))) ⟨zm,trivial⟩ ZF Tryz.func100 Tryz.ntmps100 rfl rfl rfl fun _=>by kernel_rfl
def vO:Ctr:=⟨179,[Ck],CU,false,fun x=>mJ x⟩
theorem ER:bz Tryz.prog vO:=ck [] [.tmp 2] (.q .z (.q Af (.q .z (.q (.q .z (.cut ⟨[Av,(3,Ag)],[],[]⟩ BP (.b (.lp ⟨[AX,Av,(3,Ag),(14,Ab),(15,Ag)],[],[]⟩ (.q .z (.q Ac (.q (.b (.q .z (.q Af .z))) .z))))))) Ac)))) trivial aaH Tryz.func179 Tryz.ntmps179 rfl rfl rfl fun _=>by kernel_rfl
def tc:Ctr:=⟨118,[Ck],[Bm,AH],false,fun x=>aI x⟩
theorem se:bz Tryz.prog tc:=ck [vO,ob] [.tmp 2,.tmp 3] BS ⟨ER,ri,trivial⟩ ZU Tryz.func118 Tryz.ntmps118 rfl rfl rfl fun _=>by kernel_rfl
def rH:Ctr:=⟨42,[Ah],[BV],false,fun x=>cd x.1 x.2⟩
theorem wA:bz Tryz.prog rH:=Ni (acT) my
def vR:Ctr:=⟨52,[Bo],[.g [AA,AA,AA],AH],false,fun x=>dT x⟩
theorem EU:bz Tryz.prog vR:=Lj (ac3) se
def cH:Ctr:=⟨34,[AZ,AF],CU,true,fun x=>ac x.1 x.2.1 x.2.2⟩
theorem dM:bz Tryz.prog cH:=ck [] [.tmp 4] (.q .z (.q .z (.q Af (.q .z (.q Af BS))))) trivial acL Tryz.func34 Tryz.ntmps34 rfl rfl rfl fun _=>by kernel_rfl
def lM:Ctr:=⟨36,[AZ,AF],BI,true,fun x=>cv x.1 x.2.1 x.2.2⟩
theorem oV:bz Tryz.prog lM:=ck [cH] [.tmp 4] (.q .z (.q (.cut ⟨[(4,BX)],[Bf],[]⟩ [] .z) .z)) ⟨dM,trivial⟩ acN Tryz.func36 Tryz.ntmps36 rfl rfl rfl fun _=>by kernel_rfl
def uG:Ctr:=⟨93,[AZ,AF],[.g [AA,.row 77 AT],CE,.o (.row 122 Ae)],true,fun x=>lX x.1 x.2.1 x.2.2⟩
theorem DQ:bz Tryz.prog uG:=ck [cH,lM] [.cell 4 25,.tmp 5,.tmp 6] (.q .z (.q .z (.q .z (.q .z (.q .z (.q (.q .z (.cut ⟨[AX,Au,As,AQ,AB,Bg,(8,Cb),(9,.o Ci)],BG,[]⟩ [] (.b (.lp ⟨[AX,Au,As,AQ,AB,Bg,(8,Cb),(9,.o Ci),Cf,(11,Ag)],BG,[]⟩ (.q Am (.q (.b (.q (.q .z (.cut ⟨[AX,Au,As,AQ,AB,Bg,(8,Cb),Bq,Cf,Cm],BG,[]⟩ [] (.q (.q .z (.cut ⟨[AX,Au,As,AQ,AB,Bg,(8,Cb),Bq,Cf,Cm],[Bf,(7,AC),Co],[]⟩ [] .z)) .z))) .z)) .z)))))) (.q (.q .z (.cut ⟨[AX,Au,As,AQ,AB,Bg,(8,Cb),Bq],BG,[]⟩ [] (.b (.lp ⟨[AX,Au,As,AQ,AB,Bg,(8,Cb),Bq,(12,Ag)],BG,[]⟩ (.q Am (.q (.b Am) .z)))))) (.q .z (.q (.q .z (.cut ⟨[AX,Au,As,AQ,AB,Bg,(8,Cc),(9,.o (.w 122 Ae))],[Bf,(7,AC),Co],[]⟩ [] (.q Am .z))) (.q (.q .z (.cut ⟨[As,AQ,AB,Bg,(8,Cb),(9,.o Ci)],[Bf,(7,AC),Co],[]⟩ [] (.q (.q .z (.b (.q .z (.cut Bc [] (.q Ac (.q .z (.cut Bc [] (.q (.q .z (.cut ⟨[As,AQ,AB,Bg,(8,Cc),Bq],[Cp,(7,AC),Co],[]⟩ [] (.b (.lp ⟨[As,AQ,AB,Bg,(8,Cc),Bq,(15,Ag)],[Cp,(7,AC),Co],[]⟩ Bt)))) (.q .z (.cut Bc [] Ac)))))))))) .z))) Ac)))))))))) ⟨dM,oV,trivial⟩ adn Tryz.func93 Tryz.ntmps93 rfl rfl rfl fun _=>by kernel_rfl
def qO:Ctr:=⟨94,[AZ,Ad],[.g [AA,AA,AA]],true,fun x=>iL x.1 x.2.1 x.2.2.1 x.2.2.2.1 x.2.2.2.2.1 x.2.2.2.2.2.1 x.2.2.2.2.2.2.1 x.2.2.2.2.2.2.2.1 x.2.2.2.2.2.2.2.2⟩
theorem yc:bz Tryz.prog qO:=ck [cH] [.cell 4 86] (.q .z (.q .z (.q (.q (.cut ⟨[AX,AU,As,AQ,(40,BX)],[Bf,(5,AP),(4,AP),(3,Ai)],[]⟩ [] .z) (.q Am .z)) Ac))) ⟨dM,trivial⟩ ado Tryz.func94 Tryz.ntmps94 rfl rfl rfl fun _=>by kernel_rfl
def bG:Ctr:=⟨39,[AF,AF,AF],BI,false,fun x=>aw x.1 x.2.1 x.2.2⟩
theorem bK:bz Tryz.prog bG:=ck [] [.tmp 6] Am trivial acQ Tryz.func39 Tryz.ntmps39 rfl rfl rfl fun _=>by kernel_rfl
def jZ:Ctr:=⟨95,[Ah],BI,false,fun x=>dU x.1 x.2⟩
theorem mA:bz Tryz.prog jZ:=ck [bG] [.tmp 2] (.q .z (.q Af (.q (.q .z (.cut CD BP (.b (.lp ⟨[Au,Av,(3,Ag)],[(1,AC)],[]⟩ (.q Am Cv))))) Ac))) ⟨bK,trivial⟩ adp Tryz.func95 Tryz.ntmps95 rfl rfl rfl fun _=>by kernel_rfl
def nT:Ctr:=⟨37,[Ah,Aq],BI,false,fun x=>gA x.1 x.2.1 x.2.2⟩
theorem sj:bz Tryz.prog nT:=ck [bG,jZ] [.tmp 4] (.q .z (.q (.q .z (.cut ⟨[Au,Av,As],[(2,AC)],[]⟩ BP (.b (.lp ⟨[Au,Av,As,(5,Ag)],[(2,AC)],[]⟩ AY)))) Ac)) ⟨bK,mA,trivial⟩ acO Tryz.func37 Tryz.ntmps37 rfl rfl rfl fun _=>by kernel_rfl
def oa:Ctr:=⟨96,[.o Bu,.g [Ak,Ak]],CU,false,fun x=>jf x.1 x.2.1 x.2.2⟩
theorem rh:bz Tryz.prog oa:=ck [] [.tmp 4] (.q .z (.q (.q .z (.cut Bv BP (.b (.lp ⟨[AX,AU,As,(5,Ag)],Bd,[]⟩ AY)))) Ac)) trivial adq Tryz.func96 Tryz.ntmps96 rfl rfl rfl fun _=>by kernel_rfl
def lK:Ctr:=⟨38,[AI],BI,false,fun x=>eY x.1 x.2.1 x.2.2⟩
theorem oU:bz Tryz.prog lK:=ck [bG,oa] [.tmp 2] (.q .z (.q Af (.q (.q .z (.cut ⟨[Au,Av],[(1,AP)],[]⟩ BP (.b (.lp ⟨[Au,Av,(3,Ag)],[(1,AP)],[]⟩ AY)))) (.q (.q .z (.cut CD BP (.b (.lp ⟨[Au,Av,(4,Ag)],[(1,AP)],[]⟩ (.q Am Cv))))) Ac)))) ⟨bK,rh,trivial⟩ acP Tryz.func38 Tryz.ntmps38 rfl rfl rfl fun _=>by kernel_rfl
def fR:Ctr:=⟨162,[Ah,AN],BI,false,fun x=>cO x.1 x.2.1 x.2.2⟩
theorem kr:bz Tryz.prog fR:=ck [jZ] [.tmp 4] Am ⟨mA,trivial⟩ aav Tryz.func162 Tryz.ntmps162 rfl rfl rfl fun _=>by kernel_rfl
def li:Ctr:=⟨97,Bl,BI,false,fun x=>gV x.1 x.2.1 x.2.2.1 x.2.2.2⟩
theorem nk:bz Tryz.prog li:=ck [fR,nT] [.tmp 6] Am ⟨kr,sj,trivial⟩ adr Tryz.func97 Tryz.ntmps97 rfl rfl rfl fun _=>by kernel_rfl
def tK:Ctr:=⟨190,[AN],[CE],false,fun x=>kg x⟩
theorem yv:bz Tryz.prog tK:=ck [] [.tmp 2] Am trivial aaR Tryz.func190 Tryz.ntmps190 rfl rfl rfl fun _=>by kernel_rfl
def tp:Ctr:=⟨200,[Ah,AN,AF,.o .b],[CE,AH],false,fun x=>kO x.1 x.2.1 x.2.2.1 x.2.2.2.1 x.2.2.2.2⟩
theorem zA:bz Tryz.prog tp:=ck [fR,tK,bG] [.tmp 8,.tmp 9] (.q .z (.q Af (.q .z (.q Af Am)))) ⟨kr,yv,bK,trivial⟩ aaX Tryz.func200 Tryz.ntmps200 rfl rfl rfl fun _=>by kernel_rfl
def xe:Ctr:=⟨201,[Ah,AN,AF],[CE],false,fun x=>oB x.1 x.2.1 x.2.2.1 x.2.2.2⟩
theorem Gh:bz Tryz.prog xe:=ck [] [.tmp 6] (.q .z (.q .z (.q .z (.q (.q .z (.cut ⟨[AB,(7,Cc)],[],[]⟩ [] (.b (.lp ⟨[Au,AU,AB,(7,Cc),Cw],Bd,[]⟩ (.q Am (.q (.b (.q .z (.cut ⟨[Au,AU,AB,(7,Cc),AS],Bd,[]⟩ [] (.b (.lp ⟨[Au,AU,AB,(7,Cc),AS,CQ],Bd,[]⟩ (.q Am (.q (.b (.q .z (.q .z (.cut ⟨[Au,AU,AB,(7,Cc),AS,Bq],Bd,[]⟩ [] BT)))) .z))))))) .z)))))) Ac)))) trivial aaY Tryz.func201 Tryz.ntmps201 rfl rfl rfl fun _=>by kernel_rfl
def nW:Ctr:=⟨164,[Ah,AN,AF],CP,false,fun x=>jb x.1 x.2.1 x.2.2.1 x.2.2.2⟩
theorem rf:bz Tryz.prog nW:=ck [fR,bG,xe] [.tmp 6] (.q .z (.q .z (.q Af (.q .z (.q (.q .z (.cut Cd [] (.b (.lp ⟨[AU,AB,(7,AR),AS,CQ],Bd,[]⟩ (.q Am (.q (.b (.q .z (.cut ⟨[AU,AB,(7,AR),AS,Bq],Bd,[]⟩ [] Ac))) .z)))))) Ac))))) ⟨kr,bK,Gh,trivial⟩ aax Tryz.func164 Tryz.ntmps164 rfl rfl rfl fun _=>by kernel_rfl
def lL:Ctr:=⟨136,[BZ,AF],BI,false,fun x=>dh x.1 x.2⟩
theorem nF:bz Tryz.prog lL:=ck [] [.tmp 4] (.q .z Ap) trivial aam Tryz.func136 Tryz.ntmps136 rfl rfl rfl fun _=>by kernel_rfl
def nX:Ctr:=⟨99,[Ah,AN,AF,AF],BI,false,fun x=>gL x.1 x.2.1 x.2.2.1 x.2.2.2.1 x.2.2.2.2⟩
theorem sp:bz Tryz.prog nX:=ck [nW,lL] [.tmp 8] Am ⟨rf,nF,trivial⟩ adt Tryz.func99 Tryz.ntmps99 rfl rfl rfl fun _=>by kernel_rfl
def tn:Ctr:=⟨163,[Ah,AN],CP,false,fun x=>oq x.1 x.2.1 x.2.2⟩
theorem zz:bz Tryz.prog tn:=ck [fR,tp,nX] [.tmp 4] (.q .z (.q .z (.q (.q .z (.cut BM [] (.b (.lp ⟨[Au,Av,As,CR,(6,Ag)],[(2,AC)],[]⟩ (.q Am (.q (.b (.q .z (.q .z (.cut ⟨[Au,Av,As,CR,AB],[(2,AC)],[]⟩ [] Ac)))) .z)))))) Ac))) ⟨kr,zA,sp,trivial⟩ aaw Tryz.func163 Tryz.ntmps163 rfl rfl rfl fun _=>by kernel_rfl
def vU:Ctr:=⟨98,[Ah,AN],BI,false,fun x=>mN x.1 x.2.1 x.2.2⟩
theorem EX:bz Tryz.prog vU:=ck [tn] [.tmp 4] Am ⟨zz,trivial⟩ ads Tryz.func98 Tryz.ntmps98 rfl rfl rfl fun _=>by kernel_rfl
def mr:Ctr:=⟨40,Bl,BI,false,fun x=>eR x.1 x.2.1 x.2.2.1 x.2.2.2⟩
theorem pi:bz Tryz.prog mr:=ck [li,vU,nX] [.tmp 6] (.q .z (.q Af (.q (.q .z (.cut ⟨[AB],[],[]⟩ BP (.b (.lp ⟨[Au,Av,AU,AB,BQ],Bd,[]⟩ (.q Am (.q (.b (.q .z (.cut ⟨[Au,Av,AU,AB,Bg],Bd,[]⟩ BP (.b (.lp ⟨[Au,Av,AU,AB,Bg,Cw],Bd,[]⟩ AY))))) .z)))))) Ac))) ⟨nk,EX,sp,trivial⟩ acR Tryz.func40 Tryz.ntmps40 rfl rfl rfl fun _=>by kernel_rfl
def bZ:Ctr:=⟨9,[Ad],BI,false,fun x=>bq x.1 x.2.1 x.2.2.1 x.2.2.2.1 x.2.2.2.2.1 x.2.2.2.2.2.1 x.2.2.2.2.2.2⟩
theorem cF:bz Tryz.prog bZ:=ck [nT,lK,bG,mr] [.tmp 2] (.q .z (.q Af (.q (.q .z (.cut ⟨[Au,Av],BH,[]⟩ BP (.b (.lp ⟨[Au,Av,(3,Ag)],BH,[]⟩ AY)))) Ac))) ⟨sj,oU,bK,pi,trivial⟩ co9 Tryz.func9 Tryz.ntmps9 rfl rfl rfl fun _=>by kernel_rfl
def rO:Ctr:=⟨130,[AI],[CF],false,fun x=>lu x.1 x.2.1 x.2.2⟩
theorem wE:bz Tryz.prog rO:=ck [tK] [.cell 2 30] Am ⟨yv,trivial⟩ aag Tryz.func130 Tryz.ntmps130 rfl rfl rfl fun _=>by kernel_rfl
def fb:Ctr:=⟨61,[Ad],[Aj],false,fun x=>bu x.1 x.2.1 x.2.2.1 x.2.2.2.1 x.2.2.2.2.1 x.2.2.2.2.2.1 x.2.2.2.2.2.2⟩
theorem iP:bz Tryz.prog fb:=ck [rO] [.cell 2 33] BS ⟨wE,trivial⟩ adc Tryz.func61 Tryz.ntmps61 rfl rfl rfl fun _=>by kernel_rfl
def qc:Ctr:=⟨138,[AI,AF],CP,false,fun x=>dV x.1 x.2.1 x.2.2.1 x.2.2.2⟩
theorem vC:bz Tryz.prog qc:=ck [lK] [.tmp 4] (.q .z (.q .z (.q (.q .z (.cut BM [] (.b (.lp ⟨[Au,Av,As,CR,(6,Ag)],[(2,AP)],[]⟩ (.q Am (.q (.b (.q .z (.cut ⟨[Au,Av,As,CR,AB],[(2,AP)],[]⟩ [] Ac))) .z)))))) Ac))) ⟨oU,trivial⟩ aao Tryz.func138 Tryz.ntmps138 rfl rfl rfl fun _=>by kernel_rfl
def xd:Ctr:=⟨139,[Ad,AF],[Aj],false,fun x=>oA x.1 x.2.1 x.2.2.1 x.2.2.2.1 x.2.2.2.2.1 x.2.2.2.2.2.1 x.2.2.2.2.2.2.1 x.2.2.2.2.2.2.2⟩
theorem Gg:bz Tryz.prog xd:=ck [fb] [.cell 4 33] AG ⟨iP,trivial⟩ aap Tryz.func139 Tryz.ntmps139 rfl rfl rfl fun _=>by kernel_rfl
def vZ:Ctr:=⟨137,[Ad,AF],[Aj],false,fun x=>mS x.1 x.2.1 x.2.2.1 x.2.2.2.1 x.2.2.2.2.1 x.2.2.2.2.2.1 x.2.2.2.2.2.2.1 x.2.2.2.2.2.2.2⟩
theorem Fc:bz Tryz.prog vZ:=ck [fb,lL] [.cell 4 33] (.q .z AG) ⟨iP,nF,trivial⟩ aan Tryz.func137 Tryz.ntmps137 rfl rfl rfl fun _=>by kernel_rfl
def yy:Ctr:=⟨194,[AI,BC],BI,false,fun x=>pq x.1 x.2.1 x.2.2.1 x.2.2.2.1 x.2.2.2.2.1 x.2.2.2.2.2⟩
theorem HG:bz Tryz.prog yy:=ck [oa,qc,bG] [.tmp 4] (.q .z (.q .z (.q (.q .z (.b (.q .z (.q Ac (.q .z BN))))) Ac))) ⟨rh,vC,bK,trivial⟩ aaV Tryz.func194 Tryz.ntmps194 rfl rfl rfl fun _=>by kernel_rfl
def yx:Ctr:=⟨140,[AI,BC],[CF,AH],false,fun x=>mv x.1 x.2.1 x.2.2.1 x.2.2.2.1 x.2.2.2.2.1 x.2.2.2.2.2⟩
theorem HE:bz Tryz.prog yx:=ck [lK,rO,bG,yy,oa] [.cell 4 30,.tmp 5] (.q .z (.q Af (.q .z (.q Af (.q (.q .z (.b (.q .z (.cut Bx [] (.q .z (.q .z (.cut Bx [] (.q .z (.q .z (.cut By [] (.q .z (.q .z (.cut By [] (.q .z (.q .z (.cut Bz [] Am)))))))))))))))) Ac))))) ⟨oU,wE,bK,HG,rh,trivial⟩ aaq Tryz.func140 Tryz.ntmps140 rfl rfl rfl fun _=>by kernel_rfl
def nZ:Ctr:=⟨64,[Ad,BC],[Aj,AH],false,fun x=>jd x.1 x.2.1 x.2.2.1 x.2.2.2.1 x.2.2.2.2.1 x.2.2.2.2.2.1 x.2.2.2.2.2.2.1 x.2.2.2.2.2.2.2.1 x.2.2.2.2.2.2.2.2.1 x.2.2.2.2.2.2.2.2.2⟩
theorem rg:bz Tryz.prog nZ:=ck [bZ,bG,fb,lL,vZ,qc,xd,yx,mr] [.cell 4 33,.tmp 5] (.q .z (.q Af (.q Af (.q .z (.q (.b (.q .z (.q Ac (.q (.cut ⟨[Av,AU,As,AQ,AB,(42,BX)],[BF,(3,AP),(2,Ai)],[]⟩ [] .z) (.q Ac Af))))) (.q .z (.q .z (.q Af Am)))))))) ⟨cF,bK,iP,nF,Fc,vC,Gg,HE,pi,trivial⟩ adf Tryz.func64 Tryz.ntmps64 rfl rfl rfl fun _=>by kernel_rfl
def vY:Ctr:=⟨33,[AZ,AF],[Aj],true,fun x=>mR x.1 x.2.1 x.2.2⟩
theorem Fb:bz Tryz.prog vY:=ck [uG,cH,qO,nZ,lM] [.cell 4 33] (.q .z (.q .z (.q .z (.q (.q .z (.cut ⟨[AX,Au,As,AS],[Bf,(8,Ao),BF],[]⟩ [] (.b (.lp ⟨[AX,Au,As,AS,CQ],[Bf,(8,Ao),BF],[]⟩ (.q Am (.q (.b (.q .z (.q .z (.cut ⟨[AX,Au,As,AS,Bq],[Cp,(8,Ao),BF],[]⟩ [] Ac)))) .z)))))) (.q (.q .z (.cut ⟨[As,AS],[Bf,(8,[.k,.k,Ci,AV,AV,.k,Aw]),BF],[]⟩ [] (.q (.q .z (.b (.q .z (.cut ⟨[As,AS],[Cp,(8,[.k,.k,Ci,AV,AV,.k,Aw]),BF],[]⟩ [] (.q .z (.q .z (.cut Ce [] (.q .z (.q .z (.cut Ce [] (.q (.q .z (.cut ⟨[As,AS],[Cp,(8,BA),BF],[]⟩ [] (.b (.lp ⟨[As,AS,(12,Ag)],[Cp,(8,BA),BF],[]⟩ (.q Am (.q (.b (.q .z (.cut ⟨[As,AS,BE],[Cp,(8,BA),BF],[]⟩ [] Ac))) .z)))))) (.q .z (.cut ⟨[As,AS],[Cp,(8,[.k,.k,.w 122 Ae,AV,AV,.k,.k]),BF],[]⟩ [] (.q Ac Ac)))))))))))))) .z))) Ac))))) ⟨DQ,dM,yc,rg,oV,trivial⟩ acK Tryz.func33 Tryz.ntmps33 rfl rfl rfl fun _=>by kernel_rfl
def xc:Ctr:=⟨35,[AZ,Ad],[BV],true,fun x=>oz x.1 x.2.1 x.2.2.1 x.2.2.2.1 x.2.2.2.2.1 x.2.2.2.2.2.1 x.2.2.2.2.2.2.1 x.2.2.2.2.2.2.2.1 x.2.2.2.2.2.2.2.2⟩
theorem Gf:bz Tryz.prog xc:=ck [cH,fM] [.tmp 4] (.q .z (.q .z (.q .z (.q (.q .z (.cut ⟨[AX,As,(6,.o .s)],[Bf],[]⟩ [] Ac)) (.q (.q .z (.b Bh)) Ac))))) ⟨dM,jV,trivial⟩ acM Tryz.func35 Tryz.ntmps35 rfl rfl rfl fun _=>by kernel_rfl
def ta:Ctr:=⟨143,[AF],BI,false,fun x=>kB x⟩
theorem zq:bz Tryz.prog ta:=ck [] [.tmp 2] Am trivial aat Tryz.func143 Tryz.ntmps143 rfl rfl rfl fun _=>by kernel_rfl
def nM:Ctr:=⟨69,[Ah,Aq],BI,false,fun x=>fU x.1 x.2.1 x.2.2⟩
theorem sc:bz Tryz.prog nM:=ck [mB,ta] [.tmp 4] (.q .z (.q Af (.q (.q .z (.cut Bv BP (.b (.lp ⟨[As,(17,Ab),(18,Ab),(19,Ag)],[],[]⟩ AJ)))) Ac))) ⟨my,zq,trivial⟩ adk Tryz.func69 Tryz.ntmps69 rfl rfl rfl fun _=>by kernel_rfl
def bQ:Ctr:=⟨195,[.o Bu,.g [Ak,Ak]],CU,false,fun x=>aR x.1 x.2.1 x.2.2⟩
theorem dj:bz Tryz.prog bQ:=ck [] [.tmp 4] (.q .z (.q (.q .z (.cut Bv BP (.b (.lp ⟨[AX,AU,As,Bg,Cw],Bd,[]⟩ AJ)))) Ac)) trivial aaW Tryz.func195 Tryz.ntmps195 rfl rfl rfl fun _=>by kernel_rfl
def aZ:Ctr:=⟨144,[.o Bu,.g [Ak,Ak]],BI,false,fun x=>aE x.1 x.2.1 x.2.2⟩
theorem bJ:bz Tryz.prog aZ:=ck [bQ] [.tmp 4] Am ⟨dj,trivial⟩ aau Tryz.func144 Tryz.ntmps144 rfl rfl rfl fun _=>by kernel_rfl
def lJ:Ctr:=⟨70,[AI],BI,false,fun x=>eS x.1 x.2.1 x.2.2⟩
theorem oT:bz Tryz.prog lJ:=ck [aZ] [.tmp 2] (.q .z (.q Af (.q (.q .z (.cut ⟨[Au,Av],[(1,AP)],[]⟩ BP (.b (.lp ⟨[Au,Av,(33,Ab),(34,Ag)],[(1,AP)],[]⟩ AJ)))) (.q (.q .z (.cut CD BP (.b (.lp ⟨[Au,Av,(51,Ab),(52,Ab),(53,Ag)],[(1,AP)],[]⟩ AJ)))) Ac)))) ⟨bJ,trivial⟩ adl Tryz.func70 Tryz.ntmps70 rfl rfl rfl fun _=>by kernel_rfl
def ci:Ctr:=⟨45,[Ah,AF],BI,false,fun x=>aS x.1 x.2.1 x.2.2⟩
theorem cZ:bz Tryz.prog ci:=ck [] [.tmp 4] Am trivial acW Tryz.func45 Tryz.ntmps45 rfl rfl rfl fun _=>by kernel_rfl
def sY:Ctr:=⟨109,[Ah,AN],BI,false,fun x=>kA x.1 x.2.1 x.2.2⟩
theorem zo:bz Tryz.prog sY:=ck [mB] [.tmp 4] Am ⟨my,trivial⟩ ZM Tryz.func109 Tryz.ntmps109 rfl rfl rfl fun _=>by kernel_rfl
def jY:Ctr:=⟨44,Bl,BI,false,fun x=>dR x.1 x.2.1 x.2.2.1 x.2.2.2⟩
theorem mz:bz Tryz.prog jY:=ck [sY,nM] [.tmp 6] Am ⟨zo,sc,trivial⟩ acV Tryz.func44 Tryz.ntmps44 rfl rfl rfl fun _=>by kernel_rfl
def qb:Ctr:=⟨204,[AF],CP,false,fun x=>ka x⟩
theorem vB:bz Tryz.prog qb:=ck [] [.tmp 2] (.q .z (.q .z (.q (.q .z (.cut ⟨[Av,(3,AK)],[],[]⟩ [] (.b (.lp ⟨[Av,(3,AK),AS,CQ],[],[]⟩ AW)))) Ac))) trivial aaZ Tryz.func204 Tryz.ntmps204 rfl rfl rfl fun _=>by kernel_rfl
def fP:Ctr:=⟨170,[.o BR,AF],CU,true,fun x=>bM x.1 x.2⟩
theorem kq:bz Tryz.prog fP:=ck [] [.tmp 4] (.q .z (.q (.cut ⟨[(1,Ag),As],[],[(0,Aw)]⟩ [] (.b (.lp ⟨[(0,AK),(1,Ag),As],[],[]⟩ (.q Am (.b Ac))))) Ac)) trivial aaB Tryz.func170 Tryz.ntmps170 rfl rfl rfl fun _=>by kernel_rfl
def tj:Ctr:=⟨206,[.o BR,AF,AF],BI,true,fun x=>kI x.1 x.2.1 x.2.2⟩
theorem zx:bz Tryz.prog tj:=ck [fP] [.tmp 6] Am ⟨kq,trivial⟩ aa1 Tryz.func206 Tryz.ntmps206 rfl rfl rfl fun _=>by kernel_rfl
def nQ:Ctr:=⟨205,[.o BR,AF,AF],[],true,fun x=>gr x.1 x.2.1 x.2.2⟩
theorem sh:bz Tryz.prog nQ:=ck [fP] [] Ac ⟨kq,trivial⟩ aa0 Tryz.func205 Tryz.ntmps205 rfl rfl rfl fun _=>by kernel_rfl
def vP:Ctr:=⟨171,[Ah,AN],BI,false,fun x=>mK x.1 x.2.1 x.2.2⟩
theorem ES:bz Tryz.prog vP:=ck [qb,tj,nQ] [.tmp 4] (.q .z (.q .z (.q (.q .z (.cut Bv BP (.b (.lp CJ (.q .z (.q Ac (.q (.b (.q .z (.q .z (.cut CK BP (.q (.q Af .z) .z))))) .z))))))) Ac))) ⟨vB,zx,sh,trivial⟩ aaC Tryz.func171 Tryz.ntmps171 rfl rfl rfl fun _=>by kernel_rfl
def kv:Ctr:=⟨101,[BC,AF],CU,false,fun x=>cI x.1 x.2.1 x.2.2.1 x.2.2.2⟩
theorem nD:bz Tryz.prog kv:=ck [] [.tmp 4] (.q .z (.q (.q .z (.b Bh)) Ac)) trivial ZG Tryz.func101 Tryz.ntmps101 rfl rfl rfl fun _=>by kernel_rfl
def rJ:Ctr:=⟨172,[.bx 145 [Ak,BB,BR,BR,BR],AN,AF],[],true,fun x=>jy x.1 x.2.1 x.2.2.1 x.2.2.2.1 x.2.2.2.2.1 x.2.2.2.2.2.1 x.2.2.2.2.2.2⟩
theorem yI:bz Tryz.prog rJ:=ck [kv] [] (.q .z (.q .z (.cut ⟨[],Bp,[]⟩ [] (.b (.lp ⟨[AX,Au,Av,(6,Ag)],Bp,[]⟩ (.q Am (.q (.b (.q .z (.q .z (.cut ⟨[AX,Au,Av,AB],Bp,[]⟩ [] (.b (.lp ⟨[AX,Au,Av,AB,Bg,(46,Ab),(47,Ab),(48,Ag)],Bp,[]⟩ (.q .z (.q Ac (.q (.b (.q .z (.q .z (.q .z (.cut ⟨[AX,Au,Av,AB,Bg,(46,Ab),(47,Ab),(48,Ab)],Bp,[]⟩ [] BT))))) .z))))))))) .z))))))) ⟨nD,trivial⟩ aaD Tryz.func172 Tryz.ntmps172 rfl rfl rfl fun _=>by kernel_rfl
def po:Ctr:=⟨111,Bl,[.g [AA,.al 1,CH,CH,CH],AH],false,fun x=>kf x.1 x.2.1 x.2.2.1 x.2.2.2⟩
theorem tD:bz Tryz.prog po:=ck [jY,vP,rJ] [.cell 6 145,.tmp 7] (.q .z (.q Af (.q .z (.q (.q .z (.cut ⟨[Au,Av,AB,Bg,AS],[(8,[.k,.k,Cs,Cs,.k]),(6,Bn)],[]⟩ [] (.b (.lp ⟨[Au,Av,AB,Bg,AS,(32,Ab),(33,Ag)],[(8,[.k,.k,Cs,Cs,.k]),(6,Bn)],[]⟩ AW)))) (.q (.q .z (.cut ⟨[AB,Bg,AS],CL,[]⟩ BP (.b (.lp ⟨[Au,AB,Bg,AS,(45,Ab),(46,Ab),(47,Ag)],CL,[]⟩ (.q .z (.q Ac (.q (.cut ⟨[Au,AB,Bg,AS,(45,Ab),(46,Ab),(47,Ab)],CL,[]⟩ BP (.b (.q .z (.q Am CC)))) .z))))))) Ac))))) ⟨mz,ES,yI,trivial⟩ ZO Tryz.func111 Tryz.ntmps111 rfl rfl rfl fun _=>by kernel_rfl
def tI:Ctr:=⟨71,Bl,BI,false,fun x=>ie x.1 x.2.1 x.2.2.1 x.2.2.2⟩
theorem yq:bz Tryz.prog tI:=ck [po] [.tmp 6] BS ⟨tD,trivial⟩ adm Tryz.func71 Tryz.ntmps71 rfl rfl rfl fun _=>by kernel_rfl
def cG:Ctr:=⟨19,[Ad],BI,false,fun x=>bE x.1 x.2.1 x.2.2.1 x.2.2.2.1 x.2.2.2.2.1 x.2.2.2.2.2.1 x.2.2.2.2.2.2⟩
theorem dL:bz Tryz.prog cG:=ck [nM,lJ,ci,tI] [.tmp 2] (.q .z (.q Af (.q (.q .z (.cut ⟨[Au,Av],BH,[]⟩ BP (.b (.lp ⟨[Au,Av,(29,Ab),(30,Ab),(31,Ag)],BH,[]⟩ AJ)))) Ac))) ⟨sc,oT,cZ,yq,trivial⟩ acH Tryz.func19 Tryz.ntmps19 rfl rfl rfl fun _=>by kernel_rfl
set_option maxHeartbeats 4000000 in
theorem mW {x0:List (Int×Int×Int)} {A0:Option Addr} {n0 c0:Nat} {w:World} {r:List (Int×Int×Int)} (h0:Rt w 3 Ox A0 n0 c0 x0) (hM:bf x0=some r):
 Calls Tryz.prog 105 #[.slice A0 n0 c0] w (fun e w'=> ∃(B0:Option Addr) (N0 D0:Nat),e= .returned (.slice B0 N0 D0)∧N0=r.length∧St w w' [.row 77 3 (.slice B0 N0 D0) N0 (r.flatMap Ox)]):=by
 obtain rfl:=h0.len
 unfold bf at hM
 obtain ⟨hk,hM⟩:=cY hM
 replace hk:=zf hk
 obtain rfl:=Option.some.inj hM
 refine pz Tryz.func105 Tryz.ntmps105 rfl [(0,.slice A0 x0.length c0)] ⟨rfl,trivial⟩ rfl ?_
 intro a hF
 have S:=St.nil w
 refine wp_seq ?_
 refine wp_region_lit ?_
 refine ay (v:=.slice none 0 0) rfl rfl hF rfl (aF rfl rfl) ?_;clear hF;intro a hF
 refine wpList_nil ?_
 refine wp_seq ?_
 refine wp_seq ?_
 refine wp_region_lit ?_
 refine ay (v:=.slice A0 x0.length c0) rfl rfl hF rfl (aD rfl (hF.ev rfl)) ?_;clear hF;intro a hF
 refine ay (v:=.bool (Option.isNone A0)) rfl rfl hF rfl (pc rfl Tryz.underlying23 (hF.ev rfl) rfl) ?_;clear hF;intro a hF
 refine wpList_nil ?_
 cases hc101:(Option.isNone A0)
 ·have hx:=trivial
  refine wq hF rfl hc101 ?_
  refine wp_skip ?_
  refine wp_seq ?_
  refine wp_region_lit ?_
  refine uP (cs:= #[]) (size:=3) rfl rfl hF rfl S (ke rfl Tryz.underlying23 (congrArg Option.isSome adK)) rfl (Nat.zero_le _) ?_;clear hF S;intro a g102 u hF S
  refine ay (v:=.slice A0 x0.length c0) rfl rfl hF rfl (aD rfl (hF.ev rfl)) ?_;clear hF;intro a hF
  have hk105:=hk
  refine rS (lx:=[]) (ly:=x0) rfl rfl hF rfl S rfl (hF.ev rfl) (hF.ev rfl) (i:=0) rfl rfl Tryz.underlying23 abR rfl (by decide) (S.rc0 h0.rc).rd rfl Qa hk105 (by decide) ?_;clear hF S;intro a B103 d104 u hF S
  refine ay (v:=.slice B103 ((([]:List (Int×Int×Int))++x0).length) d104) rfl rfl hF rfl (aF rfl (hF.ev rfl)) ?_;clear hF;intro a hF
  refine wpList_nil ?_
  refine wp_ret ?_
  repeat with_reducible (first |refine eH ?_ |refine mh ?_ |refine mg ?_)
  refine iO (.inl rfl) hF rfl (hZ (hF.ev rfl)) ?_
  exact ⟨B103,((([]:List (Int×Int×Int))++x0).length),d104,rfl,rfl,S.sel [0] rfl rfl⟩
 ·have hx:=xn h0.rc.rd rfl hc101
  refine wt hF rfl hc101 ?_
  refine wp_seq ?_
  refine wp_region_lit ?_
  refine ay (v:=.slice none 0 0) rfl rfl hF rfl (aF rfl rfl) ?_;clear hF;intro a hF
  refine wpList_nil ?_
  refine wp_ret ?_
  repeat with_reducible (first |refine eH ?_ |refine mh ?_ |refine mg ?_)
  refine iO (.inl rfl) hF rfl (hZ (hF.ev rfl)) ?_
  subst hx
  replace S:=S.nilrow 77 3
  exact ⟨none,0,0,rfl,rfl,S.sel [0] rfl rfl⟩
def fa:Ctr:=⟨105,[.o BB],[.o (.row 77 AT)],false,fun x=>bf x⟩
theorem mX:bz Tryz.prog fa:=⟨ZI,fun x res hm e w0 w X _ hp hS=>by
 obtain ⟨v,vr,hv,⟨l,hl,hro⟩,_⟩:=hp
 have hl:=(List.head_eq_of_cons_eq hv).trans hl
 injection hl with _ hl
 subst hl
 refine (mW (A0:=e.a 0) (n0:=List.length x) (c0:=e.c 0) (w:=w) ⟨hro w _ hS (fun y hy=>List.mem_append_right _ hy),rfl⟩ hm).mono ?_
 rintro en w' ⟨B,N,D,rfl,hN,S⟩
 subst hN
 exact ⟨[_],[_],rfl,⟨[_],[],[],[_],[],[],rfl,rfl,⟨_,[],_,[],[_],[],rfl,rfl,rfl,⟨res,B,D,rfl,rfl,rfl⟩,rfl,rfl,rfl⟩,⟨rfl,rfl⟩,⟨[],[],[],[],rfl,rfl,⟨rfl,rfl⟩,⟨rfl,rfl⟩⟩⟩,hS.call1 S⟩⟩
set_option maxHeartbeats 4000000 in
theorem nC {x0:List (Int×Int)} {A0:Option Addr} {n0 c0:Nat} {w:World} {r:List (Int×Int)} (h0:Rt w 2 Vh A0 n0 c0 x0) (hM:bj x0=some r):
 Calls Tryz.prog 106 #[.slice A0 n0 c0] w (fun e w'=> ∃(B0:Option Addr) (N0 D0:Nat),e= .returned (.slice B0 N0 D0)∧N0=r.length∧St w w' [.row 122 2 (.slice B0 N0 D0) N0 (r.flatMap Vh)]):=by
 obtain rfl:=h0.len
 unfold bj at hM
 obtain ⟨hk,hM⟩:=cY hM
 replace hk:=zf hk
 obtain rfl:=Option.some.inj hM
 refine pz Tryz.func106 Tryz.ntmps106 rfl [(0,.slice A0 x0.length c0)] ⟨rfl,trivial⟩ rfl ?_
 intro a hF
 have S:=St.nil w
 refine wp_seq ?_
 refine wp_region_lit ?_
 refine ay (v:=.slice none 0 0) rfl rfl hF rfl (aF rfl rfl) ?_;clear hF;intro a hF
 refine wpList_nil ?_
 refine wp_seq ?_
 refine wp_seq ?_
 refine wp_region_lit ?_
 refine ay (v:=.slice A0 x0.length c0) rfl rfl hF rfl (aD rfl (hF.ev rfl)) ?_;clear hF;intro a hF
 refine ay (v:=.bool (Option.isNone A0)) rfl rfl hF rfl (pc rfl Tryz.underlying26 (hF.ev rfl) rfl) ?_;clear hF;intro a hF
 refine wpList_nil ?_
 cases hc101:(Option.isNone A0)
 ·have hx:=trivial
  refine wq hF rfl hc101 ?_
  refine wp_skip ?_
  refine wp_seq ?_
  refine wp_region_lit ?_
  refine uP (cs:= #[]) (size:=2) rfl rfl hF rfl S (ke rfl Tryz.underlying26 (congrArg Option.isSome acv)) rfl (Nat.zero_le _) ?_;clear hF S;intro a g102 u hF S
  refine ay (v:=.slice A0 x0.length c0) rfl rfl hF rfl (aD rfl (hF.ev rfl)) ?_;clear hF;intro a hF
  have hk105:=hk
  refine rS (lx:=[]) (ly:=x0) rfl rfl hF rfl S rfl (hF.ev rfl) (hF.ev rfl) (i:=0) rfl rfl Tryz.underlying26 Yh rfl (by decide) (S.rc0 h0.rc).rd rfl RO hk105 (by decide) ?_;clear hF S;intro a B103 d104 u hF S
  refine ay (v:=.slice B103 ((([]:List (Int×Int))++x0).length) d104) rfl rfl hF rfl (aF rfl (hF.ev rfl)) ?_;clear hF;intro a hF
  refine wpList_nil ?_
  refine wp_ret ?_
  repeat with_reducible (first |refine eH ?_ |refine mh ?_ |refine mg ?_)
  refine iO (.inl rfl) hF rfl (hZ (hF.ev rfl)) ?_
  exact ⟨B103,((([]:List (Int×Int))++x0).length),d104,rfl,rfl,S.sel [0] rfl rfl⟩
 ·have hx:=xn h0.rc.rd rfl hc101
  refine wt hF rfl hc101 ?_
  refine wp_seq ?_
  refine wp_region_lit ?_
  refine ay (v:=.slice none 0 0) rfl rfl hF rfl (aF rfl rfl) ?_;clear hF;intro a hF
  refine wpList_nil ?_
  refine wp_ret ?_
  repeat with_reducible (first |refine eH ?_ |refine mh ?_ |refine mg ?_)
  refine iO (.inl rfl) hF rfl (hZ (hF.ev rfl)) ?_
  subst hx
  replace S:=S.nilrow 122 2
  exact ⟨none,0,0,rfl,rfl,S.sel [0] rfl rfl⟩
def fQ:Ctr:=⟨106,[Aq],[.o (.row 122 Ae)],false,fun x=>bj x⟩
theorem nE:bz Tryz.prog fQ:=⟨ZJ,fun x res hm e w0 w X _ hp hS=>by
 obtain ⟨v,vr,hv,⟨l,hl,hro⟩,_⟩:=hp
 have hl:=(List.head_eq_of_cons_eq hv).trans hl
 injection hl with _ hl
 subst hl
 refine (nC (A0:=e.a 0) (n0:=List.length x) (c0:=e.c 0) (w:=w) ⟨hro w _ hS (fun y hy=>List.mem_append_right _ hy),rfl⟩ hm).mono ?_
 rintro en w' ⟨B,N,D,rfl,hN,S⟩
 subst hN
 exact ⟨[_],[_],rfl,⟨[_],[],[],[_],[],[],rfl,rfl,⟨_,[],_,[],[_],[],rfl,rfl,rfl,⟨res,B,D,rfl,rfl,rfl⟩,rfl,rfl,rfl⟩,⟨rfl,rfl⟩,⟨[],[],[],[],rfl,rfl,⟨rfl,rfl⟩,⟨rfl,rfl⟩⟩⟩,hS.call1 S⟩⟩
set_option maxHeartbeats 4000000 in
theorem tC {x0:List Bool} {A0:Option Addr} {n0 c0:Nat} {w:World} {r:List Bool} (h0:Rt w 1 eB A0 n0 c0 x0) (hM:aY x0=some r):
 Calls Tryz.prog 114 #[.slice A0 n0 c0] w (fun e w'=> ∃(B0:Option Addr) (N0 D0:Nat),e= .returned (.slice B0 N0 D0)∧N0=r.length∧St w w' [.row 4 1 (.slice B0 N0 D0) N0 (r.flatMap eB)]):=by
 obtain rfl:=h0.len
 unfold aY at hM
 obtain ⟨hk,hM⟩:=cY hM
 replace hk:=zf hk
 obtain rfl:=Option.some.inj hM
 refine pz Tryz.func114 Tryz.ntmps114 rfl [(0,.slice A0 x0.length c0)] ⟨rfl,trivial⟩ rfl ?_
 intro a hF
 have S:=St.nil w
 refine wp_seq ?_
 refine wp_region_lit ?_
 refine ay (v:=.slice none 0 0) rfl rfl hF rfl (aF rfl rfl) ?_;clear hF;intro a hF
 refine wpList_nil ?_
 refine wp_seq ?_
 refine wp_seq ?_
 refine wp_region_lit ?_
 refine ay (v:=.slice A0 x0.length c0) rfl rfl hF rfl (aD rfl (hF.ev rfl)) ?_;clear hF;intro a hF
 refine ay (v:=.bool (Option.isNone A0)) rfl rfl hF rfl (pc rfl Tryz.underlying27 (hF.ev rfl) rfl) ?_;clear hF;intro a hF
 refine wpList_nil ?_
 cases hc101:(Option.isNone A0)
 ·have hx:=trivial
  refine wq hF rfl hc101 ?_
  refine wp_skip ?_
  refine wp_seq ?_
  refine wp_region_lit ?_
  refine uP (cs:= #[]) (size:=1) rfl rfl hF rfl S (ke rfl Tryz.underlying27 (congrArg Option.isSome sz4)) rfl (Nat.zero_le _) ?_;clear hF S;intro a g102 u hF S
  refine ay (v:=.slice A0 x0.length c0) rfl rfl hF rfl (aD rfl (hF.ev rfl)) ?_;clear hF;intro a hF
  have hk105:=hk
  refine rS (lx:=[]) (ly:=x0) rfl rfl hF rfl S rfl (hF.ev rfl) (hF.ev rfl) (i:=0) rfl rfl Tryz.underlying27 adC rfl (by decide) (S.rc0 h0.rc).rd rfl XF hk105 (by decide) ?_;clear hF S;intro a B103 d104 u hF S
  refine ay (v:=.slice B103 ((([]:List Bool)++x0).length) d104) rfl rfl hF rfl (aF rfl (hF.ev rfl)) ?_;clear hF;intro a hF
  refine wpList_nil ?_
  refine wp_ret ?_
  repeat with_reducible (first |refine eH ?_ |refine mh ?_ |refine mg ?_)
  refine iO (.inl rfl) hF rfl (hZ (hF.ev rfl)) ?_
  exact ⟨B103,((([]:List Bool)++x0).length),d104,rfl,rfl,S.sel [0] rfl rfl⟩
 ·have hx:=xn h0.rc.rd rfl hc101
  refine wt hF rfl hc101 ?_
  refine wp_seq ?_
  refine wp_region_lit ?_
  refine ay (v:=.slice none 0 0) rfl rfl hF rfl (aF rfl rfl) ?_;clear hF;intro a hF
  refine wpList_nil ?_
  refine wp_ret ?_
  repeat with_reducible (first |refine eH ?_ |refine mh ?_ |refine mg ?_)
  refine iO (.inl rfl) hF rfl (hZ (hF.ev rfl)) ?_
  subst hx
  replace S:=S.nilrow 4 1
  exact ⟨none,0,0,rfl,rfl,S.sel [0] rfl rfl⟩
def ib:Ctr:=⟨114,[AN],[CE],false,fun x=>aY x⟩
theorem mo:bz Tryz.prog ib:=⟨ZR,fun x res hm e w0 w X _ hp hS=>by
 obtain ⟨v,vr,hv,⟨l,hl,hro⟩,_⟩:=hp
 have hl:=(List.head_eq_of_cons_eq hv).trans hl
 injection hl with _ hl
 subst hl
 refine (tC (A0:=e.a 0) (n0:=List.length x) (c0:=e.c 0) (w:=w) ⟨hro w _ hS (fun y hy=>List.mem_append_right _ hy),rfl⟩ hm).mono ?_
 rintro en w' ⟨B,N,D,rfl,hN,S⟩
 subst hN
 exact ⟨[_],[_],rfl,⟨[_],[],[],[_],[],[],rfl,rfl,⟨_,[],_,[],[_],[],rfl,rfl,rfl,⟨res,B,D,rfl,rfl,rfl⟩,rfl,rfl,rfl⟩,⟨rfl,rfl⟩,⟨[],[],[],[],rfl,rfl,⟨rfl,rfl⟩,⟨rfl,rfl⟩⟩⟩,hS.call1 S⟩⟩
set_option maxHeartbeats 4000000 in
theorem ld {x0:List (Int×Int)} {A0:Option Addr} {n0 c0:Nat} {w:World} {r:List (Int×Int)} (h0:Rt w 2 jo A0 n0 c0 x0) (hM:aQ x0=some r):
 Calls Tryz.prog 168 #[.slice A0 n0 c0] w (fun e w'=> ∃(B0:Option Addr) (N0 D0:Nat),e= .returned (.slice B0 N0 D0)∧N0=r.length∧St w w' [.row 125 2 (.slice B0 N0 D0) N0 (r.flatMap jo)]):=by
 obtain rfl:=h0.len
 unfold aQ at hM
 obtain ⟨hk,hM⟩:=cY hM
 replace hk:=zf hk
 obtain rfl:=Option.some.inj hM
 refine pz Tryz.func168 Tryz.ntmps168 rfl [(0,.slice A0 x0.length c0)] ⟨rfl,trivial⟩ rfl ?_
 intro a hF
 have S:=St.nil w
 refine wp_seq ?_
 refine wp_region_lit ?_
 refine ay (v:=.slice none 0 0) rfl rfl hF rfl (aF rfl rfl) ?_;clear hF;intro a hF
 refine wpList_nil ?_
 refine wp_seq ?_
 refine wp_seq ?_
 refine wp_region_lit ?_
 refine ay (v:=.slice A0 x0.length c0) rfl rfl hF rfl (aD rfl (hF.ev rfl)) ?_;clear hF;intro a hF
 refine ay (v:=.bool (Option.isNone A0)) rfl rfl hF rfl (pc rfl Tryz.underlying28 (hF.ev rfl) rfl) ?_;clear hF;intro a hF
 refine wpList_nil ?_
 cases hc101:(Option.isNone A0)
 ·have hx:=trivial
  refine wq hF rfl hc101 ?_
  refine wp_skip ?_
  refine wp_seq ?_
  refine wp_region_lit ?_
  refine uP (cs:= #[]) (size:=2) rfl rfl hF rfl S (ke rfl Tryz.underlying28 (congrArg Option.isSome IU)) rfl (Nat.zero_le _) ?_;clear hF S;intro a g102 u hF S
  refine ay (v:=.slice A0 x0.length c0) rfl rfl hF rfl (aD rfl (hF.ev rfl)) ?_;clear hF;intro a hF
  have hk105:=hk
  refine rS (lx:=[]) (ly:=x0) rfl rfl hF rfl S rfl (hF.ev rfl) (hF.ev rfl) (i:=0) rfl rfl Tryz.underlying28 SF rfl (by decide) (S.rc0 h0.rc).rd rfl Ez hk105 (by decide) ?_;clear hF S;intro a B103 d104 u hF S
  refine ay (v:=.slice B103 ((([]:List (Int×Int))++x0).length) d104) rfl rfl hF rfl (aF rfl (hF.ev rfl)) ?_;clear hF;intro a hF
  refine wpList_nil ?_
  refine wp_ret ?_
  repeat with_reducible (first |refine eH ?_ |refine mh ?_ |refine mg ?_)
  refine iO (.inl rfl) hF rfl (hZ (hF.ev rfl)) ?_
  exact ⟨B103,((([]:List (Int×Int))++x0).length),d104,rfl,rfl,S.sel [0] rfl rfl⟩
 ·have hx:=xn h0.rc.rd rfl hc101
  refine wt hF rfl hc101 ?_
  refine wp_seq ?_
  refine wp_region_lit ?_
  refine ay (v:=.slice none 0 0) rfl rfl hF rfl (aF rfl rfl) ?_;clear hF;intro a hF
  refine wpList_nil ?_
  refine wp_ret ?_
  repeat with_reducible (first |refine eH ?_ |refine mh ?_ |refine mg ?_)
  refine iO (.inl rfl) hF rfl (hZ (hF.ev rfl)) ?_
  subst hx
  replace S:=S.nilrow 125 2
  exact ⟨none,0,0,rfl,rfl,S.sel [0] rfl rfl⟩
def dl:Ctr:=⟨168,[.o Bu],[.o BW],false,fun x=>aQ x⟩
theorem lh:bz Tryz.prog dl:=⟨aaz,fun x res hm e w0 w X _ hp hS=>by
 obtain ⟨v,vr,hv,⟨l,hl,hro⟩,_⟩:=hp
 have hl:=(List.head_eq_of_cons_eq hv).trans hl
 injection hl with _ hl
 subst hl
 refine (ld (A0:=e.a 0) (n0:=List.length x) (c0:=e.c 0) (w:=w) ⟨hro w _ hS (fun y hy=>List.mem_append_right _ hy),rfl⟩ hm).mono ?_
 rintro en w' ⟨B,N,D,rfl,hN,S⟩
 subst hN
 exact ⟨[_],[_],rfl,⟨[_],[],[],[_],[],[],rfl,rfl,⟨_,[],_,[],[_],[],rfl,rfl,rfl,⟨res,B,D,rfl,rfl,rfl⟩,rfl,rfl,rfl⟩,⟨rfl,rfl⟩,⟨[],[],[],[],rfl,rfl,⟨rfl,rfl⟩,⟨rfl,rfl⟩⟩⟩,hS.call1 S⟩⟩
def nN:Ctr:=⟨107,[AI],[CF],false,fun x=>gg x.1 x.2.1 x.2.2⟩
theorem sd:bz Tryz.prog nN:=ck [ib,dl] [.cell 2 30] Am ⟨mo,lh,trivial⟩ ZK Tryz.func107 Tryz.ntmps107 rfl rfl rfl fun _=>by kernel_rfl
set_option maxHeartbeats 4000000 in
theorem uZ {x0:List Int} {A0:Option Addr} {n0 c0:Nat} {w:World} {r:List Int} (h0:Rt w 1 eI A0 n0 c0 x0) (hM:cL x0=some r):
 Calls Tryz.prog 108 #[.slice A0 n0 c0] w (fun e w'=> ∃(B0:Option Addr) (N0 D0:Nat),e= .returned (.slice B0 N0 D0)∧N0=r.length∧St w w' [.row 3 1 (.slice B0 N0 D0) N0 (r.flatMap eI)]):=by
 obtain rfl:=h0.len
 unfold cL at hM
 obtain ⟨hk,hM⟩:=cY hM
 replace hk:=zf hk
 obtain rfl:=Option.some.inj hM
 refine pz Tryz.func108 Tryz.ntmps108 rfl [(0,.slice A0 x0.length c0)] ⟨rfl,trivial⟩ rfl ?_
 intro a hF
 have S:=St.nil w
 refine wp_seq ?_
 refine wp_region_lit ?_
 refine ay (v:=.slice none 0 0) rfl rfl hF rfl (aF rfl rfl) ?_;clear hF;intro a hF
 refine wpList_nil ?_
 refine wp_seq ?_
 refine wp_seq ?_
 refine wp_region_lit ?_
 refine ay (v:=.slice A0 x0.length c0) rfl rfl hF rfl (aD rfl (hF.ev rfl)) ?_;clear hF;intro a hF
 refine ay (v:=.bool (Option.isNone A0)) rfl rfl hF rfl (pc rfl Tryz.underlying31 (hF.ev rfl) rfl) ?_;clear hF;intro a hF
 refine wpList_nil ?_
 cases hc101:(Option.isNone A0)
 ·have hx:=trivial
  refine wq hF rfl hc101 ?_
  refine wp_skip ?_
  refine wp_seq ?_
  refine wp_region_lit ?_
  refine uP (cs:= #[]) (size:=1) rfl rfl hF rfl S (ke rfl Tryz.underlying31 (congrArg Option.isSome ZA)) rfl (Nat.zero_le _) ?_;clear hF S;intro a g102 u hF S
  refine ay (v:=.slice A0 x0.length c0) rfl rfl hF rfl (aD rfl (hF.ev rfl)) ?_;clear hF;intro a hF
  have hk105:=hk
  refine rS (lx:=[]) (ly:=x0) rfl rfl hF rfl S rfl (hF.ev rfl) (hF.ev rfl) (i:=0) rfl rfl Tryz.underlying31 abQ rfl (by decide) (S.rc0 h0.rc).rd rfl RQ hk105 (by decide) ?_;clear hF S;intro a B103 d104 u hF S
  refine ay (v:=.slice B103 ((([]:List Int)++x0).length) d104) rfl rfl hF rfl (aF rfl (hF.ev rfl)) ?_;clear hF;intro a hF
  refine wpList_nil ?_
  refine wp_ret ?_
  repeat with_reducible (first |refine eH ?_ |refine mh ?_ |refine mg ?_)
  refine iO (.inl rfl) hF rfl (hZ (hF.ev rfl)) ?_
  exact ⟨B103,((([]:List Int)++x0).length),d104,rfl,rfl,S.sel [0] rfl rfl⟩
 ·have hx:=xn h0.rc.rd rfl hc101
  refine wt hF rfl hc101 ?_
  refine wp_seq ?_
  refine wp_region_lit ?_
  refine ay (v:=.slice none 0 0) rfl rfl hF rfl (aF rfl rfl) ?_;clear hF;intro a hF
  refine wpList_nil ?_
  refine wp_ret ?_
  repeat with_reducible (first |refine eH ?_ |refine mh ?_ |refine mg ?_)
  refine iO (.inl rfl) hF rfl (hZ (hF.ev rfl)) ?_
  subst hx
  replace S:=S.nilrow 3 1
  exact ⟨none,0,0,rfl,rfl,S.sel [0] rfl rfl⟩
def nR:Ctr:=⟨108,[BZ],CP,false,fun x=>cL x⟩
theorem vd:bz Tryz.prog nR:=⟨ZL,fun x res hm e w0 w X _ hp hS=>by
 obtain ⟨v,vr,hv,⟨l,hl,hro⟩,_⟩:=hp
 have hl:=(List.head_eq_of_cons_eq hv).trans hl
 injection hl with _ hl
 subst hl
 refine (uZ (A0:=e.a 0) (n0:=List.length x) (c0:=e.c 0) (w:=w) ⟨hro w _ hS (fun y hy=>List.mem_append_right _ hy),rfl⟩ hm).mono ?_
 rintro en w' ⟨B,N,D,rfl,hN,S⟩
 subst hN
 exact ⟨[_],[_],rfl,⟨[_],[],[],[_],[],[],rfl,rfl,⟨_,[],_,[],[_],[],rfl,rfl,rfl,⟨res,B,D,rfl,rfl,rfl⟩,rfl,rfl,rfl⟩,⟨rfl,rfl⟩,⟨[],[],[],[],rfl,rfl,⟨rfl,rfl⟩,⟨rfl,rfl⟩⟩⟩,hS.call1 S⟩⟩
def eZ:Ctr:=⟨43,[Ad],[Aj],false,fun x=>bT x.1 x.2.1 x.2.2.1 x.2.2.2.1 x.2.2.2.2.1 x.2.2.2.2.2.1 x.2.2.2.2.2.2⟩
theorem jn:bz Tryz.prog eZ:=ck [fa,fQ,nN,nR] [.cell 2 33] Am ⟨mX,nE,sd,vd,trivial⟩ acU Tryz.func43 Tryz.ntmps43 rfl rfl rfl fun _=>by kernel_rfl
def vG:Ctr:=⟨232,[AF],BI,false,fun x=>mC x⟩
theorem EI:bz Tryz.prog vG:=ck [] [.tmp 2] Am trivial abb Tryz.func232 Tryz.ntmps232 rfl rfl rfl fun _=>by kernel_rfl
def wQ:Ctr:=⟨212,[AF,AF],BI,false,fun x=>og x.1 x.2⟩
theorem FV:bz Tryz.prog wQ:=ck [vG] [.tmp 4] Am ⟨EI,trivial⟩ aa3 Tryz.func212 Tryz.ntmps212 rfl rfl rfl fun _=>by kernel_rfl
def rM:Ctr:=⟨213,[AF],BI,false,fun x=>jE x⟩
theorem yK:bz Tryz.prog rM:=ck [] [.tmp 2] Am trivial aa4 Tryz.func213 Tryz.ntmps213 rfl rfl rfl fun _=>by kernel_rfl
def jk:Ctr:=⟨180,[BZ,AF],[Bm,AH],false,fun x=>ca x.1 x.2⟩
theorem pA:bz Tryz.prog jk:=ck [wQ,rM] [.tmp 4,.tmp 5] (.q .z (.q .z (.q .z (.q (.cut ⟨[AX,Au,As,AQ,AB,BQ],[],[]⟩ [] (.b (.lp CS (.q Am (.b (.q .z (.q .z (.cut CS [] Ac)))))))) Ac)))) ⟨FV,yK,trivial⟩ aaI Tryz.func180 Tryz.ntmps180 rfl rfl rfl fun _=>by kernel_rfl
set_option maxHeartbeats 4000000 in
theorem tR {x0:List Int} {x1:Int} {x2:Int} {A0:Option Addr} {n0 c0:Nat} {w:World} {r:List Int} {w0:World} {X:List Asn} (h0:n0=x0.length) (S:St w0 w (Asn.row 3 1 (.slice A0 n0 c0) n0 (x0.flatMap eI)::X)) (hM:cq x0 x1 x2=some r):
 Calls Tryz.prog 182 #[.slice A0 n0 c0,.int .i64 x1,.int .i64 x2] w (fun e w'=> ∃(B0:Option Addr) (N0 D0:Nat),e= .returned (.slice B0 N0 D0)∧N0=r.length∧St w0 w' (Asn.row 3 1 (.slice B0 N0 D0) N0 (r.flatMap eI)::X)):=by
 obtain rfl:=h0
 unfold cq at hM
 refine pz Tryz.func182 Tryz.ntmps182 rfl [(0,.slice A0 x0.length c0),(1,.int .i64 x1),(2,.int .i64 x2)] ⟨rfl,rfl,rfl,trivial⟩ rfl ?_
 intro a hF
 refine wp_seq ?_
 refine wp_region_lit ?_
 refine ay (v:=.slice none 0 0) rfl rfl hF rfl (aF rfl rfl) ?_;clear hF;intro a hF
 refine wpList_nil ?_
 refine wp_seq ?_
 refine wp_region_lit ?_
 refine ay (v:=.slice A0 x0.length c0) rfl rfl hF rfl (aD rfl (hF.ev rfl)) ?_;clear hF;intro a hF
 refine ay (v:=.int .i64 x1) rfl rfl hF rfl (aD rfl (hF.ev rfl)) ?_;clear hF;intro a hF
 refine ay (v:=.int .i64 x2) rfl rfl hF rfl (aD rfl (hF.ev rfl)) ?_;clear hF;intro a hF
 refine ay (v:=.slice A0 x0.length c0) rfl rfl hF rfl (aD rfl (hF.ev rfl)) ?_;clear hF;intro a hF
 refine ay (v:=.int .i64 (x0.length:Int)) rfl rfl hF rfl (lE rfl rfl Tryz.underlying31 (hF.ev rfl)) ?_;clear hF;intro a hF
 obtain ⟨hk101,hM⟩:=cY hM
 replace hk101:=pX hk101
 refine ay (v:=.slice (bV ((x0.length:Int).toNat) x1.toNat 1 A0) (x2.toNat-x1.toNat) ((x0.length:Int).toNat-x1.toNat)) rfl rfl hF rfl (Hj rfl Tryz.underlying31 ZA (hF.ev rfl) (hF.ev rfl) (hF.ev rfl) (hF.ev rfl) hk101 (Int.ofNat_le.2 (S.rc 0 rfl).cap)) ?_;clear hF;intro a hF
 refine wpList_nil ?_
 refine wp_seq ?_
 refine wp_seq ?_
 refine wp_region_lit ?_
 refine ay (v:=.int .i64 x1) rfl rfl hF rfl (aD rfl (hF.ev rfl)) ?_;clear hF;intro a hF
 refine ay (v:=.int .i64 x2) rfl rfl hF rfl (aD rfl (hF.ev rfl)) ?_;clear hF;intro a hF
 refine ay (v:=.bool (x1==x2)) rfl rfl hF rfl (JY (hF.ev rfl) (hF.ev rfl) rfl) ?_;clear hF;intro a hF
 refine wpList_nil ?_
 cases hc102:(x1==x2)
 ·replace hM:=WF hc102 hM
  refine wq hF rfl hc102 ?_
  refine wp_skip ?_
  refine wp_seq ?_
  refine wp_region_lit ?_
  refine ay (v:=.slice A0 x0.length c0) rfl rfl hF rfl (aD rfl (hF.ev rfl)) ?_;clear hF;intro a hF
  refine ay (v:=.int .i64 (x0.length:Int)) rfl rfl hF rfl (lE rfl rfl Tryz.underlying31 (hF.ev rfl)) ?_;clear hF;intro a hF
  refine ay (v:=.int .i64 (x0.length:Int)) rfl rfl hF rfl (aF rfl (hF.ev rfl)) ?_;clear hF;intro a hF
  refine wpList_nil ?_
  refine wp_seq ?_
  obtain ⟨hk103,hM⟩:=cY hM
  replace hk103:=pX hk103
  obtain ⟨hk104,hM⟩:=cY hM
  replace hk104:=pX hk104
  obtain ⟨hk105,hM⟩:=cY hM
  replace hk105:=zf hk105
  have hp106:=(S.rc 0 rfl).cap
  have hq107:=Oq (l:=x0) (p:=x1) (q:=x2) rfl (by omega)
  refine IM (D:=[20,21,22,23,24,25,26,0]) (Lr:=(X)) (deps:=(fun |0=> [20] |1=> [21] |2=> [22] |3=> [23] |4=> [24] |5=> [25] |6=> [26] |7=> [0] |_=> [])) (rd:=(fun _=> [])) (zr:=(fun |2=> [6] |5=> [6] |_=> []))
   (φ:=fun i vs=>match i,vs with |0,[v20]=>v20= .slice A0 x0.length c0 |1,[v21]=>v21= .int .i64 x1 |2,[v22]=>v22= .slice (bV c0 ((0:Int).toNat) 1 A0) ((aj x0 0 x1).length) (c0-(0:Int).toNat) |3,[v23]=>v23= .slice A0 x0.length c0 |4,[v24]=>v24= .int .i64 x2 |5,[v25]=>v25= .slice (bV c0 x2.toNat 1 A0) ((aj x0 x2 (x0.length:Int)).length) (c0-x2.toNat) |6,[v26]=>v26= .slice A0 (((aj x0 0 x1)++(aj x0 x2 (x0.length:Int))).length) c0 |7,[v0]=>v0= .slice A0 (((aj x0 0 x1)++(aj x0 x2 (x0.length:Int))).length) c0 |_,_=>True)
   (C:=fun i vs=>match i,vs with |6,[v26]=> [.row 3 1 (.slice A0 (((aj x0 0 x1)++(aj x0 x2 (x0.length:Int))).length) c0) (((aj x0 0 x1)++(aj x0 x2 (x0.length:Int))).length) (((aj x0 0 x1)++(aj x0 x2 (x0.length:Int))).flatMap eI)] |_,_=> [])
   (κ:=(fun _=>none)) (Z:=(fun |6=> [.row 3 1 (.slice A0 x0.length c0) x0.length (x0.flatMap eI)] |_=> [])) mixed hF (by kernel_rfl) (show St w0 _ (Asn.row 3 1 (.slice A0 x0.length c0) x0.length (x0.flatMap eI)::X) from S.selT (M:=[.row 3 1 (.slice A0 x0.length c0) x0.length (x0.flatMap eI)]) 1 [0] rfl rfl rfl) ?_ ?_
  ·refine ⟨?_,?_,?_,?_,?_,?_,?_,?_,trivial⟩
   ·intro a u X' hB hu hp hr hz hl S
    replace S:St w0 u ([]++X'):=S
    exact .inl ⟨rfl,.slice A0 x0.length c0,u,(aD rfl (hF.evU (hu 7 0 rfl rfl) rfl)),rfl,S⟩
   ·intro a u X' hB hu hp hr hz hl S
    replace S:St w0 u ([]++X'):=S
    exact .inl ⟨rfl,.int .i64 x1,u,(aD rfl (hF.evB hB rfl rfl)),rfl,S⟩
   ·intro a u X' hB hu hp hr hz hl S
    replace S:St w0 u ([]++X'):=S
    have e20:sl a 20= .slice A0 x0.length c0:=hp 0 rfl
    have e21:sl a 21= .int .i64 x1:=hp 1 rfl
    exact .inl ⟨rfl,.slice (bV c0 ((0:Int).toNat) 1 A0) ((aj x0 0 x1).length) (c0-(0:Int).toNat),u,(vp (l:=x0) rfl Tryz.underlying31 ZA (jW e20) (jW e21) hk103 rfl (yT (show Ow _ _ _ _ _ _ from S.mem (List.mem_append_right _ (hz 6 (List.mem_of_getElem? (i:=0) rfl) _ (List.mem_of_getElem? (i:=0) rfl))))).cap),rfl,S⟩
   ·intro a u X' hB hu hp hr hz hl S
    replace S:St w0 u ([]++X'):=S
    exact .inl ⟨rfl,.slice A0 x0.length c0,u,(aD rfl (hF.evU (hu 7 0 rfl rfl) rfl)),rfl,S⟩
   ·intro a u X' hB hu hp hr hz hl S
    replace S:St w0 u ([]++X'):=S
    exact .inl ⟨rfl,.int .i64 x2,u,(aD rfl (hF.evB hB rfl rfl)),rfl,S⟩
   ·intro a u X' hB hu hp hr hz hl S
    replace S:St w0 u ([]++X'):=S
    have e23:sl a 23= .slice A0 x0.length c0:=hp 3 rfl
    have e24:sl a 24= .int .i64 x2:=hp 4 rfl
    exact .inl ⟨rfl,.slice (bV c0 x2.toNat 1 A0) ((aj x0 x2 (x0.length:Int)).length) (c0-x2.toNat),u,(tL (l:=x0) rfl Tryz.underlying31 ZA (jW e23) (jW e24) hk104 rfl (yT (show Ow _ _ _ _ _ _ from S.mem (List.mem_append_right _ (hz 6 (List.mem_of_getElem? (i:=0) rfl) _ (List.mem_of_getElem? (i:=0) rfl))))).cap),rfl,S⟩
   ·intro a u X' hB hu hp hr hz hl S
    replace S:St w0 u ([.row 3 1 (.slice A0 x0.length c0) x0.length (x0.flatMap eI)]++X'):=S
    have e22:sl a 22= .slice (bV c0 ((0:Int).toNat) 1 A0) ((aj x0 0 x1).length) (c0-(0:Int).toNat):=hp 2 rfl
    have e25:sl a 25= .slice (bV c0 x2.toNat 1 A0) ((aj x0 x2 (x0.length:Int)).length) (c0-x2.toNat):=hp 5 rfl
    obtain ⟨w',hrun,S'⟩:=S.delrow (i:=0) (P:=Tryz.prog) (ty:=31) (p:=x1) (q:=x2) rfl rfl RP RQ Tryz.underlying31 ZA (by omega) (by omega) (by omega)
    exact .inl ⟨rfl,_,w',vo rfl (jW e22) (jW e25) hrun,rfl,S'⟩
   ·intro a u X' hB hu hp hr hz hl S
    replace S:St w0 u ([]++X'):=S
    have e26:sl a 26= .slice A0 (((aj x0 0 x1)++(aj x0 x2 (x0.length:Int))).length) c0:=hp 6 rfl
    exact .inl ⟨rfl,.slice A0 (((aj x0 0 x1)++(aj x0 x2 (x0.length:Int))).length) c0,u,(aF rfl (jW e26)),rfl,S⟩
  ·intro a u hB hp S
   obtain ⟨q0,q1,q2,q3,q4,q5,q6,q7,_⟩:=hp
   have e20:sl a 20= .slice A0 x0.length c0:=q0
   have e21:sl a 21= .int .i64 x1:=q1
   have e22:sl a 22= .slice (bV c0 ((0:Int).toNat) 1 A0) ((aj x0 0 x1).length) (c0-(0:Int).toNat):=q2
   have e23:sl a 23= .slice A0 x0.length c0:=q3
   have e24:sl a 24= .int .i64 x2:=q4
   have e25:sl a 25= .slice (bV c0 x2.toNat 1 A0) ((aj x0 x2 (x0.length:Int)).length) (c0-x2.toNat):=q5
   have e26:sl a 26= .slice A0 (((aj x0 0 x1)++(aj x0 x2 (x0.length:Int))).length) c0:=q6
   have e0:sl a 0= .slice A0 (((aj x0 0 x1)++(aj x0 x2 (x0.length:Int))).length) c0:=q7
   replace S:St w0 u (Asn.row 3 1 (.slice A0 (((aj x0 0 x1)++(aj x0 x2 (x0.length:Int))).length) c0) (((aj x0 0 x1)++(aj x0 x2 (x0.length:Int))).length) (((aj x0 0 x1)++(aj x0 x2 (x0.length:Int))).flatMap eI)::X):=S
   clear q0 q1 q2 q3 q4 q5 q6 q7
   have hF:=hF.region hB [(20,.slice A0 x0.length c0),(21,.int .i64 x1),(22,.slice (bV c0 ((0:Int).toNat) 1 A0) ((aj x0 0 x1).length) (c0-(0:Int).toNat)),(23,.slice A0 x0.length c0),(24,.int .i64 x2),(25,.slice (bV c0 x2.toNat 1 A0) ((aj x0 x2 (x0.length:Int)).length) (c0-x2.toNat)),(26,.slice A0 (((aj x0 0 x1)++(aj x0 x2 (x0.length:Int))).length) c0),(0,.slice A0 (((aj x0 0 x1)++(aj x0 x2 (x0.length:Int))).length) c0)] (Du ⟨e20,e21,e22,e23,e24,e25,e26,e0,trivial⟩) rfl
   clear hB e20 e21 e22 e23 e24 e25 e26 e0
   refine wp_seq ?_
   refine wp_region_lit ?_
   refine ay (v:=.slice A0 (((aj x0 0 x1)++(aj x0 x2 (x0.length:Int))).length) c0) rfl rfl hF rfl (aD rfl (hF.ev rfl)) ?_;clear hF;intro a hF
   refine ay (v:=.slice A0 (((aj x0 0 x1)++(aj x0 x2 (x0.length:Int))).length) c0) rfl rfl hF rfl (aD rfl (hF.ev rfl)) ?_;clear hF;intro a hF
   refine ay (v:=.int .i64 ((((aj x0 0 x1)++(aj x0 x2 (x0.length:Int))).length):Int)) rfl rfl hF rfl (lE rfl rfl Tryz.underlying31 (hF.ev rfl)) ?_;clear hF;intro a hF
   refine ay (v:=.int .i64 (x0.length:Int)) rfl rfl hF rfl (aD rfl (hF.ev rfl)) ?_;clear hF;intro a hF
   refine ay (v:=.slice (bV c0 (((((aj x0 0 x1)++(aj x0 x2 (x0.length:Int))).length):Int).toNat) 1 A0) ((x0.length:Int).toNat-((((aj x0 0 x1)++(aj x0 x2 (x0.length:Int))).length):Int).toNat) (c0-((((aj x0 0 x1)++(aj x0 x2 (x0.length:Int))).length):Int).toNat)) rfl rfl hF rfl (Dh rfl Tryz.underlying31 ZA (hF.ev rfl) (hF.ev rfl) (hF.ev rfl) ⟨Int.natCast_nonneg _,Int.ofNat_le.2 hq107,Int.ofNat_le.2 hp106⟩) ?_;clear hF;intro a hF
   obtain ⟨w',hrun,S'⟩:=S.clear (i:=0) (P:=Tryz.prog) (hi:=(x0.length:Int)) rfl rfl RP Tryz.underlying31 abQ rfl rfl ⟨Int.ofNat_le.2 hq107,Int.ofNat_le.2 hp106⟩
   refine EG rfl rfl rfl (hF.ev rfl) hrun ?_
   clear S hrun;have S:=S';clear S';generalize w'=u at S ⊢
   refine wpList_nil ?_
   refine wp_seq ?_
   refine wp_region_lit ?_
   refine ay (v:=.slice A0 (((aj x0 0 x1)++(aj x0 x2 (x0.length:Int))).length) c0) rfl rfl hF rfl (aD rfl (hF.ev rfl)) ?_;clear hF;intro a hF
   refine ay (v:=.slice A0 (((aj x0 0 x1)++(aj x0 x2 (x0.length:Int))).length) c0) rfl rfl hF rfl (aF rfl (hF.ev rfl)) ?_;clear hF;intro a hF
   refine wpList_nil ?_
   refine wp_ret ?_
   repeat with_reducible (first |refine eH ?_ |refine mh ?_ |refine mg ?_)
   refine iO (.inl rfl) hF rfl (hZ (hF.ev rfl)) ?_
   obtain rfl:=Option.some.inj hM
   exact ⟨A0,(((aj x0 0 x1)++(aj x0 x2 (x0.length:Int))).length),c0,rfl,rfl,S.selT (M:=[.row 3 1 (.slice A0 (((aj x0 0 x1)++(aj x0 x2 (x0.length:Int))).length) c0) (((aj x0 0 x1)++(aj x0 x2 (x0.length:Int))).length) (((aj x0 0 x1)++(aj x0 x2 (x0.length:Int))).flatMap eI)]) 1 [0] rfl rfl rfl⟩
 ·replace hM:=WG hc102 hM
  refine wt hF rfl hc102 ?_
  refine wp_seq ?_
  refine wp_region_lit ?_
  refine ay (v:=.slice A0 x0.length c0) rfl rfl hF rfl (aD rfl (hF.ev rfl)) ?_;clear hF;intro a hF
  refine ay (v:=.slice A0 x0.length c0) rfl rfl hF rfl (aF rfl (hF.ev rfl)) ?_;clear hF;intro a hF
  refine wpList_nil ?_
  refine wp_ret ?_
  repeat with_reducible (first |refine eH ?_ |refine mh ?_ |refine mg ?_)
  refine iO (.inl rfl) hF rfl (hZ (hF.ev rfl)) ?_
  obtain rfl:=Option.some.inj hM
  exact ⟨A0,x0.length,c0,rfl,rfl,S.selT (M:=[.row 3 1 (.slice A0 x0.length c0) x0.length (x0.flatMap eI)]) 1 [0] rfl rfl rfl⟩
def nm:Ctr:=⟨182,[CM,AF,AF],CP,true,fun x=>cq x.1 x.2.1 x.2.2⟩
theorem tT:bz Tryz.prog nm:=⟨aaK,fun x res hm e w0 w X _ hp hS=>(tR (w:=w) (w0:=w0) (X:=X) (A0:=e.a 0) (n0:=x.1.length) (c0:=e.c 0) rfl hS hm).mono (by
 rintro en w' ⟨B,N,D,rfl,hN,S⟩
 subst hN
 exact ⟨_,_,rfl,⟨[_],[],[],[_],[],[],rfl,rfl,⟨_,[],_,[],[_],[],rfl,rfl,rfl,⟨res,B,D,rfl,rfl,rfl⟩,rfl,rfl,rfl⟩,⟨rfl,rfl⟩,⟨[],[],[],[],rfl,rfl,⟨rfl,rfl⟩,⟨[],[],[],[],rfl,rfl,⟨rfl,rfl⟩,⟨[],[],[],[],rfl,rfl,⟨rfl,rfl⟩,⟨rfl,rfl⟩⟩⟩⟩⟩,S⟩)⟩
set_option maxHeartbeats 4000000 in
theorem tS {x0:List Int} {x1:Int} {x2:List Int} {A0:Option Addr} {n0 c0:Nat} {A2:Option Addr} {n2 c2:Nat} {w:World} {r:List Int} {w0:World} {X:List Asn} (h0:n0=x0.length) (h2:n2=x2.length) (S:St w0 w (Asn.row 3 1 (.slice A0 n0 c0) n0 (x0.flatMap eI)::Asn.row 3 1 (.slice A2 n2 c2) n2 (x2.flatMap eI)::X)) (hM:cu x0 x1 x2=some r):
 Calls Tryz.prog 181 #[.slice A0 n0 c0,.int .i64 x1,.slice A2 n2 c2] w (fun e w'=> ∃(B0:Option Addr) (N0 D0:Nat),e= .returned (.slice B0 N0 D0)∧N0=r.length∧St w0 w' (Asn.row 3 1 (.slice B0 N0 D0) N0 (r.flatMap eI)::X)):=by
 obtain rfl:=h0
 obtain rfl:=h2
 unfold cu at hM
 obtain ⟨hk1,hM⟩:=cY hM
 obtain ⟨hk2,hM⟩:=cY hM
 obtain ⟨hk3,hM⟩:=cY hM
 obtain rfl:=Option.some.inj hM
 replace hk1:=pX hk1
 replace hk2:=zf hk2
 obtain ⟨y,rfl⟩: ∃y,x2=[y]:=List.length_eq_one_iff.1 (by have:=eq_of_beq hk3;omega)
 refine (Qi S (k:=0) (m:=1) rfl rfl rfl (by decide) ⟨hk1.2.1,hk1.2.2⟩ hk2).mono ?_
 rintro e w' ⟨B,D,rfl,T⟩
 exact ⟨B,_,D,rfl,Vz hk1.2.1 hk1.2.2,T.sub (.cons_cons _ (.cons _ (List.Sublist.refl _)))⟩
def nn:Ctr:=⟨181,[CM,AF,CM],CP,true,fun x=>cu x.1 x.2.1 x.2.2⟩
theorem tU:bz Tryz.prog nn:=⟨aaJ,fun x res hm e w0 w X _ hp hS=>(tS (w:=w) (w0:=w0) (X:=X) (A0:=e.a 0) (n0:=x.1.length) (c0:=e.c 0) (A2:=e.a 2) (n2:=x.2.2.length) (c2:=e.c 2) rfl rfl hS hm).mono (by
 rintro en w' ⟨B,N,D,rfl,hN,S⟩
 subst hN
 exact ⟨_,_,rfl,⟨[_],[],[],[_],[],[],rfl,rfl,⟨_,[],_,[],[_],[],rfl,rfl,rfl,⟨res,B,D,rfl,rfl,rfl⟩,rfl,rfl,rfl⟩,⟨rfl,rfl⟩,⟨[],[],[],[],rfl,rfl,⟨rfl,rfl⟩,⟨[],[],[],[],rfl,rfl,⟨rfl,rfl⟩,⟨[],[],[],[],rfl,rfl,⟨rfl,rfl⟩,⟨rfl,rfl⟩⟩⟩⟩⟩,S⟩)⟩
def vJ:Ctr:=⟨234,[AI,AF],CP,false,fun x=>mE x.1 x.2.1 x.2.2.1 x.2.2.2⟩
theorem EM:bz Tryz.prog vJ:=ck [lJ] [.tmp 4] (.q .z (.q Af (.q .z (.q (.q .z (.cut BM [] (.b (.lp ⟨[Au,As,CR,BE,BO,(14,Ag)],[],[]⟩ (.q .z (.q Ac (.q (.b (.q .z (.q .z (.cut ⟨[Au,As,CR,BE,BO,(14,Ab)],[],[]⟩ [] Ac)))) .z))))))) Ac)))) ⟨oT,trivial⟩ abc Tryz.func234 Tryz.ntmps234 rfl rfl rfl fun _=>by kernel_rfl
def vK:Ctr:=⟨216,[AI,BC],BI,false,fun x=>mF x.1 x.2.1 x.2.2.1 x.2.2.2.1 x.2.2.2.2.1 x.2.2.2.2.2⟩
theorem EN:bz Tryz.prog vK:=ck [aZ,vJ] [.tmp 4] (.q .z (.q .z (.q .z (.q (.q .z (.b (.q (.q .z (.cut ⟨[Av,AU,As,AQ,AB,Bg,(29,Ab),(30,BX)],[(3,AP),(2,AP)],[]⟩ [] Ac)) BN))) Ac)))) ⟨bJ,EM,trivial⟩ aa5 Tryz.func216 Tryz.ntmps216 rfl rfl rfl fun _=>by kernel_rfl
set_option maxHeartbeats 4000000 in
theorem kU {x0:List (Int×Int)} {x1:Int} {x2:Int} {A0:Option Addr} {n0 c0:Nat} {w:World} {r:List (Int×Int)} {w0:World} {X:List Asn} (h0:n0=x0.length) (S:St w0 w (Asn.row 125 2 (.slice A0 n0 c0) n0 (x0.flatMap jo)::X)) (hM:aM x0 x1 x2=some r):
 Calls Tryz.prog 217 #[.slice A0 n0 c0,.int .i64 x1,.int .i64 x2] w (fun e w'=> ∃(B0:Option Addr) (N0 D0:Nat),e= .returned (.slice B0 N0 D0)∧N0=r.length∧St w0 w' (Asn.row 125 2 (.slice B0 N0 D0) N0 (r.flatMap jo)::X)):=by
 obtain rfl:=h0
 unfold aM at hM
 refine pz Tryz.func217 Tryz.ntmps217 rfl [(0,.slice A0 x0.length c0),(1,.int .i64 x1),(2,.int .i64 x2)] ⟨rfl,rfl,rfl,trivial⟩ rfl ?_
 intro a hF
 refine wp_seq ?_
 refine wp_region_lit ?_
 refine ay (v:=.slice none 0 0) rfl rfl hF rfl (aF rfl rfl) ?_;clear hF;intro a hF
 refine wpList_nil ?_
 refine wp_seq ?_
 refine wp_region_lit ?_
 refine ay (v:=.slice A0 x0.length c0) rfl rfl hF rfl (aD rfl (hF.ev rfl)) ?_;clear hF;intro a hF
 refine ay (v:=.int .i64 x1) rfl rfl hF rfl (aD rfl (hF.ev rfl)) ?_;clear hF;intro a hF
 refine ay (v:=.int .i64 x2) rfl rfl hF rfl (aD rfl (hF.ev rfl)) ?_;clear hF;intro a hF
 refine ay (v:=.slice A0 x0.length c0) rfl rfl hF rfl (aD rfl (hF.ev rfl)) ?_;clear hF;intro a hF
 refine ay (v:=.int .i64 (x0.length:Int)) rfl rfl hF rfl (lE rfl rfl Tryz.underlying28 (hF.ev rfl)) ?_;clear hF;intro a hF
 obtain ⟨hk101,hM⟩:=cY hM
 replace hk101:=pX hk101
 refine ay (v:=.slice (bV ((x0.length:Int).toNat) x1.toNat 2 A0) (x2.toNat-x1.toNat) ((x0.length:Int).toNat-x1.toNat)) rfl rfl hF rfl (Hj rfl Tryz.underlying28 IU (hF.ev rfl) (hF.ev rfl) (hF.ev rfl) (hF.ev rfl) hk101 (Int.ofNat_le.2 (S.rc 0 rfl).cap)) ?_;clear hF;intro a hF
 refine wpList_nil ?_
 refine wp_seq ?_
 refine wp_seq ?_
 refine wp_region_lit ?_
 refine ay (v:=.int .i64 x1) rfl rfl hF rfl (aD rfl (hF.ev rfl)) ?_;clear hF;intro a hF
 refine ay (v:=.int .i64 x2) rfl rfl hF rfl (aD rfl (hF.ev rfl)) ?_;clear hF;intro a hF
 refine ay (v:=.bool (x1==x2)) rfl rfl hF rfl (JY (hF.ev rfl) (hF.ev rfl) rfl) ?_;clear hF;intro a hF
 refine wpList_nil ?_
 cases hc102:(x1==x2)
 ·replace hM:=WF hc102 hM
  refine wq hF rfl hc102 ?_
  refine wp_skip ?_
  refine wp_seq ?_
  refine wp_region_lit ?_
  refine ay (v:=.slice A0 x0.length c0) rfl rfl hF rfl (aD rfl (hF.ev rfl)) ?_;clear hF;intro a hF
  refine ay (v:=.int .i64 (x0.length:Int)) rfl rfl hF rfl (lE rfl rfl Tryz.underlying28 (hF.ev rfl)) ?_;clear hF;intro a hF
  refine ay (v:=.int .i64 (x0.length:Int)) rfl rfl hF rfl (aF rfl (hF.ev rfl)) ?_;clear hF;intro a hF
  refine wpList_nil ?_
  refine wp_seq ?_
  obtain ⟨hk103,hM⟩:=cY hM
  replace hk103:=pX hk103
  obtain ⟨hk104,hM⟩:=cY hM
  replace hk104:=pX hk104
  obtain ⟨hk105,hM⟩:=cY hM
  replace hk105:=zf hk105
  have hp106:=(S.rc 0 rfl).cap
  have hq107:=Oq (l:=x0) (p:=x1) (q:=x2) rfl (by omega)
  refine IM (D:=[20,21,22,23,24,25,26,0]) (Lr:=(X)) (deps:=(fun |0=> [20] |1=> [21] |2=> [22] |3=> [23] |4=> [24] |5=> [25] |6=> [26] |7=> [0] |_=> [])) (rd:=(fun _=> [])) (zr:=(fun |2=> [6] |5=> [6] |_=> []))
   (φ:=fun i vs=>match i,vs with |0,[v20]=>v20= .slice A0 x0.length c0 |1,[v21]=>v21= .int .i64 x1 |2,[v22]=>v22= .slice (bV c0 ((0:Int).toNat) 2 A0) ((aj x0 0 x1).length) (c0-(0:Int).toNat) |3,[v23]=>v23= .slice A0 x0.length c0 |4,[v24]=>v24= .int .i64 x2 |5,[v25]=>v25= .slice (bV c0 x2.toNat 2 A0) ((aj x0 x2 (x0.length:Int)).length) (c0-x2.toNat) |6,[v26]=>v26= .slice A0 (((aj x0 0 x1)++(aj x0 x2 (x0.length:Int))).length) c0 |7,[v0]=>v0= .slice A0 (((aj x0 0 x1)++(aj x0 x2 (x0.length:Int))).length) c0 |_,_=>True)
   (C:=fun i vs=>match i,vs with |6,[v26]=> [.row 125 2 (.slice A0 (((aj x0 0 x1)++(aj x0 x2 (x0.length:Int))).length) c0) (((aj x0 0 x1)++(aj x0 x2 (x0.length:Int))).length) (((aj x0 0 x1)++(aj x0 x2 (x0.length:Int))).flatMap jo)] |_,_=> [])
   (κ:=(fun _=>none)) (Z:=(fun |6=> [.row 125 2 (.slice A0 x0.length c0) x0.length (x0.flatMap jo)] |_=> [])) mixed hF (by kernel_rfl) (show St w0 _ (Asn.row 125 2 (.slice A0 x0.length c0) x0.length (x0.flatMap jo)::X) from S.selT (M:=[.row 125 2 (.slice A0 x0.length c0) x0.length (x0.flatMap jo)]) 1 [0] rfl rfl rfl) ?_ ?_
  ·refine ⟨?_,?_,?_,?_,?_,?_,?_,?_,trivial⟩
   ·intro a u X' hB hu hp hr hz hl S
    replace S:St w0 u ([]++X'):=S
    exact .inl ⟨rfl,.slice A0 x0.length c0,u,(aD rfl (hF.evU (hu 7 0 rfl rfl) rfl)),rfl,S⟩
   ·intro a u X' hB hu hp hr hz hl S
    replace S:St w0 u ([]++X'):=S
    exact .inl ⟨rfl,.int .i64 x1,u,(aD rfl (hF.evB hB rfl rfl)),rfl,S⟩
   ·intro a u X' hB hu hp hr hz hl S
    replace S:St w0 u ([]++X'):=S
    have e20:sl a 20= .slice A0 x0.length c0:=hp 0 rfl
    have e21:sl a 21= .int .i64 x1:=hp 1 rfl
    exact .inl ⟨rfl,.slice (bV c0 ((0:Int).toNat) 2 A0) ((aj x0 0 x1).length) (c0-(0:Int).toNat),u,(vp (l:=x0) rfl Tryz.underlying28 IU (jW e20) (jW e21) hk103 rfl (yT (show Ow _ _ _ _ _ _ from S.mem (List.mem_append_right _ (hz 6 (List.mem_of_getElem? (i:=0) rfl) _ (List.mem_of_getElem? (i:=0) rfl))))).cap),rfl,S⟩
   ·intro a u X' hB hu hp hr hz hl S
    replace S:St w0 u ([]++X'):=S
    exact .inl ⟨rfl,.slice A0 x0.length c0,u,(aD rfl (hF.evU (hu 7 0 rfl rfl) rfl)),rfl,S⟩
   ·intro a u X' hB hu hp hr hz hl S
    replace S:St w0 u ([]++X'):=S
    exact .inl ⟨rfl,.int .i64 x2,u,(aD rfl (hF.evB hB rfl rfl)),rfl,S⟩
   ·intro a u X' hB hu hp hr hz hl S
    replace S:St w0 u ([]++X'):=S
    have e23:sl a 23= .slice A0 x0.length c0:=hp 3 rfl
    have e24:sl a 24= .int .i64 x2:=hp 4 rfl
    exact .inl ⟨rfl,.slice (bV c0 x2.toNat 2 A0) ((aj x0 x2 (x0.length:Int)).length) (c0-x2.toNat),u,(tL (l:=x0) rfl Tryz.underlying28 IU (jW e23) (jW e24) hk104 rfl (yT (show Ow _ _ _ _ _ _ from S.mem (List.mem_append_right _ (hz 6 (List.mem_of_getElem? (i:=0) rfl) _ (List.mem_of_getElem? (i:=0) rfl))))).cap),rfl,S⟩
   ·intro a u X' hB hu hp hr hz hl S
    replace S:St w0 u ([.row 125 2 (.slice A0 x0.length c0) x0.length (x0.flatMap jo)]++X'):=S
    have e22:sl a 22= .slice (bV c0 ((0:Int).toNat) 2 A0) ((aj x0 0 x1).length) (c0-(0:Int).toNat):=hp 2 rfl
    have e25:sl a 25= .slice (bV c0 x2.toNat 2 A0) ((aj x0 x2 (x0.length:Int)).length) (c0-x2.toNat):=hp 5 rfl
    obtain ⟨w',hrun,S'⟩:=S.delrow (i:=0) (P:=Tryz.prog) (ty:=28) (p:=x1) (q:=x2) rfl rfl Ey Ez Tryz.underlying28 IU (by omega) (by omega) (by omega)
    exact .inl ⟨rfl,_,w',vo rfl (jW e22) (jW e25) hrun,rfl,S'⟩
   ·intro a u X' hB hu hp hr hz hl S
    replace S:St w0 u ([]++X'):=S
    have e26:sl a 26= .slice A0 (((aj x0 0 x1)++(aj x0 x2 (x0.length:Int))).length) c0:=hp 6 rfl
    exact .inl ⟨rfl,.slice A0 (((aj x0 0 x1)++(aj x0 x2 (x0.length:Int))).length) c0,u,(aF rfl (jW e26)),rfl,S⟩
  ·intro a u hB hp S
   obtain ⟨q0,q1,q2,q3,q4,q5,q6,q7,_⟩:=hp
   have e20:sl a 20= .slice A0 x0.length c0:=q0
   have e21:sl a 21= .int .i64 x1:=q1
   have e22:sl a 22= .slice (bV c0 ((0:Int).toNat) 2 A0) ((aj x0 0 x1).length) (c0-(0:Int).toNat):=q2
   have e23:sl a 23= .slice A0 x0.length c0:=q3
   have e24:sl a 24= .int .i64 x2:=q4
   have e25:sl a 25= .slice (bV c0 x2.toNat 2 A0) ((aj x0 x2 (x0.length:Int)).length) (c0-x2.toNat):=q5
   have e26:sl a 26= .slice A0 (((aj x0 0 x1)++(aj x0 x2 (x0.length:Int))).length) c0:=q6
   have e0:sl a 0= .slice A0 (((aj x0 0 x1)++(aj x0 x2 (x0.length:Int))).length) c0:=q7
   replace S:St w0 u (Asn.row 125 2 (.slice A0 (((aj x0 0 x1)++(aj x0 x2 (x0.length:Int))).length) c0) (((aj x0 0 x1)++(aj x0 x2 (x0.length:Int))).length) (((aj x0 0 x1)++(aj x0 x2 (x0.length:Int))).flatMap jo)::X):=S
   clear q0 q1 q2 q3 q4 q5 q6 q7
   have hF:=hF.region hB [(20,.slice A0 x0.length c0),(21,.int .i64 x1),(22,.slice (bV c0 ((0:Int).toNat) 2 A0) ((aj x0 0 x1).length) (c0-(0:Int).toNat)),(23,.slice A0 x0.length c0),(24,.int .i64 x2),(25,.slice (bV c0 x2.toNat 2 A0) ((aj x0 x2 (x0.length:Int)).length) (c0-x2.toNat)),(26,.slice A0 (((aj x0 0 x1)++(aj x0 x2 (x0.length:Int))).length) c0),(0,.slice A0 (((aj x0 0 x1)++(aj x0 x2 (x0.length:Int))).length) c0)] (Du ⟨e20,e21,e22,e23,e24,e25,e26,e0,trivial⟩) rfl
   clear hB e20 e21 e22 e23 e24 e25 e26 e0
   refine wp_seq ?_
   refine wp_region_lit ?_
   refine ay (v:=.slice A0 (((aj x0 0 x1)++(aj x0 x2 (x0.length:Int))).length) c0) rfl rfl hF rfl (aD rfl (hF.ev rfl)) ?_;clear hF;intro a hF
   refine ay (v:=.slice A0 (((aj x0 0 x1)++(aj x0 x2 (x0.length:Int))).length) c0) rfl rfl hF rfl (aD rfl (hF.ev rfl)) ?_;clear hF;intro a hF
   refine ay (v:=.int .i64 ((((aj x0 0 x1)++(aj x0 x2 (x0.length:Int))).length):Int)) rfl rfl hF rfl (lE rfl rfl Tryz.underlying28 (hF.ev rfl)) ?_;clear hF;intro a hF
   refine ay (v:=.int .i64 (x0.length:Int)) rfl rfl hF rfl (aD rfl (hF.ev rfl)) ?_;clear hF;intro a hF
   refine ay (v:=.slice (bV c0 (((((aj x0 0 x1)++(aj x0 x2 (x0.length:Int))).length):Int).toNat) 2 A0) ((x0.length:Int).toNat-((((aj x0 0 x1)++(aj x0 x2 (x0.length:Int))).length):Int).toNat) (c0-((((aj x0 0 x1)++(aj x0 x2 (x0.length:Int))).length):Int).toNat)) rfl rfl hF rfl (Dh rfl Tryz.underlying28 IU (hF.ev rfl) (hF.ev rfl) (hF.ev rfl) ⟨Int.natCast_nonneg _,Int.ofNat_le.2 hq107,Int.ofNat_le.2 hp106⟩) ?_;clear hF;intro a hF
   obtain ⟨w',hrun,S'⟩:=S.clear (i:=0) (P:=Tryz.prog) (hi:=(x0.length:Int)) rfl rfl Ey Tryz.underlying28 SF rfl rfl ⟨Int.ofNat_le.2 hq107,Int.ofNat_le.2 hp106⟩
   refine EG rfl rfl rfl (hF.ev rfl) hrun ?_
   clear S hrun;have S:=S';clear S';generalize w'=u at S ⊢
   refine wpList_nil ?_
   refine wp_seq ?_
   refine wp_region_lit ?_
   refine ay (v:=.slice A0 (((aj x0 0 x1)++(aj x0 x2 (x0.length:Int))).length) c0) rfl rfl hF rfl (aD rfl (hF.ev rfl)) ?_;clear hF;intro a hF
   refine ay (v:=.slice A0 (((aj x0 0 x1)++(aj x0 x2 (x0.length:Int))).length) c0) rfl rfl hF rfl (aF rfl (hF.ev rfl)) ?_;clear hF;intro a hF
   refine wpList_nil ?_
   refine wp_ret ?_
   repeat with_reducible (first |refine eH ?_ |refine mh ?_ |refine mg ?_)
   refine iO (.inl rfl) hF rfl (hZ (hF.ev rfl)) ?_
   obtain rfl:=Option.some.inj hM
   exact ⟨A0,(((aj x0 0 x1)++(aj x0 x2 (x0.length:Int))).length),c0,rfl,rfl,S.selT (M:=[.row 125 2 (.slice A0 (((aj x0 0 x1)++(aj x0 x2 (x0.length:Int))).length) c0) (((aj x0 0 x1)++(aj x0 x2 (x0.length:Int))).length) (((aj x0 0 x1)++(aj x0 x2 (x0.length:Int))).flatMap jo)]) 1 [0] rfl rfl rfl⟩
 ·replace hM:=WG hc102 hM
  refine wt hF rfl hc102 ?_
  refine wp_seq ?_
  refine wp_region_lit ?_
  refine ay (v:=.slice A0 x0.length c0) rfl rfl hF rfl (aD rfl (hF.ev rfl)) ?_;clear hF;intro a hF
  refine ay (v:=.slice A0 x0.length c0) rfl rfl hF rfl (aF rfl (hF.ev rfl)) ?_;clear hF;intro a hF
  refine wpList_nil ?_
  refine wp_ret ?_
  repeat with_reducible (first |refine eH ?_ |refine mh ?_ |refine mg ?_)
  refine iO (.inl rfl) hF rfl (hZ (hF.ev rfl)) ?_
  obtain rfl:=Option.some.inj hM
  exact ⟨A0,x0.length,c0,rfl,rfl,S.selT (M:=[.row 125 2 (.slice A0 x0.length c0) x0.length (x0.flatMap jo)]) 1 [0] rfl rfl rfl⟩
def dg:Ctr:=⟨217,[.o (.sl .tk 125 Ae),AF,AF],[.o BW],true,fun x=>aM x.1 x.2.1 x.2.2⟩
theorem kV:bz Tryz.prog dg:=⟨aa6,fun x res hm e w0 w X _ hp hS=>(kU (w:=w) (w0:=w0) (X:=X) (A0:=e.a 0) (n0:=x.1.length) (c0:=e.c 0) rfl hS hm).mono (by
 rintro en w' ⟨B,N,D,rfl,hN,S⟩
 subst hN
 exact ⟨_,_,rfl,⟨[_],[],[],[_],[],[],rfl,rfl,⟨_,[],_,[],[_],[],rfl,rfl,rfl,⟨res,B,D,rfl,rfl,rfl⟩,rfl,rfl,rfl⟩,⟨rfl,rfl⟩,⟨[],[],[],[],rfl,rfl,⟨rfl,rfl⟩,⟨[],[],[],[],rfl,rfl,⟨rfl,rfl⟩,⟨[],[],[],[],rfl,rfl,⟨rfl,rfl⟩,⟨rfl,rfl⟩⟩⟩⟩⟩,S⟩)⟩
def yw:Ctr:=⟨183,[AI,BC],[CF,AH],false,fun x=>pp x.1 x.2.1 x.2.2.1 x.2.2.2.1 x.2.2.2.2.1 x.2.2.2.2.2⟩
theorem HD:bz Tryz.prog yw:=ck [lJ,nN,vK,bQ,dg] [.cell 4 30,.tmp 5] (.q .z (.q Af (.q .z (.q Af (.q .z (.q (.q .z (.b (.q (.q .z (.cut ⟨[AU,As,AQ,AB,Bg,(39,Ab),(40,BX)],[(7,AC),(6,AP),(4,AP),(3,AP)],[]⟩ [] Ac)) (.cut Bx [] (.q .z (.q (.q .z (.cut ⟨[AU,As,AQ,AB,Bg,(39,Ab),(51,BX)],[(7,AC),(6,AP),(4,AP),(3,AP)],[]⟩ [] Ac)) (.cut By [] (.q .z (.q .z (.cut Bz [] (.q .z (.q .z (.cut Bz [] BT))))))))))))) Ac)))))) ⟨oT,sd,EN,dj,kV,trivial⟩ aaL Tryz.func183 Tryz.ntmps183 rfl rfl rfl fun _=>by kernel_rfl
def vM:Ctr:=⟨119,[.bx 33 [Ak,.sl .mu 77 AT,.sl .mu 122 Ae,.sl .mu 4 .b,.sl .mu 4 .b,.sl .mu 125 Ae,BR],BC],BI,true,fun x=>mH x.1 x.2.1 x.2.2.1 x.2.2.2.1 x.2.2.2.2.1 x.2.2.2.2.2.1 x.2.2.2.2.2.2.1 x.2.2.2.2.2.2.2.1 x.2.2.2.2.2.2.2.2.1 x.2.2.2.2.2.2.2.2.2⟩
theorem EP:bz Tryz.prog vM:=ck [jk,nn,aZ,nm,yw,tI] [.tmp 4] (.q .z (.q .z (.q (.q .z (.b (.q .z (.q (.q Af BS) (.q .z (.q (.q Af Am) (.q .z (.cut ⟨[AX,AU,As],[(3,AP),(4096,Ai)],[]⟩ BP (.q Af .z))))))))) BS))) ⟨pA,tU,bJ,tT,HD,yq,trivial⟩ ZV Tryz.func119 Tryz.ntmps119 rfl rfl rfl fun _=>by kernel_rfl
def rI:Ctr:=⟨53,[Ad,BC],[Aj,AH],false,fun x=>lq x.1 x.2.1 x.2.2.1 x.2.2.2.1 x.2.2.2.2.1 x.2.2.2.2.2.1 x.2.2.2.2.2.2.1 x.2.2.2.2.2.2.2.1 x.2.2.2.2.2.2.2.2.1 x.2.2.2.2.2.2.2.2.2⟩
theorem wB:bz Tryz.prog rI:=ck [cG,eZ,ci,vM] [.cell 4 33,.tmp 5] (.q .z (.q Af (.q .z (.q (.q (.cut ⟨[Av,As,AQ,AB,(23,BX)],[(6,Ao),BF,(2,Ai)],[]⟩ [] .z) BT) Ac)))) ⟨dL,jn,cZ,EP,trivial⟩ ac4 Tryz.func53 Tryz.ntmps53 rfl rfl rfl fun _=>by kernel_rfl
def qL:Ctr:=⟨113,[AI],[Cr],false,fun x=>ip x.1 x.2.1 x.2.2⟩
theorem xY:bz Tryz.prog qL:=ck [] [.tmp 2] (.q .z (.q .z (.q (.q .z (.cut CN [] (.b (.lp ⟨[Av,BY,Bg,AS,CQ],[],[]⟩ AW)))) Ac))) trivial ZQ Tryz.func113 Tryz.ntmps113 rfl rfl rfl fun _=>by kernel_rfl
def vN:Ctr:=⟨115,[AF,AN,.o .b],[Cr],false,fun x=>mI x.1 x.2.1 x.2.2⟩
theorem EQ:bz Tryz.prog vN:=ck [] [.tmp 6] (.q .z (.q .z (.q (.q .z (.cut ⟨[AB,(7,Az)],[],[]⟩ [] (.b (.lp ⟨[AX,Av,AB,(7,Az),Cf,Cm,(12,Ag)],[],[]⟩ (.q .z (.q Ac (.q (.b (.q .z (.q .z (.cut ⟨[AX,Av,AB,(7,Az),Cf,Cm,BE],[],[]⟩ [] Ac)))) .z))))))) Ac))) trivial ZS Tryz.func115 Tryz.ntmps115 rfl rfl rfl fun _=>by kernel_rfl
def wU:Ctr:=⟨46,[AF,AF],[CE],false,fun x=>om x.1 x.2⟩
theorem FZ:bz Tryz.prog wU:=ck [] [.tmp 4] (.q .z (.q .z (.q (.q .z (.cut ⟨[As,(5,Cc)],[],[]⟩ [] (.b (.lp ⟨[AX,As,(5,Cc),Cf,(11,Ag)],[],[]⟩ AW)))) Ac))) trivial acX Tryz.func46 Tryz.ntmps46 rfl rfl rfl fun _=>by kernel_rfl
def rK:Ctr:=⟨169,[Ah,AN],CP,false,fun x=>lr x.1 x.2.1 x.2.2⟩
theorem wC:bz Tryz.prog rK:=ck [qb,nQ] [.tmp 4] (.q .z (.q .z (.q (.q .z (.cut ⟨[As,(5,AK)],[],[]⟩ [] (.b (.lp CJ (.q .z (.q Ac (.q (.b (.q .z (.q .z (.cut CK [] Ac)))) .z))))))) Ac))) ⟨vB,sh,trivial⟩ aaA Tryz.func169 Tryz.ntmps169 rfl rfl rfl fun _=>by kernel_rfl
def tJ:Ctr:=⟨110,Bl,[.g [AA,AA,AA,AA,AA,AA,AA,AA,AA,AA,AA,AA,AA,AA,AA,AA]],false,fun x=>mt x.1 x.2.1 x.2.2.1 x.2.2.2⟩
theorem yu:bz Tryz.prog tJ:=ck [rK,fP] [.cell 6 142] (.q .z (.q .z (.q .z (.q (.q .z (.cut ⟨[AB,Bg],[(7,Cz),(6,AO)],[]⟩ [] (.b (.lp ⟨[AB,Bg,(8,AK),(15,Ab),(16,Ab),(17,Ag)],[(7,Cz),(6,AO)],[]⟩ (.q .z (.q Ac (.q (.b BS) .z))))))) Ac)))) ⟨wC,kq,trivial⟩ ZN Tryz.func110 Tryz.ntmps110 rfl rfl rfl fun _=>by kernel_rfl
def nO:Ctr:=⟨47,Bl,CU,false,fun x=>gi x.1 x.2.1 x.2.2.1 x.2.2.2⟩
theorem sf:bz Tryz.prog nO:=ck [tJ] [.tmp 6] (.q .z (.q .z (.q (.q .z (.cut ⟨[AB,Cw],[],[]⟩ [] (.b (.lp ⟨[AB,Bg,Cw,(16,Ab),(17,Ag)],[(7,AO)],[]⟩ (.q .z (.q Ac (.q (.b (.q .z (.q .z (.cut ⟨[AB,Bg,Cw,(16,Ab),(17,Ab)],[(7,AO)],[]⟩ [] Ac)))) .z))))))) Ac))) ⟨yu,trivial⟩ acY Tryz.func47 Tryz.ntmps47 rfl rfl rfl fun _=>by kernel_rfl
def wR:Ctr:=⟨48,[AN,AN],CP,false,fun x=>oh x.1 x.2⟩
theorem FW:bz Tryz.prog wR:=ck [] [.tmp 4] (.q .z (.q Af (.q .z (.q (.q .z (.cut BM [] (.b (.lp ⟨[AX,Au,As,CR,BO,(14,Ag)],[],[]⟩ (.q .z (.q Ac (.q (.b (.q .z (.q .z (.cut ⟨[AX,Au,As,CR,BO,(14,Ab)],[],[]⟩ [] Ac)))) .z))))))) Ac)))) trivial acZ Tryz.func48 Tryz.ntmps48 rfl rfl rfl fun _=>by kernel_rfl
def te:Ctr:=⟨207,[Cg,AF],CU,false,fun x=>kF x.1 x.2.1 x.2.2.1 x.2.2.2.1 x.2.2.2.2.1 x.2.2.2.2.2⟩
theorem zt:bz Tryz.prog te:=ck [kv] [.tmp 4] Am ⟨nD,trivial⟩ aa2 Tryz.func207 Tryz.ntmps207 rfl rfl rfl fun _=>by kernel_rfl
def nP:Ctr:=⟨173,[Cg,Aq],CP,false,fun x=>gk x.1 x.2.1 x.2.2.1 x.2.2.2.1 x.2.2.2.2.1 x.2.2.2.2.2⟩
theorem sg:bz Tryz.prog nP:=ck [te] [.tmp 4] (.q .z (.q .z (.q .z (.q (.q .z (.cut ⟨[As,(5,AK)],[],[]⟩ [] (.b (.lp ⟨[Au,Av,As,(5,AK),(6,AK),BQ],[(2,Bn)],[]⟩ (.q Am (.q (.b (.q .z (.q .z (.q .z (.q .z (.cut ⟨[Au,Av,As,(5,AK),(6,AK),Bg],[(2,Bn)],[]⟩ [] BT)))))) .z)))))) Ac)))) ⟨zt,trivial⟩ aaE Tryz.func173 Tryz.ntmps173 rfl rfl rfl fun _=>by kernel_rfl
def tg:Ctr:=⟨174,[Cg,Aq,AF],CU,false,fun x=>kG x.1 x.2.1 x.2.2.1 x.2.2.2.1 x.2.2.2.2.1 x.2.2.2.2.2.1 x.2.2.2.2.2.2⟩
theorem zu:bz Tryz.prog tg:=ck [] [.tmp 6] (.q .z (.q .z (.q (.q .z (.cut ⟨[AB,BQ],[],[]⟩ [] (.b (.lp ⟨[Au,Av,AB,BQ,Cm,BE,(13,Ag)],[],[]⟩ (.q .z (.q Ac (.q (.b (.q .z (.q .z (.cut ⟨[Au,Av,AB,BQ,Cm,BE,BO],[],[]⟩ [] Ac)))) .z))))))) Ac))) trivial aaF Tryz.func174 Tryz.ntmps174 rfl rfl rfl fun _=>by kernel_rfl
def uq:Ctr:=⟨112,[Cg,Aq],BI,false,fun x=>lQ x.1 x.2.1 x.2.2.1 x.2.2.2.1 x.2.2.2.2.1 x.2.2.2.2.2⟩
theorem DD:bz Tryz.prog uq:=ck [nP,tg] [.tmp 4] (.q .z (.q (.q .z (.cut ⟨[Au,Av,As],[(2,Bn)],[]⟩ BP (.b (.lp ⟨[Au,Av,As,Cm,BE,(13,Ag)],[(2,Bn)],[]⟩ AJ)))) (.q (.q .z (.cut Bv BP (.b (.lp ⟨[Au,Av,As,(28,Ab),(29,Ab),(30,Ag)],[(2,Bn)],[]⟩ AJ)))) Ac))) ⟨sg,zu,trivial⟩ ZP Tryz.func112 Tryz.ntmps112 rfl rfl rfl fun _=>by kernel_rfl
def wS:Ctr:=⟨49,Bl,BI,false,fun x=>oi x.1 x.2.1 x.2.2.1 x.2.2.2⟩
theorem FX:bz Tryz.prog wS:=ck [po,uq] [.tmp 6] BS ⟨tD,DD,trivial⟩ ac0 Tryz.func49 Tryz.ntmps49 rfl rfl rfl fun _=>by kernel_rfl
def uh:Ctr:=⟨12,[Ah,AN,Aq,BZ],[CE,AH],false,fun x=>lN x.1 x.2.1 x.2.2.1 x.2.2.2.1 x.2.2.2.2⟩
theorem Dx:bz Tryz.prog uh:=ck [jY,ci,wU,nO,wR,wS] [.tmp 8,.tmp 9] (.q .z (.q Af (.q .z (.q (.q .z (.cut ⟨[Au,Av,As,AS,Bq,(10,Ag)],[Co],[]⟩ [] (.b (.lp ⟨[Au,Av,As,AS,Bq,(10,Ag),(25,Ab),(26,Ab),(27,Ag)],[Co],[]⟩ (.q .z (.q Ac (.q (.b (.q .z (.q .z (.cut ⟨[Au,Av,As,AS,Bq,(10,Ag),(25,Ab),(26,Ab),(27,Ab)],[Co],[]⟩ [] Ac)))) .z))))))) (.q .z (.q .z (.q (.q .z (.cut ⟨[AS,Bq,(13,.z 4 .b)],[],[]⟩ [] (.b (.lp ⟨[Au,Av,As,AS,Bq,Cf,(13,.z 4 .b),(14,Ag),(15,Ag),(42,Ab),(43,Ag)],[Co],[]⟩ (.q .z (.q Ac (.q (.cut BK [] (.b (.q .z (.q Am (.q .z (.q .z (.q Am (.q .z (.q .z (.cut BK [] Ac)))))))))) .z))))))) Ac))))))) ⟨mz,cZ,FZ,sf,FW,FX,trivial⟩ acC Tryz.func12 Tryz.ntmps12 rfl rfl rfl fun _=>by kernel_rfl
def wT:Ctr:=⟨175,[AN,AN],[BU],false,fun x=>ol x.1 x.2⟩
theorem FY:bz Tryz.prog wT:=ck [] [.tmp 4] (.q .z (.q Af (.q .z (.q (.q .z (.cut ⟨[As,(5,AM),(6,AM)],[],[]⟩ [] (.b (.lp ⟨[AX,Au,As,(5,AM),(6,AM),(19,Ab),(20,Ag)],[],[]⟩ (.q .z (.q Ac (.q (.b (.q .z (.b (.q .z (.cut ⟨[AX,Au,As,(5,AM),(6,AM),(19,Ab),(20,Ab)],[],[]⟩ [] (.q .z (.q .z (.cut ⟨[AX,Au,As,AQ,(6,AM),(19,Ab),(20,Ab)],[],[]⟩ [] Ac)))))))) .z))))))) Ac)))) trivial aaG Tryz.func175 Tryz.ntmps175 rfl rfl rfl fun _=>by kernel_rfl
def qK:Ctr:=⟨116,[Ah,AN,Aq,BZ],[BU,AH],false,fun x=>il x.1 x.2.1 x.2.2.1 x.2.2.2.1 x.2.2.2.2⟩
theorem xX:bz Tryz.prog qK:=ck [uh,wT] [.tmp 8,.tmp 9] (.q .z Bi) ⟨Dx,FY,trivial⟩ ZT Tryz.func116 Tryz.ntmps116 rfl rfl rfl fun _=>by kernel_rfl
def ui:Ctr:=⟨50,[Ad],[Cr],false,fun x=>iR x.1 x.2.1 x.2.2.1 x.2.2.2.1 x.2.2.2.2.1 x.2.2.2.2.2.1 x.2.2.2.2.2.2⟩
theorem Dy:bz Tryz.prog ui:=ck [cG,qL,ib,vN,qK] [.tmp 2] (.q .z (.q Af (.q .z (.q .z (.q (.q .z (.cut ⟨[Au,Av,BY,(4,Cc)],BH,[]⟩ [] (.b (.lp ⟨[Au,Av,BY,(4,Cc),(25,Ab),(26,Ab),(27,Ag)],BH,[]⟩ (.q .z (.q Ac (.q (.b (.q .z (.q (.q .z (.cut ⟨[Au,Av,BY,(4,Cc),AB,(25,Ab),(26,Ab),(27,Ab)],BH,[]⟩ [] BT)) (.q .z (.cut ⟨[Au,Av,BY,As,(25,Ab),(26,Ab),(27,Ab)],BH,[]⟩ [] (.b (.lp ⟨[Au,Av,BY,As,AB,(25,Ab),(26,Ab),(27,Ab),(44,Ab),(45,Ag)],BH,[]⟩ AW))))))) .z))))))) (.q .z (.q .z (.q (.q .z (.cut CN [] (.b (.lp ⟨[Av,BY,(71,Ab),(72,Ab),(73,Ag)],[],[]⟩ (.q .z (.q Ac (.q (.b (.q .z (.q .z (.q (.q .z (.cut ⟨[Av,AU,BE,(13,Ag),(71,Ab),(72,Ab),(73,Ab)],[(12,AC)],[]⟩ [] Ac)) .z)))) .z))))))) Ac)))))))) ⟨dL,xY,mo,EQ,xX,trivial⟩ ac1 Tryz.func50 Tryz.ntmps50 rfl rfl rfl fun _=>by kernel_rfl
def vL:Ctr:=⟨120,[Ad,.o (.sl .ro 86 AT)],[Aj,Bm],false,fun x=>mG x.1 x.2.1 x.2.2.1 x.2.2.2.1 x.2.2.2.2.1 x.2.2.2.2.2.1 x.2.2.2.2.2.2.1 x.2.2.2.2.2.2.2⟩
theorem EO:bz Tryz.prog vL:=ck [cG,eZ,rI] [.cell 4 33,.tmp 5] (.q .z (.q Af (.q .z (.q (.q .z (.cut ⟨[As,AQ,AB,BQ],Cu,[]⟩ [] (.b (.lp ⟨[As,AQ,AB,BQ,(18,Ab),(19,Ab),(20,Ag)],Cu,[]⟩ (.q .z (.q Ac (.q (.b (.q .z (.q .z (.q .z (.cut ⟨[As,AQ,AB,BQ,(18,Ab),(19,Ab),(20,Ab)],Cu,[]⟩ [] BT))))) .z))))))) Ac)))) ⟨dL,jn,wB,trivial⟩ ZW Tryz.func120 Tryz.ntmps120 rfl rfl rfl fun _=>by kernel_rfl
def uo:Ctr:=⟨54,[Ad],[Aj],false,fun x=>lO x.1 x.2.1 x.2.2.1 x.2.2.2.1 x.2.2.2.2.1 x.2.2.2.2.2.1 x.2.2.2.2.2.2⟩
theorem DC:bz Tryz.prog uo:=ck [ui,vL] [.cell 2 33] BS ⟨Dy,EO,trivial⟩ ac5 Tryz.func54 Tryz.ntmps54 rfl rfl rfl fun _=>by kernel_rfl
def vH:Ctr:=⟨121,[Ah,AN,Aq,AF],CU,false,fun x=>mD x.1 x.2.1 x.2.2.1 x.2.2.2.1 x.2.2.2.2⟩
theorem EJ:bz Tryz.prog vH:=ck [po,ci,nP] [.tmp 8] (.q .z Bi) ⟨tD,cZ,sg,trivial⟩ ZX Tryz.func121 Tryz.ntmps121 rfl rfl rfl fun _=>by kernel_rfl
def vQ:Ctr:=⟨124,[BZ],[BV],false,fun x=>dS x⟩
theorem ET:bz Tryz.prog vQ:=ck [ob,rQ] [.tmp 2] (.q .z (.q Af (.q .z (.q (.q .z (.cut ⟨[Av,(3,CI)],[],[]⟩ [] (.b (.lp ⟨[Av,(3,CI),BE,BO,(14,Ag)],[],[]⟩ AW)))) Ac)))) ⟨ri,wG,trivial⟩ aaa Tryz.func124 Tryz.ntmps124 rfl rfl rfl fun _=>by kernel_rfl
def sV:Ctr:=⟨185,Bl,CP,false,fun x=>kw x.1 x.2.1 x.2.2.1 x.2.2.2⟩
theorem zk:bz Tryz.prog sV:=ck [jY,rK,tJ,fP] [.tmp 6] (.q .z (.q Af (.q .z (.q .z (.q (.q .z (.cut ⟨[AB,(9,AR)],[],[]⟩ [] (.b (.lp ⟨[AB,CT,AS,(9,AR),(24,Ab),(25,Ag)],[(8,AO)],[]⟩ (.q .z (.q Ac (.q (.b (.q .z (.q .z (.cut ⟨[AB,Bg,AS,(9,AR),(24,Ab),(25,Ab)],[(8,AO)],[]⟩ [] Ac)))) .z))))))) Ac))))) ⟨mz,wC,yu,kq,trivial⟩ aaM Tryz.func185 Tryz.ntmps185 rfl rfl rfl fun _=>by kernel_rfl
def nS:Ctr:=⟨219,[BZ,AF],CU,false,fun x=>eP x.1 x.2⟩
theorem ve:bz Tryz.prog nS:=ck [] [.tmp 4] (.q .z (.q (.q .z (.cut Bv BP (.b (.lp ⟨[AX,Au,As,Bg,Cw],[],[]⟩ AJ)))) Ac)) trivial aa7 Tryz.func219 Tryz.ntmps219 rfl rfl rfl fun _=>by kernel_rfl
def md:Ctr:=⟨186,[BZ,AF],BI,false,fun x=>cV x.1 x.2⟩
theorem rZ:bz Tryz.prog md:=ck [nS] [.tmp 4] Am ⟨ve,trivial⟩ aaN Tryz.func186 Tryz.ntmps186 rfl rfl rfl fun _=>by kernel_rfl
def uk:Ctr:=⟨125,[Ad],CP,false,fun x=>eV x.1 x.2.1 x.2.2.1 x.2.2.2.1 x.2.2.2.2.1 x.2.2.2.2.2.1 x.2.2.2.2.2.2⟩
theorem DA:bz Tryz.prog uk:=ck [cG,sV,md] [.tmp 2] (.q .z (.q Af (.q .z (.q .z (.q (.q .z (.cut ⟨[Av,(4,AR)],[],[]⟩ [] (.b (.lp ⟨[Av,AU,(4,AR),(19,Ab),(20,Ab),(21,Ag)],[],[]⟩ (.q .z (.q Ac (.q (.b (.q .z (.q .z (.cut ⟨[Av,AU,(4,AR),(19,Ab),(20,Ab),(21,Ab)],[],[]⟩ [] Ac)))) .z))))))) Ac))))) ⟨dL,zk,rZ,trivial⟩ aab Tryz.func125 Tryz.ntmps125 rfl rfl rfl fun _=>by kernel_rfl
def sX:Ctr:=⟨14,Bl,CU,false,fun x=>fZ x.1 x.2.1 x.2.2.1 x.2.2.2⟩
theorem zn:bz Tryz.prog sX:=ck [jY,nO] [.tmp 6] Bi ⟨mz,sf,trivial⟩ acD Tryz.func14 Tryz.ntmps14 rfl rfl rfl fun _=>by kernel_rfl
def uj:Ctr:=⟨123,[AN],[BV],false,fun x=>iS x⟩
theorem Dz:bz Tryz.prog uj:=ck [] [.tmp 2] (.q .z (.q Af (.q .z (.q (.q .z (.cut ⟨[Av,(3,CA)],[],[]⟩ [] (.b (.lp ⟨[Av,(3,CA),BE,BO,(14,Ag)],[],[]⟩ (.q .z (.q Ac (.q (.b (.q .z (.q .z (.q .z (.cut ⟨[Av,(3,CA),BE,BO,(14,Ab)],[],[]⟩ [] Ac))))) .z))))))) Ac)))) trivial ZZ Tryz.func123 Tryz.ntmps123 rfl rfl rfl fun _=>by kernel_rfl
def qM:Ctr:=⟨55,[Ad,Bo],[BV],false,fun x=>iu x.1 x.2.1 x.2.2.1 x.2.2.2.1 x.2.2.2.2.1 x.2.2.2.2.2.1 x.2.2.2.2.2.2.1 x.2.2.2.2.2.2.2⟩
theorem xZ:bz Tryz.prog qM:=ck [tc,ci,vH,ob,rQ,uj,sX,uk,vQ,rH] [.tmp 4] (.q .z (.q (.q .z (.q (.q .z (.q (.b Bh) Ac)) .z)) (.q (.q .z (.b Bw)) Ac))) ⟨se,cZ,EJ,ri,wG,Dz,zn,DA,ET,wA,trivial⟩ ac6 Tryz.func55 Tryz.ntmps55 rfl rfl rfl fun _=>by kernel_rfl
def um:Ctr:=⟨16,[Ad,Ck],[Aj,BV],false,fun x=>iT x.1 x.2.1 x.2.2.1 x.2.2.2.1 x.2.2.2.2.1 x.2.2.2.2.2.1 x.2.2.2.2.2.2.1 x.2.2.2.2.2.2.2⟩
theorem DB:bz Tryz.prog um:=ck [cG,wa,vR,rI,uo,eZ,qM] [.cell 4 33,.tmp 5] (.q .z (.q Af (.q .z (.q (.q .z (.q .z (.q Bi .z))) CC)))) ⟨dL,Fd,EU,wB,DC,jn,xZ,trivial⟩ acE Tryz.func16 Tryz.ntmps16 rfl rfl rfl fun _=>by kernel_rfl
def zO:Ctr:=⟨56,[Ck,.o (.int .u8)],[Ch],false,fun x=>qV x.1 x.2⟩
theorem Jj:bz Tryz.prog zO:=ck [] [.tmp 4] (.q .z (.q .z (.q .z (.q (.q .z (.cut ⟨[AX,As,(5,BJ),(6,Ag)],[],[]⟩ [] (.b (.lp ⟨[AX,Au,As,(5,BJ),(6,Ag),BQ],[],[]⟩ (.q Am (.q (.b (.q .z (.cut ⟨[AX,Au,As,(5,BJ),(6,Ag),Bg],[],[]⟩ [] BT))) .z)))))) Ac)))) trivial ac7 Tryz.func56 Tryz.ntmps56 rfl rfl rfl fun _=>by kernel_rfl
def yz:Ctr:=⟨126,[Ck],CU,false,fun x=>mw x⟩
theorem HH:bz Tryz.prog yz:=ck [bG] [.tmp 2] (.q .z (.q Af (.q .z (.q (.q .z (.cut ⟨[Av,(3,Ag)],[],[]⟩ BP (.b (.lp ⟨[AX,Av,(3,Ag),(4,Ag)],[],[]⟩ (.q Am (.q (.b (.q Af .z)) .z)))))) Ac)))) ⟨bK,trivial⟩ aac Tryz.func126 Tryz.ntmps126 rfl rfl rfl fun _=>by kernel_rfl
def tt:Ctr:=⟨57,[Bo],[AL,AH],false,fun x=>kQ x⟩
theorem zC:bz Tryz.prog tt:=ck [yz] [.tmp 2,.tmp 3] (.q .z (.q .z (.q .z (.q (.q .z (.cut ⟨[Av,AU,(4,AR),(5,BX)],[],[]⟩ [] (.b (.lp ⟨[AX,Av,AU,(4,AR),(5,BX),(6,Ag)],[],[]⟩ Cy)))) Ac)))) ⟨HH,trivial⟩ ac8 Tryz.func57 Tryz.ntmps57 rfl rfl rfl fun _=>by kernel_rfl
def xf:Ctr:=⟨58,[Ck],[Bm,Bm],false,fun x=>oC x⟩
theorem Gi:bz Tryz.prog xf:=ck [] [.tmp 2,.tmp 3] (.q .z (.q (.q .z (.b (.q .z (.q Ac (.q .z (.q Ac (.q .z (.q Ac Bw)))))))) Ac)) trivial ac9 Tryz.func58 Tryz.ntmps58 rfl rfl rfl fun _=>by kernel_rfl
def wX:Ctr:=⟨135,[Ah],[BV],false,fun x=>ow x.1 x.2⟩
theorem Gc:bz Tryz.prog wX:=ck [jZ,fM] [.tmp 2] (.q .z (.q Af (.q .z (.q (.q .z (.cut Cq [] (.b (.lp ⟨[Au,Av,(3,.o .s),(4,Ag)],[(1,AC)],[]⟩ Cy)))) Ac)))) ⟨mA,jV,trivial⟩ aal Tryz.func135 Tryz.ntmps135 rfl rfl rfl fun _=>by kernel_rfl
def xg:Ctr:=⟨133,[BZ],[BV],false,fun x=>lC x⟩
theorem Gj:bz Tryz.prog xg:=ck [fM] [.tmp 2] (.q .z (.q .z (.q (.q .z (.cut Cq [] (.b (.lp CO (.q Am (.q (.b (.q Cj .z)) .z)))))) CC))) ⟨jV,trivial⟩ aaj Tryz.func133 Tryz.ntmps133 rfl rfl rfl fun _=>by kernel_rfl
def nU:Ctr:=⟨191,[Ah,AN,Aq,AF],CU,false,fun x=>gF x.1 x.2.1 x.2.2.1 x.2.2.2.1 x.2.2.2.2⟩
theorem sk:bz Tryz.prog nU:=ck [li,bG,nW] [.tmp 8] Bb ⟨nk,bK,rf,trivial⟩ aaS Tryz.func191 Tryz.ntmps191 rfl rfl rfl fun _=>by kernel_rfl
def tm:Ctr:=⟨193,Bl,CP,false,fun x=>kK x.1 x.2.1 x.2.2.1 x.2.2.2⟩
theorem zy:bz Tryz.prog tm:=ck [li,nU] [.tmp 6] (.q .z (.q .z (.q (.q .z (.cut Cd [] Bj)) Ac))) ⟨nk,sk,trivial⟩ aaU Tryz.func193 Tryz.ntmps193 rfl rfl rfl fun _=>by kernel_rfl
def uC:Ctr:=⟨134,[Ad],CP,false,fun x=>jc x.1 x.2.1 x.2.2.1 x.2.2.2.1 x.2.2.2.2.1 x.2.2.2.2.2.1 x.2.2.2.2.2.2⟩
theorem DM:bz Tryz.prog uC:=ck [bZ,tm,lL] [.tmp 2] (.q .z (.q .z (.q Af (.q .z (.q (.q .z (.cut ⟨[Av,(3,AR)],[],[]⟩ [] (.b (.lp ⟨[Au,Av,(3,AR),As,(5,Ag)],BH,[]⟩ (.q Am (.q (.b (.q .z (.cut ⟨[Au,Av,(3,AR),As,AQ],BH,[]⟩ [] Ac))) .z)))))) Ac))))) ⟨cF,zy,nF,trivial⟩ aak Tryz.func134 Tryz.ntmps134 rfl rfl rfl fun _=>by kernel_rfl
def nV:Ctr:=⟨192,[Ah,AN,Aq,AF],CU,false,fun x=>gG x.1 x.2.1 x.2.2.1 x.2.2.2.1 x.2.2.2.2⟩
theorem sn:bz Tryz.prog nV:=ck [li,bG,nW] [.tmp 8] Bb ⟨nk,bK,rf,trivial⟩ aaT Tryz.func192 Tryz.ntmps192 rfl rfl rfl fun _=>by kernel_rfl
def nY:Ctr:=⟨132,Bl,CU,false,fun x=>cN x.1 x.2.1 x.2.2.1 x.2.2.2⟩
theorem sq:bz Tryz.prog nY:=ck [li,nU,nV] [.tmp 6] (.q .z (.q Af (.q .z (.q (.q .z (.cut ⟨[AB,BQ],[],[]⟩ [] (.b (.lp ⟨[Au,Av,AU,AB,BQ,Cw],Bd,[]⟩ (.q Am (.q (.b (.q .z (.cut ⟨[Au,Av,AU,AB,BQ,AS],Bd,[]⟩ [] Ac))) .z)))))) Ac)))) ⟨nk,sk,sn,trivial⟩ aai Tryz.func132 Tryz.ntmps132 rfl rfl rfl fun _=>by kernel_rfl
def uB:Ctr:=⟨131,[AN],[BV],false,fun x=>lT x⟩
theorem DL:bz Tryz.prog uB:=ck [] [.tmp 2] (.q .z (.q .z (.q (.q .z (.cut Cq [] (.b (.lp CO (.q Am (.q (.b Cj) .z)))))) Ac))) trivial aah Tryz.func131 Tryz.ntmps131 rfl rfl rfl fun _=>by kernel_rfl
def yA:Ctr:=⟨63,[Ad,Ck],[BV],false,fun x=>pu x.1 x.2.1 x.2.2.1 x.2.2.2.1 x.2.2.2.2.1 x.2.2.2.2.2.1 x.2.2.2.2.2.2.1 x.2.2.2.2.2.2.2⟩
theorem HI:bz Tryz.prog yA:=ck [uB,nY,fM,uC,xg,wX] [.tmp 4] (.q .z (.q (.q .z (.b Bw)) Ac)) ⟨DL,sq,jV,DM,Gj,Gc,trivial⟩ ade Tryz.func63 Tryz.ntmps63 rfl rfl rfl fun _=>by kernel_rfl
def uH:Ctr:=⟨188,Bl,CP,false,fun x=>lY x.1 x.2.1 x.2.2.1 x.2.2.2⟩
theorem DS:bz Tryz.prog uH:=ck [] [.tmp 6] (.q .z (.q .z (.q (.q .z (.cut ⟨[Au,AU,AB,(7,AR)],Bd,[]⟩ [] Bj)) (.q (.q .z (.cut ⟨[AB,CT],[],[]⟩ [] (.b (.lp ⟨[Au,AU,AB,CT,CQ],Bd,[]⟩ (.q Am (.q (.b (.q .z (.cut ⟨[Au,AU,AB,CT,Bq],Bd,[]⟩ [] (.b (.lp ⟨[Au,AU,AB,CT,Bq,(10,Ag)],Bd,[]⟩ (.q Am (.q (.b (.q .z (.q (.q .z (.cut ⟨[Au,AU,AB,CT,Bq,Cf,Cm],[(11,AP),(3,AC)],[]⟩ [] Ac)) (.q .z (.cut ⟨[Au,AU,AB,CT,Bq,Cf],Bd,[]⟩ [] Ac))))) .z))))))) .z)))))) Ac)))) trivial aaP Tryz.func188 Tryz.ntmps188 rfl rfl rfl fun _=>by kernel_rfl
def vW:Ctr:=⟨222,[Ah,AF,AF],CU,false,fun x=>mP x.1 x.2.1 x.2.2.1 x.2.2.2⟩
theorem EZ:bz Tryz.prog vW:=ck [jZ,bG] [.tmp 6] (.q .z (.q Af (.q .z (.q Af CC)))) ⟨mA,bK,trivial⟩ aba Tryz.func222 Tryz.ntmps222 rfl rfl rfl fun _=>by kernel_rfl
def zP:Ctr:=⟨189,[Ah,BZ,AF],CP,false,fun x=>qW x.1 x.2.1 x.2.2.1 x.2.2.2⟩
theorem Jk:bz Tryz.prog zP:=ck [vW] [.tmp 6] (.q .z (.q .z (.q (.cut Cd [] (.b (.lp ⟨[Au,(2,Ag),AU,AB,(7,AR)],Bd,[]⟩ (.q Am (.b Ac))))) Ac))) ⟨EZ,trivial⟩ aaQ Tryz.func189 Tryz.ntmps189 rfl rfl rfl fun _=>by kernel_rfl
def rP:Ctr:=⟨129,Bl,CP,false,fun x=>lD x.1 x.2.1 x.2.2.1 x.2.2.2⟩
theorem wF:bz Tryz.prog rP:=ck [uH,zP] [.tmp 6] (.q .z (.q .z (.q .z (.q (.q .z (.cut ⟨[AB,CT],[],[]⟩ [] (.b (.lp ⟨[Av,AU,AB,CT,AS,CQ],Bd,[]⟩ (.q Am (.q (.b (.q .z (.q .z (.cut ⟨[Av,AU,AB,CT,AS,Bq],Bd,[]⟩ [] (.b (.lp ⟨[Av,AU,AB,CT,AS,Bq,Cf,(11,Ag)],Bd,[]⟩ Bt)))))) .z)))))) Ac)))) ⟨DS,Jk,trivial⟩ aaf Tryz.func129 Tryz.ntmps129 rfl rfl rfl fun _=>by kernel_rfl
def vV:Ctr:=⟨60,[Ah,AN,Aq,AF],CU,false,fun x=>mO x.1 x.2.1 x.2.2.1 x.2.2.2.1 x.2.2.2.2⟩
theorem EY:bz Tryz.prog vV:=ck [mr,bG,rP] [.tmp 8] Bi ⟨pi,bK,wF,trivial⟩ adb Tryz.func60 Tryz.ntmps60 rfl rfl rfl fun _=>by kernel_rfl
def wZ:Ctr:=⟨236,[AF,AF],[CE,AH],false,fun x=>oy x.1 x.2⟩
theorem Ge:bz Tryz.prog wZ:=ck [bG] [.tmp 4,.tmp 5] (.q .z (.q .z (.q Af (.q (.q .z (.cut ⟨[As,AQ,(6,Cb)],[],[]⟩ [] (.b (.lp ⟨[(0,Ag),Au,As,AQ,(6,Cb),BQ],[],[]⟩ Cy)))) Ac)))) ⟨bK,trivial⟩ abd Tryz.func236 Tryz.ntmps236 rfl rfl rfl fun _=>by kernel_rfl
def yC:Ctr:=⟨251,Bl,CP,false,fun x=>px x.1 x.2.1 x.2.2.1 x.2.2.2⟩
theorem HK:bz Tryz.prog yC:=ck [rP] [.tmp 6] (.q .z (.q .z (.q .z (.q (.q .z (.cut Cd [] (.b (.lp ⟨[Au,AU,AB,(7,AR),AS,CQ],Bd,[]⟩ (.q Am (.q (.b (.q .z (.cut ⟨[Au,AU,AB,(7,AR),AS,Bq],Bd,[]⟩ [] Ac))) .z)))))) Ac)))) ⟨wF,trivial⟩ abi Tryz.func251 Tryz.ntmps251 rfl rfl rfl fun _=>by kernel_rfl
def yB:Ctr:=⟨248,Bl,BI,false,fun x=>pw x.1 x.2.1 x.2.2.1 x.2.2.2⟩
theorem HJ:bz Tryz.prog yB:=ck [nV,yC] [.tmp 6] (.q .z (.q (.q .z (.cut ⟨[Au,Av,AU,AB],Bd,[]⟩ BP (.b (.lp ⟨[Au,Av,AU,AB,BQ],Bd,[]⟩ AY)))) Ac)) ⟨sn,HK,trivial⟩ abh Tryz.func248 Tryz.ntmps248 rfl rfl rfl fun _=>by kernel_rfl
def wW:Ctr:=⟨237,Bl,BI,false,fun x=>ov x.1 x.2.1 x.2.2.1 x.2.2.2⟩
theorem Gb:bz Tryz.prog wW:=ck [mr,yB] [.tmp 6] Am ⟨pi,HJ,trivial⟩ abe Tryz.func237 Tryz.ntmps237 rfl rfl rfl fun _=>by kernel_rfl
def rN:Ctr:=⟨239,[AN,AN],CP,false,fun x=>iX x.1 x.2⟩
theorem wD:bz Tryz.prog rN:=ck [] [.tmp 4] (.q .z (.q .z (.q (.q .z (.cut BM [] (.b (.lp ⟨[AX,Au,As,CR,(6,Ag)],[],[]⟩ (.q Am (.q (.b (.q .z (.cut ⟨[AX,Au,As,CR,AB],[],[]⟩ [] Ac))) .z)))))) Ac))) trivial abg Tryz.func239 Tryz.ntmps239 rfl rfl rfl fun _=>by kernel_rfl
def uF:Ctr:=⟨238,[AF,AF,AF,AF],BI,false,fun x=>oY x.1 x.2.1 x.2.2.1 x.2.2.2⟩
theorem DP:bz Tryz.prog uF:=ck [] [.tmp 8] Am trivial abf Tryz.func238 Tryz.ntmps238 rfl rfl rfl fun _=>by kernel_rfl
def uz:Ctr:=⟨220,[Ah,AN,Aq,BZ],[CE,AH],false,fun x=>lS x.1 x.2.1 x.2.2.1 x.2.2.2.1 x.2.2.2.2⟩
theorem DJ:bz Tryz.prog uz:=ck [li,wZ,bG,wW,nY,rN,uF] [.tmp 8,.tmp 9] (.q .z (.q .z (.q Af (.q .z (.q .z (.q (.q .z (.cut ⟨[AS,Bq,(10,Cb),(11,Ag)],[],[]⟩ [] (.b (.lp ⟨[Au,Av,AU,As,AS,Bq,(10,Cb),(11,Ag),(12,Ag),(13,Ag)],[Co],[]⟩ (.q Am (.q (.b (.q .z (.q .z (.q (.q .z (.cut ⟨[Au,Av,AU,As,AS,Bq,Cf,Cm,BE,BO,(14,Ab),(16,BX)],[Co],[]⟩ [] (.b (.lp ⟨[Au,Av,AU,As,AS,Bq,Cf,Cm,BE,BO,(14,Ab),(16,BX),(17,Ag)],[Co],[]⟩ Bt)))) (.q (.cut ⟨[Au,Av,AU,As,AS,Bq,Cf,Cm,BE,BO,(14,Ab),(86,BX)],[Co],[]⟩ [] .z) (.cut ⟨[Au,Av,AU,As,AS,Bq,(10,Cb),(11,Ag),(12,Ag),BO],[Co],[]⟩ [] (.q Am .z))))))) .z)))))) Ac)))))) ⟨nk,Ge,bK,Gb,sq,wD,DP,trivial⟩ aa8 Tryz.func220 Tryz.ntmps220 rfl rfl rfl fun _=>by kernel_rfl
def wY:Ctr:=⟨221,[AN,AN],[BU],false,fun x=>ox x.1 x.2⟩
theorem Gd:bz Tryz.prog wY:=ck [rN] [.tmp 4] (.q .z (.q .z (.q .z (.q Af (.q (.q .z (.cut ⟨[Au,As,(5,AM),AB],[],[]⟩ [] (.b (.lp ⟨[AX,Au,As,(5,AM),AB,BQ],[],[]⟩ (.q Am (.q (.b (.q .z (.cut ⟨[AX,Au,As,(5,AM),AB,Bg],[],[]⟩ [] Ac))) .z)))))) (.q (.q .z (.cut ⟨[As,(5,AM)],[],[]⟩ [] (.b (.lp ⟨[Au,As,(5,AM),AB,Cw],[],[]⟩ (.q Am (.q (.b (.q .z (.cut ⟨[Au,As,(5,AM),AB,AS],[],[]⟩ [] Ac))) .z)))))) Ac)))))) ⟨wD,trivial⟩ aa9 Tryz.func221 Tryz.ntmps221 rfl rfl rfl fun _=>by kernel_rfl
def qN:Ctr:=⟨187,[Ah,AN,Aq,BZ],[BU,AH],false,fun x=>iI x.1 x.2.1 x.2.2.1 x.2.2.2.1 x.2.2.2.2⟩
theorem yb:bz Tryz.prog qN:=ck [uz,wY] [.tmp 8,.tmp 9] (.q .z Bi) ⟨DJ,Gd,trivial⟩ aaO Tryz.func187 Tryz.ntmps187 rfl rfl rfl fun _=>by kernel_rfl
def uA:Ctr:=⟨128,[Ad],[Cr],false,fun x=>iY x.1 x.2.1 x.2.2.1 x.2.2.2.1 x.2.2.2.2.1 x.2.2.2.2.2.1 x.2.2.2.2.2.2⟩
theorem DK:bz Tryz.prog uA:=ck [bZ,lL,qN] [.tmp 2] (.q .z (.q .z (.q Af (.q (.q .z (.cut CG [] (.b (.lp ⟨[Au,Av,BY,(4,Ag)],BH,[]⟩ Bt)))) (.q (.q .z (.cut CG [] (.b (.lp ⟨[Au,Av,BY,(5,Ag)],BH,[]⟩ (.q Am (.q (.b (.q (.q .z (.cut ⟨[Au,Av,BY,AQ],BH,[]⟩ [] Ac)) .z)) .z)))))) (.q (.q .z (.cut CG [] (.b (.lp ⟨[Au,Av,BY,(6,Ag)],BH,[]⟩ (.q Am (.q (.b (.q .z (.cut ⟨[Au,Av,BY,AB],BH,[]⟩ [] Ac))) .z)))))) (.q .z (.q (.q .z (.cut CN [] (.b (.lp ⟨[Av,BY,Bg,CQ],[],[]⟩ (.q Am (.q (.b (.q .z (.cut ⟨[Av,BY,Bg,Bq],[],[]⟩ [] Ac))) .z)))))) Ac)))))))) ⟨cF,nF,yb,trivial⟩ aae Tryz.func128 Tryz.ntmps128 rfl rfl rfl fun _=>by kernel_rfl
def vX:Ctr:=⟨127,[Ad,.o (.sl .ro 86 AT)],[Aj,Bm],false,fun x=>mQ x.1 x.2.1 x.2.2.1 x.2.2.2.1 x.2.2.2.2.1 x.2.2.2.2.2.1 x.2.2.2.2.2.2.1 x.2.2.2.2.2.2.2⟩
theorem Fa:bz Tryz.prog vX:=ck [bZ,fb,nZ] [.cell 4 33,.tmp 5] (.q .z (.q Af (.q .z (.q .z (.q (.q .z (.cut ⟨[As,AQ,AB,BQ],Cu,[]⟩ [] (.b (.lp ⟨[Au,As,AQ,AB,BQ,Cw],Cu,[]⟩ (.q Am (.q (.b (.q .z (.q .z (.cut ⟨[Au,As,AQ,AB,BQ,AS],Cu,[]⟩ [] BT)))) .z)))))) Ac))))) ⟨cF,iP,rg,trivial⟩ aad Tryz.func127 Tryz.ntmps127 rfl rfl rfl fun _=>by kernel_rfl
def uE:Ctr:=⟨59,[Ad],[Aj],false,fun x=>lU x.1 x.2.1 x.2.2.1 x.2.2.2.1 x.2.2.2.2.1 x.2.2.2.2.2.1 x.2.2.2.2.2.2⟩
theorem DO:bz Tryz.prog uE:=ck [uA,vX] [.cell 2 33] BS ⟨DK,Fa,trivial⟩ ada Tryz.func59 Tryz.ntmps59 rfl rfl rfl fun _=>by kernel_rfl
def uD:Ctr:=⟨17,[Ad,Ck],[Aj,BV],false,fun x=>je x.1 x.2.1 x.2.2.1 x.2.2.2.1 x.2.2.2.2.1 x.2.2.2.2.2.1 x.2.2.2.2.2.2.1 x.2.2.2.2.2.2.2⟩
theorem DN:bz Tryz.prog uD:=ck [bZ,zO,tt,xf,uE,vV,fb,fM,yA,nZ] [.cell 4 33,.tmp 5] (.q .z (.q Af (.q .z (.q .z (.q .z (.q (.b (.q .z (.q Ac (.q .z (.q Bi Bh))))) (.q .z (.q (.q .z (.cut ⟨[Av,As,AQ,BE],[(12,[.k,.k,AD]),BF,(2,Ai)],[]⟩ [] Ac)) Bi)))))))) ⟨cF,Jj,zC,Gi,DO,EY,iP,jV,HI,rg,trivial⟩ acF Tryz.func17 Tryz.ntmps17 rfl rfl rfl fun _=>by kernel_rfl
def wV:Ctr:=⟨65,[Ah,Ah],BI,false,fun x=>oo x.1 x.2.1 x.2.2.1 x.2.2.2⟩
theorem Ga:bz Tryz.prog wV:=ck [] [.tmp 4] (.q .z (.q Af (.q (.q .z (.cut Bv BP (.b (.lp ⟨[Av,AU,As,(5,Ag)],[(3,AC),(2,AC)],[]⟩ AY)))) Ac))) trivial adg Tryz.func65 Tryz.ntmps65 rfl rfl rfl fun _=>by kernel_rfl
def uu:Ctr:=⟨66,[Aq,Aq],BI,false,fun x=>lR x.1 x.2⟩
theorem DF:bz Tryz.prog uu:=ck [] [.tmp 4] Ca trivial adh Tryz.func66 Tryz.ntmps66 rfl rfl rfl fun _=>by kernel_rfl
def ut:Ctr:=⟨141,[AN,AN],BI,false,fun x=>iW x.1 x.2⟩
theorem DE:bz Tryz.prog ut:=ck [] [.tmp 4] Ca trivial aar Tryz.func141 Tryz.ntmps141 rfl rfl rfl fun _=>by kernel_rfl
def rL:Ctr:=⟨142,[.o Bu,.o Bu],BI,false,fun x=>jD x.1 x.2⟩
theorem yJ:bz Tryz.prog rL:=ck [] [.tmp 4] Ca trivial aas Tryz.func142 Tryz.ntmps142 rfl rfl rfl fun _=>by kernel_rfl
def vT:Ctr:=⟨67,[AI,AI],BI,false,fun x=>mM x.1 x.2.1 x.2.2.1 x.2.2.2.1 x.2.2.2.2.1 x.2.2.2.2.2⟩
theorem EW:bz Tryz.prog vT:=ck [ut,rL] [.tmp 4] Am ⟨DE,yJ,trivial⟩ adi Tryz.func67 Tryz.ntmps67 rfl rfl rfl fun _=>by kernel_rfl
def vS:Ctr:=⟨68,[BZ,BZ],BI,false,fun x=>mL x.1 x.2⟩
theorem EV:bz Tryz.prog vS:=ck [] [.tmp 4] Ca trivial adj Tryz.func68 Tryz.ntmps68 rfl rfl rfl fun _=>by kernel_rfl
def ux:Ctr:=⟨18,[Ad,Ad],BI,false,fun x=>eX x.1 x.2.1 x.2.2.1 x.2.2.2.1 x.2.2.2.2.1 x.2.2.2.2.2.1 x.2.2.2.2.2.2.1 x.2.2.2.2.2.2.2.1 x.2.2.2.2.2.2.2.2.1 x.2.2.2.2.2.2.2.2.2.1 x.2.2.2.2.2.2.2.2.2.2.1 x.2.2.2.2.2.2.2.2.2.2.2.1 x.2.2.2.2.2.2.2.2.2.2.2.2.1 x.2.2.2.2.2.2.2.2.2.2.2.2.2⟩
theorem DH:bz Tryz.prog ux:=ck [wV,uu,vT,vS] [.tmp 4] Am ⟨Ga,DF,EW,EV,trivial⟩ acG Tryz.func18 Tryz.ntmps18 rfl rfl rfl fun _=>by kernel_rfl
def vI:Ctr:=⟨41,[Ah,AF,AF],CU,false,fun x=>qd x.1 x.2.1 x.2.2.1 x.2.2.2⟩
theorem EL:bz Tryz.prog vI:=ck [mB,ci,kv] [.tmp 6] Bi ⟨my,cZ,nD,trivial⟩ acS Tryz.func41 Tryz.ntmps41 rfl rfl rfl fun _=>by kernel_rfl
def zN:Ctr:=⟨10,[],BI,false,fun x=>qU⟩
theorem Ji:bz Tryz.prog zN:=ck [vI,rH] [.tmp 0] Am ⟨EL,wA,trivial⟩ acA Tryz.func10 Tryz.ntmps10 rfl rfl rfl fun _=>by kernel_rfl
def oO:Ctr:=⟨8,[.o CB],[Aj,Ch],false,fun x=>cX x⟩
theorem wj:bz Tryz.prog oO:=ck [vY,cH,xc,lM] [.cell 2 33,.tmp 3] (.q .z (.q .z (.q .z (.q .z (.q (.q .z (.cut ⟨[Av,AU,As,AQ,(6,BJ)],[(4,[.k,AD]),(5,Ai),(2,Ai)],[]⟩ [] (.b (.lp ⟨[Av,AU,As,AQ,(6,BJ),BQ],[(4,[.k,AD]),(5,Ai),(2,Ai)],[]⟩ Bt)))) (.q (.q .z (.cut ⟨[Av,AU,AQ,(6,BJ)],[(5,Ai),(2,Ai)],[]⟩ [] Ac)) Ac)))))) ⟨Fb,dM,Gf,oV,trivial⟩ co8 Tryz.func8 Tryz.ntmps8 rfl rfl rfl fun _=>by kernel_rfl
def sZ:Ctr:=⟨11,[Ad,Bo],[Aj,Ch],false,fun x=>cJ x.1 x.2.1 x.2.2.1 x.2.2.2.1 x.2.2.2.2.1 x.2.2.2.2.2.1 x.2.2.2.2.2.2.1 x.2.2.2.2.2.2.2⟩
theorem zp:bz Tryz.prog sZ:=ck [cG,eZ,um] [.cell 4 33,.tmp 5] (.q .z (.q Af (.q .z (.q .z (.q (.q .z (.cut ⟨[As,AQ,AB,(7,CI)],Cu,[]⟩ [] (.b (.lp ⟨[As,AQ,AB,(7,CI),(24,Ab),(25,Ab),(26,Ag)],Cu,[]⟩ AW)))) Ac))))) ⟨dL,jn,DB,trivial⟩ acB Tryz.func11 Tryz.ntmps11 rfl rfl rfl fun _=>by kernel_rfl
def tq:Ctr:=⟨20,[Ad,Bo],[Aj,Ch],false,fun x=>kP x.1 x.2.1 x.2.2.1 x.2.2.2.1 x.2.2.2.2.1 x.2.2.2.2.2.1 x.2.2.2.2.2.2.1 x.2.2.2.2.2.2.2⟩
theorem zB:bz Tryz.prog tq:=ck [bZ,fb,uD] [.cell 4 33,.tmp 5] (.q .z (.q .z (.q Af (.q .z (.q (.q .z (.cut ⟨[As,AQ,(6,BJ),Bg],[(7,Ao),BF],[]⟩ [] (.b (.lp ⟨[Au,As,AQ,(6,BJ),Bg,Cw],[(7,Ao),BF],[]⟩ (.q Am (.q (.b Am) .z)))))) Ac))))) ⟨cF,iP,DN,trivial⟩ acI Tryz.func20 Tryz.ntmps20 rfl rfl rfl fun _=>by kernel_rfl
def uw:Ctr:=⟨21,[Bo,Bo],BI,false,fun x=>eW x.1 x.2⟩
theorem DG:bz Tryz.prog uw:=ck [] [.tmp 4] Ca trivial acJ Tryz.func21 Tryz.ntmps21 rfl rfl rfl fun _=>by kernel_rfl
def yi:Ctr:=⟨5,[.o CB],BI,false,fun x=>iD x⟩
theorem ya:bz Tryz.prog yi:=ck [oO,sZ,tq,ux,uw,bZ,zN] [.tmp 2] (.q .z (.q Af (.q .z (.q .z (.q .z (.q Af (.q Af (.q .z (.q .z (.q .z (.q (.q .z (.cut ⟨[Av,As,AQ,AB,Cm,BE,BO],[(12,Ai),(5,Ai)],[]⟩ BP (.b (.lp ⟨[Av,As,AQ,AB,Cm,BE,BO,(14,Ag)],[(12,Ai),(5,Ai)],[]⟩ AY)))) (.q (.cut ⟨[(2,BX)],[],[]⟩ [] .z) .z)))))))))))) ⟨wj,zp,zB,DH,DG,cF,Ji,trivial⟩ ⟨by kernel_rfl⟩ Tryz.func5 Tryz.ntmps5 rfl rfl rfl fun _=>by kernel_rfl
theorem xW {x0:List Int} {A0:Option Addr} {n0 c0:Nat} {w:World} (hbs:Bs w) {r:Bool} (h0:Rt w 1 eU A0 n0 c0 x0) (hM:iD x0=some r):
 Calls Tryz.prog 5 #[.slice A0 n0 c0] w (fun e w'=>e= .returned (.bool r)∧St w w' []):=by
 obtain rfl:=h0.len
 exact WR ya (x:=x0) hM (e:=YK [(A0,c0)]) hbs ⟨_,_,rfl,⟨_,rfl,fun _ _ S _=>S.rc0 h0.rc⟩,rfl⟩ rfl rfl rfl
end
end Go.Proofs.YtjdlgannencchaaGreatDoor
namespace Go.Proofs.YtjdlgannencchaaGreatDoor
open Go.Lib
set_option linter.unusedVariables false
set_option linter.unusedSimpArgs false
def tl (s:ByteArray):List UInt8:=s.data.toList
theorem vy (s:ByteArray):(tl s).length=s.size:=by simp [tl]
theorem xG (l:List UInt8):tl (ba l)=l:=kY l
theorem PN (s:ByteArray):s.toList=tl s:=ByteArray.toList_eq s
theorem Ij (s:ByteArray) (k:Nat):kZ s (k:Int)=(((tl s).getD k 0).toNat:Int):=rfl
theorem Iq (c:UInt8):dv c≤207:=by have:=c.toNat_lt;unfold dv;omega
theorem Wy (l:List UInt8) (h:l.length≤3):pf l≤100000:=by
 match l,h with
 | [],_=>simp [pf]
 | [a],_=>have:=Iq a;simp [pf];omega
 | [a,b],_=>have:=Iq a;have:=Iq b;simp [pf];omega
 | [a,b,c],_=>have:=Iq a;have:=Iq b;have:=Iq c;simp [pf];omega
theorem QY (l:List UInt8) {k:Nat} (h:k<l.length):pf (l.take (k+1))=10*pf (l.take k)+dv (l.getD k 0):=by
 unfold pf
 rw [List.take_succ_eq_append_getElem h,List.foldl_append,ai h];rfl
theorem RI (c:UInt8):(av (c.toNat:Int) 48 ||av 57 (c.toNat:Int))= !nL c:=by
 unfold av nL
 by_cases h1:48≤c.toNat<;>by_cases h2:c.toNat≤57<;>simp [h1,h2]<;>omega
theorem KU (s:ByteArray) (h:s.size≤3):cm s aq (0,0)=some (if (tl s).all nL=true then .inl (pf (tl s):Int) else .inr (-1)):=by
 have hl:=vy s
 have hh:=cc (cm s) (fun k=>((pf ((tl s).take k):Int),(k:Int))) s.size (fun k=> !nL ((tl s).getD k 0)) (some (.inr (-1))) (some (.inl (pf (tl s):Int))) (by omega) (fun k fuel hk=>by
  have hk2:k<(tl s).length:=by omega
  have hv:=Wy ((tl s).take k) (by simp;omega)
  rw [rq,iw]
  simp only [az hk,ah hk,Ij,RI,Bool.or_true,aa,cond_true,af (by omega:k<4611686018427387904)]
  cases hd:nL ((tl s).getD k 0) with
  |false=>rfl
  |true=>
   have hr:=zM hd
   have hdv:(((tl s).getD k 0).toNat:Int)-48=(dv ((tl s).getD k 0):Int):=by unfold dv;omega
   have hlt:=tX hd
   simp only [Bool.not_true,cond_false]
   have e1:ax (10*(pf ((tl s).take k):Int))=10*(pf ((tl s).take k):Int):=Ev (by omega)
   have e2:ax (dv ((tl s).getD k 0):Int)=(dv ((tl s).getD k 0):Int):=Ev (by omega)
   rw [hdv,wk8 (by omega),e1,e2,Ev (by omega),QY _ hk2]
   rfl) (fun fuel=>by
   have ht:(tl s).take s.size=tl s:=List.take_of_length_le (by omega)
   rw [rq,iw,ht]
   simp only [ak,cond_false])
 rw [←hl,KF (tl s) 0 (fun c=> !nL c)] at hh
 have hany:(tl s).any (fun c=> !nL c)= !(tl s).all nL:=by simp [List.all_eq_not_any_not]
 rw [hany] at hh
 rw [show cm s aq (0,0)=_ from hh]
 cases (tl s).all nL<;>rfl
theorem Vt (s:ByteArray):mJ s=some (Na (tl s)):=by
 have hl:=vy s
 unfold mJ Na
 by_cases h:1≤s.size∧s.size≤3
 ·rw [show av (s.size:Int) 1=false from decide_eq_false (by omega),show av 3 (s.size:Int)=false from decide_eq_false (by omega),KU s h.2]
  by_cases ha:(tl s).all nL=true
  ·have hc:1≤(tl s).length∧(tl s).length≤3∧(tl s).all nL=true:=⟨by omega,by omega,ha⟩
   rw [if_pos hc];simp [ha]
  ·have hc: ¬(1≤(tl s).length∧(tl s).length≤3∧(tl s).all nL=true):=fun k=>ha k.2.2
   rw [if_neg hc];simp [ha]
 ·have hc: ¬(1≤(tl s).length∧(tl s).length≤3∧(tl s).all nL=true):=fun k=>h ⟨by omega,by omega⟩
  rw [if_neg hc]
  have:(av (s.size:Int) 1 ||av 3 (s.size:Int))=true:=by
   unfold av;simp only [Bool.or_eq_true,decide_eq_true_eq];omega
  rw [this];rfl
theorem zJ (s:ByteArray):aI s=some (Na (tl s),decide (0≤bD (tl s))):=by
 have hb:=XC (tl s)
 unfold aI
 rw [Vt,Option.bind_some]
 by_cases h:0≤Na (tl s)
 ·obtain ⟨n,hn⟩: ∃n:Nat,Na (tl s)=n:=⟨(Na (tl s)).toNat,by omega⟩
  have h3:=SY (tl s)
  rw [hn] at hb h3 ⊢
  rw [show bc 0 (n:Int)=true from decide_eq_true (by omega),OQ (by omega)]
  simp only [gb,cond_true,Option.bind_some,Bool.true_and,mn,PN]
  rw [Int.toNat_natCast] at h3
  congr 2
  rw [Bool.eq_iff_iff,beq_iff_eq,decide_eq_true_eq,←h3]
  exact ⟨fun e=>⟨by omega,e⟩,fun e=>e.2⟩
 ·have h3: ¬0≤bD (tl s):=fun k=>h (by rw [wH k];exact k)
  rw [show bc 0 (Na (tl s))=false from decide_eq_false h,decide_eq_false h3]
  rfl
theorem aco (s:ByteArray):mw s=some (bD (tl s)):=by
 have hl:=vy s
 have same:uJ s=cm s:=rfl
 unfold mw aw bD
 rw [same]
 by_cases h:1≤s.size∧s.size≤3
 ·have h1:(bc 1 (s.size:Int)&&bc (s.size:Int) 3)=true:=by unfold bc;simp;omega
  have h0:aB 0 s.size=true:=decide_eq_true (by omega)
  have hz:((kZ s 0)==48)=decide ((tl s).headD 0=48):=by
   rw [show kZ s 0=(((tl s).getD 0 0).toNat:Int) from rfl,show (tl s).getD 0 0=(tl s).headD 0 by cases tl s<;>rfl]
   generalize (tl s).headD 0=c
   rw [Bool.eq_iff_iff,beq_iff_eq,decide_eq_true_eq]
   exact ⟨fun e=>UInt8.toNat_inj.1 (by have:c.toNat=48:=by omega
                                       rw [this];rfl),fun e=>by subst e;rfl⟩
  simp only [Option.bind_some,h1,h0,hz,Bool.not_true,Bool.false_or,Bool.or_true,aa]
  rw [KU s h.2]
  by_cases h2:1<s.size∧(tl s).headD 0=48
  ·have hc: ¬((1≤(tl s).length∧(tl s).length≤3∧(tl s).all nL=true)∧ ¬(1<(tl s).length∧(tl s).headD 0=48)):=fun k=>k.2 ⟨by omega,h2.2⟩
   rw [if_neg hc,show av 1 (s.size:Int)=true from decide_eq_true (by omega),decide_eq_true h2.2];rfl
  ·have:(av 1 (s.size:Int)&&decide ((tl s).headD 0=48))=false:=by
    rw [Bool.eq_false_iff];intro hh;simp only [Bool.and_eq_true,decide_eq_true_eq,av] at hh;exact h2 ⟨by omega,hh.2⟩
   rw [this]
   by_cases ha:(tl s).all nL=true
   ·have hc:(1≤(tl s).length∧(tl s).length≤3∧(tl s).all nL=true)∧ ¬(1<(tl s).length∧(tl s).headD 0=48):=⟨⟨by omega,by omega,ha⟩,fun k=>h2 ⟨by omega,k.2⟩⟩
    rw [if_pos hc];simp [ha]
   ·have hc: ¬((1≤(tl s).length∧(tl s).length≤3∧(tl s).all nL=true)∧ ¬(1<(tl s).length∧(tl s).headD 0=48)):=fun k=>ha k.1.2.2
    rw [if_neg hc];simp [ha]
 ·have h1:(bc 1 (s.size:Int)&&bc (s.size:Int) 3)=false:=by unfold bc;rw [Bool.eq_false_iff];simp;omega
  have hc: ¬((1≤(tl s).length∧(tl s).length≤3∧(tl s).all nL=true)∧ ¬(1<(tl s).length∧(tl s).headD 0=48)):=fun k=>h ⟨by omega,by omega⟩
  rw [if_neg hc]
  simp [h1]
def jm (c:UInt8) (l:List UInt8):Nat→List (List UInt8)×Nat
 |0=>([],0)
 |k+1=>if l.getD k 0=c then ((jm c l k).1++ [(l.drop (jm c l k).2).take (k-(jm c l k).2)],k+1) else jm c l k
theorem Fm (c:UInt8) (l:List UInt8): ∀k,(jm c l k).2≤k∧(jm c l k).1.length≤k
 |0=>by simp [jm]
 |k+1=>by
  have:=Fm c l k
  unfold jm;split
  ·simp;omega
  ·omega
theorem KP (c:UInt8) (l:List UInt8): ∀k,k≤l.length→(∀j,(jm c l k).2≤j→j<k→l.getD j 0≠c)∧dZ c l=(jm c l k).1++dZ c (l.drop (jm c l k).2)
 |0,_=>by simp [jm]
 |k+1,hk=>by
  obtain ⟨h1,h2⟩:=KP c l k (by omega)
  have hle:=(Fm c l k).1
  unfold jm;split
  ·rename_i e
   refine ⟨fun j h3 h4=>by simp only at h3;omega,?_⟩
   have hsp:l.drop (jm c l k).2=(l.drop (jm c l k).2).take (k-(jm c l k).2)++c::l.drop (k+1):=by
    conv=>lhs;rw [←List.take_append_drop (k-(jm c l k).2) (l.drop (jm c l k).2)]
    rw [List.drop_drop,show (jm c l k).2+(k-(jm c l k).2)=k by omega,List.drop_eq_getElem_cons (by omega:k<l.length),←ai (d:=0) (by omega:k<l.length),e]
   have hn:c∉(l.drop (jm c l k).2).take (k-(jm c l k).2):=by
    intro hm
    obtain ⟨j,hj,he⟩:=List.mem_iff_getElem.1 hm
    have hj2:j<k-(jm c l k).2:=by have:=List.length_take_le (k-(jm c l k).2) (l.drop (jm c l k).2);omega
    have:=h1 ((jm c l k).2+j) (by omega) (by omega)
    rw [ai (by omega:(jm c l k).2+j<l.length)] at this
    simp only [List.getElem_take,List.getElem_drop] at he
    exact this he
   rw [h2]
   conv=>lhs;rw [hsp,FT c _ _ hn]
   simp
  ·rename_i e
   refine ⟨fun j h3 h4=>?_,h2⟩
   rcases Nat.lt_or_ge j k with h |h
   ·exact h1 j h3 h
   ·obtain rfl:j=k:=by omega
    exact e
theorem Iu (s:ByteArray) (a b:Nat):ByteArray.extract s a b=ba (((tl s).drop a).take (b-a)):=by
 rw [←re s]
 exact ByteArray.extract_mk s.data.toList a b
theorem adG (s:ByteArray) (hs:s.size≤1048576):qV s 32=some ((dZ 32 (tl s)).map ba):=by
 have hl:=vy s
 unfold qV
 have hh:=aC (kb s 32) (fun k=>((jm 32 (tl s) k).1.map ba,((jm 32 (tl s) k).2:Int),(k:Int))) s.size (some ((jm 32 (tl s) s.size).1.map ba,((jm 32 (tl s) s.size).2:Int))) (by omega) (fun k fuel hk=>by
  obtain ⟨c1,c2⟩:=Fm 32 (tl s) k
  rw [vD,lV]
  have hb:((((tl s).getD k 0).toNat:Int)==32)=decide ((tl s).getD k 0=32):=by
   generalize (tl s).getD k 0=c
   rw [Bool.eq_iff_iff,beq_iff_eq,decide_eq_true_eq]
   exact ⟨fun e=>UInt8.toNat_inj.1 (by have:c.toNat=32:=by omega
                                       rw [this];rfl),fun e=>by subst e;rfl⟩
  simp only [az hk,ah hk,Ij,hb,aa,cond_true,af (by omega:k<4611686018427387904)]
  have b1:vq ((jm 32 (tl s) k).2:Int) (k:Int) s.size=true:=decide_eq_true (by omega)
  have b2: ∀x:ByteArray,bw ((jm 32 (tl s) k).1.map ba).length ([x]:List ByteArray).length=true:=fun x=>decide_eq_true (by simp;omega)
  by_cases e:(tl s).getD k 0=32
  ·rw [decide_eq_true e]
   simp only [cond_true,b1,b2,aa,Option.bind_some,Int.toNat_natCast,Iu]
   conv=>rhs;unfold jm
   rw [if_pos e]
   simp
  ·rw [decide_eq_false e]
   simp only [cond_false,Option.bind_some]
   conv=>rhs;unfold jm
   rw [if_neg e]) (fun fuel=>by
  rw [vD,lV];simp only [ak,cond_false])
 rw [show kb s 32 aq (([]:List ByteArray),0,0)=_ from hh]
 obtain ⟨c1,c2⟩:=Fm 32 (tl s) s.size
 obtain ⟨d1,d2⟩:=KP 32 (tl s) s.size (by omega)
 have b1:vq ((jm 32 (tl s) s.size).2:Int) (s.size:Int) s.size=true:=decide_eq_true (by omega)
 have b2: ∀x:ByteArray,bw ((jm 32 (tl s) s.size).1.map ba).length ([x]:List ByteArray).length=true:=fun x=>decide_eq_true (by simp;omega)
 simp only [Option.bind_some,b1,b2,aa,Iu,Int.toNat_natCast]
 have hn:(32:UInt8)∉(tl s).drop (jm 32 (tl s) s.size).2:=by
  intro hm
  obtain ⟨j,hj,he⟩:=List.mem_iff_getElem.1 hm
  rw [List.length_drop] at hj
  have:=d1 ((jm 32 (tl s) s.size).2+j) (by omega) (by omega)
  rw [ai (by omega)] at this
  rw [List.getElem_drop] at he
  exact this he
 rw [d2,xK 32 _ hn,List.map_append,List.take_of_length_le (by rw [List.length_drop];omega)]
 rfl
end Go.Proofs.YtjdlgannencchaaGreatDoor
namespace Go.Proofs.YtjdlgannencchaaGreatDoor
open Go.ChangeShapes Go.WideShapes Go.ChangeAt Go.RowKit
set_option linter.unusedVariables false
set_option linter.unusedSimpArgs false
theorem yP {σ Out:Type} (L:Nat→σ→Option Out) (st:Nat→σ) (n:Nat) (P:Nat→Bool) (fv:Nat→Option Out) (out:Option Out) (hn:n≤1099511627776) (hstep: ∀k fuel,k<n→L (fuel+1) (st k)=bif P k then fv k else L fuel (st (k+1))) (hend: ∀fuel,L (fuel+1) (st n)=out):
 L aq (st 0)=match (List.range n).find? P with |some k=>fv k |none=>out:=by
 have key: ∀j k fuel,k+j=n→j<fuel→L fuel (st k)=match (List.range' k j).find? P with |some k=>fv k |none=>out:=by
  intro j
  induction j with
  |zero=>
   intro k fuel hk hf
   obtain ⟨f,rfl⟩: ∃f,fuel=f+1:=⟨fuel-1,by omega⟩
   obtain rfl:k=n:=by omega
   simpa using hend f
  |succ j ih=>
   intro k fuel hk hf
   obtain ⟨f,rfl⟩: ∃f,fuel=f+1:=⟨fuel-1,by omega⟩
   rw [hstep k f (by omega),ih (k+1) f (by omega) (by omega),List.range'_succ,List.find?_cons]
   cases P k<;>simp
 rw [key n 0 aq (by omega) (pn hn),List.range_eq_range']
abbrev Pm:=List (Int×Int)
abbrev Wk:=List Bool×List Bool×Pm
def Rg (l:Pm) (p:Int×Int):Int:=match (List.range l.length).find? (fun k=>(l.getD k (0,0)).1==p.1&&(l.getD k (0,0)).2==p.2) with |some k=>(k:Int) |none=> -1
theorem ug (l:Pm) (p:Int×Int):(Rg l p= -1∧p∉l)∨(∃k,k<l.length∧Rg l p=(k:Int)∧l.getD k (0,0)=p∧ ∀j,j<k→l.getD j (0,0)≠p):=by
 unfold Rg
 cases h:(List.range l.length).find? (fun k=>(l.getD k (0,0)).1==p.1&&(l.getD k (0,0)).2==p.2) with
 |none=>
  left
  refine ⟨rfl,fun hp=>?_⟩
  obtain ⟨k,hk,rfl⟩:=List.mem_iff_getElem.1 hp
  have:=List.find?_eq_none.1 h k (by simpa using hk)
  rw [ai hk] at this
  simp at this
 |some k=>
  right
  obtain ⟨h1,h2,h3⟩:=List.find?_range_eq_some.1 h
  have hk:k<l.length:=by simpa using h2
  simp only [Bool.and_eq_true,beq_iff_eq] at h1
  refine ⟨k,hk,rfl,Prod.ext h1.1 h1.2,fun j hj e=>?_⟩
  have:=h3 j hj
  rw [e] at this
  simp at this
theorem Jt {l:Pm} {p:Int×Int}:bc 0 (Rg l p)=decide (p∈l):=by
 rcases ug l p with ⟨h1,h2⟩ |⟨k,hk,h1,h2,h3⟩
 ·rw [h1];simp [bc,h2]
 ·have:p∈l:=by rw [←h2,ai hk];exact List.getElem_mem hk
  rw [h1];simp [bc,this]
theorem qX {l:Pm} {p:Int×Int} {k:Nat}:p∈l.take k↔ ∃j,j<k∧j<l.length∧l.getD j (0,0)=p:=by
 constructor
 ·intro h
  obtain ⟨j,hj,rfl⟩:=List.mem_iff_getElem.1 h
  have hj':j<k∧j<l.length:=by rw [List.length_take] at hj;omega
  exact ⟨j,hj'.1,hj'.2,by rw [ai hj'.2];simp⟩
 ·rintro ⟨j,h1,h2,rfl⟩
  rw [ai h2]
  exact List.mem_iff_getElem.2 ⟨j,by simp;omega,by simp⟩
theorem RY {l:Pm} {k:Nat} (hk:k<l.length):av (Rg l (l.getD k (0,0))) (k:Int)=decide (l.getD k (0,0)∈l.take k):=by
 rcases ug l (l.getD k (0,0)) with ⟨h1,h2⟩ |⟨i,hi,h1,h2,h3⟩
 ·exact absurd (by rw [ai hk];exact List.getElem_mem hk) h2
 ·rw [h1]
  have hle:i≤k:=by
   rcases Nat.lt_or_ge k i with h |h
   ·exact absurd rfl (h3 k h)
   ·exact h
  rcases Nat.lt_or_ge i k with h |h
  ·have:l.getD k (0,0)∈l.take k:=qX.2 ⟨i,h,hi,h2⟩
   rw [decide_eq_true this];exact decide_eq_true (by omega)
  ·obtain rfl:i=k:=by omega
   have: ¬l.getD i (0,0)∈l.take i:=fun hm=>by
    obtain ⟨j,j1,j2,j3⟩:=qX.1 hm
    exact h3 j j1 j3
   rw [decide_eq_false this];exact decide_eq_false (by omega)
def GY (on earth:List Bool) (pm:Pm) (k:Nat):Bool:=
 HN (pm.getD k (0,0)).1 0 9&&(decide (0≤(pm.getD k (0,0)).2)&&decide ((pm.getD k (0,0)).2<(on.length:Int)))&&earth.getD (pm.getD k (0,0)).2.toNat false&& !decide (pm.getD k (0,0)∈pm.take k)
def nv (on earth:List Bool) (pm:Pm):Bool:=
 HN (on.length:Int) 1 10&&(earth.length==on.length)&&decide (pm.length≤6)&&(!(List.range on.length).any fun k=>on.getD k false&&earth.getD k false)&& !(List.range pm.length).any fun k=> !GY on earth pm k
structure WorkOk (on earth:List Bool) (pm:Pm):Prop where
 l0:1≤on.length
 l1:on.length≤10
 le:earth.length=on.length
 lp:pm.length≤6
 ne: ∀k,on.getD k false=true→earth.getD k false=false
 pm: ∀k,k<pm.length→(0≤(pm.getD k (0,0)).1∧(pm.getD k (0,0)).1≤9)∧(0≤(pm.getD k (0,0)).2∧(pm.getD k (0,0)).2<(on.length:Int))∧earth.getD (pm.getD k (0,0)).2.toNat false=true∧pm.getD k (0,0)∉pm.take k
theorem LW {on earth:List Bool} {pm:Pm} {k:Nat}:GY on earth pm k=true↔(0≤(pm.getD k (0,0)).1∧(pm.getD k (0,0)).1≤9)∧(0≤(pm.getD k (0,0)).2∧(pm.getD k (0,0)).2<(on.length:Int))∧earth.getD (pm.getD k (0,0)).2.toNat false=true∧pm.getD k (0,0)∉pm.take k:=by
 simp only [GY,Bool.and_eq_true,sT,decide_eq_true_eq,Bool.not_eq_true',decide_eq_false_iff_not,and_assoc]
theorem KE {n:Nat} {f:Nat→Bool}:(!(List.range n).any f)=true↔ ∀k,k<n→f k=false:=by
 rw [Bool.not_eq_true',List.any_eq_false]
 simp only [List.mem_range,Bool.not_eq_true]
theorem uS {on earth:List Bool} {pm:Pm}:nv on earth pm=true↔WorkOk on earth pm:=by
 unfold nv
 rw [Bool.and_eq_true,KE,Bool.and_eq_true,KE,Bool.and_eq_true,Bool.and_eq_true,sT,beq_iff_eq,decide_eq_true_eq]
 constructor
 ·rintro ⟨⟨⟨⟨h1,h2⟩,h3⟩,h4⟩,h5⟩
  refine ⟨by omega,by omega,h2,h3,fun k hk=>?_,fun k hk=>LW.1 (by have:=h5 k hk;simpa using this)⟩
  by_cases hl:k<on.length
  ·have:=h4 k hl
   rw [hk] at this
   simpa using this
  ·simp [List.getD,List.getElem?_eq_none (Nat.le_of_not_lt hl)] at hk
 ·intro h
  have:=h.l0;have:=h.l1
  refine ⟨⟨⟨⟨by omega,h.le⟩,h.lp⟩,fun k hk=>?_⟩,fun k hk=>by rw [LW.2 (h.pm k hk)];rfl⟩
  cases ho:on.getD k false
  ·rfl
  ·rw [h.ne k ho];rfl
theorem abP (n:Int):HN n 1 10=(!av n 1&& !av 10 n):=by rw [Bool.eq_iff_iff];simp [HN,av]
theorem lt6 (n:Nat):av 6 (n:Int)= !decide (n≤6):=by rw [Bool.eq_iff_iff];simp [av];omega
theorem Oi (a b:Nat):((a:Int) !=(b:Int))= !(a==b):=by rw [Bool.eq_iff_iff];simp;omega
def da (pm:Pm) (line:Int):List Int:=(pm.filter (·.2==line)).map (·.1)
theorem Ix {pm:Pm} {line:Int} {k:Nat} (hk:k<pm.length):da (pm.take (k+1)) line=if (pm.getD k (0,0)).2==line then da (pm.take k) line++ [(pm.getD k (0,0)).1] else da (pm.take k) line:=by
 unfold da
 rw [List.take_succ_eq_append_getElem hk,List.filter_append,List.map_append,ai hk]
 cases h:pm[k].2==line<;>simp [h]
theorem Gx (pm:Pm) (line:Int):(da pm line).length≤pm.length:=by
 unfold da;rw [List.length_map];exact List.length_filter_le _ _
def fi (w:Wk) (kd a who:Int):Bool:=
 if kd=0∨kd=2 then !w.1.getD a.toNat false&& !w.2.1.getD a.toNat false
 else if kd=1 then w.1.getD a.toNat false
 else if kd=3 then w.2.1.getD a.toNat false&&decide (da w.2.2 a=[])
 else if kd=4 then w.2.1.getD a.toNat false&&(HN who 0 9&& !decide ((who,a)∈w.2.2)&&decide (w.2.2.length<6))
 else if kd=5 then decide ((who,a)∈w.2.2)
 else false
def cT (w:Wk) (kd a who:Int):Wk:=
 if kd=0 then (w.1.set a.toNat true,w.2.1,w.2.2)
 else if kd=1 then (w.1.set a.toNat false,w.2.1,w.2.2)
 else if kd=2 then (w.1,w.2.1.set a.toNat true,w.2.2)
 else if kd=3 then (w.1,w.2.1.set a.toNat false,w.2.2)
 else if kd=4 then (w.1,w.2.1,w.2.2++ [(who,a)])
 else (w.1,w.2.1,w.2.2.take (Rg w.2.2 (who,a)).toNat++w.2.2.drop ((Rg w.2.2 (who,a)).toNat+1))
def dK (w:Wk) (kd a who:Int):Wk×Bool:=
 if nv w.1 w.2.1 w.2.2 then (if 0≤a∧a<(w.1.length:Int)∧fi w kd a who=true then (cT w kd a who,true) else (w,false)) else (([],[],[]),false)
def oE (r:Wk×Bool):List Bool×List Bool×Pm×Bool:=(r.1.1,r.1.2.1,r.1.2.2,r.2)
theorem Pb (l:List Int):((l.length:Int)==0)=decide (l=[]):=by cases l<;>simp;omega
theorem VX (w:Wk) (kd a who:Int):(cT w kd a who).1.length=w.1.length∧(cT w kd a who).2.1.length=w.2.1.length∧(cT w kd a who).2.2.length≤w.2.2.length+1:=by
 unfold cT
 repeat' split
 all_goals simp
 omega
def rX (s:Int×Wk) (d:Int×Int×Int):Int×Wk:=if (dK s.2 d.1 d.2.1 d.2.2).2=true then (s.1+1,(dK s.2 d.1 d.2.1 d.2.2).1) else s
theorem tG {α:Type} {l:List α} {k:Nat} {y d:α} (hk:k<l.length):(l.set k y).getD k d=y:=by simp [List.getD,hk]
theorem fj {α:Type} {l:List α} {i j:Nat} {y d:α} (h:i≠j):(l.set i y).getD j d=l.getD j d:=by simp [List.getD,List.getElem?_set_ne h]
theorem XS {α:Type} {l:List α} {k:Nat} {d:α} (h:l.length≤k):l.getD k d=d:=by simp [List.getD,List.getElem?_eq_none h]
theorem Ua {α:Type} (l:List α) (k:Nat):aj l 0 (k:Int)=l.take k:=by simp [aj]
theorem TZ {α:Type} (l:List α) (k:Nat):aj l (k:Int) (l.length:Int)=l.drop k:=by
 unfold aj;rw [List.take_of_length_le (by simp),Int.toNat_natCast]
structure WOk (w:Wk):Prop where
 l0:1≤w.1.length
 l1:w.1.length≤10
 le:w.2.1.length=w.1.length
 lp:w.2.2.length≤6
 ne: ∀k,w.1.getD k false=true→w.2.1.getD k false=false
 pm: ∀p∈w.2.2,(0≤p.1∧p.1≤9)∧(0≤p.2∧p.2<(w.1.length:Int))∧w.2.1.getD p.2.toNat false=true
 nd:w.2.2.Nodup
theorem FK {w:Wk}:nv w.1 w.2.1 w.2.2=true↔WOk w:=by
 rw [uS]
 constructor
 ·intro h
  refine ⟨h.l0,h.l1,h.le,h.lp,h.ne,fun p hp=>?_,?_⟩
  ·obtain ⟨k,hk,rfl⟩:=List.mem_iff_getElem.1 hp
   have:=h.pm k hk
   rw [ai hk] at this
   exact ⟨this.1,this.2.1,this.2.2.1⟩
  ·rw [List.nodup_iff_pairwise_ne,List.pairwise_iff_getElem]
   intro i j hi hj hij e
   refine (h.pm j hj).2.2.2 (qX.2 ⟨i,hij,hi,?_⟩)
   rw [ai hi,ai hj,e]
 ·intro h
  refine ⟨h.l0,h.l1,h.le,h.lp,h.ne,fun k hk=>?_⟩
  have hm:=h.pm (w.2.2.getD k (0,0)) (by rw [ai hk];exact List.getElem_mem hk)
  refine ⟨hm.1,hm.2.1,hm.2.2,fun ht=>?_⟩
  obtain ⟨j,h1,h2,h3⟩:=qX.1 ht
  have hp:=h.nd
  rw [List.nodup_iff_pairwise_ne,List.pairwise_iff_getElem] at hp
  rw [ai h2,ai hk] at h3
  exact hp j k h2 hk h1 h3
theorem QC {w:Wk} {a who:Int} (hm:(who,a)∈w.2.2): ∃A B,w.2.2=A++(who,a)::B∧cT w 5 a who=(w.1,w.2.1,A++B):=by
 rcases ug w.2.2 (who,a) with ⟨h1,h2⟩ |⟨k,hk,h1,h2,h3⟩
 ·exact absurd hm h2
 refine ⟨w.2.2.take k,w.2.2.drop (k+1),?_,?_⟩
 ·rw [←h2,ai hk];simp
 ·unfold cT
  rw [if_neg (by decide),if_neg (by decide),if_neg (by decide),if_neg (by decide),if_neg (by decide),h1,Int.toNat_natCast]
theorem Sn {pm:Pm} {line x:Int}:x∈da pm line↔(x,line)∈pm:=by
 simp only [da,List.mem_map,List.mem_filter,beq_iff_eq]
 constructor
 ·rintro ⟨p,⟨h1,h2⟩,h3⟩
  rw [←h3,←h2];exact h1
 ·intro h;exact ⟨(x,line),⟨h,rfl⟩,rfl⟩
theorem Yw {A B:Pm} {p:Int×Int} (h:(A++p::B).Nodup):(A++B).Nodup∧p∉A++B:=by
 rw [List.nodup_append] at h
 obtain ⟨h1,h2,h3⟩:=h
 rw [List.nodup_cons] at h2
 refine ⟨List.nodup_append.2 ⟨h1,h2.2,fun a ha b hb=>h3 a ha b (by simp [hb])⟩,fun hm=>?_⟩
 rcases List.mem_append.1 hm with hm |hm
 ·exact h3 p hm p (by simp) rfl
 ·exact h2.1 hm
theorem Ny {w:Wk} {kd a who:Int} (h:WOk w) (ha:0≤a∧a<(w.1.length:Int)) (hm:fi w kd a who=true):WOk (cT w kd a who)∧cT w kd a who≠w∧fi (cT w kd a who) kd a who=false:=by
 have hal:a.toNat<w.1.length:=by omega
 have hae:a.toNat<w.2.1.length:=by have:=h.le;omega
 by_cases k0:kd=0
 ·subst k0
  have hm:w.1.getD a.toNat false=false∧w.2.1.getD a.toNat false=false:=by simpa only [fi,true_or,if_true,Bool.and_eq_true,Bool.not_eq_true'] using hm
  have e:cT w 0 a who=(w.1.set a.toNat true,w.2.1,w.2.2):=rfl
  rw [e]
  refine ⟨⟨by simpa using h.l0,by simpa using h.l1,by simpa using h.le,h.lp,fun k hk=>?_,fun p hp=>by simpa using h.pm p hp,h.nd⟩,fun hc=>?_,?_⟩
  ·by_cases hka:a.toNat=k
   ·rw [←hka];exact hm.2
   ·exact h.ne k (by rwa [fj hka] at hk)
  ·have:=congrArg (fun w:Wk=>w.1.getD a.toNat false) hc
   simp only [tG hal,hm.1] at this
   cases this
  ·simp only [fi,true_or,if_true,tG hal];rfl
 by_cases k1:kd=1
 ·subst k1
  have hm:w.1.getD a.toNat false=true:=hm
  have e:cT w 1 a who=(w.1.set a.toNat false,w.2.1,w.2.2):=rfl
  rw [e]
  refine ⟨⟨by simpa using h.l0,by simpa using h.l1,by simpa using h.le,h.lp,fun k hk=>?_,fun p hp=>by simpa using h.pm p hp,h.nd⟩,fun hc=>?_,?_⟩
  ·by_cases hka:a.toNat=k
   ·rw [←hka] at hk;rw [tG hal] at hk;cases hk
   ·exact h.ne k (by rwa [fj hka] at hk)
  ·have:=congrArg (fun w:Wk=>w.1.getD a.toNat false) hc
   simp only [tG hal,hm] at this
   cases this
  ·exact tG hal
 by_cases k2:kd=2
 ·subst k2
  have hm:w.1.getD a.toNat false=false∧w.2.1.getD a.toNat false=false:=by simpa only [fi,or_true,if_true,Bool.and_eq_true,Bool.not_eq_true'] using hm
  have e:cT w 2 a who=(w.1,w.2.1.set a.toNat true,w.2.2):=rfl
  rw [e]
  refine ⟨⟨h.l0,h.l1,by simpa using h.le,h.lp,fun k hk=>?_,fun p hp=>?_,h.nd⟩,fun hc=>?_,?_⟩
  ·by_cases hka:a.toNat=k
   ·rw [←hka] at hk;rw [hm.1] at hk;cases hk
   ·rw [fj hka];exact h.ne k hk
  ·obtain ⟨p1,p2,p3⟩:=h.pm p hp
   refine ⟨p1,p2,?_⟩
   by_cases hka:a.toNat=p.2.toNat
   ·rw [←hka,tG hae]
   ·rw [fj hka];exact p3
  ·have:=congrArg (fun w:Wk=>w.2.1.getD a.toNat false) hc
   simp only [tG hae,hm.2] at this
   cases this
  ·simp only [fi,or_true,if_true,tG hae];simp
 by_cases k3:kd=3
 ·subst k3
  have hm:w.2.1.getD a.toNat false=true∧da w.2.2 a=[]:=by
   have:(w.2.1.getD a.toNat false&&decide (da w.2.2 a=[]))=true:=hm
   simpa only [Bool.and_eq_true,decide_eq_true_eq] using this
  have e:cT w 3 a who=(w.1,w.2.1.set a.toNat false,w.2.2):=rfl
  rw [e]
  refine ⟨⟨h.l0,h.l1,by simpa using h.le,h.lp,fun k hk=>?_,fun p hp=>?_,h.nd⟩,fun hc=>?_,?_⟩
  ·by_cases hka:a.toNat=k
   ·rw [←hka,tG hae]
   ·rw [fj hka];exact h.ne k hk
  ·obtain ⟨p1,p2,p3⟩:=h.pm p hp
   refine ⟨p1,p2,?_⟩
   have hka:a.toNat≠p.2.toNat:=fun hka=>by
    have hpa:p.2=a:=by omega
    have:p.1∈da w.2.2 a:=Sn.2 (by rw [←hpa];exact hp)
    rw [hm.2] at this;simp at this
   rw [fj hka];exact p3
  ·have:=congrArg (fun w:Wk=>w.2.1.getD a.toNat false) hc
   simp only [tG hae,hm.1] at this
   cases this
  ·show ((w.2.1.set a.toNat false).getD a.toNat false&&_)=false
   rw [tG hae];rfl
 by_cases k4:kd=4
 ·subst k4
  have hm:w.2.1.getD a.toNat false=true∧(0≤who∧who≤9)∧(who,a)∉w.2.2∧w.2.2.length<6:=by
   have:(w.2.1.getD a.toNat false&&(HN who 0 9&& !decide ((who,a)∈w.2.2)&&decide (w.2.2.length<6)))=true:=hm
   simp only [Bool.and_eq_true,decide_eq_true_eq,sT,Bool.not_eq_true',decide_eq_false_iff_not] at this
   exact ⟨this.1,this.2.1.1,this.2.1.2,this.2.2⟩
  have e:cT w 4 a who=(w.1,w.2.1,w.2.2++ [(who,a)]):=rfl
  rw [e]
  refine ⟨⟨h.l0,h.l1,h.le,by simp;omega,h.ne,fun p hp=>?_,?_⟩,fun hc=>?_,?_⟩
  ·rcases List.mem_append.1 hp with hp |hp
   ·exact h.pm p hp
   ·have hp:p=(who,a):=by simpa using hp
    subst hp
    exact ⟨hm.2.1,ha,hm.1⟩
  ·refine List.nodup_append.2 ⟨h.nd,by simp,fun x hx y hy e=>?_⟩
   have hy:y=(who,a):=by simpa using hy
   rw [e,hy] at hx
   exact hm.2.2.1 hx
  ·have:=congrArg (fun w:Wk=>w.2.2.length) hc
   simp at this
  ·show (w.2.1.getD a.toNat false&&(HN who 0 9&& !decide ((who,a)∈w.2.2++ [(who,a)])&&decide ((w.2.2++ [(who,a)]).length<6)))=false
   simp
 by_cases k5:kd=5
 ·subst k5
  have hmem:(who,a)∈w.2.2:=by
   have:decide ((who,a)∈w.2.2)=true:=hm
   simpa using this
  obtain ⟨A,B,e1,e2⟩:=QC hmem
  have hnd:=h.nd
  rw [e1] at hnd
  obtain ⟨n1,n2⟩:=Yw hnd
  rw [e2]
  have hlp:=h.lp
  rw [e1] at hlp
  refine ⟨⟨h.l0,h.l1,h.le,by simp at hlp ⊢;omega,h.ne,fun p hp=>h.pm p ?_,n1⟩,fun hc=>?_,?_⟩
  ·rw [e1]
   rcases List.mem_append.1 hp with hp |hp
   ·simp [hp]
   ·simp [hp]
  ·have:=congrArg (fun w:Wk=>w.2.2.length) hc
   rw [e1] at this
   simp at this<;>omega
  ·show decide ((who,a)∈A++B)=false
   exact decide_eq_false n2
 ·simp [fi,k0,k1,k2,k3,k4,k5] at hm
theorem rl {w:Wk} (h:WOk w) (kd a who:Int):(dK w kd a who=(cT w kd a who,true)∧(0≤a∧a<(w.1.length:Int))∧fi w kd a who=true∧WOk (cT w kd a who))∨(dK w kd a who=(w,false)∧ ¬((0≤a∧a<(w.1.length:Int))∧fi w kd a who=true)):=by
 unfold dK
 rw [if_pos (FK.2 h)]
 by_cases hc:0≤a∧a<(w.1.length:Int)∧fi w kd a who=true
 ·rw [if_pos hc];exact .inl ⟨rfl,⟨hc.1,hc.2.1⟩,hc.2.2,(Ny h ⟨hc.1,hc.2.1⟩ hc.2.2).1⟩
 ·rw [if_neg hc];exact .inr ⟨rfl,fun hh=>hc ⟨hh.1.1,hh.1.2,hh.2⟩⟩
def bY (pm:Pm):List (Int×Int×Int):=pm.map fun p=>(5,p.2,p.1)
theorem IN {pm:Pm} {k:Nat} (hk:k<pm.length):bY (pm.take (k+1))=bY (pm.take k)++ [(5,(pm.getD k (0,0)).2,(pm.getD k (0,0)).1)]:=by
 rw [List.take_succ_eq_append_getElem hk,ai hk]
 simp only [bY,List.map_append,List.map_cons,List.map_nil]
def dO (kd:Int) (l:List Bool) (b:Bool):Nat→List (Int×Int×Int)
 |0=> []
 |k+1=>if (l.getD k false==b)=true then dO kd l b k++ [(kd,(k:Int),0)] else dO kd l b k
theorem xN (kd:Int) (l:List Bool) (b:Bool): ∀k,(dO kd l b k).length≤k
 |0=>by simp [dO]
 |k+1=>by have:=xN kd l b k;simp only [dO];split<;>simp<;>omega
theorem uR {s:Int×Wk} {kd a who:Int} (h:WOk s.2) (ha:0≤a∧a<(s.2.1.length:Int)) (hm:fi s.2 kd a who=true):rX s (kd,a,who)=(s.1+1,cT s.2 kd a who):=by
 unfold rX
 dsimp only
 rcases rl h kd a who with ⟨f1,f2,f3,f4⟩ |⟨f1,f2⟩
 ·rw [f1,if_pos rfl]
 ·exact absurd ⟨ha,hm⟩ f2
theorem Mc: ∀(pm:Pm) (c:Int) (on earth:List Bool),WOk (on,earth,pm)→(bY pm).foldl rX (c,on,earth,pm)=(c+(pm.length:Int),on,earth,[])
 | [],c,on,earth,_=>by simp [bY]
 |p::pm,c,on,earth,h=>by
  have hm:fi (on,earth,p::pm) 5 p.2 p.1=true:=by
   show decide ((p.1,p.2)∈p::pm)=true
   exact decide_eq_true (by simp)
  have ha:=(h.pm p (by simp)).2.1
  have hst:=uR (s:=(c,on,earth,p::pm)) h ha hm
  have hput:cT (on,earth,p::pm) 5 p.2 p.1=(on,earth,pm):=by
   rcases ug (p::pm) (p.1,p.2) with ⟨h1,h2⟩ |⟨k,hk,h1,h2,h3⟩
   ·exact absurd (by simp) h2
   ·have hk0:k=0:=by
     rcases Nat.eq_zero_or_pos k with h |h
     ·exact h
     ·exact absurd (by simp) (h3 0 h)
    subst hk0
    unfold cT
    rw [if_neg (by decide),if_neg (by decide),if_neg (by decide),if_neg (by decide),if_neg (by decide)]
    dsimp only
    rw [h1];simp
  have hok:=(Ny h ha hm).1
  rw [hput] at hst hok
  show (bY pm).foldl rX (rX (c,on,earth,p::pm) (5,p.2,p.1))=_
  rw [hst,Mc pm (c+1) on earth hok]
  simp;omega
theorem Po {l:List Bool} {b:Bool} {k:Nat} (hk:k<l.length):(List.replicate k b++l.drop k).set k b=List.replicate (k+1) b++l.drop (k+1):=by
 rw [List.set_append_right _ _ (by simp),List.length_replicate,Nat.sub_self,List.drop_eq_getElem_cons hk,List.set_cons_zero,List.replicate_succ',List.append_assoc];rfl
theorem Pn {l:List Bool} {b:Bool} {k:Nat} (hk:k<l.length):(List.replicate k b++l.drop k).getD k false=l.getD k false:=by
 simp [List.getD,List.getElem?_append_right]
theorem Tq {l:List Bool} {b:Bool} {k:Nat} (hk:k<l.length) (h:l.getD k false=b):List.replicate k b++l.drop k=List.replicate (k+1) b++l.drop (k+1):=by
 rw [←Po hk]
 have h2:=Pn (b:=b) hk
 have hl:k<(List.replicate k b++l.drop k).length:=by simp;omega
 rw [ai hl,h] at h2
 have e:=List.set_getElem_self hl
 rw [h2] at e
 exact e.symm
theorem Il {on earth:List Bool} (h:WOk (on,earth,[])) (c:Int): ∀k,k≤earth.length→(dO 3 earth true k).foldl rX (c,on,earth,[])=(c+((dO 3 earth true k).length:Int),on,List.replicate k false++earth.drop k,[])∧WOk (on,List.replicate k false++earth.drop k,[])
 |0,_=>by simpa [dO] using h
 |k+1,hk=>by
  obtain ⟨i1,i2⟩:=Il h c k (by omega)
  have hle:=h.le
  dsimp only at hle
  simp only [dO]
  cases he:earth.getD k false
  ·simp only [show (false==true)=false from rfl,Bool.false_eq_true,if_false]
   rw [←Tq (by omega) he]
   exact ⟨i1,i2⟩
  ·simp only [beq_self_eq_true,if_true,List.foldl_append,List.foldl_cons,List.foldl_nil,i1,List.length_append,List.length_singleton]
   have hm:fi (on,List.replicate k false++earth.drop k,[]) 3 (k:Int) 0=true:=by
    show ((List.replicate k false++earth.drop k).getD (k:Int).toNat false&&decide (da [] (k:Int)=[]))=true
    rw [Int.toNat_natCast,Pn (by omega),he];rfl
   have ha:0≤(k:Int)∧(k:Int)<(on.length:Int):=by omega
   have hst:=uR (s:=(c+((dO 3 earth true k).length:Int),on,List.replicate k false++earth.drop k,[])) i2 ha hm
   have hput:cT (on,List.replicate k false++earth.drop k,[]) 3 (k:Int) 0=(on,List.replicate (k+1) false++earth.drop (k+1),[]):=by
    show (on,(List.replicate k false++earth.drop k).set (k:Int).toNat false,[])=_
    rw [Int.toNat_natCast,Po (by omega)]
   have hok:=(Ny i2 ha hm).1
   dsimp only at hst
   rw [hput] at hst hok
   rw [hst]
   refine ⟨?_,hok⟩
   congr 1
   omega
inductive Cn (E:List (Nat×Nat)):Nat→Nat→Prop
 |refl (a:Nat):Cn E a a
 |step {a b c:Nat}:Cn E a b→(b,c)∈E∨(c,b)∈E→Cn E a c
theorem Cn.trans {E:List (Nat×Nat)} {a b c:Nat} (h:Cn E a b) (k:Cn E b c):Cn E a c:=by
 induction k with
 |refl=>exact h
 |step _ e ih=>exact ih.step e
theorem Cn.one {E:List (Nat×Nat)} {a b:Nat} (h:(a,b)∈E∨(b,a)∈E):Cn E a b:=(Cn.refl a).step h
theorem Cn.symm {E:List (Nat×Nat)} {a b:Nat} (h:Cn E a b):Cn E b a:=by
 induction h with
 |refl=>exact .refl _
 |step _ e ih=>exact (Cn.one e.symm).trans ih
theorem Cn.mono {E F:List (Nat×Nat)} (hEF: ∀e∈E,e∈F) {a b:Nat} (h:Cn E a b):Cn F a b:=by
 induction h with
 |refl=>exact .refl _
 |step _ e ih=>exact ih.step (e.imp (hEF _) (hEF _))
theorem On {E:List (Nat×Nat)} {x y a b:Nat}:Cn (E++ [(x,y)]) a b↔Cn E a b∨(Cn E a x∧Cn E y b)∨(Cn E a y∧Cn E x b):=by
 have hm: ∀ {a b:Nat},Cn E a b→Cn (E++ [(x,y)]) a b:=fun h=>h.mono fun e he=>by simp [he]
 constructor
 ·intro h
  induction h with
  |refl=>exact .inl (.refl _)
  | @step b c _ e ih=>
   have he:((b,c)∈E∨(c,b)∈E)∨((b=x∧c=y)∨(b=y∧c=x)):=by
    simp only [List.mem_append,List.mem_singleton,Prod.mk.injEq] at e
    rcases e with (e |e) |(e |e)
    ·exact .inl (.inl e)
    ·exact .inr (.inl e)
    ·exact .inl (.inr e)
    ·exact .inr (.inr ⟨e.2,e.1⟩)
   rcases he with he |⟨rfl,rfl⟩ |⟨rfl,rfl⟩
   ·rcases ih with ih |⟨h1,h2⟩ |⟨h1,h2⟩
    ·exact .inl (ih.step he)
    ·exact .inr (.inl ⟨h1,h2.step he⟩)
    ·exact .inr (.inr ⟨h1,h2.step he⟩)
   ·rcases ih with ih |⟨h1,h2⟩ |⟨h1,h2⟩
    ·exact .inr (.inl ⟨ih,.refl _⟩)
    ·exact .inr (.inl ⟨h1,.refl _⟩)
    ·exact .inl h1
   ·rcases ih with ih |⟨h1,h2⟩ |⟨h1,h2⟩
    ·exact .inr (.inr ⟨ih,.refl _⟩)
    ·exact .inl h1
    ·exact .inr (.inr ⟨h1,.refl _⟩)
 ·have hxy:Cn (E++ [(x,y)]) x y:=.one (.inl (by simp))
  rintro (h |⟨h1,h2⟩ |⟨h1,h2⟩)
  ·exact hm h
  ·exact ((hm h1).trans hxy).trans (hm h2)
  ·exact ((hm h1).trans hxy.symm).trans (hm h2)
def qR (f:Nat→Nat) (a b:Nat) (c:Nat):Nat:=if f c=max (f a) (f b) then min (f a) (f b) else f c
def aW (E:List (Nat×Nat)):Nat→Nat:=E.foldl (fun f e=>qR f e.1 e.2) id
theorem xO (E:List (Nat×Nat)) (e:Nat×Nat):aW (E++ [e])=qR (aW E) e.1 e.2:=by unfold aW;rw [List.foldl_append];rfl
theorem Tp (f:Nat→Nat) (x y a b:Nat):qR f x y a=qR f x y b↔f a=f b∨(f a=f x∧f y=f b)∨(f a=f y∧f x=f b):=by
 unfold qR
 split<;>split<;>omega
theorem FA {α:Type} {P:List α→Prop} (h0:P []) (h1: ∀l a,P l→P (l++ [a])): ∀l,P l:=by
 intro l
 have: ∀r:List α,P r.reverse:=by
  intro r
  induction r with
  |nil=>exact h0
  |cons a r ih=>rw [List.reverse_cons];exact h1 _ _ ih
 have:=this l.reverse
 rwa [List.reverse_reverse] at this
theorem oc (E:List (Nat×Nat)): ∀a b,aW E a=aW E b↔Cn E a b:=by
 refine FA (P:=fun E=> ∀a b,aW E a=aW E b↔Cn E a b) ?_ ?_ E
 ·intro a b
  constructor
  ·intro h;have h:a=b:=h;subst h;exact .refl _
  ·intro h
   cases h with
   |refl=>rfl
   |step _ e=>simp at e
 ·intro E e ih a b
  obtain ⟨x,y⟩:=e
  rw [xO,Tp,ih,ih,ih,ih,ih,On]
theorem SL (E:List (Nat×Nat)):(∀a,aW E a≤a)∧ ∀a,aW E (aW E a)=aW E a:=by
 refine FA (P:=fun E=>(∀a,aW E a≤a)∧ ∀a,aW E (aW E a)=aW E a) ⟨fun a=>Nat.le_refl a,fun a=>rfl⟩ ?_ E
 rintro E ⟨x,y⟩ ⟨h1,h2⟩
 rw [xO]
 refine ⟨fun a=>?_,fun a=>?_⟩
 ·have:=h1 a
  unfold qR
  split<;>omega
 ·have ha:=h2 a
  have hx:=h2 x
  have hy:=h2 y
  unfold qR
  by_cases hc:aW E a=max (aW E x) (aW E y)
  ·rw [if_pos hc]
   rcases Nat.le_total (aW E x) (aW E y) with hle |hle
   ·rw [Nat.min_eq_left hle,hx];split<;>omega
   ·rw [Nat.min_eq_right hle,hy];split<;>omega
  ·rw [if_neg hc,ha,if_neg hc]
def Dn (u:List Nat):Prop:= ∀b,b<u.length→u.getD b 0≤b
inductive Rot (u:List Nat):Nat→Nat→Prop
 |stop {r:Nat}:u.getD r 0=r→Rot u r r
 |go {b r:Nat}:Rot u (u.getD b 0) r→Rot u b r
theorem Rot.root {u:List Nat} {b r:Nat} (h:Rot u b r):u.getD r 0=r:=by
 induction h with
 |stop h=>exact h
 |go _ ih=>exact ih
theorem Rot.fix {u:List Nat} {b r:Nat} (h:Rot u b r) (hb:u.getD b 0=b):r=b:=by
 induction h with
 |stop _=>rfl
 |go _ ih=>exact (ih (by rw [hb];exact hb)).trans hb
theorem Rot.uniq {u:List Nat} {b r r':Nat} (h:Rot u b r) (h':Rot u b r'):r=r':=by
 induction h with
 |stop h=>exact (h'.fix h).symm
 | @go b r h1 ih=>
  cases h' with
  |stop h2=>exact h1.fix (by rw [h2];exact h2) |>.trans h2
  |go h2=>exact ih h2
theorem Rot.next {u:List Nat} {b r:Nat} (h:Rot u b r):Rot u (u.getD b 0) r:=by
 cases h with
 |stop h=>rw [h];exact .stop h
 |go h=>exact h
theorem Rot.ex {u:List Nat} (h:Dn u): ∀b,b<u.length→ ∃r,Rot u b r∧r≤b:=by
 intro b
 induction b using Nat.strongRecOn with
 |ind b ih=>
  intro hb
  by_cases hc:u.getD b 0=b
  ·exact ⟨b,.stop hc,Nat.le_refl _⟩
  ·have h1:=h b hb
   obtain ⟨r,h2,h3⟩:=ih (u.getD b 0) (by omega) (by omega)
   exact ⟨r,.go h2,by omega⟩
theorem oH {u:List Nat} {b v c:Nat} (hb:b<u.length):(u.set b v).getD c 0=if c=b then v else u.getD c 0:=by
 by_cases h:c=b
 ·subst h;simp [List.getD,hb]
 ·rw [if_neg h];simp [List.getD,List.getElem?_set_ne (Ne.symm h)]
theorem Rot.halve {u:List Nat} (h:Dn u) {b:Nat} (hb:b<u.length): ∀c r,c<u.length→(Rot u c r→Rot (u.set b (u.getD (u.getD b 0) 0)) c r):=by
 intro c
 induction c using Nat.strongRecOn with
 |ind c ih=>
  intro r hc hr
  by_cases hf:u.getD c 0=c
  ·have e:=hr.fix hf
   subst e
   refine .stop ?_
   rw [oH hb]
   split
   ·rename_i e;subst e;rw [hf];exact hf
   ·exact hf
  ·have h1:=h c hc
   refine .go ?_
   rw [oH hb]
   split
   ·rename_i e;subst e
    have h2:=h (u.getD c 0) (by omega)
    exact ih _ (by omega) r (by omega) hr.next.next
   ·exact ih _ (by omega) r (by omega) hr.next
theorem Dn.halve {u:List Nat} (h:Dn u) {b:Nat} (hb:b<u.length):Dn (u.set b (u.getD (u.getD b 0) 0)):=by
 intro c hc
 rw [List.length_set] at hc
 rw [oH hb]
 split
 ·rename_i e;subst e
  have h1:=h c hc
  have h2:=h (u.getD c 0) (by omega)
  omega
 ·exact h c hc
theorem Rot.join {u:List Nat} {f:Nat→Nat} (h:Dn u) (hf: ∀c,c<u.length→Rot u c (f c)) {a b:Nat} (ha:a<u.length) (hb:b<u.length) (hlt: ∀c,c<u.length→f c≤c):
 ∀c,c<u.length→Rot (u.set (max (f a) (f b)) (min (f a) (f b))) c (qR f a b c):=by
 have la:=hlt a ha
 have lb:=hlt b hb
 have hm:max (f a) (f b)<u.length:=by omega
 have hmin:(u.set (max (f a) (f b)) (min (f a) (f b))).getD (min (f a) (f b)) 0=min (f a) (f b):=by
  rw [oH hm]
  split
  ·rfl
  ·rcases Nat.le_total (f a) (f b) with hle |hle
   ·rw [Nat.min_eq_left hle];exact (hf a ha).root
   ·rw [Nat.min_eq_right hle];exact (hf b hb).root
 intro c
 induction c using Nat.strongRecOn with
 |ind c ih=>
  intro hc
  by_cases hcm:c=max (f a) (f b)
  ·have hroot:u.getD c 0=c:=by
    rw [hcm]
    rcases Nat.le_total (f a) (f b) with hle |hle
    ·rw [Nat.max_eq_right hle];exact (hf b hb).root
    ·rw [Nat.max_eq_left hle];exact (hf a ha).root
   have hfc:f c=c:=(hf c hc).fix hroot
   have e:qR f a b c=min (f a) (f b):=by unfold qR;rw [if_pos (by rw [hfc];exact hcm)]
   rw [e]
   refine .go ?_
   rw [oH hm,if_pos hcm]
   exact .stop hmin
  ·by_cases hroot:u.getD c 0=c
   ·have hfc:f c=c:=(hf c hc).fix hroot
    have e:qR f a b c=c:=by unfold qR;rw [if_neg (by rw [hfc];exact hcm),hfc]
    rw [e]
    refine .stop ?_
    rw [oH hm,if_neg hcm];exact hroot
   ·have h1:=h c hc
    have e:f (u.getD c 0)=f c:=(hf (u.getD c 0) (by omega)).uniq (hf c hc).next
    have e2:qR f a b c=qR f a b (u.getD c 0):=by unfold qR;rw [e]
    rw [e2]
    refine .go ?_
    rw [oH hm,if_neg hcm]
    exact ih _ (by omega) (by omega)
def Iy (s:Nat→Bool) (e:Nat×Nat):Nat→Bool:=if s e.1 ||s e.2 then fun c=>c==e.1 ||c==e.2 ||s c else s
def lF (E:List (Nat×Nat)) (s:Nat→Bool):Nat→Bool:=E.foldl Iy s
def aU (E:List (Nat×Nat)) (s:Nat→Bool):Nat→Nat→Bool
 |0=>s
 |k+1=>lF E (aU E s k)
theorem Gy {s:Nat→Bool} {e:Nat×Nat} {c:Nat} (h:s c=true):Iy s e c=true:=by
 unfold Iy;split<;>simp [h]
theorem pd (E:List (Nat×Nat)): ∀ {s:Nat→Bool} {c:Nat},s c=true→lF E s c=true:=by
 induction E with
 |nil=>intro s c h;exact h
 |cons e E ih=>intro s c h;exact ih (Gy h)
theorem IT (E:List (Nat×Nat)): ∀ {s:Nat→Bool} {e:Nat×Nat},e∈E→(s e.1 ||s e.2)=true→lF E s e.1=true∧lF E s e.2=true:=by
 induction E with
 |nil=>intro s e h;simp at h
 |cons d E ih=>
  intro s e h hs
  rcases List.mem_cons.1 h with rfl |h
  ·have h1:Iy s e e.1=true:=by unfold Iy;rw [if_pos hs];simp
   have h2:Iy s e e.2=true:=by unfold Iy;rw [if_pos hs];simp
   exact ⟨pd E h1,pd E h2⟩
  ·refine ih (s:=Iy s d) h ?_
   rw [Bool.or_eq_true] at hs ⊢
   exact hs.imp Gy Gy
theorem Mt {F:List (Nat×Nat)} {b:Nat} (E:List (Nat×Nat)): ∀ {s:Nat→Bool},(∀e∈E,e∈F)→(∀c,s c=true→Cn F b c)→ ∀c,lF E s c=true→Cn F b c:=by
 induction E with
 |nil=>intro s _ h c hc;exact h c hc
 |cons e E ih=>
  intro s hE h c hc
  refine ih (s:=Iy s e) (fun x hx=>hE x (by simp [hx])) (fun c hc=>?_) c hc
  unfold Iy at hc
  split at hc
  ·rename_i hs
   have he:e∈F:=hE e (by simp)
   have h1:Cn F b e.1∧Cn F b e.2:=by
    rw [Bool.or_eq_true] at hs
    rcases hs with hs |hs
    ·exact ⟨h _ hs,(h _ hs).step (.inl he)⟩
    ·exact ⟨(h _ hs).step (.inr he),h _ hs⟩
   simp only [Bool.or_eq_true,beq_iff_eq] at hc
   rcases hc with (rfl |rfl) |hc
   ·exact h1.1
   ·exact h1.2
   ·exact h c hc
  ·exact h c hc
theorem Ko {E:List (Nat×Nat)} {b:Nat} (k:Nat): ∀c,aU E (fun c=>c==b) k c=true→Cn E b c:=by
 induction k with
 |zero=>intro c hc;have:c=b:=by simpa [aU] using hc
        subst this;exact .refl _
 |succ k ih=>exact Mt E (fun _ h=>h) ih
theorem KO {p q:Nat→Bool} (l:List Nat) (h: ∀c,p c=true→q c=true):l.countP p≤l.countP q∧((∃c∈l,q c=true∧p c=false)→l.countP p+1≤l.countP q):=by
 induction l with
 |nil=>exact ⟨Nat.le_refl _,fun ⟨c,hc,_⟩=>by simp at hc⟩
 |cons x l ih=>
  simp only [List.countP_cons]
  have hx:=h x
  refine ⟨?_,?_⟩
  ·cases hp:p x
   ·simp;omega
   ·rw [hx hp];simp;omega
  ·rintro ⟨c,hc,h1,h2⟩
   rcases List.mem_cons.1 hc with rfl |hc
   ·rw [h1,h2];simp;omega
   ·have:=ih.2 ⟨c,hc,h1,h2⟩
    cases hp:p x
    ·simp;omega
    ·rw [hx hp];simp;omega
def MK (E:List (Nat×Nat)) (s:Nat→Bool):Prop:= ∀e∈E,s e.1=s e.2
theorem Hm {E:List (Nat×Nat)} {s:Nat→Bool} (h:MK E s): ∀c,lF E s c=s c:=by
 have: ∀(F:List (Nat×Nat)),(∀e∈F,s e.1=s e.2)→lF F s=s:=by
  intro F
  induction F with
  |nil=>intro _;rfl
  |cons e F ih=>
   intro hF
   have he:Iy s e=s:=by
    have e0:=hF e (by simp)
    unfold Iy
    split
    ·rename_i hs
     funext c
     rw [e0,Bool.or_self] at hs
     by_cases h1:c=e.1
     ·subst h1;simp [e0,hs]
     ·by_cases h2:c=e.2
      ·subst h2;simp [hs]
      ·simp [h1,h2]
    ·rfl
   show lF F (Iy s e)=s
   rw [he]
   exact ih fun x hx=>hF x (by simp [hx])
 intro c;rw [this E h]
theorem Mv {E:List (Nat×Nat)} {B b:Nat} (hE: ∀e∈E,e.1<B∧e.2<B) (hb:b<B): ∀k,MK E (aU E (fun c=>c==b) k)∨k+1≤(List.range B).countP (aU E (fun c=>c==b) k):=by
 intro k
 induction k with
 |zero=>
  refine .inr ?_
  have:=List.countP_pos_iff (p:=fun c=>c==b) (l:=List.range B) |>.2 ⟨b,by simpa using hb,by simp⟩
  simpa [aU] using this
 |succ k ih=>
  by_cases hs:MK E (aU E (fun c=>c==b) k)
  ·left
   have e:aU E (fun c=>c==b) (k+1)=aU E (fun c=>c==b) k:=funext (Hm hs)
   rw [e];exact hs
  ·rcases ih with ih |ih
   ·exact absurd ih hs
   right
   have hm: ∀c,aU E (fun c=>c==b) k c=true→aU E (fun c=>c==b) (k+1) c=true:=fun c hc=>pd E hc
   obtain ⟨e,he,hne⟩: ∃e∈E,aU E (fun c=>c==b) k e.1≠aU E (fun c=>c==b) k e.2:=by
    refine Classical.byContradiction fun hn=>hs fun e he=>Classical.byContradiction fun h=>hn ⟨e,he,h⟩
   have hor:(aU E (fun c=>c==b) k e.1 ||aU E (fun c=>c==b) k e.2)=true:=by
    revert hne;cases aU E (fun c=>c==b) k e.1<;>cases aU E (fun c=>c==b) k e.2<;>simp
   have hh:=IT E he hor
   have hlt:=hE e he
   have:=(KO (List.range B) hm).2 (by
    cases h1:aU E (fun c=>c==b) k e.1
    ·exact ⟨e.1,by simpa using hlt.1,hh.1,h1⟩
    ·cases h2:aU E (fun c=>c==b) k e.2
     ·exact ⟨e.2,by simpa using hlt.2,hh.2,h2⟩
     ·rw [h1,h2] at hne;exact absurd rfl hne)
   omega
theorem QT {E:List (Nat×Nat)} {B b c:Nat} (hE: ∀e∈E,e.1<B∧e.2<B) (hb:b<B):aU E (fun c=>c==b) B c=true↔Cn E b c:=by
 refine ⟨Ko B c,fun h=>?_⟩
 have hs:MK E (aU E (fun c=>c==b) B):=by
  rcases Mv hE hb B with h |h
  ·exact h
  ·have:=List.countP_le_length (p:=aU E (fun c=>c==b) B) (l:=List.range B)
   simp at this;omega
 have hstart: ∀k,aU E (fun c=>c==b) k b=true:=by
  intro k
  induction k with
  |zero=>simp [aU]
  |succ k ih=>exact pd E ih
 induction h with
 |refl=>exact hstart B
 |step _ e ih=>
  rcases e with e |e
  ·rw [←hs _ e];exact ih
  ·rw [hs _ e];exact ih
abbrev Ed:=List (Nat×Nat)
def Fo (E:Ed):Prop:= ∀P e Q,E=P++e::Q→ ¬Cn P e.1 e.2
theorem XO:Fo []:=by
 intro P e Q h
 have:=congrArg List.length h
 simp at this
theorem OD {E:Ed} {e:Nat×Nat}:Fo (E++ [e])↔Fo E∧ ¬Cn E e.1 e.2:=by
 constructor
 ·intro h
  exact ⟨fun P f Q hE=>h P f (Q++ [e]) (by rw [hE];simp),h E e [] rfl⟩
 ·rintro ⟨h1,h2⟩ P f Q hE
  rcases List.eq_nil_or_concat Q with rfl |⟨Q',x,rfl⟩
  ·obtain ⟨rfl,h3⟩:=List.append_inj' hE rfl
   obtain rfl:e=f:=by simpa using h3
   exact h2
  ·have hE':E++ [e]=(P++f::Q')++ [x]:=by rw [hE];simp
   obtain ⟨rfl,h3⟩:=List.append_inj' hE' rfl
   exact h1 P f Q' rfl
theorem WK: ∀(Q P:Ed) (e:Nat×Nat),Fo (P++e::Q)→ ¬Cn (P++Q) e.1 e.2:=by
 refine FA (P:=fun Q=> ∀(P:Ed) (e:Nat×Nat),Fo (P++e::Q)→ ¬Cn (P++Q) e.1 e.2) ?_ ?_
 ·intro P e h
  rw [List.append_nil];exact h P e [] rfl
 ·rintro Q ⟨x,y⟩ ih P e h hc
  have h':Fo ((P++e::Q)++ [(x,y)]):=by simpa using h
  rw [OD] at h'
  have hn:=ih P e h'.1
  have M: ∀ {a b:Nat},Cn (P++Q) a b→Cn (P++e::Q) a b:=fun h=>h.mono fun f hf=>by
   rcases List.mem_append.1 hf with hf |hf<;>simp [hf]
  have he:Cn (P++e::Q) e.1 e.2:=.one (.inl (by simp))
  rw [←List.append_assoc,On] at hc
  rcases hc with hc |⟨h1,h2⟩ |⟨h1,h2⟩
  ·exact hn hc
  ·exact h'.2 ((M h1).symm.trans (he.trans (M h2).symm))
  ·exact h'.2 ((M h2).trans (he.symm.trans (M h1)))
theorem XP {E F:Ed} (hs:E.Sublist F) (h:Fo F):Fo E:=by
 intro P e Q hE hc
 subst hE
 obtain ⟨F1,F2,rfl,s1,s2⟩:=List.append_sublist_iff.1 hs
 obtain ⟨G1,G2,rfl,m1,m2⟩:=List.cons_sublist_iff.1 s2
 obtain ⟨H1,H2,rfl⟩:=List.append_of_mem m1
 refine h (F1++H1) e (H2++G2) (by simp) (hc.mono fun f hf=>?_)
 simp [s1.subset hf]
abbrev Ln:=Int×Int×Int
def cg (l:Ln):Nat×Nat:=(l.1.toNat,l.2.1.toNat)
def uO (z:List (Ln×Bool)):Ed:=(z.filter (·.2)).map fun p=>cg p.1
def aA (ls:List Ln) (on:List Bool):Ed:=uO (ls.zip on)
theorem JM (y z:List (Ln×Bool)):uO (y++z)=uO y++uO z:=by simp [uO]
theorem LL {z:List (Ln×Bool)} {k:Nat} (hk:k<z.length):uO (z.take (k+1))=if z[k].2 then uO (z.take k)++ [cg z[k].1] else uO (z.take k):=by
 rw [List.take_succ_eq_append_getElem hk,JM]
 cases h:z[k].2<;>simp [uO,h]
theorem VN {z:List (Ln×Bool)} {k:Nat} (hk:k<z.length):z=z.take k++z[k]::z.drop (k+1):=by
 rw [←List.drop_eq_getElem_cons hk,List.take_append_drop]
theorem JK {ls:List Ln} {on:List Bool} {k:Nat} (hk:k<ls.length) (hl:on.length=ls.length) (ho:on.getD k false=true):
 aA ls on=uO ((ls.zip on).take k)++cg (ls.getD k (0,0,0))::uO ((ls.zip on).drop (k+1)):=by
 have hz:k<(ls.zip on).length:=by simp;omega
 have e:(ls.zip on)[k]=(ls.getD k (0,0,0),true):=by
  rw [ai (by omega:k<on.length)] at ho
  rw [List.getElem_zip,ai hk,ho]
 have h:=VN hz
 unfold aA
 rw [e] at h
 conv=>lhs;rw [h]
 rw [JM]
 simp [uO]
theorem JL {ls:List Ln} {on:List Bool} {k:Nat} (hk:k<ls.length) (hl:on.length=ls.length):
 aA ls (on.set k false)=uO ((ls.zip on).take k)++uO ((ls.zip on).drop (k+1)):=by
 have e:ls.zip (on.set k false)=(ls.zip on).take k++(ls[k],false)::(ls.zip on).drop (k+1):=by
  apply List.ext_getElem
  ·simp;omega
  ·intro i h1 h2
   have hi:i<ls.length:=by simp at h1;omega
   rw [List.getElem_zip,List.getElem_set,List.getElem_append]
   have hkz:((ls.zip on).take k).length=k:=by simp;omega
   split
   ·rename_i hik
    subst hik
    simp [hkz]
   ·split
    ·simp
    ·rename_i h3 h4
     rw [hkz] at h4
     obtain ⟨j,hj⟩: ∃j,i-((ls.zip on).take k).length=j+1:=⟨i-k-1,by rw [hkz];omega⟩
     simp only [hj,List.getElem_cons_succ,List.getElem_drop,List.getElem_zip]
     have:k+1+j=i:=by rw [hkz] at hj;omega
     simp [this]
 unfold aA
 rw [e,JM]
 simp [uO]
theorem zX {ls:List Ln} {on:List Bool} {e:Nat×Nat}:e∈aA ls on↔ ∃k,k<ls.length∧on.getD k false=true∧e=cg (ls.getD k (0,0,0)):=by
 unfold aA uO
 rw [List.mem_map]
 constructor
 ·rintro ⟨p,hp,rfl⟩
  obtain ⟨h1,h2⟩:=List.mem_filter.1 hp
  obtain ⟨k,hk,rfl⟩:=List.mem_iff_getElem.1 h1
  have hk':k<ls.length∧k<on.length:=by rw [List.length_zip] at hk;omega
  rw [List.getElem_zip] at h2 ⊢
  exact ⟨k,hk'.1,by rw [ai hk'.2];exact h2,by rw [ai hk'.1]⟩
 ·rintro ⟨k,hk,ho,rfl⟩
  have hk2:k<on.length:=by
   rcases Nat.lt_or_ge k on.length with h |h
   ·exact h
   ·rw [List.getD_eq_getElem?_getD,List.getElem?_eq_none h] at ho;simp at ho
  refine ⟨(ls[k],on[k]),List.mem_filter.2 ⟨List.mem_iff_getElem.2 ⟨k,by simp;omega,by simp⟩,?_⟩,by rw [ai hk]⟩
  rw [ai hk2] at ho
  exact ho
theorem VM {ls:List Ln}: ∀ {on on':List Bool},on.length=on'.length→(∀k,on.getD k false=true→on'.getD k false=true)→(aA ls on).Sublist (aA ls on'):=by
 induction ls with
 |nil=>intro on on' _ _;simp [aA,uO]
 |cons l ls ih=>
  intro on on' hl h
  cases on with
  |nil=>simp [aA,uO]
  |cons b on=>
   cases on' with
   |nil=>simp at hl
   |cons b' on'=>
    have h2:=ih (on:=on) (on':=on') (by simpa using hl) (fun k hk=>by have:=h (k+1);simpa using this (by simpa using hk))
    have h0:b=true→b'=true:=fun hb=>by have:=h 0;simpa using this (by simpa using hb)
    unfold aA uO at h2 ⊢
    cases b
    ·cases b'
     ·simpa using h2
     ·simpa using h2.trans (List.sublist_cons_self _ _)
    ·rw [h0 rfl];simpa using h2
def MW (ls:List Ln) (on:List Bool):Bool:=(List.range ls.length).any fun k=>on.getD k false&&aW (aA ls (on.set k false)) (cg (ls.getD k (0,0,0))).1==aW (aA ls (on.set k false)) (cg (ls.getD k (0,0,0))).2
def MV (ls:List Ln) (on:List Bool):Bool:=(List.range ls.length).any fun k=>on.getD k false&&aW (uO ((ls.zip on).take k)) (cg (ls.getD k (0,0,0))).1==aW (uO ((ls.zip on).take k)) (cg (ls.getD k (0,0,0))).2
theorem OE {ls:List Ln} {on:List Bool} (hl:on.length=ls.length) (h: ∀k,k<ls.length→on.getD k false=true→ ¬Cn (uO ((ls.zip on).take k)) (cg (ls.getD k (0,0,0))).1 (cg (ls.getD k (0,0,0))).2):Fo (aA ls on):=by
 have: ∀k,k≤ls.length→Fo (uO ((ls.zip on).take k)):=by
  intro k
  induction k with
  |zero=>intro _;exact XO
  |succ k ih=>
   intro hk
   have hz:k<(ls.zip on).length:=by simp;omega
   rw [LL hz]
   have e1:(ls.zip on)[k].2=on.getD k false:=by rw [ai (by omega)];simp
   have e2:(ls.zip on)[k].1=ls.getD k (0,0,0):=by rw [ai (by omega)];simp
   rw [e1,e2]
   split
   ·rename_i ho
    exact OD.2 ⟨ih (by omega),h k (by omega) ho⟩
   ·exact ih (by omega)
 have h2:=this ls.length (Nat.le_refl _)
 rwa [List.take_of_length_le (by simp;omega)] at h2
theorem Oo {ls:List Ln} {on:List Bool} (hl:on.length=ls.length):MV ls on=false↔Fo (aA ls on):=by
 unfold MV
 rw [List.any_eq_false]
 constructor
 ·intro h
  refine OE hl fun k hk ho hc=>h k (by simpa using hk) ?_
  rw [ho,(oc _ _ _).2 hc];simp
 ·intro h k hk hc
  have hk:k<ls.length:=by simpa using hk
  simp only [Bool.and_eq_true,beq_iff_eq] at hc
  exact h _ _ _ (JK hk hl hc.1) ((oc _ _ _).1 hc.2)
theorem Jh {ls:List Ln} {on:List Bool} (hl:on.length=ls.length):MW ls on=false↔Fo (aA ls on):=by
 unfold MW
 rw [List.any_eq_false]
 constructor
 ·intro h
  refine OE hl fun k hk ho hc=>h k (by simpa using hk) ?_
  rw [ho,JL hk hl,(oc _ _ _).2 (hc.mono fun f hf=>by simp [hf])];simp
 ·intro h k hk hc
  have hk:k<ls.length:=by simpa using hk
  simp only [Bool.and_eq_true,beq_iff_eq] at hc
  rw [JL hk hl] at hc
  rw [JK hk hl hc.1] at h
  exact WK _ _ _ h ((oc _ _ _).1 hc.2)
theorem Xz {ls:List Ln} {on:List Bool} (hl:on.length=ls.length):MV ls on=MW ls on:=by
 cases h:MW ls on
 ·exact (Oo hl).2 ((Jh hl).1 h)
 ·cases h2:MV ls on
  ·rw [(Jh hl).2 ((Oo hl).1 h2)] at h;exact h
  ·rfl
def aL (pts:List (Int×Int)) (b:Nat):Bool:=decide (0<(pts.getD b (0,0)).1)
theorem pR {pts:List (Int×Int)} {b:Nat} (h:aL pts b=true):b<pts.length:=by
 rcases Nat.lt_or_ge b pts.length with h1 |h1
 ·exact h1
 ·simp [aL,List.getElem?_eq_none h1] at h
def NZ (E:Ed) (pts:List (Int×Int)):Bool:=(List.range pts.length).any fun k=>(List.range k).any fun j=>aL pts k&&aL pts j&&aW E j==aW E k
theorem Hr {E:Ed} {pts:List (Int×Int)}:NZ E pts=false↔ ∀a b,aL pts a=true→aL pts b=true→Cn E a b→a=b:=by
 unfold NZ
 rw [List.any_eq_false]
 constructor
 ·intro h
  have key: ∀a b,aL pts a=true→aL pts b=true→Cn E a b→ ¬a<b:=by
   intro a b ha hb hc hlt
   refine h b (by simpa using pR hb) (List.any_eq_true.2 ⟨a,by simpa using hlt,?_⟩)
   rw [ha,hb,(oc _ _ _).2 hc];simp
  intro a b ha hb hc
  have h1:=key a b ha hb hc
  have h2:=key b a hb ha hc.symm
  omega
 ·intro h k hk hc
  obtain ⟨j,hj,h2⟩:=List.any_eq_true.1 hc
  simp only [Bool.and_eq_true,beq_iff_eq] at h2
  have:=h j k h2.1.2 h2.1.1 ((oc _ _ _).1 h2.2)
  have:j<k:=by simpa using hj
  omega
def kW (ls:List Ln) (on:List Bool) (pts:List (Int×Int)):Bool:= !MW ls on&& !NZ (aA ls on) pts
theorem Hc {ls:List Ln} {on:List Bool} {pts:List (Int×Int)} (hl:on.length=ls.length):kW ls on pts=true↔Fo (aA ls on)∧ ∀a b,aL pts a=true→aL pts b=true→Cn (aA ls on) a b→a=b:=by
 unfold kW
 rw [Bool.and_eq_true,Bool.not_eq_true',Bool.not_eq_true',Jh hl,Hr]
theorem Hd {ls:List Ln} {on on':List Bool} {pts:List (Int×Int)} (hl:on.length=ls.length) (hl':on'.length=ls.length) (h: ∀k,on.getD k false=true→on'.getD k false=true) (hr:kW ls on' pts=true):kW ls on pts=true:=by
 rw [Hc hl'] at hr
 rw [Hc hl]
 have hs:=VM (ls:=ls) (hl.trans hl'.symm) h
 exact ⟨XP hs hr.1,fun a b ha hb hc=>hr.2 a b ha hb (hc.mono fun e he=>hs.subset he)⟩
def ia (E:Ed) (pts:List (Int×Int)) (b:Nat):Bool:=(List.range pts.length).any fun f=>aL pts f&&aW E f==aW E b
theorem mq {E:Ed} {pts:List (Int×Int)} {b:Nat}:ia E pts b=true↔ ∃f,aL pts f=true∧Cn E f b:=by
 unfold ia
 rw [List.any_eq_true]
 constructor
 ·rintro ⟨f,_,h⟩
  simp only [Bool.and_eq_true,beq_iff_eq] at h
  exact ⟨f,h.1,(oc _ _ _).1 h.2⟩
 ·rintro ⟨f,h1,h2⟩
  exact ⟨f,by simpa using pR h1,by rw [h1,(oc _ _ _).2 h2];simp⟩
theorem OA {E:Ed} {pts:List (Int×Int)} {a b:Nat} (h:ia E pts a=true) (hc:Cn E a b):ia E pts b=true:=by
 obtain ⟨f,h1,h2⟩:=mq.1 h
 exact mq.2 ⟨f,h1,h2.trans hc⟩
def Lk (ls:List Ln) (on:List Bool) (k b c:Nat):Prop:=k<ls.length∧on.getD k false=true∧(cg (ls.getD k (0,0,0))=(b,c)∨cg (ls.getD k (0,0,0))=(c,b))
structure Par (ls:List Ln) (on:List Bool) (pts:List (Int×Int)) (par:Nat→Int) (rk:Nat→Nat):Prop where
 fed: ∀b,b<pts.length→ia (aA ls on) pts b=true→aL pts b=true∨0≤par b
 feed: ∀b,aL pts b=true→par b<0
 line: ∀b,0≤par b→ ∃c,Lk ls on (par b).toNat b c∧c<pts.length∧ia (aA ls on) pts c=true∧rk c<rk b
inductive Way (ls:List Ln) (on:List Bool) (par:Nat→Int):Nat→List Nat→Prop
 |top {b:Nat}:par b<0→Way ls on par b []
 |step {b c:Nat} {w:List Nat}:0≤par b→Lk ls on (par b).toNat b c→Way ls on par c w→Way ls on par b (w++ [(par b).toNat])
theorem zF {ls:List Ln} {on:List Bool} {k b c d:Nat} (h:Lk ls on k b c) (h':Lk ls on k b d):c=d:=by
 obtain ⟨_,_,h⟩:=h
 obtain ⟨_,_,h'⟩:=h'
 rcases h with h |h<;>rcases h' with h' |h'<;>rw [h] at h'<;>simp only [Prod.mk.injEq] at h'<;>omega
theorem Lk.cn {ls:List Ln} {on:List Bool} {k b c:Nat} (h:Lk ls on k b c):Cn (aA ls on) b c:=by
 obtain ⟨h1,h2,h3⟩:=h
 have hm:=zX.2 ⟨k,h1,h2,rfl⟩
 rcases h3 with h3 |h3<;>rw [h3] at hm
 ·exact .one (.inl hm)
 ·exact .one (.inr hm)
theorem Lk.off {ls:List Ln} {on:List Bool} {k j b c:Nat} (h:Lk ls on k b c) (hj:k≠j):Lk ls (on.set j false) k b c:=by
 obtain ⟨h1,h2,h3⟩:=h
 exact ⟨h1,by rw [←h2];simp [List.getD,List.getElem?_set_ne (Ne.symm hj)],h3⟩
section
variable {ls:List Ln} {on:List Bool} {pts:List (Int×Int)} {par:Nat→Int} {rk:Nat→Nat} (P:Par ls on pts par rk) (hl:on.length=ls.length)
include P
theorem Par.way: ∀(n b:Nat),rk b≤n→ ∃w,Way ls on par b w:=by
 intro n
 induction n with
 |zero=>
  intro b hb
  by_cases h:0≤par b
  ·obtain ⟨c,_,_,_,h2⟩:=P.line b h;omega
  ·exact ⟨[],.top (by omega)⟩
 |succ n ih=>
  intro b hb
  by_cases h:0≤par b
  ·obtain ⟨c,h1,_,_,h2⟩:=P.line b h
   obtain ⟨w,hw⟩:=ih c (by omega)
   exact ⟨_,.step h h1 hw⟩
  ·exact ⟨[],.top (by omega)⟩
omit P in
theorem Way.uniq {b:Nat} {w v:List Nat} (h:Way ls on par b w):Way ls on par b v→w=v:=by
 induction h generalizing v with
 |top h=>intro h';cases h' with
  |top _=>rfl
  |step h2 _ _=>omega
 |step h1 h2 _ ih=>intro h';cases h' with
  |top h3=>omega
  |step h3 h4 h5=>
   obtain rfl:=zF h2 h4
   rw [ih h5]
theorem Par.up {b c:Nat} (h:0≤par b) (h2:Lk ls on (par b).toNat b c):c<pts.length∧ia (aA ls on) pts c=true∧rk c<rk b:=by
 obtain ⟨d,h3,h4⟩:=P.line b h
 rw [zF h2 h3];exact h4
theorem Par.inj {b d:Nat} (hb:0≤par b) (hd:0≤par d) (h:par b=par d):b=d:=by
 obtain ⟨c,h1,_,_,h2⟩:=P.line b hb
 obtain ⟨e,h3,_,_,h4⟩:=P.line d hd
 rw [←h] at h3
 obtain ⟨_,_,h1⟩:=h1
 obtain ⟨_,_,h3⟩:=h3
 rcases h1 with h1 |h1<;>rcases h3 with h3 |h3<;>rw [h1] at h3<;>simp only [Prod.mk.injEq] at h3<;>obtain ⟨rfl,rfl⟩:=h3<;>first |rfl |omega
theorem Way.mem {b:Nat} {w:List Nat} (h:Way ls on par b w): ∀k∈w,∃d,0≤par d∧(par d).toNat=k∧rk d≤rk b:=by
 induction h with
 |top _=>intro k hk;simp at hk
 | @step b c w h1 h2 _ ih=>
  intro k hk
  rcases List.mem_append.1 hk with hk |hk
  ·obtain ⟨d,h3,h4,h5⟩:=ih k hk
   exact ⟨d,h3,h4,by have:=(P.up h1 h2).2.2;omega⟩
  ·exact ⟨b,h1,(List.mem_singleton.1 hk).symm,Nat.le_refl _⟩
theorem Way.last {b c:Nat} {w:List Nat} (h1:0≤par b) (h2:Lk ls on (par b).toNat b c) (h:Way ls on par c w):(par b).toNat∉w:=by
 intro hm
 obtain ⟨d,h3,h4,h5⟩:=Way.mem P h _ hm
 have h6:=(P.up h1 h2).2.2
 have:b=d:=P.inj h1 h3 (by omega)
 subst this;omega
theorem Way.nodup {b:Nat} {w:List Nat} (h:Way ls on par b w):w.Nodup:=by
 induction h with
 |top _=>simp
 |step h1 h2 h3 ih=>
  rw [List.nodup_append]
  refine ⟨ih,by simp,fun a ha b hb=>?_⟩
  obtain rfl:b=_:=by simpa using hb
  intro e
  exact Way.last P h1 h2 h3 (e▸ha)
theorem Way.stays {b k:Nat} {w:List Nat} (h:Way ls on par b w) (hb:b<pts.length) (hf:ia (aA ls on) pts b=true) (hk:k∉w):ia (aA ls (on.set k false)) pts b=true:=by
 induction h with
 | @top b h=>
  rcases P.fed b hb hf with h1 |h1
  ·exact mq.2 ⟨b,h1,.refl _⟩
  ·omega
 | @step b c w h1 h2 _ ih=>
  have hc:=P.up h1 h2
  have:=ih hc.1 hc.2.1 fun hm=>hk (by simp [hm])
  exact OA this (h2.off fun e=>hk (by simp [e])).cn.symm
theorem Way.under {b k:Nat} {w:List Nat} (h:Way ls on par b w) (hk:k∈w): ∃d c v,0≤par d∧(par d).toNat=k∧Lk ls on k d c∧Way ls on par c v∧k∉v∧c<pts.length∧ia (aA ls on) pts c=true∧Cn (aA ls (on.set k false)) d b:=by
 induction h with
 |top _=>simp at hk
 | @step b c w h1 h2 h3 ih=>
  have hc:=P.up h1 h2
  by_cases he:k=(par b).toNat
  ·subst he
   exact ⟨b,c,w,h1,rfl,h2,h3,Way.last P h1 h2 h3,hc.1,hc.2.1,.refl _⟩
  ·have hm:k∈w:=by simpa [he] using hk
   obtain ⟨d,e,v,g1,g2,g3,g4,g5,g6,g7,g8⟩:=ih hm
   exact ⟨d,e,v,g1,g2,g3,g4,g5,g6,g7,g8.trans (h2.off (Ne.symm he)).cn.symm⟩
include hl in
theorem Way.iff (hr:kW ls on pts=true) {b k:Nat} {w:List Nat} (h:Way ls on par b w) (hb:b<pts.length) (hf:ia (aA ls on) pts b=true):k∈w↔ia (aA ls (on.set k false)) pts b=false:=by
 constructor
 ·intro hk
  obtain ⟨d,c,v,h1,h2,h3,h4,h5,h6,h7,h8⟩:=Way.under P h hk
  cases hx:ia (aA ls (on.set k false)) pts b
  ·rfl
  exfalso
  obtain ⟨f,f1,f2⟩:=mq.1 hx
  obtain ⟨g,g1,g2⟩:=mq.1 (Way.stays P h4 h6 h7 h5)
  obtain ⟨hk1,hk2,hk3⟩:=h3
  have hoff:=JL hk1 hl
  have hon:=JK hk1 hl hk2
  have M: ∀ {x y:Nat},Cn (aA ls (on.set k false)) x y→Cn (aA ls on) x y:=fun hxy=>hxy.mono fun e he=>by
   rw [hoff] at he;rw [hon]
   rcases List.mem_append.1 he with he |he<;>simp [he]
  rw [Hc hl] at hr
  have hdc:Cn (aA ls on) d c:=Lk.cn ⟨hk1,hk2,hk3⟩
  have hfg:f=g:=hr.2 f g f1 g1 ((M f2).trans ((M h8).symm.trans (hdc.trans (M g2).symm)))
  subst hfg
  have hj:Cn (aA ls (on.set k false)) d c:=(h8.trans f2.symm).trans g2
  rw [hoff] at hj
  have hfo:=hr.1
  rw [hon] at hfo
  have:=WK _ _ _ hfo
  rcases hk3 with e |e<;>rw [e] at this
  ·exact this hj
  ·exact this hj.symm
 ·intro hx
  refine Classical.byContradiction fun hk=>?_
  rw [Way.stays P h hb hf hk] at hx
  cases hx
end
def fO (ls:List Ln) (on:List Bool) (pts:List (Int×Int)) (k:Nat):Int:=
 ((List.range pts.length).map fun b=>if ia (aA ls on) pts b&& !ia (aA ls (on.set k false)) pts b then (pts.getD b (0,0)).2 else 0).sum
open Classical in
noncomputable def Er (n:Nat) (f:Nat→Int) (p:Nat→Prop):Int:=((List.range n).map fun b=>if p b then f b else 0).sum
theorem PM {n:Nat} {f g h:Nat→Int} (e: ∀b,b<n→f b=g b+h b):((List.range n).map f).sum=((List.range n).map g).sum+((List.range n).map h).sum:=by
 induction n with
 |zero=>rfl
 |succ n ih=>
  rw [List.range_succ,List.map_append,List.map_append,List.map_append,List.sum_append,List.sum_append,List.sum_append,ih fun b hb=>e b (by omega)]
  have:=e n (by omega)
  simp only [List.map_cons,List.map_nil,List.sum_cons,List.sum_nil]
  omega
theorem pY {n:Nat} {f g:Nat→Int} (e: ∀b,b<n→f b=g b):((List.range n).map f).sum=((List.range n).map g).sum:=by
 congr 1
 exact List.map_congr_left fun b hb=>e b (by simpa using hb)
theorem xF {n:Nat} {f:Nat→Int} (e: ∀b,b<n→f b=0):((List.range n).map f).sum=0:=by
 rw [pY e]
 induction n with
 |zero=>rfl
 |succ n ih=>rw [List.range_succ,List.map_append,List.sum_append,ih fun b hb=>e b (by omega)];rfl
theorem PH {n:Nat} (f:Nat→Int) {a:Nat} (ha:a<n):((List.range n).map fun b=>if b=a then f b else 0).sum=f a:=by
 induction n with
 |zero=>omega
 |succ n ih=>
  rw [List.range_succ,List.map_append,List.sum_append]
  by_cases h:a=n
  ·subst h
   rw [xF fun b hb=>if_neg (by omega)]
   simp
  ·rw [ih (by omega)]
   simp only [List.map_cons,List.map_nil,List.sum_cons,List.sum_nil]
   rw [if_neg (by omega)];omega
theorem Mr {n:Nat} {f:Nat→Int} {p q r:Nat→Prop} (e: ∀b,b<n→(p b↔q b∨r b)) (d: ∀b,b<n→ ¬(q b∧r b)):Er n f p=Er n f q+Er n f r:=by
 refine PM fun b hb=>?_
 have h1:=e b hb
 have h2:=d b hb
 by_cases hq:q b
 ·have hr: ¬r b:=fun h=>h2 ⟨hq,h⟩
  rw [if_pos (h1.2 (.inl hq)),if_pos hq,if_neg hr];omega
 ·by_cases hr:r b
  ·rw [if_pos (h1.2 (.inr hr)),if_neg hq,if_pos hr];omega
  ·rw [if_neg (fun h=>(h1.1 h).elim hq hr),if_neg hq,if_neg hr];rfl
theorem Hq {n:Nat} {f:Nat→Int} {p q:Nat→Prop} (e: ∀b,b<n→(p b↔q b)):Er n f p=Er n f q:=by
 refine pY fun b hb=>?_
 by_cases h:p b
 ·rw [if_pos h,if_pos ((e b hb).1 h)]
 ·rw [if_neg h,if_neg fun h2=>h ((e b hb).2 h2)]
theorem Uc {n:Nat} {f:Nat→Int} {a:Nat} (ha:a<n):Er n f (fun b=>b=a)=f a:=by
 rw [←PH f ha]
 exact pY fun b hb=>by by_cases h:b=a<;>simp [h]
theorem QR {n:Nat} {f:Nat→Int} {p:Nat→Prop} (e: ∀b,b<n→ ¬p b):Er n f p=0:=
 xF fun b hb=>if_neg (e b hb)
def di (E:Ed) (pts:List (Int×Int)) (f:Int×Int→Int) (b:Nat):Int:=((List.range pts.length).map fun c=>if aW E c=aW E b then f (pts.getD c (0,0)) else 0).sum
def Up (ls:List Ln) (on:List Bool) (par:Nat→Int) (b c:Nat):Prop:=0≤par b∧Lk ls on (par b).toNat b c
inductive An (ls:List Ln) (on:List Bool) (par:Nat→Int) (d:Nat):Nat→Prop
 |self:An ls on par d d
 |step {b c:Nat}:Up ls on par b c→An ls on par d c→An ls on par d b
section
variable {ls:List Ln} {on:List Bool} {pts:List (Int×Int)} {par:Nat→Int} {rk:Nat→Nat} (P:Par ls on pts par rk) (hl:on.length=ls.length)
theorem Up.inj {b c d:Nat} (h:Up ls on par b c) (h':Up ls on par b d):c=d:=zF h.2 h'.2
theorem An.trans {a b c:Nat} (h:An ls on par a b) (h':An ls on par b c):An ls on par a c:=by
 induction h' with
 |self=>exact h
 |step u _ ih=>exact .step u ih
theorem An.top {o b:Nat}:An ls on par o b↔b=o∨ ∃d,Up ls on par d o∧An ls on par d b:=by
 constructor
 ·intro h
  induction h with
  |self=>exact .inl rfl
  | @step b c u h ih=>
   rcases ih with rfl |⟨d,h1,h2⟩
   ·exact .inr ⟨b,u,.self⟩
   ·exact .inr ⟨d,h1,.step u h2⟩
 ·rintro (rfl |⟨d,h1,h2⟩)
  ·exact .self
  ·exact An.trans (.step h1 .self) h2
theorem An.chain {d e b:Nat} (h:An ls on par d b) (h':An ls on par e b):An ls on par d e∨An ls on par e d:=by
 induction h with
 |self=>exact .inr h'
 | @step b c u h ih=>
  cases h' with
  |self=>exact .inl (.step u h)
  |step u' h2=>
   obtain rfl:=u.inj u'
   exact ih h2
include P
theorem An.rkle {d b:Nat} (h:An ls on par d b):rk d≤rk b:=by
 induction h with
 |self=>exact Nat.le_refl _
 |step u _ ih=>have:=(P.up u.1 u.2).2.2;omega
omit P in
theorem An.proper {d b c:Nat} (h:An ls on par d b) (u:Up ls on par b c) (hne:d≠b):An ls on par d c:=by
 cases h with
 |self=>exact absurd rfl hne
 |step u' h'=>rw [u.inj u'];exact h'
theorem An.way {d b:Nat} {w:List Nat} (hd:0≤par d) (h:Way ls on par b w):An ls on par d b↔(par d).toNat∈w:=by
 induction h with
 | @top b h=>
  constructor
  ·intro h1
   cases h1 with
   |self=>omega
   |step u _=>have:=u.1;omega
  ·intro h1;simp at h1
 | @step b c w h1 h2 h3 ih=>
  constructor
  ·intro h
   by_cases e:d=b
   ·subst e;simp
   ·have:=ih.1 (An.proper h ⟨h1,h2⟩ e)
    simp [this]
  ·intro h
   rcases List.mem_append.1 h with h |h
   ·exact .step ⟨h1,h2⟩ (ih.2 h)
   ·have e:(par d).toNat=(par b).toNat:=by simpa using h
    rw [P.inj hd h1 (by omega)];exact .self
theorem Up.fed {b c:Nat} (u:Up ls on par b c):ia (aA ls on) pts b=true:=OA (P.up u.1 u.2).2.1 u.2.cn.symm
theorem An.fed {d b:Nat} (h:An ls on par d b) (hd:ia (aA ls on) pts d=true):ia (aA ls on) pts b=true:=by
 induction h with
 |self=>exact hd
 |step u _ _=>exact Up.fed P u
include hl in
theorem Par.flow (hr:kW ls on pts=true) {d:Nat} (hd:0≤par d):fO ls on pts (par d).toNat=Er pts.length (fun b=>(pts.getD b (0,0)).2) (An ls on par d):=by
 refine pY fun b hb=>?_
 obtain ⟨c,hc,_⟩:=P.line d hd
 have hdf:ia (aA ls on) pts d=true:=Up.fed P ⟨hd,hc⟩
 obtain ⟨w,hw⟩:=P.way (rk b) b (Nat.le_refl _)
 cases hf:ia (aA ls on) pts b
 ·have hna: ¬An ls on par d b:=fun h=>by rw [An.fed P h hdf] at hf;cases hf
  simp [hna]
 ·have h1:=Way.iff P hl hr hw hb hf (k:=(par d).toNat)
  have h2:=An.way P hd hw
  cases hx:ia (aA ls (on.set (par d).toNat false)) pts b
  ·have ha:=h2.2 (h1.2 hx)
   simp [ha]
  ·have hna: ¬An ls on par d b:=fun h=>by have:=h1.1 (h2.1 h);rw [hx] at this;cases this
   simp [hna]
include hl in
theorem Par.flow0 (hr:kW ls on pts=true) {k:Nat} (hk: ∀d,0≤par d→(par d).toNat≠k):fO ls on pts k=0:=by
 refine xF fun b hb=>?_
 obtain ⟨w,hw⟩:=P.way (rk b) b (Nat.le_refl _)
 cases hf:ia (aA ls on) pts b
 ·rfl
 ·cases hx:ia (aA ls (on.set k false)) pts b
  ·have h1:=(Way.iff P hl hr hw hb hf (k:=k)).2 hx
   obtain ⟨d,h2,h3,_⟩:=Way.mem P hw k h1
   exact absurd h3 (hk d h2)
  ·rfl
omit P
def Wt (ls:List Ln) (on:List Bool) (par:Nat→Int) (rk:Nat→Nat) (F:Nat→Prop) (i c b:Nat):Prop:=(b=c∧F c∧i≤rk c)∨ ∃d,Up ls on par d c∧i≤rk d∧An ls on par d b
noncomputable def oR (ls:List Ln) (on:List Bool) (pts:List (Int×Int)) (par:Nat→Int) (rk:Nat→Nat) (i c:Nat):Int:=Er pts.length (fun b=>(pts.getD b (0,0)).2) (Wt ls on par rk (fun c=>ia (aA ls on) pts c=true) i c)
noncomputable def nA (ls:List Ln) (on:List Bool) (pts:List (Int×Int)) (par:Nat→Int) (o:Nat):Int:=Er pts.length (fun b=>(pts.getD b (0,0)).2) (An ls on par o)
include P
theorem Par.want_self {i o:Nat} (ho:rk o=i) (hb:o<pts.length) (hf:ia (aA ls on) pts o=true):oR ls on pts par rk (i+1) o+(pts.getD o (0,0)).2=nA ls on pts par o:=by
 unfold oR nA
 rw [←Uc (f:=fun b=>(pts.getD b (0,0)).2) hb]
 refine (Mr (fun b hb=>?_) (fun b hb=>?_)).symm
 ·rw [An.top]
  constructor
  ·rintro (h |⟨d,h1,h2⟩)
   ·exact .inr h
   ·exact .inl (.inr ⟨d,h1,by have:=(P.up h1.1 h1.2).2.2;omega,h2⟩)
  ·rintro ((⟨_,_,h⟩ |⟨d,h1,_,h2⟩) |h)
   ·omega
   ·exact .inr ⟨d,h1,h2⟩
   ·exact .inl h
 ·rintro ⟨⟨_,_,h⟩ |⟨d,h1,_,h2⟩,rfl⟩
  ·omega
  ·have:=An.rkle P h2
   have:=(P.up h1.1 h1.2).2.2
   omega
theorem Par.want_now {i o:Nat} (ho:rk o=i) (hf:ia (aA ls on) pts o=true):oR ls on pts par rk i o=nA ls on pts par o:=by
 refine Hq fun b hb=>?_
 rw [An.top]
 constructor
 ·rintro (⟨h,_⟩ |⟨d,h1,_,h2⟩)
  ·exact .inl h
  ·exact .inr ⟨d,h1,h2⟩
 ·rintro (h |⟨d,h1,h2⟩)
  ·exact .inl ⟨h,hf,by omega⟩
  ·exact .inr ⟨d,h1,by have:=(P.up h1.1 h1.2).2.2;omega,h2⟩
theorem Par.want_up {i o c:Nat} (hinj: ∀a b,ia (aA ls on) pts a=true→ia (aA ls on) pts b=true→rk a=rk b→a=b) (ho:rk o=i) (u:Up ls on par o c):oR ls on pts par rk i c=oR ls on pts par rk (i+1) c+nA ls on pts par o:=by
 have hrk:=(P.up u.1 u.2).2.2
 refine Mr (fun b hb=>?_) (fun b hb=>?_)
 ·constructor
  ·rintro (⟨_,_,h⟩ |⟨d,h1,h2,h3⟩)
   ·omega
   ·by_cases e:rk d=i
    ·rw [hinj o d (Up.fed P u) (Up.fed P h1) (by omega)];exact .inr h3
    ·exact .inl (.inr ⟨d,h1,by omega,h3⟩)
  ·rintro ((⟨_,_,h⟩ |⟨d,h1,h2,h3⟩) |h)
   ·omega
   ·exact .inr ⟨d,h1,by omega,h3⟩
   ·exact .inr ⟨o,u,by omega,h⟩
 ·rintro ⟨⟨_,_,h⟩ |⟨d,h1,h2,h3⟩,h4⟩
  ·omega
  ·have hne:d≠o:=fun e=>by subst e;omega
   rcases An.chain h3 h4 with h |h
   ·have:=An.rkle P (An.proper h u hne)
    have:=(P.up h1.1 h1.2).2.2
    omega
   ·have:=An.rkle P (An.proper h h1 (Ne.symm hne))
    omega
theorem Par.want_else {i o c:Nat} (hinj: ∀a b,ia (aA ls on) pts a=true→ia (aA ls on) pts b=true→rk a=rk b→a=b) (ho:rk o=i) (hf:ia (aA ls on) pts o=true) (h1:c≠o) (h2: ¬Up ls on par o c):oR ls on pts par rk i c=oR ls on pts par rk (i+1) c:=by
 refine Hq fun b hb=>?_
 constructor
 ·rintro (⟨h3,h4,h5⟩ |⟨d,h3,h4,h5⟩)
  ·refine .inl ⟨h3,h4,?_⟩
   by_cases e:rk c=i
   ·exact absurd (hinj c o h4 hf (by omega)) h1
   ·omega
  ·refine .inr ⟨d,h3,?_,h5⟩
   by_cases e:rk d=i
   ·rw [hinj d o (Up.fed P h3) hf (by omega)] at h3;exact absurd h3 h2
   ·omega
 ·rintro (⟨h3,h4,h5⟩ |⟨d,h3,h4,h5⟩)
  ·exact .inl ⟨h3,h4,by omega⟩
  ·exact .inr ⟨d,h3,by omega,h5⟩
end
def yD (b:Int) (l:Ln):Bool:=HN l.1 0 (b-1)&&HN l.2.1 0 (b-1)&& !(l.1==l.2.1)&&HN l.2.2 1 999
def Ec (b:Int) (ls:List Ln):Bool:=HN b 1 8&&decide (ls.length≤10)&& !(List.range ls.length).any fun k=> !yD b (ls.getD k (0,0,0))
def HC (p:Int×Int):Bool:=HN p.1 0 999&&HN p.2 0 999
def qa (b:Int) (ls:List Ln) (pts:List (Int×Int)):Bool:=Ec b ls&&decide ((pts.length:Int)=b)&& !(List.range pts.length).any fun k=> !HC (pts.getD k (0,0))
def Ws (b:Int) (ls:List Ln) (on:List Bool):Bool:=Ec b ls&&decide (on.length=ls.length)
def LK (b:Int) (ls:List Ln) (on:List Bool) (pts:List (Int×Int)):Bool:=Ws b ls on&&qa b ls pts
def uQ (b:Int) (ls:List Ln) (on:List Bool) (pts:List (Int×Int)):Bool:=LK b ls on pts&&kW ls on pts
structure LnOk (b:Int) (l:Ln):Prop where
 a:0≤l.1∧l.1<b
 b:0≤l.2.1∧l.2.1<b
 ne:l.1≠l.2.1
 m:1≤l.2.2∧l.2.2≤999
structure NetOk (b:Int) (ls:List Ln):Prop where
 b0:1≤b
 b1:b≤8
 ll:ls.length≤10
 ln: ∀k,k<ls.length→LnOk b (ls.getD k (0,0,0))
theorem ID {b:Int} {l:Ln}:yD b l=true↔LnOk b l:=by
 simp only [yD,Bool.and_eq_true,sT,Bool.not_eq_true',beq_eq_false_iff_ne]
 constructor
 ·rintro ⟨⟨⟨h1,h2⟩,h3⟩,h4⟩;exact ⟨by omega,by omega,h3,h4⟩
 ·intro h;have:=h.a;have:=h.b;exact ⟨⟨⟨by omega,by omega⟩,h.ne⟩,h.m⟩
theorem uK {b:Int} {ls:List Ln}:Ec b ls=true↔NetOk b ls:=by
 unfold Ec
 rw [Bool.and_eq_true,KE,Bool.and_eq_true,sT,decide_eq_true_eq]
 constructor
 ·rintro ⟨⟨h1,h2⟩,h3⟩;exact ⟨h1.1,h1.2,h2,fun k hk=>ID.1 (by have:=h3 k hk;simpa using this)⟩
 ·intro h;exact ⟨⟨⟨h.b0,h.b1⟩,h.ll⟩,fun k hk=>by rw [ID.2 (h.ln k hk)];rfl⟩
structure BusOk (b:Int) (ls:List Ln) (pts:List (Int×Int)):Prop where
 net:NetOk b ls
 lp:(pts.length:Int)=b
 bs: ∀k,k<pts.length→(0≤(pts.getD k (0,0)).1∧(pts.getD k (0,0)).1≤999)∧(0≤(pts.getD k (0,0)).2∧(pts.getD k (0,0)).2≤999)
theorem uY {b:Int} {ls:List Ln} {pts:List (Int×Int)}:qa b ls pts=true↔BusOk b ls pts:=by
 unfold qa
 rw [Bool.and_eq_true,KE,Bool.and_eq_true,uK,decide_eq_true_eq]
 constructor
 ·rintro ⟨⟨h1,h2⟩,h3⟩;exact ⟨h1,h2,fun k hk=>by have:=h3 k hk;simpa [HC,sT] using this⟩
 ·intro h;exact ⟨⟨h.net,h.lp⟩,fun k hk=>by
   have h2:HC (pts.getD k (0,0))=true:=by unfold HC;rw [Bool.and_eq_true,sT,sT];exact h.bs k hk
   rw [h2];rfl⟩
theorem Tb {b:Int} {ls:List Ln} {pts:List (Int×Int)} (h:BusOk b ls pts) (on:List Bool): ∀e∈aA ls on,e.1<pts.length∧e.2<pts.length:=by
 intro e he
 obtain ⟨k,hk,_,rfl⟩:=zX.1 he
 have h1:=h.net.ln k hk
 have:=h.lp;have:=h1.a;have:=h1.b
 exact ⟨by unfold cg;dsimp only;omega,by unfold cg;dsimp only;omega⟩
theorem vt: ∀ {l m:List Int},l.Pairwise (· < ·)→m.Pairwise (· < ·)→(∀x,x∈l↔x∈m)→l=m
 | [],[],_,_,_=>rfl
 | [],y::m,_,_,h=>by have:=(h y).2 (by simp);simp at this
 |x::l,[],_,_,h=>by have:=(h x).1 (by simp);simp at this
 |x::l,y::m,hl,hm,h=>by
  rw [List.pairwise_cons] at hl hm
  have hxy:x=y:=by
   rcases List.mem_cons.1 ((h x).1 (by simp)) with h1 |h1
   ·exact h1
   ·rcases List.mem_cons.1 ((h y).2 (by simp)) with h2 |h2
    ·exact h2.symm
    ·have:=hm.1 x h1;have:=hl.1 y h2;omega
  subst hxy
  rw [vt hl.2 hm.2 fun z=>?_]
  constructor
  ·intro hz
   rcases List.mem_cons.1 ((h z).1 (by simp [hz])) with h1 |h1
   ·subst h1;have:=hl.1 z hz;omega
   ·exact h1
  ·intro hz
   rcases List.mem_cons.1 ((h z).2 (by simp [hz])) with h1 |h1
   ·subst h1;have:=hm.1 z hz;omega
   ·exact h1
def GE (a:Int) (l:List Int):List Int:=l.filter (fun x=>decide (x<a))++a::l.filter (fun x=>decide (a<x))
theorem GF {a:Int} {l:List Int} {x:Int}:x∈GE a l↔x=a∨x∈l:=by
 simp only [GE,List.mem_append,List.mem_cons,List.mem_filter,decide_eq_true_eq]
 constructor
 ·rintro (⟨h,_⟩ |h |⟨h,_⟩)
  ·exact .inr h
  ·exact .inl h
  ·exact .inr h
 ·rintro (h |h)
  ·exact .inr (.inl h)
  ·rcases Int.lt_trichotomy x a with h1 |h1 |h1
   ·exact .inl ⟨h,h1⟩
   ·exact .inr (.inl h1)
   ·exact .inr (.inr ⟨h,h1⟩)
theorem wP {a:Int} {l:List Int} (h:l.Pairwise (· < ·)):(GE a l).Pairwise (· < ·):=by
 unfold GE
 rw [List.pairwise_append,List.pairwise_cons]
 refine ⟨h.sublist List.filter_sublist,⟨fun x hx=>?_,h.sublist List.filter_sublist⟩,fun x hx y hy=>?_⟩
 ·have:=(List.mem_filter.1 hx).2;simpa using this
 ·have h1:x<a:=by have:=(List.mem_filter.1 hx).2;simpa using this
  rcases List.mem_cons.1 hy with rfl |hy
  ·exact h1
  ·have:a<y:=by have:=(List.mem_filter.1 hy).2;simpa using this
   omega
theorem HY {l:List Int} (h: ∀k,k+1<l.length→l.getD k 0<l.getD (k+1) 0):l.Pairwise (· < ·):=by
 rw [List.pairwise_iff_getElem]
 have key: ∀d i,i+d+1<l.length→l.getD i 0<l.getD (i+d+1) 0:=by
  intro d
  induction d with
  |zero=>intro i hi;exact h i hi
  |succ d ih=>
   intro i hi
   have h1:=ih i (by omega)
   have h2:=h (i+d+1) (by omega)
   have e:i+(d+1)+1=i+d+1+1:=by omega
   rw [e];omega
 intro i j hi hj hij
 have:=key (j-i-1) i (by omega)
 rw [show i+(j-i-1)+1=j by omega,ai hi,ai hj] at this
 exact this
theorem tA {l:List Int} (h:l.Pairwise (· < ·)) {k:Nat} (hk:k+1<l.length):l.getD k 0<l.getD (k+1) 0:=by
 rw [List.pairwise_iff_getElem] at h
 rw [ai (by omega),ai hk]
 exact h k (k+1) (by omega) hk (by omega)
@[ext] structure Wd where
 b:Int
 ls:List Ln
 pts:List (Int×Int)
 on:List Bool
 earth:List Bool
 pm:Pm
 br:List Int
def Wd.wk (w:Wd):Wk:=(w.on,w.earth,w.pm)
def Wd.put (w:Wd) (k:Wk):Wd:=⟨w.b,w.ls,w.pts,k.1,k.2.1,k.2.2,w.br⟩
def Wd.zero:Wd:=⟨0,[],[],[],[],[],[]⟩
theorem YP (w:Wd) (k:Wk):(w.put k).wk=k:=rfl
theorem LX (w:Wd):w.put w.wk=w:=rfl
def zg (on:List Bool) (br:List Int) (k:Nat):Bool:=(decide (0≤br.getD k 0)&&decide (br.getD k 0<(on.length:Int)))&& !on.getD (br.getD k 0).toNat false&&(decide (k=0) ||decide (br.getD (k-1) 0<br.getD k 0))
def ZC (on:List Bool) (br:List Int):Bool:= !(List.range br.length).any fun k=> !zg on br k
def wv (w:Wd):Bool:=qa w.b w.ls w.pts&&nv w.on w.earth w.pm&&decide (w.on.length=w.ls.length)&&ZC w.on w.br&&kW w.ls w.on w.pts
structure WdOk (w:Wd):Prop where
 bus:BusOk w.b w.ls w.pts
 work:WOk w.wk
 len:w.on.length=w.ls.length
 inn: ∀x∈w.br,(0≤x∧x<(w.on.length:Int))∧w.on.getD x.toNat false=false
 sor:w.br.Pairwise (· < ·)
 rad:kW w.ls w.on w.pts=true
theorem UW {on:List Bool} {br:List Int}:ZC on br=true↔(∀x∈br,(0≤x∧x<(on.length:Int))∧on.getD x.toNat false=false)∧br.Pairwise (· < ·):=by
 unfold ZC
 rw [KE]
 constructor
 ·intro h
  have h1: ∀k,k<br.length→(0≤br.getD k 0∧br.getD k 0<(on.length:Int))∧on.getD (br.getD k 0).toNat false=false∧(k=0∨br.getD (k-1) 0<br.getD k 0):=by
   intro k hk
   have:=h k hk
   simpa only [zg,Bool.not_eq_false',Bool.and_eq_true,Bool.or_eq_true,decide_eq_true_eq,Bool.not_eq_true',and_assoc] using this
  refine ⟨fun x hx=>?_,HY fun k hk=>?_⟩
  ·obtain ⟨k,hk,rfl⟩:=List.mem_iff_getElem.1 hx
   have:=h1 k hk
   rw [ai hk] at this
   exact ⟨this.1,this.2.1⟩
  ·rcases (h1 (k+1) hk).2.2 with h2 |h2
   ·omega
   ·simpa using h2
 ·rintro ⟨h1,h2⟩ k hk
  have h3:=h1 (br.getD k 0) (by rw [ai hk];exact List.getElem_mem hk)
  have h4:k=0∨br.getD (k-1) 0<br.getD k 0:=by
   rcases Nat.eq_zero_or_pos k with h |h
   ·exact .inl h
   ·obtain ⟨j,rfl⟩: ∃j,k=j+1:=⟨k-1,by omega⟩
    exact .inr (tA h2 hk)
  have:zg on br k=true:=by simpa only [zg,Bool.and_eq_true,Bool.or_eq_true,decide_eq_true_eq,Bool.not_eq_true',and_assoc] using ⟨h3.1.1,h3.1.2,h3.2,h4⟩
  rw [this];rfl
theorem cC {w:Wd}:wv w=true↔WdOk w:=by
 unfold wv
 rw [Bool.and_eq_true,Bool.and_eq_true,Bool.and_eq_true,Bool.and_eq_true,uY,decide_eq_true_eq,UW]
 constructor
 ·rintro ⟨⟨⟨⟨h1,h2⟩,h3⟩,h4,h5⟩,h6⟩;exact ⟨h1,FK.1 h2,h3,h4,h5,h6⟩
 ·intro h;exact ⟨⟨⟨⟨h.bus,FK.2 h.work⟩,h.len⟩,h.inn,h.sor⟩,h.rad⟩
def bO (w:Wd) (kd a who:Int):Wd×Bool:=
 if wv w=true then
  if 0≤a∧a<(w.on.length:Int) then
   if kd=6∧a∉w.br then ({w with on:=w.on.set a.toNat false,br:=GE a w.br},true)
   else if kd=7∧a∈w.br∧(who,a)∈w.pm then ({w with br:=w.br.filter fun x=>x !=a},true)
   else if kd=0∧a∈w.br then (w,false)
   else if (dK w.wk kd a who).2=true∧kW w.ls (dK w.wk kd a who).1.1 w.pts=true then (w.put (dK w.wk kd a who).1,true)
   else (w,false)
  else (w,false)
 else (.zero,false)
theorem YO {w:Wk} {kd a who:Int} (h:kd≠0): ∀k,(cT w kd a who).1.getD k false=true→w.1.getD k false=true:=by
 intro k hk
 unfold cT at hk
 rw [if_neg h] at hk
 split at hk
 ·by_cases e:a.toNat=k
  ·subst e
   rcases Nat.lt_or_ge a.toNat w.1.length with h1 |h1
   ·rw [tG h1] at hk;cases hk
   ·rw [XS (by simpa using h1)] at hk;cases hk
  ·rwa [fj e] at hk
 ·split at hk
  ·exact hk
  ·split at hk
   ·exact hk
   ·split at hk<;>exact hk
theorem Nz (w:Wk) (kd a who:Int):(cT w kd a who).1.length=w.1.length:=(VX w kd a who).1
theorem FJ {w:Wk} (hw:WOk w) {kd a who:Int}:(dK w kd a who).1.1.length=w.1.length∧(kd≠0→ ∀k,(dK w kd a who).1.1.getD k false=true→w.1.getD k false=true):=by
 rcases rl hw kd a who with ⟨h,_⟩ |⟨h,_⟩
 ·rw [h];exact ⟨Nz _ _ _ _,fun h0=>YO h0⟩
 ·rw [h];exact ⟨rfl,fun _ k hk=>hk⟩
theorem MC {w:Wd} (h:WdOk w) {kd a who:Int} (h0:kd≠0):kW w.ls (dK w.wk kd a who).1.1 w.pts=true:=by
 have h1:=FJ h.work (kd:=kd) (a:=a) (who:=who)
 exact Hd (h1.1.trans h.len) h.len (h1.2 h0) h.rad
theorem Ra {w:Wd} (h:WdOk w) {k:Wk} (hk:WOk k) (hl:k.1.length=w.on.length) (hbr: ∀x∈w.br,k.1.getD x.toNat false=false) (hr:kW w.ls k.1 w.pts=true):WdOk (w.put k):=
 ⟨h.bus,hk,hl.trans h.len,fun x hx=>⟨by have:=(h.inn x hx).1;show 0≤x∧x<(k.1.length:Int);rw [hl];exact this,hbr x hx⟩,h.sor,hr⟩
theorem Us {w:Wk} (h:WOk w) (kd a who:Int):WOk (dK w kd a who).1:=by
 rcases rl h kd a who with ⟨h1,_,_,h2⟩ |⟨h1,_⟩
 ·rw [h1];exact h2
 ·rw [h1];exact h
theorem FI {w:Wd} (h:WdOk w) (kd a who:Int):WdOk (bO w kd a who).1:=by
 unfold bO
 rw [if_pos (cC.2 h)]
 split
 ·rename_i ha
  split
  ·rename_i h6
   have hal:a.toNat<w.on.length:=by omega
   have hsub: ∀k,(w.on.set a.toNat false).getD k false=true→w.on.getD k false=true:=by
    intro k hk
    by_cases e:a.toNat=k
    ·subst e;rw [tG hal] at hk;cases hk
    ·rwa [fj e] at hk
   have hw:=h.work
   refine ⟨h.bus,⟨by simpa [Wd.wk] using hw.l0,by simpa [Wd.wk] using hw.l1,by simpa [Wd.wk] using hw.le,hw.lp,fun k hk=>hw.ne k (hsub k hk),fun p hp=>?_,hw.nd⟩,by simpa using h.len,fun x hx=>?_,wP h.sor,Hd (by simpa using h.len) h.len hsub h.rad⟩
   ·have:=hw.pm p hp
    simpa [Wd.wk] using this
   ·dsimp only at hx ⊢
    rcases GF.1 hx with rfl |hx
    ·exact ⟨by simpa using ha,tG hal⟩
    ·have:=h.inn x hx
     refine ⟨by simpa using this.1,?_⟩
     cases hc:(w.on.set a.toNat false).getD x.toNat false
     ·rfl
     ·rw [hsub _ hc] at this;exact this.2
  ·split
   ·exact ⟨h.bus,h.work,h.len,fun x hx=>h.inn x (List.mem_filter.1 hx).1,h.sor.sublist List.filter_sublist,h.rad⟩
   ·split
    ·exact h
    ·rename_i h6 h7 h0
     split
     ·rename_i hr
      have h1:=FJ h.work (kd:=kd) (a:=a) (who:=who)
      refine Ra h (Us h.work kd a who) h1.1 (fun x hx=>?_) hr.2
      have hi:=h.inn x hx
      by_cases hk:kd=0
      ·subst hk
       have hne:a≠x:=fun e=>h0 ⟨rfl,e▸hx⟩
       rcases rl h.work 0 a who with ⟨g,_⟩ |⟨g,_⟩
       ·rw [g]
        show (w.on.set a.toNat true).getD x.toNat false=false
        rw [fj (by omega)];exact hi.2
       ·rw [g];exact hi.2
      ·cases hc:(dK w.wk kd a who).1.1.getD x.toNat false
       ·rfl
       ·have h2:=h1.2 hk _ hc
        rw [show w.wk.1=w.on from rfl] at h2
        rw [h2] at hi;exact hi.2
     ·exact h
 ·exact h
theorem Uo (w:Wd) (h:wv w=true) (kd a who:Int):(bO w kd a who).1.b=w.b∧(bO w kd a who).1.ls=w.ls∧(bO w kd a who).1.pts=w.pts:=by
 unfold bO
 rw [if_pos h]
 repeat' split
 all_goals exact ⟨rfl,rfl,rfl⟩
theorem QZ {w:Wd} (h:WdOk w) {kd a who:Int} (hf:(bO w kd a who).2=false):(bO w kd a who).1=w:=by
 unfold bO at hf ⊢
 rw [if_pos (cC.2 h)] at hf ⊢
 split<;>rename_i ha
 ·rw [if_pos ha] at hf
  split<;>rename_i h6
  ·rw [if_pos h6] at hf;cases hf
  ·rw [if_neg h6] at hf
   split<;>rename_i h7
   ·rw [if_pos h7] at hf;cases hf
   ·rw [if_neg h7] at hf
    split<;>rename_i h0
    ·rfl
    ·rw [if_neg h0] at hf
     split<;>rename_i hr
     ·rw [if_pos hr] at hf;cases hf
     ·rfl
 ·rfl
abbrev Dd:=Int×Int×Int
def bC (s:Int×Wd) (d:Dd):Int×Wd:=if (bO s.2 d.1 d.2.1 d.2.2).2=true then (s.1+1,(bO s.2 d.1 d.2.1 d.2.2).1) else s
theorem xU {s:Int×Wd} (h:WdOk s.2) (d:Dd):WdOk (bC s d).2:=by
 unfold bC
 split
 ·exact FI h _ _ _
 ·exact h
theorem jj (l:List Dd): ∀ {s:Int×Wd},WdOk s.2→WdOk (l.foldl bC s).2:=by
 induction l with
 |nil=>intro s h;exact h
 |cons d l ih=>intro s h;exact ih (xU h d)
def xI (w:Wd) (l:List Dd):Int×Wd:=if wv w=true then l.foldl bC (0,w) else (0,.zero)
theorem MA {w:Wd} (h:WdOk w) (l:List Dd):WdOk (xI w l).2:=by
 unfold xI;rw [if_pos (cC.2 h)];exact jj l h
theorem Dq (l:List Dd) (hl: ∀d∈l,d.1≠0∧d.1≠6∧d.1≠7): ∀(c:Int) (w:Wd),WdOk w→l.foldl bC (c,w)=((l.foldl rX (c,w.wk)).1,w.put (l.foldl rX (c,w.wk)).2):=by
 induction l with
 |nil=>intro c w h;rfl
 |cons d l ih=>
  intro c w h
  have hd:=hl d (by simp)
  have e0:bO w d.1 d.2.1 d.2.2=(w.put (dK w.wk d.1 d.2.1 d.2.2).1,(dK w.wk d.1 d.2.1 d.2.2).2):=by
   unfold bO
   rcases rl h.work d.1 d.2.1 d.2.2 with ⟨g,g2,_⟩ |⟨g,g2⟩
   ·have hr:=MC h hd.1 (a:=d.2.1) (who:=d.2.2)
    have g3:0≤d.2.1∧d.2.1<(w.on.length:Int):=g2
    rw [if_pos (cC.2 h),if_pos g3,if_neg (fun g=>hd.2.1 g.1),if_neg (fun g=>hd.2.2 g.1),if_neg (fun g=>hd.1 g.1),if_pos ⟨by rw [g],hr⟩,g]
   ·have hn: ¬((dK w.wk d.1 d.2.1 d.2.2).2=true∧kW w.ls (dK w.wk d.1 d.2.1 d.2.2).1.1 w.pts=true):=by rw [g];simp
    rw [if_pos (cC.2 h)]
    split
    ·rw [g];simp [hd.1,hd.2.1,hd.2.2,LX]
    ·rw [g,LX]
  have e:bC (c,w) d=((rX (c,w.wk) d).1,w.put (rX (c,w.wk) d).2):=by
   unfold bC rX
   dsimp only
   rw [e0]
   dsimp only
   split
   ·rfl
   ·rfl
  have hok:=xU (s:=(c,w)) h d
  rw [List.foldl_cons,List.foldl_cons,e]
  rw [e] at hok
  rw [ih (fun x hx=>hl x (by simp [hx])) _ _ hok,YP]
  rfl
theorem uI {σ Out:Type} (L:Nat→σ→Option Out) (R:Nat→σ→Prop) (n:Nat) (yg:σ→Option Out) (hn:n≤1099511627776)
 (hstep: ∀k fuel s,k<n→R k s→ ∃s',R (k+1) s'∧L (fuel+1) s=L fuel s') (hend: ∀fuel s,R n s→L (fuel+1) s=yg s) (s:σ) (h0:R 0 s): ∃s',R n s'∧L aq s=yg s':=by
 have go: ∀j k fuel s,k+j=n→j<fuel→R k s→ ∃s',R n s'∧L fuel s=yg s':=by
  intro j
  induction j with
  |zero=>
   intro k fuel s hk hf hr
   obtain ⟨f,rfl⟩: ∃f,fuel=f+1:=⟨fuel-1,by omega⟩
   obtain rfl:k=n:=by omega
   exact ⟨s,hr,hend f s hr⟩
  |succ j ih=>
   intro k fuel s hk hf hr
   obtain ⟨f,rfl⟩: ∃f,fuel=f+1:=⟨fuel-1,by omega⟩
   obtain ⟨s',h1,h2⟩:=hstep k f s (by omega) hr
   rw [h2]
   exact ih (k+1) f s' (by omega) (by omega) h1
 exact go n 0 aq s (by omega) (pn hn) h0
theorem Qm {σ Out:Type} (L:Nat→σ→Option Out) (R:Nat→σ→Prop) (n:Nat) (P:Nat→Bool) (fv out:Option Out) (hn:n≤1099511627776)
 (hstep: ∀k fuel s,k<n→R k s→(P k=true∧L (fuel+1) s=fv)∨(P k=false∧ ∃s',R (k+1) s'∧L (fuel+1) s=L fuel s')) (hend: ∀fuel s,R n s→L (fuel+1) s=out) (s:σ) (h0:R 0 s):
 L aq s=bif (List.range n).any P then fv else out:=by
 have go: ∀j k fuel s,k+j=n→j<fuel→R k s→L fuel s=bif (List.range' k j).any P then fv else out:=by
  intro j
  induction j with
  |zero=>
   intro k fuel s hk hf hr
   obtain ⟨f,rfl⟩: ∃f,fuel=f+1:=⟨fuel-1,by omega⟩
   obtain rfl:k=n:=by omega
   simpa using hend f s hr
  |succ j ih=>
   intro k fuel s hk hf hr
   obtain ⟨f,rfl⟩: ∃f,fuel=f+1:=⟨fuel-1,by omega⟩
   rw [List.range'_succ,List.any_cons]
   rcases hstep k f s (by omega) hr with ⟨h1,h2⟩ |⟨h1,s',h2,h3⟩
   ·rw [h1,h2];rfl
   ·rw [h1,h3,ih (k+1) f s' (by omega) (by omega) h2];rfl
 rw [go n 0 aq s (by omega) (pn hn) h0,List.range_eq_range']
theorem ltN (b:Int):(av b 1 ||av 8 b)= !HN b 1 8:=by rw [Bool.eq_iff_iff];simp [av,HN]<;>omega
theorem abW (n:Nat):av 10 (n:Int)= !decide (n≤10):=by rw [Bool.eq_iff_iff];simp [av];omega
theorem OT (a b:Nat):((a:Int)==(b:Int))=decide (a=b):=by rw [Bool.eq_iff_iff];simp<;>omega
theorem VD (b:Int) (l:Ln):yD b l=((bc 0 l.1&&av l.1 b)&&(bc 0 l.2.1&&av l.2.1 b)&& !(l.1==l.2.1)&&(!av l.2.2 1&& !av 999 l.2.2)):=by
 rw [Bool.eq_iff_iff];simp [yD,HN,bc,av]<;>omega
theorem Ya (b:Int) (ls:List Ln):aN b ls=some (Ec b ls):=by
 unfold aN Ec
 rw [ltN,abW]
 cases h1:HN b 1 8
 ·rfl
 by_cases hl:ls.length≤10
 ·have h:=cc (cj b ls) (fun k=>(k:Int)) ls.length (fun k=> !yD b (ls.getD k (0,0,0))) (some (.inr false)) (some (.inl ())) (by omega) (fun k fuel hk=>?_) (fun fuel=>?_)
  ·rw [show cj b ls aq 0=_ from h,decide_eq_true hl]
   cases (List.range ls.length).any fun k=> !yD b (ls.getD k (0,0,0))<;>rfl
  ·rw [jq,cQ]
   simp only [az hk,ah hk,aa,cond_true,Int.toNat_natCast,af (by omega:k<4611686018427387904),kz,Option.bind_some]
   generalize ls.getD k (0,0,0)=l
   rw [VD]
   cases bc 0 l.1&&av l.1 b<;>cases bc 0 l.2.1&&av l.2.1 b<;>cases l.1==l.2.1<;>cases av l.2.2 1<;>cases av 999 l.2.2<;>rfl
  ·rw [jq,cQ];simp only [ak,cond_false]
 ·rw [decide_eq_false hl];rfl
theorem Wo (b:Int) (ls:List Ln):dU b ls=some (Ec b ls):=by
 unfold dU Ec aw
 rw [abW,oX]
 cases h1:bc 1 b&&bc b 8
 ·rfl
 by_cases hl:ls.length≤10
 ·have hb:1≤b∧b≤8:=by simpa [bc] using h1
  have w1:ax (b-1)=b-1:=aP (by omega) (by omega)
  have h:=cc (fe b ls) (fun k=>(k:Int)) ls.length (fun k=> !yD b (ls.getD k (0,0,0))) (some (.inr false)) (some (.inl ())) (by omega) (fun k fuel hk=>?_) (fun fuel=>?_)
  ·rw [show fe b ls aq 0=_ from h,decide_eq_true hl]
   cases (List.range ls.length).any fun k=> !yD b (ls.getD k (0,0,0))<;>rfl
  ·rw [rA,iH]
   simp only [az hk,ah hk,aa,cond_true,Int.toNat_natCast,af (by omega:k<4611686018427387904),aw,Option.bind_some,w1]
   generalize ls.getD k (0,0,0)=l
   unfold yD
   rw [oX,oX,oX]
   cases bc 0 l.1&&bc l.1 (b-1)<;>cases bc 0 l.2.1&&bc l.2.1 (b-1)<;>cases l.1==l.2.1<;>cases bc 1 l.2.2&&bc l.2.2 999<;>rfl
  ·rw [rA,iH];simp only [ak,cond_false]
 ·rw [decide_eq_false hl];rfl
section
variable (b:Int) (ls:List Ln) (pts:List (Int×Int)) (hp:pts.length≤1048576)
include hp
theorem So:fU b ls pts=some (qa b ls pts):=by
 unfold fU qa
 rw [Ya,Option.bind_some]
 have e:((pts.length:Int) !=b)= !decide ((pts.length:Int)=b):=by rw [Bool.eq_iff_iff];simp
 rw [e]
 have h:=cc (dm pts) (fun k=>(k:Int)) pts.length (fun k=> !HC (pts.getD k (0,0))) (some (.inr false)) (some (.inl ())) (by omega) (fun k fuel hk=>?_) (fun fuel=>?_)
 ·rw [show dm pts aq 0=_ from h]
  cases Ec b ls<;>cases decide ((pts.length:Int)=b)<;>cases (List.range pts.length).any fun k=> !HC (pts.getD k (0,0))<;>rfl
 ·rw [pC,fl]
  simp only [az hk,ah hk,aa,cond_true,Int.toNat_natCast,af (by omega:k<4611686018427387904),kB,Option.bind_some]
  generalize pts.getD k (0,0)=p
  unfold HC
  rw [oX,oX]
  cases bc 0 p.1&&bc p.1 999<;>cases bc 0 p.2&&bc p.2 999<;>rfl
 ·rw [pC,fl];simp only [ak,cond_false]
theorem TJ:gA b ls pts=some (qa b ls pts):=by
 unfold gA qa
 rw [Wo]
 have e:((pts.length:Int)==b)=decide ((pts.length:Int)=b):=by rw [Bool.eq_iff_iff];simp
 rw [e]
 have h:=cc (dw pts) (fun k=>(k:Int)) pts.length (fun k=> !HC (pts.getD k (0,0))) (some (.inr false)) (some (.inl ())) (by omega) (fun k fuel hk=>?_) (fun fuel=>?_)
 ·rw [show dw pts aq 0=_ from h]
  cases Ec b ls<;>cases decide ((pts.length:Int)=b)<;>cases (List.range pts.length).any fun k=> !HC (pts.getD k (0,0))<;>rfl
 ·rw [pJ,fy]
  simp only [az hk,ah hk,aa,cond_true,Int.toNat_natCast,af (by omega:k<4611686018427387904),aw,Option.bind_some,Bool.or_true]
  generalize pts.getD k (0,0)=p
  unfold HC
  rw [oX,oX]
  cases bc 0 p.1&&bc p.1 999<;>cases bc 0 p.2&&bc p.2 999<;>rfl
 ·rw [pJ,fy];simp only [ak,cond_false]
omit hp in
theorem Yc (on:List Bool):kA b ls on=some (Ws b ls on):=by
 unfold kA Ws;rw [Ya,OT];rfl
omit hp in
theorem Kd (on:List Bool):cO b ls on=some (Ws b ls on):=by
 unfold cO Ws;rw [Wo,OT];rfl
theorem Vu (on:List Bool):dR b ls on pts=some (LK b ls on pts):=by
 unfold dR LK
 rw [Yc,So b ls pts hp]
 cases Ws b ls on<;>cases qa b ls pts<;>rfl
theorem QI (on:List Bool):gV b ls on pts=some (LK b ls on pts):=by
 unfold gV LK
 rw [Kd,TJ b ls pts hp]
 cases Ws b ls on<;>cases qa b ls pts<;>rfl
end
structure StOk (b:Int) (ls:List Ln) (on:List Bool):Prop where
 net:NetOk b ls
 len:on.length=ls.length
theorem FE {b:Int} {ls:List Ln} {on:List Bool}:Ws b ls on=true↔StOk b ls on:=by
 unfold Ws
 rw [Bool.and_eq_true,uK,decide_eq_true_eq]
 exact ⟨fun h=>⟨h.1,h.2⟩,fun h=>⟨h.1,h.2⟩⟩
theorem fG {b:Int} {ls:List Ln} {on:List Bool} {pts:List (Int×Int)}:LK b ls on pts=true↔StOk b ls on∧BusOk b ls pts:=by
 unfold LK;rw [Bool.and_eq_true,FE,uY]
def zl (u:List Nat):List Int:=u.map fun (n:Nat)=>(n:Int)
theorem cf (u:List Nat):(zl u).length=u.length:=by simp [zl]
theorem rY (u:List Nat) (k:Nat):(zl u).getD k 0=((u.getD k 0:Nat):Int):=by
 unfold zl
 rcases Nat.lt_or_ge k u.length with h |h
 ·simp [List.getD,h]
 ·simp [List.getD,List.getElem?_eq_none h]
theorem Ux (u:List Nat) (k v:Nat):(zl u).set k (v:Int)=zl (u.set k v):=by simp [zl,List.map_set]
structure UR (u:List Nat) (B:Nat) (f:Nat→Nat):Prop where
 len:u.length=B
 dn:Dn u
 rot: ∀c,c<B→Rot u c (f c)
theorem UR.le {u:List Nat} {B:Nat} {f:Nat→Nat} (h:UR u B f) {c:Nat} (hc:c<B):f c≤c:=by
 obtain ⟨r,h1,h2⟩:=Rot.ex h.dn c (by rw [h.len];exact hc)
 rw [(h.rot c hc).uniq h1];exact h2
theorem XL {u0:List Nat} {B:Nat} {f:Nat→Nat} (h0:u0.length=B): ∀(c fuel:Nat) (u:List Nat),c<fuel→UR u B f→c<B→ ∃v,gq (zl u0) fuel (zl u,(c:Int))=some (((f c:Nat):Int),zl v)∧UR v B f:=by
 intro c
 induction c using Nat.strongRecOn with
 |ind c ih=>
  intro fuel u hf hu hc
  obtain ⟨g,rfl⟩: ∃g,fuel=g+1:=⟨fuel-1,by omega⟩
  rw [wI,kj]
  have hx: ∀d,d<B→aB (d:Int) (zl u0).length=true:=fun d hd=>by rw [cf,h0];exact ah hd
  simp only [hx c hc,aa,Int.toNat_natCast,rY]
  by_cases hr:u.getD c 0=c
  ·have e:(((u.getD c 0:Nat):Int) !=(c:Int))=false:=by rw [hr];simp
   rw [e,(hu.rot c hc).fix hr]
   exact ⟨u,rfl,hu⟩
  ·have e:(((u.getD c 0:Nat):Int) !=(c:Int))=true:=by simp only [bne_iff_ne,ne_eq];omega
   have h1:=hu.dn c (by rw [hu.len];exact hc)
   have h2:=hu.dn (u.getD c 0) (by rw [hu.len];omega)
   simp only [e,cond_true,hx _ (show u.getD c 0<B by omega),aa,Int.toNat_natCast,rY]
   have h3:(zl u).set c ((u.getD (u.getD c 0) 0:Nat):Int)=zl (u.set c (u.getD (u.getD c 0) 0)):=Ux _ _ _
   rw [h3,rY,oH (by rw [hu.len];exact hc),if_pos rfl]
   have hcl:c<u.length:=by rw [hu.len];exact hc
   have hv:UR (u.set c (u.getD (u.getD c 0) 0)) B f:=⟨by rw [List.length_set];exact hu.len,hu.dn.halve hcl,fun d hd=>Rot.halve hu.dn hcl d _ (by rw [hu.len];exact hd) (hu.rot d hd)⟩
   obtain ⟨v,i1,i2⟩:=ih (u.getD (u.getD c 0) 0) (by omega) g _ (by omega) hv (by omega)
   have hf2:f (u.getD (u.getD c 0) 0)=f c:=(hu.rot _ (by omega)).uniq ((hu.rot c hc).next.next)
   rw [hf2] at i1
   exact ⟨v,i1,i2⟩
theorem DZ {u:List Nat} {B:Nat} {f:Nat→Nat} (h:UR u B f) (hB:B≤1099511627776) {c:Nat} (hc:c<B): ∃v,bM (zl u) (c:Int)=some (((f c:Nat):Int),zl v)∧UR v B f:=by
 obtain ⟨v,h1,h2⟩:=XL h.len c aq u (pn (by omega)) h hc
 refine ⟨v,?_,h2⟩
 unfold bM
 rw [h1];rfl
theorem abM {u:List Nat} {B:Nat} {f:Nat→Nat} (h:UR u B f) (hB:B≤1099511627776) {a c:Nat} (ha:a<B) (hc:c<B): ∃v,kI (zl u) (a:Int) (c:Int)=some (decide (f a=f c),zl v)∧UR v B f:=by
 obtain ⟨v,h1,h2⟩:=DZ h hB ha
 obtain ⟨x,h3,h4⟩:=DZ h2 hB hc
 refine ⟨x,?_,h4⟩
 unfold kI
 rw [h1,Option.bind_some,h3,Option.bind_some]
 have:(((f a:Nat):Int)==((f c:Nat):Int))=decide (f a=f c):=by rw [Bool.eq_iff_iff];simp;omega
 rw [this]
theorem WM {u:List Nat} {B:Nat} {f:Nat→Nat} (h:UR u B f) (hB:B≤1099511627776) {a c:Nat} (ha:a<B) (hc:c<B): ∃v,gr (zl u) (a:Int) (c:Int)=some (zl v)∧UR v B (qR f a c):=by
 obtain ⟨v,h1,h2⟩:=DZ h hB ha
 obtain ⟨x,h3,h4⟩:=DZ h2 hB hc
 have la:=h.le ha
 have lc:=h.le hc
 refine ⟨x.set (max (f a) (f c)) (min (f a) (f c)),?_,?_⟩
 ·unfold gr
  rw [h1,Option.bind_some,h3,Option.bind_some]
  have e1:max ((f a:Nat):Int) ((f c:Nat):Int)=((max (f a) (f c):Nat):Int):=by omega
  have e2:min ((f a:Nat):Int) ((f c:Nat):Int)=((min (f a) (f c):Nat):Int):=by omega
  have hx:aB ((max (f a) (f c):Nat):Int) (zl u).length=true:=by rw [cf,h.len];exact ah (by omega)
  rw [e1,e2,hx,aa,Int.toNat_natCast]
  exact congrArg some (Ux _ _ _)
 ·have hlen:=h4.len
  refine ⟨by rw [List.length_set];exact hlen,fun d hd=>?_,fun d hd=>Rot.join h4.dn (fun c hc=>h4.rot c (by omega)) (by omega) (by omega) (fun c hc=>h4.le (by omega)) d (by omega)⟩
  rw [List.length_set] at hd
  rw [oH (by omega)]
  split
  ·omega
  ·exact h4.dn d hd
theorem abI {B:Nat} (hB:B≤1099511627776):ka (B:Int)=some (zl (List.range B))∧UR (List.range B) B id:=by
 refine ⟨?_,by simp,fun b hb=>?_,fun c hc=>?_⟩
 ·unfold ka
  have hm:yk (B:Int)=true:=by simp [yk];omega
  rw [hm,aa,Int.toNat_natCast]
  have h:=aC (fc (B:Int)) (fun k=>((List.range B).map (fun (i:Nat)=>if i<k then (i:Int) else 0),(k:Int))) B (some (zl (List.range B))) (by omega) (fun k fuel hk=>?_) (fun fuel=>?_)
  ·have e:(List.range B).map (fun (i:Nat)=>if i<0 then (i:Int) else 0)=List.replicate B (0:Int):=by
    apply List.ext_getElem (by simp)
    intro i h1 h2
    simp
   rw [e] at h
   rw [show fc (B:Int) aq (List.replicate B (0:Int),0)=_ from h];rfl
  ·rw [ry,iC]
   simp only [Int.toNat_natCast,az hk,ah hk,cond_true,aa,af (by omega:k<4611686018427387904)]
   congr 2
   apply List.ext_getElem (by simp)
   intro i h1 h2
   rw [List.getElem_set]
   simp only [List.getElem_map,List.getElem_range]
   split
   ·rename_i e;subst e;rw [if_pos (by omega)]
   ·by_cases hi:i<k
    ·rw [if_pos hi,if_pos (by omega)]
    ·rw [if_neg hi,if_neg (by omega)]
  ·rw [ry,iC]
   simp only [Int.toNat_natCast,ak,cond_false]
   congr 1
   unfold zl
   refine List.map_congr_left fun i hi=>?_
   rw [if_pos (by simpa using hi)]
 ·have hb:b<B:=by simpa using hb
  simp [List.getD,hb]
 ·exact .stop (by simp [List.getD,hc])
theorem xi {b:Int} {l:Ln} (h:LnOk b l):l.1=(((cg l).1:Nat):Int)∧l.2.1=(((cg l).2:Nat):Int)∧(cg l).1<b.toNat∧(cg l).2<b.toNat:=by
 have:=h.a;have:=h.b
 unfold cg
 dsimp only
 omega
section
variable {b:Int} {ls:List Ln} {on:List Bool} (h:StOk b ls on)
include h
theorem vA {k:Nat} (hk:k<ls.length):uO ((ls.zip on).take (k+1))=if on.getD k false then uO ((ls.zip on).take k)++ [cg (ls.getD k (0,0,0))] else uO ((ls.zip on).take k):=by
 have hl:=h.len
 have hz:k<(ls.zip on).length:=by simp;omega
 rw [LL hz,ai (by omega:k<on.length),ai hk]
 simp
theorem Kq:uO ((ls.zip on).take ls.length)=aA ls on:=by
 have hl:=h.len
 unfold aA
 rw [List.take_of_length_le (by simp;omega)]
theorem adx:mK b ls on=some (MV ls on):=by
 have hb:=h.net.b0;have hb1:=h.net.b1;have hll:=h.net.ll;have hl:=h.len
 obtain ⟨B,rfl⟩: ∃B:Nat,b=(B:Int):=⟨b.toNat,by omega⟩
 obtain ⟨n1,n2⟩:=abI (B:=B) (by omega)
 unfold mK MV
 rw [n1,Option.bind_some]
 have hh:=Qm (jv ls on) (fun k s=> ∃u,s=(zl u,(k:Int))∧UR u B (aW (uO ((ls.zip on).take k)))) ls.length
  (fun k=>on.getD k false&&aW (uO ((ls.zip on).take k)) (cg (ls.getD k (0,0,0))).1==aW (uO ((ls.zip on).take k)) (cg (ls.getD k (0,0,0))).2) (some (.inr true)) (some (.inl ())) (by omega) ?_ ?_ (zl (List.range B),0) ⟨_,rfl,n2⟩
 ·rw [hh]
  cases (List.range ls.length).any _<;>rfl
 ·rintro k fuel s hk ⟨u,rfl,hu⟩
  rw [ru,iy]
  have hln:=xi (h.net.ln k hk)
  simp only [Int.toNat_natCast] at hln
  simp only [az hk,ah hk,ah (show k<on.length by omega),aa,cond_true,Int.toNat_natCast,af (by omega:k<4611686018427387904)]
  rw [hln.1,hln.2.1]
  cases ho:on.getD k false
  ·right
   refine ⟨rfl,(zl u,((k+1:Nat):Int)),⟨u,rfl,?_⟩,rfl⟩
   rw [vA h hk,ho];exact hu
  ·obtain ⟨v,s1,s2⟩:=abM hu (by omega) hln.2.2.1 hln.2.2.2
   simp only [cond_true,s1,Option.bind_some]
   by_cases he:aW (uO ((ls.zip on).take k)) (cg (ls.getD k (0,0,0))).1=aW (uO ((ls.zip on).take k)) (cg (ls.getD k (0,0,0))).2
   ·left
    rw [decide_eq_true he]
    exact ⟨by rw [he];simp,rfl⟩
   ·right
    obtain ⟨x,j1,j2⟩:=WM s2 (by omega) hln.2.2.1 hln.2.2.2
    rw [decide_eq_false he]
    simp only [cond_false,j1,Option.bind_some]
    refine ⟨by simpa using he,(zl x,((k+1:Nat):Int)),⟨x,rfl,?_⟩,rfl⟩
    rw [vA h hk,ho,if_pos rfl,xO];exact j2
 ·rintro fuel s ⟨u,rfl,hu⟩
  rw [ru,iy];simp only [ak,cond_false]
end
def bl (B:Nat) (s:Nat→Bool):List Bool:=(List.range B).map s
theorem Rv (B:Nat) (s:Nat→Bool):(bl B s).length=B:=by simp [bl]
theorem MS {B c:Nat} {s:Nat→Bool} (h:c<B):(bl B s).getD c false=s c:=by simp [bl,List.getD,h]
theorem Rx {B a:Nat} {s:Nat→Bool} (h:a<B):(bl B s).set a true=bl B (fun c=>c==a ||s c):=by
 apply List.ext_getElem (by simp [bl])
 intro i h1 h2
 rw [List.getElem_set]
 simp only [bl,List.getElem_map,List.getElem_range]
 split
 ·rename_i e;subst e;simp
 ·rename_i e
  have:(i==a)=false:=by simpa using fun e2=>e e2.symm
  rw [this];rfl
theorem KK {B:Nat} {s t:Nat→Bool} (h: ∀c,c<B→s c=t c):bl B s=bl B t:=List.map_congr_left fun c hc=>h c (by simpa using hc)
theorem vv (E:Ed) (e:Nat×Nat) (s:Nat→Bool):lF (E++ [e]) s=Iy (lF E s) e:=by unfold lF;rw [List.foldl_append];rfl
section
variable {B:Nat} {ls:List Ln} {on:List Bool} (h:StOk (B:Int) ls on)
include h
theorem QK (s:Nat→Bool):gT (B:Int) ls on aq (bl B s,0)=some (bl B (lF (aA ls on) s)):=by
 have hll:=h.net.ll;have hl:=h.len
 have hh:=aC (gT (B:Int) ls on) (fun k=>(bl B (lF (uO ((ls.zip on).take k)) s),(k:Int))) ls.length (some (bl B (lF (aA ls on) s))) (by omega) (fun k fuel hk=>?_) (fun fuel=>?_)
 ·exact hh
 ·rw [sP,jP]
  have hln:=xi (h.net.ln k hk)
  simp only [Int.toNat_natCast] at hln
  simp only [az hk,ah hk,ah (show k<on.length by omega),aa,cond_true,Int.toNat_natCast,af (by omega:k<4611686018427387904)]
  rw [hln.1,hln.2.1]
  rw [vA h hk]
  generalize cg (ls.getD k (0,0,0))=e at*
  simp only [ah hln.2.2.1,ah hln.2.2.2,Int.toNat_natCast,Bool.or_true,aa,Rv,MS hln.2.2.1,MS hln.2.2.2]
  cases ho:on.getD k false
  ·rfl
  ·rw [if_pos rfl,vv]
   generalize lF (uO ((ls.zip on).take k)) s=t
   unfold Iy
   rw [Bool.true_and]
   cases t e.1 ||t e.2
   ·rfl
   ·simp only [cond_true,Option.bind_some,if_true]
    rw [Rx hln.2.2.1,Rx hln.2.2.2]
    congr 2
    refine KK fun c hc=>?_
    cases c==e.1<;>cases c==e.2<;>rfl
 ·rw [sP,jP]
  simp only [ak,cond_false]
  rw [Kq h]
theorem Zf {b:Nat} (hb:b<B):oB (B:Int) ls on (b:Int)=some (bl B (aU (aA ls on) (fun c=>c==b) B)):=by
 have h1:=h.net.b1
 unfold oB
 have hm:yk (B:Int)=true:=by simp [yk];omega
 rw [hm,aa,Int.toNat_natCast,ah hb,aa,Int.toNat_natCast]
 have e:(List.replicate B false).set b true=bl B (fun c=>c==b):=by
  apply List.ext_getElem (by simp [bl])
  intro i h1 h2
  rw [List.getElem_set]
  simp only [bl,List.getElem_map,List.getElem_range,List.getElem_replicate]
  split
  ·rename_i e;subst e;simp
  ·rename_i e;symm;simpa using fun e2=>e e2.symm
 have hh:=aC (gS (B:Int) ls on) (fun k=>(bl B (aU (aA ls on) (fun c=>c==b) k),(k:Int))) B (some (bl B (aU (aA ls on) (fun c=>c==b) B))) (by omega) (fun k fuel hk=>?_) (fun fuel=>?_)
 ·rw [e,show gS (B:Int) ls on aq (bl B (fun c=>c==b),0)=_ from hh];rfl
 ·rw [sO,jO]
  simp only [az hk,cond_true,QK h,Option.bind_some,af (by omega:k<4611686018427387904)]
  rfl
 ·rw [sO,jO];simp only [ak,cond_false]
theorem Xh: ∀e∈aA ls on,e.1<B∧e.2<B:=by
 intro e he
 obtain ⟨k,hk,_,rfl⟩:=zX.1 he
 have:=xi (h.net.ln k hk)
 simp only [Int.toNat_natCast] at this
 exact ⟨this.2.2.1,this.2.2.2⟩
theorem Mu {b:Nat} (hb:b<B) (c:Nat):aU (aA ls on) (fun c=>c==b) B c=(aW (aA ls on) b==aW (aA ls on) c):=by
 rw [Bool.eq_iff_iff,QT (Xh h) hb,beq_iff_eq,oc]
def qf (E:Ed) (B b:Nat):List Nat:=(List.range B).filter fun c=>aW E b==aW E c
theorem Hk {b:Nat} (hb:b<B):jb (B:Int) ls on (b:Int)=some (zl (qf (aA ls on) B b)):=by
 have h1:=h.net.b1
 unfold jb aw
 have w1:ax ((B:Int)-1)=(B:Int)-1:=aP (by omega) (by omega)
 have c1:(bc 0 (b:Int)&&bc (b:Int) ((B:Int)-1))=true:=by simp [bc];omega
 rw [Kd,FE.2 h,Option.bind_some,w1,c1]
 simp only [Bool.not_true,Bool.not_false,cw,Option.bind_some,Bool.or_self,cond_false,Zf h hb]
 have e:bl B (aU (aA ls on) (fun c=>c==b) B)=bl B (fun c=>aW (aA ls on) b==aW (aA ls on) c):=KK fun c _=>Mu h hb c
 rw [e]
 have hh:=aC (gK (B:Int) (bl B (fun c=>aW (aA ls on) b==aW (aA ls on) c))) (fun k=>(zl ((List.range k).filter fun c=>aW (aA ls on) b==aW (aA ls on) c),(k:Int))) B (some (zl (qf (aA ls on) B b))) (by omega) (fun k fuel hk=>?_) (fun fuel=>?_)
 ·rw [show gK (B:Int) _ aq (([]:List Int),0)=_ from hh];rfl
 ·rw [sJ,jJ]
  have hl:(zl ((List.range k).filter fun c=>aW (aA ls on) b==aW (aA ls on) c)).length≤k:=by
   rw [cf];have:=List.length_filter_le (fun c=>aW (aA ls on) b==aW (aA ls on) c) (List.range k);simpa using this
  have ha: ∀x:Int,bw (zl ((List.range k).filter fun c=>aW (aA ls on) b==aW (aA ls on) c)).length [x].length=true:=fun x=>by simp [bw];omega
  simp only [az hk,cond_true,Rv,ah hk,aa,Int.toNat_natCast,MS hk,ha,af (by omega:k<4611686018427387904)]
  rw [List.range_succ,List.filter_append]
  cases hc:aW (aA ls on) b==aW (aA ls on) k
  ·simp [hc,List.filter_cons]
  ·simp [hc,List.filter_cons,zl]
 ·rw [sJ,jJ];simp only [ak,cond_false];rfl
omit h in
theorem QJ (l:List Int) (x:Int) (hl:l.length≤1099511627776):dh l x=some (decide (x∈l)):=by
 unfold dh
 have hh:=cc (kc l x) (fun k=>(k:Int)) l.length (fun k=>l.getD k 0==x) (some (.inr true)) (some (.inl ())) hl (fun k fuel hk=>?_) (fun fuel=>?_)
 ·rw [show kc l x aq 0=_ from hh,KF l 0 (fun y=>y==x)]
  have:l.any (fun y=>y==x)=decide (x∈l):=by
   rw [Bool.eq_iff_iff,List.any_eq_true,decide_eq_true_eq]
   exact ⟨fun ⟨y,h1,h2⟩=>by rw [←(beq_iff_eq.1 h2)];exact h1,fun h=>⟨x,h,by simp⟩⟩
  rw [this]
  cases decide (x∈l)<;>rfl
 ·rw [vE,lW]
  simp only [az hk,ah hk,aa,cond_true,Int.toNat_natCast,af (by omega:k<4611686018427387904)]
 ·rw [vE,lW];simp only [ak,cond_false]
omit h in
theorem Uw {l:List Nat} {c:Nat}:(c:Int)∈zl l↔c∈l:=by
 simp only [zl,List.mem_map]
 constructor
 ·rintro ⟨a,h1,h2⟩;have:a=c:=by omega
  subst this;exact h1
 ·intro h;exact ⟨c,h,rfl⟩
omit h in
theorem yU (E:Ed) (B b:Nat):(qf E B b).length≤B:=by
 unfold qf;have:=List.length_filter_le (fun c=>aW E b==aW E c) (List.range B);simpa using this
theorem Xe {a c:Nat} (ha:a<B) (hc:c<B):gL (B:Int) ls on (a:Int) (c:Int)=some (aW (aA ls on) a==aW (aA ls on) c):=by
 have h1:=h.net.b1
 unfold gL
 have hl:=yU (aA ls on) B a
 rw [Hk h ha,Option.bind_some,QJ _ _ (by rw [cf];omega),Option.bind_some]
 have:decide ((c:Int)∈zl (qf (aA ls on) B a))=(aW (aA ls on) a==aW (aA ls on) c):=by
  rw [Bool.eq_iff_iff,decide_eq_true_eq,Uw]
  simp [qf,hc]
 rw [this]
def KQ (ls:List Ln) (on:List Bool) (k:Nat):Bool:=on.getD k false&&aW (aA ls (on.set k false)) (cg (ls.getD k (0,0,0))).1==aW (aA ls (on.set k false)) (cg (ls.getD k (0,0,0))).2
theorem YC (k:Nat):StOk (B:Int) ls (on.set k false):=⟨h.net,by rw [List.length_set];exact h.len⟩
theorem adH:mN (B:Int) ls on=some (MW ls on):=by
 have hll:=h.net.ll;have hl:=h.len
 unfold mN oq
 have hh:=aC (dz (B:Int) ls on) (fun k=>(zl ((List.range k).filter (KQ ls on)),(k:Int))) ls.length
  (some (zl ((List.range ls.length).filter (KQ ls on)))) (by omega) (fun k fuel hk=>?_) (fun fuel=>?_)
 ·rw [show dz (B:Int) ls on aq (([]:List Int),0)=_ from hh]
  simp only [Option.bind_some,cf]
  congr 1
  show av 0 (((List.range ls.length).filter (KQ ls on)).length:Int)=(List.range ls.length).any (KQ ls on)
  rw [Bool.eq_iff_iff,av,decide_eq_true_eq,List.any_eq_true]
  constructor
  ·intro h1
   obtain ⟨k,hk⟩:=List.exists_mem_of_length_pos (show 0<((List.range ls.length).filter (KQ ls on)).length by omega)
   obtain ⟨h2,h3⟩:=List.mem_filter.1 hk
   exact ⟨k,h2,h3⟩
  ·rintro ⟨k,h2,h3⟩
   have:=List.length_pos_of_mem (List.mem_filter.2 ⟨h2,h3⟩)
   omega
 ·rw [pK,fz]
  have hln:=xi (h.net.ln k hk)
  simp only [Int.toNat_natCast] at hln
  have hkn:k<on.length:=by omega
  have w1:ax ((on.length:Int)-1)=(on.length:Int)-1:=aP (by omega) (by omega)
  have c1:(bc 0 (k:Int)&&bc (k:Int) ((on.length:Int)-1))=true:=by simp [bc];omega
  have a1:bw ([]:List Bool).length on.length=true:=by simp [bw];omega
  have hl2:=List.length_filter_le (KQ ls on) (List.range k)
  rw [List.length_range] at hl2
  have ha: ∀x:Int,bw (zl ((List.range k).filter (KQ ls on))).length [x].length=true:=fun x=>by rw [cf];simp [bw];omega
  have hsw:kO (B:Int) ls on (k:Int) false=some (on.set k false,true):=by
   unfold kO kg aw
   rw [Kd,FE.2 h]
   simp only [Option.bind_some,cond_true,a1,aa,List.nil_append,w1,c1,ah hkn,Int.toNat_natCast]
  have hsame:=Xe (YC h k) hln.2.2.1 hln.2.2.2
  rw [Kd,FE.2 h]
  simp only [az hkn,cw,Option.bind_some,Bool.and_self,cond_true,hsw,ah hkn,ah hk,Bool.or_true,aa,Int.toNat_natCast,ha,af (by omega:k<4611686018427387904)]
  rw [hln.1,hln.2.1,hsame,List.range_succ,List.filter_append]
  have hcy:KQ ls on k=(on.getD k false&&aW (aA ls (on.set k false)) (cg (ls.getD k (0,0,0))).1==aW (aA ls (on.set k false)) (cg (ls.getD k (0,0,0))).2):=rfl
  rw [List.filter_cons,List.filter_nil,hcy]
  cases ho:on.getD k false
  ·simp [gb]
  ·cases hc:aW (aA ls (on.set k false)) (cg (ls.getD k (0,0,0))).1==aW (aA ls (on.set k false)) (cg (ls.getD k (0,0,0))).2
   ·simp [gb]
   ·simp [gb,zl]
 ·rw [pK,fz]
  have:av (ls.length:Int) (on.length:Int)=false:=by rw [hl];exact ak
  simp only [this,pS,Option.bind_some,Bool.false_and,cond_false]
end
end Go.Proofs.YtjdlgannencchaaGreatDoor
