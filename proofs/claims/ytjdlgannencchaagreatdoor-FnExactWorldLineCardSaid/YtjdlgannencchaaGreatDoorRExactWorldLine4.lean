/- Texts of the claim, one behind the other: RgL, LnI, LnJ, DaT, Da1, LnT, WkA, WkP, Isl, For, Flw, Wl, Net. -/
import Derived.Lib.ItoaLen
import Derived.Test.YtjdlgannencchaaGreatDoorRExactWorldLine3
namespace Go.Proofs.YtjdlgannencchaaGreatDoor
open Go.ChangeShapes Go.WideShapes Go.ChangeAt Go.RowKit
set_option linter.unusedVariables false
set_option linter.unusedSimpArgs false
set_option maxRecDepth 100000
def aaz (ops:Array Oper) (L:Nat) (up:Nat→Nat):Bool:=
 (List.range L).all fun j=>decide (j<up j)&&decide (up j≤L)&&((ops[up j]?).map (bB · j)).getD false
section
variable {P:Program} {ops:Array Oper} {Q:Exit→Act→World→Prop} {a0:Act} {D:List Nat} {dep:Nat→Nat}
 {Inv:World→Prop} {R:World→World→Prop} {Fs:Nat→Value→World→Prop}
def Hr (P:Program) (ops:Array Oper) (Q:Exit→Act→World→Prop) (a0:Act) (D:List Nat) (dep:Nat→Nat) (Inv:World→Prop) (Fs:Nat→Value→World→Prop) (o:Oper):Prop:=
 ∀(a:Act) (w:World),DD a0 D a→Inv w→(∀j,j+1<ops.size→Fs j (sl a (dep j)) w)→
 Region.wanted o (yielded ops a.tmps)=true∧ ∃f args,(execOp a.eval o).run P w= .ok (.enter f args) w∧Calls P f args w fun e w'=> ∃v,e= .returned v∧Q .normal (a.put o.dst v) w'
theorem Xq {up:Nat→Nat} {L:Nat} {oL:Oper} (hL:ops.size=L+1) (hoL:ops[L]?=some oL) (hup:aaz ops L up=true) (hs:sR ops a0.tmps.size D dep=true) (hstab: ∀j a w w',R w w'→xz dep Fs j a w→xz dep Fs j a w')
 (hops: ∀i o,i<L→ops[i]?=some o→SW P ops a0 D [] dep Inv R Fs i o)
 (hlast:Hr P ops Q a0 D dep Inv Fs oL):
 ∀(fuel:Nat) (listed:Array Bool) (a:Act) (w:World),listed.size=ops.size→listed.getD L true=false→DD a0 D a→Inv w→
  (∀i,i<ops.size→listed.getD i true=true→xz dep Fs i a w)→
  (∀j oj i,ops[j]?=some oj→listed.getD j true=true→bB oj i=true→listed.getD i false=true)→
  ((List.range ops.size).filter fun i=> !listed.getD i true).length≤fuel→wpAny P .any ops Q fuel listed a w:=by
 have hall: ∀(listed:Array Bool),listed.size=ops.size→Region.ready .any ops listed=[]→ ∀n i,i≤n→i<ops.size→listed.getD i true=true:=by
  intro listed hsz hr n
  induction n with
  |zero=>
   intro i hi hlt
   obtain rfl:i=0:=by omega
   cases hl:listed.getD 0 true with
   |true=>rfl
   |false=>
    exfalso
    obtain ⟨o,ho⟩: ∃o,ops[0]?=some o:=⟨ops[0],by simp [hlt]⟩
    have hm:0∈Region.ready .any ops listed:=by
     unfold Region.ready
     rw [List.mem_filter]
     refine ⟨by simpa using hlt,?_⟩
     rw [hl,ho]
     simp only [Bool.not_false,Bool.true_and,Option.map_some,Option.getD_some]
     refine Array.all_eq_true'.2 fun e he=>?_
     cases hb:Region.binds .any e with
     |false=>rfl
     |true=>have:=(FX hs ho).1 e he hb;omega
    rw [hr] at hm
    cases hm
  |succ n ih=>
   intro i hi hlt
   by_cases hle:i≤n
   ·exact ih i hle hlt
   obtain rfl:i=n+1:=by omega
   cases hl:listed.getD (n+1) true with
   |true=>rfl
   |false=>
    exfalso
    obtain ⟨o,ho⟩: ∃o,ops[n+1]?=some o:=⟨ops[n+1],by simp [hlt]⟩
    have hm:n+1∈Region.ready .any ops listed:=by
     unfold Region.ready
     rw [List.mem_filter]
     refine ⟨by simpa using hlt,?_⟩
     rw [hl,ho]
     simp only [Bool.not_false,Bool.true_and,Option.map_some,Option.getD_some]
     refine Array.all_eq_true'.2 fun e he=>?_
     cases hb:Region.binds .any e with
     |false=>rfl
     |true=>
      have h1:=(FX hs ho).1 e he hb
      have h2:=ih e.on (by omega) (by omega)
      have h3:e.on<listed.size:=by omega
      simp [h3] at h2
      simp [h3,h2]
    rw [hr] at hm
    cases hm
 intro fuel
 induction fuel with
 |zero=>
  intro listed a w hsz hun0 hB hI hF hcl hn
  exfalso
  have hnil:(List.range ops.size).filter (fun i=> !listed.getD i true)=[]:=List.eq_nil_of_length_eq_zero (by omega)
  have:=List.filter_eq_nil_iff.1 hnil L (by simp;omega)
  rw [hun0] at this
  simp at this
 |succ fuel ih=>
  intro listed a w hsz hun0 hB hI hF hcl hn
  refine ⟨fun hr=>(by have:=(hall listed hsz hr L L (Nat.le_refl _) (by omega)).symm.trans hun0
                      cases this),fun i hi=>?_⟩
  have hi':=hi
  unfold Region.ready at hi'
  rw [List.mem_filter] at hi'
  obtain ⟨hir,hib⟩:=hi'
  have hilt:i<ops.size:=by simpa using hir
  obtain ⟨o,ho⟩: ∃o,ops[i]?=some o:=⟨ops[i],by simp [hilt]⟩
  rw [ho] at hib
  simp only [Option.map_some,Option.getD_some,Bool.and_eq_true,Bool.not_eq_true'] at hib
  obtain ⟨hun,hpre⟩:=hib
  have hpre': ∀j,bB o j=true→listed.getD j false=true:=by
   intro j hj
   unfold bB at hj
   obtain ⟨e,he,hb⟩:=List.any_eq_true.1 hj
   have he:=Array.mem_toList_iff.1 he
   simp only [Bool.and_eq_true,beq_iff_eq] at hb
   have:=Array.all_eq_true'.1 hpre e he
   rw [hb.1] at this
   simpa [hb.2] using this
  have hst:=FX hs ho
  have hgd: ∀j d,(listed.setIfInBounds i true).getD j d=if j=i then true else listed.getD j d:=by
   intro j d
   have hil:i<listed.size:=by omega
   by_cases hji:j=i
   ·subst hji;simp [hil]
   ·rw [if_neg hji]
    simp only [Array.getD_eq_getD_getElem?]
    rw [Array.getElem?_setIfInBounds_ne (fun e=>hji e.symm)]
  by_cases hiL:i=L
  ·subst hiL
   obtain rfl:o=oL:=Option.some.inj (ho.symm.trans hoL)
   have hlt: ∀(n j:Nat),i-j≤n→j<i→listed.getD j true=true:=by
    intro n
    induction n with
    |zero=>intro j h1 h2;omega
    |succ n ihn=>
     intro j h1 h2
     have hu:=List.all_eq_true.1 hup j (by simpa using h2)
     simp only [Bool.and_eq_true,decide_eq_true_eq] at hu
     obtain ⟨⟨u1,u2⟩,u3⟩:=hu
     obtain ⟨ou,hou⟩: ∃ou,ops[up j]?=some ou:=⟨ops[up j]'(by omega),by simp [show up j<ops.size by omega]⟩
     rw [hou] at u3
     have u3:bB ou j=true:=u3
     have hj:listed.getD j false=true:=by
      by_cases hui:up j=i
      ·rw [hui,ho] at hou
       injection hou with hou
       subst hou
       exact hpre' j u3
      ·exact hcl (up j) ou j hou (ihn (up j) (by omega) (by omega)) u3
     have hjl:j<listed.size:=by omega
     simp [hjl] at hj
     simp [hjl,hj]
   have hallF: ∀j,j+1<ops.size→xz dep Fs j a w:=fun j hj=>hF j (by omega) (hlt i j (by omega) (by omega))
   obtain ⟨hw,f,args,hr,hg⟩:=hlast a w hB hI hallF
   unfold wpOp
   rw [ho]
   simp only [hw,if_true,Oper.wp,hr,Oper.upon]
   refine .inl (hg.mono ?_)
   rintro e w' ⟨v,rfl,hq⟩
   have hnone:Region.ready .any ops (listed.setIfInBounds i true)=[]:=by
    unfold Region.ready
    rw [List.filter_eq_nil_iff]
    intro j hj
    have hj':j<ops.size:=by simpa using hj
    have:(listed.setIfInBounds i true).getD j true=true:=by
     rw [hgd]
     by_cases hji:j=i
     ·simp [hji]
     ·rw [if_neg hji];exact hlt i j (by omega) (by omega)
    simp only [this,Bool.not_true,Bool.false_and,Bool.false_eq_true,not_false_eq_true]
   cases fuel with
   |zero=>exact ⟨hnone,hq⟩
   |succ fuel=>exact ⟨fun _=>hq,fun j hj=>by rw [hnone] at hj;cases hj⟩
  have howe:SW P ops a0 D [] dep Inv R Fs i o:=hops i o (by omega) ho
  have hfacts: ∀j,bB o j=true→xz dep Fs j a w:=by
   intro j hj
   have h1:=hpre' j hj
   have hjl:j<listed.size:=by
    rcases Nat.lt_or_ge j listed.size with h |h
    ·exact h
    ·simp [h] at h1
   refine hF j (by omega) ?_
   simp [hjl] at h1
   simp [hjl,h1]
  -- what holds behind operation i
  have hnext: ∀a' w',(∃v,a'=a.put o.dst v)→Inv w'→xz dep Fs i a' w'→(w'=w∨(R w w'∧Uz ops [] i=true))→
   wpAny P .any ops Q fuel (listed.setIfInBounds i true) a' w':=by
   rintro a' w' ⟨v,rfl⟩ hI' hFi hch
   refine ih _ _ _ (by simp [hsz]) (by rw [hgd,if_neg (fun e=>hiL e.symm)];exact hun0) (MH hB _ hst.2.1 v) hI' ?_ ?_ ?_
   ·intro j hj hlj
    rw [hgd] at hlj
    by_cases hji:j=i
    ·subst hji;exact hFi
    rw [if_neg hji] at hlj
    obtain ⟨oj,hoj⟩: ∃oj,ops[j]?=some oj:=⟨ops[j],by simp [hj]⟩
    have hnw:bB oj i=false:=by
     cases hw:bB oj i with
     |false=>rfl
     |true=>
      have h1:=hcl j oj i hoj hlj hw
      have hil:i<listed.size:=by omega
      simp [hil] at h1 hun
      rw [h1] at hun
      cases hun
    have h1:xz dep Fs j (a.put o.dst v) w:=TA _ _ (fun d hd=>hst.2.2 j oj hoj hji hnw d hd) (hF j hj hlj)
    rcases hch with rfl |⟨hR,hnl⟩
    ·exact h1
    ·exact hstab j _ _ _ hR h1
   ·intro j oj k hoj hlj hw
    rw [hgd] at hlj ⊢
    by_cases hki:k=i
    ·simp [hki]
    rw [if_neg hki]
    by_cases hji:j=i
    ·subst hji
     rw [ho] at hoj
     injection hoj with hoj
     subst hoj
     exact hpre' k hw
    ·rw [if_neg hji] at hlj
     exact hcl j oj k hoj hlj hw
   ·have hsub:(List.range ops.size).filter (fun j=> !(listed.setIfInBounds i true).getD j true)=((List.range ops.size).filter fun j=> !listed.getD j true).filter (fun j=> !(j==i)):=by
     rw [List.filter_filter]
     refine List.filter_congr fun j _=>?_
     rw [hgd]
     by_cases hji:j=i<;>simp [hji]
    rw [hsub]
    have hlt:(((List.range ops.size).filter fun j=> !listed.getD j true).filter (fun j=> !(j==i))).length<((List.range ops.size).filter fun j=> !listed.getD j true).length:=by
     rw [List.length_filter_lt_length_iff_exists]
     exact ⟨i,List.mem_filter.2 ⟨hir,by simp [hun]⟩,by simp⟩
    omega
  have hgive: ∀v w',Mz ops [] dep Inv R Fs i o a w v w'→wpAny P .any ops Q fuel (listed.setIfInBounds i true) (a.put o.dst v) w':=by
   rintro v w' ⟨h1,h2,h3⟩
   refine hnext _ _ ⟨v,rfl⟩ h1 ?_ h3
   unfold xz
   cases hd:o.dst with
   |none=>rw [hd] at h2;exact h2
   |some d=>
    rw [hd] at h2
    obtain ⟨e1,e2⟩:=PP hs ho hd
    rw [e1,nF _ _ (by rw [hB.1];exact e2)]
    exact h2
  unfold wpOp
  rw [ho]
  rcases howe a w hB hI hfacts with ⟨hw,v,w',hr,hg⟩ |⟨hw,w',hr,hg⟩ |⟨hw,f,args,hr,hg⟩ |⟨hw,hg⟩
  ·simp only [hw,if_true,Oper.wp,hr,Oper.upon]
   exact .inl (hgive _ _ hg)
  ·simp only [hw,if_true,Oper.wp,hr,Oper.upon]
   exact .inl (hgive _ _ hg)
  ·simp only [hw,if_true,Oper.wp,hr,Oper.upon]
   refine .inl (hg.mono ?_)
   rintro e w' ⟨v,rfl,hg'⟩
   exact hgive _ _ hg'
  ·simp only [hw,Bool.false_eq_true,if_false]
   exact hgive _ _ hg
theorem NO {id:Nat} {w:World} {up:Nat→Nat} {L:Nat} {oL:Oper} (hm:P.follows .mixedOrders=true) (hL:ops.size=L+1) (hoL:ops[L]?=some oL) (hup:aaz ops L up=true) (hs:sR ops a0.tmps.size D dep=true)
 (hstab: ∀j a w w',R w w'→xz dep Fs j a w→xz dep Fs j a w') (hI:Inv w.drew)
 (hops: ∀i o,i<L→ops[i]?=some o→SW P ops a0 D [] dep Inv R Fs i o) (hlast:Hr P ops Q a0 D dep Inv Fs oL):(Code.region id ops true).wp P Q a0 w:=
 wp_region_any hm (Xq hL hoL hup hs hstab hops hlast ops.size _ a0 _ (by simp) (by simp [hL]) ⟨rfl,rfl,fun _ _=>rfl⟩ hI
  (fun i hi h=>by simp [hi] at h)
  (fun j oj i hj h=>by
   have:j<ops.size:=by
    rcases Nat.lt_or_ge j ops.size with h |h
    ·exact h
    ·simp [h] at hj
   simp [this] at h)
  (by have:=List.length_filter_le (fun i=> !(Array.replicate ops.size false).getD i true) (List.range ops.size);simpa using this))
theorem LR {id:Nat} {w:World} {up:Nat→Nat} {L:Nat} {oL:Oper} (hm:P.follows .mixedOrders=true) (hL:ops.size=L+1) (hoL:ops[L]?=some oL) (hup:aaz ops L up=true) (hs:sR ops a0.tmps.size D dep=true)
 (hstab: ∀j a w w',R w w'→xz dep Fs j a w→xz dep Fs j a w') (hI:Inv w.drew)
 (hops:KR P ops a0 D [] dep Inv R Fs 0 (ops.toList.take L)) (hlast:Hr P ops Q a0 D dep Inv Fs oL):(Code.region id ops true).wp P Q a0 w:=
 NO hm hL hoL hup hs hstab hI (fun i o hi ho=>by
  have:=Xi hops i o (by rw [List.getElem?_take_of_lt hi];simpa using ho)
  rwa [Nat.zero_add] at this) hlast
end
theorem RJ {f:FuncId} {own:Bool} (h:aN Tryz.prog ⟨f,[.o (.int .i64)],[.o .s],own,fun x=>cv gM 30 x⟩):aN Tryz.prog ⟨f,[.o (.int .i64)],[.o .s],own,fun x=>aY x⟩:=⟨h.1,fun x res hm=>h.2 x res (ac8 hm)⟩
theorem DJ {w w1:World} (h:Bs w) (hb:Below w.heap.size w w1):Bs w1:=by
 obtain ⟨h1,m,h2⟩:=h
 exact ⟨fun w' h'=>h1 w' (bj h' hb),m,fun w' h'=>h2 w' (bj h' hb)⟩
theorem FQ {own:Bool} (hN:aN Tryz.prog ⟨118,[.o .s],[.o (.int .i64),.o .b],own,fun x=>aD x⟩) {w:World} (hbs:Bs w) {s:ByteArray} {r:Int×Bool} (hm:aD s=some r) {w1:World} (h1:Below w.heap.size w w1):
 Calls Tryz.prog 118 #[.string s] w1 fun e w'=>e= .returned (.tuple #[.int .i64 r.1,.bool r.2])∧Below w1.heap.size w1 w':=by
 have h:=hN.2 s r hm (ZW []) w1 w1 [] (DJ hbs h1) ⟨_,_,rfl,⟨s,rfl⟩,rfl⟩ (St.nil w1)
 refine h.mono ?_
 rintro e w' ⟨us,A,rfl,⟨v1,v2,v3,A1,A2,A3,hv,rfl,q1,q2,q3⟩,S⟩
 obtain ⟨v,vr,u,ur,B1,B2,rfl,rfl,rfl,⟨k,z,rfl,rfl,rfl⟩,v,vr,u,ur,B1,B2,rfl,rfl,rfl,⟨y,rfl,rfl,rfl⟩,rfl,rfl,rfl⟩:=q1
 have hv: [PV.int .i64 r.1,PV.b r.2]=_:=hv
 simp only [List.cons_append,List.nil_append,List.cons.injEq,PV.int.injEq,PV.b.injEq] at hv
 obtain ⟨⟨rfl,rfl⟩,rfl,_⟩:=hv
 exact ⟨rfl,S.below⟩
theorem PT (w:World): ∃w1 w2 w3 w4 w5 w6 w7 w8,(Instr.makeMap 159 none).run Tryz.prog (w.alloc (.cells #[.int .i64 0,.int .i64 0,.int .i64 0] 86))= .ok (.map (some (w.heap.size+1))) (((w.alloc (.cells #[.int .i64 0,.int .i64 0,.int .i64 0] 86))).alloc (.map #[] 0))∧(Instr.makeMap 159 none).run Tryz.prog w5= .ok (.map (some (w.heap.size+2))) (w5.alloc (.map #[] 0))∧(Instr.mapUpdate 159 (.map (some (w.heap.size+1))) (.string {data:= #[111,110]}) (.int .i64 0)).run Tryz.prog (((w.alloc (.cells #[.int .i64 0,.int .i64 0,.int .i64 0] 86))).alloc (.map #[] 0))= .ok () w1∧(Instr.mapUpdate 159 (.map (some (w.heap.size+1))) (.string {data:= #[111,102,102]}) (.int .i64 1)).run Tryz.prog w1= .ok () w2∧(Instr.mapUpdate 159 (.map (some (w.heap.size+1))) (.string {data:= #[101,97,114,116,104]}) (.int .i64 2)).run Tryz.prog w2= .ok () w3∧(Instr.mapUpdate 159 (.map (some (w.heap.size+1))) (.string {data:= #[99,108,101,97,114]}) (.int .i64 3)).run Tryz.prog w3= .ok () w4∧(Instr.mapUpdate 159 (.map (some (w.heap.size+1))) (.string {data:= #[98,114,101,97,107]}) (.int .i64 6)).run Tryz.prog w4= .ok () w5∧(Instr.mapUpdate 159 (.map (some (w.heap.size+2))) (.string {data:= #[105,115,115,117,101]}) (.int .i64 4)).run Tryz.prog (w5.alloc (.map #[] 0))= .ok () w6∧(Instr.mapUpdate 159 (.map (some (w.heap.size+2))) (.string {data:= #[114,101,116,117,114,110]}) (.int .i64 5)).run Tryz.prog w6= .ok () w7∧(Instr.mapUpdate 159 (.map (some (w.heap.size+2))) (.string {data:= #[109,101,110,100]}) (.int .i64 7)).run Tryz.prog w7= .ok () w8∧rL w8 (w.heap.size+1) GT∧rL w8 (w.heap.size+2) GU∧w8.heap.size=w.heap.size+3∧w5.heap.size=w.heap.size+2∧Below w.heap.size w w8∧Bk w8 w.heap.size 86 #[.int .i64 0,.int .i64 0,.int .i64 0]:=by
 have ht:Tryz.prog.underlying 159=some (.map 9 3):=Tryz.underlying159
 have hk:Tryz.prog.underlying 9=some .string:=Tryz.underlying9
 have b0:Below w.heap.size w (((w.alloc (.cells #[.int .i64 0,.int .i64 0,.int .i64 0] 86))).alloc (.map #[] 0)):=(Below.refl _ _).alloc (Nat.le_refl _) _ |>.alloc (by simp) _
 have B0:Bk (((w.alloc (.cells #[.int .i64 0,.int .i64 0,.int .i64 0] 86))).alloc (.map #[] 0)) w.heap.size 86 #[.int .i64 0,.int .i64 0,.int .i64 0]:=(Bk.new w _ _).alloc _
 have m0:rL (((w.alloc (.cells #[.int .i64 0,.int .i64 0,.int .i64 0] 86))).alloc (.map #[] 0)) (w.heap.size+1) []:=by have:=QO ((w.alloc (.cells #[.int .i64 0,.int .i64 0,.int .i64 0] 86)));simpa using this
 have z0:(((w.alloc (.cells #[.int .i64 0,.int .i64 0,.int .i64 0] 86))).alloc (.map #[] 0)).heap.size=w.heap.size+2:=by simp
 obtain ⟨w1,r1,m1,z1,g1⟩:=ug m0 ht hk (k:= {data:= #[111,110]}) 0 rfl
 have b1:=nA b0 g1 (by omega)
 have B1:=B0.grown' g1 (by omega)
 obtain ⟨w2,r2,m2,z2,g2⟩:=ug m1 ht hk (k:= {data:= #[111,102,102]}) 1 rfl
 have b2:=nA b1 g2 (by omega)
 have B2:=B1.grown' g2 (by omega)
 obtain ⟨w3,r3,m3,z3,g3⟩:=ug m2 ht hk (k:= {data:= #[101,97,114,116,104]}) 2 rfl
 have b3:=nA b2 g3 (by omega)
 have B3:=B2.grown' g3 (by omega)
 obtain ⟨w4,r4,m4,z4,g4⟩:=ug m3 ht hk (k:= {data:= #[99,108,101,97,114]}) 3 rfl
 have b4:=nA b3 g4 (by omega)
 have B4:=B3.grown' g4 (by omega)
 obtain ⟨w5,r5,m5,z5,g5⟩:=ug m4 ht hk (k:= {data:= #[98,114,101,97,107]}) 6 rfl
 have b5:=nA b4 g5 (by omega)
 have B5:=B4.grown' g5 (by omega)
 have z5':w5.heap.size=w.heap.size+2:=by omega
 have n0:rL (w5.alloc (.map #[] 0)) w5.heap.size []:=QO w5
 have m5':=FN m5 (.map #[] 0)
 have b5':Below w.heap.size w (w5.alloc (.map #[] 0)):=b5.alloc (by omega) _
 have B5':=B5.alloc (.map #[] 0)
 obtain ⟨w6,r6,n1,z6,g6⟩:=ug n0 ht hk (k:= {data:= #[105,115,115,117,101]}) 4 rfl
 have m6:=Ix m5' g6 (by omega)
 have b6:=nA b5' g6 (by omega)
 have B6:=B5'.grown' g6 (by omega)
 obtain ⟨w7,r7,n2,z7,g7⟩:=ug n1 ht hk (k:= {data:= #[114,101,116,117,114,110]}) 5 rfl
 have m7:=Ix m6 g7 (by omega)
 have b7:=nA b6 g7 (by omega)
 have B7:=B6.grown' g7 (by omega)
 obtain ⟨w8,r8,n3,z8,g8⟩:=ug n2 ht hk (k:= {data:= #[109,101,110,100]}) 7 rfl
 have m8:=Ix m7 g8 (by omega)
 have b8:=nA b7 g8 (by omega)
 have B8:=B7.grown' g8 (by omega)
 have z6':(w5.alloc (.map #[] 0)).heap.size=w.heap.size+3:=by simp;omega
 have q0:(Instr.makeMap 159 none).run Tryz.prog (w.alloc (.cells #[.int .i64 0,.int .i64 0,.int .i64 0] 86))= .ok (.map (some (w.heap.size+1))) (((w.alloc (.cells #[.int .i64 0,.int .i64 0,.int .i64 0] 86))).alloc (.map #[] 0)):=by have:=run_makeMap (P:=Tryz.prog) 159 ((w.alloc (.cells #[.int .i64 0,.int .i64 0,.int .i64 0] 86)));simpa using this
 have q5:(Instr.makeMap 159 none).run Tryz.prog w5= .ok (.map (some w5.heap.size)) (w5.alloc (.map #[] 0)):=rfl
 rw [z5'] at q5 r6 r7 r8 n3
 exact ⟨w1,w2,w3,w4,w5,w6,w7,w8,q0,q5,r1,r2,r3,r4,r5,r6,r7,r8,m8,n3,by omega,z5',b8,B8⟩
theorem Rb {w:World} {A:Option Addr} {c:Nat} {ws:List ByteArray} (R:Rc w 1 A ws.length c (ws.flatMap (EK.s).enc)) (h:0<ws.length): ∃b off,A=some ⟨b,off,none⟩∧b<w.heap.size∧ ∀j s,ws[j]?=some s→w.cell? ⟨b,off+j,none⟩=some (.string s):=by
 have hf:ws.flatMap (EK.s).enc=ws.map Value.string:=by rw [List.map_eq_flatMap];rfl
 obtain ⟨b,off,hA,hcell⟩:=R.rd.2 (by omega)
 rw [hf] at hcell
 have hc: ∀j s,ws[j]?=some s→w.cell? ⟨b,off+j,none⟩=some (.string s):=fun j z hz=>hcell j _ (by rw [List.getElem?_map,hz];rfl)
 refine ⟨b,off,hA,?_,hc⟩
 have:=hc 0 ws[0] (by simp)
 rcases Nat.lt_or_ge b w.heap.size with h |h
 ·exact h
 ·simp [World.cell?,Array.getElem?_eq_none h] at this
def KS (w:World) (r:Int×Int×Int×Bool) (e:Ending) (w':World):Prop:=e= .returned (.tuple #[.agg #[.int .i64 r.1,.int .i64 r.2.1,.int .i64 r.2.2.1],.bool r.2.2.2])∧Below w.heap.size w w'
set_option maxRecDepth 20000 in
theorem Si {w:World} {A:Option Addr} {c n:Nat} (h2: ¬n=2) (h3: ¬n=3):Calls Tryz.prog 52 #[.slice A n c] w (KS w (0,0,0,false)):=by
 obtain ⟨w1,w2,w3,w4,w5,w6,w7,w8,q1,q2,r1,r2,r3,r4,r5,r6,r7,r8,m1,m2,z8,z5,b8,B8⟩:=PT w
 have e2:((n:Int)==2)=false:=by rw [beq_eq_false_iff_ne];omega
 have e3:((n:Int)==3)=false:=by rw [beq_eq_false_iff_ne];omega
 have f8:=B8.c3
 go_enter Tryz.func52,Tryz.ntmps52
 go_wp2
 exact bodyPost_ret (v:=.tuple #[.agg #[.int .i64 0,.int .i64 0,.int .i64 0],.bool false]) (by simp [results,Tryz.results52,go_sem, *]) rfl ⟨rfl,(by repeat' (first |exact Below.refl _ _ |assumption |refine Below.drew ?_ |refine cell_drew ?_ |refine Below.setCell ?_ (by (try simp);(try omega)) _ |refine Below.alloc ?_ (by (try simp);(try omega)) _ |refine wa (by assumption) (by (try simp);(try omega)) ?_))⟩
set_option maxRecDepth 20000 in
theorem UQ {own:Bool} (hN:aN Tryz.prog ⟨118,[.o .s],[.o (.int .i64),.o .b],own,fun x=>aD x⟩) {w:World} (hbs:Bs w) {x y:ByteArray} {A:Option Addr} {c:Nat} (R:Rc w 1 A [x,y].length c ([x,y].flatMap (EK.s).enc)) {p:Int×Bool} (hp:aD y=some p):
 Calls Tryz.prog 52 #[.slice A 2 c] w (KS w ((pe GT x).1,p.1,0,(pe GT x).2&&p.2)):=by
 obtain ⟨b,off,rfl,hb,hc⟩:=Rb R (by simp)
 have c0:w.cell? ⟨b,off,none⟩=some (.string x):=hc 0 x rfl
 have c1:w.cell? ⟨b,off+1,none⟩=some (.string y):=hc 1 y rfl
 clear hc R
 obtain ⟨w1,w2,w3,w4,w5,w6,w7,w8,q1,q2,r1,r2,r3,r4,r5,r6,r7,r8,m1,m2,z8,z5,b8,B8⟩:=PT w
 have hc0: ∀o,(w8.alloc o).cell? ⟨b,off,none⟩=some (.string x):=fun o=>((b8.alloc (by omega) o).cell (p:=⟨b,off,none⟩) hb).trans c0
 have hc1: ∀o,(w8.alloc o).cell? ⟨b,off+1,none⟩=some (.string y):=fun o=>((b8.alloc (by omega) o).cell (p:=⟨b,off+1,none⟩) hb).trans c1
 have hl: ∀o,(Instr.lookup 159 (.map (some (w.heap.size+1))) (.string x) true).run Tryz.prog (w8.alloc o)= .ok (.tuple #[.int .i64 (pe GT x).1,.bool (pe GT x).2]) (w8.alloc o):=fun o=>Nu (FN m1 o) Tryz.underlying159 Tryz.underlying9 (by simp [go_sem]) x
 have BD: ∀cs,Bk (w8.alloc (.cells cs 86)) (w.heap.size+3) 86 cs:=fun cs=>by have:=Bk.new w8 86 cs;rwa [z8] at this
 have B0: ∀cs,Bk (w8.alloc (.cells cs 86)) w.heap.size 86 #[.int .i64 0,.int .i64 0,.int .i64 0]:=fun cs=>B8.alloc _
 have bA: ∀o,Below w.heap.size w (w8.alloc o):=fun o=>b8.alloc (by omega) o
 have f8:=B8.c3
 generalize pe GT x=l at*
 obtain ⟨l1,l2⟩:=l
 obtain ⟨p1,p2⟩:=p
 go_enter Tryz.func52,Tryz.ntmps52
 go_wp2_with fail
 refine (FQ hN hbs hp (bA _)).mono ?_
 rintro e w9 ⟨rfl,hb9⟩
 have b9:=bj hb9 (bA _)
 have f0:=((B0 _).after hb9).c3
 have f1:=((BD _).after hb9).c3
 clear hb9 bA B0 BD f8 B8 b8 hl hc0 hc1 m1 m2 r1 r2 r3 r4 r5 r6 r7 r8 q1 q2
 cases l2
 all_goals
  go_wp2
  exact bodyPost_ret (v:=.tuple #[.agg #[.int .i64 l1,.int .i64 p1,.int .i64 0],.bool _]) (by simp [results,Tryz.results52,go_sem, *]) rfl ⟨rfl,(by repeat' (first |exact Below.refl _ _ |assumption |refine Below.drew ?_ |refine cell_drew ?_ |refine Below.setCell ?_ (by (try simp);(try omega)) _ |refine Below.alloc ?_ (by (try simp);(try omega)) _ |refine wa (by assumption) (by (try simp);(try omega)) ?_))⟩
set_option maxRecDepth 20000 in
set_option maxHeartbeats 2000000 in
theorem Pw {own:Bool} (hN:aN Tryz.prog ⟨118,[.o .s],[.o (.int .i64),.o .b],own,fun x=>aD x⟩) {w:World} (hbs:Bs w) {x y z:ByteArray} {A:Option Addr} {c:Nat} (R:Rc w 1 A [x,y,z].length c ([x,y,z].flatMap (EK.s).enc)) {p q:Int×Bool} (hp:aD y=some p) (hq:aD z=some q):
 Calls Tryz.prog 52 #[.slice A 3 c] w (KS w ((pe GU x).1,p.1,q.1,(pe GU x).2&&p.2&&q.2)):=by
 obtain ⟨b,off,rfl,hb,hc⟩:=Rb R (by simp)
 have c0:w.cell? ⟨b,off,none⟩=some (.string x):=hc 0 x rfl
 have c1:w.cell? ⟨b,off+1,none⟩=some (.string y):=hc 1 y rfl
 have c2:w.cell? ⟨b,off+2,none⟩=some (.string z):=hc 2 z rfl
 clear hc R
 obtain ⟨w1,w2,w3,w4,w5,w6,w7,w8,q1,q2,r1,r2,r3,r4,r5,r6,r7,r8,m1,m2,z8,z5,b8,B8⟩:=PT w
 have hc0: ∀o,(w8.alloc o).cell? ⟨b,off,none⟩=some (.string x):=fun o=>((b8.alloc (by omega) o).cell (p:=⟨b,off,none⟩) hb).trans c0
 have hc1: ∀o,(w8.alloc o).cell? ⟨b,off+1,none⟩=some (.string y):=fun o=>((b8.alloc (by omega) o).cell (p:=⟨b,off+1,none⟩) hb).trans c1
 have hl: ∀o,(Instr.lookup 159 (.map (some (w.heap.size+2))) (.string x) true).run Tryz.prog (w8.alloc o)= .ok (.tuple #[.int .i64 (pe GU x).1,.bool (pe GU x).2]) (w8.alloc o):=fun o=>Nu (FN m2 o) Tryz.underlying159 Tryz.underlying9 (by simp [go_sem]) x
 have BD: ∀cs,Bk (w8.alloc (.cells cs 86)) (w.heap.size+3) 86 cs:=fun cs=>by have:=Bk.new w8 86 cs;rwa [z8] at this
 have B0: ∀cs,Bk (w8.alloc (.cells cs 86)) w.heap.size 86 #[.int .i64 0,.int .i64 0,.int .i64 0]:=fun cs=>B8.alloc _
 have bA: ∀o,Below w.heap.size w (w8.alloc o):=fun o=>b8.alloc (by omega) o
 have f8:=B8.c3
 generalize pe GU x=l at*
 obtain ⟨l1,l2⟩:=l
 obtain ⟨p1,p2⟩:=p
 obtain ⟨p3,p4⟩:=q
 go_enter Tryz.func52,Tryz.ntmps52
 go_wp2_with fail
 refine (FQ hN hbs hp (bA _)).mono ?_
 rintro e w9 ⟨rfl,hb9⟩
 have z9:=hb9.size
 simp at z9
 have b9:=bj hb9 (bA _)
 have f0:=((B0 _).after hb9).c3
 have f1:=((BD _).after hb9).c3
 have e2:=(b9.cell (p:=⟨b,off+2,none⟩) hb).trans c2
 have D:=(BD _).after hb9
 have D0:=(B0 _).after hb9
 clear hb9 bA B0 BD f8 B8 b8 hl hc0 hc1 m1 m2 r1 r2 r3 r4 r5 r6 r7 r8 q1 q2
 go_wp2_with fail
 have Dn:Bk (w9.setCell ⟨w.heap.size+3,1,none⟩ (.int .i64 p1)) (w.heap.size+3) 86 #[.int .i64 l1,.int .i64 p1,.int .i64 0]:=D.set_ 1 _
 have Dm:Bk (w9.setCell ⟨w.heap.size+3,1,none⟩ (.int .i64 p1)) w.heap.size 86 #[.int .i64 0,.int .i64 0,.int .i64 0]:=D0.far (by simp) _
 have bn:Below w.heap.size w (w9.setCell ⟨w.heap.size+3,1,none⟩ (.int .i64 p1)):=b9.setCell (by simp) _
 refine (FQ hN hbs hq bn).mono ?_
 rintro e w10 ⟨rfl,hb10⟩
 have b10:=bj hb10 bn
 have g0:=(Dm.after hb10).c3
 have g1:=(Dn.after hb10).c3
 clear hb10 Dn Dm D D0 f0 f1 b9 bn
 cases l2<;>cases p2
 all_goals
  go_wp2
  exact bodyPost_ret (v:=.tuple #[.agg #[.int .i64 l1,.int .i64 p1,.int .i64 p3],.bool _]) (by simp [results,Tryz.results52,go_sem, *]) rfl ⟨rfl,(by repeat' (first |exact Below.refl _ _ |assumption |refine Below.drew ?_ |refine cell_drew ?_ |refine Below.setCell ?_ (by (try simp);(try omega)) _ |refine Below.alloc ?_ (by (try simp);(try omega)) _ |refine wa (by assumption) (by (try simp);(try omega)) ?_))⟩
theorem Nj {own:Bool} (co:CallOk Tryz.prog 52) (hN:aN Tryz.prog ⟨118,[.o .s],[.o (.int .i64),.o .b],own,fun x=>aD x⟩):aN Tryz.prog ⟨52,[.o (.sl .ro 9 .s)],[.g [.int .i64,.int .i64,.int .i64],.o .b],false,fun x=>du x⟩:=⟨co,fun x res hm e w0 w X hbs hp hS=>by
 have hm:du x=some res:=hm
 obtain ⟨v,vr,hv,⟨l,hl,hro⟩,_⟩:=hp
 have hl:=(List.head_eq_of_cons_eq hv).trans hl
 injection hl with _ hl
 subst hl
 have R:=hro w _ hS (fun y hy=>List.mem_append_right _ hy)
 have hbs1:=DJ hbs hS.below
 have key:Calls Tryz.prog 52 #[.slice (e.a 0) x.length (e.c 0)] w (KS w res):=by
  unfold du at hm
  by_cases h2:x.length=2
  ·obtain ⟨a,b,rfl⟩: ∃a b,x=[a,b]:=by
    match x,h2 with
    | [a,b],_=>exact ⟨a,b,rfl⟩
   rw [decide_eq_true h2] at hm
   obtain ⟨p,hp,hm⟩:=wd hm
   injection hm with hm
   subst hm
   exact UQ hN hbs1 R hp
  by_cases h3:x.length=3
  ·obtain ⟨a,b,c,rfl⟩: ∃a b c,x=[a,b,c]:=by
    match x,h3 with
    | [a,b,c],_=>exact ⟨a,b,c,rfl⟩
   rw [decide_eq_false h2,decide_eq_true h3] at hm
   obtain ⟨p,hp,hm⟩:=wd hm
   obtain ⟨q,hq,hm⟩:=wd hm
   injection hm with hm
   subst hm
   exact Pw hN hbs1 R hp hq
  rw [decide_eq_false h2,decide_eq_false h3] at hm
  injection hm with hm
  subst hm
  exact Si h2 h3
 refine Calls.mono key ?_
 rintro en w' ⟨rfl,hb⟩
 exact ⟨[_,_],[],rfl,⟨[_,_,_,_],[],[],[],[],[],rfl,rfl,⟨[_,_,_],[_],[_,_,_],[_],[],[],rfl,rfl,rfl,⟨_,_,_,_,[],[],rfl,rfl,rfl,⟨_,_,rfl,rfl,rfl⟩,_,_,_,_,[],[],rfl,rfl,rfl,⟨_,_,rfl,rfl,rfl⟩,_,_,_,_,[],[],rfl,rfl,rfl,⟨_,_,rfl,rfl,rfl⟩,rfl,rfl,rfl⟩,⟨_,[],_,[],[],[],rfl,rfl,rfl,⟨_,rfl,rfl,rfl⟩,rfl,rfl,rfl⟩⟩,⟨rfl,rfl⟩,⟨[],[],[],[],rfl,rfl,⟨rfl,rfl⟩,⟨rfl,rfl⟩⟩⟩,hS.quiet hb⟩⟩
abbrev RD:EK:=.p (.int .i64) (.p (.int .i64) (.int .i64))
theorem NA {own:Bool} (hN:aN Tryz.prog ⟨100,[.g [.int .i64,.sl .ro 77 RD]],[.o .b],own,fun x=>aX x.1 x.2⟩) {w:World} (hbs:Bs w) {b:Int} {ls:List (Int×Int×Int)} {A:Option Addr} {c:Nat} (R:Rc w 3 A ls.length c (ls.flatMap RD.enc)) {p:Bool} (hp:aX b ls=some p) {w1:World} (h1:Below w.heap.size w w1):
 Calls Tryz.prog 100 #[.agg #[.int .i64 b,.slice A ls.length c]] w1 fun e w'=>e= .returned (.bool p)∧Below w1.heap.size w1 w':=by
 have R1:Rc w1 3 A ls.length c (ls.flatMap RD.enc):=⟨R.rd.after h1,R.cap⟩
 refine (Yh hN (x:=(b,ls)) hp (e:=ZW [(none,0),(A,c)]) (w:=w1) (b:=p) (DJ hbs h1) ⟨_,_,rfl,⟨.i64,b,rfl⟩,_,_,rfl,⟨ls,rfl,fun u L S _=>S.rc0 R1⟩,rfl⟩ rfl rfl rfl).mono ?_
 rintro e w' ⟨rfl,S⟩
 exact ⟨rfl,S.below⟩
theorem MG {T e:TypeId} {B b:Nat} {p:Value} {bs:List Value} {w w':World} (h:Lib.BuilderAtF T e B b p bs w) (hb:Below w.heap.size w w'):Lib.BuilderAtF T e B b p bs w':=by
 have hlt:=h.lt
 obtain ⟨h1,v,h2,h3,h4⟩:=h
 refine ⟨h1,v,(hb.block b hlt).trans h2,h3.kept (row:=none) ⟨hb.os,hb.tape,hb.output,hb.size,fun k hk _=>hb.block k hk⟩ ?_,h4⟩
 cases v.ownBlock<;>simp
theorem JX {T e:TypeId} {B b:Nat} {bs:List Value} {w w':World} (h:Lib.IsBuilderF T e B b bs w) (hb:Below w.heap.size w w'):Lib.IsBuilderF T e B b bs w':=
 h.imp (fun h=>MG h hb) (fun h=>MG h hb)
theorem Gn (B b:Nat) (bs:List Value) (s:ByteArray) (w:World) (h:Lib.IsBuilderF 131 5 B b bs w) (hlen:bs.length+s.size≤140737488355328) (hBw:B≤w.heap.size):
 Calls Tryz.prog 102 #[.pointer (some ⟨b,0,none⟩),.string s] w fun e w'=>e= .returned (.tuple #[.int .i64 s.size,.nilIface])∧Lib.IsBuilderF 131 5 B b (bs++Lib.strCells s) w'∧Below B w w':=by
 refine (Any.Builder_WriteString_k {Tryz.lays156 with} Tryz.Builder_Extra_156 B b bs s w h hlen hBw).mono ?_
 rintro e w' ⟨rfl,h1,h2,_⟩
 exact ⟨rfl,.inr h1,h2⟩
def OC (w:World) (s:ByteArray) (e:Ending) (w':World):Prop:=e= .returned (.string s)∧Below w.heap.size w w'
theorem VD {own:Bool} (hN:aN Tryz.prog ⟨100,[.g [.int .i64,.sl .ro 77 RD]],[.o .b],own,fun x=>aX x.1 x.2⟩) {w:World} (hbs:Bs w) {b:Int} {ls:List (Int×Int×Int)} {A:Option Addr} {c:Nat} (R:Rc w 3 A ls.length c (ls.flatMap RD.enc)) (hp:aX b ls=some false):Calls Tryz.prog 42 #[.agg #[.int .i64 b,.slice A ls.length c]] w (OC w (aW [])):=by
 have b0:Below w.heap.size w (w.alloc (.cells #[.int .i64 b,.slice A ls.length c] 25)):=(Below.refl _ _).alloc (Nat.le_refl _) _
 have hS:(aW []:ByteArray)= {data:= #[]}:=rfl
 rw [hS]
 go_enter Tryz.func42,Tryz.ntmps42
 go_wp2_with fail
 refine (NA hN hbs R hp b0).mono ?_
 rintro e w1 ⟨rfl,h1⟩
 have b1:=bj h1 b0
 go_wp2
 exact bodyPost_ret (v:=.string {data:= #[]}) (by simp [results,Tryz.results42,go_sem, *]) rfl ⟨rfl,(by repeat' (first |exact Below.refl _ _ |assumption |refine Below.drew ?_ |refine cell_drew ?_ |refine Below.setCell ?_ (by (try simp);(try omega)) _ |refine Below.alloc ?_ (by (try simp);(try omega)) _ |refine wa (by assumption) (by (try simp);(try omega)) ?_))⟩
def ZF (x:Int×Int×Int):List UInt8:=32::(Lib.itoa x.1++45::(Lib.itoa x.2.1++58::Lib.itoa x.2.2))
def Jh (b:Int) (ls:List (Int×Int×Int)) (k:Nat):List UInt8:=Lib.itoa b++(ls.take k).flatMap ZF
theorem MC (b:Int) (ls:List (Int×Int×Int)):Jh b ls 0=Lib.itoa b:=by simp [Jh]
theorem MB (b:Int) (ls:List (Int×Int×Int)) {k:Nat} (h:k<ls.length):Jh b ls (k+1)=Jh b ls k++ZF ls[k]:=by
 unfold Jh
 rw [List.take_succ_eq_append_getElem h,List.flatMap_append];simp
theorem VX (b:Int) (ls:List (Int×Int×Int)):Jh b ls ls.length=RX b ls:=by
 unfold Jh;rw [List.take_length];rfl
def XR (n:Int):Prop:= -9223372036854775808≤n∧n≤9223372036854775807
theorem tS {n:Int} (h:XR n):(Lib.itoa n).length≤21:=Lib.itoa_length_le n h.1 h.2
theorem Uu {x:Int×Int×Int} (h:(XR x.1∧XR x.2.1)∧XR x.2.2):(ZF x).length≤66:=by
 have h1:=tS h.1.1;have h2:=tS h.1.2;have h3:=tS h.2
 unfold ZF;simp;omega
theorem SX {b:Int} {ls:List (Int×Int×Int)} (h1:XR b) (h3: ∀x∈ls,(XR x.1∧XR x.2.1)∧XR x.2.2): ∀k,k≤ls.length→(Jh b ls k).length≤21+66*k
 |0,_=>by rw [MC];exact tS h1
 |k+1,hk=>by
  have:=SX h1 h3 k (by omega)
  have:=Uu (h3 ls[k] (List.getElem_mem _))
  rw [MB b ls (by omega),List.length_append];omega
def fsT (g:Nat) (xa xb xm:Int):Nat→Value→World→Prop
 |0,v,_=>v= .pointer (some ⟨g,0,none⟩)
 |1,v,_=>v= .int .i64 xa
 |2,v,_=>v= .string (aW (Lib.itoa xa))
 |3,v,_=>v= .string (aW ([32]++Lib.itoa xa))
 |4,v,_=>v= .string (aW ([32]++Lib.itoa xa++ [45]))
 |5,v,_=>v= .pointer (some ⟨g,1,none⟩)
 |6,v,_=>v= .int .i64 xb
 |7,v,_=>v= .string (aW (Lib.itoa xb))
 |8,v,_=>v= .string (aW ([32]++Lib.itoa xa++ [45]++Lib.itoa xb))
 |9,v,_=>v= .string (aW ([32]++Lib.itoa xa++ [45]++Lib.itoa xb++ [58]))
 |10,v,_=>v= .pointer (some ⟨g,2,none⟩)
 |11,v,_=>v= .int .i64 xm
 |12,v,_=>v= .string (aW (Lib.itoa xm))
 |13,v,_=>v= .string (aW ([32]++Lib.itoa xa++ [45]++Lib.itoa xb++ [58]++Lib.itoa xm))
 |_,_,_=>True
def YS (j:Nat):Nat:=if j<15 then 20+j else 0
def upT:Nat→Nat
 |0=>1 |1=>2 |2=>3 |3=>4 |4=>8 |5=>6 |6=>7 |7=>8 |8=>9 |9=>13 |10=>11 |11=>12 |12=>13 |13=>14 |_=>0
theorem ZG (xa xb xm:Int): [32]++Lib.itoa xa++ [45]++Lib.itoa xb++ [58]++Lib.itoa xm=ZF (xa,xb,xm):=by simp [ZF]
theorem WC (g:Nat) (xa xb xm:Int) (j:Nat) (a:Act) (w w':World) (h:xz YS (fsT g xa xb xm) j a w):xz YS (fsT g xa xb xm) j a w':=by
 unfold xz at h ⊢
 match j with
 |0 |1 |2 |3 |4 |5 |6 |7 |8 |9 |10 |11 |12 |13=>exact h
 |n+14=>trivial
theorem Dl {a:Act} {k:Nat} {v:Value} (h:a.tmps[k]?.getD undef=v):a.eval (.tmp k)=v:=by rw [←h];simp [Act.eval]
theorem SY {P:Program} {a:Act} {w:World} {o:Oper} {T U:TypeId} {x y:Operand} {p q:List UInt8} (ho:o.op= .binOp .add T x y U) (hx:a.eval x= .string (aW p)) (hy:a.eval y= .string (aW q)) (h:p.length≤100∧q.length≤100):(execOp a.eval o).run P w= .ok (.value (.string (aW (p++q)))) w:=by
 have:=NS (P:=P) (w:=w) ho hx hy (by rw [eu,eu];omega)
 rwa [yX] at this
set_option maxRecDepth 20000 in
set_option maxHeartbeats 2000000 in
theorem XI {own:Bool} (hN:aN Tryz.prog ⟨100,[.g [.int .i64,.sl .ro 77 RD]],[.o .b],own,fun x=>aX x.1 x.2⟩) {w:World} (hbs:Bs w) {b:Int} {ls:List (Int×Int×Int)} {A:Option Addr} {c:Nat} (R:Rc w 3 A ls.length c (ls.flatMap RD.enc)) (hp:aX b ls=some true) (hb:Uw b ls=true):Calls Tryz.prog 42 #[.agg #[.int .i64 b,.slice A ls.length c]] w (OC w (aW (RX b ls))):=by
 have b0:Below w.heap.size w (w.alloc (.cells #[.int .i64 b,.slice A ls.length c] 25)):=(Below.refl _ _).alloc (Nat.le_refl _) _
 have B0:Bk (w.alloc (.cells #[.int .i64 b,.slice A ls.length c] 25)) w.heap.size 25 #[.int .i64 b,.slice A ls.length c]:=Bk.new _ _ _
 unfold Uw n64 at hb
 simp only [Bool.and_eq_true,decide_eq_true_eq,List.all_eq_true] at hb
 obtain ⟨⟨hb1,hb2⟩,hb3⟩:=hb
 go_enter Tryz.func42,Tryz.ntmps42
 go_wp2_with fail
 refine (NA hN hbs R hp b0).mono ?_
 rintro e w1 ⟨rfl,h1⟩
 have b1:=bj h1 b0
 have B1:=B0.after h1
 have s1:=b1.size
 have f1:=(B1.alloc (.cells #[.pointer none,.slice none 0 0] 131)).c2
 go_wp2_with fail
 refine (sq hbs hb1 (b1.alloc s1 _)).mono ?_
 rintro e w2 ⟨rfl,h2⟩
 have F2:Lib.IsBuilderF 131 5 w1.heap.size w1.heap.size [] w2:=JX (Lib.IsBuilderF.of (Lib.fresh_isBuilder _ _ w1)) h2
 have z2:=h2.size
 simp at z2
 have b2:=bj h2 (b1.alloc s1 _)
 have l0:=tS hb1
 have B2:=(B1.alloc (.cells #[.pointer none,.slice none 0 0] 131)).after h2
 go_wp2_with fail
 refine (Gn w1.heap.size w1.heap.size [] _ w2 F2 (by rw [eu];simp;omega) (by omega)).mono ?_
 rintro e w3 ⟨rfl,F3,h3⟩
 have b3:Below w.heap.size w w3:=b2.trans (h3.mono s1)
 have z3:=h3.size
 have zl:w.heap.size<w1.heap.size:=by have:=h1.size;simp at this;omega
 have B3:=B2.below h3 zl
 have e3:([]:List Value)++Lib.strCells (aW (Lib.itoa b))=Lib.byteCells (Jh b ls 0):=by rw [MC,List.nil_append,Lib.strCells_eq,kW]
 rw [e3] at F3
 have HF:=Lib.hid F3
 have HB:=Lib.hid (Below.refl w1.heap.size w3)
 have f3:=B3.c2
 clear F3 f1 B1 B2 F2 b2 h3 h2 b1 h1
 go_wp2
 go_loopw [16] (fun i wr=> ∃k:Nat,k≤ls.length∧i= .int .i64 k∧Hid (Lib.IsBuilderF 131 5 w1.heap.size w1.heap.size (Lib.byteCells (Jh b ls k)) wr)∧Hid (Below w1.heap.size w3 wr)) (fun i _=>ls.length-(intOf i).toNat)
 case atStart=>exact ⟨0,Nat.zero_le _,rfl,HF,HB⟩
 case round=>
  obtain ⟨k,hk,rfl,HF,HB⟩:=hrel
  have sr:=HB.out.size
  by_cases hlt:k<ls.length
  ·obtain ⟨bk,off,rfl,hcell⟩:=R.rd.2 (by omega)
   have hx3:=hb3 ls[k] (List.getElem_mem _)
   have hkk:ls.getD k (0,0,0)=ls[k]:=by simp [hlt]
   have hc0:=hcell (k*3+0) (.int .i64 ls[k].1) (vh (f:=RD.enc) (fun _=>rfl) (0,0,0) hlt (by rw [hkk];rfl))
   have hc1:=hcell (k*3+1) (.int .i64 ls[k].2.1) (vh (f:=RD.enc) (fun _=>rfl) (0,0,0) hlt (by rw [hkk];rfl))
   have hc2:=hcell (k*3+2) (.int .i64 ls[k].2.2) (vh (f:=RD.enc) (fun _=>rfl) (0,0,0) hlt (by rw [hkk];rfl))
   have hbk:bk<w.heap.size:=by
    rcases Nat.lt_or_ge bk w.heap.size with h |h
    ·exact h
    ·simp [World.cell?,Array.getElem?_eq_none h] at hc0
   have hac:=MB b ls hlt
   have hal:=SX hb1 hb3 k hk
   have HA:=Lib.hid hac
   clear hac hcell hkk
   generalize ls[k]=x at*
   obtain ⟨xa,xb,xm⟩:=x
   have br:Below w.heap.size w wr:=b3.trans (HB.out.mono s1)
   have g0:wr.cell? ⟨bk,off+k*3,none⟩=some (.int .i64 xa):=(br.cell (p:=⟨bk,off+(k*3+0),none⟩) hbk).trans hc0
   have g1:wr.cell? ⟨bk,off+k*3+1,none⟩=some (.int .i64 xb):=(br.cell (p:=⟨bk,off+(k*3+1),none⟩) hbk).trans hc1
   have g2:wr.cell? ⟨bk,off+k*3+2,none⟩=some (.int .i64 xm):=(br.cell (p:=⟨bk,off+(k*3+2),none⟩) hbk).trans hc2
   clear hc0 hc1 hc2
   have BL:Bk (wr.alloc (.cells #[.int .i64 xa,.int .i64 xb,.int .i64 xm] 77)) wr.heap.size 77 #[.int .i64 xa,.int .i64 xb,.int .i64 xm]:=Bk.new _ _ _
   have FL:=HF.out.alloc (.cells #[.int .i64 xa,.int .i64 xb,.int .i64 xm] 77)
   have bL:=br.alloc (by omega) (.cells #[.int .i64 xa,.int .i64 xb,.int .i64 xm] 77)
   have HL:=HB.out.alloc (by omega) (.cells #[.int .i64 xa,.int .i64 xb,.int .i64 xm] 77)
   obtain ⟨⟨hxa,hxb⟩,hxm⟩:=hx3
   have la:=tS hxa;have lb:=tS hxb;have lm:=tS hxm
   go_wp2
   refine LR (up:=upT) (L:=14) (D:=[20,21,22,23,24,25,26,27,28,29,30,31,32,33,34]) (dep:=YS) (R:=fun w w'=>Below w.heap.size w w') (Inv:=fun wx=>Below (wr.alloc (.cells #[.int .i64 xa,.int .i64 xb,.int .i64 xm] 77)).heap.size (wr.alloc (.cells #[.int .i64 xa,.int .i64 xb,.int .i64 xm] 77)) wx) (Fs:=fsT wr.heap.size xa xb xm) mixed rfl rfl (by kernel_rfl) (by kernel_rfl) (fun j a w w' _ h=>WC _ _ _ _ j a w w' h) (Below.refl _ _).drew ?_ ?_
   ·refine ⟨?_,?_,?_,?_,?_,?_,?_,?_,?_,?_,?_,?_,?_,?_,trivial⟩<;>rintro a wx ⟨hs,hd,hB⟩ I hp
    ·have e1:a.tmps[5]?.getD undef= .pointer (some ⟨wr.heap.size,0,none⟩):=hB 5 rfl
     exact .inl ⟨rfl,_,wx,by simp [go_sem,e1],I,rfl,.inl rfl⟩
    ·have e1:a.tmps[20]?.getD undef=_:=hp 0 rfl
     have f:=(BL.after I).c3
     exact .inl ⟨rfl,_,wx,by simp [go_sem,e1,f],I,rfl,.inl rfl⟩
    ·have e1:a.tmps[21]?.getD undef=_:=hp 1 rfl
     refine .inr (.inr (.inl ⟨rfl,_,_,by simp [go_sem,e1];exact ⟨rfl,rfl⟩,?_⟩))
     refine (sq hbs hxa (bj I bL)).mono ?_
     rintro e w5 ⟨rfl,h5⟩
     exact ⟨_,rfl,bj h5 I,rfl,.inr ⟨h5,rfl⟩⟩
    ·have e1:a.eval (.const (.string {data:= #[32]}))= .string (aW [32]):=rfl
     have e2:a.tmps[22]?.getD undef=_:=hp 2 rfl
     exact .inl ⟨rfl,_,wx,SY rfl e1 (Dl e2) (by simp;omega),I,rfl,.inl rfl⟩
    ·have e1:a.tmps[23]?.getD undef=_:=hp 3 rfl
     have e2:a.eval (.const (.string {data:= #[45]}))= .string (aW [45]):=rfl
     exact .inl ⟨rfl,_,wx,SY rfl (Dl e1) e2 (by simp;omega),I,rfl,.inl rfl⟩
    ·have e1:a.tmps[5]?.getD undef= .pointer (some ⟨wr.heap.size,0,none⟩):=hB 5 rfl
     exact .inl ⟨rfl,_,wx,by simp [go_sem,e1],I,rfl,.inl rfl⟩
    ·have e1:a.tmps[25]?.getD undef=_:=hp 5 rfl
     have f:=(BL.after I).c3
     exact .inl ⟨rfl,_,wx,by simp [go_sem,e1,f],I,rfl,.inl rfl⟩
    ·have e1:a.tmps[26]?.getD undef=_:=hp 6 rfl
     refine .inr (.inr (.inl ⟨rfl,_,_,by simp [go_sem,e1];exact ⟨rfl,rfl⟩,?_⟩))
     refine (sq hbs hxb (bj I bL)).mono ?_
     rintro e w5 ⟨rfl,h5⟩
     exact ⟨_,rfl,bj h5 I,rfl,.inr ⟨h5,rfl⟩⟩
    ·have e1:a.tmps[24]?.getD undef=_:=hp 4 rfl
     have e2:a.tmps[27]?.getD undef=_:=hp 7 rfl
     exact .inl ⟨rfl,_,wx,SY rfl (Dl e1) (Dl e2) (by simp;omega),I,rfl,.inl rfl⟩
    ·have e1:a.tmps[28]?.getD undef=_:=hp 8 rfl
     have e2:a.eval (.const (.string {data:= #[58]}))= .string (aW [58]):=rfl
     exact .inl ⟨rfl,_,wx,SY rfl (Dl e1) e2 (by simp;omega),I,rfl,.inl rfl⟩
    ·have e1:a.tmps[5]?.getD undef= .pointer (some ⟨wr.heap.size,0,none⟩):=hB 5 rfl
     exact .inl ⟨rfl,_,wx,by simp [go_sem,e1],I,rfl,.inl rfl⟩
    ·have e1:a.tmps[30]?.getD undef=_:=hp 10 rfl
     have f:=(BL.after I).c3
     exact .inl ⟨rfl,_,wx,by simp [go_sem,e1,f],I,rfl,.inl rfl⟩
    ·have e1:a.tmps[31]?.getD undef=_:=hp 11 rfl
     refine .inr (.inr (.inl ⟨rfl,_,_,by simp [go_sem,e1];exact ⟨rfl,rfl⟩,?_⟩))
     refine (sq hbs hxm (bj I bL)).mono ?_
     rintro e w5 ⟨rfl,h5⟩
     exact ⟨_,rfl,bj h5 I,rfl,.inr ⟨h5,rfl⟩⟩
    ·have e1:a.tmps[29]?.getD undef=_:=hp 9 rfl
     have e2:a.tmps[32]?.getD undef=_:=hp 12 rfl
     exact .inl ⟨rfl,_,wx,SY rfl (Dl e1) (Dl e2) (by simp;omega),I,rfl,.inl rfl⟩
   ·intro a wx hB I hF
    have e13:a.tmps[33]?.getD undef= .string (aW (ZF (xa,xb,xm))):=by rw [←ZG];exact hF 13 (by decide)
    have e3:a.tmps[3]?.getD undef= .pointer (some ⟨w1.heap.size,0,none⟩):=hB.2.2 3 rfl
    refine ⟨rfl,_,_,by simp [go_sem,e13,e3];exact ⟨rfl,rfl⟩,?_⟩
    have hl3:=Uu (x:=(xa,xb,xm)) ⟨⟨hxa,hxb⟩,hxm⟩
    refine (Gn w1.heap.size w1.heap.size _ _ wx (JX FL I) (by rw [Lib.byteCells_length,eu];omega) (by have:=I.size;simp at this;omega)).mono ?_
    rintro e w6 ⟨rfl,F6,h6⟩
    refine ⟨_,rfl,?_⟩
    have b6:=(bj I HL (by omega)).trans h6
    rw [Lib.strCells_eq,kW,←Lib.byteCells_append,←HA.out] at F6
    have HF6:=Lib.hid F6
    have HB6:=Lib.hid b6
    rw [We hB]
    simp only [List.foldl]
    generalize sl a 20=v20
    generalize sl a 21=v21
    generalize sl a 22=v22
    generalize sl a 23=v23
    generalize sl a 24=v24
    generalize sl a 25=v25
    generalize sl a 26=v26
    generalize sl a 27=v27
    generalize sl a 28=v28
    generalize sl a 29=v29
    generalize sl a 30=v30
    generalize sl a 31=v31
    generalize sl a 32=v32
    generalize sl a 33=v33
    generalize sl a 34=v34
    clear hB hF e13 e3 F6 b6 h6 I BL FL bL HL g0 g1 g2 br HF HB
    go_simp
    go_wp2
    go_roundw
    case rel=>exact ⟨k+1,hlt,by go_num,HF6,HB6⟩
    case measure=>simp [intOf];omega
  ·obtain rfl:k=ls.length:=by omega
   have HF':=HF.out
   rw [VX] at HF'
   have b4:Below w.heap.size w wr:=b3.trans (HB.out.mono s1)
   have zw:w1.heap.size≤wr.heap.size:=by have:=HB.out.size;omega
   go_wp2_with fail
   refine (Tryz.Builder_String_any_k w1.heap.size w1.heap.size _ wr HF' zw).mono ?_
   rintro e w7 ⟨rfl,_,h7,_⟩
   have b7:=b4.trans (h7.mono s1)
   clear h7 HF' HF HB
   go_wp2
   exact bodyPost_ret (v:=.string (aW (RX b ls))) (by simp [results,Tryz.results42,go_sem, *];rfl) rfl ⟨rfl,b7⟩
theorem OY {own:Bool} (co:CallOk Tryz.prog 42) (hN:aN Tryz.prog ⟨100,[.g [.int .i64,.sl .ro 77 RD]],[.o .b],own,fun x=>aX x.1 x.2⟩):aN Tryz.prog ⟨42,[.g [.int .i64,.sl .ro 77 RD]],[.o .s],false,fun x=>cQ x.1 x.2⟩:=⟨co,fun x res hm e w0 w X hbs hp hS=>by
 obtain ⟨b,ls⟩:=x
 have hm:cQ b ls=some res:=hm
 obtain ⟨v0,r0,q0,l0,p1⟩:=hp
 obtain ⟨v1,r1,q1,l1,p2⟩:=p1
 replace q1:=(List.tail_eq_of_cons_eq q0).trans q1
 obtain ⟨z1,m1,hro1⟩:=l1
 replace m1:=(List.head_eq_of_cons_eq q1).trans m1
 injection m1 with _ m1
 subst m1
 have R:Rc w 3 (e.a 1) ls.length (e.c 1) (ls.flatMap RD.enc):=hro1 w _ hS (fun y hy=>List.mem_append_right _ hy)
 have hbs1:=DJ hbs hS.below
 have key:Calls Tryz.prog 42 #[.agg #[.int .i64 b,.slice (e.a 1) ls.length (e.c 1)]] w (OC w res):=by
  unfold cQ at hm
  obtain ⟨p,hp,hm⟩:=wd hm
  cases p with
  |false=>
   injection hm with hm
   subst hm
   exact VD hN hbs1 R hp
  |true=>
   obtain ⟨hb,hm⟩:=cD hm
   injection hm with hm
   subst hm
   exact XI hN hbs1 R hp hb
 refine Calls.mono key ?_
 rintro en w' ⟨rfl,hb⟩
 exact ⟨[_],[],rfl,⟨[_],[],[],[],[],[],rfl,rfl,⟨_,[],_,[],[],[],rfl,rfl,rfl,⟨_,rfl,rfl,rfl⟩,rfl,rfl,rfl⟩,⟨rfl,rfl⟩,⟨[],[],[],[],rfl,rfl,⟨rfl,rfl⟩,⟨rfl,rfl⟩⟩⟩,hS.quiet hb⟩⟩
theorem Qc {x0:Value} {w:World} (h0:x0.cells= #[x0]):(Instr.build 117 [(0,x0)].toArray).run Tryz.prog w= .ok (.agg #[x0,.int .i64 0]) w:=by unfold Value.cells at h0;simp [go_sem,h0]
theorem aaF:CallOk Tryz.prog 100:=⟨by kernel_rfl⟩
theorem aaG:CallOk Tryz.prog 101:=⟨by kernel_rfl⟩
theorem aaH:CallOk Tryz.prog 103:=⟨by kernel_rfl⟩
theorem aaI:CallOk Tryz.prog 105:=⟨by kernel_rfl⟩
theorem aaJ:CallOk Tryz.prog 106:=⟨by kernel_rfl⟩
theorem aaK:CallOk Tryz.prog 107:=⟨by kernel_rfl⟩
theorem aaL:CallOk Tryz.prog 108:=⟨by kernel_rfl⟩
theorem aaM:CallOk Tryz.prog 109:=⟨by kernel_rfl⟩
theorem aaN:CallOk Tryz.prog 110:=⟨by kernel_rfl⟩
theorem aaO:CallOk Tryz.prog 111:=⟨by kernel_rfl⟩
theorem aaP:CallOk Tryz.prog 112:=⟨by kernel_rfl⟩
theorem aaQ:CallOk Tryz.prog 113:=⟨by kernel_rfl⟩
theorem aaR:CallOk Tryz.prog 114:=⟨by kernel_rfl⟩
theorem aaS:CallOk Tryz.prog 115:=⟨by kernel_rfl⟩
theorem aaT:CallOk Tryz.prog 116:=⟨by kernel_rfl⟩
theorem aaU:CallOk Tryz.prog 118:=⟨by kernel_rfl⟩
theorem aaV:CallOk Tryz.prog 119:=⟨by kernel_rfl⟩
theorem adM:CallOk Tryz.prog 12:=⟨by kernel_rfl⟩
theorem aaW:CallOk Tryz.prog 120:=⟨by kernel_rfl⟩
theorem aaX:CallOk Tryz.prog 121:=⟨by kernel_rfl⟩
theorem aaY:CallOk Tryz.prog 122:=⟨by kernel_rfl⟩
theorem aaZ:CallOk Tryz.prog 123:=⟨by kernel_rfl⟩
theorem aa0:CallOk Tryz.prog 124:=⟨by kernel_rfl⟩
theorem aa1:CallOk Tryz.prog 125:=⟨by kernel_rfl⟩
theorem aa2:CallOk Tryz.prog 126:=⟨by kernel_rfl⟩
theorem aa3:CallOk Tryz.prog 127:=⟨by kernel_rfl⟩
theorem aa4:CallOk Tryz.prog 128:=⟨by kernel_rfl⟩
theorem aa5:CallOk Tryz.prog 129:=⟨by kernel_rfl⟩
theorem aa6:CallOk Tryz.prog 130:=⟨by kernel_rfl⟩
theorem aa7:CallOk Tryz.prog 131:=⟨by kernel_rfl⟩
theorem aa8:CallOk Tryz.prog 132:=⟨by kernel_rfl⟩
theorem aa9:CallOk Tryz.prog 133:=⟨by kernel_rfl⟩
theorem aba:CallOk Tryz.prog 134:=⟨by kernel_rfl⟩
theorem abb:CallOk Tryz.prog 135:=⟨by kernel_rfl⟩
theorem abc:CallOk Tryz.prog 136:=⟨by kernel_rfl⟩
theorem abd:CallOk Tryz.prog 137:=⟨by kernel_rfl⟩
theorem abe:CallOk Tryz.prog 138:=⟨by kernel_rfl⟩
theorem abf:CallOk Tryz.prog 139:=⟨by kernel_rfl⟩
theorem adN:CallOk Tryz.prog 14:=⟨by kernel_rfl⟩
theorem abg:CallOk Tryz.prog 140:=⟨by kernel_rfl⟩
theorem abh:CallOk Tryz.prog 143:=⟨by kernel_rfl⟩
theorem abi:CallOk Tryz.prog 144:=⟨by kernel_rfl⟩
theorem abj:CallOk Tryz.prog 145:=⟨by kernel_rfl⟩
theorem abk:CallOk Tryz.prog 146:=⟨by kernel_rfl⟩
theorem abl:CallOk Tryz.prog 147:=⟨by kernel_rfl⟩
theorem abm:CallOk Tryz.prog 148:=⟨by kernel_rfl⟩
theorem abn:CallOk Tryz.prog 149:=⟨by kernel_rfl⟩
theorem abo:CallOk Tryz.prog 150:=⟨by kernel_rfl⟩
theorem abp:CallOk Tryz.prog 151:=⟨by kernel_rfl⟩
theorem abq:CallOk Tryz.prog 152:=⟨by kernel_rfl⟩
theorem abr:CallOk Tryz.prog 153:=⟨by kernel_rfl⟩
theorem abs:CallOk Tryz.prog 154:=⟨by kernel_rfl⟩
theorem abt:CallOk Tryz.prog 155:=⟨by kernel_rfl⟩
theorem abu:CallOk Tryz.prog 156:=⟨by kernel_rfl⟩
theorem abv:CallOk Tryz.prog 157:=⟨by kernel_rfl⟩
theorem abw:CallOk Tryz.prog 158:=⟨by kernel_rfl⟩
theorem abx:CallOk Tryz.prog 159:=⟨by kernel_rfl⟩
theorem adP:CallOk Tryz.prog 16:=⟨by kernel_rfl⟩
theorem aby:CallOk Tryz.prog 160:=⟨by kernel_rfl⟩
theorem abz:CallOk Tryz.prog 161:=⟨by kernel_rfl⟩
theorem abA:CallOk Tryz.prog 162:=⟨by kernel_rfl⟩
theorem abB:CallOk Tryz.prog 163:=⟨by kernel_rfl⟩
theorem abC:CallOk Tryz.prog 164:=⟨by kernel_rfl⟩
theorem abD:CallOk Tryz.prog 165:=⟨by kernel_rfl⟩
theorem abE:CallOk Tryz.prog 168:=⟨by kernel_rfl⟩
theorem abF:CallOk Tryz.prog 169:=⟨by kernel_rfl⟩
theorem adQ:CallOk Tryz.prog 17:=⟨by kernel_rfl⟩
theorem abG:CallOk Tryz.prog 170:=⟨by kernel_rfl⟩
theorem abH:CallOk Tryz.prog 171:=⟨by kernel_rfl⟩
theorem abI:CallOk Tryz.prog 172:=⟨by kernel_rfl⟩
theorem abJ:CallOk Tryz.prog 173:=⟨by kernel_rfl⟩
theorem abK:CallOk Tryz.prog 174:=⟨by kernel_rfl⟩
theorem abL:CallOk Tryz.prog 175:=⟨by kernel_rfl⟩
theorem abM:CallOk Tryz.prog 179:=⟨by kernel_rfl⟩
theorem abN:CallOk Tryz.prog 180:=⟨by kernel_rfl⟩
theorem abO:CallOk Tryz.prog 181:=⟨by kernel_rfl⟩
theorem abP:CallOk Tryz.prog 182:=⟨by kernel_rfl⟩
theorem abQ:CallOk Tryz.prog 183:=⟨by kernel_rfl⟩
theorem abR:CallOk Tryz.prog 185:=⟨by kernel_rfl⟩
theorem abS:CallOk Tryz.prog 186:=⟨by kernel_rfl⟩
theorem abT:CallOk Tryz.prog 187:=⟨by kernel_rfl⟩
theorem abU:CallOk Tryz.prog 188:=⟨by kernel_rfl⟩
theorem abV:CallOk Tryz.prog 189:=⟨by kernel_rfl⟩
theorem adR:CallOk Tryz.prog 19:=⟨by kernel_rfl⟩
theorem abW:CallOk Tryz.prog 190:=⟨by kernel_rfl⟩
theorem abX:CallOk Tryz.prog 191:=⟨by kernel_rfl⟩
theorem abY:CallOk Tryz.prog 192:=⟨by kernel_rfl⟩
theorem abZ:CallOk Tryz.prog 193:=⟨by kernel_rfl⟩
theorem ab0:CallOk Tryz.prog 194:=⟨by kernel_rfl⟩
theorem ab1:CallOk Tryz.prog 195:=⟨by kernel_rfl⟩
theorem ab2:CallOk Tryz.prog 196:=⟨by kernel_rfl⟩
theorem ab3:CallOk Tryz.prog 197:=⟨by kernel_rfl⟩
theorem ab4:CallOk Tryz.prog 198:=⟨by kernel_rfl⟩
theorem ab5:CallOk Tryz.prog 199:=⟨by kernel_rfl⟩
theorem ab6:CallOk Tryz.prog 200:=⟨by kernel_rfl⟩
theorem ab7:CallOk Tryz.prog 201:=⟨by kernel_rfl⟩
theorem ab8:CallOk Tryz.prog 204:=⟨by kernel_rfl⟩
theorem ab9:CallOk Tryz.prog 205:=⟨by kernel_rfl⟩
theorem aca:CallOk Tryz.prog 206:=⟨by kernel_rfl⟩
theorem acb:CallOk Tryz.prog 207:=⟨by kernel_rfl⟩
theorem acd:CallOk Tryz.prog 212:=⟨by kernel_rfl⟩
theorem ace:CallOk Tryz.prog 213:=⟨by kernel_rfl⟩
theorem acf:CallOk Tryz.prog 216:=⟨by kernel_rfl⟩
theorem acg:CallOk Tryz.prog 217:=⟨by kernel_rfl⟩
theorem ach:CallOk Tryz.prog 219:=⟨by kernel_rfl⟩
theorem adS:CallOk Tryz.prog 22:=⟨by kernel_rfl⟩
theorem aci:CallOk Tryz.prog 220:=⟨by kernel_rfl⟩
theorem acj:CallOk Tryz.prog 221:=⟨by kernel_rfl⟩
theorem ack:CallOk Tryz.prog 222:=⟨by kernel_rfl⟩
theorem adT:CallOk Tryz.prog 23:=⟨by kernel_rfl⟩
theorem acl:CallOk Tryz.prog 232:=⟨by kernel_rfl⟩
theorem acm:CallOk Tryz.prog 234:=⟨by kernel_rfl⟩
theorem acn:CallOk Tryz.prog 236:=⟨by kernel_rfl⟩
theorem aco:CallOk Tryz.prog 237:=⟨by kernel_rfl⟩
theorem acp:CallOk Tryz.prog 238:=⟨by kernel_rfl⟩
theorem acq:CallOk Tryz.prog 239:=⟨by kernel_rfl⟩
theorem adU:CallOk Tryz.prog 24:=⟨by kernel_rfl⟩
theorem acr:CallOk Tryz.prog 248:=⟨by kernel_rfl⟩
theorem adV:CallOk Tryz.prog 25:=⟨by kernel_rfl⟩
theorem acs:CallOk Tryz.prog 251:=⟨by kernel_rfl⟩
theorem adW:CallOk Tryz.prog 26:=⟨by kernel_rfl⟩
theorem adX:CallOk Tryz.prog 37:=⟨by kernel_rfl⟩
theorem adY:CallOk Tryz.prog 38:=⟨by kernel_rfl⟩
theorem adZ:CallOk Tryz.prog 39:=⟨by kernel_rfl⟩
theorem ad0:CallOk Tryz.prog 40:=⟨by kernel_rfl⟩
theorem ad1:CallOk Tryz.prog 42:=⟨by kernel_rfl⟩
theorem ad2:CallOk Tryz.prog 43:=⟨by kernel_rfl⟩
theorem ad3:CallOk Tryz.prog 44:=⟨by kernel_rfl⟩
theorem ad4:CallOk Tryz.prog 45:=⟨by kernel_rfl⟩
theorem ad5:CallOk Tryz.prog 46:=⟨by kernel_rfl⟩
theorem ad6:CallOk Tryz.prog 47:=⟨by kernel_rfl⟩
theorem ad7:CallOk Tryz.prog 48:=⟨by kernel_rfl⟩
theorem ad8:CallOk Tryz.prog 49:=⟨by kernel_rfl⟩
theorem ad9:CallOk Tryz.prog 50:=⟨by kernel_rfl⟩
theorem aea:CallOk Tryz.prog 51:=⟨by kernel_rfl⟩
theorem aeb:CallOk Tryz.prog 52:=⟨by kernel_rfl⟩
theorem aec:CallOk Tryz.prog 53:=⟨by kernel_rfl⟩
theorem aed:CallOk Tryz.prog 54:=⟨by kernel_rfl⟩
theorem aee:CallOk Tryz.prog 55:=⟨by kernel_rfl⟩
theorem aef:CallOk Tryz.prog 56:=⟨by kernel_rfl⟩
theorem aeg:CallOk Tryz.prog 57:=⟨by kernel_rfl⟩
theorem aeh:CallOk Tryz.prog 58:=⟨by kernel_rfl⟩
theorem aei:CallOk Tryz.prog 59:=⟨by kernel_rfl⟩
theorem aej:CallOk Tryz.prog 60:=⟨by kernel_rfl⟩
theorem aek:CallOk Tryz.prog 61:=⟨by kernel_rfl⟩
theorem act:CallOk Tryz.prog 62:=⟨by kernel_rfl⟩
theorem ael:CallOk Tryz.prog 63:=⟨by kernel_rfl⟩
theorem aem:CallOk Tryz.prog 64:=⟨by kernel_rfl⟩
theorem aen:CallOk Tryz.prog 69:=⟨by kernel_rfl⟩
theorem aeo:CallOk Tryz.prog 70:=⟨by kernel_rfl⟩
theorem aep:CallOk Tryz.prog 71:=⟨by kernel_rfl⟩
theorem aeq:CallOk Tryz.prog 72:=⟨by kernel_rfl⟩
theorem aer:CallOk Tryz.prog 73:=⟨by kernel_rfl⟩
theorem aes:CallOk Tryz.prog 74:=⟨by kernel_rfl⟩
theorem aet:CallOk Tryz.prog 75:=⟨by kernel_rfl⟩
theorem aeu:CallOk Tryz.prog 76:=⟨by kernel_rfl⟩
theorem aev:CallOk Tryz.prog 77:=⟨by kernel_rfl⟩
theorem aew:CallOk Tryz.prog 78:=⟨by kernel_rfl⟩
theorem aex:CallOk Tryz.prog 79:=⟨by kernel_rfl⟩
theorem aey:CallOk Tryz.prog 80:=⟨by kernel_rfl⟩
theorem aez:CallOk Tryz.prog 81:=⟨by kernel_rfl⟩
theorem aeA:CallOk Tryz.prog 82:=⟨by kernel_rfl⟩
theorem aeB:CallOk Tryz.prog 83:=⟨by kernel_rfl⟩
theorem aeC:CallOk Tryz.prog 84:=⟨by kernel_rfl⟩
theorem aeD:CallOk Tryz.prog 85:=⟨by kernel_rfl⟩
theorem aeE:CallOk Tryz.prog 86:=⟨by kernel_rfl⟩
theorem aeF:CallOk Tryz.prog 87:=⟨by kernel_rfl⟩
theorem aeG:CallOk Tryz.prog 88:=⟨by kernel_rfl⟩
theorem aeH:CallOk Tryz.prog 89:=⟨by kernel_rfl⟩
theorem co9:CallOk Tryz.prog 9:=⟨by kernel_rfl⟩
theorem aeI:CallOk Tryz.prog 90:=⟨by kernel_rfl⟩
theorem aeJ:CallOk Tryz.prog 91:=⟨by kernel_rfl⟩
theorem aeK:CallOk Tryz.prog 95:=⟨by kernel_rfl⟩
theorem aeL:CallOk Tryz.prog 96:=⟨by kernel_rfl⟩
theorem aeM:CallOk Tryz.prog 97:=⟨by kernel_rfl⟩
theorem aeN:CallOk Tryz.prog 98:=⟨by kernel_rfl⟩
theorem aeO:CallOk Tryz.prog 99:=⟨by kernel_rfl⟩
theorem Zw:(Tryz.prog.info? 122).map (fun i=>(i.zero,i.size,i.bytes))=some (some (.agg #[.int .i64 0,.int .i64 0]),2,16):=by kernel_rfl
theorem Uh:(Tryz.prog.info? 125).map (fun i=>(i.zero,i.size,i.bytes))=some (some (.agg #[.int .i64 0,.int .i64 0]),2,16):=by kernel_rfl
theorem acZ:(Tryz.prog.info? 3).map (fun i=>(i.zero,i.size,i.bytes))=some (some (.int .i64 0),1,8):=by kernel_rfl
theorem aeX:(Tryz.prog.info? 4).map (fun i=>(i.zero,i.size,i.bytes))=some (some (.bool false),1,1):=by kernel_rfl
theorem ac0:(Tryz.prog.info? 77).map (fun i=>(i.zero,i.size,i.bytes))=some (some (.agg #[.int .i64 0,.int .i64 0,.int .i64 0]),3,24):=by kernel_rfl
theorem adE:(Tryz.prog.info? 122).map (·.size)=some 2:=by kernel_rfl
theorem KL:(Tryz.prog.info? 125).map (·.size)=some 2:=by kernel_rfl
theorem sz3:(Tryz.prog.info? 3).map (·.size)=some 1:=by kernel_rfl
theorem sz4:(Tryz.prog.info? 4).map (·.size)=some 1:=by kernel_rfl
theorem sz5:(Tryz.prog.info? 5).map (·.size)=some 1:=by kernel_rfl
theorem ae5:(Tryz.prog.info? 77).map (·.size)=some 3:=by kernel_rfl
theorem acw:Tryz.prog.eqGuardType Tryz.prog.depth 122=false:=by kernel_rfl
theorem acy {a0 b0:Int} {a1 b1:Int} {w:World}:(Op.equalIn 10000 122 (.agg #[.int .i64 a0,.int .i64 a1]) (.agg #[.int .i64 b0,.int .i64 b1])).run Tryz.prog w= .ok ((a0==b0)&&(a1==b1)) w:=by
 simp [go_sem]
 (repeat' split)<;>simp_all
theorem acx:Tryz.prog.eqGuardType Tryz.prog.depth 125=false:=by kernel_rfl
theorem acz {a0 b0:Int} {a1 b1:Int} {w:World}:(Op.equalIn 10000 125 (.agg #[.int .i64 a0,.int .i64 a1]) (.agg #[.int .i64 b0,.int .i64 b1])).run Tryz.prog w= .ok ((a0==b0)&&(a1==b1)) w:=by
 simp [go_sem]
 (repeat' split)<;>simp_all
theorem aeP:Tryz.prog.eqGuardType Tryz.prog.depth 77=false:=by kernel_rfl
theorem aeQ {a0 b0:Int} {a1 b1:Int} {a2 b2:Int} {w:World}:(Op.equalIn 10000 77 (.agg #[.int .i64 a0,.int .i64 a1,.int .i64 a2]) (.agg #[.int .i64 b0,.int .i64 b1,.int .i64 b2])).run Tryz.prog w= .ok ((a0==b0)&&(a1==b1)&&(a2==b2)) w:=by
 simp [go_sem]
 (repeat' split)<;>simp_all
noncomputable section
def tys:List (Nat×TyI):=[(3,⟨.int .i64,1,8,[.int .i64 0],(.int .i64)⟩),(4,⟨.bo,1,1,[.bool false],.b⟩),(5,⟨.int .u8,1,1,[.int .u8 0],(.int .u8)⟩),(9,⟨.st,1,16,[.str ByteArray.empty],.s⟩),(22,⟨.sl 5,1,24,[.ns],.b⟩),(23,⟨.sl 77,1,24,[.ns],.b⟩),(25,⟨.ag [(0,1),(1,1)],2,32,[.int .i64 0,.ns],.b⟩),(26,⟨.sl 122,1,24,[.ns],.b⟩),(27,⟨.sl 4,1,24,[.ns],.b⟩),(28,⟨.sl 125,1,24,[.ns],.b⟩),(30,⟨.ag [(0,1),(1,1),(2,1)],3,72,[.ns,.ns,.ns],.b⟩),(31,⟨.sl 3,1,24,[.ns],.b⟩),(33,⟨.ag [(0,2),(2,1),(3,3),(6,1)],7,152,[.int .i64 0,.ns,.ns,.ns,.ns,.ns,.ns],.b⟩),(34,⟨.sl 9,1,24,[.ns],.b⟩),(49,⟨.sl 210,1,24,[.ns],.b⟩),(51,⟨.ag [(0,1),(1,1)],2,32,[.int .i64 0,.ns],.b⟩),(52,⟨.sl 185,1,24,[.ns],.b⟩),(53,⟨.sl 212,1,24,[.ns],.b⟩),(55,⟨.ag [(0,1),(1,1),(2,1)],3,72,[.ns,.ns,.ns],.b⟩),(57,⟨.ag [(0,2),(2,1),(3,3),(6,1)],7,152,[.int .i64 0,.ns,.ns,.ns,.ns,.ns,.ns],.b⟩),(65,⟨.ot,1,8,[.np],.b⟩),(77,⟨.ag [(0,1),(1,1),(2,1)],3,24,[.int .i64 0,.int .i64 0,.int .i64 0],(.p (.int .i64) (.p (.int .i64) (.int .i64)))⟩),(82,⟨.sl 86,1,24,[.ns],.b⟩),(86,⟨.ag [(0,1),(1,1),(2,1)],3,24,[.int .i64 0,.int .i64 0,.int .i64 0],(.p (.int .i64) (.p (.int .i64) (.int .i64)))⟩),(117,⟨.ag [(0,1),(1,1)],2,32,[.ns,.int .i64 0],.b⟩),(122,⟨.ag [(0,1),(1,1)],2,16,[.int .i64 0,.int .i64 0],(.p (.int .i64) (.int .i64))⟩),(125,⟨.ag [(0,1),(1,1)],2,16,[.int .i64 0,.int .i64 0],(.p (.int .i64) (.int .i64))⟩),(140,⟨.ar 8 3,8,64,[.int .i64 0,.int .i64 0,.int .i64 0,.int .i64 0,.int .i64 0,.int .i64 0,.int .i64 0,.int .i64 0],.b⟩),(142,⟨.ag [(0,8),(8,8)],16,128,[.int .i64 0,.int .i64 0,.int .i64 0,.int .i64 0,.int .i64 0,.int .i64 0,.int .i64 0,.int .i64 0,.int .i64 0,.int .i64 0,.int .i64 0,.int .i64 0,.int .i64 0,.int .i64 0,.int .i64 0,.int .i64 0],(.p (.int .i64) (.p (.int .i64) (.p (.int .i64) (.p (.int .i64) (.p (.int .i64) (.p (.int .i64) (.p (.int .i64) (.p (.int .i64) (.p (.int .i64) (.p (.int .i64) (.p (.int .i64) (.p (.int .i64) (.p (.int .i64) (.p (.int .i64) (.p (.int .i64) (.int .i64))))))))))))))))⟩),(145,⟨.ag [(0,2),(2,1),(3,1),(4,1)],5,104,[.int .i64 0,.ns,.ns,.ns,.ns],.b⟩),(151,⟨.ar 3 3,3,24,[.int .i64 0,.int .i64 0,.int .i64 0],.b⟩),(153,⟨.sl 157,1,24,[.ns],.b⟩),(157,⟨.ag [(0,1),(1,1)],2,16,[.int .i64 0,.bool false],(.p (.int .i64) .b)⟩),(185,⟨.ag [(0,1),(1,1)],2,16,[.int .i64 0,.int .i64 0],(.p (.int .i64) (.int .i64))⟩),(195,⟨.sl 3,1,24,[.ns],.b⟩),(210,⟨.ag [(0,1),(1,1),(2,1)],3,24,[.int .i64 0,.int .i64 0,.int .i64 0],(.p (.int .i64) (.p (.int .i64) (.int .i64)))⟩),(212,⟨.ag [(0,1),(1,1)],2,16,[.int .i64 0,.int .i64 0],(.p (.int .i64) (.int .i64))⟩),(227,⟨.int .u64,1,8,[.int .u64 0],.b⟩)]
theorem aay:Om Tryz.prog tys=true:=by kernel_rfl
def eqt:List (Nat×EK):=[(77,(.p (.int .i64) (.p (.int .i64) (.int .i64)))),(122,(.p (.int .i64) (.int .i64))),(125,(.p (.int .i64) (.int .i64)))]
theorem Hu {x0:List Int} {A0:Option Addr} {n0 c0:Nat} {w:World} (h0:Rt w 1 eU A0 n0 c0 x0):
 Calls Tryz.prog 32 #[.slice A0 n0 c0] w (fun e w'=> ∃G0,e= .returned (.pointer (some ⟨G0,0,none⟩))∧St w w' [.box G0 117 #[.slice (opA c0 n0 A0) (x0.take 2000).length c0,.int .i64 0]]):=by
 obtain rfl:=h0.len
 refine pY Tryz.func32 Tryz.ntmps32 rfl [(0,.slice A0 x0.length c0)] ⟨rfl,trivial⟩ rfl ?_
 intro a hF
 have S:=St.nil w
 refine wp_seq ?_
 refine wp_region_lit ?_
 refine ao (v:=.pointer none) rfl rfl hF rfl (aA rfl rfl) ?_;clear hF;intro a hF
 refine wpList_nil ?_
 refine wp_seq ?_
 refine wp_seq ?_
 refine wp_region_lit ?_
 refine ao (v:=.slice A0 x0.length c0) rfl rfl hF rfl (aw rfl (hF.ev rfl)) ?_;clear hF;intro a hF
 refine ao (v:=.int .i64 (x0.length:Int)) rfl rfl hF rfl (lE rfl rfl Tryz.underlying22 (hF.ev rfl)) ?_;clear hF;intro a hF
 refine ao (v:=.bool (af 2000 (x0.length:Int))) rfl rfl hF rfl (Rj (hF.ev rfl) rfl rfl) ?_;clear hF;intro a hF
 refine wpList_nil ?_
 cases hc101:(af 2000 (x0.length:Int))
 ·have hc101_:=hc101
  refine xF hF rfl hc101 ?_
  refine wp_skip ?_
  refine wp_seq ?_
  refine wp_region_lit ?_
  refine ao (v:=.slice A0 x0.length c0) rfl rfl hF rfl (aw rfl (hF.ev rfl)) ?_;clear hF;intro a hF
  refine ao (v:=.agg #[.slice A0 x0.length c0,.int .i64 0]) rfl rfl hF rfl (KH (vs:=[(0,.slice A0 x0.length c0)]) rfl ⟨⟨rfl,(hF.ev rfl)⟩,trivial⟩ (Qc rfl)) ?_;clear hF;intro a hF
  refine UG (cs:= #[.slice A0 x0.length c0,.int .i64 0]) rfl rfl hF rfl S (LZ rfl (hF.ev rfl) rfl) ?_;clear hF S;intro a g102 u hF S
  refine ao (v:=.pointer (some ⟨g102,0,none⟩)) rfl rfl hF rfl (aA rfl (hF.ev rfl)) ?_;clear hF;intro a hF
  refine wpList_nil ?_
  refine wp_ret ?_
  repeat with_reducible (first |refine dV ?_ |refine mt ?_ |refine mr ?_)
  refine iA (.inl rfl) hF rfl (gI (hF.ev rfl)) ?_
  have q1:=Yl hc101
  rw [opA,if_neg (by omega),List.take_of_length_le (by omega)]
  exact ⟨g102,rfl,S.sel [0] rfl rfl⟩
 ·have hc101_:=hc101
  refine xG hF rfl hc101 ?_
  refine wp_region_lit ?_
  refine ao (v:=.slice A0 x0.length c0) rfl rfl hF rfl (aw rfl (hF.ev rfl)) ?_;clear hF;intro a hF
  have hk103:=qv (show zt 0 2000 x0.length=true by have:=Ym hc101;simp [zt];omega)
  refine ao (v:=.slice (bG c0 ((0:Int).toNat) 1 A0) ((ah x0 0 2000).length) (c0-(0:Int).toNat)) rfl rfl hF rfl (wE (l:=x0) rfl Tryz.underlying22 sz5 (hF.ev rfl) rfl hk103 rfl (S.rc0 h0.rc).cap) ?_;clear hF;intro a hF
  refine ao (v:=.slice (bG c0 ((0:Int).toNat) 1 A0) ((ah x0 0 2000).length) (c0-(0:Int).toNat)) rfl rfl hF rfl (aA rfl (hF.ev rfl)) ?_;clear hF;intro a hF
  refine wpList_nil ?_
  refine wp_seq ?_
  refine wp_region_lit ?_
  refine ao (v:=.slice (bG c0 ((0:Int).toNat) 1 A0) ((ah x0 0 2000).length) (c0-(0:Int).toNat)) rfl rfl hF rfl (aw rfl (hF.ev rfl)) ?_;clear hF;intro a hF
  refine ao (v:=.agg #[.slice (bG c0 ((0:Int).toNat) 1 A0) ((ah x0 0 2000).length) (c0-(0:Int).toNat),.int .i64 0]) rfl rfl hF rfl (KH (vs:=[(0,.slice (bG c0 ((0:Int).toNat) 1 A0) ((ah x0 0 2000).length) (c0-(0:Int).toNat))]) rfl ⟨⟨rfl,(hF.ev rfl)⟩,trivial⟩ (Qc rfl)) ?_;clear hF;intro a hF
  refine UG (cs:= #[.slice (bG c0 ((0:Int).toNat) 1 A0) ((ah x0 0 2000).length) (c0-(0:Int).toNat),.int .i64 0]) rfl rfl hF rfl S (LZ rfl (hF.ev rfl) rfl) ?_;clear hF S;intro a g104 u hF S
  refine ao (v:=.pointer (some ⟨g104,0,none⟩)) rfl rfl hF rfl (aA rfl (hF.ev rfl)) ?_;clear hF;intro a hF
  refine wpList_nil ?_
  refine wp_ret ?_
  repeat with_reducible (first |refine dV ?_ |refine mt ?_ |refine mr ?_)
  refine iA (.inl rfl) hF rfl (gI (hF.ev rfl)) ?_
  have q1:=Ym hc101
  rw [opA,if_pos (by omega),VB]
  exact ⟨g104,rfl,S.sel [0] rfl rfl⟩
def opn:List (Nat×Nat):=[(32,117)]
theorem ZQ:MA Tryz.prog opn:=⟨Xh ⟨by kernel_rfl⟩ Hu,trivial⟩
theorem Za:VV Tryz.prog eqt:=⟨⟨aeP,fun w x y=>aeQ⟩,⟨acw,fun w x y=>acy⟩,⟨acx,fun w x y=>acz⟩,trivial⟩
theorem ck {c:Ctr} {fn:Func} {body:Code} {n:Nat} (cs:List Ctr) (rv:List ResultVar) (crt:Crt) (hcs:VU Tryz.prog cs) (hco:CallOk Tryz.prog c.f) (hf:Tryz.prog.funcs[c.f]?=some fn) (hn:fn.ntmps=n) (hb:fn.body=some body) (hr:fn.results=rv.toArray) (hal:(c.rs.flatMap RSh.ks).all (alK (nv c.ps))=true) (he: ∀x,c.m x=exF ⟨tys,eqt,cs,opn⟩ ⟨c.ps,c.rs,rv,n⟩ crt body x):aN Tryz.prog c:=cok (op:=opn) aay Za rfl hcs ZQ hco hf hb hn hr hal he
abbrev Aa:EK:=.int .i64
abbrev Ab:Crt:=.q .z .z
abbrev Ac:P1:=.o .k
abbrev Ah:PK:=.int .i64
abbrev Af:EK:=.p Aa Aa
abbrev As:EK:=.p Aa Af
abbrev Bf:PK:=.sl .ro 77 As
abbrev Aj:PK:=.sl .ro 4 .b
abbrev Dg:PK:=.sl .ro 125 Af
abbrev AB:PK:=.sl .ro 3 Aa
abbrev Ad:Prm:=.g [Ah,Bf,.sl .ro 122 Af,Aj,Aj,Dg,AB]
abbrev BT:Crt:=.q Ab .z
abbrev Ae:Crt:=.q .z BT
abbrev AP:P0:=.i .i64
abbrev Ag:P1:=.o AP
abbrev Ai:Prm:=.g [Ah,Bf]
abbrev Ao:RK:=.int .i64
abbrev CU:RK:=.row 77 As
abbrev AW:RK:=.row 4 .b
abbrev BC:RK:=.row 125 Af
abbrev CG:RK:=.row 3 Aa
abbrev Ak:RSh:=.g [Ao,CU,.row 122 Af,AW,AW,BC,CG]
abbrev Al:Crt:=.q .z Ab
abbrev Am:List P0:=[.k,.k,.k,.k,.k,.k,.k]
abbrev Ap:Prm:=.o (.sl .ro 122 Af)
abbrev Av:Nat×P1:=(4,Ac)
abbrev BJ:Shp:=⟨[Av],[],[]⟩
abbrev BO:List Alt:=[.rt]
abbrev AY:Nat×P1:=(0,Ac)
abbrev Az:Nat×P1:=(1,Ac)
abbrev CV:Nat×P1:=(5,Ag)
abbrev Bj:Crt:=.q Al (.q (.b Ae) .z)
abbrev Aq:Crt:=.q (.q .z (.cut BJ BO (.b (.lp ⟨[AY,Az,Av,CV],[],[]⟩ Bj)))) Ab
abbrev Au:Nat×P1:=(2,Ac)
abbrev Aw:P0:=.r 3 Aa
abbrev AA:Prm:=.o Ah
abbrev AC:Nat×P1:=(6,Ac)
abbrev Cq:P0:=.r 4 .b
abbrev CH:P0:=.r 125 Af
abbrev AD:Nat×List P0:=(6,[AP,.r 77 As,.r 122 Af,Cq,Cq,CH,Aw])
abbrev AE:Prm:=.g [Aj,Aj,Dg]
abbrev Cy:P0:=.w 3 Aa
abbrev AF:P1:=.o Cy
abbrev AG:RSh:=.o .b
abbrev Bq:Nat×P1:=(5,Ac)
abbrev CN:List P0:=[.k,.k,.k,.k,.k,.k,Aw]
abbrev AH:Crt:=.q .z (.q .z (.q .z (.q (.q .z (.cut ⟨[Av,Bq],[(5,CN),(4,Am)],[]⟩ [] (.b (.lp ⟨[Az,Au,Av,Bq,(6,Ag)],[(5,CN),(4,Am),(2,Am)],[]⟩ (.q Al (.q (.b (.q .z (.cut ⟨[Az,Au,Av,Bq,AC],[(5,CN),(4,Am),(2,Am)],[]⟩ [] Ab))) .z)))))) Ab)))
abbrev Bu:List P0:=[.k,.k]
abbrev AI:List (Nat×List P0):=[(3,Bu)]
abbrev Cz:Crt:=.q (.b (.q .z Ae)) .z
abbrev AJ:Crt:=.q .z (.q Ab Cz)
abbrev AK:RSh:=.o CG
abbrev CQ:Crt:=.q Ae Ab
abbrev AL:Crt:=.q .z CQ
abbrev AM:P1:=.o (.r 86 As)
abbrev AN:Prm:=.o Aj
abbrev AO:P1:=.o (.r 157 (.p Aa .b))
abbrev AQ:RSh:=.o Ao
abbrev AR:List P0:=[.k,.k,.k,.k,.k,.k,.k,.k,.k,.k,.k,.k,.k,.k,.k,.k]
abbrev AS:List P0:=[.k,.k,.k]
abbrev AT:P1:=.o Aw
abbrev Bx:Crt:=.q .z Al
abbrev AU:Crt:=.q .z (.q .z Bx)
abbrev AV:Crt:=.q Al (.q (.b .z) .z)
abbrev AX:Nat×P1:=(3,Ac)
abbrev Cf:List (Nat×P1):=[(1,Ag),Av]
abbrev Ce:Shp:=⟨[AY,(1,Ag),Av,CV],[],[]⟩
abbrev Cs:Crt:=.q Ae .z
abbrev AZ:Crt:=.q .z (.q (.q .z (.cut ⟨Cf,[],[]⟩ BO (.b (.lp Ce (.q Al (.q (.b (.q Ae (.q .z Cs))) .z)))))) Ab)
abbrev Ba:Nat×P1:=(8,Ac)
abbrev Bb:P0:=.w 4 .b
abbrev Bc:Crt:=.q .z (.q Ab (.q (.b Ab) .z))
abbrev Cw:Nat×P1:=(10,Ac)
abbrev Bd:Crt:=.q .z (.q Ae (.q .z (.q .z (.q (.q .z (.cut ⟨[Ba,(9,Ag)],[],[]⟩ [] (.b (.lp ⟨[Au,Ba,(9,Ag),Cw,(11,Ag)],[],[]⟩ AV)))) Ab))))
abbrev Be:Crt:=.q .z (.q (.q .z (.cut ⟨Cf,[],[]⟩ BO (.b (.lp Ce (.q Al (.q (.b Cs) .z)))))) Ab)
abbrev Bg:Prm:=.g [Ah,Ah,Ah]
abbrev Bh:Crt:=.q Ae CQ
abbrev Ca:Crt:=.q .z (.q Ab Ae)
abbrev Bi:Crt:=.q .z (.q Ab (.q .z (.q Ab (.q .z (.q Ab Ca)))))
abbrev CE:Nat×P1:=(8,Ag)
abbrev Bl:Crt:=.b (.lp ⟨[Az,Au,AX,AC,(7,AT),CE],AI,[]⟩ (.q Al (.q (.b (.q .z (.cut ⟨[Az,Au,AX,AC,(7,AT),Ba],AI,[]⟩ [] Ab))) .z)))
abbrev Ch:PK:=.sl .ro 210 As
abbrev Db:PK:=.sl .ro 185 Af
abbrev Ci:PK:=.sl .ro 212 Af
abbrev Bm:Prm:=.g [Ah,Ch,Db,Aj,Aj,Ci,AB]
abbrev Bn:List Prm:=[Ai,AN,Ap]
abbrev Bo:List P0:=[.k,.k,.k,.k,.k]
abbrev Bp:Prm:=.o Dg
abbrev Bt:List (Nat×List P0):=[(4096,[.k,.k,Cy,Cy,Aw])]
abbrev Co:P1:=.o .b
abbrev Bv:Crt:=.q Ab (.q .z (.q Ab (.q .z (.q (.q (.cut ⟨[(4,Co)],[],[]⟩ [] .z) .z) Ca))))
abbrev Bw:PK:=.sl .mu 3 Aa
abbrev By:Crt:=.q .z (.q Ae (.q .z (.q Ae AL)))
abbrev Bz:Shp:=⟨[Av,Bq,AC],[(6,[Bb,Bb,CH]),(4,AS)],[]⟩
abbrev BA:Shp:=⟨[Av,Bq,AC],[(6,[.k,Bb,CH]),(4,AS)],[]⟩
abbrev BB:Shp:=⟨[Av,Bq,AC],[(6,[.k,.k,CH]),(4,AS)],[]⟩
abbrev BE:List (Nat×List P0):=[(1,Am)]
abbrev BF:List RSh:=[AG]
abbrev BQ:Nat×P1:=(9,Ac)
abbrev CM:List (Nat×List P0):=[(4,Bu)]
abbrev BG:Shp:=⟨[Az,Au,Av,Ba,BQ,Cw,(13,.z 4 .b),(14,Ag),(15,Ag),(42,Ac),(43,Ac)],CM,[]⟩
abbrev BH:Nat×P1:=(7,Ac)
abbrev BI:Crt:=.q Al (.q (.b Ab) .z)
abbrev CW:Nat×P1:=(5,AT)
abbrev BK:Shp:=⟨[Av,CW],[],[]⟩
abbrev BM:Prm:=.g [Ah,Ah]
abbrev BN:Prm:=.o AB
abbrev BP:Nat×P1:=(12,Ac)
abbrev BR:List RSh:=[AQ]
abbrev BS:PK:=.sl .mu 4 .b
abbrev BU:RSh:=.o (.row 157 (.p Aa .b))
abbrev BV:Crt:=.q .z AL
abbrev BW:Nat×P1:=(7,Ag)
abbrev BX:Nat×P1:=(3,AM)
abbrev BY:RSh:=.o .s
abbrev BZ:Nat×P1:=(13,Ac)
abbrev Cb:Crt:=.q .z (.q Ae Aq)
abbrev Cc:P1:=.o Bb
abbrev Cd:Shp:=⟨[AC,(7,AT)],[],[]⟩
abbrev Cg:Prm:=.g [Ah,Bf,AB,AB,AB]
abbrev Cj:Prm:=.o .s
abbrev Ck:RSh:=.g [AW,AW,BC]
abbrev Cm:Prm:=.o (.sl .ro 9 .s)
abbrev Cp:Crt:=.q .z (.cut ⟨[AY,Au,(3,.o .s),Av],[],[]⟩ [] Ab)
abbrev Df:PK:=.sl .mu 125 Af
abbrev Cr:List PK:=[Ah,.sl .mu 77 As,.sl .mu 122 Af,BS,BS,Df,Bw]
abbrev Cu:Shp:=⟨[Au,(3,.o .s)],[],[]⟩
abbrev Cv:RSh:=.o (.row 86 As)
abbrev CA:List P0:=[AP,AP,AP,AP,AP,AP,AP,AP,AP,AP,AP,AP,AP,AP,AP,AP]
abbrev CB:P1:=.o (.w 5 (.int .u8))
abbrev CC:Shp:=⟨[Au],[],[]⟩
abbrev CD:RSh:=.o AW
abbrev CF:Shp:=⟨[Az,Au,BX],BE,[]⟩
abbrev CI:Shp:=⟨[Az,Av,(5,AF),BP,BZ,(14,Ag)],[],[]⟩
abbrev CJ:Shp:=⟨[Az,Av,(5,AF),BP,BZ,(14,Ac)],[],[]⟩
abbrev CK:List (Nat×List P0):=[(8,[AP,.k,Aw,Aw,Aw]),(6,Bo)]
abbrev CL:Prm:=.o (.sl .tk 3 Aa)
abbrev CO:List RSh:=[AK]
abbrev CP:Crt:=.q .z (.q Ae Bh)
abbrev CR:Shp:=⟨[Au,BX],[],[]⟩
abbrev CS:Shp:=⟨[AY,Au,(3,.o .s),(4,Ag)],[],[]⟩
abbrev CT:Crt:=.q .z Bh
abbrev CX:Shp:=⟨[AY,Az,Av,Bq,AC,BW,CE],[],[]⟩
abbrev CY:Nat×P1:=(11,Ac)
abbrev CZ:Shp:=⟨[Av,Bq,AC,BW],[AD,(4,Am)],[]⟩
abbrev Da:Nat×P1:=(7,AF)
abbrev Dc:P1:=.o (.w 122 Af)
abbrev De:P1:=.o (.w 125 Af)
def oq:Ctr:=⟨103,[AA],[BY],false,fun x=>bF x⟩
theorem rR:aN Tryz.prog oq:=WH (aaH)
def xw:Ctr:=⟨51,[Cj,Cj],[.o (.row 9 .s)],false,fun x=>fj x.1 x.2⟩
theorem GR:aN Tryz.prog xw:=TO (aea)
def sJ:Ctr:=⟨122,[Cm,Cj],[BY],false,fun x=>dc x.1 x.2⟩
theorem xP:aN Tryz.prog sJ:=WI (aaY)
def Ir (n:Nat):Ctr:=⟨62,[AA],[BY],false,fun x=>cv gM n x⟩
theorem Hx: ∀n,aN Tryz.prog (Ir n)
 |0=>⟨act,fun x res h=>by cases h⟩
 |n+1=>ck [Ir n] [.tmp 2] CP ⟨Hx n,trivial⟩ act Tryz.func62 Tryz.ntmps62 rfl rfl rfl fun _=>by kernel_rfl
def jR:Ctr:=⟨62,[AA],[BY],false,fun x=>aY x⟩
theorem mK:aN Tryz.prog jR:=RJ (Hx 30)
def tU:Ctr:=⟨165,[Ai,AA],BF,false,fun x=>kg x.1 x.2.1 x.2.2⟩
theorem DM:aN Tryz.prog tU:=ck [] [.tmp 4] Al trivial abD Tryz.func165 Tryz.ntmps165 rfl rfl rfl fun _=>by kernel_rfl
def qC:Ctr:=⟨100,[Ai],BF,false,fun x=>aX x.1 x.2⟩
theorem qz:aN Tryz.prog qC:=ck [tU] [.tmp 2] (.q .z (.q Ae (.q (.q .z (.cut CC BO (.b (.lp ⟨[Az,Au,(20,Ac),(21,Ac),(22,Ag)],[(1,Bu)],[]⟩ AJ)))) Ab))) ⟨DM,trivial⟩ aaF Tryz.func100 Tryz.ntmps100 rfl rfl rfl fun _=>by kernel_rfl
def wZ:Ctr:=⟨179,[Cj],BR,false,fun x=>mS x⟩
theorem Gy:aN Tryz.prog wZ:=ck [] [.tmp 2] (.q .z (.q Ae (.q .z (.q (.q .z (.cut ⟨[Au,(3,Ag)],[],[]⟩ BO (.b (.lp ⟨[AY,Au,(3,Ag),(14,Ac),(15,Ag)],[],[]⟩ (.q .z (.q Ab (.q (.b (.q .z Cs)) .z))))))) Ab)))) trivial abM Tryz.func179 Tryz.ntmps179 rfl rfl rfl fun _=>by kernel_rfl
def tY:Ctr:=⟨118,[Cj],[AQ,AG],false,fun x=>aD x⟩
theorem tc:aN Tryz.prog tY:=ck [wZ,oq] [.tmp 2,.tmp 3] Bx ⟨Gy,rR,trivial⟩ aaU Tryz.func118 Tryz.ntmps118 rfl rfl rfl fun _=>by kernel_rfl
def yc:Ctr:=⟨42,[Ai],[BY],false,fun x=>cQ x.1 x.2⟩
theorem HD:aN Tryz.prog yc:=OY (ad1) qz
def xe:Ctr:=⟨52,[Cm],[.g [Ao,Ao,Ao],AG],false,fun x=>du x⟩
theorem GB:aN Tryz.prog xe:=Nj (aeb) tc
def bh:Ctr:=⟨39,[AA,AA,AA],BF,false,fun x=>am x.1 x.2.1 x.2.2⟩
theorem bp:aN Tryz.prog bh:=ck [] [.tmp 6] Al trivial adZ Tryz.func39 Tryz.ntmps39 rfl rfl rfl fun _=>by kernel_rfl
def jQ:Ctr:=⟨95,[Ai],BF,false,fun x=>dw x.1 x.2⟩
theorem mJ:aN Tryz.prog jQ:=ck [bh] [.tmp 2] (.q .z (.q Ae (.q (.q .z (.cut CC BO (.b (.lp ⟨[Az,Au,(3,Ag)],[(1,Bu)],[]⟩ (.q Al Cz))))) Ab))) ⟨bp,trivial⟩ aeK Tryz.func95 Tryz.ntmps95 rfl rfl rfl fun _=>by kernel_rfl
def oe:Ctr:=⟨37,[Ai,Ap],BF,false,fun x=>fZ x.1 x.2.1 x.2.2⟩
theorem tm:aN Tryz.prog oe:=ck [bh,jQ] [.tmp 4] (.q .z (.q (.q .z (.cut ⟨[Az,Au,Av],[(2,Bu)],[]⟩ BO (.b (.lp ⟨[Az,Au,Av,CV],[(2,Bu)],[]⟩ Bj)))) Ab)) ⟨bp,mJ,trivial⟩ adX Tryz.func37 Tryz.ntmps37 rfl rfl rfl fun _=>by kernel_rfl
def oo:Ctr:=⟨96,[Bp,BM],BR,false,fun x=>iP x.1 x.2.1 x.2.2⟩
theorem rQ:aN Tryz.prog oo:=ck [] [.tmp 4] (.q .z (.q (.q .z (.cut BJ BO (.b (.lp ⟨[AY,AX,Av,CV],AI,[]⟩ Bj)))) Ab)) trivial aeL Tryz.func96 Tryz.ntmps96 rfl rfl rfl fun _=>by kernel_rfl
def lK:Ctr:=⟨38,[AE],BF,false,fun x=>ep x.1 x.2.1 x.2.2⟩
theorem pn:aN Tryz.prog lK:=ck [bh,oo] [.tmp 2] (.q .z (.q Ae (.q (.q .z (.cut ⟨[Az,Au],[(1,AS)],[]⟩ BO (.b (.lp ⟨[Az,Au,(3,Ag)],[(1,AS)],[]⟩ Bj)))) (.q (.q .z (.cut CC BO (.b (.lp ⟨[Az,Au,(4,Ag)],[(1,AS)],[]⟩ (.q Al Cz))))) Ab)))) ⟨bp,rQ,trivial⟩ adY Tryz.func38 Tryz.ntmps38 rfl rfl rfl fun _=>by kernel_rfl
def ft:Ctr:=⟨162,[Ai,AN],BF,false,fun x=>ce x.1 x.2.1 x.2.2⟩
theorem kc:aN Tryz.prog ft:=ck [jQ] [.tmp 4] Al ⟨mJ,trivial⟩ abA Tryz.func162 Tryz.ntmps162 rfl rfl rfl fun _=>by kernel_rfl
def lh:Ctr:=⟨97,Bn,BF,false,fun x=>gC x.1 x.2.1 x.2.2.1 x.2.2.2⟩
theorem nB:aN Tryz.prog lh:=ck [ft,oe] [.tmp 6] Al ⟨kc,tm,trivial⟩ aeM Tryz.func97 Tryz.ntmps97 rfl rfl rfl fun _=>by kernel_rfl
def uz:Ctr:=⟨190,[AN],[CD],false,fun x=>jY x⟩
theorem zA:aN Tryz.prog uz:=ck [] [.tmp 2] Al trivial abW Tryz.func190 Tryz.ntmps190 rfl rfl rfl fun _=>by kernel_rfl
def ue:Ctr:=⟨200,[Ai,AN,AA,.o .b],[CD,AG],false,fun x=>kN x.1 x.2.1 x.2.2.1 x.2.2.2.1 x.2.2.2.2⟩
theorem DW:aN Tryz.prog ue:=ck [ft,uz,bh] [.tmp 8,.tmp 9] (.q .z (.q Ae (.q .z (.q Ae Al)))) ⟨kc,zA,bp,trivial⟩ ab6 Tryz.func200 Tryz.ntmps200 rfl rfl rfl fun _=>by kernel_rfl
def yC:Ctr:=⟨201,[Ai,AN,AA],[CD],false,fun x=>oO x.1 x.2.1 x.2.2.1 x.2.2.2⟩
theorem HY:aN Tryz.prog yC:=ck [] [.tmp 6] (.q .z (.q .z (.q .z (.q (.q .z (.cut ⟨[AC,(7,Cc)],[],[]⟩ [] (.b (.lp ⟨[Az,AX,AC,(7,Cc),CE],AI,[]⟩ (.q Al (.q (.b (.q .z (.cut ⟨[Az,AX,AC,(7,Cc),Ba],AI,[]⟩ [] (.b (.lp ⟨[Az,AX,AC,(7,Cc),Ba,(9,Ag)],AI,[]⟩ (.q Al (.q (.b (.q .z (.q .z (.cut ⟨[Az,AX,AC,(7,Cc),Ba,BQ],AI,[]⟩ [] BT)))) .z))))))) .z)))))) Ab)))) trivial ab7 Tryz.func201 Tryz.ntmps201 rfl rfl rfl fun _=>by kernel_rfl
def oi:Ctr:=⟨164,[Ai,AN,AA],CO,false,fun x=>iN x.1 x.2.1 x.2.2.1 x.2.2.2⟩
theorem rP:aN Tryz.prog oi:=ck [ft,bh,yC] [.tmp 6] (.q .z (.q .z (.q Ae (.q .z (.q (.q .z (.cut Cd [] (.b (.lp ⟨[AX,AC,(7,AT),Ba,(9,Ag)],AI,[]⟩ (.q Al (.q (.b (.q .z (.cut ⟨[AX,AC,(7,AT),Ba,BQ],AI,[]⟩ [] Ab))) .z)))))) Ab))))) ⟨kc,bp,HY,trivial⟩ abC Tryz.func164 Tryz.ntmps164 rfl rfl rfl fun _=>by kernel_rfl
def lL:Ctr:=⟨136,[BN,AA],BF,false,fun x=>cJ x.1 x.2⟩
theorem nO:aN Tryz.prog lL:=ck [] [.tmp 4] (.q .z Aq) trivial abc Tryz.func136 Tryz.ntmps136 rfl rfl rfl fun _=>by kernel_rfl
def ol:Ctr:=⟨99,[Ai,AN,AA,AA],BF,false,fun x=>gn x.1 x.2.1 x.2.2.1 x.2.2.2.1 x.2.2.2.2⟩
theorem tq:aN Tryz.prog ol:=ck [oi,lL] [.tmp 8] Al ⟨rP,nO,trivial⟩ aeO Tryz.func99 Tryz.ntmps99 rfl rfl rfl fun _=>by kernel_rfl
def ud:Ctr:=⟨163,[Ai,AN],CO,false,fun x=>oH x.1 x.2.1 x.2.2⟩
theorem DV:aN Tryz.prog ud:=ck [ft,ue,ol] [.tmp 4] (.q .z (.q .z (.q (.q .z (.cut BK [] (.b (.lp ⟨[Az,Au,Av,CW,(6,Ag)],[(2,Bu)],[]⟩ (.q Al (.q (.b (.q .z (.q .z (.cut ⟨[Az,Au,Av,CW,AC],[(2,Bu)],[]⟩ [] Ab)))) .z)))))) Ab))) ⟨kc,DW,tq,trivial⟩ abB Tryz.func163 Tryz.ntmps163 rfl rfl rfl fun _=>by kernel_rfl
def xo:Ctr:=⟨98,[Ai,AN],BF,false,fun x=>na x.1 x.2.1 x.2.2⟩
theorem GK:aN Tryz.prog xo:=ck [ud] [.tmp 4] Al ⟨DV,trivial⟩ aeN Tryz.func98 Tryz.ntmps98 rfl rfl rfl fun _=>by kernel_rfl
def mD:Ctr:=⟨40,Bn,BF,false,fun x=>ei x.1 x.2.1 x.2.2.1 x.2.2.2⟩
theorem pD:aN Tryz.prog mD:=ck [lh,xo,ol] [.tmp 6] (.q .z (.q Ae (.q (.q .z (.cut ⟨[AC],[],[]⟩ BO (.b (.lp ⟨[Az,Au,AX,AC,BW],AI,[]⟩ (.q Al (.q (.b (.q .z (.cut ⟨[Az,Au,AX,AC,BH],AI,[]⟩ BO (.b (.lp ⟨[Az,Au,AX,AC,BH,CE],AI,[]⟩ Bj))))) .z)))))) Ab))) ⟨nB,GK,tq,trivial⟩ ad0 Tryz.func40 Tryz.ntmps40 rfl rfl rfl fun _=>by kernel_rfl
def dk:Ctr:=⟨9,[Ad],BF,false,fun x=>bz x.1 x.2.1 x.2.2.1 x.2.2.2.1 x.2.2.2.2.1 x.2.2.2.2.2.1 x.2.2.2.2.2.2⟩
theorem fl:aN Tryz.prog dk:=ck [oe,lK,bh,mD] [.tmp 2] (.q .z (.q Ae (.q (.q .z (.cut ⟨[Az,Au],BE,[]⟩ BO (.b (.lp ⟨[Az,Au,(3,Ag)],BE,[]⟩ Bj)))) Ab))) ⟨tm,pn,bp,pD,trivial⟩ co9 Tryz.func9 Tryz.ntmps9 rfl rfl rfl fun _=>by kernel_rfl
def sG:Ctr:=⟨130,[AE],[Ck],false,fun x=>lz x.1 x.2.1 x.2.2⟩
theorem xN:aN Tryz.prog sG:=ck [uz] [.cell 2 30] Al ⟨zA,trivial⟩ aa6 Tryz.func130 Tryz.ntmps130 rfl rfl rfl fun _=>by kernel_rfl
def iB:Ctr:=⟨61,[Ad],[Ak],false,fun x=>be x.1 x.2.1 x.2.2.1 x.2.2.2.1 x.2.2.2.2.1 x.2.2.2.2.2.1 x.2.2.2.2.2.2⟩
theorem ld:aN Tryz.prog iB:=ck [sG] [.cell 2 33] Bx ⟨xN,trivial⟩ aek Tryz.func61 Tryz.ntmps61 rfl rfl rfl fun _=>by kernel_rfl
def qE:Ctr:=⟨138,[AE,AA],CO,false,fun x=>dz x.1 x.2.1 x.2.2.1 x.2.2.2⟩
theorem wN:aN Tryz.prog qE:=ck [lK] [.tmp 4] (.q .z (.q .z (.q (.q .z (.cut BK [] (.b (.lp ⟨[Az,Au,Av,CW,(6,Ag)],[(2,AS)],[]⟩ (.q Al (.q (.b (.q .z (.cut ⟨[Az,Au,Av,CW,AC],[(2,AS)],[]⟩ [] Ab))) .z)))))) Ab))) ⟨pn,trivial⟩ abe Tryz.func138 Tryz.ntmps138 rfl rfl rfl fun _=>by kernel_rfl
def yB:Ctr:=⟨139,[Ad,AA],[Ak],false,fun x=>oN x.1 x.2.1 x.2.2.1 x.2.2.2.1 x.2.2.2.2.1 x.2.2.2.2.2.1 x.2.2.2.2.2.2.1 x.2.2.2.2.2.2.2⟩
theorem HX:aN Tryz.prog yB:=ck [iB] [.cell 4 33] AH ⟨ld,trivial⟩ abf Tryz.func139 Tryz.ntmps139 rfl rfl rfl fun _=>by kernel_rfl
def xv:Ctr:=⟨137,[Ad,AA],[Ak],false,fun x=>ni x.1 x.2.1 x.2.2.1 x.2.2.2.1 x.2.2.2.2.1 x.2.2.2.2.2.1 x.2.2.2.2.2.2.1 x.2.2.2.2.2.2.2⟩
theorem GO:aN Tryz.prog xv:=ck [iB,lL] [.cell 4 33] (.q .z AH) ⟨ld,nO,trivial⟩ abd Tryz.func137 Tryz.ntmps137 rfl rfl rfl fun _=>by kernel_rfl
def zO:Ctr:=⟨194,[AE,Bg],BF,false,fun x=>pT x.1 x.2.1 x.2.2.1 x.2.2.2.1 x.2.2.2.2.1 x.2.2.2.2.2⟩
theorem Jz:aN Tryz.prog zO:=ck [oo,qE,bh] [.tmp 4] (.q .z (.q .z (.q (.q .z (.b (.q .z (.q Ab (.q .z Bv))))) Ab))) ⟨rQ,wN,bp,trivial⟩ ab0 Tryz.func194 Tryz.ntmps194 rfl rfl rfl fun _=>by kernel_rfl
def zN:Ctr:=⟨140,[AE,Bg],[Ck,AG],false,fun x=>mF x.1 x.2.1 x.2.2.1 x.2.2.2.1 x.2.2.2.2.1 x.2.2.2.2.2⟩
theorem Jy:aN Tryz.prog zN:=ck [lK,sG,bh,zO,oo] [.cell 4 30,.tmp 5] (.q .z (.q Ae (.q .z (.q Ae (.q (.q .z (.b (.q .z (.cut Bz [] (.q .z (.q .z (.cut Bz [] (.q .z (.q .z (.cut BA [] (.q .z (.q .z (.cut BA [] (.q .z (.q .z (.cut BB [] Al)))))))))))))))) Ab))))) ⟨pn,xN,bp,Jz,rQ,trivial⟩ abg Tryz.func140 Tryz.ntmps140 rfl rfl rfl fun _=>by kernel_rfl
def sF:Ctr:=⟨64,[Ad,Bg],[Ak,AG],false,fun x=>lw x.1 x.2.1 x.2.2.1 x.2.2.2.1 x.2.2.2.2.1 x.2.2.2.2.2.1 x.2.2.2.2.2.2.1 x.2.2.2.2.2.2.2.1 x.2.2.2.2.2.2.2.2.1 x.2.2.2.2.2.2.2.2.2⟩
theorem xM:aN Tryz.prog sF:=ck [dk,bh,iB,lL,xv,qE,yB,zN,mD] [.cell 4 33,.tmp 5] (.q .z (.q Ae (.q Ae (.q .z (.q (.b (.q .z (.q Ab (.q (.cut ⟨[Au,AX,Av,Bq,AC,(42,Co)],[(4,Am),(3,AS),(2,Am)],[]⟩ [] .z) (.q Ab Ae))))) (.q .z (.q .z (.q Ae Al)))))))) ⟨fl,bp,ld,nO,GO,wN,HX,Jy,pD,trivial⟩ aem Tryz.func64 Tryz.ntmps64 rfl rfl rfl fun _=>by kernel_rfl
def tX:Ctr:=⟨143,[AA],BF,false,fun x=>ko x⟩
theorem DP:aN Tryz.prog tX:=ck [] [.tmp 2] Al trivial abh Tryz.func143 Tryz.ntmps143 rfl rfl rfl fun _=>by kernel_rfl
def nW:Ctr:=⟨69,[Ai,Ap],BF,false,fun x=>fx x.1 x.2.1 x.2.2⟩
theorem sY:aN Tryz.prog nW:=ck [qC,tX] [.tmp 4] (.q .z (.q Ae (.q (.q .z (.cut BJ BO (.b (.lp ⟨[Av,(17,Ac),(18,Ac),(19,Ag)],[],[]⟩ AJ)))) Ab))) ⟨qz,DP,trivial⟩ aen Tryz.func69 Tryz.ntmps69 rfl rfl rfl fun _=>by kernel_rfl
def bD:Ctr:=⟨195,[Bp,BM],BR,false,fun x=>aK x.1 x.2.1 x.2.2⟩
theorem cL:aN Tryz.prog bD:=ck [] [.tmp 4] (.q .z (.q (.q .z (.cut BJ BO (.b (.lp ⟨[AY,AX,Av,BH,CE],AI,[]⟩ AJ)))) Ab)) trivial ab1 Tryz.func195 Tryz.ntmps195 rfl rfl rfl fun _=>by kernel_rfl
def aR:Ctr:=⟨144,[Bp,BM],BF,false,fun x=>ay x.1 x.2.1 x.2.2⟩
theorem bm:aN Tryz.prog aR:=ck [bD] [.tmp 4] Al ⟨cL,trivial⟩ abi Tryz.func144 Tryz.ntmps144 rfl rfl rfl fun _=>by kernel_rfl
def lJ:Ctr:=⟨70,[AE],BF,false,fun x=>em x.1 x.2.1 x.2.2⟩
theorem pj:aN Tryz.prog lJ:=ck [aR] [.tmp 2] (.q .z (.q Ae (.q (.q .z (.cut ⟨[Az,Au],[(1,AS)],[]⟩ BO (.b (.lp ⟨[Az,Au,(33,Ac),(34,Ag)],[(1,AS)],[]⟩ AJ)))) (.q (.q .z (.cut CC BO (.b (.lp ⟨[Az,Au,(51,Ac),(52,Ac),(53,Ag)],[(1,AS)],[]⟩ AJ)))) Ab)))) ⟨bm,trivial⟩ aeo Tryz.func70 Tryz.ntmps70 rfl rfl rfl fun _=>by kernel_rfl
def cE:Ctr:=⟨45,[Ai,AA],BF,false,fun x=>bc x.1 x.2.1 x.2.2⟩
theorem ew:aN Tryz.prog cE:=ck [] [.tmp 4] Al trivial ad4 Tryz.func45 Tryz.ntmps45 rfl rfl rfl fun _=>by kernel_rfl
def tW:Ctr:=⟨109,[Ai,AN],BF,false,fun x=>kj x.1 x.2.1 x.2.2⟩
theorem DO:aN Tryz.prog tW:=ck [qC] [.tmp 4] Al ⟨qz,trivial⟩ aaM Tryz.func109 Tryz.ntmps109 rfl rfl rfl fun _=>by kernel_rfl
def jP:Ctr:=⟨44,Bn,BF,false,fun x=>dq x.1 x.2.1 x.2.2.1 x.2.2.2⟩
theorem mI:aN Tryz.prog jP:=ck [tW,nW] [.tmp 6] Al ⟨DO,sY,trivial⟩ ad3 Tryz.func44 Tryz.ntmps44 rfl rfl rfl fun _=>by kernel_rfl
def qD:Ctr:=⟨204,[AA],CO,false,fun x=>jS x⟩
theorem wM:aN Tryz.prog qD:=ck [] [.tmp 2] (.q .z (.q .z (.q (.q .z (.cut ⟨[Au,(3,AF)],[],[]⟩ [] (.b (.lp ⟨[Au,(3,AF),Ba,(9,Ag)],[],[]⟩ Bc)))) Ab))) trivial ab8 Tryz.func204 Tryz.ntmps204 rfl rfl rfl fun _=>by kernel_rfl
def fp:Ctr:=⟨170,[.o Bw,AA],BR,true,fun x=>bw x.1 x.2⟩
theorem kb:aN Tryz.prog fp:=ck [] [.tmp 4] (.q .z (.q (.cut ⟨Cf,[],[(0,Aw)]⟩ [] (.b (.lp ⟨[(0,AF),(1,Ag),Av],[],[]⟩ (.q Al (.b Ab))))) Ab)) trivial abG Tryz.func170 Tryz.ntmps170 rfl rfl rfl fun _=>by kernel_rfl
def ub:Ctr:=⟨206,[.o Bw,AA,AA],BF,true,fun x=>kA x.1 x.2.1 x.2.2⟩
theorem DT:aN Tryz.prog ub:=ck [fp] [.tmp 6] Al ⟨kb,trivial⟩ aca Tryz.func206 Tryz.ntmps206 rfl rfl rfl fun _=>by kernel_rfl
def ob:Ctr:=⟨205,[.o Bw,AA,AA],[],true,fun x=>fQ x.1 x.2.1 x.2.2⟩
theorem tj:aN Tryz.prog ob:=ck [fp] [] Ab ⟨kb,trivial⟩ ab9 Tryz.func205 Tryz.ntmps205 rfl rfl rfl fun _=>by kernel_rfl
def xc:Ctr:=⟨171,[Ai,AN],BF,false,fun x=>mT x.1 x.2.1 x.2.2⟩
theorem Gz:aN Tryz.prog xc:=ck [qD,ub,ob] [.tmp 4] (.q .z (.q .z (.q (.q .z (.cut BJ BO (.b (.lp CI (.q .z (.q Ab (.q (.b (.q .z (.q .z (.cut CJ BO (.q Cs .z))))) .z))))))) Ab))) ⟨wM,DT,tj,trivial⟩ abH Tryz.func171 Tryz.ntmps171 rfl rfl rfl fun _=>by kernel_rfl
def nX:Ctr:=⟨101,[Bg,AA],BR,false,fun x=>fB x.1 x.2.1 x.2.2.1 x.2.2.2⟩
theorem sZ:aN Tryz.prog nX:=ck [] [.tmp 4] (.q .z (.q (.q .z (.b Ca)) Ab)) trivial aaG Tryz.func101 Tryz.ntmps101 rfl rfl rfl fun _=>by kernel_rfl
def su:Ctr:=⟨172,[.bx 145 [Ah,Bf,Bw,Bw,Bw],AN,AA],[],true,fun x=>jf x.1 x.2.1 x.2.2.1 x.2.2.2.1 x.2.2.2.2.1 x.2.2.2.2.2.1 x.2.2.2.2.2.2⟩
theorem zZ:aN Tryz.prog su:=ck [nX] [] (.q .z (.q .z (.cut ⟨[],Bt,[]⟩ [] (.b (.lp ⟨[AY,Az,Au,(6,Ag)],Bt,[]⟩ (.q Al (.q (.b (.q .z (.q .z (.cut ⟨[AY,Az,Au,AC],Bt,[]⟩ [] (.b (.lp ⟨[AY,Az,Au,AC,BH,(46,Ac),(47,Ac),(48,Ag)],Bt,[]⟩ (.q .z (.q Ab (.q (.b (.q .z (.q .z (.q .z (.cut ⟨[AY,Az,Au,AC,BH,(46,Ac),(47,Ac),(48,Ac)],Bt,[]⟩ [] BT))))) .z))))))))) .z))))))) ⟨sZ,trivial⟩ abI Tryz.func172 Tryz.ntmps172 rfl rfl rfl fun _=>by kernel_rfl
def pG:Ctr:=⟨111,Bn,[.g [Ao,.al 1,CG,CG,CG],AG],false,fun x=>jX x.1 x.2.1 x.2.2.1 x.2.2.2⟩
theorem uq:aN Tryz.prog pG:=ck [jP,xc,su] [.cell 6 145,.tmp 7] (.q .z (.q Ae (.q .z (.q (.q .z (.cut ⟨[Az,Au,AC,BH,Ba],[(8,[.k,.k,Cy,Cy,.k]),(6,Bo)],[]⟩ [] (.b (.lp ⟨[Az,Au,AC,BH,Ba,(32,Ac),(33,Ag)],[(8,[.k,.k,Cy,Cy,.k]),(6,Bo)],[]⟩ Bc)))) (.q (.q .z (.cut ⟨[AC,BH,Ba],CK,[]⟩ BO (.b (.lp ⟨[Az,AC,BH,Ba,(45,Ac),(46,Ac),(47,Ag)],CK,[]⟩ (.q .z (.q Ab (.q (.cut ⟨[Az,AC,BH,Ba,(45,Ac),(46,Ac),(47,Ac)],CK,[]⟩ BO (.b (.q .z (.q Al CQ)))) .z))))))) Ab))))) ⟨mI,Gz,zZ,trivial⟩ aaO Tryz.func111 Tryz.ntmps111 rfl rfl rfl fun _=>by kernel_rfl
def uw:Ctr:=⟨71,Bn,BF,false,fun x=>gN x.1 x.2.1 x.2.2.1 x.2.2.2⟩
theorem zy:aN Tryz.prog uw:=ck [pG] [.tmp 6] Bx ⟨uq,trivial⟩ aep Tryz.func71 Tryz.ntmps71 rfl rfl rfl fun _=>by kernel_rfl
def dj:Ctr:=⟨19,[Ad],BF,false,fun x=>bu x.1 x.2.1 x.2.2.1 x.2.2.2.1 x.2.2.2.2.1 x.2.2.2.2.2.1 x.2.2.2.2.2.2⟩
theorem fk:aN Tryz.prog dj:=ck [nW,lJ,cE,uw] [.tmp 2] (.q .z (.q Ae (.q (.q .z (.cut ⟨[Az,Au],BE,[]⟩ BO (.b (.lp ⟨[Az,Au,(29,Ac),(30,Ac),(31,Ag)],BE,[]⟩ AJ)))) Ab))) ⟨sY,pj,ew,zy,trivial⟩ adR Tryz.func19 Tryz.ntmps19 rfl rfl rfl fun _=>by kernel_rfl
set_option maxHeartbeats 4000000 in
theorem nk {x0:List (Int×Int×Int)} {A0:Option Addr} {n0 c0:Nat} {w:World} {r:List (Int×Int×Int)} (h0:Rt w 3 Qo A0 n0 c0 x0) (hM:aT x0=some r):
 Calls Tryz.prog 105 #[.slice A0 n0 c0] w (fun e w'=> ∃(B0:Option Addr) (N0 D0:Nat),e= .returned (.slice B0 N0 D0)∧N0=r.length∧St w w' [.row 77 3 (.slice B0 N0 D0) N0 (r.flatMap Qo)]):=by
 obtain rfl:=h0.len
 unfold aT at hM
 obtain ⟨hk,hM⟩:=cD hM
 replace hk:=DG hk
 obtain rfl:=Option.some.inj hM
 refine pY Tryz.func105 Tryz.ntmps105 rfl [(0,.slice A0 x0.length c0)] ⟨rfl,trivial⟩ rfl ?_
 intro a hF
 have S:=St.nil w
 refine wp_seq ?_
 refine wp_region_lit ?_
 refine ao (v:=.slice none 0 0) rfl rfl hF rfl (aA rfl rfl) ?_;clear hF;intro a hF
 refine wpList_nil ?_
 refine wp_seq ?_
 refine wp_seq ?_
 refine wp_region_lit ?_
 refine ao (v:=.slice A0 x0.length c0) rfl rfl hF rfl (aw rfl (hF.ev rfl)) ?_;clear hF;intro a hF
 refine ao (v:=.bool (Option.isNone A0)) rfl rfl hF rfl (py rfl Tryz.underlying23 (hF.ev rfl) rfl) ?_;clear hF;intro a hF
 refine wpList_nil ?_
 cases hc101:(Option.isNone A0)
 ·have hx:=trivial
  refine xF hF rfl hc101 ?_
  refine wp_skip ?_
  refine wp_seq ?_
  refine wp_region_lit ?_
  refine vV (cs:= #[]) (size:=3) rfl rfl hF rfl S (jV rfl Tryz.underlying23 (congrArg Option.isSome ae5)) rfl (Nat.zero_le _) ?_;clear hF S;intro a g102 u hF S
  refine ao (v:=.slice A0 x0.length c0) rfl rfl hF rfl (aw rfl (hF.ev rfl)) ?_;clear hF;intro a hF
  have hk105:=hk
  refine sO (lx:=[]) (ly:=x0) rfl rfl hF rfl S rfl (hF.ev rfl) (hF.ev rfl) (i:=0) rfl rfl Tryz.underlying23 ac0 rfl (by decide) (S.rc0 h0.rc).rd rfl RF hk105 (by decide) ?_;clear hF S;intro a B103 d104 u hF S
  refine ao (v:=.slice B103 ((([]:List (Int×Int×Int))++x0).length) d104) rfl rfl hF rfl (aA rfl (hF.ev rfl)) ?_;clear hF;intro a hF
  refine wpList_nil ?_
  refine wp_ret ?_
  repeat with_reducible (first |refine dV ?_ |refine mt ?_ |refine mr ?_)
  refine iA (.inl rfl) hF rfl (gI (hF.ev rfl)) ?_
  exact ⟨B103,((([]:List (Int×Int×Int))++x0).length),d104,rfl,rfl,S.sel [0] rfl rfl⟩
 ·have hx:=yK h0.rc.rd rfl hc101
  refine xG hF rfl hc101 ?_
  refine wp_seq ?_
  refine wp_region_lit ?_
  refine ao (v:=.slice none 0 0) rfl rfl hF rfl (aA rfl rfl) ?_;clear hF;intro a hF
  refine wpList_nil ?_
  refine wp_ret ?_
  repeat with_reducible (first |refine dV ?_ |refine mt ?_ |refine mr ?_)
  refine iA (.inl rfl) hF rfl (gI (hF.ev rfl)) ?_
  subst hx
  replace S:=S.nilrow 77 3
  exact ⟨none,0,0,rfl,rfl,S.sel [0] rfl rfl⟩
def ey:Ctr:=⟨105,[.o Bf],[.o CU],false,fun x=>aT x⟩
theorem nn:aN Tryz.prog ey:=⟨aaI,fun x res hm e w0 w X _ hp hS=>by
 obtain ⟨v,vr,hv,⟨l,hl,hro⟩,_⟩:=hp
 have hl:=(List.head_eq_of_cons_eq hv).trans hl
 injection hl with _ hl
 subst hl
 refine (nk (A0:=e.a 0) (n0:=List.length x) (c0:=e.c 0) (w:=w) ⟨hro w _ hS (fun y hy=>List.mem_append_right _ hy),rfl⟩ hm).mono ?_
 rintro en w' ⟨B,N,D,rfl,hN,S⟩
 subst hN
 exact ⟨[_],[_],rfl,⟨[_],[],[],[_],[],[],rfl,rfl,⟨_,[],_,[],[_],[],rfl,rfl,rfl,⟨res,B,D,rfl,rfl,rfl⟩,rfl,rfl,rfl⟩,⟨rfl,rfl⟩,⟨[],[],[],[],rfl,rfl,⟨rfl,rfl⟩,⟨rfl,rfl⟩⟩⟩,hS.call1 S⟩⟩
set_option maxHeartbeats 4000000 in
theorem nM {x0:List (Int×Int)} {A0:Option Addr} {n0 c0:Nat} {w:World} {r:List (Int×Int)} (h0:Rt w 2 Wy A0 n0 c0 x0) (hM:ba x0=some r):
 Calls Tryz.prog 106 #[.slice A0 n0 c0] w (fun e w'=> ∃(B0:Option Addr) (N0 D0:Nat),e= .returned (.slice B0 N0 D0)∧N0=r.length∧St w w' [.row 122 2 (.slice B0 N0 D0) N0 (r.flatMap Wy)]):=by
 obtain rfl:=h0.len
 unfold ba at hM
 obtain ⟨hk,hM⟩:=cD hM
 replace hk:=DG hk
 obtain rfl:=Option.some.inj hM
 refine pY Tryz.func106 Tryz.ntmps106 rfl [(0,.slice A0 x0.length c0)] ⟨rfl,trivial⟩ rfl ?_
 intro a hF
 have S:=St.nil w
 refine wp_seq ?_
 refine wp_region_lit ?_
 refine ao (v:=.slice none 0 0) rfl rfl hF rfl (aA rfl rfl) ?_;clear hF;intro a hF
 refine wpList_nil ?_
 refine wp_seq ?_
 refine wp_seq ?_
 refine wp_region_lit ?_
 refine ao (v:=.slice A0 x0.length c0) rfl rfl hF rfl (aw rfl (hF.ev rfl)) ?_;clear hF;intro a hF
 refine ao (v:=.bool (Option.isNone A0)) rfl rfl hF rfl (py rfl Tryz.underlying26 (hF.ev rfl) rfl) ?_;clear hF;intro a hF
 refine wpList_nil ?_
 cases hc101:(Option.isNone A0)
 ·have hx:=trivial
  refine xF hF rfl hc101 ?_
  refine wp_skip ?_
  refine wp_seq ?_
  refine wp_region_lit ?_
  refine vV (cs:= #[]) (size:=2) rfl rfl hF rfl S (jV rfl Tryz.underlying26 (congrArg Option.isSome adE)) rfl (Nat.zero_le _) ?_;clear hF S;intro a g102 u hF S
  refine ao (v:=.slice A0 x0.length c0) rfl rfl hF rfl (aw rfl (hF.ev rfl)) ?_;clear hF;intro a hF
  have hk105:=hk
  refine sO (lx:=[]) (ly:=x0) rfl rfl hF rfl S rfl (hF.ev rfl) (hF.ev rfl) (i:=0) rfl rfl Tryz.underlying26 Zw rfl (by decide) (S.rc0 h0.rc).rd rfl Tu hk105 (by decide) ?_;clear hF S;intro a B103 d104 u hF S
  refine ao (v:=.slice B103 ((([]:List (Int×Int))++x0).length) d104) rfl rfl hF rfl (aA rfl (hF.ev rfl)) ?_;clear hF;intro a hF
  refine wpList_nil ?_
  refine wp_ret ?_
  repeat with_reducible (first |refine dV ?_ |refine mt ?_ |refine mr ?_)
  refine iA (.inl rfl) hF rfl (gI (hF.ev rfl)) ?_
  exact ⟨B103,((([]:List (Int×Int))++x0).length),d104,rfl,rfl,S.sel [0] rfl rfl⟩
 ·have hx:=yK h0.rc.rd rfl hc101
  refine xG hF rfl hc101 ?_
  refine wp_seq ?_
  refine wp_region_lit ?_
  refine ao (v:=.slice none 0 0) rfl rfl hF rfl (aA rfl rfl) ?_;clear hF;intro a hF
  refine wpList_nil ?_
  refine wp_ret ?_
  repeat with_reducible (first |refine dV ?_ |refine mt ?_ |refine mr ?_)
  refine iA (.inl rfl) hF rfl (gI (hF.ev rfl)) ?_
  subst hx
  replace S:=S.nilrow 122 2
  exact ⟨none,0,0,rfl,rfl,S.sel [0] rfl rfl⟩
def fq:Ctr:=⟨106,[Ap],[.o (.row 122 Af)],false,fun x=>ba x⟩
theorem nN:aN Tryz.prog fq:=⟨aaJ,fun x res hm e w0 w X _ hp hS=>by
 obtain ⟨v,vr,hv,⟨l,hl,hro⟩,_⟩:=hp
 have hl:=(List.head_eq_of_cons_eq hv).trans hl
 injection hl with _ hl
 subst hl
 refine (nM (A0:=e.a 0) (n0:=List.length x) (c0:=e.c 0) (w:=w) ⟨hro w _ hS (fun y hy=>List.mem_append_right _ hy),rfl⟩ hm).mono ?_
 rintro en w' ⟨B,N,D,rfl,hN,S⟩
 subst hN
 exact ⟨[_],[_],rfl,⟨[_],[],[],[_],[],[],rfl,rfl,⟨_,[],_,[],[_],[],rfl,rfl,rfl,⟨res,B,D,rfl,rfl,rfl⟩,rfl,rfl,rfl⟩,⟨rfl,rfl⟩,⟨[],[],[],[],rfl,rfl,⟨rfl,rfl⟩,⟨rfl,rfl⟩⟩⟩,hS.call1 S⟩⟩
set_option maxHeartbeats 4000000 in
theorem uo {x0:List Bool} {A0:Option Addr} {n0 c0:Nat} {w:World} {r:List Bool} (h0:Rt w 1 eB A0 n0 c0 x0) (hM:aQ x0=some r):
 Calls Tryz.prog 114 #[.slice A0 n0 c0] w (fun e w'=> ∃(B0:Option Addr) (N0 D0:Nat),e= .returned (.slice B0 N0 D0)∧N0=r.length∧St w w' [.row 4 1 (.slice B0 N0 D0) N0 (r.flatMap eB)]):=by
 obtain rfl:=h0.len
 unfold aQ at hM
 obtain ⟨hk,hM⟩:=cD hM
 replace hk:=DG hk
 obtain rfl:=Option.some.inj hM
 refine pY Tryz.func114 Tryz.ntmps114 rfl [(0,.slice A0 x0.length c0)] ⟨rfl,trivial⟩ rfl ?_
 intro a hF
 have S:=St.nil w
 refine wp_seq ?_
 refine wp_region_lit ?_
 refine ao (v:=.slice none 0 0) rfl rfl hF rfl (aA rfl rfl) ?_;clear hF;intro a hF
 refine wpList_nil ?_
 refine wp_seq ?_
 refine wp_seq ?_
 refine wp_region_lit ?_
 refine ao (v:=.slice A0 x0.length c0) rfl rfl hF rfl (aw rfl (hF.ev rfl)) ?_;clear hF;intro a hF
 refine ao (v:=.bool (Option.isNone A0)) rfl rfl hF rfl (py rfl Tryz.underlying27 (hF.ev rfl) rfl) ?_;clear hF;intro a hF
 refine wpList_nil ?_
 cases hc101:(Option.isNone A0)
 ·have hx:=trivial
  refine xF hF rfl hc101 ?_
  refine wp_skip ?_
  refine wp_seq ?_
  refine wp_region_lit ?_
  refine vV (cs:= #[]) (size:=1) rfl rfl hF rfl S (jV rfl Tryz.underlying27 (congrArg Option.isSome sz4)) rfl (Nat.zero_le _) ?_;clear hF S;intro a g102 u hF S
  refine ao (v:=.slice A0 x0.length c0) rfl rfl hF rfl (aw rfl (hF.ev rfl)) ?_;clear hF;intro a hF
  have hk105:=hk
  refine sO (lx:=[]) (ly:=x0) rfl rfl hF rfl S rfl (hF.ev rfl) (hF.ev rfl) (i:=0) rfl rfl Tryz.underlying27 aeX rfl (by decide) (S.rc0 h0.rc).rd rfl YW hk105 (by decide) ?_;clear hF S;intro a B103 d104 u hF S
  refine ao (v:=.slice B103 ((([]:List Bool)++x0).length) d104) rfl rfl hF rfl (aA rfl (hF.ev rfl)) ?_;clear hF;intro a hF
  refine wpList_nil ?_
  refine wp_ret ?_
  repeat with_reducible (first |refine dV ?_ |refine mt ?_ |refine mr ?_)
  refine iA (.inl rfl) hF rfl (gI (hF.ev rfl)) ?_
  exact ⟨B103,((([]:List Bool)++x0).length),d104,rfl,rfl,S.sel [0] rfl rfl⟩
 ·have hx:=yK h0.rc.rd rfl hc101
  refine xG hF rfl hc101 ?_
  refine wp_seq ?_
  refine wp_region_lit ?_
  refine ao (v:=.slice none 0 0) rfl rfl hF rfl (aA rfl rfl) ?_;clear hF;intro a hF
  refine wpList_nil ?_
  refine wp_ret ?_
  repeat with_reducible (first |refine dV ?_ |refine mt ?_ |refine mr ?_)
  refine iA (.inl rfl) hF rfl (gI (hF.ev rfl)) ?_
  subst hx
  replace S:=S.nilrow 4 1
  exact ⟨none,0,0,rfl,rfl,S.sel [0] rfl rfl⟩
def gL:Ctr:=⟨114,[AN],[CD],false,fun x=>aQ x⟩
theorem mz:aN Tryz.prog gL:=⟨aaR,fun x res hm e w0 w X _ hp hS=>by
 obtain ⟨v,vr,hv,⟨l,hl,hro⟩,_⟩:=hp
 have hl:=(List.head_eq_of_cons_eq hv).trans hl
 injection hl with _ hl
 subst hl
 refine (uo (A0:=e.a 0) (n0:=List.length x) (c0:=e.c 0) (w:=w) ⟨hro w _ hS (fun y hy=>List.mem_append_right _ hy),rfl⟩ hm).mono ?_
 rintro en w' ⟨B,N,D,rfl,hN,S⟩
 subst hN
 exact ⟨[_],[_],rfl,⟨[_],[],[],[_],[],[],rfl,rfl,⟨_,[],_,[],[_],[],rfl,rfl,rfl,⟨res,B,D,rfl,rfl,rfl⟩,rfl,rfl,rfl⟩,⟨rfl,rfl⟩,⟨[],[],[],[],rfl,rfl,⟨rfl,rfl⟩,⟨rfl,rfl⟩⟩⟩,hS.call1 S⟩⟩
set_option maxHeartbeats 4000000 in
theorem kY {x0:List (Int×Int)} {A0:Option Addr} {n0 c0:Nat} {w:World} {r:List (Int×Int)} (h0:Rt w 2 iW A0 n0 c0 x0) (hM:aJ x0=some r):
 Calls Tryz.prog 168 #[.slice A0 n0 c0] w (fun e w'=> ∃(B0:Option Addr) (N0 D0:Nat),e= .returned (.slice B0 N0 D0)∧N0=r.length∧St w w' [.row 125 2 (.slice B0 N0 D0) N0 (r.flatMap iW)]):=by
 obtain rfl:=h0.len
 unfold aJ at hM
 obtain ⟨hk,hM⟩:=cD hM
 replace hk:=DG hk
 obtain rfl:=Option.some.inj hM
 refine pY Tryz.func168 Tryz.ntmps168 rfl [(0,.slice A0 x0.length c0)] ⟨rfl,trivial⟩ rfl ?_
 intro a hF
 have S:=St.nil w
 refine wp_seq ?_
 refine wp_region_lit ?_
 refine ao (v:=.slice none 0 0) rfl rfl hF rfl (aA rfl rfl) ?_;clear hF;intro a hF
 refine wpList_nil ?_
 refine wp_seq ?_
 refine wp_seq ?_
 refine wp_region_lit ?_
 refine ao (v:=.slice A0 x0.length c0) rfl rfl hF rfl (aw rfl (hF.ev rfl)) ?_;clear hF;intro a hF
 refine ao (v:=.bool (Option.isNone A0)) rfl rfl hF rfl (py rfl Tryz.underlying28 (hF.ev rfl) rfl) ?_;clear hF;intro a hF
 refine wpList_nil ?_
 cases hc101:(Option.isNone A0)
 ·have hx:=trivial
  refine xF hF rfl hc101 ?_
  refine wp_skip ?_
  refine wp_seq ?_
  refine wp_region_lit ?_
  refine vV (cs:= #[]) (size:=2) rfl rfl hF rfl S (jV rfl Tryz.underlying28 (congrArg Option.isSome KL)) rfl (Nat.zero_le _) ?_;clear hF S;intro a g102 u hF S
  refine ao (v:=.slice A0 x0.length c0) rfl rfl hF rfl (aw rfl (hF.ev rfl)) ?_;clear hF;intro a hF
  have hk105:=hk
  refine sO (lx:=[]) (ly:=x0) rfl rfl hF rfl S rfl (hF.ev rfl) (hF.ev rfl) (i:=0) rfl rfl Tryz.underlying28 Uh rfl (by decide) (S.rc0 h0.rc).rd rfl Gh hk105 (by decide) ?_;clear hF S;intro a B103 d104 u hF S
  refine ao (v:=.slice B103 ((([]:List (Int×Int))++x0).length) d104) rfl rfl hF rfl (aA rfl (hF.ev rfl)) ?_;clear hF;intro a hF
  refine wpList_nil ?_
  refine wp_ret ?_
  repeat with_reducible (first |refine dV ?_ |refine mt ?_ |refine mr ?_)
  refine iA (.inl rfl) hF rfl (gI (hF.ev rfl)) ?_
  exact ⟨B103,((([]:List (Int×Int))++x0).length),d104,rfl,rfl,S.sel [0] rfl rfl⟩
 ·have hx:=yK h0.rc.rd rfl hc101
  refine xG hF rfl hc101 ?_
  refine wp_seq ?_
  refine wp_region_lit ?_
  refine ao (v:=.slice none 0 0) rfl rfl hF rfl (aA rfl rfl) ?_;clear hF;intro a hF
  refine wpList_nil ?_
  refine wp_ret ?_
  repeat with_reducible (first |refine dV ?_ |refine mt ?_ |refine mr ?_)
  refine iA (.inl rfl) hF rfl (gI (hF.ev rfl)) ?_
  subst hx
  replace S:=S.nilrow 125 2
  exact ⟨none,0,0,rfl,rfl,S.sel [0] rfl rfl⟩
def cO:Ctr:=⟨168,[Bp],[.o BC],false,fun x=>aJ x⟩
theorem kZ:aN Tryz.prog cO:=⟨abE,fun x res hm e w0 w X _ hp hS=>by
 obtain ⟨v,vr,hv,⟨l,hl,hro⟩,_⟩:=hp
 have hl:=(List.head_eq_of_cons_eq hv).trans hl
 injection hl with _ hl
 subst hl
 refine (kY (A0:=e.a 0) (n0:=List.length x) (c0:=e.c 0) (w:=w) ⟨hro w _ hS (fun y hy=>List.mem_append_right _ hy),rfl⟩ hm).mono ?_
 rintro en w' ⟨B,N,D,rfl,hN,S⟩
 subst hN
 exact ⟨[_],[_],rfl,⟨[_],[],[],[_],[],[],rfl,rfl,⟨_,[],_,[],[_],[],rfl,rfl,rfl,⟨res,B,D,rfl,rfl,rfl⟩,rfl,rfl,rfl⟩,⟨rfl,rfl⟩,⟨[],[],[],[],rfl,rfl,⟨rfl,rfl⟩,⟨rfl,rfl⟩⟩⟩,hS.call1 S⟩⟩
def nY:Ctr:=⟨107,[AE],[Ck],false,fun x=>fH x.1 x.2.1 x.2.2⟩
theorem ta:aN Tryz.prog nY:=ck [gL,cO] [.cell 2 30] Al ⟨mz,kZ,trivial⟩ aaK Tryz.func107 Tryz.ntmps107 rfl rfl rfl fun _=>by kernel_rfl
set_option maxHeartbeats 4000000 in
theorem wh {x0:List Int} {A0:Option Addr} {n0 c0:Nat} {w:World} {r:List Int} (h0:Rt w 1 eI A0 n0 c0 x0) (hM:cb x0=some r):
 Calls Tryz.prog 108 #[.slice A0 n0 c0] w (fun e w'=> ∃(B0:Option Addr) (N0 D0:Nat),e= .returned (.slice B0 N0 D0)∧N0=r.length∧St w w' [.row 3 1 (.slice B0 N0 D0) N0 (r.flatMap eI)]):=by
 obtain rfl:=h0.len
 unfold cb at hM
 obtain ⟨hk,hM⟩:=cD hM
 replace hk:=DG hk
 obtain rfl:=Option.some.inj hM
 refine pY Tryz.func108 Tryz.ntmps108 rfl [(0,.slice A0 x0.length c0)] ⟨rfl,trivial⟩ rfl ?_
 intro a hF
 have S:=St.nil w
 refine wp_seq ?_
 refine wp_region_lit ?_
 refine ao (v:=.slice none 0 0) rfl rfl hF rfl (aA rfl rfl) ?_;clear hF;intro a hF
 refine wpList_nil ?_
 refine wp_seq ?_
 refine wp_seq ?_
 refine wp_region_lit ?_
 refine ao (v:=.slice A0 x0.length c0) rfl rfl hF rfl (aw rfl (hF.ev rfl)) ?_;clear hF;intro a hF
 refine ao (v:=.bool (Option.isNone A0)) rfl rfl hF rfl (py rfl Tryz.underlying31 (hF.ev rfl) rfl) ?_;clear hF;intro a hF
 refine wpList_nil ?_
 cases hc101:(Option.isNone A0)
 ·have hx:=trivial
  refine xF hF rfl hc101 ?_
  refine wp_skip ?_
  refine wp_seq ?_
  refine wp_region_lit ?_
  refine vV (cs:= #[]) (size:=1) rfl rfl hF rfl S (jV rfl Tryz.underlying31 (congrArg Option.isSome sz3)) rfl (Nat.zero_le _) ?_;clear hF S;intro a g102 u hF S
  refine ao (v:=.slice A0 x0.length c0) rfl rfl hF rfl (aw rfl (hF.ev rfl)) ?_;clear hF;intro a hF
  have hk105:=hk
  refine sO (lx:=[]) (ly:=x0) rfl rfl hF rfl S rfl (hF.ev rfl) (hF.ev rfl) (i:=0) rfl rfl Tryz.underlying31 acZ rfl (by decide) (S.rc0 h0.rc).rd rfl Tv hk105 (by decide) ?_;clear hF S;intro a B103 d104 u hF S
  refine ao (v:=.slice B103 ((([]:List Int)++x0).length) d104) rfl rfl hF rfl (aA rfl (hF.ev rfl)) ?_;clear hF;intro a hF
  refine wpList_nil ?_
  refine wp_ret ?_
  repeat with_reducible (first |refine dV ?_ |refine mt ?_ |refine mr ?_)
  refine iA (.inl rfl) hF rfl (gI (hF.ev rfl)) ?_
  exact ⟨B103,((([]:List Int)++x0).length),d104,rfl,rfl,S.sel [0] rfl rfl⟩
 ·have hx:=yK h0.rc.rd rfl hc101
  refine xG hF rfl hc101 ?_
  refine wp_seq ?_
  refine wp_region_lit ?_
  refine ao (v:=.slice none 0 0) rfl rfl hF rfl (aA rfl rfl) ?_;clear hF;intro a hF
  refine wpList_nil ?_
  refine wp_ret ?_
  repeat with_reducible (first |refine dV ?_ |refine mt ?_ |refine mr ?_)
  refine iA (.inl rfl) hF rfl (gI (hF.ev rfl)) ?_
  subst hx
  replace S:=S.nilrow 3 1
  exact ⟨none,0,0,rfl,rfl,S.sel [0] rfl rfl⟩
def oc:Ctr:=⟨108,[BN],CO,false,fun x=>cb x⟩
theorem wj:aN Tryz.prog oc:=⟨aaL,fun x res hm e w0 w X _ hp hS=>by
 obtain ⟨v,vr,hv,⟨l,hl,hro⟩,_⟩:=hp
 have hl:=(List.head_eq_of_cons_eq hv).trans hl
 injection hl with _ hl
 subst hl
 refine (wh (A0:=e.a 0) (n0:=List.length x) (c0:=e.c 0) (w:=w) ⟨hro w _ hS (fun y hy=>List.mem_append_right _ hy),rfl⟩ hm).mono ?_
 rintro en w' ⟨B,N,D,rfl,hN,S⟩
 subst hN
 exact ⟨[_],[_],rfl,⟨[_],[],[],[_],[],[],rfl,rfl,⟨_,[],_,[],[_],[],rfl,rfl,rfl,⟨res,B,D,rfl,rfl,rfl⟩,rfl,rfl,rfl⟩,⟨rfl,rfl⟩,⟨[],[],[],[],rfl,rfl,⟨rfl,rfl⟩,⟨rfl,rfl⟩⟩⟩,hS.call1 S⟩⟩
def iX:Ctr:=⟨43,[Ad],[Ak],false,fun x=>bR x.1 x.2.1 x.2.2.1 x.2.2.2.1 x.2.2.2.2.1 x.2.2.2.2.2.1 x.2.2.2.2.2.2⟩
theorem nm:aN Tryz.prog iX:=ck [ey,fq,nY,oc] [.cell 2 33] Al ⟨nn,nN,ta,wj,trivial⟩ ad2 Tryz.func43 Tryz.ntmps43 rfl rfl rfl fun _=>by kernel_rfl
def wS:Ctr:=⟨232,[AA],BF,false,fun x=>mL x⟩
theorem Gp:aN Tryz.prog wS:=ck [] [.tmp 2] Al trivial acl Tryz.func232 Tryz.ntmps232 rfl rfl rfl fun _=>by kernel_rfl
def xZ:Ctr:=⟨212,[AA,AA],BF,false,fun x=>oy x.1 x.2⟩
theorem Hy:aN Tryz.prog xZ:=ck [wS] [.tmp 4] Al ⟨Gp,trivial⟩ acd Tryz.func212 Tryz.ntmps212 rfl rfl rfl fun _=>by kernel_rfl
def sD:Ctr:=⟨213,[AA],BF,false,fun x=>jt x⟩
theorem Dj:aN Tryz.prog sD:=ck [] [.tmp 2] Al trivial ace Tryz.func213 Tryz.ntmps213 rfl rfl rfl fun _=>by kernel_rfl
def iT:Ctr:=⟨180,[BN,AA],[AQ,AG],false,fun x=>bM x.1 x.2⟩
theorem pZ:aN Tryz.prog iT:=ck [xZ,sD] [.tmp 4,.tmp 5] (.q .z (.q .z (.q .z (.q (.cut ⟨[AY,Az,Av,Bq,AC,BW],[],[]⟩ [] (.b (.lp CX (.q Al (.b (.q .z (.q .z (.cut CX [] Ab)))))))) Ab)))) ⟨Hy,Dj,trivial⟩ abN Tryz.func180 Tryz.ntmps180 rfl rfl rfl fun _=>by kernel_rfl
set_option maxHeartbeats 4000000 in
theorem uI {x0:List Int} {x1:Int} {x2:Int} {A0:Option Addr} {n0 c0:Nat} {w:World} {r:List Int} {w0:World} {X:List Asn} (h0:n0=x0.length) (S:St w0 w (Asn.row 3 1 (.slice A0 n0 c0) n0 (x0.flatMap eI)::X)) (hM:bV x0 x1 x2=some r):
 Calls Tryz.prog 182 #[.slice A0 n0 c0,.int .i64 x1,.int .i64 x2] w (fun e w'=> ∃(B0:Option Addr) (N0 D0:Nat),e= .returned (.slice B0 N0 D0)∧N0=r.length∧St w0 w' (Asn.row 3 1 (.slice B0 N0 D0) N0 (r.flatMap eI)::X)):=by
 obtain rfl:=h0
 unfold bV at hM
 refine pY Tryz.func182 Tryz.ntmps182 rfl [(0,.slice A0 x0.length c0),(1,.int .i64 x1),(2,.int .i64 x2)] ⟨rfl,rfl,rfl,trivial⟩ rfl ?_
 intro a hF
 refine wp_seq ?_
 refine wp_region_lit ?_
 refine ao (v:=.slice none 0 0) rfl rfl hF rfl (aA rfl rfl) ?_;clear hF;intro a hF
 refine wpList_nil ?_
 refine wp_seq ?_
 refine wp_region_lit ?_
 refine ao (v:=.slice A0 x0.length c0) rfl rfl hF rfl (aw rfl (hF.ev rfl)) ?_;clear hF;intro a hF
 refine ao (v:=.int .i64 x1) rfl rfl hF rfl (aw rfl (hF.ev rfl)) ?_;clear hF;intro a hF
 refine ao (v:=.int .i64 x2) rfl rfl hF rfl (aw rfl (hF.ev rfl)) ?_;clear hF;intro a hF
 refine ao (v:=.slice A0 x0.length c0) rfl rfl hF rfl (aw rfl (hF.ev rfl)) ?_;clear hF;intro a hF
 refine ao (v:=.int .i64 (x0.length:Int)) rfl rfl hF rfl (lE rfl rfl Tryz.underlying31 (hF.ev rfl)) ?_;clear hF;intro a hF
 obtain ⟨hk101,hM⟩:=cD hM
 replace hk101:=qv hk101
 refine ao (v:=.slice (bG ((x0.length:Int).toNat) x1.toNat 1 A0) (x2.toNat-x1.toNat) ((x0.length:Int).toNat-x1.toNat)) rfl rfl hF rfl (IS rfl Tryz.underlying31 sz3 (hF.ev rfl) (hF.ev rfl) (hF.ev rfl) (hF.ev rfl) hk101 (Int.ofNat_le.2 (S.rc 0 rfl).cap)) ?_;clear hF;intro a hF
 refine wpList_nil ?_
 refine wp_seq ?_
 refine wp_seq ?_
 refine wp_region_lit ?_
 refine ao (v:=.int .i64 x1) rfl rfl hF rfl (aw rfl (hF.ev rfl)) ?_;clear hF;intro a hF
 refine ao (v:=.int .i64 x2) rfl rfl hF rfl (aw rfl (hF.ev rfl)) ?_;clear hF;intro a hF
 refine ao (v:=.bool (x1==x2)) rfl rfl hF rfl (Ma (hF.ev rfl) (hF.ev rfl) rfl) ?_;clear hF;intro a hF
 refine wpList_nil ?_
 cases hc102:(x1==x2)
 ·replace hM:=XT hc102 hM
  refine xF hF rfl hc102 ?_
  refine wp_skip ?_
  refine wp_seq ?_
  refine wp_region_lit ?_
  refine ao (v:=.slice A0 x0.length c0) rfl rfl hF rfl (aw rfl (hF.ev rfl)) ?_;clear hF;intro a hF
  refine ao (v:=.int .i64 (x0.length:Int)) rfl rfl hF rfl (lE rfl rfl Tryz.underlying31 (hF.ev rfl)) ?_;clear hF;intro a hF
  refine ao (v:=.int .i64 (x0.length:Int)) rfl rfl hF rfl (aA rfl (hF.ev rfl)) ?_;clear hF;intro a hF
  refine wpList_nil ?_
  refine wp_seq ?_
  obtain ⟨hk103,hM⟩:=cD hM
  replace hk103:=qv hk103
  obtain ⟨hk104,hM⟩:=cD hM
  replace hk104:=qv hk104
  obtain ⟨hk105,hM⟩:=cD hM
  replace hk105:=DG hk105
  have hp106:=(S.rc 0 rfl).cap
  have hq107:=Ql (l:=x0) (p:=x1) (q:=x2) rfl (by omega)
  refine KD (D:=[20,21,22,23,24,25,26,0]) (Lr:=(X)) (deps:=(fun |0=> [20] |1=> [21] |2=> [22] |3=> [23] |4=> [24] |5=> [25] |6=> [26] |7=> [0] |_=> [])) (rd:=(fun _=> [])) (zr:=(fun |2=> [6] |5=> [6] |_=> []))
   (φ:=fun i vs=>match i,vs with |0,[v20]=>v20= .slice A0 x0.length c0 |1,[v21]=>v21= .int .i64 x1 |2,[v22]=>v22= .slice (bG c0 ((0:Int).toNat) 1 A0) ((ah x0 0 x1).length) (c0-(0:Int).toNat) |3,[v23]=>v23= .slice A0 x0.length c0 |4,[v24]=>v24= .int .i64 x2 |5,[v25]=>v25= .slice (bG c0 x2.toNat 1 A0) ((ah x0 x2 (x0.length:Int)).length) (c0-x2.toNat) |6,[v26]=>v26= .slice A0 (((ah x0 0 x1)++(ah x0 x2 (x0.length:Int))).length) c0 |7,[v0]=>v0= .slice A0 (((ah x0 0 x1)++(ah x0 x2 (x0.length:Int))).length) c0 |_,_=>True)
   (C:=fun i vs=>match i,vs with |6,[v26]=> [.row 3 1 (.slice A0 (((ah x0 0 x1)++(ah x0 x2 (x0.length:Int))).length) c0) (((ah x0 0 x1)++(ah x0 x2 (x0.length:Int))).length) (((ah x0 0 x1)++(ah x0 x2 (x0.length:Int))).flatMap eI)] |_,_=> [])
   (κ:=(fun _=>none)) (Z:=(fun |6=> [.row 3 1 (.slice A0 x0.length c0) x0.length (x0.flatMap eI)] |_=> [])) mixed hF (by kernel_rfl) (show St w0 _ (Asn.row 3 1 (.slice A0 x0.length c0) x0.length (x0.flatMap eI)::X) from S.selT (M:=[.row 3 1 (.slice A0 x0.length c0) x0.length (x0.flatMap eI)]) 1 [0] rfl rfl rfl) ?_ ?_
  ·refine ⟨?_,?_,?_,?_,?_,?_,?_,?_,trivial⟩
   ·intro a u X' hB hu hp hr hz hl S
    replace S:St w0 u ([]++X'):=S
    exact .inl ⟨rfl,.slice A0 x0.length c0,u,(aw rfl (hF.evU (hu 7 0 rfl rfl) rfl)),rfl,S⟩
   ·intro a u X' hB hu hp hr hz hl S
    replace S:St w0 u ([]++X'):=S
    exact .inl ⟨rfl,.int .i64 x1,u,(aw rfl (hF.evB hB rfl rfl)),rfl,S⟩
   ·intro a u X' hB hu hp hr hz hl S
    replace S:St w0 u ([]++X'):=S
    have e20:sl a 20= .slice A0 x0.length c0:=hp 0 rfl
    have e21:sl a 21= .int .i64 x1:=hp 1 rfl
    exact .inl ⟨rfl,.slice (bG c0 ((0:Int).toNat) 1 A0) ((ah x0 0 x1).length) (c0-(0:Int).toNat),u,(wE (l:=x0) rfl Tryz.underlying31 sz3 (jN e20) (jN e21) hk103 rfl (Dt (show Ow _ _ _ _ _ _ from S.mem (List.mem_append_right _ (hz 6 (List.mem_of_getElem? (i:=0) rfl) _ (List.mem_of_getElem? (i:=0) rfl))))).cap),rfl,S⟩
   ·intro a u X' hB hu hp hr hz hl S
    replace S:St w0 u ([]++X'):=S
    exact .inl ⟨rfl,.slice A0 x0.length c0,u,(aw rfl (hF.evU (hu 7 0 rfl rfl) rfl)),rfl,S⟩
   ·intro a u X' hB hu hp hr hz hl S
    replace S:St w0 u ([]++X'):=S
    exact .inl ⟨rfl,.int .i64 x2,u,(aw rfl (hF.evB hB rfl rfl)),rfl,S⟩
   ·intro a u X' hB hu hp hr hz hl S
    replace S:St w0 u ([]++X'):=S
    have e23:sl a 23= .slice A0 x0.length c0:=hp 3 rfl
    have e24:sl a 24= .int .i64 x2:=hp 4 rfl
    exact .inl ⟨rfl,.slice (bG c0 x2.toNat 1 A0) ((ah x0 x2 (x0.length:Int)).length) (c0-x2.toNat),u,(uB (l:=x0) rfl Tryz.underlying31 sz3 (jN e23) (jN e24) hk104 rfl (Dt (show Ow _ _ _ _ _ _ from S.mem (List.mem_append_right _ (hz 6 (List.mem_of_getElem? (i:=0) rfl) _ (List.mem_of_getElem? (i:=0) rfl))))).cap),rfl,S⟩
   ·intro a u X' hB hu hp hr hz hl S
    replace S:St w0 u ([.row 3 1 (.slice A0 x0.length c0) x0.length (x0.flatMap eI)]++X'):=S
    have e22:sl a 22= .slice (bG c0 ((0:Int).toNat) 1 A0) ((ah x0 0 x1).length) (c0-(0:Int).toNat):=hp 2 rfl
    have e25:sl a 25= .slice (bG c0 x2.toNat 1 A0) ((ah x0 x2 (x0.length:Int)).length) (c0-x2.toNat):=hp 5 rfl
    obtain ⟨w',hrun,S'⟩:=S.delrow (i:=0) (P:=Tryz.prog) (ty:=31) (p:=x1) (q:=x2) rfl rfl OR Tv Tryz.underlying31 sz3 (by omega) (by omega) (by omega)
    exact .inl ⟨rfl,_,w',wD rfl (jN e22) (jN e25) hrun,rfl,S'⟩
   ·intro a u X' hB hu hp hr hz hl S
    replace S:St w0 u ([]++X'):=S
    have e26:sl a 26= .slice A0 (((ah x0 0 x1)++(ah x0 x2 (x0.length:Int))).length) c0:=hp 6 rfl
    exact .inl ⟨rfl,.slice A0 (((ah x0 0 x1)++(ah x0 x2 (x0.length:Int))).length) c0,u,(aA rfl (jN e26)),rfl,S⟩
  ·intro a u hB hp S
   obtain ⟨q0,q1,q2,q3,q4,q5,q6,q7,_⟩:=hp
   have e20:sl a 20= .slice A0 x0.length c0:=q0
   have e21:sl a 21= .int .i64 x1:=q1
   have e22:sl a 22= .slice (bG c0 ((0:Int).toNat) 1 A0) ((ah x0 0 x1).length) (c0-(0:Int).toNat):=q2
   have e23:sl a 23= .slice A0 x0.length c0:=q3
   have e24:sl a 24= .int .i64 x2:=q4
   have e25:sl a 25= .slice (bG c0 x2.toNat 1 A0) ((ah x0 x2 (x0.length:Int)).length) (c0-x2.toNat):=q5
   have e26:sl a 26= .slice A0 (((ah x0 0 x1)++(ah x0 x2 (x0.length:Int))).length) c0:=q6
   have e0:sl a 0= .slice A0 (((ah x0 0 x1)++(ah x0 x2 (x0.length:Int))).length) c0:=q7
   replace S:St w0 u (Asn.row 3 1 (.slice A0 (((ah x0 0 x1)++(ah x0 x2 (x0.length:Int))).length) c0) (((ah x0 0 x1)++(ah x0 x2 (x0.length:Int))).length) (((ah x0 0 x1)++(ah x0 x2 (x0.length:Int))).flatMap eI)::X):=S
   clear q0 q1 q2 q3 q4 q5 q6 q7
   have hF:=hF.region hB [(20,.slice A0 x0.length c0),(21,.int .i64 x1),(22,.slice (bG c0 ((0:Int).toNat) 1 A0) ((ah x0 0 x1).length) (c0-(0:Int).toNat)),(23,.slice A0 x0.length c0),(24,.int .i64 x2),(25,.slice (bG c0 x2.toNat 1 A0) ((ah x0 x2 (x0.length:Int)).length) (c0-x2.toNat)),(26,.slice A0 (((ah x0 0 x1)++(ah x0 x2 (x0.length:Int))).length) c0),(0,.slice A0 (((ah x0 0 x1)++(ah x0 x2 (x0.length:Int))).length) c0)] (Fb ⟨e20,e21,e22,e23,e24,e25,e26,e0,trivial⟩) rfl
   clear hB e20 e21 e22 e23 e24 e25 e26 e0
   refine wp_seq ?_
   refine wp_region_lit ?_
   refine ao (v:=.slice A0 (((ah x0 0 x1)++(ah x0 x2 (x0.length:Int))).length) c0) rfl rfl hF rfl (aw rfl (hF.ev rfl)) ?_;clear hF;intro a hF
   refine ao (v:=.slice A0 (((ah x0 0 x1)++(ah x0 x2 (x0.length:Int))).length) c0) rfl rfl hF rfl (aw rfl (hF.ev rfl)) ?_;clear hF;intro a hF
   refine ao (v:=.int .i64 ((((ah x0 0 x1)++(ah x0 x2 (x0.length:Int))).length):Int)) rfl rfl hF rfl (lE rfl rfl Tryz.underlying31 (hF.ev rfl)) ?_;clear hF;intro a hF
   refine ao (v:=.int .i64 (x0.length:Int)) rfl rfl hF rfl (aw rfl (hF.ev rfl)) ?_;clear hF;intro a hF
   refine ao (v:=.slice (bG c0 (((((ah x0 0 x1)++(ah x0 x2 (x0.length:Int))).length):Int).toNat) 1 A0) ((x0.length:Int).toNat-((((ah x0 0 x1)++(ah x0 x2 (x0.length:Int))).length):Int).toNat) (c0-((((ah x0 0 x1)++(ah x0 x2 (x0.length:Int))).length):Int).toNat)) rfl rfl hF rfl (ET rfl Tryz.underlying31 sz3 (hF.ev rfl) (hF.ev rfl) (hF.ev rfl) ⟨Int.natCast_nonneg _,Int.ofNat_le.2 hq107,Int.ofNat_le.2 hp106⟩) ?_;clear hF;intro a hF
   obtain ⟨w',hrun,S'⟩:=S.clear (i:=0) (P:=Tryz.prog) (hi:=(x0.length:Int)) rfl rfl OR Tryz.underlying31 acZ rfl rfl ⟨Int.ofNat_le.2 hq107,Int.ofNat_le.2 hp106⟩
   refine Gm rfl rfl rfl (hF.ev rfl) hrun ?_
   clear S hrun;have S:=S';clear S';generalize w'=u at S ⊢
   refine wpList_nil ?_
   refine wp_seq ?_
   refine wp_region_lit ?_
   refine ao (v:=.slice A0 (((ah x0 0 x1)++(ah x0 x2 (x0.length:Int))).length) c0) rfl rfl hF rfl (aw rfl (hF.ev rfl)) ?_;clear hF;intro a hF
   refine ao (v:=.slice A0 (((ah x0 0 x1)++(ah x0 x2 (x0.length:Int))).length) c0) rfl rfl hF rfl (aA rfl (hF.ev rfl)) ?_;clear hF;intro a hF
   refine wpList_nil ?_
   refine wp_ret ?_
   repeat with_reducible (first |refine dV ?_ |refine mt ?_ |refine mr ?_)
   refine iA (.inl rfl) hF rfl (gI (hF.ev rfl)) ?_
   obtain rfl:=Option.some.inj hM
   exact ⟨A0,(((ah x0 0 x1)++(ah x0 x2 (x0.length:Int))).length),c0,rfl,rfl,S.selT (M:=[.row 3 1 (.slice A0 (((ah x0 0 x1)++(ah x0 x2 (x0.length:Int))).length) c0) (((ah x0 0 x1)++(ah x0 x2 (x0.length:Int))).length) (((ah x0 0 x1)++(ah x0 x2 (x0.length:Int))).flatMap eI)]) 1 [0] rfl rfl rfl⟩
 ·replace hM:=XU hc102 hM
  refine xG hF rfl hc102 ?_
  refine wp_seq ?_
  refine wp_region_lit ?_
  refine ao (v:=.slice A0 x0.length c0) rfl rfl hF rfl (aw rfl (hF.ev rfl)) ?_;clear hF;intro a hF
  refine ao (v:=.slice A0 x0.length c0) rfl rfl hF rfl (aA rfl (hF.ev rfl)) ?_;clear hF;intro a hF
  refine wpList_nil ?_
  refine wp_ret ?_
  repeat with_reducible (first |refine dV ?_ |refine mt ?_ |refine mr ?_)
  refine iA (.inl rfl) hF rfl (gI (hF.ev rfl)) ?_
  obtain rfl:=Option.some.inj hM
  exact ⟨A0,x0.length,c0,rfl,rfl,S.selT (M:=[.row 3 1 (.slice A0 x0.length c0) x0.length (x0.flatMap eI)]) 1 [0] rfl rfl rfl⟩
def nC:Ctr:=⟨182,[CL,AA,AA],CO,true,fun x=>bV x.1 x.2.1 x.2.2⟩
theorem uL:aN Tryz.prog nC:=⟨abP,fun x res hm e w0 w X _ hp hS=>(uI (w:=w) (w0:=w0) (X:=X) (A0:=e.a 0) (n0:=x.1.length) (c0:=e.c 0) rfl hS hm).mono (by
 rintro en w' ⟨B,N,D,rfl,hN,S⟩
 subst hN
 exact ⟨_,_,rfl,⟨[_],[],[],[_],[],[],rfl,rfl,⟨_,[],_,[],[_],[],rfl,rfl,rfl,⟨res,B,D,rfl,rfl,rfl⟩,rfl,rfl,rfl⟩,⟨rfl,rfl⟩,⟨[],[],[],[],rfl,rfl,⟨rfl,rfl⟩,⟨[],[],[],[],rfl,rfl,⟨rfl,rfl⟩,⟨[],[],[],[],rfl,rfl,⟨rfl,rfl⟩,⟨rfl,rfl⟩⟩⟩⟩⟩,S⟩)⟩
set_option maxHeartbeats 4000000 in
theorem uJ {x0:List Int} {x1:Int} {x2:List Int} {A0:Option Addr} {n0 c0:Nat} {A2:Option Addr} {n2 c2:Nat} {w:World} {r:List Int} {w0:World} {X:List Asn} (h0:n0=x0.length) (h2:n2=x2.length) (S:St w0 w (Asn.row 3 1 (.slice A0 n0 c0) n0 (x0.flatMap eI)::Asn.row 3 1 (.slice A2 n2 c2) n2 (x2.flatMap eI)::X)) (hM:bW x0 x1 x2=some r):
 Calls Tryz.prog 181 #[.slice A0 n0 c0,.int .i64 x1,.slice A2 n2 c2] w (fun e w'=> ∃(B0:Option Addr) (N0 D0:Nat),e= .returned (.slice B0 N0 D0)∧N0=r.length∧St w0 w' (Asn.row 3 1 (.slice B0 N0 D0) N0 (r.flatMap eI)::X)):=by
 obtain rfl:=h0
 obtain rfl:=h2
 unfold bW at hM
 obtain ⟨hk1,hM⟩:=cD hM
 obtain ⟨hk2,hM⟩:=cD hM
 obtain ⟨hk3,hM⟩:=cD hM
 obtain rfl:=Option.some.inj hM
 replace hk1:=qv hk1
 replace hk2:=DG hk2
 obtain ⟨y,rfl⟩: ∃y,x2=[y]:=List.length_eq_one_iff.1 (by have:=eq_of_beq hk3;omega)
 refine (RP S (k:=0) (m:=1) rfl rfl rfl (by decide) ⟨hk1.2.1,hk1.2.2⟩ hk2).mono ?_
 rintro e w' ⟨B,D,rfl,T⟩
 exact ⟨B,_,D,rfl,WQ hk1.2.1 hk1.2.2,T.sub (.cons_cons _ (.cons _ (List.Sublist.refl _)))⟩
def nD:Ctr:=⟨181,[CL,AA,CL],CO,true,fun x=>bW x.1 x.2.1 x.2.2⟩
theorem uM:aN Tryz.prog nD:=⟨abO,fun x res hm e w0 w X _ hp hS=>(uJ (w:=w) (w0:=w0) (X:=X) (A0:=e.a 0) (n0:=x.1.length) (c0:=e.c 0) (A2:=e.a 2) (n2:=x.2.2.length) (c2:=e.c 2) rfl rfl hS hm).mono (by
 rintro en w' ⟨B,N,D,rfl,hN,S⟩
 subst hN
 exact ⟨_,_,rfl,⟨[_],[],[],[_],[],[],rfl,rfl,⟨_,[],_,[],[_],[],rfl,rfl,rfl,⟨res,B,D,rfl,rfl,rfl⟩,rfl,rfl,rfl⟩,⟨rfl,rfl⟩,⟨[],[],[],[],rfl,rfl,⟨rfl,rfl⟩,⟨[],[],[],[],rfl,rfl,⟨rfl,rfl⟩,⟨[],[],[],[],rfl,rfl,⟨rfl,rfl⟩,⟨rfl,rfl⟩⟩⟩⟩⟩,S⟩)⟩
def wU:Ctr:=⟨234,[AE,AA],CO,false,fun x=>mN x.1 x.2.1 x.2.2.1 x.2.2.2⟩
theorem Gs:aN Tryz.prog wU:=ck [lJ] [.tmp 4] (.q .z (.q Ae (.q .z (.q (.q .z (.cut BK [] (.b (.lp ⟨[Az,Av,CW,BP,BZ,(14,Ag)],[],[]⟩ (.q .z (.q Ab (.q (.b (.q .z (.q .z (.cut ⟨[Az,Av,CW,BP,BZ,(14,Ac)],[],[]⟩ [] Ab)))) .z))))))) Ab)))) ⟨pj,trivial⟩ acm Tryz.func234 Tryz.ntmps234 rfl rfl rfl fun _=>by kernel_rfl
def wV:Ctr:=⟨216,[AE,Bg],BF,false,fun x=>mO x.1 x.2.1 x.2.2.1 x.2.2.2.1 x.2.2.2.2.1 x.2.2.2.2.2⟩
theorem Gu:aN Tryz.prog wV:=ck [aR,wU] [.tmp 4] (.q .z (.q .z (.q .z (.q (.q .z (.b (.q (.q .z (.cut ⟨[Au,AX,Av,Bq,AC,BH,(29,Ac),(30,Co)],[(3,AS),(2,AS)],[]⟩ [] Ab)) Bv))) Ab)))) ⟨bm,Gs,trivial⟩ acf Tryz.func216 Tryz.ntmps216 rfl rfl rfl fun _=>by kernel_rfl
set_option maxHeartbeats 4000000 in
theorem kT {x0:List (Int×Int)} {x1:Int} {x2:Int} {A0:Option Addr} {n0 c0:Nat} {w:World} {r:List (Int×Int)} {w0:World} {X:List Asn} (h0:n0=x0.length) (S:St w0 w (Asn.row 125 2 (.slice A0 n0 c0) n0 (x0.flatMap iW)::X)) (hM:aH x0 x1 x2=some r):
 Calls Tryz.prog 217 #[.slice A0 n0 c0,.int .i64 x1,.int .i64 x2] w (fun e w'=> ∃(B0:Option Addr) (N0 D0:Nat),e= .returned (.slice B0 N0 D0)∧N0=r.length∧St w0 w' (Asn.row 125 2 (.slice B0 N0 D0) N0 (r.flatMap iW)::X)):=by
 obtain rfl:=h0
 unfold aH at hM
 refine pY Tryz.func217 Tryz.ntmps217 rfl [(0,.slice A0 x0.length c0),(1,.int .i64 x1),(2,.int .i64 x2)] ⟨rfl,rfl,rfl,trivial⟩ rfl ?_
 intro a hF
 refine wp_seq ?_
 refine wp_region_lit ?_
 refine ao (v:=.slice none 0 0) rfl rfl hF rfl (aA rfl rfl) ?_;clear hF;intro a hF
 refine wpList_nil ?_
 refine wp_seq ?_
 refine wp_region_lit ?_
 refine ao (v:=.slice A0 x0.length c0) rfl rfl hF rfl (aw rfl (hF.ev rfl)) ?_;clear hF;intro a hF
 refine ao (v:=.int .i64 x1) rfl rfl hF rfl (aw rfl (hF.ev rfl)) ?_;clear hF;intro a hF
 refine ao (v:=.int .i64 x2) rfl rfl hF rfl (aw rfl (hF.ev rfl)) ?_;clear hF;intro a hF
 refine ao (v:=.slice A0 x0.length c0) rfl rfl hF rfl (aw rfl (hF.ev rfl)) ?_;clear hF;intro a hF
 refine ao (v:=.int .i64 (x0.length:Int)) rfl rfl hF rfl (lE rfl rfl Tryz.underlying28 (hF.ev rfl)) ?_;clear hF;intro a hF
 obtain ⟨hk101,hM⟩:=cD hM
 replace hk101:=qv hk101
 refine ao (v:=.slice (bG ((x0.length:Int).toNat) x1.toNat 2 A0) (x2.toNat-x1.toNat) ((x0.length:Int).toNat-x1.toNat)) rfl rfl hF rfl (IS rfl Tryz.underlying28 KL (hF.ev rfl) (hF.ev rfl) (hF.ev rfl) (hF.ev rfl) hk101 (Int.ofNat_le.2 (S.rc 0 rfl).cap)) ?_;clear hF;intro a hF
 refine wpList_nil ?_
 refine wp_seq ?_
 refine wp_seq ?_
 refine wp_region_lit ?_
 refine ao (v:=.int .i64 x1) rfl rfl hF rfl (aw rfl (hF.ev rfl)) ?_;clear hF;intro a hF
 refine ao (v:=.int .i64 x2) rfl rfl hF rfl (aw rfl (hF.ev rfl)) ?_;clear hF;intro a hF
 refine ao (v:=.bool (x1==x2)) rfl rfl hF rfl (Ma (hF.ev rfl) (hF.ev rfl) rfl) ?_;clear hF;intro a hF
 refine wpList_nil ?_
 cases hc102:(x1==x2)
 ·replace hM:=XT hc102 hM
  refine xF hF rfl hc102 ?_
  refine wp_skip ?_
  refine wp_seq ?_
  refine wp_region_lit ?_
  refine ao (v:=.slice A0 x0.length c0) rfl rfl hF rfl (aw rfl (hF.ev rfl)) ?_;clear hF;intro a hF
  refine ao (v:=.int .i64 (x0.length:Int)) rfl rfl hF rfl (lE rfl rfl Tryz.underlying28 (hF.ev rfl)) ?_;clear hF;intro a hF
  refine ao (v:=.int .i64 (x0.length:Int)) rfl rfl hF rfl (aA rfl (hF.ev rfl)) ?_;clear hF;intro a hF
  refine wpList_nil ?_
  refine wp_seq ?_
  obtain ⟨hk103,hM⟩:=cD hM
  replace hk103:=qv hk103
  obtain ⟨hk104,hM⟩:=cD hM
  replace hk104:=qv hk104
  obtain ⟨hk105,hM⟩:=cD hM
  replace hk105:=DG hk105
  have hp106:=(S.rc 0 rfl).cap
  have hq107:=Ql (l:=x0) (p:=x1) (q:=x2) rfl (by omega)
  refine KD (D:=[20,21,22,23,24,25,26,0]) (Lr:=(X)) (deps:=(fun |0=> [20] |1=> [21] |2=> [22] |3=> [23] |4=> [24] |5=> [25] |6=> [26] |7=> [0] |_=> [])) (rd:=(fun _=> [])) (zr:=(fun |2=> [6] |5=> [6] |_=> []))
   (φ:=fun i vs=>match i,vs with |0,[v20]=>v20= .slice A0 x0.length c0 |1,[v21]=>v21= .int .i64 x1 |2,[v22]=>v22= .slice (bG c0 ((0:Int).toNat) 2 A0) ((ah x0 0 x1).length) (c0-(0:Int).toNat) |3,[v23]=>v23= .slice A0 x0.length c0 |4,[v24]=>v24= .int .i64 x2 |5,[v25]=>v25= .slice (bG c0 x2.toNat 2 A0) ((ah x0 x2 (x0.length:Int)).length) (c0-x2.toNat) |6,[v26]=>v26= .slice A0 (((ah x0 0 x1)++(ah x0 x2 (x0.length:Int))).length) c0 |7,[v0]=>v0= .slice A0 (((ah x0 0 x1)++(ah x0 x2 (x0.length:Int))).length) c0 |_,_=>True)
   (C:=fun i vs=>match i,vs with |6,[v26]=> [.row 125 2 (.slice A0 (((ah x0 0 x1)++(ah x0 x2 (x0.length:Int))).length) c0) (((ah x0 0 x1)++(ah x0 x2 (x0.length:Int))).length) (((ah x0 0 x1)++(ah x0 x2 (x0.length:Int))).flatMap iW)] |_,_=> [])
   (κ:=(fun _=>none)) (Z:=(fun |6=> [.row 125 2 (.slice A0 x0.length c0) x0.length (x0.flatMap iW)] |_=> [])) mixed hF (by kernel_rfl) (show St w0 _ (Asn.row 125 2 (.slice A0 x0.length c0) x0.length (x0.flatMap iW)::X) from S.selT (M:=[.row 125 2 (.slice A0 x0.length c0) x0.length (x0.flatMap iW)]) 1 [0] rfl rfl rfl) ?_ ?_
  ·refine ⟨?_,?_,?_,?_,?_,?_,?_,?_,trivial⟩
   ·intro a u X' hB hu hp hr hz hl S
    replace S:St w0 u ([]++X'):=S
    exact .inl ⟨rfl,.slice A0 x0.length c0,u,(aw rfl (hF.evU (hu 7 0 rfl rfl) rfl)),rfl,S⟩
   ·intro a u X' hB hu hp hr hz hl S
    replace S:St w0 u ([]++X'):=S
    exact .inl ⟨rfl,.int .i64 x1,u,(aw rfl (hF.evB hB rfl rfl)),rfl,S⟩
   ·intro a u X' hB hu hp hr hz hl S
    replace S:St w0 u ([]++X'):=S
    have e20:sl a 20= .slice A0 x0.length c0:=hp 0 rfl
    have e21:sl a 21= .int .i64 x1:=hp 1 rfl
    exact .inl ⟨rfl,.slice (bG c0 ((0:Int).toNat) 2 A0) ((ah x0 0 x1).length) (c0-(0:Int).toNat),u,(wE (l:=x0) rfl Tryz.underlying28 KL (jN e20) (jN e21) hk103 rfl (Dt (show Ow _ _ _ _ _ _ from S.mem (List.mem_append_right _ (hz 6 (List.mem_of_getElem? (i:=0) rfl) _ (List.mem_of_getElem? (i:=0) rfl))))).cap),rfl,S⟩
   ·intro a u X' hB hu hp hr hz hl S
    replace S:St w0 u ([]++X'):=S
    exact .inl ⟨rfl,.slice A0 x0.length c0,u,(aw rfl (hF.evU (hu 7 0 rfl rfl) rfl)),rfl,S⟩
   ·intro a u X' hB hu hp hr hz hl S
    replace S:St w0 u ([]++X'):=S
    exact .inl ⟨rfl,.int .i64 x2,u,(aw rfl (hF.evB hB rfl rfl)),rfl,S⟩
   ·intro a u X' hB hu hp hr hz hl S
    replace S:St w0 u ([]++X'):=S
    have e23:sl a 23= .slice A0 x0.length c0:=hp 3 rfl
    have e24:sl a 24= .int .i64 x2:=hp 4 rfl
    exact .inl ⟨rfl,.slice (bG c0 x2.toNat 2 A0) ((ah x0 x2 (x0.length:Int)).length) (c0-x2.toNat),u,(uB (l:=x0) rfl Tryz.underlying28 KL (jN e23) (jN e24) hk104 rfl (Dt (show Ow _ _ _ _ _ _ from S.mem (List.mem_append_right _ (hz 6 (List.mem_of_getElem? (i:=0) rfl) _ (List.mem_of_getElem? (i:=0) rfl))))).cap),rfl,S⟩
   ·intro a u X' hB hu hp hr hz hl S
    replace S:St w0 u ([.row 125 2 (.slice A0 x0.length c0) x0.length (x0.flatMap iW)]++X'):=S
    have e22:sl a 22= .slice (bG c0 ((0:Int).toNat) 2 A0) ((ah x0 0 x1).length) (c0-(0:Int).toNat):=hp 2 rfl
    have e25:sl a 25= .slice (bG c0 x2.toNat 2 A0) ((ah x0 x2 (x0.length:Int)).length) (c0-x2.toNat):=hp 5 rfl
    obtain ⟨w',hrun,S'⟩:=S.delrow (i:=0) (P:=Tryz.prog) (ty:=28) (p:=x1) (q:=x2) rfl rfl Gg Gh Tryz.underlying28 KL (by omega) (by omega) (by omega)
    exact .inl ⟨rfl,_,w',wD rfl (jN e22) (jN e25) hrun,rfl,S'⟩
   ·intro a u X' hB hu hp hr hz hl S
    replace S:St w0 u ([]++X'):=S
    have e26:sl a 26= .slice A0 (((ah x0 0 x1)++(ah x0 x2 (x0.length:Int))).length) c0:=hp 6 rfl
    exact .inl ⟨rfl,.slice A0 (((ah x0 0 x1)++(ah x0 x2 (x0.length:Int))).length) c0,u,(aA rfl (jN e26)),rfl,S⟩
  ·intro a u hB hp S
   obtain ⟨q0,q1,q2,q3,q4,q5,q6,q7,_⟩:=hp
   have e20:sl a 20= .slice A0 x0.length c0:=q0
   have e21:sl a 21= .int .i64 x1:=q1
   have e22:sl a 22= .slice (bG c0 ((0:Int).toNat) 2 A0) ((ah x0 0 x1).length) (c0-(0:Int).toNat):=q2
   have e23:sl a 23= .slice A0 x0.length c0:=q3
   have e24:sl a 24= .int .i64 x2:=q4
   have e25:sl a 25= .slice (bG c0 x2.toNat 2 A0) ((ah x0 x2 (x0.length:Int)).length) (c0-x2.toNat):=q5
   have e26:sl a 26= .slice A0 (((ah x0 0 x1)++(ah x0 x2 (x0.length:Int))).length) c0:=q6
   have e0:sl a 0= .slice A0 (((ah x0 0 x1)++(ah x0 x2 (x0.length:Int))).length) c0:=q7
   replace S:St w0 u (Asn.row 125 2 (.slice A0 (((ah x0 0 x1)++(ah x0 x2 (x0.length:Int))).length) c0) (((ah x0 0 x1)++(ah x0 x2 (x0.length:Int))).length) (((ah x0 0 x1)++(ah x0 x2 (x0.length:Int))).flatMap iW)::X):=S
   clear q0 q1 q2 q3 q4 q5 q6 q7
   have hF:=hF.region hB [(20,.slice A0 x0.length c0),(21,.int .i64 x1),(22,.slice (bG c0 ((0:Int).toNat) 2 A0) ((ah x0 0 x1).length) (c0-(0:Int).toNat)),(23,.slice A0 x0.length c0),(24,.int .i64 x2),(25,.slice (bG c0 x2.toNat 2 A0) ((ah x0 x2 (x0.length:Int)).length) (c0-x2.toNat)),(26,.slice A0 (((ah x0 0 x1)++(ah x0 x2 (x0.length:Int))).length) c0),(0,.slice A0 (((ah x0 0 x1)++(ah x0 x2 (x0.length:Int))).length) c0)] (Fb ⟨e20,e21,e22,e23,e24,e25,e26,e0,trivial⟩) rfl
   clear hB e20 e21 e22 e23 e24 e25 e26 e0
   refine wp_seq ?_
   refine wp_region_lit ?_
   refine ao (v:=.slice A0 (((ah x0 0 x1)++(ah x0 x2 (x0.length:Int))).length) c0) rfl rfl hF rfl (aw rfl (hF.ev rfl)) ?_;clear hF;intro a hF
   refine ao (v:=.slice A0 (((ah x0 0 x1)++(ah x0 x2 (x0.length:Int))).length) c0) rfl rfl hF rfl (aw rfl (hF.ev rfl)) ?_;clear hF;intro a hF
   refine ao (v:=.int .i64 ((((ah x0 0 x1)++(ah x0 x2 (x0.length:Int))).length):Int)) rfl rfl hF rfl (lE rfl rfl Tryz.underlying28 (hF.ev rfl)) ?_;clear hF;intro a hF
   refine ao (v:=.int .i64 (x0.length:Int)) rfl rfl hF rfl (aw rfl (hF.ev rfl)) ?_;clear hF;intro a hF
   refine ao (v:=.slice (bG c0 (((((ah x0 0 x1)++(ah x0 x2 (x0.length:Int))).length):Int).toNat) 2 A0) ((x0.length:Int).toNat-((((ah x0 0 x1)++(ah x0 x2 (x0.length:Int))).length):Int).toNat) (c0-((((ah x0 0 x1)++(ah x0 x2 (x0.length:Int))).length):Int).toNat)) rfl rfl hF rfl (ET rfl Tryz.underlying28 KL (hF.ev rfl) (hF.ev rfl) (hF.ev rfl) ⟨Int.natCast_nonneg _,Int.ofNat_le.2 hq107,Int.ofNat_le.2 hp106⟩) ?_;clear hF;intro a hF
   obtain ⟨w',hrun,S'⟩:=S.clear (i:=0) (P:=Tryz.prog) (hi:=(x0.length:Int)) rfl rfl Gg Tryz.underlying28 Uh rfl rfl ⟨Int.ofNat_le.2 hq107,Int.ofNat_le.2 hp106⟩
   refine Gm rfl rfl rfl (hF.ev rfl) hrun ?_
   clear S hrun;have S:=S';clear S';generalize w'=u at S ⊢
   refine wpList_nil ?_
   refine wp_seq ?_
   refine wp_region_lit ?_
   refine ao (v:=.slice A0 (((ah x0 0 x1)++(ah x0 x2 (x0.length:Int))).length) c0) rfl rfl hF rfl (aw rfl (hF.ev rfl)) ?_;clear hF;intro a hF
   refine ao (v:=.slice A0 (((ah x0 0 x1)++(ah x0 x2 (x0.length:Int))).length) c0) rfl rfl hF rfl (aA rfl (hF.ev rfl)) ?_;clear hF;intro a hF
   refine wpList_nil ?_
   refine wp_ret ?_
   repeat with_reducible (first |refine dV ?_ |refine mt ?_ |refine mr ?_)
   refine iA (.inl rfl) hF rfl (gI (hF.ev rfl)) ?_
   obtain rfl:=Option.some.inj hM
   exact ⟨A0,(((ah x0 0 x1)++(ah x0 x2 (x0.length:Int))).length),c0,rfl,rfl,S.selT (M:=[.row 125 2 (.slice A0 (((ah x0 0 x1)++(ah x0 x2 (x0.length:Int))).length) c0) (((ah x0 0 x1)++(ah x0 x2 (x0.length:Int))).length) (((ah x0 0 x1)++(ah x0 x2 (x0.length:Int))).flatMap iW)]) 1 [0] rfl rfl rfl⟩
 ·replace hM:=XU hc102 hM
  refine xG hF rfl hc102 ?_
  refine wp_seq ?_
  refine wp_region_lit ?_
  refine ao (v:=.slice A0 x0.length c0) rfl rfl hF rfl (aw rfl (hF.ev rfl)) ?_;clear hF;intro a hF
  refine ao (v:=.slice A0 x0.length c0) rfl rfl hF rfl (aA rfl (hF.ev rfl)) ?_;clear hF;intro a hF
  refine wpList_nil ?_
  refine wp_ret ?_
  repeat with_reducible (first |refine dV ?_ |refine mt ?_ |refine mr ?_)
  refine iA (.inl rfl) hF rfl (gI (hF.ev rfl)) ?_
  obtain rfl:=Option.some.inj hM
  exact ⟨A0,x0.length,c0,rfl,rfl,S.selT (M:=[.row 125 2 (.slice A0 x0.length c0) x0.length (x0.flatMap iW)]) 1 [0] rfl rfl rfl⟩
def cI:Ctr:=⟨217,[.o (.sl .tk 125 Af),AA,AA],[.o BC],true,fun x=>aH x.1 x.2.1 x.2.2⟩
theorem kU:aN Tryz.prog cI:=⟨acg,fun x res hm e w0 w X _ hp hS=>(kT (w:=w) (w0:=w0) (X:=X) (A0:=e.a 0) (n0:=x.1.length) (c0:=e.c 0) rfl hS hm).mono (by
 rintro en w' ⟨B,N,D,rfl,hN,S⟩
 subst hN
 exact ⟨_,_,rfl,⟨[_],[],[],[_],[],[],rfl,rfl,⟨_,[],_,[],[_],[],rfl,rfl,rfl,⟨res,B,D,rfl,rfl,rfl⟩,rfl,rfl,rfl⟩,⟨rfl,rfl⟩,⟨[],[],[],[],rfl,rfl,⟨rfl,rfl⟩,⟨[],[],[],[],rfl,rfl,⟨rfl,rfl⟩,⟨[],[],[],[],rfl,rfl,⟨rfl,rfl⟩,⟨rfl,rfl⟩⟩⟩⟩⟩,S⟩)⟩
def zB:Ctr:=⟨183,[AE,Bg],[Ck,AG],false,fun x=>pH x.1 x.2.1 x.2.2.1 x.2.2.2.1 x.2.2.2.2.1 x.2.2.2.2.2⟩
theorem Jl:aN Tryz.prog zB:=ck [lJ,nY,wV,bD,cI] [.cell 4 30,.tmp 5] (.q .z (.q Ae (.q .z (.q Ae (.q .z (.q (.q .z (.b (.q (.q .z (.cut ⟨[AX,Av,Bq,AC,BH,(39,Ac),(40,Co)],[(7,Bu),(6,AS),(4,AS),(3,AS)],[]⟩ [] Ab)) (.cut Bz [] (.q .z (.q (.q .z (.cut ⟨[AX,Av,Bq,AC,BH,(39,Ac),(51,Co)],[(7,Bu),(6,AS),(4,AS),(3,AS)],[]⟩ [] Ab)) (.cut BA [] (.q .z (.q .z (.cut BB [] (.q .z (.q .z (.cut BB [] BT))))))))))))) Ab)))))) ⟨pj,ta,Gu,cL,kU,trivial⟩ abQ Tryz.func183 Tryz.ntmps183 rfl rfl rfl fun _=>by kernel_rfl
def wX:Ctr:=⟨119,[.bx 33 Cr,Bg],BF,true,fun x=>mQ x.1 x.2.1 x.2.2.1 x.2.2.2.1 x.2.2.2.2.1 x.2.2.2.2.2.1 x.2.2.2.2.2.2.1 x.2.2.2.2.2.2.2.1 x.2.2.2.2.2.2.2.2.1 x.2.2.2.2.2.2.2.2.2⟩
theorem Gw:aN Tryz.prog wX:=ck [iT,nD,aR,nC,zB,uw] [.tmp 4] (.q .z (.q .z (.q (.q .z (.b (.q .z (.q (.q Ae Bx) (.q .z (.q (.q Ae Al) (.q .z (.cut ⟨[AY,AX,Av],[(3,AS),(4096,Am)],[]⟩ BO Cs)))))))) Bx))) ⟨pZ,uM,bm,uL,Jl,zy,trivial⟩ aaV Tryz.func119 Tryz.ntmps119 rfl rfl rfl fun _=>by kernel_rfl
def ss:Ctr:=⟨53,[Ad,Bg],[Ak,AG],false,fun x=>lj x.1 x.2.1 x.2.2.1 x.2.2.2.1 x.2.2.2.2.1 x.2.2.2.2.2.1 x.2.2.2.2.2.2.1 x.2.2.2.2.2.2.2.1 x.2.2.2.2.2.2.2.2.1 x.2.2.2.2.2.2.2.2.2⟩
theorem xJ:aN Tryz.prog ss:=ck [dj,iX,cE,wX] [.cell 4 33,.tmp 5] (.q .z (.q Ae (.q .z (.q (.q (.cut ⟨[Au,Av,Bq,AC,(23,Co)],[AD,(4,Am),(2,Am)],[]⟩ [] .z) BT) Ab)))) ⟨fk,nm,ew,Gw,trivial⟩ aec Tryz.func53 Tryz.ntmps53 rfl rfl rfl fun _=>by kernel_rfl
def rq:Ctr:=⟨113,[AE],[Cv],false,fun x=>gV x.1 x.2.1 x.2.2⟩
theorem zm:aN Tryz.prog rq:=ck [] [.tmp 2] (.q .z (.q .z (.q (.q .z (.cut CR [] (.b (.lp ⟨[Au,BX,BH,Ba,(9,Ag)],[],[]⟩ Bc)))) Ab))) trivial aaQ Tryz.func113 Tryz.ntmps113 rfl rfl rfl fun _=>by kernel_rfl
def wY:Ctr:=⟨115,[AA,AN,.o .b],[Cv],false,fun x=>mR x.1 x.2.1 x.2.2⟩
theorem Gx:aN Tryz.prog wY:=ck [] [.tmp 6] (.q .z (.q .z (.q (.q .z (.cut ⟨[AC,(7,AM)],[],[]⟩ [] (.b (.lp ⟨[AY,Au,AC,(7,AM),Cw,CY,(12,Ag)],[],[]⟩ (.q .z (.q Ab (.q (.b (.q .z (.q .z (.cut ⟨[AY,Au,AC,(7,AM),Cw,CY,BP],[],[]⟩ [] Ab)))) .z))))))) Ab))) trivial aaS Tryz.func115 Tryz.ntmps115 rfl rfl rfl fun _=>by kernel_rfl
def yf:Ctr:=⟨46,[AA,AA],[CD],false,fun x=>oC x.1 x.2⟩
theorem HG:aN Tryz.prog yf:=ck [] [.tmp 4] (.q .z (.q .z (.q (.q .z (.cut ⟨[Av,(5,Cc)],[],[]⟩ [] (.b (.lp ⟨[AY,Av,(5,Cc),Cw,(11,Ag)],[],[]⟩ Bc)))) Ab))) trivial ad5 Tryz.func46 Tryz.ntmps46 rfl rfl rfl fun _=>by kernel_rfl
def sw:Ctr:=⟨169,[Ai,AN],CO,false,fun x=>lq x.1 x.2.1 x.2.2⟩
theorem xK:aN Tryz.prog sw:=ck [qD,ob] [.tmp 4] (.q .z (.q .z (.q (.q .z (.cut ⟨[Av,(5,AF)],[],[]⟩ [] (.b (.lp CI (.q .z (.q Ab (.q (.b (.q .z (.q .z (.cut CJ [] Ab)))) .z))))))) Ab))) ⟨wM,tj,trivial⟩ abF Tryz.func169 Tryz.ntmps169 rfl rfl rfl fun _=>by kernel_rfl
def ux:Ctr:=⟨110,Bn,[.g [Ao,Ao,Ao,Ao,Ao,Ao,Ao,Ao,Ao,Ao,Ao,Ao,Ao,Ao,Ao,Ao]],false,fun x=>mE x.1 x.2.1 x.2.2.1 x.2.2.2⟩
theorem zz:aN Tryz.prog ux:=ck [sw,fp] [.cell 6 142] (.q .z (.q .z (.q .z (.q (.q .z (.cut ⟨[AC,BH],[(7,CA),(6,AR)],[]⟩ [] (.b (.lp ⟨[AC,BH,(8,AF),(15,Ac),(16,Ac),(17,Ag)],[(7,CA),(6,AR)],[]⟩ (.q .z (.q Ab (.q (.b Bx) .z))))))) Ab)))) ⟨xK,kb,trivial⟩ aaN Tryz.func110 Tryz.ntmps110 rfl rfl rfl fun _=>by kernel_rfl
def nZ:Ctr:=⟨47,Bn,BR,false,fun x=>fJ x.1 x.2.1 x.2.2.1 x.2.2.2⟩
theorem te:aN Tryz.prog nZ:=ck [ux] [.tmp 6] (.q .z (.q .z (.q (.q .z (.cut ⟨[AC,CE],[],[]⟩ [] (.b (.lp ⟨[AC,BH,CE,(16,Ac),(17,Ag)],[(7,AR)],[]⟩ (.q .z (.q Ab (.q (.b (.q .z (.q .z (.cut ⟨[AC,BH,CE,(16,Ac),(17,Ac)],[(7,AR)],[]⟩ [] Ab)))) .z))))))) Ab))) ⟨zz,trivial⟩ ad6 Tryz.func47 Tryz.ntmps47 rfl rfl rfl fun _=>by kernel_rfl
def ya:Ctr:=⟨48,[AN,AN],CO,false,fun x=>oz x.1 x.2⟩
theorem Hz:aN Tryz.prog ya:=ck [] [.tmp 4] (.q .z (.q Ae (.q .z (.q (.q .z (.cut BK [] (.b (.lp ⟨[AY,Az,Av,CW,BZ,(14,Ag)],[],[]⟩ (.q .z (.q Ab (.q (.b (.q .z (.q .z (.cut ⟨[AY,Az,Av,CW,BZ,(14,Ac)],[],[]⟩ [] Ab)))) .z))))))) Ab)))) trivial ad7 Tryz.func48 Tryz.ntmps48 rfl rfl rfl fun _=>by kernel_rfl
def tZ:Ctr:=⟨207,[Cg,AA],BR,false,fun x=>kw x.1 x.2.1 x.2.2.1 x.2.2.2.1 x.2.2.2.2.1 x.2.2.2.2.2⟩
theorem DQ:aN Tryz.prog tZ:=ck [nX] [.tmp 4] Al ⟨sZ,trivial⟩ acb Tryz.func207 Tryz.ntmps207 rfl rfl rfl fun _=>by kernel_rfl
def oa:Ctr:=⟨173,[Cg,Ap],CO,false,fun x=>fL x.1 x.2.1 x.2.2.1 x.2.2.2.1 x.2.2.2.2.1 x.2.2.2.2.2⟩
theorem tg:aN Tryz.prog oa:=ck [tZ] [.tmp 4] (.q .z (.q .z (.q .z (.q (.q .z (.cut ⟨[Av,(5,AF)],[],[]⟩ [] (.b (.lp ⟨[Az,Au,Av,(5,AF),(6,AF),BW],[(2,Bo)],[]⟩ (.q Al (.q (.b (.q .z (.q .z (.q .z (.q .z (.cut ⟨[Az,Au,Av,(5,AF),(6,AF),BH],[(2,Bo)],[]⟩ [] BT)))))) .z)))))) Ab)))) ⟨DQ,trivial⟩ abJ Tryz.func173 Tryz.ntmps173 rfl rfl rfl fun _=>by kernel_rfl
def ua:Ctr:=⟨174,[Cg,Ap,AA],BR,false,fun x=>kx x.1 x.2.1 x.2.2.1 x.2.2.2.1 x.2.2.2.2.1 x.2.2.2.2.2.1 x.2.2.2.2.2.2⟩
theorem DS:aN Tryz.prog ua:=ck [] [.tmp 6] (.q .z (.q .z (.q (.q .z (.cut ⟨[AC,BW],[],[]⟩ [] (.b (.lp ⟨[Az,Au,AC,BW,CY,BP,(13,Ag)],[],[]⟩ (.q .z (.q Ab (.q (.b (.q .z (.q .z (.cut ⟨[Az,Au,AC,BW,CY,BP,BZ],[],[]⟩ [] Ab)))) .z))))))) Ab))) trivial abK Tryz.func174 Tryz.ntmps174 rfl rfl rfl fun _=>by kernel_rfl
def vu:Ctr:=⟨112,[Cg,Ap],BF,false,fun x=>lP x.1 x.2.1 x.2.2.1 x.2.2.2.1 x.2.2.2.2.1 x.2.2.2.2.2⟩
theorem Fk:aN Tryz.prog vu:=ck [oa,ua] [.tmp 4] (.q .z (.q (.q .z (.cut ⟨[Az,Au,Av],[(2,Bo)],[]⟩ BO (.b (.lp ⟨[Az,Au,Av,CY,BP,(13,Ag)],[(2,Bo)],[]⟩ AJ)))) (.q (.q .z (.cut BJ BO (.b (.lp ⟨[Az,Au,Av,(28,Ac),(29,Ac),(30,Ag)],[(2,Bo)],[]⟩ AJ)))) Ab))) ⟨tg,DS,trivial⟩ aaP Tryz.func112 Tryz.ntmps112 rfl rfl rfl fun _=>by kernel_rfl
def yb:Ctr:=⟨49,Bn,BF,false,fun x=>oA x.1 x.2.1 x.2.2.1 x.2.2.2⟩
theorem HC:aN Tryz.prog yb:=ck [pG,vu] [.tmp 6] Bx ⟨uq,Fk,trivial⟩ ad8 Tryz.func49 Tryz.ntmps49 rfl rfl rfl fun _=>by kernel_rfl
def vk:Ctr:=⟨12,[Ai,AN,Ap,BN],[CD,AG],false,fun x=>lM x.1 x.2.1 x.2.2.1 x.2.2.2.1 x.2.2.2.2⟩
theorem Fe:aN Tryz.prog vk:=ck [jP,cE,yf,nZ,ya,yb] [.tmp 8,.tmp 9] (.q .z (.q Ae (.q .z (.q (.q .z (.cut ⟨[Az,Au,Av,Ba,BQ,(10,Ag)],CM,[]⟩ [] (.b (.lp ⟨[Az,Au,Av,Ba,BQ,(10,Ag),(25,Ac),(26,Ac),(27,Ag)],CM,[]⟩ (.q .z (.q Ab (.q (.b (.q .z (.q .z (.cut ⟨[Az,Au,Av,Ba,BQ,(10,Ag),(25,Ac),(26,Ac),(27,Ac)],CM,[]⟩ [] Ab)))) .z))))))) (.q .z (.q .z (.q (.q .z (.cut ⟨[Ba,BQ,(13,.z 4 .b)],[],[]⟩ [] (.b (.lp ⟨[Az,Au,Av,Ba,BQ,Cw,(13,.z 4 .b),(14,Ag),(15,Ag),(42,Ac),(43,Ag)],CM,[]⟩ (.q .z (.q Ab (.q (.cut BG [] (.b (.q .z (.q Al (.q .z (.q .z (.q Al (.q .z (.q .z (.cut BG [] Ab)))))))))) .z))))))) Ab))))))) ⟨mI,ew,HG,te,Hz,HC,trivial⟩ adM Tryz.func12 Tryz.ntmps12 rfl rfl rfl fun _=>by kernel_rfl
def ye:Ctr:=⟨175,[AN,AN],[BU],false,fun x=>oB x.1 x.2⟩
theorem HE:aN Tryz.prog ye:=ck [] [.tmp 4] (.q .z (.q Ae (.q .z (.q (.q .z (.cut ⟨[Av,(5,AO),(6,AO)],[],[]⟩ [] (.b (.lp ⟨[AY,Az,Av,(5,AO),(6,AO),(19,Ac),(20,Ag)],[],[]⟩ (.q .z (.q Ab (.q (.b (.q .z (.b (.q .z (.cut ⟨[AY,Az,Av,(5,AO),(6,AO),(19,Ac),(20,Ac)],[],[]⟩ [] (.q .z (.q .z (.cut ⟨[AY,Az,Av,Bq,(6,AO),(19,Ac),(20,Ac)],[],[]⟩ [] Ab)))))))) .z))))))) Ab)))) trivial abL Tryz.func175 Tryz.ntmps175 rfl rfl rfl fun _=>by kernel_rfl
def rp:Ctr:=⟨116,[Ai,AN,Ap,BN],[BU,AG],false,fun x=>gS x.1 x.2.1 x.2.2.1 x.2.2.2.1 x.2.2.2.2⟩
theorem zk:aN Tryz.prog rp:=ck [vk,ye] [.tmp 8,.tmp 9] BV ⟨Fe,HE,trivial⟩ aaT Tryz.func116 Tryz.ntmps116 rfl rfl rfl fun _=>by kernel_rfl
def vm:Ctr:=⟨50,[Ad],[Cv],false,fun x=>iD x.1 x.2.1 x.2.2.1 x.2.2.2.1 x.2.2.2.2.1 x.2.2.2.2.2.1 x.2.2.2.2.2.2⟩
theorem Ff:aN Tryz.prog vm:=ck [dj,rq,gL,wY,rp] [.tmp 2] (.q .z (.q Ae (.q .z (.q .z (.q (.q .z (.cut ⟨[Az,Au,BX,(4,Cc)],BE,[]⟩ [] (.b (.lp ⟨[Az,Au,BX,(4,Cc),(25,Ac),(26,Ac),(27,Ag)],BE,[]⟩ (.q .z (.q Ab (.q (.b (.q .z (.q (.q .z (.cut ⟨[Az,Au,BX,(4,Cc),AC,(25,Ac),(26,Ac),(27,Ac)],BE,[]⟩ [] BT)) (.q .z (.cut ⟨[Az,Au,BX,Av,(25,Ac),(26,Ac),(27,Ac)],BE,[]⟩ [] (.b (.lp ⟨[Az,Au,BX,Av,AC,(25,Ac),(26,Ac),(27,Ac),(44,Ac),(45,Ag)],BE,[]⟩ Bc))))))) .z))))))) (.q .z (.q .z (.q (.q .z (.cut CR [] (.b (.lp ⟨[Au,BX,(71,Ac),(72,Ac),(73,Ag)],[],[]⟩ (.q .z (.q Ab (.q (.b (.q .z (.q .z (.q (.q .z (.cut ⟨[Au,AX,BP,(13,Ag),(71,Ac),(72,Ac),(73,Ac)],[(12,Bu)],[]⟩ [] Ab)) .z)))) .z))))))) Ab)))))))) ⟨fk,zm,mz,Gx,zk,trivial⟩ ad9 Tryz.func50 Tryz.ntmps50 rfl rfl rfl fun _=>by kernel_rfl
def wW:Ctr:=⟨120,[Ad,.o (.sl .ro 86 As)],[Ak,AQ],false,fun x=>mP x.1 x.2.1 x.2.2.1 x.2.2.2.1 x.2.2.2.2.1 x.2.2.2.2.2.1 x.2.2.2.2.2.2.1 x.2.2.2.2.2.2.2⟩
theorem Gv:aN Tryz.prog wW:=ck [dj,iX,ss] [.cell 4 33,.tmp 5] (.q .z (.q Ae (.q .z (.q (.q .z (.cut CZ [] (.b (.lp ⟨[Av,Bq,AC,BW,(18,Ac),(19,Ac),(20,Ag)],[AD,(4,Am)],[]⟩ (.q .z (.q Ab (.q (.b (.q .z (.q .z (.q .z (.cut ⟨[Av,Bq,AC,BW,(18,Ac),(19,Ac),(20,Ac)],[AD,(4,Am)],[]⟩ [] BT))))) .z))))))) Ab)))) ⟨fk,nm,xJ,trivial⟩ aaW Tryz.func120 Tryz.ntmps120 rfl rfl rfl fun _=>by kernel_rfl
def vt:Ctr:=⟨54,[Ad],[Ak],false,fun x=>lN x.1 x.2.1 x.2.2.1 x.2.2.2.1 x.2.2.2.2.1 x.2.2.2.2.2.1 x.2.2.2.2.2.2⟩
theorem Fj:aN Tryz.prog vt:=ck [vm,wW] [.cell 2 33] Bx ⟨Ff,Gv,trivial⟩ aed Tryz.func54 Tryz.ntmps54 rfl rfl rfl fun _=>by kernel_rfl
def wT:Ctr:=⟨121,[Ai,AN,Ap,AA],BR,false,fun x=>mM x.1 x.2.1 x.2.2.1 x.2.2.2.1 x.2.2.2.2⟩
theorem Gq:aN Tryz.prog wT:=ck [pG,cE,oa] [.tmp 8] BV ⟨uq,ew,tg,trivial⟩ aaX Tryz.func121 Tryz.ntmps121 rfl rfl rfl fun _=>by kernel_rfl
def xd:Ctr:=⟨124,[BN],[BY],false,fun x=>dt x⟩
theorem GA:aN Tryz.prog xd:=ck [oq,sJ] [.tmp 2] (.q .z (.q Ae (.q .z (.q (.q .z (.cut ⟨[Au,(3,.o (.w 9 .s))],[],[]⟩ [] (.b (.lp ⟨[Au,(3,.o (.w 9 .s)),BP,BZ,(14,Ag)],[],[]⟩ Bc)))) Ab)))) ⟨rR,xP,trivial⟩ aa0 Tryz.func124 Tryz.ntmps124 rfl rfl rfl fun _=>by kernel_rfl
def tT:Ctr:=⟨185,Bn,CO,false,fun x=>ke x.1 x.2.1 x.2.2.1 x.2.2.2⟩
theorem DL:aN Tryz.prog tT:=ck [jP,sw,ux,fp] [.tmp 6] (.q .z (.q Ae (.q .z (.q .z (.q (.q .z (.cut ⟨[AC,(9,AT)],[],[]⟩ [] (.b (.lp ⟨[AC,Da,Ba,(9,AT),(24,Ac),(25,Ag)],[(8,AR)],[]⟩ (.q .z (.q Ab (.q (.b (.q .z (.q .z (.cut ⟨[AC,BH,Ba,(9,AT),(24,Ac),(25,Ac)],[(8,AR)],[]⟩ [] Ab)))) .z))))))) Ab))))) ⟨mI,xK,zz,kb,trivial⟩ abR Tryz.func185 Tryz.ntmps185 rfl rfl rfl fun _=>by kernel_rfl
def od:Ctr:=⟨219,[BN,AA],BR,false,fun x=>ee x.1 x.2⟩
theorem wl:aN Tryz.prog od:=ck [] [.tmp 4] (.q .z (.q (.q .z (.cut BJ BO (.b (.lp ⟨[AY,Az,Av,BH,CE],[],[]⟩ AJ)))) Ab)) trivial ach Tryz.func219 Tryz.ntmps219 rfl rfl rfl fun _=>by kernel_rfl
def mn:Ctr:=⟨186,[BN,AA],BF,false,fun x=>cA x.1 x.2⟩
theorem sV:aN Tryz.prog mn:=ck [od] [.tmp 4] Al ⟨wl,trivial⟩ abS Tryz.func186 Tryz.ntmps186 rfl rfl rfl fun _=>by kernel_rfl
def vp:Ctr:=⟨125,[Ad],CO,false,fun x=>eo x.1 x.2.1 x.2.2.1 x.2.2.2.1 x.2.2.2.2.1 x.2.2.2.2.2.1 x.2.2.2.2.2.2⟩
theorem Fh:aN Tryz.prog vp:=ck [dj,tT,mn] [.tmp 2] (.q .z (.q Ae (.q .z (.q .z (.q (.q .z (.cut ⟨[Au,(4,AT)],[],[]⟩ [] (.b (.lp ⟨[Au,AX,(4,AT),(19,Ac),(20,Ac),(21,Ag)],[],[]⟩ (.q .z (.q Ab (.q (.b (.q .z (.q .z (.cut ⟨[Au,AX,(4,AT),(19,Ac),(20,Ac),(21,Ac)],[],[]⟩ [] Ab)))) .z))))))) Ab))))) ⟨fk,DL,sV,trivial⟩ aa1 Tryz.func125 Tryz.ntmps125 rfl rfl rfl fun _=>by kernel_rfl
def tV:Ctr:=⟨14,Bn,BR,false,fun x=>fD x.1 x.2.1 x.2.2.1 x.2.2.2⟩
theorem DN:aN Tryz.prog tV:=ck [jP,nZ] [.tmp 6] AL ⟨mI,te,trivial⟩ adN Tryz.func14 Tryz.ntmps14 rfl rfl rfl fun _=>by kernel_rfl
def vo:Ctr:=⟨123,[AN],[BY],false,fun x=>iE x⟩
theorem Fg:aN Tryz.prog vo:=ck [] [.tmp 2] (.q .z (.q Ae (.q .z (.q (.q .z (.cut ⟨[Au,(3,CB)],[],[]⟩ [] (.b (.lp ⟨[Au,(3,CB),BP,BZ,(14,Ag)],[],[]⟩ (.q .z (.q Ab (.q (.b (.q .z (.q .z (.q .z (.cut ⟨[Au,(3,CB),BP,BZ,(14,Ac)],[],[]⟩ [] Ab))))) .z))))))) Ab)))) trivial aaZ Tryz.func123 Tryz.ntmps123 rfl rfl rfl fun _=>by kernel_rfl
def ru:Ctr:=⟨55,[Ad,Cm],[BY],false,fun x=>gY x.1 x.2.1 x.2.2.1 x.2.2.2.1 x.2.2.2.2.1 x.2.2.2.2.2.1 x.2.2.2.2.2.2.1 x.2.2.2.2.2.2.2⟩
theorem zn:aN Tryz.prog ru:=ck [tY,cE,wT,oq,sJ,vo,tV,vp,xd,yc] [.tmp 4] (.q .z (.q (.q .z (.q (.q .z (.q (.b Ca) Ab)) .z)) (.q (.q .z (.b Bi)) Ab))) ⟨tc,ew,Gq,rR,xP,Fg,DN,Fh,GA,HD,trivial⟩ aee Tryz.func55 Tryz.ntmps55 rfl rfl rfl fun _=>by kernel_rfl
def vq:Ctr:=⟨16,[Ad,Cj],[Ak,BY],false,fun x=>cF x.1 x.2.1 x.2.2.1 x.2.2.2.1 x.2.2.2.2.1 x.2.2.2.2.2.1 x.2.2.2.2.2.2.1 x.2.2.2.2.2.2.2⟩
theorem Fi:aN Tryz.prog vq:=ck [dj,xw,xe,ss,vt,iX,ru] [.cell 4 33,.tmp 5] (.q .z (.q Ae (.q .z (.q (.q .z (.q .z (.q AL .z))) CQ)))) ⟨fk,GR,GB,xJ,Fj,nm,zn,trivial⟩ adP Tryz.func16 Tryz.ntmps16 rfl rfl rfl fun _=>by kernel_rfl
def Eu:Ctr:=⟨56,[Cj,.o (.int .u8)],[.o (.row 9 .s)],false,fun x=>rG x.1 x.2⟩
theorem Lh:aN Tryz.prog Eu:=ck [] [.tmp 4] (.q .z (.q .z (.q .z (.q (.q .z (.cut ⟨[AY,Av,(5,.o (.r 9 .s)),(6,Ag)],[],[]⟩ [] (.b (.lp ⟨[AY,Az,Av,(5,.o (.r 9 .s)),(6,Ag),BW],[],[]⟩ (.q Al (.q (.b (.q .z (.cut ⟨[AY,Az,Av,(5,.o (.r 9 .s)),(6,Ag),BH],[],[]⟩ [] BT))) .z)))))) Ab)))) trivial aef Tryz.func56 Tryz.ntmps56 rfl rfl rfl fun _=>by kernel_rfl
def zP:Ctr:=⟨126,[Cj],BR,false,fun x=>mG x⟩
theorem JA:aN Tryz.prog zP:=ck [bh] [.tmp 2] (.q .z (.q Ae (.q .z (.q (.q .z (.cut ⟨[Au,(3,Ag)],[],[]⟩ BO (.b (.lp ⟨[AY,Au,(3,Ag),(4,Ag)],[],[]⟩ (.q Al (.q (.b Cs) .z)))))) Ab)))) ⟨bp,trivial⟩ aa2 Tryz.func126 Tryz.ntmps126 rfl rfl rfl fun _=>by kernel_rfl
def uf:Ctr:=⟨57,[Cm],[AK,AG],false,fun x=>kO x⟩
theorem DX:aN Tryz.prog uf:=ck [zP] [.tmp 2,.tmp 3] (.q .z (.q .z (.q .z (.q (.q .z (.cut ⟨[Au,AX,(4,AT),(5,Co)],[],[]⟩ [] (.b (.lp ⟨[AY,Au,AX,(4,AT),(5,Co),(6,Ag)],[],[]⟩ BI)))) Ab)))) ⟨JA,trivial⟩ aeg Tryz.func57 Tryz.ntmps57 rfl rfl rfl fun _=>by kernel_rfl
def yD:Ctr:=⟨58,[Cj],[AQ,AQ],false,fun x=>oP x⟩
theorem HZ:aN Tryz.prog yD:=ck [] [.tmp 2,.tmp 3] (.q .z (.q (.q .z (.b (.q .z (.q Ab (.q .z (.q Ab (.q .z (.q Ab Bi)))))))) Ab)) trivial aeh Tryz.func58 Tryz.ntmps58 rfl rfl rfl fun _=>by kernel_rfl
def yy:Ctr:=⟨135,[Ai],[BY],false,fun x=>oJ x.1 x.2⟩
theorem HU:aN Tryz.prog yy:=ck [jQ,jR] [.tmp 2] (.q .z (.q Ae (.q .z (.q (.q .z (.cut Cu [] (.b (.lp ⟨[Az,Au,(3,.o .s),(4,Ag)],[(1,Bu)],[]⟩ BI)))) Ab)))) ⟨mJ,mK,trivial⟩ abb Tryz.func135 Tryz.ntmps135 rfl rfl rfl fun _=>by kernel_rfl
def yE:Ctr:=⟨133,[BN],[BY],false,fun x=>lC x⟩
theorem Ia:aN Tryz.prog yE:=ck [jR] [.tmp 2] (.q .z (.q .z (.q (.q .z (.cut Cu [] (.b (.lp CS (.q Al (.q (.b (.q Cp .z)) .z)))))) CQ))) ⟨mK,trivial⟩ aa9 Tryz.func133 Tryz.ntmps133 rfl rfl rfl fun _=>by kernel_rfl
def og:Ctr:=⟨191,[Ai,AN,Ap,AA],BR,false,fun x=>gh x.1 x.2.1 x.2.2.1 x.2.2.2.1 x.2.2.2.2⟩
theorem tn:aN Tryz.prog og:=ck [lh,bh,oi] [.tmp 8] Bd ⟨nB,bp,rP,trivial⟩ abX Tryz.func191 Tryz.ntmps191 rfl rfl rfl fun _=>by kernel_rfl
def uc:Ctr:=⟨193,Bn,CO,false,fun x=>kJ x.1 x.2.1 x.2.2.1 x.2.2.2⟩
theorem DU:aN Tryz.prog uc:=ck [lh,og] [.tmp 6] (.q .z (.q .z (.q (.q .z (.cut Cd [] Bl)) Ab))) ⟨nB,tn,trivial⟩ abZ Tryz.func193 Tryz.ntmps193 rfl rfl rfl fun _=>by kernel_rfl
def vJ:Ctr:=⟨134,[Ad],CO,false,fun x=>iO x.1 x.2.1 x.2.2.1 x.2.2.2.1 x.2.2.2.2.1 x.2.2.2.2.2.1 x.2.2.2.2.2.2⟩
theorem FA:aN Tryz.prog vJ:=ck [dk,uc,lL] [.tmp 2] (.q .z (.q .z (.q Ae (.q .z (.q (.q .z (.cut ⟨[Au,(3,AT)],[],[]⟩ [] (.b (.lp ⟨[Az,Au,(3,AT),Av,CV],BE,[]⟩ (.q Al (.q (.b (.q .z (.cut ⟨[Az,Au,(3,AT),Av,Bq],BE,[]⟩ [] Ab))) .z)))))) Ab))))) ⟨fl,DU,nO,trivial⟩ aba Tryz.func134 Tryz.ntmps134 rfl rfl rfl fun _=>by kernel_rfl
def oh:Ctr:=⟨192,[Ai,AN,Ap,AA],BR,false,fun x=>gi x.1 x.2.1 x.2.2.1 x.2.2.2.1 x.2.2.2.2⟩
theorem tp:aN Tryz.prog oh:=ck [lh,bh,oi] [.tmp 8] Bd ⟨nB,bp,rP,trivial⟩ abY Tryz.func192 Tryz.ntmps192 rfl rfl rfl fun _=>by kernel_rfl
def om:Ctr:=⟨132,Bn,BR,false,fun x=>cd x.1 x.2.1 x.2.2.1 x.2.2.2⟩
theorem tt:aN Tryz.prog om:=ck [lh,og,oh] [.tmp 6] (.q .z (.q Ae (.q .z (.q (.q .z (.cut ⟨[AC,BW],[],[]⟩ [] (.b (.lp ⟨[Az,Au,AX,AC,BW,CE],AI,[]⟩ (.q Al (.q (.b (.q .z (.cut ⟨[Az,Au,AX,AC,BW,Ba],AI,[]⟩ [] Ab))) .z)))))) Ab)))) ⟨nB,tn,tp,trivial⟩ aa8 Tryz.func132 Tryz.ntmps132 rfl rfl rfl fun _=>by kernel_rfl
def vI:Ctr:=⟨131,[AN],[BY],false,fun x=>mc x⟩
theorem Fz:aN Tryz.prog vI:=ck [] [.tmp 2] (.q .z (.q .z (.q (.q .z (.cut Cu [] (.b (.lp CS (.q Al (.q (.b Cp) .z)))))) Ab))) trivial aa7 Tryz.func131 Tryz.ntmps131 rfl rfl rfl fun _=>by kernel_rfl
def zQ:Ctr:=⟨63,[Ad,Cj],[BY],false,fun x=>pU x.1 x.2.1 x.2.2.1 x.2.2.2.1 x.2.2.2.2.1 x.2.2.2.2.2.1 x.2.2.2.2.2.2.1 x.2.2.2.2.2.2.2⟩
theorem JB:aN Tryz.prog zQ:=ck [vI,om,jR,vJ,yE,yy] [.tmp 4] (.q .z (.q (.q .z (.b Bi)) Ab)) ⟨Fz,tt,mK,FA,Ia,HU,trivial⟩ ael Tryz.func63 Tryz.ntmps63 rfl rfl rfl fun _=>by kernel_rfl
def vN:Ctr:=⟨188,Bn,CO,false,fun x=>mg x.1 x.2.1 x.2.2.1 x.2.2.2⟩
theorem FE:aN Tryz.prog vN:=ck [] [.tmp 6] (.q .z (.q .z (.q (.q .z (.cut ⟨[Az,AX,AC,(7,AT)],AI,[]⟩ [] Bl)) (.q (.q .z (.cut ⟨[AC,Da],[],[]⟩ [] (.b (.lp ⟨[Az,AX,AC,Da,(9,Ag)],AI,[]⟩ (.q Al (.q (.b (.q .z (.cut ⟨[Az,AX,AC,Da,BQ],AI,[]⟩ [] (.b (.lp ⟨[Az,AX,AC,Da,BQ,(10,Ag)],AI,[]⟩ (.q Al (.q (.b (.q .z (.q (.q .z (.cut ⟨[Az,AX,AC,Da,BQ,Cw,CY],[(11,AS),(3,Bu)],[]⟩ [] Ab)) (.q .z (.cut ⟨[Az,AX,AC,Da,BQ,Cw],AI,[]⟩ [] Ab))))) .z))))))) .z)))))) Ab)))) trivial abU Tryz.func188 Tryz.ntmps188 rfl rfl rfl fun _=>by kernel_rfl
def xq:Ctr:=⟨222,[Ai,AA,AA],BR,false,fun x=>nf x.1 x.2.1 x.2.2.1 x.2.2.2⟩
theorem GM:aN Tryz.prog xq:=ck [jQ,bh] [.tmp 6] (.q .z (.q Ae CT)) ⟨mJ,bp,trivial⟩ ack Tryz.func222 Tryz.ntmps222 rfl rfl rfl fun _=>by kernel_rfl
def Ev:Ctr:=⟨189,[Ai,BN,AA],CO,false,fun x=>rH x.1 x.2.1 x.2.2.1 x.2.2.2⟩
theorem Li:aN Tryz.prog Ev:=ck [xq] [.tmp 6] (.q .z (.q .z (.q (.cut Cd [] (.b (.lp ⟨[Az,(2,Ag),AX,AC,(7,AT)],AI,[]⟩ (.q Al (.b Ab))))) Ab))) ⟨GM,trivial⟩ abV Tryz.func189 Tryz.ntmps189 rfl rfl rfl fun _=>by kernel_rfl
def sH:Ctr:=⟨129,Bn,CO,false,fun x=>lD x.1 x.2.1 x.2.2.1 x.2.2.2⟩
theorem xO:aN Tryz.prog sH:=ck [vN,Ev] [.tmp 6] (.q .z (.q .z (.q .z (.q (.q .z (.cut ⟨[AC,Da],[],[]⟩ [] (.b (.lp ⟨[Au,AX,AC,Da,Ba,(9,Ag)],AI,[]⟩ (.q Al (.q (.b (.q .z (.q .z (.cut ⟨[Au,AX,AC,Da,Ba,BQ],AI,[]⟩ [] (.b (.lp ⟨[Au,AX,AC,Da,Ba,BQ,Cw,(11,Ag)],AI,[]⟩ AV)))))) .z)))))) Ab)))) ⟨FE,Li,trivial⟩ aa5 Tryz.func129 Tryz.ntmps129 rfl rfl rfl fun _=>by kernel_rfl
def xp:Ctr:=⟨60,[Ai,AN,Ap,AA],BR,false,fun x=>nc x.1 x.2.1 x.2.2.1 x.2.2.2.1 x.2.2.2.2⟩
theorem GL:aN Tryz.prog xp:=ck [mD,bh,sH] [.tmp 8] AL ⟨pD,bp,xO,trivial⟩ aej Tryz.func60 Tryz.ntmps60 rfl rfl rfl fun _=>by kernel_rfl
def yA:Ctr:=⟨236,[AA,AA],[CD,AG],false,fun x=>oM x.1 x.2⟩
theorem HW:aN Tryz.prog yA:=ck [bh] [.tmp 4,.tmp 5] (.q .z (.q .z (.q Ae (.q (.q .z (.cut ⟨[Av,Bq,(6,.o Cq)],[],[]⟩ [] (.b (.lp ⟨[(0,Ag),Az,Av,Bq,(6,.o Cq),BW],[],[]⟩ BI)))) Ab)))) ⟨bp,trivial⟩ acn Tryz.func236 Tryz.ntmps236 rfl rfl rfl fun _=>by kernel_rfl
def zS:Ctr:=⟨251,Bn,CO,false,fun x=>pW x.1 x.2.1 x.2.2.1 x.2.2.2⟩
theorem JD:aN Tryz.prog zS:=ck [sH] [.tmp 6] (.q .z (.q .z (.q .z (.q (.q .z (.cut Cd [] (.b (.lp ⟨[Az,AX,AC,(7,AT),Ba,(9,Ag)],AI,[]⟩ (.q Al (.q (.b (.q .z (.cut ⟨[Az,AX,AC,(7,AT),Ba,BQ],AI,[]⟩ [] Ab))) .z)))))) Ab)))) ⟨xO,trivial⟩ acs Tryz.func251 Tryz.ntmps251 rfl rfl rfl fun _=>by kernel_rfl
def zR:Ctr:=⟨248,Bn,BF,false,fun x=>pV x.1 x.2.1 x.2.2.1 x.2.2.2⟩
theorem JC:aN Tryz.prog zR:=ck [oh,zS] [.tmp 6] (.q .z (.q (.q .z (.cut ⟨[Az,Au,AX,AC],AI,[]⟩ BO (.b (.lp ⟨[Az,Au,AX,AC,BW],AI,[]⟩ Bj)))) Ab)) ⟨tp,JD,trivial⟩ acr Tryz.func248 Tryz.ntmps248 rfl rfl rfl fun _=>by kernel_rfl
def yx:Ctr:=⟨237,Bn,BF,false,fun x=>oI x.1 x.2.1 x.2.2.1 x.2.2.2⟩
theorem HT:aN Tryz.prog yx:=ck [mD,zR] [.tmp 6] Al ⟨pD,JC,trivial⟩ aco Tryz.func237 Tryz.ntmps237 rfl rfl rfl fun _=>by kernel_rfl
def sE:Ctr:=⟨239,[AN,AN],CO,false,fun x=>iJ x.1 x.2⟩
theorem xL:aN Tryz.prog sE:=ck [] [.tmp 4] (.q .z (.q .z (.q (.q .z (.cut BK [] (.b (.lp ⟨[AY,Az,Av,CW,(6,Ag)],[],[]⟩ (.q Al (.q (.b (.q .z (.cut ⟨[AY,Az,Av,CW,AC],[],[]⟩ [] Ab))) .z)))))) Ab))) trivial acq Tryz.func239 Tryz.ntmps239 rfl rfl rfl fun _=>by kernel_rfl
def vM:Ctr:=⟨238,[AA,AA,AA,AA],BF,false,fun x=>pq x.1 x.2.1 x.2.2.1 x.2.2.2⟩
theorem FD:aN Tryz.prog vM:=ck [] [.tmp 8] Al trivial acp Tryz.func238 Tryz.ntmps238 rfl rfl rfl fun _=>by kernel_rfl
def vG:Ctr:=⟨220,[Ai,AN,Ap,BN],[CD,AG],false,fun x=>mb x.1 x.2.1 x.2.2.1 x.2.2.2.1 x.2.2.2.2⟩
theorem Fx:aN Tryz.prog vG:=ck [lh,yA,bh,yx,om,sE,vM] [.tmp 8,.tmp 9] (.q .z (.q .z (.q Ae (.q .z (.q .z (.q (.q .z (.cut ⟨[Ba,BQ,(10,.o Cq),(11,Ag)],[],[]⟩ [] (.b (.lp ⟨[Az,Au,AX,Av,Ba,BQ,(10,.o Cq),(11,Ag),(12,Ag),(13,Ag)],CM,[]⟩ (.q Al (.q (.b (.q .z (.q .z (.q (.q .z (.cut ⟨[Az,Au,AX,Av,Ba,BQ,Cw,CY,BP,BZ,(14,Ac),(16,Co)],CM,[]⟩ [] (.b (.lp ⟨[Az,Au,AX,Av,Ba,BQ,Cw,CY,BP,BZ,(14,Ac),(16,Co),(17,Ag)],CM,[]⟩ AV)))) (.q (.cut ⟨[Az,Au,AX,Av,Ba,BQ,Cw,CY,BP,BZ,(14,Ac),(86,Co)],CM,[]⟩ [] .z) (.cut ⟨[Az,Au,AX,Av,Ba,BQ,(10,.o Cq),(11,Ag),(12,Ag),BZ],CM,[]⟩ [] (.q Al .z))))))) .z)))))) Ab)))))) ⟨nB,HW,bp,HT,tt,xL,FD,trivial⟩ aci Tryz.func220 Tryz.ntmps220 rfl rfl rfl fun _=>by kernel_rfl
def yz:Ctr:=⟨221,[AN,AN],[BU],false,fun x=>oK x.1 x.2⟩
theorem HV:aN Tryz.prog yz:=ck [sE] [.tmp 4] (.q .z (.q .z (.q .z (.q Ae (.q (.q .z (.cut ⟨[Az,Av,(5,AO),AC],[],[]⟩ [] (.b (.lp ⟨[AY,Az,Av,(5,AO),AC,BW],[],[]⟩ (.q Al (.q (.b (.q .z (.cut ⟨[AY,Az,Av,(5,AO),AC,BH],[],[]⟩ [] Ab))) .z)))))) (.q (.q .z (.cut ⟨[Av,(5,AO)],[],[]⟩ [] (.b (.lp ⟨[Az,Av,(5,AO),AC,CE],[],[]⟩ (.q Al (.q (.b (.q .z (.cut ⟨[Az,Av,(5,AO),AC,Ba],[],[]⟩ [] Ab))) .z)))))) Ab)))))) ⟨xL,trivial⟩ acj Tryz.func221 Tryz.ntmps221 rfl rfl rfl fun _=>by kernel_rfl
def rx:Ctr:=⟨187,[Ai,AN,Ap,BN],[BU,AG],false,fun x=>iu x.1 x.2.1 x.2.2.1 x.2.2.2.1 x.2.2.2.2⟩
theorem zo:aN Tryz.prog rx:=ck [vG,yz] [.tmp 8,.tmp 9] BV ⟨Fx,HV,trivial⟩ abT Tryz.func187 Tryz.ntmps187 rfl rfl rfl fun _=>by kernel_rfl
def vH:Ctr:=⟨128,[Ad],[Cv],false,fun x=>iK x.1 x.2.1 x.2.2.1 x.2.2.2.1 x.2.2.2.2.1 x.2.2.2.2.2.1 x.2.2.2.2.2.2⟩
theorem Fy:aN Tryz.prog vH:=ck [dk,lL,rx] [.tmp 2] (.q .z (.q .z (.q Ae (.q (.q .z (.cut CF [] (.b (.lp ⟨[Az,Au,BX,(4,Ag)],BE,[]⟩ AV)))) (.q (.q .z (.cut CF [] (.b (.lp ⟨[Az,Au,BX,CV],BE,[]⟩ (.q Al (.q (.b (.q (.q .z (.cut ⟨[Az,Au,BX,Bq],BE,[]⟩ [] Ab)) .z)) .z)))))) (.q (.q .z (.cut CF [] (.b (.lp ⟨[Az,Au,BX,(6,Ag)],BE,[]⟩ (.q Al (.q (.b (.q .z (.cut ⟨[Az,Au,BX,AC],BE,[]⟩ [] Ab))) .z)))))) (.q .z (.q (.q .z (.cut CR [] (.b (.lp ⟨[Au,BX,BH,(9,Ag)],[],[]⟩ (.q Al (.q (.b (.q .z (.cut ⟨[Au,BX,BH,BQ],[],[]⟩ [] Ab))) .z)))))) Ab)))))))) ⟨fl,nO,zo,trivial⟩ aa4 Tryz.func128 Tryz.ntmps128 rfl rfl rfl fun _=>by kernel_rfl
def xu:Ctr:=⟨127,[Ad,.o (.sl .ro 86 As)],[Ak,AQ],false,fun x=>nh x.1 x.2.1 x.2.2.1 x.2.2.2.1 x.2.2.2.2.1 x.2.2.2.2.2.1 x.2.2.2.2.2.2.1 x.2.2.2.2.2.2.2⟩
theorem GN:aN Tryz.prog xu:=ck [dk,iB,sF] [.cell 4 33,.tmp 5] (.q .z (.q Ae (.q .z (.q .z (.q (.q .z (.cut CZ [] (.b (.lp ⟨[Az,Av,Bq,AC,BW,CE],[AD,(4,Am)],[]⟩ (.q Al (.q (.b (.q .z (.q .z (.cut ⟨[Az,Av,Bq,AC,BW,Ba],[AD,(4,Am)],[]⟩ [] BT)))) .z)))))) Ab))))) ⟨fl,ld,xM,trivial⟩ aa3 Tryz.func127 Tryz.ntmps127 rfl rfl rfl fun _=>by kernel_rfl
def vL:Ctr:=⟨59,[Ad],[Ak],false,fun x=>md x.1 x.2.1 x.2.2.1 x.2.2.2.1 x.2.2.2.2.1 x.2.2.2.2.2.1 x.2.2.2.2.2.2⟩
theorem FC:aN Tryz.prog vL:=ck [vH,xu] [.cell 2 33] Bx ⟨Fy,GN,trivial⟩ aei Tryz.func59 Tryz.ntmps59 rfl rfl rfl fun _=>by kernel_rfl
def vK:Ctr:=⟨17,[Ad,Cj],[Ak,BY],false,fun x=>er x.1 x.2.1 x.2.2.1 x.2.2.2.1 x.2.2.2.2.1 x.2.2.2.2.2.1 x.2.2.2.2.2.2.1 x.2.2.2.2.2.2.2⟩
theorem FB:aN Tryz.prog vK:=ck [dk,Eu,uf,yD,vL,xp,iB,jR,zQ,sF] [.cell 4 33,.tmp 5] (.q .z (.q Ae (.q .z (.q .z (.q .z (.q (.b (.q .z (.q Ab (.q .z (.q AL Ca))))) (.q .z (.q (.q .z (.cut ⟨[Au,Av,Bq,BP],[(12,[.k,.k,AP]),(4,Am),(2,Am)],[]⟩ [] Ab)) AL)))))))) ⟨fl,Lh,DX,HZ,FC,GL,ld,mK,JB,xM,trivial⟩ adQ Tryz.func17 Tryz.ntmps17 rfl rfl rfl fun _=>by kernel_rfl
def yp:Ctr:=⟨145,[.o Ch,AA],BR,false,fun x=>oE x.1 x.2⟩
theorem HO:aN Tryz.prog yp:=ck [] [.tmp 4] BV trivial abj Tryz.func145 Tryz.ntmps145 rfl rfl rfl fun _=>by kernel_rfl
def Er:Ctr:=⟨72,[.g [Ah,Ch],AA],BR,false,fun x=>rD x.1 x.2.1 x.2.2⟩
theorem Lc:aN Tryz.prog Er:=ck [yp] [.tmp 4] BV ⟨HO,trivial⟩ aeq Tryz.func72 Tryz.ntmps72 rfl rfl rfl fun _=>by kernel_rfl
def zG:Ctr:=⟨73,[.o Db,AA],BR,false,fun x=>pM x.1 x.2⟩
theorem Jr:aN Tryz.prog zG:=ck [] [.tmp 4] BV trivial aer Tryz.func73 Tryz.ntmps73 rfl rfl rfl fun _=>by kernel_rfl
def yo:Ctr:=⟨146,[AN,AA],BR,false,fun x=>lu x.1 x.2⟩
theorem HN:aN Tryz.prog yo:=ck [] [.tmp 4] BV trivial abk Tryz.func146 Tryz.ntmps146 rfl rfl rfl fun _=>by kernel_rfl
def vE:Ctr:=⟨147,[.o Ci,AA],BR,false,fun x=>lX x.1 x.2⟩
theorem Fv:aN Tryz.prog vE:=ck [] [.tmp 4] BV trivial abl Tryz.func147 Tryz.ntmps147 rfl rfl rfl fun _=>by kernel_rfl
def zI:Ctr:=⟨74,[.g [Aj,Aj,Ci],AA],BR,false,fun x=>pO x.1 x.2.1 x.2.2.1 x.2.2.2⟩
theorem Jt:aN Tryz.prog zI:=ck [yo,vE] [.tmp 4] (.q .z By) ⟨HN,Fv,trivial⟩ aes Tryz.func74 Tryz.ntmps74 rfl rfl rfl fun _=>by kernel_rfl
def zH:Ctr:=⟨75,[BN,AA],BR,false,fun x=>pN x.1 x.2⟩
theorem Js:aN Tryz.prog zH:=ck [] [.tmp 4] BV trivial aet Tryz.func75 Tryz.ntmps75 rfl rfl rfl fun _=>by kernel_rfl
def yq:Ctr:=⟨22,[Bm,AA],BR,false,fun x=>oF x.1 x.2.1 x.2.2.1 x.2.2.2.1 x.2.2.2.2.1 x.2.2.2.2.2.1 x.2.2.2.2.2.2.1 x.2.2.2.2.2.2.2⟩
theorem HP:aN Tryz.prog yq:=ck [Er,zG,zI,zH] [.tmp 4] (.q .z (.q .z (.q Ae By))) ⟨Lc,Jr,Jt,Js,trivial⟩ adS Tryz.func22 Tryz.ntmps22 rfl rfl rfl fun _=>by kernel_rfl
def zL:Ctr:=⟨196,[Bg],[.g [Ao,Ao,Ao]],false,fun x=>pR x.1 x.2.1 x.2.2⟩
theorem Jw:aN Tryz.prog zL:=ck [] [.cell 2 77] (.q .z AU) trivial ab2 Tryz.func196 Tryz.ntmps196 rfl rfl rfl fun _=>by kernel_rfl
def yv:Ctr:=⟨148,[.o Ch],[.o CU],false,fun x=>oG x⟩
theorem HR:aN Tryz.prog yv:=ck [zL] [.tmp 2] (.q .z (.q .z (.q (.q .z (.cut ⟨[Au,(3,.o (.w 77 As))],[],[]⟩ [] (.b (.lp ⟨[AY,Au,(3,.o (.w 77 As)),(4,Ag)],[],[]⟩ AV)))) Ab))) ⟨Jw,trivial⟩ abm Tryz.func148 Tryz.ntmps148 rfl rfl rfl fun _=>by kernel_rfl
def Et:Ctr:=⟨76,[.g [Ah,Ch]],[.g [Ao,CU]],false,fun x=>rF x.1 x.2⟩
theorem Le:aN Tryz.prog Et:=ck [yv] [.cell 2 25] AU ⟨HR,trivial⟩ aeu Tryz.func76 Tryz.ntmps76 rfl rfl rfl fun _=>by kernel_rfl
def Es:Ctr:=⟨149,[BM],[.g [Ao,Ao]],false,fun x=>rE x.1 x.2⟩
theorem Ld:aN Tryz.prog Es:=ck [] [.cell 2 122] AU trivial abn Tryz.func149 Tryz.ntmps149 rfl rfl rfl fun _=>by kernel_rfl
def zJ:Ctr:=⟨77,[.o Db],[.o (.row 122 Af)],false,fun x=>pP x⟩
theorem Ju:aN Tryz.prog zJ:=ck [Es] [.tmp 2] (.q .z (.q .z (.q (.q .z (.cut ⟨[Au,(3,Dc)],[],[]⟩ [] (.b (.lp ⟨[AY,Au,(3,Dc),(4,Ag)],[],[]⟩ AV)))) Ab))) ⟨Ld,trivial⟩ aev Tryz.func77 Tryz.ntmps77 rfl rfl rfl fun _=>by kernel_rfl
def yu:Ctr:=⟨150,[AN],[CD],false,fun x=>lv x⟩
theorem HQ:aN Tryz.prog yu:=ck [] [.tmp 2] (.q .z (.q .z (.q (.q .z (.cut ⟨[Au,(3,Cc)],[],[]⟩ [] (.b (.lp ⟨[AY,Au,(3,Cc),(4,Ag)],[],[]⟩ AV)))) Ab))) trivial abo Tryz.func150 Tryz.ntmps150 rfl rfl rfl fun _=>by kernel_rfl
def xn:Ctr:=⟨197,[BM],[.g [Ao,Ao]],false,fun x=>mZ x.1 x.2⟩
theorem GJ:aN Tryz.prog xn:=ck [] [.cell 2 125] AU trivial ab3 Tryz.func197 Tryz.ntmps197 rfl rfl rfl fun _=>by kernel_rfl
def vF:Ctr:=⟨151,[.o Ci],[.o BC],false,fun x=>ma x⟩
theorem Fw:aN Tryz.prog vF:=ck [xn] [.tmp 2] (.q .z (.q .z (.q (.q .z (.cut ⟨[Au,(3,De)],[],[]⟩ [] (.b (.lp ⟨[AY,Au,(3,De),(4,Ag)],[],[]⟩ AV)))) Ab))) ⟨GJ,trivial⟩ abp Tryz.func151 Tryz.ntmps151 rfl rfl rfl fun _=>by kernel_rfl
def zM:Ctr:=⟨78,[.g [Aj,Aj,Ci]],[Ck],false,fun x=>pS x.1 x.2.1 x.2.2⟩
theorem Jx:aN Tryz.prog zM:=ck [yu,vF] [.cell 2 30] (.q .z AU) ⟨HQ,Fw,trivial⟩ aew Tryz.func78 Tryz.ntmps78 rfl rfl rfl fun _=>by kernel_rfl
def zK:Ctr:=⟨79,[BN],CO,false,fun x=>pQ x⟩
theorem Jv:aN Tryz.prog zK:=ck [] [.tmp 2] (.q .z (.q .z (.q (.q .z (.cut ⟨[Au,(3,AF)],[],[]⟩ [] (.b (.lp ⟨[AY,Au,(3,AF),(4,Ag)],[],[]⟩ AV)))) Ab))) trivial aex Tryz.func79 Tryz.ntmps79 rfl rfl rfl fun _=>by kernel_rfl
def yw:Ctr:=⟨23,[Bm],[Ak],false,fun x=>eD x.1 x.2.1 x.2.2.1 x.2.2.2.1 x.2.2.2.2.1 x.2.2.2.2.2.1 x.2.2.2.2.2.2⟩
theorem HS:aN Tryz.prog yw:=ck [Et,zJ,zM,zK] [.cell 2 33] (.q .z (.q .z AU)) ⟨Le,Ju,Jx,Jv,trivial⟩ adT Tryz.func23 Tryz.ntmps23 rfl rfl rfl fun _=>by kernel_rfl
def zE:Ctr:=⟨198,[Bg,Bg],BF,false,fun x=>pK x.1 x.2.1 x.2.2.1 x.2.2.2.1 x.2.2.2.2.1 x.2.2.2.2.2⟩
theorem Jp:aN Tryz.prog zE:=ck [] [.tmp 4] CP trivial ab4 Tryz.func198 Tryz.ntmps198 rfl rfl rfl fun _=>by kernel_rfl
def yi:Ctr:=⟨152,[.o Bf,.o Bf],BF,false,fun x=>oD x.1 x.2⟩
theorem HI:aN Tryz.prog yi:=ck [zE] [.tmp 4] Cb ⟨Jp,trivial⟩ abq Tryz.func152 Tryz.ntmps152 rfl rfl rfl fun _=>by kernel_rfl
def Ep:Ctr:=⟨80,[Ai,Ai],BF,false,fun x=>rC x.1 x.2.1 x.2.2.1 x.2.2.2⟩
theorem Lb:aN Tryz.prog Ep:=ck [yi] [.tmp 4] CT ⟨HI,trivial⟩ aey Tryz.func80 Tryz.ntmps80 rfl rfl rfl fun _=>by kernel_rfl
def Eo:Ctr:=⟨153,[BM,BM],BF,false,fun x=>rB x.1 x.2.1 x.2.2.1 x.2.2.2⟩
theorem La:aN Tryz.prog Eo:=ck [] [.tmp 4] CT trivial abr Tryz.func153 Tryz.ntmps153 rfl rfl rfl fun _=>by kernel_rfl
def zC:Ctr:=⟨81,[Ap,Ap],BF,false,fun x=>pI x.1 x.2⟩
theorem Jm:aN Tryz.prog zC:=ck [Eo] [.tmp 4] Cb ⟨La,trivial⟩ aez Tryz.func81 Tryz.ntmps81 rfl rfl rfl fun _=>by kernel_rfl
def yg:Ctr:=⟨154,[AN,AN],BF,false,fun x=>lr x.1 x.2⟩
theorem HH:aN Tryz.prog yg:=ck [] [.tmp 4] Cb trivial abs Tryz.func154 Tryz.ntmps154 rfl rfl rfl fun _=>by kernel_rfl
def xf:Ctr:=⟨199,[BM,BM],BF,false,fun x=>mU x.1 x.2.1 x.2.2.1 x.2.2.2⟩
theorem GC:aN Tryz.prog xf:=ck [] [.tmp 4] CT trivial ab5 Tryz.func199 Tryz.ntmps199 rfl rfl rfl fun _=>by kernel_rfl
def vx:Ctr:=⟨155,[Bp,Bp],BF,false,fun x=>lS x.1 x.2⟩
theorem Fl:aN Tryz.prog vx:=ck [xf] [.tmp 4] Cb ⟨GC,trivial⟩ abt Tryz.func155 Tryz.ntmps155 rfl rfl rfl fun _=>by kernel_rfl
def zF:Ctr:=⟨82,[AE,AE],BF,false,fun x=>pL x.1 x.2.1 x.2.2.1 x.2.2.2.1 x.2.2.2.2.1 x.2.2.2.2.2⟩
theorem Jq:aN Tryz.prog zF:=ck [yg,vx] [.tmp 4] CP ⟨HH,Fl,trivial⟩ aeA Tryz.func82 Tryz.ntmps82 rfl rfl rfl fun _=>by kernel_rfl
def zD:Ctr:=⟨83,[BN,BN],BF,false,fun x=>pJ x.1 x.2⟩
theorem Jo:aN Tryz.prog zD:=ck [] [.tmp 4] Cb trivial aeB Tryz.func83 Tryz.ntmps83 rfl rfl rfl fun _=>by kernel_rfl
def yj:Ctr:=⟨24,[Ad,Ad],BF,false,fun x=>eC x.1 x.2.1 x.2.2.1 x.2.2.2.1 x.2.2.2.2.1 x.2.2.2.2.2.1 x.2.2.2.2.2.2.1 x.2.2.2.2.2.2.2.1 x.2.2.2.2.2.2.2.2.1 x.2.2.2.2.2.2.2.2.2.1 x.2.2.2.2.2.2.2.2.2.2.1 x.2.2.2.2.2.2.2.2.2.2.2.1 x.2.2.2.2.2.2.2.2.2.2.2.2.1 x.2.2.2.2.2.2.2.2.2.2.2.2.2⟩
theorem HJ:aN Tryz.prog yj:=ck [Ep,zC,zF,zD] [.tmp 4] (.q .z (.q Ae (.q Ae Bh))) ⟨Lb,Jm,Jq,Jo,trivial⟩ adU Tryz.func24 Tryz.ntmps24 rfl rfl rfl fun _=>by kernel_rfl
def vC:Ctr:=⟨156,[.o (.sl .mu 77 As),AA],BR,true,fun x=>lV x.1 x.2⟩
theorem Ft:aN Tryz.prog vC:=ck [] [.tmp 4] (.q .z (.q (.q .z (.cut ⟨Cf,[],[(0,.r 77 As)]⟩ [] (.b (.lp ⟨[(0,.o (.w 77 As)),(1,Ag),Av,CV],[],[]⟩ (.q Al (.q (.b AU) .z)))))) Ab)) trivial abu Tryz.func156 Tryz.ntmps156 rfl rfl rfl fun _=>by kernel_rfl
def yn:Ctr:=⟨84,[.g [Ah,.sl .mu 77 As],AA],BR,true,fun x=>sM x.1 x.2.1 x.2.2⟩
theorem HM:aN Tryz.prog yn:=ck [vC] [.tmp 4] Bx ⟨Ft,trivial⟩ aeC Tryz.func84 Tryz.ntmps84 rfl rfl rfl fun _=>by kernel_rfl
def xj:Ctr:=⟨85,[.o (.sl .mu 122 Af),AA],BR,true,fun x=>mX x.1 x.2⟩
theorem GG:aN Tryz.prog xj:=ck [] [.tmp 4] (.q .z (.q (.q .z (.cut ⟨Cf,[],[(0,.r 122 Af)]⟩ [] (.b (.lp ⟨[(0,Dc),(1,Ag),Av,CV],[],[]⟩ (.q Al (.q (.b Bx) .z)))))) Ab)) trivial aeD Tryz.func85 Tryz.ntmps85 rfl rfl rfl fun _=>by kernel_rfl
def vB:Ctr:=⟨157,[.o BS,AA],BR,true,fun x=>iI x.1 x.2⟩
theorem Fq:aN Tryz.prog vB:=ck [] [.tmp 4] (.q .z (.q (.q .z (.cut ⟨Cf,[],[(0,Cq)]⟩ [] (.b (.lp ⟨[(0,Cc),(1,Ag),Av,CV],[],[]⟩ BI)))) Ab)) trivial abv Tryz.func157 Tryz.ntmps157 rfl rfl rfl fun _=>by kernel_rfl
def sC:Ctr:=⟨158,[.o Df,AA],BR,true,fun x=>jq x.1 x.2⟩
theorem Di:aN Tryz.prog sC:=ck [] [.tmp 4] (.q .z (.q (.q .z (.cut ⟨Cf,[],[(0,CH)]⟩ [] (.b (.lp ⟨[(0,De),(1,Ag),Av,CV],[],[]⟩ (.q Al (.q (.b Bx) .z)))))) Ab)) trivial abw Tryz.func158 Tryz.ntmps158 rfl rfl rfl fun _=>by kernel_rfl
def xl:Ctr:=⟨86,[.g [BS,BS,Df],AA],BR,true,fun x=>qG x.1 x.2.1 x.2.2.1 x.2.2.2⟩
theorem GI:aN Tryz.prog xl:=ck [vB,sC] [.tmp 4] AU ⟨Fq,Di,trivial⟩ aeE Tryz.func86 Tryz.ntmps86 rfl rfl rfl fun _=>by kernel_rfl
def xk:Ctr:=⟨87,[.o Bw,AA],BR,true,fun x=>mY x.1 x.2⟩
theorem GH:aN Tryz.prog xk:=ck [] [.tmp 4] (.q .z (.q (.q .z (.cut ⟨Cf,[],[(0,Aw)]⟩ [] (.b (.lp ⟨[(0,AF),(1,Ag),Av,CV],[],[]⟩ BI)))) Ab)) trivial aeF Tryz.func87 Tryz.ntmps87 rfl rfl rfl fun _=>by kernel_rfl
def vD:Ctr:=⟨25,[.g Cr,AA],BR,true,fun x=>lW x.1 x.2.1 x.2.2.1 x.2.2.2.1 x.2.2.2.2.1 x.2.2.2.2.2.1 x.2.2.2.2.2.2.1 x.2.2.2.2.2.2.2⟩
theorem Fu:aN Tryz.prog vD:=ck [yn,xj,xl,xk] [.tmp 4] (.q .z AU) ⟨HM,GG,GI,GH,trivial⟩ adV Tryz.func25 Tryz.ntmps25 rfl rfl rfl fun _=>by kernel_rfl
def vz:Ctr:=⟨159,[.o Bf,AA],BR,false,fun x=>lT x.1 x.2⟩
theorem Fn:aN Tryz.prog vz:=ck [] [.tmp 4] (.q .z (.q (.q .z (.cut ⟨Cf,[],[]⟩ BO (.b (.lp Ce (.q Al (.q (.b (.q Ae (.q .z (.q Ae (.q .z Cs))))) .z)))))) Ab)) trivial abx Tryz.func159 Tryz.ntmps159 rfl rfl rfl fun _=>by kernel_rfl
def yk:Ctr:=⟨88,[Ai,AA],BR,false,fun x=>sL x.1 x.2.1 x.2.2⟩
theorem HK:aN Tryz.prog yk:=ck [vz] [.tmp 4] BV ⟨Fn,trivial⟩ aeG Tryz.func88 Tryz.ntmps88 rfl rfl rfl fun _=>by kernel_rfl
def xg:Ctr:=⟨89,[Ap,AA],BR,false,fun x=>mV x.1 x.2⟩
theorem GD:aN Tryz.prog xg:=ck [] [.tmp 4] AZ trivial aeH Tryz.func89 Tryz.ntmps89 rfl rfl rfl fun _=>by kernel_rfl
def vy:Ctr:=⟨160,[AN,AA],BR,false,fun x=>iH x.1 x.2⟩
theorem Fm:aN Tryz.prog vy:=ck [] [.tmp 4] Be trivial aby Tryz.func160 Tryz.ntmps160 rfl rfl rfl fun _=>by kernel_rfl
def sy:Ctr:=⟨161,[Bp,AA],BR,false,fun x=>jm x.1 x.2⟩
theorem Dh:aN Tryz.prog sy:=ck [] [.tmp 4] AZ trivial abz Tryz.func161 Tryz.ntmps161 rfl rfl rfl fun _=>by kernel_rfl
def xi:Ctr:=⟨90,[AE,AA],BR,false,fun x=>qF x.1 x.2.1 x.2.2.1 x.2.2.2⟩
theorem GF:aN Tryz.prog xi:=ck [vy,sy] [.tmp 4] (.q .z By) ⟨Fm,Dh,trivial⟩ aeI Tryz.func90 Tryz.ntmps90 rfl rfl rfl fun _=>by kernel_rfl
def xh:Ctr:=⟨91,[BN,AA],BR,false,fun x=>mW x.1 x.2⟩
theorem GE:aN Tryz.prog xh:=ck [] [.tmp 4] Be trivial aeJ Tryz.func91 Tryz.ntmps91 rfl rfl rfl fun _=>by kernel_rfl
def vA:Ctr:=⟨26,[Ad,AA],BR,false,fun x=>lU x.1 x.2.1 x.2.2.1 x.2.2.2.1 x.2.2.2.2.1 x.2.2.2.2.2.1 x.2.2.2.2.2.2.1 x.2.2.2.2.2.2.2⟩
theorem Fp:aN Tryz.prog vA:=ck [yk,xg,xi,xh] [.tmp 4] (.q .z (.q .z (.q Ae By))) ⟨HK,GD,GF,GE,trivial⟩ adW Tryz.func26 Tryz.ntmps26 rfl rfl rfl fun _=>by kernel_rfl
def vv:Ctr:=⟨6,[Bm,Cj],BF,false,fun x=>dm x.1 x.2.1 x.2.2.1 x.2.2.2.1 x.2.2.2.2.1 x.2.2.2.2.2.1 x.2.2.2.2.2.2.1 x.2.2.2.2.2.2.2⟩
theorem uK:aN Tryz.prog vv:=ck [yq,yw,vK,vq,yj,vD,vA] [.tmp 4] (.q .z (.q Ae (.q .z (.q .z (.q Ae (.q .z (.q .z (.q .z (.q Ae (.q Ae (.q .z (.q .z (.q Ae (.q .z (.q .z (.q .z (.q .z (.q Ae (.q Ae (.q .z (.q Ae (.q .z CT)))))))))))))))))))))) ⟨HP,HS,FB,Fi,HJ,Fu,Fp,trivial⟩ ⟨by kernel_rfl⟩ Tryz.func6 Tryz.ntmps6 rfl rfl rfl fun _=>by kernel_rfl
theorem uH {x0:Int} {x1:List (Int×Int×Int)} {x2:List (Int×Int)} {x3:List Bool} {x4:List Bool} {x5:List (Int×Int)} {x6:List Int} {x7:ByteArray} {A1:Option Addr} {n1 c1:Nat} {A2:Option Addr} {n2 c2:Nat} {A3:Option Addr} {n3 c3:Nat} {A4:Option Addr} {n4 c4:Nat} {A5:Option Addr} {n5 c5:Nat} {A6:Option Addr} {n6 c6:Nat} {w:World} (hbs:Bs w) {r:Bool} (h1:Rt w 3 Dk A1 n1 c1 x1) (h2:Rt w 2 Kh A2 n2 c2 x2) (h3:Rt w 1 eB A3 n3 c3 x3) (h4:Rt w 1 eB A4 n4 c4 x4) (h5:Rt w 2 rT A5 n5 c5 x5) (h6:Rt w 1 eI A6 n6 c6 x6) (hM:dm x0 x1 x2 x3 x4 x5 x6 x7=some r):
 Calls Tryz.prog 6 #[.agg #[.int .i64 x0,.slice A1 n1 c1,.slice A2 n2 c2,.slice A3 n3 c3,.slice A4 n4 c4,.slice A5 n5 c5,.slice A6 n6 c6],.string x7] w (fun e w'=>e= .returned (.bool r)∧St w w' []):=by
 obtain rfl:=h1.len
 obtain rfl:=h2.len
 obtain rfl:=h3.len
 obtain rfl:=h4.len
 obtain rfl:=h5.len
 obtain rfl:=h6.len
 exact Yh uK (x:=(x0,x1,x2,x3,x4,x5,x6,x7)) hM (e:=ZW [(none,0),(A1,c1),(A2,c2),(A3,c3),(A4,c4),(A5,c5),(A6,c6),(none,0)]) hbs ⟨_,_,rfl,⟨_,_,rfl⟩,⟨_,_,rfl,⟨_,rfl,fun _ _ S _=>S.rc0 h1.rc⟩,⟨_,_,rfl,⟨_,rfl,fun _ _ S _=>S.rc0 h2.rc⟩,⟨_,_,rfl,⟨_,rfl,fun _ _ S _=>S.rc0 h3.rc⟩,⟨_,_,rfl,⟨_,rfl,fun _ _ S _=>S.rc0 h4.rc⟩,⟨_,_,rfl,⟨_,rfl,fun _ _ S _=>S.rc0 h5.rc⟩,⟨_,_,rfl,⟨_,rfl,fun _ _ S _=>S.rc0 h6.rc⟩,⟨_,_,rfl,⟨_,rfl⟩,rfl⟩⟩⟩⟩⟩⟩⟩⟩ rfl rfl rfl
end
end Go.Proofs.YtjdlgannencchaaGreatDoor
namespace Go.Proofs.YtjdlgannencchaaGreatDoor
open Go.Lib
set_option linter.unusedVariables false
set_option linter.unusedSimpArgs false
def tl (s:ByteArray):List UInt8:=s.data.toList
theorem zh (s:ByteArray):(tl s).length=s.size:=by simp [tl]
theorem Gc (l:List UInt8):tl (aW l)=l:=kW l
theorem XK (s:ByteArray):s.toList=tl s:=ByteArray.toList_eq s
theorem Kb (s:ByteArray) (k:Nat):kX s (k:Int)=(((tl s).getD k 0).toNat:Int):=rfl
theorem Kg (c:UInt8):dv c≤207:=by have:=c.toNat_lt;unfold dv;omega
theorem XN (l:List UInt8) (h:l.length≤3):pB l≤100000:=by
 match l,h with
 | [],_=>simp [pB]
 | [a],_=>have:=Kg a;simp [pB];omega
 | [a,b],_=>have:=Kg a;have:=Kg b;simp [pB];omega
 | [a,b,c],_=>have:=Kg a;have:=Kg b;have:=Kg c;simp [pB];omega
theorem SL (l:List UInt8) {k:Nat} (h:k<l.length):pB (l.take (k+1))=10*pB (l.take k)+dv (l.getD k 0):=by
 unfold pB
 rw [List.take_succ_eq_append_getElem h,List.foldl_append,ac h];rfl
theorem Tr (c:UInt8):(af (c.toNat:Int) 48 ||af 57 (c.toNat:Int))= !nV c:=by
 unfold af nV
 by_cases h1:48≤c.toNat<;>by_cases h2:c.toNat≤57<;>simp [h1,h2]<;>omega
theorem MT (s:ByteArray) (h:s.size≤3):bS s ai (0,0)=some (if (tl s).all nV=true then .inl (pB (tl s):Int) else .inr (-1)):=by
 have hl:=zh s
 have hh:=bU (bS s) (fun k=>((pB ((tl s).take k):Int),(k:Int))) s.size (fun k=> !nV ((tl s).getD k 0)) (some (.inr (-1))) (some (.inl (pB (tl s):Int))) (by omega) (fun k fuel hk=>by
  have hk2:k<(tl s).length:=by omega
  have hv:=XN ((tl s).take k) (by simp;omega)
  rw [rY,hH]
  simp only [au hk,ae hk,Kb,Tr,Bool.or_true,aa,cond_true,ab (by omega:k<4611686018427387904)]
  cases hd:nV ((tl s).getD k 0) with
  |false=>rfl
  |true=>
   have hr:=Em hd
   have hdv:(((tl s).getD k 0).toNat:Int)-48=(dv ((tl s).getD k 0):Int):=by unfold dv;omega
   have hlt:=uP hd
   simp only [Bool.not_true,cond_false]
   have e1:az (10*(pB ((tl s).take k):Int))=10*(pB ((tl s).take k):Int):=aV (by omega)
   have e2:az (dv ((tl s).getD k 0):Int)=(dv ((tl s).getD k 0):Int):=aV (by omega)
   rw [hdv,wk8 (by omega),e1,e2,aV (by omega),SL _ hk2]
   rfl) (fun fuel=>by
   have ht:(tl s).take s.size=tl s:=List.take_of_length_le (by omega)
   rw [rY,hH,ht]
   simp only [ak,cond_false])
 rw [←hl,ME (tl s) 0 (fun c=> !nV c)] at hh
 have hany:(tl s).any (fun c=> !nV c)= !(tl s).all nV:=by simp [List.all_eq_not_any_not]
 rw [hany] at hh
 rw [show bS s ai (0,0)=_ from hh]
 cases (tl s).all nV<;>rfl
theorem WK (s:ByteArray):mS s=some (OQ (tl s)):=by
 have hl:=zh s
 unfold mS OQ
 by_cases h:1≤s.size∧s.size≤3
 ·rw [show af (s.size:Int) 1=false from decide_eq_false (by omega),show af 3 (s.size:Int)=false from decide_eq_false (by omega),MT s h.2]
  by_cases ha:(tl s).all nV=true
  ·have hc:1≤(tl s).length∧(tl s).length≤3∧(tl s).all nV=true:=⟨by omega,by omega,ha⟩
   rw [if_pos hc];simp [ha]
  ·have hc: ¬(1≤(tl s).length∧(tl s).length≤3∧(tl s).all nV=true):=fun k=>ha k.2.2
   rw [if_neg hc];simp [ha]
 ·have hc: ¬(1≤(tl s).length∧(tl s).length≤3∧(tl s).all nV=true):=fun k=>h ⟨by omega,by omega⟩
  rw [if_neg hc]
  have:(af (s.size:Int) 1 ||af 3 (s.size:Int))=true:=by
   unfold af;simp only [Bool.or_eq_true,decide_eq_true_eq];omega
  rw [this];rfl
theorem Ej (s:ByteArray):aD s=some (OQ (tl s),decide (0≤bf (tl s))):=by
 have hb:=YT (tl s)
 unfold aD
 rw [WK,Option.bind_some]
 by_cases h:0≤OQ (tl s)
 ·obtain ⟨n,hn⟩: ∃n:Nat,OQ (tl s)=n:=⟨(OQ (tl s)).toNat,by omega⟩
  have h3:=UB (tl s)
  rw [hn] at hb h3 ⊢
  rw [show aF 0 (n:Int)=true from decide_eq_true (by omega),QH (by omega)]
  simp only [gb,cond_true,Option.bind_some,Bool.true_and,my,XK]
  rw [Int.toNat_natCast] at h3
  congr 2
  rw [Bool.eq_iff_iff,beq_iff_eq,decide_eq_true_eq,←h3]
  exact ⟨fun e=>⟨by omega,e⟩,fun e=>e.2⟩
 ·have h3: ¬0≤bf (tl s):=fun k=>h (by rw [xQ k];exact k)
  rw [show aF 0 (OQ (tl s))=false from decide_eq_false h,decide_eq_false h3]
  rfl
theorem adw (s:ByteArray):mG s=some (bf (tl s)):=by
 have hl:=zh s
 have same:vP s=bS s:=rfl
 unfold mG am bf
 rw [same]
 by_cases h:1≤s.size∧s.size≤3
 ·have h1:(aF 1 (s.size:Int)&&aF (s.size:Int) 3)=true:=by unfold aF;simp;omega
  have h0:aq 0 s.size=true:=decide_eq_true (by omega)
  have hz:((kX s 0)==48)=decide ((tl s).headD 0=48):=by
   rw [show kX s 0=(((tl s).getD 0 0).toNat:Int) from rfl,show (tl s).getD 0 0=(tl s).headD 0 by cases tl s<;>rfl]
   generalize (tl s).headD 0=c
   rw [Bool.eq_iff_iff,beq_iff_eq,decide_eq_true_eq]
   exact ⟨fun e=>UInt8.toNat_inj.1 (by have:c.toNat=48:=by omega
                                       rw [this];rfl),fun e=>by subst e;rfl⟩
  simp only [Option.bind_some,h1,h0,hz,Bool.not_true,Bool.false_or,Bool.or_true,aa]
  rw [MT s h.2]
  by_cases h2:1<s.size∧(tl s).headD 0=48
  ·have hc: ¬((1≤(tl s).length∧(tl s).length≤3∧(tl s).all nV=true)∧ ¬(1<(tl s).length∧(tl s).headD 0=48)):=fun k=>k.2 ⟨by omega,h2.2⟩
   rw [if_neg hc,show af 1 (s.size:Int)=true from decide_eq_true (by omega),decide_eq_true h2.2];rfl
  ·have:(af 1 (s.size:Int)&&decide ((tl s).headD 0=48))=false:=by
    rw [Bool.eq_false_iff];intro hh;simp only [Bool.and_eq_true,decide_eq_true_eq,af] at hh;exact h2 ⟨by omega,hh.2⟩
   rw [this]
   by_cases ha:(tl s).all nV=true
   ·have hc:(1≤(tl s).length∧(tl s).length≤3∧(tl s).all nV=true)∧ ¬(1<(tl s).length∧(tl s).headD 0=48):=⟨⟨by omega,by omega,ha⟩,fun k=>h2 ⟨by omega,k.2⟩⟩
    rw [if_pos hc];simp [ha]
   ·have hc: ¬((1≤(tl s).length∧(tl s).length≤3∧(tl s).all nV=true)∧ ¬(1<(tl s).length∧(tl s).headD 0=48)):=fun k=>ha k.1.2.2
    rw [if_neg hc];simp [ha]
 ·have h1:(aF 1 (s.size:Int)&&aF (s.size:Int) 3)=false:=by unfold aF;rw [Bool.eq_false_iff];simp;omega
  have hc: ¬((1≤(tl s).length∧(tl s).length≤3∧(tl s).all nV=true)∧ ¬(1<(tl s).length∧(tl s).headD 0=48)):=fun k=>h ⟨by omega,by omega⟩
  rw [if_neg hc]
  simp [h1]
def iV (c:UInt8) (l:List UInt8):Nat→List (List UInt8)×Nat
 |0=>([],0)
 |k+1=>if l.getD k 0=c then ((iV c l k).1++ [(l.drop (iV c l k).2).take (k-(iV c l k).2)],k+1) else iV c l k
theorem GY (c:UInt8) (l:List UInt8): ∀k,(iV c l k).2≤k∧(iV c l k).1.length≤k
 |0=>by simp [iV]
 |k+1=>by
  have:=GY c l k
  unfold iV;split
  ·simp;omega
  ·omega
theorem MO (c:UInt8) (l:List UInt8): ∀k,k≤l.length→(∀j,(iV c l k).2≤j→j<k→l.getD j 0≠c)∧ek c l=(iV c l k).1++ek c (l.drop (iV c l k).2)
 |0,_=>by simp [iV]
 |k+1,hk=>by
  obtain ⟨h1,h2⟩:=MO c l k (by omega)
  have hle:=(GY c l k).1
  unfold iV;split
  ·rename_i e
   refine ⟨fun j h3 h4=>by simp only at h3;omega,?_⟩
   have hsp:l.drop (iV c l k).2=(l.drop (iV c l k).2).take (k-(iV c l k).2)++c::l.drop (k+1):=by
    conv=>lhs;rw [←List.take_append_drop (k-(iV c l k).2) (l.drop (iV c l k).2)]
    rw [List.drop_drop,show (iV c l k).2+(k-(iV c l k).2)=k by omega,List.drop_eq_getElem_cons (by omega:k<l.length),←ac (d:=0) (by omega:k<l.length),e]
   have hn:c∉(l.drop (iV c l k).2).take (k-(iV c l k).2):=by
    intro hm
    obtain ⟨j,hj,he⟩:=List.mem_iff_getElem.1 hm
    have hj2:j<k-(iV c l k).2:=by have:=List.length_take_le (k-(iV c l k).2) (l.drop (iV c l k).2);omega
    have:=h1 ((iV c l k).2+j) (by omega) (by omega)
    rw [ac (by omega:(iV c l k).2+j<l.length)] at this
    simp only [List.getElem_take,List.getElem_drop] at he
    exact this he
   rw [h2]
   conv=>lhs;rw [hsp,Hw c _ _ hn]
   simp
  ·rename_i e
   refine ⟨fun j h3 h4=>?_,h2⟩
   rcases Nat.lt_or_ge j k with h |h
   ·exact h1 j h3 h
   ·obtain rfl:j=k:=by omega
    exact e
theorem Kl (s:ByteArray) (a b:Nat):ByteArray.extract s a b=aW (((tl s).drop a).take (b-a)):=by
 rw [←uG s]
 exact ByteArray.extract_mk s.data.toList a b
theorem ae0 (s:ByteArray) (hs:s.size≤1048576):rG s 32=some ((ek 32 (tl s)).map aW):=by
 have hl:=zh s
 unfold rG
 have hh:=ax (jT s 32) (fun k=>((iV 32 (tl s) k).1.map aW,((iV 32 (tl s) k).2:Int),(k:Int))) s.size (some ((iV 32 (tl s) s.size).1.map aW,((iV 32 (tl s) s.size).2:Int))) (by omega) (fun k fuel hk=>by
  obtain ⟨c1,c2⟩:=GY 32 (tl s) k
  rw [wP,me]
  have hb:((((tl s).getD k 0).toNat:Int)==32)=decide ((tl s).getD k 0=32):=by
   generalize (tl s).getD k 0=c
   rw [Bool.eq_iff_iff,beq_iff_eq,decide_eq_true_eq]
   exact ⟨fun e=>UInt8.toNat_inj.1 (by have:c.toNat=32:=by omega
                                       rw [this];rfl),fun e=>by subst e;rfl⟩
  simp only [au hk,ae hk,Kb,hb,aa,cond_true,ab (by omega:k<4611686018427387904)]
  have b1:zt ((iV 32 (tl s) k).2:Int) (k:Int) s.size=true:=decide_eq_true (by omega)
  have b2: ∀x:ByteArray,bq ((iV 32 (tl s) k).1.map aW).length ([x]:List ByteArray).length=true:=fun x=>decide_eq_true (by simp;omega)
  by_cases e:(tl s).getD k 0=32
  ·rw [decide_eq_true e]
   simp only [cond_true,b1,b2,aa,Option.bind_some,Int.toNat_natCast,Kl]
   conv=>rhs;unfold iV
   rw [if_pos e]
   simp
  ·rw [decide_eq_false e]
   simp only [cond_false,Option.bind_some]
   conv=>rhs;unfold iV
   rw [if_neg e]) (fun fuel=>by
  rw [wP,me];simp only [ak,cond_false])
 rw [show jT s 32 ai (([]:List ByteArray),0,0)=_ from hh]
 obtain ⟨c1,c2⟩:=GY 32 (tl s) s.size
 obtain ⟨d1,d2⟩:=MO 32 (tl s) s.size (by omega)
 have b1:zt ((iV 32 (tl s) s.size).2:Int) (s.size:Int) s.size=true:=decide_eq_true (by omega)
 have b2: ∀x:ByteArray,bq ((iV 32 (tl s) s.size).1.map aW).length ([x]:List ByteArray).length=true:=fun x=>decide_eq_true (by simp;omega)
 simp only [Option.bind_some,b1,b2,aa,Kl,Int.toNat_natCast]
 have hn:(32:UInt8)∉(tl s).drop (iV 32 (tl s) s.size).2:=by
  intro hm
  obtain ⟨j,hj,he⟩:=List.mem_iff_getElem.1 hm
  rw [List.length_drop] at hj
  have:=d1 ((iV 32 (tl s) s.size).2+j) (by omega) (by omega)
  rw [ac (by omega)] at this
  rw [List.getElem_drop] at he
  exact this he
 rw [d2,yY 32 _ hn,List.map_append,List.take_of_length_le (by rw [List.length_drop];omega)]
 rfl
end Go.Proofs.YtjdlgannencchaaGreatDoor
namespace Go.Proofs.YtjdlgannencchaaGreatDoor
open Go.ChangeShapes Go.WideShapes Go.ChangeAt Go.RowKit
set_option linter.unusedVariables false
set_option linter.unusedSimpArgs false
theorem Do {σ Out:Type} (L:Nat→σ→Option Out) (st:Nat→σ) (n:Nat) (P:Nat→Bool) (fv:Nat→Option Out) (out:Option Out) (hn:n≤1099511627776) (hstep: ∀k fuel,k<n→L (fuel+1) (st k)=bif P k then fv k else L fuel (st (k+1))) (hend: ∀fuel,L (fuel+1) (st n)=out):
 L ai (st 0)=match (List.range n).find? P with |some k=>fv k |none=>out:=by
 have key: ∀j k fuel,k+j=n→j<fuel→L fuel (st k)=match (List.range' k j).find? P with |some k=>fv k |none=>out:=by
  intro j
  induction j with
  |zero=>
   intro k fuel hk hf
   obtain ⟨f,rfl⟩: ∃f,fuel=f+1:=⟨fuel-1,by omega⟩
   obtain rfl:k=n:=by omega
   simpa using hend f
  |succ j ih=>
   intro k fuel hk hf
   obtain ⟨f,rfl⟩: ∃f,fuel=f+1:=⟨fuel-1,by omega⟩
   rw [hstep k f (by omega),ih (k+1) f (by omega) (by omega),List.range'_succ,List.find?_cons]
   cases P k<;>simp
 rw [key n 0 ai (by omega) (pF hn),List.range_eq_range']
abbrev Pm:=List (Int×Int)
abbrev Wk:=List Bool×List Bool×Pm
def SR (l:Pm) (p:Int×Int):Int:=match (List.range l.length).find? (fun k=>(l.getD k (0,0)).1==p.1&&(l.getD k (0,0)).2==p.2) with |some k=>(k:Int) |none=> -1
theorem xW (l:Pm) (p:Int×Int):(SR l p= -1∧p∉l)∨(∃k,k<l.length∧SR l p=(k:Int)∧l.getD k (0,0)=p∧ ∀j,j<k→l.getD j (0,0)≠p):=by
 unfold SR
 cases h:(List.range l.length).find? (fun k=>(l.getD k (0,0)).1==p.1&&(l.getD k (0,0)).2==p.2) with
 |none=>
  left
  refine ⟨rfl,fun hp=>?_⟩
  obtain ⟨k,hk,rfl⟩:=List.mem_iff_getElem.1 hp
  have:=List.find?_eq_none.1 h k (by simpa using hk)
  rw [ac hk] at this
  simp at this
 |some k=>
  right
  obtain ⟨h1,h2,h3⟩:=List.find?_range_eq_some.1 h
  have hk:k<l.length:=by simpa using h2
  simp only [Bool.and_eq_true,beq_iff_eq] at h1
  refine ⟨k,hk,rfl,Prod.ext h1.1 h1.2,fun j hj e=>?_⟩
  have:=h3 j hj
  rw [e] at this
  simp at this
theorem Lv {l:Pm} {p:Int×Int}:aF 0 (SR l p)=decide (p∈l):=by
 rcases xW l p with ⟨h1,h2⟩ |⟨k,hk,h1,h2,h3⟩
 ·rw [h1];simp [aF,h2]
 ·have:p∈l:=by rw [←h2,ac hk];exact List.getElem_mem hk
  rw [h1];simp [aF,this]
theorem rI {l:Pm} {p:Int×Int} {k:Nat}:p∈l.take k↔ ∃j,j<k∧j<l.length∧l.getD j (0,0)=p:=by
 constructor
 ·intro h
  obtain ⟨j,hj,rfl⟩:=List.mem_iff_getElem.1 h
  have hj':j<k∧j<l.length:=by rw [List.length_take] at hj;omega
  exact ⟨j,hj'.1,hj'.2,by rw [ac hj'.2];simp⟩
 ·rintro ⟨j,h1,h2,rfl⟩
  rw [ac h2]
  exact List.mem_iff_getElem.2 ⟨j,by simp;omega,by simp⟩
theorem TE {l:Pm} {k:Nat} (hk:k<l.length):af (SR l (l.getD k (0,0))) (k:Int)=decide (l.getD k (0,0)∈l.take k):=by
 rcases xW l (l.getD k (0,0)) with ⟨h1,h2⟩ |⟨i,hi,h1,h2,h3⟩
 ·exact absurd (by rw [ac hk];exact List.getElem_mem hk) h2
 ·rw [h1]
  have hle:i≤k:=by
   rcases Nat.lt_or_ge k i with h |h
   ·exact absurd rfl (h3 k h)
   ·exact h
  rcases Nat.lt_or_ge i k with h |h
  ·have:l.getD k (0,0)∈l.take k:=rI.2 ⟨i,h,hi,h2⟩
   rw [decide_eq_true this];exact decide_eq_true (by omega)
  ·obtain rfl:i=k:=by omega
   have: ¬l.getD i (0,0)∈l.take i:=fun hm=>by
    obtain ⟨j,j1,j2,j3⟩:=rI.1 hm
    exact h3 j j1 j3
   rw [decide_eq_false this];exact decide_eq_false (by omega)
def IH (on earth:List Bool) (pm:Pm) (k:Nat):Bool:=
 Kq (pm.getD k (0,0)).1 0 9&&(decide (0≤(pm.getD k (0,0)).2)&&decide ((pm.getD k (0,0)).2<(on.length:Int)))&&earth.getD (pm.getD k (0,0)).2.toNat false&& !decide (pm.getD k (0,0)∈pm.take k)
def nH (on earth:List Bool) (pm:Pm):Bool:=
 Kq (on.length:Int) 1 10&&(earth.length==on.length)&&decide (pm.length≤6)&&(!(List.range on.length).any fun k=>on.getD k false&&earth.getD k false)&& !(List.range pm.length).any fun k=> !IH on earth pm k
structure WorkOk (on earth:List Bool) (pm:Pm):Prop where
 l0:1≤on.length
 l1:on.length≤10
 le:earth.length=on.length
 lp:pm.length≤6
 ne: ∀k,on.getD k false=true→earth.getD k false=false
 pm: ∀k,k<pm.length→(0≤(pm.getD k (0,0)).1∧(pm.getD k (0,0)).1≤9)∧(0≤(pm.getD k (0,0)).2∧(pm.getD k (0,0)).2<(on.length:Int))∧earth.getD (pm.getD k (0,0)).2.toNat false=true∧pm.getD k (0,0)∉pm.take k
theorem NL {on earth:List Bool} {pm:Pm} {k:Nat}:IH on earth pm k=true↔(0≤(pm.getD k (0,0)).1∧(pm.getD k (0,0)).1≤9)∧(0≤(pm.getD k (0,0)).2∧(pm.getD k (0,0)).2<(on.length:Int))∧earth.getD (pm.getD k (0,0)).2.toNat false=true∧pm.getD k (0,0)∉pm.take k:=by
 simp only [IH,Bool.and_eq_true,tR,decide_eq_true_eq,Bool.not_eq_true',decide_eq_false_iff_not,and_assoc]
theorem MD {n:Nat} {f:Nat→Bool}:(!(List.range n).any f)=true↔ ∀k,k<n→f k=false:=by
 rw [Bool.not_eq_true',List.any_eq_false]
 simp only [List.mem_range,Bool.not_eq_true]
theorem vZ {on earth:List Bool} {pm:Pm}:nH on earth pm=true↔WorkOk on earth pm:=by
 unfold nH
 rw [Bool.and_eq_true,MD,Bool.and_eq_true,MD,Bool.and_eq_true,Bool.and_eq_true,tR,beq_iff_eq,decide_eq_true_eq]
 constructor
 ·rintro ⟨⟨⟨⟨h1,h2⟩,h3⟩,h4⟩,h5⟩
  refine ⟨by omega,by omega,h2,h3,fun k hk=>?_,fun k hk=>NL.1 (by have:=h5 k hk;simpa using this)⟩
  by_cases hl:k<on.length
  ·have:=h4 k hl
   rw [hk] at this
   simpa using this
  ·simp [List.getD,List.getElem?_eq_none (Nat.le_of_not_lt hl)] at hk
 ·intro h
  have:=h.l0;have:=h.l1
  refine ⟨⟨⟨⟨by omega,h.le⟩,h.lp⟩,fun k hk=>?_⟩,fun k hk=>by rw [NL.2 (h.pm k hk)];rfl⟩
  cases ho:on.getD k false
  ·rfl
  ·rw [h.ne k ho];rfl
theorem acY (n:Int):Kq n 1 10=(!af n 1&& !af 10 n):=by rw [Bool.eq_iff_iff];simp [Kq,af]
theorem lt6 (n:Nat):af 6 (n:Int)= !decide (n≤6):=by rw [Bool.eq_iff_iff];simp [af];omega
theorem Qf (a b:Nat):((a:Int) !=(b:Int))= !(a==b):=by rw [Bool.eq_iff_iff];simp;omega
def cN (pm:Pm) (line:Int):List Int:=(pm.filter (·.2==line)).map (·.1)
theorem Ko {pm:Pm} {line:Int} {k:Nat} (hk:k<pm.length):cN (pm.take (k+1)) line=if (pm.getD k (0,0)).2==line then cN (pm.take k) line++ [(pm.getD k (0,0)).1] else cN (pm.take k) line:=by
 unfold cN
 rw [List.take_succ_eq_append_getElem hk,List.filter_append,List.map_append,ac hk]
 cases h:pm[k].2==line<;>simp [h]
theorem Ih (pm:Pm) (line:Int):(cN pm line).length≤pm.length:=by
 unfold cN;rw [List.length_map];exact List.length_filter_le _ _
def lG (w:Wk) (kd a who:Int):Bool:=
 if kd=0∨kd=2 then !w.1.getD a.toNat false&& !w.2.1.getD a.toNat false
 else if kd=1 then w.1.getD a.toNat false
 else if kd=3 then w.2.1.getD a.toNat false&&decide (cN w.2.2 a=[])
 else if kd=4 then w.2.1.getD a.toNat false&&(Kq who 0 9&& !decide ((who,a)∈w.2.2)&&decide (w.2.2.length<6))
 else if kd=5 then decide ((who,a)∈w.2.2)
 else false
def ej (w:Wk) (kd a who:Int):Wk:=
 if kd=0 then (w.1.set a.toNat true,w.2.1,w.2.2)
 else if kd=1 then (w.1.set a.toNat false,w.2.1,w.2.2)
 else if kd=2 then (w.1,w.2.1.set a.toNat true,w.2.2)
 else if kd=3 then (w.1,w.2.1.set a.toNat false,w.2.2)
 else if kd=4 then (w.1,w.2.1,w.2.2++ [(who,a)])
 else (w.1,w.2.1,w.2.2.take (SR w.2.2 (who,a)).toNat++w.2.2.drop ((SR w.2.2 (who,a)).toNat+1))
def gJ (w:Wk) (kd a who:Int):Wk×Bool:=
 if nH w.1 w.2.1 w.2.2 then (if 0≤a∧a<(w.1.length:Int)∧lG w kd a who=true then (ej w kd a who,true) else (w,false)) else (([],[],[]),false)
def oQ (r:Wk×Bool):List Bool×List Bool×Pm×Bool:=(r.1.1,r.1.2.1,r.1.2.2,r.2)
theorem QR (l:List Int):((l.length:Int)==0)=decide (l=[]):=by cases l<;>simp;omega
theorem Xp (w:Wk) (kd a who:Int):(ej w kd a who).1.length=w.1.length∧(ej w kd a who).2.1.length=w.2.1.length∧(ej w kd a who).2.2.length≤w.2.2.length+1:=by
 unfold ej
 repeat' split
 all_goals simp
 omega
theorem vi {α:Type} {l:List α} {k:Nat} {y d:α} (hk:k<l.length):(l.set k y).getD k d=y:=by simp [List.getD,hk]
theorem fo {α:Type} {l:List α} {i j:Nat} {y d:α} (h:i≠j):(l.set i y).getD j d=l.getD j d:=by simp [List.getD,List.getElem?_set_ne h]
theorem acD {α:Type} {l:List α} {k:Nat} {d:α} (h:l.length≤k):l.getD k d=d:=by simp [List.getD,List.getElem?_eq_none h]
structure WOk (w:Wk):Prop where
 l0:1≤w.1.length
 l1:w.1.length≤10
 le:w.2.1.length=w.1.length
 lp:w.2.2.length≤6
 ne: ∀k,w.1.getD k false=true→w.2.1.getD k false=false
 pm: ∀p∈w.2.2,(0≤p.1∧p.1≤9)∧(0≤p.2∧p.2<(w.1.length:Int))∧w.2.1.getD p.2.toNat false=true
 nd:w.2.2.Nodup
theorem Hq {w:Wk}:nH w.1 w.2.1 w.2.2=true↔WOk w:=by
 rw [vZ]
 constructor
 ·intro h
  refine ⟨h.l0,h.l1,h.le,h.lp,h.ne,fun p hp=>?_,?_⟩
  ·obtain ⟨k,hk,rfl⟩:=List.mem_iff_getElem.1 hp
   have:=h.pm k hk
   rw [ac hk] at this
   exact ⟨this.1,this.2.1,this.2.2.1⟩
  ·rw [List.nodup_iff_pairwise_ne,List.pairwise_iff_getElem]
   intro i j hi hj hij e
   refine (h.pm j hj).2.2.2 (rI.2 ⟨i,hij,hi,?_⟩)
   rw [ac hi,ac hj,e]
 ·intro h
  refine ⟨h.l0,h.l1,h.le,h.lp,h.ne,fun k hk=>?_⟩
  have hm:=h.pm (w.2.2.getD k (0,0)) (by rw [ac hk];exact List.getElem_mem hk)
  refine ⟨hm.1,hm.2.1,hm.2.2,fun ht=>?_⟩
  obtain ⟨j,h1,h2,h3⟩:=rI.1 ht
  have hp:=h.nd
  rw [List.nodup_iff_pairwise_ne,List.pairwise_iff_getElem] at hp
  rw [ac h2,ac hk] at h3
  exact hp j k h2 hk h1 h3
theorem Sn {w:Wk} {a who:Int} (hm:(who,a)∈w.2.2): ∃A B,w.2.2=A++(who,a)::B∧ej w 5 a who=(w.1,w.2.1,A++B):=by
 rcases xW w.2.2 (who,a) with ⟨h1,h2⟩ |⟨k,hk,h1,h2,h3⟩
 ·exact absurd hm h2
 refine ⟨w.2.2.take k,w.2.2.drop (k+1),?_,?_⟩
 ·rw [←h2,ac hk];simp
 ·unfold ej
  rw [if_neg (by decide),if_neg (by decide),if_neg (by decide),if_neg (by decide),if_neg (by decide),h1,Int.toNat_natCast]
theorem TU {pm:Pm} {line x:Int}:x∈cN pm line↔(x,line)∈pm:=by
 simp only [cN,List.mem_map,List.mem_filter,beq_iff_eq]
 constructor
 ·rintro ⟨p,⟨h1,h2⟩,h3⟩
  rw [←h3,←h2];exact h1
 ·intro h;exact ⟨(x,line),⟨h,rfl⟩,rfl⟩
theorem ZJ {A B:Pm} {p:Int×Int} (h:(A++p::B).Nodup):(A++B).Nodup∧p∉A++B:=by
 rw [List.nodup_append] at h
 obtain ⟨h1,h2,h3⟩:=h
 rw [List.nodup_cons] at h2
 refine ⟨List.nodup_append.2 ⟨h1,h2.2,fun a ha b hb=>h3 a ha b (by simp [hb])⟩,fun hm=>?_⟩
 rcases List.mem_append.1 hm with hm |hm
 ·exact h3 p hm p (by simp) rfl
 ·exact h2.1 hm
theorem aaa {w:Wk} {kd a who:Int} (h:WOk w) (ha:0≤a∧a<(w.1.length:Int)) (hm:lG w kd a who=true):WOk (ej w kd a who)∧ej w kd a who≠w∧lG (ej w kd a who) kd a who=false:=by
 have hal:a.toNat<w.1.length:=by omega
 have hae:a.toNat<w.2.1.length:=by have:=h.le;omega
 by_cases k0:kd=0
 ·subst k0
  have hm:w.1.getD a.toNat false=false∧w.2.1.getD a.toNat false=false:=by simpa only [lG,true_or,if_true,Bool.and_eq_true,Bool.not_eq_true'] using hm
  have e:ej w 0 a who=(w.1.set a.toNat true,w.2.1,w.2.2):=rfl
  rw [e]
  refine ⟨⟨by simpa using h.l0,by simpa using h.l1,by simpa using h.le,h.lp,fun k hk=>?_,fun p hp=>by simpa using h.pm p hp,h.nd⟩,fun hc=>?_,?_⟩
  ·by_cases hka:a.toNat=k
   ·rw [←hka];exact hm.2
   ·exact h.ne k (by rwa [fo hka] at hk)
  ·have:=congrArg (fun w:Wk=>w.1.getD a.toNat false) hc
   simp only [vi hal,hm.1] at this
   cases this
  ·simp only [lG,true_or,if_true,vi hal];rfl
 by_cases k1:kd=1
 ·subst k1
  have hm:w.1.getD a.toNat false=true:=hm
  have e:ej w 1 a who=(w.1.set a.toNat false,w.2.1,w.2.2):=rfl
  rw [e]
  refine ⟨⟨by simpa using h.l0,by simpa using h.l1,by simpa using h.le,h.lp,fun k hk=>?_,fun p hp=>by simpa using h.pm p hp,h.nd⟩,fun hc=>?_,?_⟩
  ·by_cases hka:a.toNat=k
   ·rw [←hka] at hk;rw [vi hal] at hk;cases hk
   ·exact h.ne k (by rwa [fo hka] at hk)
  ·have:=congrArg (fun w:Wk=>w.1.getD a.toNat false) hc
   simp only [vi hal,hm] at this
   cases this
  ·exact vi hal
 by_cases k2:kd=2
 ·subst k2
  have hm:w.1.getD a.toNat false=false∧w.2.1.getD a.toNat false=false:=by simpa only [lG,or_true,if_true,Bool.and_eq_true,Bool.not_eq_true'] using hm
  have e:ej w 2 a who=(w.1,w.2.1.set a.toNat true,w.2.2):=rfl
  rw [e]
  refine ⟨⟨h.l0,h.l1,by simpa using h.le,h.lp,fun k hk=>?_,fun p hp=>?_,h.nd⟩,fun hc=>?_,?_⟩
  ·by_cases hka:a.toNat=k
   ·rw [←hka] at hk;rw [hm.1] at hk;cases hk
   ·rw [fo hka];exact h.ne k hk
  ·obtain ⟨p1,p2,p3⟩:=h.pm p hp
   refine ⟨p1,p2,?_⟩
   by_cases hka:a.toNat=p.2.toNat
   ·rw [←hka,vi hae]
   ·rw [fo hka];exact p3
  ·have:=congrArg (fun w:Wk=>w.2.1.getD a.toNat false) hc
   simp only [vi hae,hm.2] at this
   cases this
  ·simp only [lG,or_true,if_true,vi hae];simp
 by_cases k3:kd=3
 ·subst k3
  have hm:w.2.1.getD a.toNat false=true∧cN w.2.2 a=[]:=by
   have:(w.2.1.getD a.toNat false&&decide (cN w.2.2 a=[]))=true:=hm
   simpa only [Bool.and_eq_true,decide_eq_true_eq] using this
  have e:ej w 3 a who=(w.1,w.2.1.set a.toNat false,w.2.2):=rfl
  rw [e]
  refine ⟨⟨h.l0,h.l1,by simpa using h.le,h.lp,fun k hk=>?_,fun p hp=>?_,h.nd⟩,fun hc=>?_,?_⟩
  ·by_cases hka:a.toNat=k
   ·rw [←hka,vi hae]
   ·rw [fo hka];exact h.ne k hk
  ·obtain ⟨p1,p2,p3⟩:=h.pm p hp
   refine ⟨p1,p2,?_⟩
   have hka:a.toNat≠p.2.toNat:=fun hka=>by
    have hpa:p.2=a:=by omega
    have:p.1∈cN w.2.2 a:=TU.2 (by rw [←hpa];exact hp)
    rw [hm.2] at this;simp at this
   rw [fo hka];exact p3
  ·have:=congrArg (fun w:Wk=>w.2.1.getD a.toNat false) hc
   simp only [vi hae,hm.1] at this
   cases this
  ·show ((w.2.1.set a.toNat false).getD a.toNat false&&_)=false
   rw [vi hae];rfl
 by_cases k4:kd=4
 ·subst k4
  have hm:w.2.1.getD a.toNat false=true∧(0≤who∧who≤9)∧(who,a)∉w.2.2∧w.2.2.length<6:=by
   have:(w.2.1.getD a.toNat false&&(Kq who 0 9&& !decide ((who,a)∈w.2.2)&&decide (w.2.2.length<6)))=true:=hm
   simp only [Bool.and_eq_true,decide_eq_true_eq,tR,Bool.not_eq_true',decide_eq_false_iff_not] at this
   exact ⟨this.1,this.2.1.1,this.2.1.2,this.2.2⟩
  have e:ej w 4 a who=(w.1,w.2.1,w.2.2++ [(who,a)]):=rfl
  rw [e]
  refine ⟨⟨h.l0,h.l1,h.le,by simp;omega,h.ne,fun p hp=>?_,?_⟩,fun hc=>?_,?_⟩
  ·rcases List.mem_append.1 hp with hp |hp
   ·exact h.pm p hp
   ·have hp:p=(who,a):=by simpa using hp
    subst hp
    exact ⟨hm.2.1,ha,hm.1⟩
  ·refine List.nodup_append.2 ⟨h.nd,by simp,fun x hx y hy e=>?_⟩
   have hy:y=(who,a):=by simpa using hy
   rw [e,hy] at hx
   exact hm.2.2.1 hx
  ·have:=congrArg (fun w:Wk=>w.2.2.length) hc
   simp at this
  ·show (w.2.1.getD a.toNat false&&(Kq who 0 9&& !decide ((who,a)∈w.2.2++ [(who,a)])&&decide ((w.2.2++ [(who,a)]).length<6)))=false
   simp
 by_cases k5:kd=5
 ·subst k5
  have hmem:(who,a)∈w.2.2:=by
   have:decide ((who,a)∈w.2.2)=true:=hm
   simpa using this
  obtain ⟨A,B,e1,e2⟩:=Sn hmem
  have hnd:=h.nd
  rw [e1] at hnd
  obtain ⟨n1,n2⟩:=ZJ hnd
  rw [e2]
  have hlp:=h.lp
  rw [e1] at hlp
  refine ⟨⟨h.l0,h.l1,h.le,by simp at hlp ⊢;omega,h.ne,fun p hp=>h.pm p ?_,n1⟩,fun hc=>?_,?_⟩
  ·rw [e1]
   rcases List.mem_append.1 hp with hp |hp
   ·simp [hp]
   ·simp [hp]
  ·have:=congrArg (fun w:Wk=>w.2.2.length) hc
   rw [e1] at this
   simp at this<;>omega
  ·show decide ((who,a)∈A++B)=false
   exact decide_eq_false n2
 ·simp [lG,k0,k1,k2,k3,k4,k5] at hm
theorem DZ {w:Wk} (h:WOk w) (kd a who:Int):(gJ w kd a who=(ej w kd a who,true)∧(0≤a∧a<(w.1.length:Int))∧lG w kd a who=true∧WOk (ej w kd a who))∨(gJ w kd a who=(w,false)∧ ¬((0≤a∧a<(w.1.length:Int))∧lG w kd a who=true)):=by
 unfold gJ
 rw [if_pos (Hq.2 h)]
 by_cases hc:0≤a∧a<(w.1.length:Int)∧lG w kd a who=true
 ·rw [if_pos hc];exact .inl ⟨rfl,⟨hc.1,hc.2.1⟩,hc.2.2,(aaa h ⟨hc.1,hc.2.1⟩ hc.2.2).1⟩
 ·rw [if_neg hc];exact .inr ⟨rfl,fun hh=>hc ⟨hh.1.1,hh.1.2,hh.2⟩⟩
def fg (pm:Pm):List (Int×Int×Int):=pm.map fun p=>(5,p.2,p.1)
theorem KE {pm:Pm} {k:Nat} (hk:k<pm.length):fg (pm.take (k+1))=fg (pm.take k)++ [(5,(pm.getD k (0,0)).2,(pm.getD k (0,0)).1)]:=by
 rw [List.take_succ_eq_append_getElem hk,ac hk]
 simp only [fg,List.map_append,List.map_cons,List.map_nil]
def nU (kd:Int) (l:List Bool) (b:Bool):Nat→List (Int×Int×Int)
 |0=> []
 |k+1=>if (l.getD k false==b)=true then nU kd l b k++ [(kd,(k:Int),0)] else nU kd l b k
theorem zc (kd:Int) (l:List Bool) (b:Bool): ∀k,(nU kd l b k).length≤k
 |0=>by simp [nU]
 |k+1=>by have:=zc kd l b k;simp only [nU];split<;>simp<;>omega
inductive Cn (E:List (Nat×Nat)):Nat→Nat→Prop
 |refl (a:Nat):Cn E a a
 |step {a b c:Nat}:Cn E a b→(b,c)∈E∨(c,b)∈E→Cn E a c
theorem Cn.trans {E:List (Nat×Nat)} {a b c:Nat} (h:Cn E a b) (k:Cn E b c):Cn E a c:=by
 induction k with
 |refl=>exact h
 |step _ e ih=>exact ih.step e
theorem Cn.one {E:List (Nat×Nat)} {a b:Nat} (h:(a,b)∈E∨(b,a)∈E):Cn E a b:=(Cn.refl a).step h
theorem Cn.symm {E:List (Nat×Nat)} {a b:Nat} (h:Cn E a b):Cn E b a:=by
 induction h with
 |refl=>exact .refl _
 |step _ e ih=>exact (Cn.one e.symm).trans ih
theorem Cn.mono {E F:List (Nat×Nat)} (hEF: ∀e∈E,e∈F) {a b:Nat} (h:Cn E a b):Cn F a b:=by
 induction h with
 |refl=>exact .refl _
 |step _ e ih=>exact ih.step (e.imp (hEF _) (hEF _))
theorem Qj {E:List (Nat×Nat)} {x y a b:Nat}:Cn (E++ [(x,y)]) a b↔Cn E a b∨(Cn E a x∧Cn E y b)∨(Cn E a y∧Cn E x b):=by
 have hm: ∀ {a b:Nat},Cn E a b→Cn (E++ [(x,y)]) a b:=fun h=>h.mono fun e he=>by simp [he]
 constructor
 ·intro h
  induction h with
  |refl=>exact .inl (.refl _)
  | @step b c _ e ih=>
   have he:((b,c)∈E∨(c,b)∈E)∨((b=x∧c=y)∨(b=y∧c=x)):=by
    simp only [List.mem_append,List.mem_singleton,Prod.mk.injEq] at e
    rcases e with (e |e) |(e |e)
    ·exact .inl (.inl e)
    ·exact .inr (.inl e)
    ·exact .inl (.inr e)
    ·exact .inr (.inr ⟨e.2,e.1⟩)
   rcases he with he |⟨rfl,rfl⟩ |⟨rfl,rfl⟩
   ·rcases ih with ih |⟨h1,h2⟩ |⟨h1,h2⟩
    ·exact .inl (ih.step he)
    ·exact .inr (.inl ⟨h1,h2.step he⟩)
    ·exact .inr (.inr ⟨h1,h2.step he⟩)
   ·rcases ih with ih |⟨h1,h2⟩ |⟨h1,h2⟩
    ·exact .inr (.inl ⟨ih,.refl _⟩)
    ·exact .inr (.inl ⟨h1,.refl _⟩)
    ·exact .inl h1
   ·rcases ih with ih |⟨h1,h2⟩ |⟨h1,h2⟩
    ·exact .inr (.inr ⟨ih,.refl _⟩)
    ·exact .inl h1
    ·exact .inr (.inr ⟨h1,.refl _⟩)
 ·have hxy:Cn (E++ [(x,y)]) x y:=.one (.inl (by simp))
  rintro (h |⟨h1,h2⟩ |⟨h1,h2⟩)
  ·exact hm h
  ·exact ((hm h1).trans hxy).trans (hm h2)
  ·exact ((hm h1).trans hxy.symm).trans (hm h2)
def rA (f:Nat→Nat) (a b:Nat) (c:Nat):Nat:=if f c=max (f a) (f b) then min (f a) (f b) else f c
def aO (E:List (Nat×Nat)):Nat→Nat:=E.foldl (fun f e=>rA f e.1 e.2) id
theorem zd (E:List (Nat×Nat)) (e:Nat×Nat):aO (E++ [e])=rA (aO E) e.1 e.2:=by unfold aO;rw [List.foldl_append];rfl
theorem US (f:Nat→Nat) (x y a b:Nat):rA f x y a=rA f x y b↔f a=f b∨(f a=f x∧f y=f b)∨(f a=f y∧f x=f b):=by
 unfold rA
 split<;>split<;>omega
theorem Hi {α:Type} {P:List α→Prop} (h0:P []) (h1: ∀l a,P l→P (l++ [a])): ∀l,P l:=by
 intro l
 have: ∀r:List α,P r.reverse:=by
  intro r
  induction r with
  |nil=>exact h0
  |cons a r ih=>rw [List.reverse_cons];exact h1 _ _ ih
 have:=this l.reverse
 rwa [List.reverse_reverse] at this
theorem ov (E:List (Nat×Nat)): ∀a b,aO E a=aO E b↔Cn E a b:=by
 refine Hi (P:=fun E=> ∀a b,aO E a=aO E b↔Cn E a b) ?_ ?_ E
 ·intro a b
  constructor
  ·intro h;have h:a=b:=h;subst h;exact .refl _
  ·intro h
   cases h with
   |refl=>rfl
   |step _ e=>simp at e
 ·intro E e ih a b
  obtain ⟨x,y⟩:=e
  rw [zd,US,ih,ih,ih,ih,ih,Qj]
theorem Un (E:List (Nat×Nat)):(∀a,aO E a≤a)∧ ∀a,aO E (aO E a)=aO E a:=by
 refine Hi (P:=fun E=>(∀a,aO E a≤a)∧ ∀a,aO E (aO E a)=aO E a) ⟨fun a=>Nat.le_refl a,fun a=>rfl⟩ ?_ E
 rintro E ⟨x,y⟩ ⟨h1,h2⟩
 rw [zd]
 refine ⟨fun a=>?_,fun a=>?_⟩
 ·have:=h1 a
  unfold rA
  split<;>omega
 ·have ha:=h2 a
  have hx:=h2 x
  have hy:=h2 y
  unfold rA
  by_cases hc:aO E a=max (aO E x) (aO E y)
  ·rw [if_pos hc]
   rcases Nat.le_total (aO E x) (aO E y) with hle |hle
   ·rw [Nat.min_eq_left hle,hx];split<;>omega
   ·rw [Nat.min_eq_right hle,hy];split<;>omega
  ·rw [if_neg hc,ha,if_neg hc]
def Dn (u:List Nat):Prop:= ∀b,b<u.length→u.getD b 0≤b
inductive Rot (u:List Nat):Nat→Nat→Prop
 |stop {r:Nat}:u.getD r 0=r→Rot u r r
 |go {b r:Nat}:Rot u (u.getD b 0) r→Rot u b r
theorem Rot.root {u:List Nat} {b r:Nat} (h:Rot u b r):u.getD r 0=r:=by
 induction h with
 |stop h=>exact h
 |go _ ih=>exact ih
theorem Rot.fix {u:List Nat} {b r:Nat} (h:Rot u b r) (hb:u.getD b 0=b):r=b:=by
 induction h with
 |stop _=>rfl
 |go _ ih=>exact (ih (by rw [hb];exact hb)).trans hb
theorem Rot.uniq {u:List Nat} {b r r':Nat} (h:Rot u b r) (h':Rot u b r'):r=r':=by
 induction h with
 |stop h=>exact (h'.fix h).symm
 | @go b r h1 ih=>
  cases h' with
  |stop h2=>exact h1.fix (by rw [h2];exact h2) |>.trans h2
  |go h2=>exact ih h2
theorem Rot.next {u:List Nat} {b r:Nat} (h:Rot u b r):Rot u (u.getD b 0) r:=by
 cases h with
 |stop h=>rw [h];exact .stop h
 |go h=>exact h
theorem Rot.ex {u:List Nat} (h:Dn u): ∀b,b<u.length→ ∃r,Rot u b r∧r≤b:=by
 intro b
 induction b using Nat.strongRecOn with
 |ind b ih=>
  intro hb
  by_cases hc:u.getD b 0=b
  ·exact ⟨b,.stop hc,Nat.le_refl _⟩
  ·have h1:=h b hb
   obtain ⟨r,h2,h3⟩:=ih (u.getD b 0) (by omega) (by omega)
   exact ⟨r,.go h2,by omega⟩
theorem oT {u:List Nat} {b v c:Nat} (hb:b<u.length):(u.set b v).getD c 0=if c=b then v else u.getD c 0:=by
 by_cases h:c=b
 ·subst h;simp [List.getD,hb]
 ·rw [if_neg h];simp [List.getD,List.getElem?_set_ne (Ne.symm h)]
theorem Rot.halve {u:List Nat} (h:Dn u) {b:Nat} (hb:b<u.length): ∀c r,c<u.length→(Rot u c r→Rot (u.set b (u.getD (u.getD b 0) 0)) c r):=by
 intro c
 induction c using Nat.strongRecOn with
 |ind c ih=>
  intro r hc hr
  by_cases hf:u.getD c 0=c
  ·have e:=hr.fix hf
   subst e
   refine .stop ?_
   rw [oT hb]
   split
   ·rename_i e;subst e;rw [hf];exact hf
   ·exact hf
  ·have h1:=h c hc
   refine .go ?_
   rw [oT hb]
   split
   ·rename_i e;subst e
    have h2:=h (u.getD c 0) (by omega)
    exact ih _ (by omega) r (by omega) hr.next.next
   ·exact ih _ (by omega) r (by omega) hr.next
theorem Dn.halve {u:List Nat} (h:Dn u) {b:Nat} (hb:b<u.length):Dn (u.set b (u.getD (u.getD b 0) 0)):=by
 intro c hc
 rw [List.length_set] at hc
 rw [oT hb]
 split
 ·rename_i e;subst e
  have h1:=h c hc
  have h2:=h (u.getD c 0) (by omega)
  omega
 ·exact h c hc
theorem Rot.join {u:List Nat} {f:Nat→Nat} (h:Dn u) (hf: ∀c,c<u.length→Rot u c (f c)) {a b:Nat} (ha:a<u.length) (hb:b<u.length) (hlt: ∀c,c<u.length→f c≤c):
 ∀c,c<u.length→Rot (u.set (max (f a) (f b)) (min (f a) (f b))) c (rA f a b c):=by
 have la:=hlt a ha
 have lb:=hlt b hb
 have hm:max (f a) (f b)<u.length:=by omega
 have hmin:(u.set (max (f a) (f b)) (min (f a) (f b))).getD (min (f a) (f b)) 0=min (f a) (f b):=by
  rw [oT hm]
  split
  ·rfl
  ·rcases Nat.le_total (f a) (f b) with hle |hle
   ·rw [Nat.min_eq_left hle];exact (hf a ha).root
   ·rw [Nat.min_eq_right hle];exact (hf b hb).root
 intro c
 induction c using Nat.strongRecOn with
 |ind c ih=>
  intro hc
  by_cases hcm:c=max (f a) (f b)
  ·have hroot:u.getD c 0=c:=by
    rw [hcm]
    rcases Nat.le_total (f a) (f b) with hle |hle
    ·rw [Nat.max_eq_right hle];exact (hf b hb).root
    ·rw [Nat.max_eq_left hle];exact (hf a ha).root
   have hfc:f c=c:=(hf c hc).fix hroot
   have e:rA f a b c=min (f a) (f b):=by unfold rA;rw [if_pos (by rw [hfc];exact hcm)]
   rw [e]
   refine .go ?_
   rw [oT hm,if_pos hcm]
   exact .stop hmin
  ·by_cases hroot:u.getD c 0=c
   ·have hfc:f c=c:=(hf c hc).fix hroot
    have e:rA f a b c=c:=by unfold rA;rw [if_neg (by rw [hfc];exact hcm),hfc]
    rw [e]
    refine .stop ?_
    rw [oT hm,if_neg hcm];exact hroot
   ·have h1:=h c hc
    have e:f (u.getD c 0)=f c:=(hf (u.getD c 0) (by omega)).uniq (hf c hc).next
    have e2:rA f a b c=rA f a b (u.getD c 0):=by unfold rA;rw [e]
    rw [e2]
    refine .go ?_
    rw [oT hm,if_neg hcm]
    exact ih _ (by omega) (by omega)
def Kp (s:Nat→Bool) (e:Nat×Nat):Nat→Bool:=if s e.1 ||s e.2 then fun c=>c==e.1 ||c==e.2 ||s c else s
def lF (E:List (Nat×Nat)) (s:Nat→Bool):Nat→Bool:=E.foldl Kp s
def aL (E:List (Nat×Nat)) (s:Nat→Bool):Nat→Nat→Bool
 |0=>s
 |k+1=>lF E (aL E s k)
theorem Ii {s:Nat→Bool} {e:Nat×Nat} {c:Nat} (h:s c=true):Kp s e c=true:=by
 unfold Kp;split<;>simp [h]
theorem pz (E:List (Nat×Nat)): ∀ {s:Nat→Bool} {c:Nat},s c=true→lF E s c=true:=by
 induction E with
 |nil=>intro s c h;exact h
 |cons e E ih=>intro s c h;exact ih (Ii h)
theorem KK (E:List (Nat×Nat)): ∀ {s:Nat→Bool} {e:Nat×Nat},e∈E→(s e.1 ||s e.2)=true→lF E s e.1=true∧lF E s e.2=true:=by
 induction E with
 |nil=>intro s e h;simp at h
 |cons d E ih=>
  intro s e h hs
  rcases List.mem_cons.1 h with rfl |h
  ·have h1:Kp s e e.1=true:=by unfold Kp;rw [if_pos hs];simp
   have h2:Kp s e e.2=true:=by unfold Kp;rw [if_pos hs];simp
   exact ⟨pz E h1,pz E h2⟩
  ·refine ih (s:=Kp s d) h ?_
   rw [Bool.or_eq_true] at hs ⊢
   exact hs.imp Ii Ii
theorem Of {F:List (Nat×Nat)} {b:Nat} (E:List (Nat×Nat)): ∀ {s:Nat→Bool},(∀e∈E,e∈F)→(∀c,s c=true→Cn F b c)→ ∀c,lF E s c=true→Cn F b c:=by
 induction E with
 |nil=>intro s _ h c hc;exact h c hc
 |cons e E ih=>
  intro s hE h c hc
  refine ih (s:=Kp s e) (fun x hx=>hE x (by simp [hx])) (fun c hc=>?_) c hc
  unfold Kp at hc
  split at hc
  ·rename_i hs
   have he:e∈F:=hE e (by simp)
   have h1:Cn F b e.1∧Cn F b e.2:=by
    rw [Bool.or_eq_true] at hs
    rcases hs with hs |hs
    ·exact ⟨h _ hs,(h _ hs).step (.inl he)⟩
    ·exact ⟨(h _ hs).step (.inr he),h _ hs⟩
   simp only [Bool.or_eq_true,beq_iff_eq] at hc
   rcases hc with (rfl |rfl) |hc
   ·exact h1.1
   ·exact h1.2
   ·exact h c hc
  ·exact h c hc
theorem Mp {E:List (Nat×Nat)} {b:Nat} (k:Nat): ∀c,aL E (fun c=>c==b) k c=true→Cn E b c:=by
 induction k with
 |zero=>intro c hc;have:c=b:=by simpa [aL] using hc
        subst this;exact .refl _
 |succ k ih=>exact Of E (fun _ h=>h) ih
theorem MN {p q:Nat→Bool} (l:List Nat) (h: ∀c,p c=true→q c=true):l.countP p≤l.countP q∧((∃c∈l,q c=true∧p c=false)→l.countP p+1≤l.countP q):=by
 induction l with
 |nil=>exact ⟨Nat.le_refl _,fun ⟨c,hc,_⟩=>by simp at hc⟩
 |cons x l ih=>
  simp only [List.countP_cons]
  have hx:=h x
  refine ⟨?_,?_⟩
  ·cases hp:p x
   ·simp;omega
   ·rw [hx hp];simp;omega
  ·rintro ⟨c,hc,h1,h2⟩
   rcases List.mem_cons.1 hc with rfl |hc
   ·rw [h1,h2];simp;omega
   ·have:=ih.2 ⟨c,hc,h1,h2⟩
    cases hp:p x
    ·simp;omega
    ·rw [hx hp];simp;omega
def OB (E:List (Nat×Nat)) (s:Nat→Bool):Prop:= ∀e∈E,s e.1=s e.2
theorem IW {E:List (Nat×Nat)} {s:Nat→Bool} (h:OB E s): ∀c,lF E s c=s c:=by
 have: ∀(F:List (Nat×Nat)),(∀e∈F,s e.1=s e.2)→lF F s=s:=by
  intro F
  induction F with
  |nil=>intro _;rfl
  |cons e F ih=>
   intro hF
   have he:Kp s e=s:=by
    have e0:=hF e (by simp)
    unfold Kp
    split
    ·rename_i hs
     funext c
     rw [e0,Bool.or_self] at hs
     by_cases h1:c=e.1
     ·subst h1;simp [e0,hs]
     ·by_cases h2:c=e.2
      ·subst h2;simp [hs]
      ·simp [h1,h2]
    ·rfl
   show lF F (Kp s e)=s
   rw [he]
   exact ih fun x hx=>hF x (by simp [hx])
 intro c;rw [this E h]
theorem Oh {E:List (Nat×Nat)} {B b:Nat} (hE: ∀e∈E,e.1<B∧e.2<B) (hb:b<B): ∀k,OB E (aL E (fun c=>c==b) k)∨k+1≤(List.range B).countP (aL E (fun c=>c==b) k):=by
 intro k
 induction k with
 |zero=>
  refine .inr ?_
  have:=List.countP_pos_iff (p:=fun c=>c==b) (l:=List.range B) |>.2 ⟨b,by simpa using hb,by simp⟩
  simpa [aL] using this
 |succ k ih=>
  by_cases hs:OB E (aL E (fun c=>c==b) k)
  ·left
   have e:aL E (fun c=>c==b) (k+1)=aL E (fun c=>c==b) k:=funext (IW hs)
   rw [e];exact hs
  ·rcases ih with ih |ih
   ·exact absurd ih hs
   right
   have hm: ∀c,aL E (fun c=>c==b) k c=true→aL E (fun c=>c==b) (k+1) c=true:=fun c hc=>pz E hc
   obtain ⟨e,he,hne⟩: ∃e∈E,aL E (fun c=>c==b) k e.1≠aL E (fun c=>c==b) k e.2:=by
    refine Classical.byContradiction fun hn=>hs fun e he=>Classical.byContradiction fun h=>hn ⟨e,he,h⟩
   have hor:(aL E (fun c=>c==b) k e.1 ||aL E (fun c=>c==b) k e.2)=true:=by
    revert hne;cases aL E (fun c=>c==b) k e.1<;>cases aL E (fun c=>c==b) k e.2<;>simp
   have hh:=KK E he hor
   have hlt:=hE e he
   have:=(MN (List.range B) hm).2 (by
    cases h1:aL E (fun c=>c==b) k e.1
    ·exact ⟨e.1,by simpa using hlt.1,hh.1,h1⟩
    ·cases h2:aL E (fun c=>c==b) k e.2
     ·exact ⟨e.2,by simpa using hlt.2,hh.2,h2⟩
     ·rw [h1,h2] at hne;exact absurd rfl hne)
   omega
theorem SG {E:List (Nat×Nat)} {B b c:Nat} (hE: ∀e∈E,e.1<B∧e.2<B) (hb:b<B):aL E (fun c=>c==b) B c=true↔Cn E b c:=by
 refine ⟨Mp B c,fun h=>?_⟩
 have hs:OB E (aL E (fun c=>c==b) B):=by
  rcases Oh hE hb B with h |h
  ·exact h
  ·have:=List.countP_le_length (p:=aL E (fun c=>c==b) B) (l:=List.range B)
   simp at this;omega
 have hstart: ∀k,aL E (fun c=>c==b) k b=true:=by
  intro k
  induction k with
  |zero=>simp [aL]
  |succ k ih=>exact pz E ih
 induction h with
 |refl=>exact hstart B
 |step _ e ih=>
  rcases e with e |e
  ·rw [←hs _ e];exact ih
  ·rw [hs _ e];exact ih
abbrev Ed:=List (Nat×Nat)
def Fo (E:Ed):Prop:= ∀P e Q,E=P++e::Q→ ¬Cn P e.1 e.2
theorem Ze:Fo []:=by
 intro P e Q h
 have:=congrArg List.length h
 simp at this
theorem Qu {E:Ed} {e:Nat×Nat}:Fo (E++ [e])↔Fo E∧ ¬Cn E e.1 e.2:=by
 constructor
 ·intro h
  exact ⟨fun P f Q hE=>h P f (Q++ [e]) (by rw [hE];simp),h E e [] rfl⟩
 ·rintro ⟨h1,h2⟩ P f Q hE
  rcases List.eq_nil_or_concat Q with rfl |⟨Q',x,rfl⟩
  ·obtain ⟨rfl,h3⟩:=List.append_inj' hE rfl
   obtain rfl:e=f:=by simpa using h3
   exact h2
  ·have hE':E++ [e]=(P++f::Q')++ [x]:=by rw [hE];simp
   obtain ⟨rfl,h3⟩:=List.append_inj' hE' rfl
   exact h1 P f Q' rfl
theorem XZ: ∀(Q P:Ed) (e:Nat×Nat),Fo (P++e::Q)→ ¬Cn (P++Q) e.1 e.2:=by
 refine Hi (P:=fun Q=> ∀(P:Ed) (e:Nat×Nat),Fo (P++e::Q)→ ¬Cn (P++Q) e.1 e.2) ?_ ?_
 ·intro P e h
  rw [List.append_nil];exact h P e [] rfl
 ·rintro Q ⟨x,y⟩ ih P e h hc
  have h':Fo ((P++e::Q)++ [(x,y)]):=by simpa using h
  rw [Qu] at h'
  have hn:=ih P e h'.1
  have M: ∀ {a b:Nat},Cn (P++Q) a b→Cn (P++e::Q) a b:=fun h=>h.mono fun f hf=>by
   rcases List.mem_append.1 hf with hf |hf<;>simp [hf]
  have he:Cn (P++e::Q) e.1 e.2:=.one (.inl (by simp))
  rw [←List.append_assoc,Qj] at hc
  rcases hc with hc |⟨h1,h2⟩ |⟨h1,h2⟩
  ·exact hn hc
  ·exact h'.2 ((M h1).symm.trans (he.trans (M h2).symm))
  ·exact h'.2 ((M h2).trans (he.symm.trans (M h1)))
theorem Zf {E F:Ed} (hs:E.Sublist F) (h:Fo F):Fo E:=by
 intro P e Q hE hc
 subst hE
 obtain ⟨F1,F2,rfl,s1,s2⟩:=List.append_sublist_iff.1 hs
 obtain ⟨G1,G2,rfl,m1,m2⟩:=List.cons_sublist_iff.1 s2
 obtain ⟨H1,H2,rfl⟩:=List.append_of_mem m1
 refine h (F1++H1) e (H2++G2) (by simp) (hc.mono fun f hf=>?_)
 simp [s1.subset hf]
abbrev Ln:=Int×Int×Int
def bQ (l:Ln):Nat×Nat:=(l.1.toNat,l.2.1.toNat)
def vU (z:List (Ln×Bool)):Ed:=(z.filter (·.2)).map fun p=>bQ p.1
def av (ls:List Ln) (on:List Bool):Ed:=vU (ls.zip on)
theorem LO (y z:List (Ln×Bool)):vU (y++z)=vU y++vU z:=by simp [vU]
theorem ND {z:List (Ln×Bool)} {k:Nat} (hk:k<z.length):vU (z.take (k+1))=if z[k].2 then vU (z.take k)++ [bQ z[k].1] else vU (z.take k):=by
 rw [List.take_succ_eq_append_getElem hk,LO]
 cases h:z[k].2<;>simp [vU,h]
theorem Xf {z:List (Ln×Bool)} {k:Nat} (hk:k<z.length):z=z.take k++z[k]::z.drop (k+1):=by
 rw [←List.drop_eq_getElem_cons hk,List.take_append_drop]
theorem LM {ls:List Ln} {on:List Bool} {k:Nat} (hk:k<ls.length) (hl:on.length=ls.length) (ho:on.getD k false=true):
 av ls on=vU ((ls.zip on).take k)++bQ (ls.getD k (0,0,0))::vU ((ls.zip on).drop (k+1)):=by
 have hz:k<(ls.zip on).length:=by simp;omega
 have e:(ls.zip on)[k]=(ls.getD k (0,0,0),true):=by
  rw [ac (by omega:k<on.length)] at ho
  rw [List.getElem_zip,ac hk,ho]
 have h:=Xf hz
 unfold av
 rw [e] at h
 conv=>lhs;rw [h]
 rw [LO]
 simp [vU]
theorem LN {ls:List Ln} {on:List Bool} {k:Nat} (hk:k<ls.length) (hl:on.length=ls.length):
 av ls (on.set k false)=vU ((ls.zip on).take k)++vU ((ls.zip on).drop (k+1)):=by
 have e:ls.zip (on.set k false)=(ls.zip on).take k++(ls[k],false)::(ls.zip on).drop (k+1):=by
  apply List.ext_getElem
  ·simp;omega
  ·intro i h1 h2
   have hi:i<ls.length:=by simp at h1;omega
   rw [List.getElem_zip,List.getElem_set,List.getElem_append]
   have hkz:((ls.zip on).take k).length=k:=by simp;omega
   split
   ·rename_i hik
    subst hik
    simp [hkz]
   ·split
    ·simp
    ·rename_i h3 h4
     rw [hkz] at h4
     obtain ⟨j,hj⟩: ∃j,i-((ls.zip on).take k).length=j+1:=⟨i-k-1,by rw [hkz];omega⟩
     simp only [hj,List.getElem_cons_succ,List.getElem_drop,List.getElem_zip]
     have:k+1+j=i:=by rw [hkz] at hj;omega
     simp [this]
 unfold av
 rw [e,LO]
 simp [vU]
theorem EF {ls:List Ln} {on:List Bool} {e:Nat×Nat}:e∈av ls on↔ ∃k,k<ls.length∧on.getD k false=true∧e=bQ (ls.getD k (0,0,0)):=by
 unfold av vU
 rw [List.mem_map]
 constructor
 ·rintro ⟨p,hp,rfl⟩
  obtain ⟨h1,h2⟩:=List.mem_filter.1 hp
  obtain ⟨k,hk,rfl⟩:=List.mem_iff_getElem.1 h1
  have hk':k<ls.length∧k<on.length:=by rw [List.length_zip] at hk;omega
  rw [List.getElem_zip] at h2 ⊢
  exact ⟨k,hk'.1,by rw [ac hk'.2];exact h2,by rw [ac hk'.1]⟩
 ·rintro ⟨k,hk,ho,rfl⟩
  have hk2:k<on.length:=by
   rcases Nat.lt_or_ge k on.length with h |h
   ·exact h
   ·rw [List.getD_eq_getElem?_getD,List.getElem?_eq_none h] at ho;simp at ho
  refine ⟨(ls[k],on[k]),List.mem_filter.2 ⟨List.mem_iff_getElem.2 ⟨k,by simp;omega,by simp⟩,?_⟩,by rw [ac hk]⟩
  rw [ac hk2] at ho
  exact ho
theorem Xe {ls:List Ln}: ∀ {on on':List Bool},on.length=on'.length→(∀k,on.getD k false=true→on'.getD k false=true)→(av ls on).Sublist (av ls on'):=by
 induction ls with
 |nil=>intro on on' _ _;simp [av,vU]
 |cons l ls ih=>
  intro on on' hl h
  cases on with
  |nil=>simp [av,vU]
  |cons b on=>
   cases on' with
   |nil=>simp at hl
   |cons b' on'=>
    have h2:=ih (on:=on) (on':=on') (by simpa using hl) (fun k hk=>by have:=h (k+1);simpa using this (by simpa using hk))
    have h0:b=true→b'=true:=fun hb=>by have:=h 0;simpa using this (by simpa using hb)
    unfold av vU at h2 ⊢
    cases b
    ·cases b'
     ·simpa using h2
     ·simpa using h2.trans (List.sublist_cons_self _ _)
    ·rw [h0 rfl];simpa using h2
def OM (ls:List Ln) (on:List Bool):Bool:=(List.range ls.length).any fun k=>on.getD k false&&aO (av ls (on.set k false)) (bQ (ls.getD k (0,0,0))).1==aO (av ls (on.set k false)) (bQ (ls.getD k (0,0,0))).2
def OL (ls:List Ln) (on:List Bool):Bool:=(List.range ls.length).any fun k=>on.getD k false&&aO (vU ((ls.zip on).take k)) (bQ (ls.getD k (0,0,0))).1==aO (vU ((ls.zip on).take k)) (bQ (ls.getD k (0,0,0))).2
theorem Qv {ls:List Ln} {on:List Bool} (hl:on.length=ls.length) (h: ∀k,k<ls.length→on.getD k false=true→ ¬Cn (vU ((ls.zip on).take k)) (bQ (ls.getD k (0,0,0))).1 (bQ (ls.getD k (0,0,0))).2):Fo (av ls on):=by
 have: ∀k,k≤ls.length→Fo (vU ((ls.zip on).take k)):=by
  intro k
  induction k with
  |zero=>intro _;exact Ze
  |succ k ih=>
   intro hk
   have hz:k<(ls.zip on).length:=by simp;omega
   rw [ND hz]
   have e1:(ls.zip on)[k].2=on.getD k false:=by rw [ac (by omega)];simp
   have e2:(ls.zip on)[k].1=ls.getD k (0,0,0):=by rw [ac (by omega)];simp
   rw [e1,e2]
   split
   ·rename_i ho
    exact Qu.2 ⟨ih (by omega),h k (by omega) ho⟩
   ·exact ih (by omega)
 have h2:=this ls.length (Nat.le_refl _)
 rwa [List.take_of_length_le (by simp;omega)] at h2
theorem Qk {ls:List Ln} {on:List Bool} (hl:on.length=ls.length):OL ls on=false↔Fo (av ls on):=by
 unfold OL
 rw [List.any_eq_false]
 constructor
 ·intro h
  refine Qv hl fun k hk ho hc=>h k (by simpa using hk) ?_
  rw [ho,(ov _ _ _).2 hc];simp
 ·intro h k hk hc
  have hk:k<ls.length:=by simpa using hk
  simp only [Bool.and_eq_true,beq_iff_eq] at hc
  exact h _ _ _ (LM hk hl hc.1) ((ov _ _ _).1 hc.2)
theorem KZ {ls:List Ln} {on:List Bool} (hl:on.length=ls.length):OM ls on=false↔Fo (av ls on):=by
 unfold OM
 rw [List.any_eq_false]
 constructor
 ·intro h
  refine Qv hl fun k hk ho hc=>h k (by simpa using hk) ?_
  rw [ho,LN hk hl,(ov _ _ _).2 (hc.mono fun f hf=>by simp [hf])];simp
 ·intro h k hk hc
  have hk:k<ls.length:=by simpa using hk
  simp only [Bool.and_eq_true,beq_iff_eq] at hc
  rw [LN hk hl] at hc
  rw [LM hk hl hc.1] at h
  exact XZ _ _ _ h ((ov _ _ _).1 hc.2)
theorem YP {ls:List Ln} {on:List Bool} (hl:on.length=ls.length):OL ls on=OM ls on:=by
 cases h:OM ls on
 ·exact (Qk hl).2 ((KZ hl).1 h)
 ·cases h2:OL ls on
  ·rw [(KZ hl).2 ((Qk hl).1 h2)] at h;exact h
  ·rfl
def aG (pts:List (Int×Int)) (b:Nat):Bool:=decide (0<(pts.getD b (0,0)).1)
theorem qo {pts:List (Int×Int)} {b:Nat} (h:aG pts b=true):b<pts.length:=by
 rcases Nat.lt_or_ge b pts.length with h1 |h1
 ·exact h1
 ·simp [aG,List.getElem?_eq_none h1] at h
def PW (E:Ed) (pts:List (Int×Int)):Bool:=(List.range pts.length).any fun k=>(List.range k).any fun j=>aG pts k&&aG pts j&&aO E j==aO E k
theorem Jb {E:Ed} {pts:List (Int×Int)}:PW E pts=false↔ ∀a b,aG pts a=true→aG pts b=true→Cn E a b→a=b:=by
 unfold PW
 rw [List.any_eq_false]
 constructor
 ·intro h
  have key: ∀a b,aG pts a=true→aG pts b=true→Cn E a b→ ¬a<b:=by
   intro a b ha hb hc hlt
   refine h b (by simpa using qo hb) (List.any_eq_true.2 ⟨a,by simpa using hlt,?_⟩)
   rw [ha,hb,(ov _ _ _).2 hc];simp
  intro a b ha hb hc
  have h1:=key a b ha hb hc
  have h2:=key b a hb ha hc.symm
  omega
 ·intro h k hk hc
  obtain ⟨j,hj,h2⟩:=List.any_eq_true.1 hc
  simp only [Bool.and_eq_true,beq_iff_eq] at h2
  have:=h j k h2.1.2 h2.1.1 ((ov _ _ _).1 h2.2)
  have:j<k:=by simpa using hj
  omega
def mH (ls:List Ln) (on:List Bool) (pts:List (Int×Int)):Bool:= !OM ls on&& !PW (av ls on) pts
theorem IL {ls:List Ln} {on:List Bool} {pts:List (Int×Int)} (hl:on.length=ls.length):mH ls on pts=true↔Fo (av ls on)∧ ∀a b,aG pts a=true→aG pts b=true→Cn (av ls on) a b→a=b:=by
 unfold mH
 rw [Bool.and_eq_true,Bool.not_eq_true',Bool.not_eq_true',KZ hl,Jb]
theorem NN {ls:List Ln} {on on':List Bool} {pts:List (Int×Int)} (hl:on.length=ls.length) (hl':on'.length=ls.length) (h: ∀k,on.getD k false=true→on'.getD k false=true) (hr:mH ls on' pts=true):mH ls on pts=true:=by
 rw [IL hl'] at hr
 rw [IL hl]
 have hs:=Xe (ls:=ls) (hl.trans hl'.symm) h
 exact ⟨Zf hs hr.1,fun a b ha hb hc=>hr.2 a b ha hb (hc.mono fun e he=>hs.subset he)⟩
def gK (E:Ed) (pts:List (Int×Int)) (b:Nat):Bool:=(List.range pts.length).any fun f=>aG pts f&&aO E f==aO E b
theorem mB {E:Ed} {pts:List (Int×Int)} {b:Nat}:gK E pts b=true↔ ∃f,aG pts f=true∧Cn E f b:=by
 unfold gK
 rw [List.any_eq_true]
 constructor
 ·rintro ⟨f,_,h⟩
  simp only [Bool.and_eq_true,beq_iff_eq] at h
  exact ⟨f,h.1,(ov _ _ _).1 h.2⟩
 ·rintro ⟨f,h1,h2⟩
  exact ⟨f,by simpa using qo h1,by rw [h1,(ov _ _ _).2 h2];simp⟩
theorem Qs {E:Ed} {pts:List (Int×Int)} {a b:Nat} (h:gK E pts a=true) (hc:Cn E a b):gK E pts b=true:=by
 obtain ⟨f,h1,h2⟩:=mB.1 h
 exact mB.2 ⟨f,h1,h2.trans hc⟩
def Lk (ls:List Ln) (on:List Bool) (k b c:Nat):Prop:=k<ls.length∧on.getD k false=true∧(bQ (ls.getD k (0,0,0))=(b,c)∨bQ (ls.getD k (0,0,0))=(c,b))
structure Par (ls:List Ln) (on:List Bool) (pts:List (Int×Int)) (par:Nat→Int) (rk:Nat→Nat):Prop where
 fed: ∀b,b<pts.length→gK (av ls on) pts b=true→aG pts b=true∨0≤par b
 feed: ∀b,aG pts b=true→par b<0
 line: ∀b,0≤par b→ ∃c,Lk ls on (par b).toNat b c∧c<pts.length∧gK (av ls on) pts c=true∧rk c<rk b
inductive Way (ls:List Ln) (on:List Bool) (par:Nat→Int):Nat→List Nat→Prop
 |top {b:Nat}:par b<0→Way ls on par b []
 |step {b c:Nat} {w:List Nat}:0≤par b→Lk ls on (par b).toNat b c→Way ls on par c w→Way ls on par b (w++ [(par b).toNat])
theorem Ea {ls:List Ln} {on:List Bool} {k b c d:Nat} (h:Lk ls on k b c) (h':Lk ls on k b d):c=d:=by
 obtain ⟨_,_,h⟩:=h
 obtain ⟨_,_,h'⟩:=h'
 rcases h with h |h<;>rcases h' with h' |h'<;>rw [h] at h'<;>simp only [Prod.mk.injEq] at h'<;>omega
theorem Lk.cn {ls:List Ln} {on:List Bool} {k b c:Nat} (h:Lk ls on k b c):Cn (av ls on) b c:=by
 obtain ⟨h1,h2,h3⟩:=h
 have hm:=EF.2 ⟨k,h1,h2,rfl⟩
 rcases h3 with h3 |h3<;>rw [h3] at hm
 ·exact .one (.inl hm)
 ·exact .one (.inr hm)
theorem Lk.off {ls:List Ln} {on:List Bool} {k j b c:Nat} (h:Lk ls on k b c) (hj:k≠j):Lk ls (on.set j false) k b c:=by
 obtain ⟨h1,h2,h3⟩:=h
 exact ⟨h1,by rw [←h2];simp [List.getD,List.getElem?_set_ne (Ne.symm hj)],h3⟩
section
variable {ls:List Ln} {on:List Bool} {pts:List (Int×Int)} {par:Nat→Int} {rk:Nat→Nat} (P:Par ls on pts par rk) (hl:on.length=ls.length)
include P
theorem Par.way: ∀(n b:Nat),rk b≤n→ ∃w,Way ls on par b w:=by
 intro n
 induction n with
 |zero=>
  intro b hb
  by_cases h:0≤par b
  ·obtain ⟨c,_,_,_,h2⟩:=P.line b h;omega
  ·exact ⟨[],.top (by omega)⟩
 |succ n ih=>
  intro b hb
  by_cases h:0≤par b
  ·obtain ⟨c,h1,_,_,h2⟩:=P.line b h
   obtain ⟨w,hw⟩:=ih c (by omega)
   exact ⟨_,.step h h1 hw⟩
  ·exact ⟨[],.top (by omega)⟩
omit P in
theorem Way.uniq {b:Nat} {w v:List Nat} (h:Way ls on par b w):Way ls on par b v→w=v:=by
 induction h generalizing v with
 |top h=>intro h';cases h' with
  |top _=>rfl
  |step h2 _ _=>omega
 |step h1 h2 _ ih=>intro h';cases h' with
  |top h3=>omega
  |step h3 h4 h5=>
   obtain rfl:=Ea h2 h4
   rw [ih h5]
theorem Par.up {b c:Nat} (h:0≤par b) (h2:Lk ls on (par b).toNat b c):c<pts.length∧gK (av ls on) pts c=true∧rk c<rk b:=by
 obtain ⟨d,h3,h4⟩:=P.line b h
 rw [Ea h2 h3];exact h4
theorem Par.inj {b d:Nat} (hb:0≤par b) (hd:0≤par d) (h:par b=par d):b=d:=by
 obtain ⟨c,h1,_,_,h2⟩:=P.line b hb
 obtain ⟨e,h3,_,_,h4⟩:=P.line d hd
 rw [←h] at h3
 obtain ⟨_,_,h1⟩:=h1
 obtain ⟨_,_,h3⟩:=h3
 rcases h1 with h1 |h1<;>rcases h3 with h3 |h3<;>rw [h1] at h3<;>simp only [Prod.mk.injEq] at h3<;>obtain ⟨rfl,rfl⟩:=h3<;>first |rfl |omega
theorem Way.mem {b:Nat} {w:List Nat} (h:Way ls on par b w): ∀k∈w,∃d,0≤par d∧(par d).toNat=k∧rk d≤rk b:=by
 induction h with
 |top _=>intro k hk;simp at hk
 | @step b c w h1 h2 _ ih=>
  intro k hk
  rcases List.mem_append.1 hk with hk |hk
  ·obtain ⟨d,h3,h4,h5⟩:=ih k hk
   exact ⟨d,h3,h4,by have:=(P.up h1 h2).2.2;omega⟩
  ·exact ⟨b,h1,(List.mem_singleton.1 hk).symm,Nat.le_refl _⟩
theorem Way.last {b c:Nat} {w:List Nat} (h1:0≤par b) (h2:Lk ls on (par b).toNat b c) (h:Way ls on par c w):(par b).toNat∉w:=by
 intro hm
 obtain ⟨d,h3,h4,h5⟩:=Way.mem P h _ hm
 have h6:=(P.up h1 h2).2.2
 have:b=d:=P.inj h1 h3 (by omega)
 subst this;omega
theorem Way.nodup {b:Nat} {w:List Nat} (h:Way ls on par b w):w.Nodup:=by
 induction h with
 |top _=>simp
 |step h1 h2 h3 ih=>
  rw [List.nodup_append]
  refine ⟨ih,by simp,fun a ha b hb=>?_⟩
  obtain rfl:b=_:=by simpa using hb
  intro e
  exact Way.last P h1 h2 h3 (e▸ha)
theorem Way.stays {b k:Nat} {w:List Nat} (h:Way ls on par b w) (hb:b<pts.length) (hf:gK (av ls on) pts b=true) (hk:k∉w):gK (av ls (on.set k false)) pts b=true:=by
 induction h with
 | @top b h=>
  rcases P.fed b hb hf with h1 |h1
  ·exact mB.2 ⟨b,h1,.refl _⟩
  ·omega
 | @step b c w h1 h2 _ ih=>
  have hc:=P.up h1 h2
  have:=ih hc.1 hc.2.1 fun hm=>hk (by simp [hm])
  exact Qs this (h2.off fun e=>hk (by simp [e])).cn.symm
theorem Way.under {b k:Nat} {w:List Nat} (h:Way ls on par b w) (hk:k∈w): ∃d c v,0≤par d∧(par d).toNat=k∧Lk ls on k d c∧Way ls on par c v∧k∉v∧c<pts.length∧gK (av ls on) pts c=true∧Cn (av ls (on.set k false)) d b:=by
 induction h with
 |top _=>simp at hk
 | @step b c w h1 h2 h3 ih=>
  have hc:=P.up h1 h2
  by_cases he:k=(par b).toNat
  ·subst he
   exact ⟨b,c,w,h1,rfl,h2,h3,Way.last P h1 h2 h3,hc.1,hc.2.1,.refl _⟩
  ·have hm:k∈w:=by simpa [he] using hk
   obtain ⟨d,e,v,g1,g2,g3,g4,g5,g6,g7,g8⟩:=ih hm
   exact ⟨d,e,v,g1,g2,g3,g4,g5,g6,g7,g8.trans (h2.off (Ne.symm he)).cn.symm⟩
include hl in
theorem Way.iff (hr:mH ls on pts=true) {b k:Nat} {w:List Nat} (h:Way ls on par b w) (hb:b<pts.length) (hf:gK (av ls on) pts b=true):k∈w↔gK (av ls (on.set k false)) pts b=false:=by
 constructor
 ·intro hk
  obtain ⟨d,c,v,h1,h2,h3,h4,h5,h6,h7,h8⟩:=Way.under P h hk
  cases hx:gK (av ls (on.set k false)) pts b
  ·rfl
  exfalso
  obtain ⟨f,f1,f2⟩:=mB.1 hx
  obtain ⟨g,g1,g2⟩:=mB.1 (Way.stays P h4 h6 h7 h5)
  obtain ⟨hk1,hk2,hk3⟩:=h3
  have hoff:=LN hk1 hl
  have hon:=LM hk1 hl hk2
  have M: ∀ {x y:Nat},Cn (av ls (on.set k false)) x y→Cn (av ls on) x y:=fun hxy=>hxy.mono fun e he=>by
   rw [hoff] at he;rw [hon]
   rcases List.mem_append.1 he with he |he<;>simp [he]
  rw [IL hl] at hr
  have hdc:Cn (av ls on) d c:=Lk.cn ⟨hk1,hk2,hk3⟩
  have hfg:f=g:=hr.2 f g f1 g1 ((M f2).trans ((M h8).symm.trans (hdc.trans (M g2).symm)))
  subst hfg
  have hj:Cn (av ls (on.set k false)) d c:=(h8.trans f2.symm).trans g2
  rw [hoff] at hj
  have hfo:=hr.1
  rw [hon] at hfo
  have:=XZ _ _ _ hfo
  rcases hk3 with e |e<;>rw [e] at this
  ·exact this hj
  ·exact this hj.symm
 ·intro hx
  refine Classical.byContradiction fun hk=>?_
  rw [Way.stays P h hb hf hk] at hx
  cases hx
end
def fm (ls:List Ln) (on:List Bool) (pts:List (Int×Int)) (k:Nat):Int:=
 ((List.range pts.length).map fun b=>if gK (av ls on) pts b&& !gK (av ls (on.set k false)) pts b then (pts.getD b (0,0)).2 else 0).sum
open Classical in
noncomputable def FZ (n:Nat) (f:Nat→Int) (p:Nat→Prop):Int:=((List.range n).map fun b=>if p b then f b else 0).sum
theorem Rv {n:Nat} {f g h:Nat→Int} (e: ∀b,b<n→f b=g b+h b):((List.range n).map f).sum=((List.range n).map g).sum+((List.range n).map h).sum:=by
 induction n with
 |zero=>rfl
 |succ n ih=>
  rw [List.range_succ,List.map_append,List.map_append,List.map_append,List.sum_append,List.sum_append,List.sum_append,ih fun b hb=>e b (by omega)]
  have:=e n (by omega)
  simp only [List.map_cons,List.map_nil,List.sum_cons,List.sum_nil]
  omega
theorem qw {n:Nat} {f g:Nat→Int} (e: ∀b,b<n→f b=g b):((List.range n).map f).sum=((List.range n).map g).sum:=by
 congr 1
 exact List.map_congr_left fun b hb=>e b (by simpa using hb)
theorem yU {n:Nat} {f:Nat→Int} (e: ∀b,b<n→f b=0):((List.range n).map f).sum=0:=by
 rw [qw e]
 induction n with
 |zero=>rfl
 |succ n ih=>rw [List.range_succ,List.map_append,List.sum_append,ih fun b hb=>e b (by omega)];rfl
theorem Rs {n:Nat} (f:Nat→Int) {a:Nat} (ha:a<n):((List.range n).map fun b=>if b=a then f b else 0).sum=f a:=by
 induction n with
 |zero=>omega
 |succ n ih=>
  rw [List.range_succ,List.map_append,List.sum_append]
  by_cases h:a=n
  ·subst h
   rw [yU fun b hb=>if_neg (by omega)]
   simp
  ·rw [ih (by omega)]
   simp only [List.map_cons,List.map_nil,List.sum_cons,List.sum_nil]
   rw [if_neg (by omega)];omega
theorem Od {n:Nat} {f:Nat→Int} {p q r:Nat→Prop} (e: ∀b,b<n→(p b↔q b∨r b)) (d: ∀b,b<n→ ¬(q b∧r b)):FZ n f p=FZ n f q+FZ n f r:=by
 refine Rv fun b hb=>?_
 have h1:=e b hb
 have h2:=d b hb
 by_cases hq:q b
 ·have hr: ¬r b:=fun h=>h2 ⟨hq,h⟩
  rw [if_pos (h1.2 (.inl hq)),if_pos hq,if_neg hr];omega
 ·by_cases hr:r b
  ·rw [if_pos (h1.2 (.inr hr)),if_neg hq,if_pos hr];omega
  ·rw [if_neg (fun h=>(h1.1 h).elim hq hr),if_neg hq,if_neg hr];rfl
theorem Ja {n:Nat} {f:Nat→Int} {p q:Nat→Prop} (e: ∀b,b<n→(p b↔q b)):FZ n f p=FZ n f q:=by
 refine qw fun b hb=>?_
 by_cases h:p b
 ·rw [if_pos h,if_pos ((e b hb).1 h)]
 ·rw [if_neg h,if_neg fun h2=>h ((e b hb).2 h2)]
theorem Vw {n:Nat} {f:Nat→Int} {a:Nat} (ha:a<n):FZ n f (fun b=>b=a)=f a:=by
 rw [←Rs f ha]
 exact qw fun b hb=>by by_cases h:b=a<;>simp [h]
theorem SE {n:Nat} {f:Nat→Int} {p:Nat→Prop} (e: ∀b,b<n→ ¬p b):FZ n f p=0:=
 yU fun b hb=>if_neg (e b hb)
def cK (E:Ed) (pts:List (Int×Int)) (f:Int×Int→Int) (b:Nat):Int:=((List.range pts.length).map fun c=>if aO E c=aO E b then f (pts.getD c (0,0)) else 0).sum
def Up (ls:List Ln) (on:List Bool) (par:Nat→Int) (b c:Nat):Prop:=0≤par b∧Lk ls on (par b).toNat b c
inductive An (ls:List Ln) (on:List Bool) (par:Nat→Int) (d:Nat):Nat→Prop
 |self:An ls on par d d
 |step {b c:Nat}:Up ls on par b c→An ls on par d c→An ls on par d b
section
variable {ls:List Ln} {on:List Bool} {pts:List (Int×Int)} {par:Nat→Int} {rk:Nat→Nat} (P:Par ls on pts par rk) (hl:on.length=ls.length)
theorem Up.inj {b c d:Nat} (h:Up ls on par b c) (h':Up ls on par b d):c=d:=Ea h.2 h'.2
theorem An.trans {a b c:Nat} (h:An ls on par a b) (h':An ls on par b c):An ls on par a c:=by
 induction h' with
 |self=>exact h
 |step u _ ih=>exact .step u ih
theorem An.top {o b:Nat}:An ls on par o b↔b=o∨ ∃d,Up ls on par d o∧An ls on par d b:=by
 constructor
 ·intro h
  induction h with
  |self=>exact .inl rfl
  | @step b c u h ih=>
   rcases ih with rfl |⟨d,h1,h2⟩
   ·exact .inr ⟨b,u,.self⟩
   ·exact .inr ⟨d,h1,.step u h2⟩
 ·rintro (rfl |⟨d,h1,h2⟩)
  ·exact .self
  ·exact An.trans (.step h1 .self) h2
theorem An.chain {d e b:Nat} (h:An ls on par d b) (h':An ls on par e b):An ls on par d e∨An ls on par e d:=by
 induction h with
 |self=>exact .inr h'
 | @step b c u h ih=>
  cases h' with
  |self=>exact .inl (.step u h)
  |step u' h2=>
   obtain rfl:=u.inj u'
   exact ih h2
include P
theorem An.rkle {d b:Nat} (h:An ls on par d b):rk d≤rk b:=by
 induction h with
 |self=>exact Nat.le_refl _
 |step u _ ih=>have:=(P.up u.1 u.2).2.2;omega
omit P in
theorem An.proper {d b c:Nat} (h:An ls on par d b) (u:Up ls on par b c) (hne:d≠b):An ls on par d c:=by
 cases h with
 |self=>exact absurd rfl hne
 |step u' h'=>rw [u.inj u'];exact h'
theorem An.way {d b:Nat} {w:List Nat} (hd:0≤par d) (h:Way ls on par b w):An ls on par d b↔(par d).toNat∈w:=by
 induction h with
 | @top b h=>
  constructor
  ·intro h1
   cases h1 with
   |self=>omega
   |step u _=>have:=u.1;omega
  ·intro h1;simp at h1
 | @step b c w h1 h2 h3 ih=>
  constructor
  ·intro h
   by_cases e:d=b
   ·subst e;simp
   ·have:=ih.1 (An.proper h ⟨h1,h2⟩ e)
    simp [this]
  ·intro h
   rcases List.mem_append.1 h with h |h
   ·exact .step ⟨h1,h2⟩ (ih.2 h)
   ·have e:(par d).toNat=(par b).toNat:=by simpa using h
    rw [P.inj hd h1 (by omega)];exact .self
theorem Up.fed {b c:Nat} (u:Up ls on par b c):gK (av ls on) pts b=true:=Qs (P.up u.1 u.2).2.1 u.2.cn.symm
theorem An.fed {d b:Nat} (h:An ls on par d b) (hd:gK (av ls on) pts d=true):gK (av ls on) pts b=true:=by
 induction h with
 |self=>exact hd
 |step u _ _=>exact Up.fed P u
include hl in
theorem Par.flow (hr:mH ls on pts=true) {d:Nat} (hd:0≤par d):fm ls on pts (par d).toNat=FZ pts.length (fun b=>(pts.getD b (0,0)).2) (An ls on par d):=by
 refine qw fun b hb=>?_
 obtain ⟨c,hc,_⟩:=P.line d hd
 have hdf:gK (av ls on) pts d=true:=Up.fed P ⟨hd,hc⟩
 obtain ⟨w,hw⟩:=P.way (rk b) b (Nat.le_refl _)
 cases hf:gK (av ls on) pts b
 ·have hna: ¬An ls on par d b:=fun h=>by rw [An.fed P h hdf] at hf;cases hf
  simp [hna]
 ·have h1:=Way.iff P hl hr hw hb hf (k:=(par d).toNat)
  have h2:=An.way P hd hw
  cases hx:gK (av ls (on.set (par d).toNat false)) pts b
  ·have ha:=h2.2 (h1.2 hx)
   simp [ha]
  ·have hna: ¬An ls on par d b:=fun h=>by have:=h1.1 (h2.1 h);rw [hx] at this;cases this
   simp [hna]
include hl in
theorem Par.flow0 (hr:mH ls on pts=true) {k:Nat} (hk: ∀d,0≤par d→(par d).toNat≠k):fm ls on pts k=0:=by
 refine yU fun b hb=>?_
 obtain ⟨w,hw⟩:=P.way (rk b) b (Nat.le_refl _)
 cases hf:gK (av ls on) pts b
 ·rfl
 ·cases hx:gK (av ls (on.set k false)) pts b
  ·have h1:=(Way.iff P hl hr hw hb hf (k:=k)).2 hx
   obtain ⟨d,h2,h3,_⟩:=Way.mem P hw k h1
   exact absurd h3 (hk d h2)
  ·rfl
omit P
def Wt (ls:List Ln) (on:List Bool) (par:Nat→Int) (rk:Nat→Nat) (F:Nat→Prop) (i c b:Nat):Prop:=(b=c∧F c∧i≤rk c)∨ ∃d,Up ls on par d c∧i≤rk d∧An ls on par d b
noncomputable def ph (ls:List Ln) (on:List Bool) (pts:List (Int×Int)) (par:Nat→Int) (rk:Nat→Nat) (i c:Nat):Int:=FZ pts.length (fun b=>(pts.getD b (0,0)).2) (Wt ls on par rk (fun c=>gK (av ls on) pts c=true) i c)
noncomputable def nK (ls:List Ln) (on:List Bool) (pts:List (Int×Int)) (par:Nat→Int) (o:Nat):Int:=FZ pts.length (fun b=>(pts.getD b (0,0)).2) (An ls on par o)
include P
theorem Par.want_self {i o:Nat} (ho:rk o=i) (hb:o<pts.length) (hf:gK (av ls on) pts o=true):ph ls on pts par rk (i+1) o+(pts.getD o (0,0)).2=nK ls on pts par o:=by
 unfold ph nK
 rw [←Vw (f:=fun b=>(pts.getD b (0,0)).2) hb]
 refine (Od (fun b hb=>?_) (fun b hb=>?_)).symm
 ·rw [An.top]
  constructor
  ·rintro (h |⟨d,h1,h2⟩)
   ·exact .inr h
   ·exact .inl (.inr ⟨d,h1,by have:=(P.up h1.1 h1.2).2.2;omega,h2⟩)
  ·rintro ((⟨_,_,h⟩ |⟨d,h1,_,h2⟩) |h)
   ·omega
   ·exact .inr ⟨d,h1,h2⟩
   ·exact .inl h
 ·rintro ⟨⟨_,_,h⟩ |⟨d,h1,_,h2⟩,rfl⟩
  ·omega
  ·have:=An.rkle P h2
   have:=(P.up h1.1 h1.2).2.2
   omega
theorem Par.want_now {i o:Nat} (ho:rk o=i) (hf:gK (av ls on) pts o=true):ph ls on pts par rk i o=nK ls on pts par o:=by
 refine Ja fun b hb=>?_
 rw [An.top]
 constructor
 ·rintro (⟨h,_⟩ |⟨d,h1,_,h2⟩)
  ·exact .inl h
  ·exact .inr ⟨d,h1,h2⟩
 ·rintro (h |⟨d,h1,h2⟩)
  ·exact .inl ⟨h,hf,by omega⟩
  ·exact .inr ⟨d,h1,by have:=(P.up h1.1 h1.2).2.2;omega,h2⟩
theorem Par.want_up {i o c:Nat} (hinj: ∀a b,gK (av ls on) pts a=true→gK (av ls on) pts b=true→rk a=rk b→a=b) (ho:rk o=i) (u:Up ls on par o c):ph ls on pts par rk i c=ph ls on pts par rk (i+1) c+nK ls on pts par o:=by
 have hrk:=(P.up u.1 u.2).2.2
 refine Od (fun b hb=>?_) (fun b hb=>?_)
 ·constructor
  ·rintro (⟨_,_,h⟩ |⟨d,h1,h2,h3⟩)
   ·omega
   ·by_cases e:rk d=i
    ·rw [hinj o d (Up.fed P u) (Up.fed P h1) (by omega)];exact .inr h3
    ·exact .inl (.inr ⟨d,h1,by omega,h3⟩)
  ·rintro ((⟨_,_,h⟩ |⟨d,h1,h2,h3⟩) |h)
   ·omega
   ·exact .inr ⟨d,h1,by omega,h3⟩
   ·exact .inr ⟨o,u,by omega,h⟩
 ·rintro ⟨⟨_,_,h⟩ |⟨d,h1,h2,h3⟩,h4⟩
  ·omega
  ·have hne:d≠o:=fun e=>by subst e;omega
   rcases An.chain h3 h4 with h |h
   ·have:=An.rkle P (An.proper h u hne)
    have:=(P.up h1.1 h1.2).2.2
    omega
   ·have:=An.rkle P (An.proper h h1 (Ne.symm hne))
    omega
theorem Par.want_else {i o c:Nat} (hinj: ∀a b,gK (av ls on) pts a=true→gK (av ls on) pts b=true→rk a=rk b→a=b) (ho:rk o=i) (hf:gK (av ls on) pts o=true) (h1:c≠o) (h2: ¬Up ls on par o c):ph ls on pts par rk i c=ph ls on pts par rk (i+1) c:=by
 refine Ja fun b hb=>?_
 constructor
 ·rintro (⟨h3,h4,h5⟩ |⟨d,h3,h4,h5⟩)
  ·refine .inl ⟨h3,h4,?_⟩
   by_cases e:rk c=i
   ·exact absurd (hinj c o h4 hf (by omega)) h1
   ·omega
  ·refine .inr ⟨d,h3,?_,h5⟩
   by_cases e:rk d=i
   ·rw [hinj d o (Up.fed P h3) hf (by omega)] at h3;exact absurd h3 h2
   ·omega
 ·rintro (⟨h3,h4,h5⟩ |⟨d,h3,h4,h5⟩)
  ·exact .inl ⟨h3,h4,by omega⟩
  ·exact .inr ⟨d,h3,by omega,h5⟩
end
def zT (b:Int) (l:Ln):Bool:=Kq l.1 0 (b-1)&&Kq l.2.1 0 (b-1)&& !(l.1==l.2.1)&&Kq l.2.2 1 999
def FO (b:Int) (ls:List Ln):Bool:=Kq b 1 8&&decide (ls.length≤10)&& !(List.range ls.length).any fun k=> !zT b (ls.getD k (0,0,0))
def Jk (p:Int×Int):Bool:=Kq p.1 0 999&&Kq p.2 0 999
def qy (b:Int) (ls:List Ln) (pts:List (Int×Int)):Bool:=FO b ls&&decide ((pts.length:Int)=b)&& !(List.range pts.length).any fun k=> !Jk (pts.getD k (0,0))
def XH (b:Int) (ls:List Ln) (on:List Bool):Bool:=FO b ls&&decide (on.length=ls.length)
def NC (b:Int) (ls:List Ln) (on:List Bool) (pts:List (Int×Int)):Bool:=XH b ls on&&qy b ls pts
def vX (b:Int) (ls:List Ln) (on:List Bool) (pts:List (Int×Int)):Bool:=NC b ls on pts&&mH ls on pts
structure LnOk (b:Int) (l:Ln):Prop where
 a:0≤l.1∧l.1<b
 b:0≤l.2.1∧l.2.1<b
 ne:l.1≠l.2.1
 m:1≤l.2.2∧l.2.2≤999
structure NetOk (b:Int) (ls:List Ln):Prop where
 b0:1≤b
 b1:b≤8
 ll:ls.length≤10
 ln: ∀k,k<ls.length→LnOk b (ls.getD k (0,0,0))
theorem Kw {b:Int} {l:Ln}:zT b l=true↔LnOk b l:=by
 simp only [zT,Bool.and_eq_true,tR,Bool.not_eq_true',beq_eq_false_iff_ne]
 constructor
 ·rintro ⟨⟨⟨h1,h2⟩,h3⟩,h4⟩;exact ⟨by omega,by omega,h3,h4⟩
 ·intro h;have:=h.a;have:=h.b;exact ⟨⟨⟨by omega,by omega⟩,h.ne⟩,h.m⟩
theorem yJ {b:Int} {ls:List Ln}:FO b ls=true↔NetOk b ls:=by
 unfold FO
 rw [Bool.and_eq_true,MD,Bool.and_eq_true,tR,decide_eq_true_eq]
 constructor
 ·rintro ⟨⟨h1,h2⟩,h3⟩;exact ⟨h1.1,h1.2,h2,fun k hk=>Kw.1 (by have:=h3 k hk;simpa using this)⟩
 ·intro h;exact ⟨⟨⟨h.b0,h.b1⟩,h.ll⟩,fun k hk=>by rw [Kw.2 (h.ln k hk)];rfl⟩
structure BusOk (b:Int) (ls:List Ln) (pts:List (Int×Int)):Prop where
 net:NetOk b ls
 lp:(pts.length:Int)=b
 bs: ∀k,k<pts.length→(0≤(pts.getD k (0,0)).1∧(pts.getD k (0,0)).1≤999)∧(0≤(pts.getD k (0,0)).2∧(pts.getD k (0,0)).2≤999)
theorem wg {b:Int} {ls:List Ln} {pts:List (Int×Int)}:qy b ls pts=true↔BusOk b ls pts:=by
 unfold qy
 rw [Bool.and_eq_true,MD,Bool.and_eq_true,yJ,decide_eq_true_eq]
 constructor
 ·rintro ⟨⟨h1,h2⟩,h3⟩;exact ⟨h1,h2,fun k hk=>by have:=h3 k hk;simpa [Jk,tR] using this⟩
 ·intro h;exact ⟨⟨h.net,h.lp⟩,fun k hk=>by
   have h2:Jk (pts.getD k (0,0))=true:=by unfold Jk;rw [Bool.and_eq_true,tR,tR];exact h.bs k hk
   rw [h2];rfl⟩
theorem UD {b:Int} {ls:List Ln} {pts:List (Int×Int)} (h:BusOk b ls pts) (on:List Bool): ∀e∈av ls on,e.1<pts.length∧e.2<pts.length:=by
 intro e he
 obtain ⟨k,hk,_,rfl⟩:=EF.1 he
 have h1:=h.net.ln k hk
 have:=h.lp;have:=h1.a;have:=h1.b
 exact ⟨by unfold bQ;dsimp only;omega,by unfold bQ;dsimp only;omega⟩
theorem wF: ∀ {l m:List Int},l.Pairwise (· < ·)→m.Pairwise (· < ·)→(∀x,x∈l↔x∈m)→l=m
 | [],[],_,_,_=>rfl
 | [],y::m,_,_,h=>by have:=(h y).2 (by simp);simp at this
 |x::l,[],_,_,h=>by have:=(h x).1 (by simp);simp at this
 |x::l,y::m,hl,hm,h=>by
  rw [List.pairwise_cons] at hl hm
  have hxy:x=y:=by
   rcases List.mem_cons.1 ((h x).1 (by simp)) with h1 |h1
   ·exact h1
   ·rcases List.mem_cons.1 ((h y).2 (by simp)) with h2 |h2
    ·exact h2.symm
    ·have:=hm.1 x h1;have:=hl.1 y h2;omega
  subst hxy
  rw [wF hl.2 hm.2 fun z=>?_]
  constructor
  ·intro hz
   rcases List.mem_cons.1 ((h z).1 (by simp [hz])) with h1 |h1
   ·subst h1;have:=hl.1 z hz;omega
   ·exact h1
  ·intro hz
   rcases List.mem_cons.1 ((h z).2 (by simp [hz])) with h1 |h1
   ·subst h1;have:=hm.1 z hz;omega
   ·exact h1
def Ip (a:Int) (l:List Int):List Int:=l.filter (fun x=>decide (x<a))++a::l.filter (fun x=>decide (a<x))
theorem Iq {a:Int} {l:List Int} {x:Int}:x∈Ip a l↔x=a∨x∈l:=by
 simp only [Ip,List.mem_append,List.mem_cons,List.mem_filter,decide_eq_true_eq]
 constructor
 ·rintro (⟨h,_⟩ |h |⟨h,_⟩)
  ·exact .inr h
  ·exact .inl h
  ·exact .inr h
 ·rintro (h |h)
  ·exact .inr (.inl h)
  ·rcases Int.lt_trichotomy x a with h1 |h1 |h1
   ·exact .inl ⟨h,h1⟩
   ·exact .inr (.inl h1)
   ·exact .inr (.inr ⟨h,h1⟩)
theorem xY {a:Int} {l:List Int} (h:l.Pairwise (· < ·)):(Ip a l).Pairwise (· < ·):=by
 unfold Ip
 rw [List.pairwise_append,List.pairwise_cons]
 refine ⟨h.sublist List.filter_sublist,⟨fun x hx=>?_,h.sublist List.filter_sublist⟩,fun x hx y hy=>?_⟩
 ·have:=(List.mem_filter.1 hx).2;simpa using this
 ·have h1:x<a:=by have:=(List.mem_filter.1 hx).2;simpa using this
  rcases List.mem_cons.1 hy with rfl |hy
  ·exact h1
  ·have:a<y:=by have:=(List.mem_filter.1 hy).2;simpa using this
   omega
theorem JQ {l:List Int} (h: ∀k,k+1<l.length→l.getD k 0<l.getD (k+1) 0):l.Pairwise (· < ·):=by
 rw [List.pairwise_iff_getElem]
 have key: ∀d i,i+d+1<l.length→l.getD i 0<l.getD (i+d+1) 0:=by
  intro d
  induction d with
  |zero=>intro i hi;exact h i hi
  |succ d ih=>
   intro i hi
   have h1:=ih i (by omega)
   have h2:=h (i+d+1) (by omega)
   have e:i+(d+1)+1=i+d+1+1:=by omega
   rw [e];omega
 intro i j hi hj hij
 have:=key (j-i-1) i (by omega)
 rw [show i+(j-i-1)+1=j by omega,ac hi,ac hj] at this
 exact this
theorem uk {l:List Int} (h:l.Pairwise (· < ·)) {k:Nat} (hk:k+1<l.length):l.getD k 0<l.getD (k+1) 0:=by
 rw [List.pairwise_iff_getElem] at h
 rw [ac (by omega),ac hk]
 exact h k (k+1) (by omega) hk (by omega)
@[ext] structure Wd where
 b:Int
 ls:List Ln
 pts:List (Int×Int)
 on:List Bool
 earth:List Bool
 pm:Pm
 br:List Int
def Wd.wk (w:Wd):Wk:=(w.on,w.earth,w.pm)
def Wd.put (w:Wd) (k:Wk):Wd:=⟨w.b,w.ls,w.pts,k.1,k.2.1,k.2.2,w.br⟩
def Wd.zero:Wd:=⟨0,[],[],[],[],[],[]⟩
def DH (on:List Bool) (br:List Int) (k:Nat):Bool:=(decide (0≤br.getD k 0)&&decide (br.getD k 0<(on.length:Int)))&& !on.getD (br.getD k 0).toNat false&&(decide (k=0) ||decide (br.getD (k-1) 0<br.getD k 0))
def brV (on:List Bool) (br:List Int):Bool:= !(List.range br.length).any fun k=> !DH on br k
def wv (w:Wd):Bool:=qy w.b w.ls w.pts&&nH w.on w.earth w.pm&&decide (w.on.length=w.ls.length)&&brV w.on w.br&&mH w.ls w.on w.pts
structure WdOk (w:Wd):Prop where
 bus:BusOk w.b w.ls w.pts
 work:WOk w.wk
 len:w.on.length=w.ls.length
 inn: ∀x∈w.br,(0≤x∧x<(w.on.length:Int))∧w.on.getD x.toNat false=false
 sor:w.br.Pairwise (· < ·)
 rad:mH w.ls w.on w.pts=true
theorem Wo {on:List Bool} {br:List Int}:brV on br=true↔(∀x∈br,(0≤x∧x<(on.length:Int))∧on.getD x.toNat false=false)∧br.Pairwise (· < ·):=by
 unfold brV
 rw [MD]
 constructor
 ·intro h
  have h1: ∀k,k<br.length→(0≤br.getD k 0∧br.getD k 0<(on.length:Int))∧on.getD (br.getD k 0).toNat false=false∧(k=0∨br.getD (k-1) 0<br.getD k 0):=by
   intro k hk
   have:=h k hk
   simpa only [DH,Bool.not_eq_false',Bool.and_eq_true,Bool.or_eq_true,decide_eq_true_eq,Bool.not_eq_true',and_assoc] using this
  refine ⟨fun x hx=>?_,JQ fun k hk=>?_⟩
  ·obtain ⟨k,hk,rfl⟩:=List.mem_iff_getElem.1 hx
   have:=h1 k hk
   rw [ac hk] at this
   exact ⟨this.1,this.2.1⟩
  ·rcases (h1 (k+1) hk).2.2 with h2 |h2
   ·omega
   ·simpa using h2
 ·rintro ⟨h1,h2⟩ k hk
  have h3:=h1 (br.getD k 0) (by rw [ac hk];exact List.getElem_mem hk)
  have h4:k=0∨br.getD (k-1) 0<br.getD k 0:=by
   rcases Nat.eq_zero_or_pos k with h |h
   ·exact .inl h
   ·obtain ⟨j,rfl⟩: ∃j,k=j+1:=⟨k-1,by omega⟩
    exact .inr (uk h2 hk)
  have:DH on br k=true:=by simpa only [DH,Bool.and_eq_true,Bool.or_eq_true,decide_eq_true_eq,Bool.not_eq_true',and_assoc] using ⟨h3.1.1,h3.1.2,h3.2,h4⟩
  rw [this];rfl
theorem jL {w:Wd}:wv w=true↔WdOk w:=by
 unfold wv
 rw [Bool.and_eq_true,Bool.and_eq_true,Bool.and_eq_true,Bool.and_eq_true,wg,decide_eq_true_eq,Wo]
 constructor
 ·rintro ⟨⟨⟨⟨h1,h2⟩,h3⟩,h4,h5⟩,h6⟩;exact ⟨h1,Hq.1 h2,h3,h4,h5,h6⟩
 ·intro h;exact ⟨⟨⟨⟨h.bus,Hq.2 h.work⟩,h.len⟩,h.inn,h.sor⟩,h.rad⟩
def di (w:Wd) (kd a who:Int):Wd×Bool:=
 if wv w=true then
  if 0≤a∧a<(w.on.length:Int) then
   if kd=6∧a∉w.br then ({w with on:=w.on.set a.toNat false,br:=Ip a w.br},true)
   else if kd=7∧a∈w.br∧(who,a)∈w.pm then ({w with br:=w.br.filter fun x=>x !=a},true)
   else if kd=0∧a∈w.br then (w,false)
   else if (gJ w.wk kd a who).2=true∧mH w.ls (gJ w.wk kd a who).1.1 w.pts=true then (w.put (gJ w.wk kd a who).1,true)
   else (w,false)
  else (w,false)
 else (.zero,false)
theorem aab {w:Wk} {kd a who:Int} (h:kd≠0): ∀k,(ej w kd a who).1.getD k false=true→w.1.getD k false=true:=by
 intro k hk
 unfold ej at hk
 rw [if_neg h] at hk
 split at hk
 ·by_cases e:a.toNat=k
  ·subst e
   rcases Nat.lt_or_ge a.toNat w.1.length with h1 |h1
   ·rw [vi h1] at hk;cases hk
   ·rw [acD (by simpa using h1)] at hk;cases hk
  ·rwa [fo e] at hk
 ·split at hk
  ·exact hk
  ·split at hk
   ·exact hk
   ·split at hk<;>exact hk
theorem Pu (w:Wk) (kd a who:Int):(ej w kd a who).1.length=w.1.length:=(Xp w kd a who).1
theorem Hp {w:Wk} (hw:WOk w) {kd a who:Int}:(gJ w kd a who).1.1.length=w.1.length∧(kd≠0→ ∀k,(gJ w kd a who).1.1.getD k false=true→w.1.getD k false=true):=by
 rcases DZ hw kd a who with ⟨h,_⟩ |⟨h,_⟩
 ·rw [h];exact ⟨Pu _ _ _ _,fun h0=>aab h0⟩
 ·rw [h];exact ⟨rfl,fun _ k hk=>hk⟩
theorem VJ {w:Wd} (h:WdOk w) {kd a who:Int} (h0:kd≠0):mH w.ls (gJ w.wk kd a who).1.1 w.pts=true:=by
 have h1:=Hp h.work (kd:=kd) (a:=a) (who:=who)
 exact NN (h1.1.trans h.len) h.len (h1.2 h0) h.rad
theorem SO {w:Wd} (h:WdOk w) {k:Wk} (hk:WOk k) (hl:k.1.length=w.on.length) (hbr: ∀x∈w.br,k.1.getD x.toNat false=false) (hr:mH w.ls k.1 w.pts=true):WdOk (w.put k):=
 ⟨h.bus,hk,hl.trans h.len,fun x hx=>⟨by have:=(h.inn x hx).1;show 0≤x∧x<(k.1.length:Int);rw [hl];exact this,hbr x hx⟩,h.sor,hr⟩
theorem VK {w:Wk} (h:WOk w) (kd a who:Int):WOk (gJ w kd a who).1:=by
 rcases DZ h kd a who with ⟨h1,_,_,h2⟩ |⟨h1,_⟩
 ·rw [h1];exact h2
 ·rw [h1];exact h
theorem Rx {w:Wd} (h:WdOk w) (kd a who:Int):WdOk (di w kd a who).1:=by
 unfold di
 rw [if_pos (jL.2 h)]
 split
 ·rename_i ha
  split
  ·rename_i h6
   have hal:a.toNat<w.on.length:=by omega
   have hsub: ∀k,(w.on.set a.toNat false).getD k false=true→w.on.getD k false=true:=by
    intro k hk
    by_cases e:a.toNat=k
    ·subst e;rw [vi hal] at hk;cases hk
    ·rwa [fo e] at hk
   have hw:=h.work
   refine ⟨h.bus,⟨by simpa [Wd.wk] using hw.l0,by simpa [Wd.wk] using hw.l1,by simpa [Wd.wk] using hw.le,hw.lp,fun k hk=>hw.ne k (hsub k hk),fun p hp=>?_,hw.nd⟩,by simpa using h.len,fun x hx=>?_,xY h.sor,NN (by simpa using h.len) h.len hsub h.rad⟩
   ·have:=hw.pm p hp
    simpa [Wd.wk] using this
   ·dsimp only at hx ⊢
    rcases Iq.1 hx with rfl |hx
    ·exact ⟨by simpa using ha,vi hal⟩
    ·have:=h.inn x hx
     refine ⟨by simpa using this.1,?_⟩
     cases hc:(w.on.set a.toNat false).getD x.toNat false
     ·rfl
     ·rw [hsub _ hc] at this;exact this.2
  ·split
   ·exact ⟨h.bus,h.work,h.len,fun x hx=>h.inn x (List.mem_filter.1 hx).1,h.sor.sublist List.filter_sublist,h.rad⟩
   ·split
    ·exact h
    ·rename_i h6 h7 h0
     split
     ·rename_i hr
      have h1:=Hp h.work (kd:=kd) (a:=a) (who:=who)
      refine SO h (VK h.work kd a who) h1.1 (fun x hx=>?_) hr.2
      have hi:=h.inn x hx
      by_cases hk:kd=0
      ·subst hk
       have hne:a≠x:=fun e=>h0 ⟨rfl,e▸hx⟩
       rcases DZ h.work 0 a who with ⟨g,_⟩ |⟨g,_⟩
       ·rw [g]
        show (w.on.set a.toNat true).getD x.toNat false=false
        rw [fo (by omega)];exact hi.2
       ·rw [g];exact hi.2
      ·cases hc:(gJ w.wk kd a who).1.1.getD x.toNat false
       ·rfl
       ·have h2:=h1.2 hk _ hc
        rw [show w.wk.1=w.on from rfl] at h2
        rw [h2] at hi;exact hi.2
     ·exact h
 ·exact h
theorem SM {w:Wd} (h:WdOk w) {kd a who:Int} (hf:(di w kd a who).2=false):(di w kd a who).1=w:=by
 unfold di at hf ⊢
 rw [if_pos (jL.2 h)] at hf ⊢
 split<;>rename_i ha
 ·rw [if_pos ha] at hf
  split<;>rename_i h6
  ·rw [if_pos h6] at hf;cases hf
  ·rw [if_neg h6] at hf
   split<;>rename_i h7
   ·rw [if_pos h7] at hf;cases hf
   ·rw [if_neg h7] at hf
    split<;>rename_i h0
    ·rfl
    ·rw [if_neg h0] at hf
     split<;>rename_i hr
     ·rw [if_pos hr] at hf;cases hf
     ·rfl
 ·rfl
abbrev Dd:=Int×Int×Int
def ef (s:Int×Wd) (d:Dd):Int×Wd:=if (di s.2 d.1 d.2.1 d.2.2).2=true then (s.1+1,(di s.2 d.1 d.2.1 d.2.2).1) else s
theorem SN {s:Int×Wd} (h:WdOk s.2) (d:Dd):WdOk (ef s d).2:=by
 unfold ef
 split
 ·exact Rx h _ _ _
 ·exact h
theorem Ge (l:List Dd): ∀ {s:Int×Wd},WdOk s.2→WdOk (l.foldl ef s).2:=by
 induction l with
 |nil=>intro s h;exact h
 |cons d l ih=>intro s h;exact ih (SN h d)
def EY (w:Wd) (l:List Dd):Int×Wd:=if wv w=true then l.foldl ef (0,w) else (0,.zero)
theorem VI {w:Wd} (h:WdOk w) (l:List Dd):WdOk (EY w l).2:=by
 unfold EY;rw [if_pos (jL.2 h)];exact Ge l h
theorem vO {σ Out:Type} (L:Nat→σ→Option Out) (R:Nat→σ→Prop) (n:Nat) (zp:σ→Option Out) (hn:n≤1099511627776)
 (hstep: ∀k fuel s,k<n→R k s→ ∃s',R (k+1) s'∧L (fuel+1) s=L fuel s') (hend: ∀fuel s,R n s→L (fuel+1) s=zp s) (s:σ) (h0:R 0 s): ∃s',R n s'∧L ai s=zp s':=by
 have go: ∀j k fuel s,k+j=n→j<fuel→R k s→ ∃s',R n s'∧L fuel s=zp s':=by
  intro j
  induction j with
  |zero=>
   intro k fuel s hk hf hr
   obtain ⟨f,rfl⟩: ∃f,fuel=f+1:=⟨fuel-1,by omega⟩
   obtain rfl:k=n:=by omega
   exact ⟨s,hr,hend f s hr⟩
  |succ j ih=>
   intro k fuel s hk hf hr
   obtain ⟨f,rfl⟩: ∃f,fuel=f+1:=⟨fuel-1,by omega⟩
   obtain ⟨s',h1,h2⟩:=hstep k f s (by omega) hr
   rw [h2]
   exact ih (k+1) f s' (by omega) (by omega) h1
 exact go n 0 ai s (by omega) (pF hn) h0
theorem RT {σ Out:Type} (L:Nat→σ→Option Out) (R:Nat→σ→Prop) (n:Nat) (P:Nat→Bool) (fv out:Option Out) (hn:n≤1099511627776)
 (hstep: ∀k fuel s,k<n→R k s→(P k=true∧L (fuel+1) s=fv)∨(P k=false∧ ∃s',R (k+1) s'∧L (fuel+1) s=L fuel s')) (hend: ∀fuel s,R n s→L (fuel+1) s=out) (s:σ) (h0:R 0 s):
 L ai s=bif (List.range n).any P then fv else out:=by
 have go: ∀j k fuel s,k+j=n→j<fuel→R k s→L fuel s=bif (List.range' k j).any P then fv else out:=by
  intro j
  induction j with
  |zero=>
   intro k fuel s hk hf hr
   obtain ⟨f,rfl⟩: ∃f,fuel=f+1:=⟨fuel-1,by omega⟩
   obtain rfl:k=n:=by omega
   simpa using hend f s hr
  |succ j ih=>
   intro k fuel s hk hf hr
   obtain ⟨f,rfl⟩: ∃f,fuel=f+1:=⟨fuel-1,by omega⟩
   rw [List.range'_succ,List.any_cons]
   rcases hstep k f s (by omega) hr with ⟨h1,h2⟩ |⟨h1,s',h2,h3⟩
   ·rw [h1,h2];rfl
   ·rw [h1,h3,ih (k+1) f s' (by omega) (by omega) h2];rfl
 rw [go n 0 ai s (by omega) (pF hn) h0,List.range_eq_range']
theorem ltN (b:Int):(af b 1 ||af 8 b)= !Kq b 1 8:=by rw [Bool.eq_iff_iff];simp [af,Kq]<;>omega
theorem ac5 (n:Nat):af 10 (n:Int)= !decide (n≤10):=by rw [Bool.eq_iff_iff];simp [af];omega
theorem QK (a b:Nat):((a:Int)==(b:Int))=decide (a=b):=by rw [Bool.eq_iff_iff];simp<;>omega
theorem WU (b:Int) (l:Ln):zT b l=((aF 0 l.1&&af l.1 b)&&(aF 0 l.2.1&&af l.2.1 b)&& !(l.1==l.2.1)&&(!af l.2.2 1&& !af 999 l.2.2)):=by
 rw [Bool.eq_iff_iff];simp [zT,Kq,aF,af]<;>omega
theorem Zp (b:Int) (ls:List Ln):aX b ls=some (FO b ls):=by
 unfold aX FO
 rw [ltN,ac5]
 cases h1:Kq b 1 8
 ·rfl
 by_cases hl:ls.length≤10
 ·have h:=bU (ez b ls) (fun k=>(k:Int)) ls.length (fun k=> !zT b (ls.getD k (0,0,0))) (some (.inr false)) (some (.inl ())) (by omega) (fun k fuel hk=>?_) (fun fuel=>?_)
  ·rw [show ez b ls ai 0=_ from h,decide_eq_true hl]
   cases (List.range ls.length).any fun k=> !zT b (ls.getD k (0,0,0))<;>rfl
  ·rw [rU,gR]
   simp only [au hk,ae hk,aa,cond_true,Int.toNat_natCast,ab (by omega:k<4611686018427387904),kg,Option.bind_some]
   generalize ls.getD k (0,0,0)=l
   rw [WU]
   cases aF 0 l.1&&af l.1 b<;>cases aF 0 l.2.1&&af l.2.1 b<;>cases l.1==l.2.1<;>cases af l.2.2 1<;>cases af 999 l.2.2<;>rfl
  ·rw [rU,gR];simp only [ak,cond_false]
 ·rw [decide_eq_false hl];rfl
theorem XD (b:Int) (ls:List Ln):dw b ls=some (FO b ls):=by
 unfold dw FO am
 rw [ac5,pp]
 cases h1:aF 1 b&&aF b 8
 ·rfl
 by_cases hl:ls.length≤10
 ·have hb:1≤b∧b≤8:=by simpa [aF] using h1
  have w1:az (b-1)=b-1:=bC (by omega) (by omega)
  have h:=bU (eF b ls) (fun k=>(k:Int)) ls.length (fun k=> !zT b (ls.getD k (0,0,0))) (some (.inr false)) (some (.inl ())) (by omega) (fun k fuel hk=>?_) (fun fuel=>?_)
  ·rw [show eF b ls ai 0=_ from h,decide_eq_true hl]
   cases (List.range ls.length).any fun k=> !zT b (ls.getD k (0,0,0))<;>rfl
  ·rw [sg,ir]
   simp only [au hk,ae hk,aa,cond_true,Int.toNat_natCast,ab (by omega:k<4611686018427387904),am,Option.bind_some,w1]
   generalize ls.getD k (0,0,0)=l
   unfold zT
   rw [pp,pp,pp]
   cases aF 0 l.1&&aF l.1 (b-1)<;>cases aF 0 l.2.1&&aF l.2.1 (b-1)<;>cases l.1==l.2.1<;>cases aF 1 l.2.2&&aF l.2.2 999<;>rfl
  ·rw [sg,ir];simp only [ak,cond_false]
 ·rw [decide_eq_false hl];rfl
section
variable (b:Int) (ls:List Ln) (pts:List (Int×Int)) (hp:pts.length≤1048576)
include hp
theorem TV:fx b ls pts=some (qy b ls pts):=by
 unfold fx qy
 rw [Zp,Option.bind_some]
 have e:((pts.length:Int) !=b)= !decide ((pts.length:Int)=b):=by rw [Bool.eq_iff_iff];simp
 rw [e]
 have h:=bU (cP pts) (fun k=>(k:Int)) pts.length (fun k=> !Jk (pts.getD k (0,0))) (some (.inr false)) (some (.inl ())) (by omega) (fun k fuel hk=>?_) (fun fuel=>?_)
 ·rw [show cP pts ai 0=_ from h]
  cases FO b ls<;>cases decide ((pts.length:Int)=b)<;>cases (List.range pts.length).any fun k=> !Jk (pts.getD k (0,0))<;>rfl
 ·rw [qb,eJ]
  simp only [au hk,ae hk,aa,cond_true,Int.toNat_natCast,ab (by omega:k<4611686018427387904),ko,Option.bind_some]
  generalize pts.getD k (0,0)=p
  unfold Jk
  rw [pp,pp]
  cases aF 0 p.1&&aF p.1 999<;>cases aF 0 p.2&&aF p.2 999<;>rfl
 ·rw [qb,eJ];simp only [ak,cond_false]
theorem Vi:fZ b ls pts=some (qy b ls pts):=by
 unfold fZ qy
 rw [XD]
 have e:((pts.length:Int)==b)=decide ((pts.length:Int)=b):=by rw [Bool.eq_iff_iff];simp
 rw [e]
 have h:=bU (cU pts) (fun k=>(k:Int)) pts.length (fun k=> !Jk (pts.getD k (0,0))) (some (.inr false)) (some (.inl ())) (by omega) (fun k fuel hk=>?_) (fun fuel=>?_)
 ·rw [show cU pts ai 0=_ from h]
  cases FO b ls<;>cases decide ((pts.length:Int)=b)<;>cases (List.range pts.length).any fun k=> !Jk (pts.getD k (0,0))<;>rfl
 ·rw [qh,eV]
  simp only [au hk,ae hk,aa,cond_true,Int.toNat_natCast,ab (by omega:k<4611686018427387904),am,Option.bind_some,Bool.or_true]
  generalize pts.getD k (0,0)=p
  unfold Jk
  rw [pp,pp]
  cases aF 0 p.1&&aF p.1 999<;>cases aF 0 p.2&&aF p.2 999<;>rfl
 ·rw [qh,eV];simp only [ak,cond_false]
omit hp in
theorem Zr (on:List Bool):kj b ls on=some (XH b ls on):=by
 unfold kj XH;rw [Zp,QK];rfl
omit hp in
theorem Mg (on:List Bool):ce b ls on=some (XH b ls on):=by
 unfold ce XH;rw [XD,QK];rfl
theorem WL (on:List Bool):dq b ls on pts=some (NC b ls on pts):=by
 unfold dq NC
 rw [Zr,TV b ls pts hp]
 cases XH b ls on<;>cases qy b ls pts<;>rfl
theorem Ss (on:List Bool):gC b ls on pts=some (NC b ls on pts):=by
 unfold gC NC
 rw [Mg,Vi b ls pts hp]
 cases XH b ls on<;>cases qy b ls pts<;>rfl
end
structure StOk (b:Int) (ls:List Ln) (on:List Bool):Prop where
 net:NetOk b ls
 len:on.length=ls.length
theorem Hm {b:Int} {ls:List Ln} {on:List Bool}:XH b ls on=true↔StOk b ls on:=by
 unfold XH
 rw [Bool.and_eq_true,yJ,decide_eq_true_eq]
 exact ⟨fun h=>⟨h.1,h.2⟩,fun h=>⟨h.1,h.2⟩⟩
theorem fc {b:Int} {ls:List Ln} {on:List Bool} {pts:List (Int×Int)}:NC b ls on pts=true↔StOk b ls on∧BusOk b ls pts:=by
 unfold NC;rw [Bool.and_eq_true,Hm,wg]
def zl (u:List Nat):List Int:=u.map fun (n:Nat)=>(n:Int)
theorem bP (u:List Nat):(zl u).length=u.length:=by simp [zl]
theorem sU (u:List Nat) (k:Nat):(zl u).getD k 0=((u.getD k 0:Nat):Int):=by
 unfold zl
 rcases Nat.lt_or_ge k u.length with h |h
 ·simp [List.getD,h]
 ·simp [List.getD,List.getElem?_eq_none h]
theorem VO (u:List Nat) (k v:Nat):(zl u).set k (v:Int)=zl (u.set k v):=by simp [zl,List.map_set]
structure UR (u:List Nat) (B:Nat) (f:Nat→Nat):Prop where
 len:u.length=B
 dn:Dn u
 rot: ∀c,c<B→Rot u c (f c)
theorem UR.le {u:List Nat} {B:Nat} {f:Nat→Nat} (h:UR u B f) {c:Nat} (hc:c<B):f c≤c:=by
 obtain ⟨r,h1,h2⟩:=Rot.ex h.dn c (by rw [h.len];exact hc)
 rw [(h.rot c hc).uniq h1];exact h2
theorem Zb {u0:List Nat} {B:Nat} {f:Nat→Nat} (h0:u0.length=B): ∀(c fuel:Nat) (u:List Nat),c<fuel→UR u B f→c<B→ ∃v,fP (zl u0) fuel (zl u,(c:Int))=some (((f c:Nat):Int),zl v)∧UR v B f:=by
 intro c
 induction c using Nat.strongRecOn with
 |ind c ih=>
  intro fuel u hf hu hc
  obtain ⟨g,rfl⟩: ∃g,fuel=g+1:=⟨fuel-1,by omega⟩
  rw [xR,jZ]
  have hx: ∀d,d<B→aq (d:Int) (zl u0).length=true:=fun d hd=>by rw [bP,h0];exact ae hd
  simp only [hx c hc,aa,Int.toNat_natCast,sU]
  by_cases hr:u.getD c 0=c
  ·have e:(((u.getD c 0:Nat):Int) !=(c:Int))=false:=by rw [hr];simp
   rw [e,(hu.rot c hc).fix hr]
   exact ⟨u,rfl,hu⟩
  ·have e:(((u.getD c 0:Nat):Int) !=(c:Int))=true:=by simp only [bne_iff_ne,ne_eq];omega
   have h1:=hu.dn c (by rw [hu.len];exact hc)
   have h2:=hu.dn (u.getD c 0) (by rw [hu.len];omega)
   simp only [e,cond_true,hx _ (show u.getD c 0<B by omega),aa,Int.toNat_natCast,sU]
   have h3:(zl u).set c ((u.getD (u.getD c 0) 0:Nat):Int)=zl (u.set c (u.getD (u.getD c 0) 0)):=VO _ _ _
   rw [h3,sU,oT (by rw [hu.len];exact hc),if_pos rfl]
   have hcl:c<u.length:=by rw [hu.len];exact hc
   have hv:UR (u.set c (u.getD (u.getD c 0) 0)) B f:=⟨by rw [List.length_set];exact hu.len,hu.dn.halve hcl,fun d hd=>Rot.halve hu.dn hcl d _ (by rw [hu.len];exact hd) (hu.rot d hd)⟩
   obtain ⟨v,i1,i2⟩:=ih (u.getD (u.getD c 0) 0) (by omega) g _ (by omega) hv (by omega)
   have hf2:f (u.getD (u.getD c 0) 0)=f c:=(hu.rot _ (by omega)).uniq ((hu.rot c hc).next.next)
   rw [hf2] at i1
   exact ⟨v,i1,i2⟩
theorem FK {u:List Nat} {B:Nat} {f:Nat→Nat} (h:UR u B f) (hB:B≤1099511627776) {c:Nat} (hc:c<B): ∃v,bw (zl u) (c:Int)=some (((f c:Nat):Int),zl v)∧UR v B f:=by
 obtain ⟨v,h1,h2⟩:=Zb h.len c ai u (pF (by omega)) h hc
 refine ⟨v,?_,h2⟩
 unfold bw
 rw [h1];rfl
theorem acW {u:List Nat} {B:Nat} {f:Nat→Nat} (h:UR u B f) (hB:B≤1099511627776) {a c:Nat} (ha:a<B) (hc:c<B): ∃v,kA (zl u) (a:Int) (c:Int)=some (decide (f a=f c),zl v)∧UR v B f:=by
 obtain ⟨v,h1,h2⟩:=FK h hB ha
 obtain ⟨x,h3,h4⟩:=FK h2 hB hc
 refine ⟨x,?_,h4⟩
 unfold kA
 rw [h1,Option.bind_some,h3,Option.bind_some]
 have:(((f a:Nat):Int)==((f c:Nat):Int))=decide (f a=f c):=by rw [Bool.eq_iff_iff];simp;omega
 rw [this]
theorem Yc {u:List Nat} {B:Nat} {f:Nat→Nat} (h:UR u B f) (hB:B≤1099511627776) {a c:Nat} (ha:a<B) (hc:c<B): ∃v,fQ (zl u) (a:Int) (c:Int)=some (zl v)∧UR v B (rA f a c):=by
 obtain ⟨v,h1,h2⟩:=FK h hB ha
 obtain ⟨x,h3,h4⟩:=FK h2 hB hc
 have la:=h.le ha
 have lc:=h.le hc
 refine ⟨x.set (max (f a) (f c)) (min (f a) (f c)),?_,?_⟩
 ·unfold fQ
  rw [h1,Option.bind_some,h3,Option.bind_some]
  have e1:max ((f a:Nat):Int) ((f c:Nat):Int)=((max (f a) (f c):Nat):Int):=by omega
  have e2:min ((f a:Nat):Int) ((f c:Nat):Int)=((min (f a) (f c):Nat):Int):=by omega
  have hx:aq ((max (f a) (f c):Nat):Int) (zl u).length=true:=by rw [bP,h.len];exact ae (by omega)
  rw [e1,e2,hx,aa,Int.toNat_natCast]
  exact congrArg some (VO _ _ _)
 ·have hlen:=h4.len
  refine ⟨by rw [List.length_set];exact hlen,fun d hd=>?_,fun d hd=>Rot.join h4.dn (fun c hc=>h4.rot c (by omega)) (by omega) (by omega) (fun c hc=>h4.le (by omega)) d (by omega)⟩
  rw [List.length_set] at hd
  rw [oT (by omega)]
  split
  ·omega
  ·exact h4.dn d hd
theorem acS {B:Nat} (hB:B≤1099511627776):jS (B:Int)=some (zl (List.range B))∧UR (List.range B) B id:=by
 refine ⟨?_,by simp,fun b hb=>?_,fun c hc=>?_⟩
 ·unfold jS
  have hm:uA (B:Int)=true:=by simp [uA];omega
  rw [hm,aa,Int.toNat_natCast]
  have h:=ax (eA (B:Int)) (fun k=>((List.range B).map (fun (i:Nat)=>if i<k then (i:Int) else 0),(k:Int))) B (some (zl (List.range B))) (by omega) (fun k fuel hk=>?_) (fun fuel=>?_)
  ·have e:(List.range B).map (fun (i:Nat)=>if i<0 then (i:Int) else 0)=List.replicate B (0:Int):=by
    apply List.ext_getElem (by simp)
    intro i h1 h2
    simp
   rw [e] at h
   rw [show eA (B:Int) ai (List.replicate B (0:Int),0)=_ from h];rfl
  ·rw [sb,ib]
   simp only [Int.toNat_natCast,au hk,ae hk,cond_true,aa,ab (by omega:k<4611686018427387904)]
   congr 2
   apply List.ext_getElem (by simp)
   intro i h1 h2
   rw [List.getElem_set]
   simp only [List.getElem_map,List.getElem_range]
   split
   ·rename_i e;subst e;rw [if_pos (by omega)]
   ·by_cases hi:i<k
    ·rw [if_pos hi,if_pos (by omega)]
    ·rw [if_neg hi,if_neg (by omega)]
  ·rw [sb,ib]
   simp only [Int.toNat_natCast,ak,cond_false]
   congr 1
   unfold zl
   refine List.map_congr_left fun i hi=>?_
   rw [if_pos (by simpa using hi)]
 ·have hb:b<B:=by simpa using hb
  simp [List.getD,hb]
 ·exact .stop (by simp [List.getD,hc])
theorem yG {b:Int} {l:Ln} (h:LnOk b l):l.1=(((bQ l).1:Nat):Int)∧l.2.1=(((bQ l).2:Nat):Int)∧(bQ l).1<b.toNat∧(bQ l).2<b.toNat:=by
 have:=h.a;have:=h.b
 unfold bQ
 dsimp only
 omega
section
variable {b:Int} {ls:List Ln} {on:List Bool} (h:StOk b ls on)
include h
theorem wL {k:Nat} (hk:k<ls.length):vU ((ls.zip on).take (k+1))=if on.getD k false then vU ((ls.zip on).take k)++ [bQ (ls.getD k (0,0,0))] else vU ((ls.zip on).take k):=by
 have hl:=h.len
 have hz:k<(ls.zip on).length:=by simp;omega
 rw [ND hz,ac (by omega:k<on.length),ac hk]
 simp
theorem Mr:vU ((ls.zip on).take ls.length)=av ls on:=by
 have hl:=h.len
 unfold av
 rw [List.take_of_length_le (by simp;omega)]
theorem aeS:mT b ls on=some (OL ls on):=by
 have hb:=h.net.b0;have hb1:=h.net.b1;have hll:=h.net.ll;have hl:=h.len
 obtain ⟨B,rfl⟩: ∃B:Nat,b=(B:Int):=⟨b.toNat,by omega⟩
 obtain ⟨n1,n2⟩:=acS (B:=B) (by omega)
 unfold mT OL
 rw [n1,Option.bind_some]
 have hh:=RT (jc ls on) (fun k s=> ∃u,s=(zl u,(k:Int))∧UR u B (aO (vU ((ls.zip on).take k)))) ls.length
  (fun k=>on.getD k false&&aO (vU ((ls.zip on).take k)) (bQ (ls.getD k (0,0,0))).1==aO (vU ((ls.zip on).take k)) (bQ (ls.getD k (0,0,0))).2) (some (.inr true)) (some (.inl ())) (by omega) ?_ ?_ (zl (List.range B),0) ⟨_,rfl,n2⟩
 ·rw [hh]
  cases (List.range ls.length).any _<;>rfl
 ·rintro k fuel s hk ⟨u,rfl,hu⟩
  rw [rZ,hZ]
  have hln:=yG (h.net.ln k hk)
  simp only [Int.toNat_natCast] at hln
  simp only [au hk,ae hk,ae (show k<on.length by omega),aa,cond_true,Int.toNat_natCast,ab (by omega:k<4611686018427387904)]
  rw [hln.1,hln.2.1]
  cases ho:on.getD k false
  ·right
   refine ⟨rfl,(zl u,((k+1:Nat):Int)),⟨u,rfl,?_⟩,rfl⟩
   rw [wL h hk,ho];exact hu
  ·obtain ⟨v,s1,s2⟩:=acW hu (by omega) hln.2.2.1 hln.2.2.2
   simp only [cond_true,s1,Option.bind_some]
   by_cases he:aO (vU ((ls.zip on).take k)) (bQ (ls.getD k (0,0,0))).1=aO (vU ((ls.zip on).take k)) (bQ (ls.getD k (0,0,0))).2
   ·left
    rw [decide_eq_true he]
    exact ⟨by rw [he];simp,rfl⟩
   ·right
    obtain ⟨x,j1,j2⟩:=Yc s2 (by omega) hln.2.2.1 hln.2.2.2
    rw [decide_eq_false he]
    simp only [cond_false,j1,Option.bind_some]
    refine ⟨by simpa using he,(zl x,((k+1:Nat):Int)),⟨x,rfl,?_⟩,rfl⟩
    rw [wL h hk,ho,if_pos rfl,zd];exact j2
 ·rintro fuel s ⟨u,rfl,hu⟩
  rw [rZ,hZ];simp only [ak,cond_false]
end
def bl (B:Nat) (s:Nat→Bool):List Bool:=(List.range B).map s
theorem Te (B:Nat) (s:Nat→Bool):(bl B s).length=B:=by simp [bl]
theorem OI {B c:Nat} {s:Nat→Bool} (h:c<B):(bl B s).getD c false=s c:=by simp [bl,List.getD,h]
theorem Tf {B a:Nat} {s:Nat→Bool} (h:a<B):(bl B s).set a true=bl B (fun c=>c==a ||s c):=by
 apply List.ext_getElem (by simp [bl])
 intro i h1 h2
 rw [List.getElem_set]
 simp only [bl,List.getElem_map,List.getElem_range]
 split
 ·rename_i e;subst e;simp
 ·rename_i e
  have:(i==a)=false:=by simpa using fun e2=>e e2.symm
  rw [this];rfl
theorem MJ {B:Nat} {s t:Nat→Bool} (h: ∀c,c<B→s c=t c):bl B s=bl B t:=List.map_congr_left fun c hc=>h c (by simpa using hc)
theorem wH (E:Ed) (e:Nat×Nat) (s:Nat→Bool):lF (E++ [e]) s=Kp (lF E s) e:=by unfold lF;rw [List.foldl_append];rfl
section
variable {B:Nat} {ls:List Ln} {on:List Bool} (h:StOk (B:Int) ls on)
include h
theorem Sv (s:Nat→Bool):gA (B:Int) ls on ai (bl B s,0)=some (bl B (lF (av ls on) s)):=by
 have hll:=h.net.ll;have hl:=h.len
 have hh:=ax (gA (B:Int) ls on) (fun k=>(bl B (lF (vU ((ls.zip on).take k)) s),(k:Int))) ls.length (some (bl B (lF (av ls on) s))) (by omega) (fun k fuel hk=>?_) (fun fuel=>?_)
 ·exact hh
 ·rw [tN,jF]
  have hln:=yG (h.net.ln k hk)
  simp only [Int.toNat_natCast] at hln
  simp only [au hk,ae hk,ae (show k<on.length by omega),aa,cond_true,Int.toNat_natCast,ab (by omega:k<4611686018427387904)]
  rw [hln.1,hln.2.1]
  rw [wL h hk]
  generalize bQ (ls.getD k (0,0,0))=e at*
  simp only [ae hln.2.2.1,ae hln.2.2.2,Int.toNat_natCast,Bool.or_true,aa,Te,OI hln.2.2.1,OI hln.2.2.2]
  cases ho:on.getD k false
  ·rfl
  ·rw [if_pos rfl,wH]
   generalize lF (vU ((ls.zip on).take k)) s=t
   unfold Kp
   rw [Bool.true_and]
   cases t e.1 ||t e.2
   ·rfl
   ·simp only [cond_true,Option.bind_some,if_true]
    rw [Tf hln.2.2.1,Tf hln.2.2.2]
    congr 2
    refine MJ fun c hc=>?_
    cases c==e.1<;>cases c==e.2<;>rfl
 ·rw [tN,jF]
  simp only [ak,cond_false]
  rw [Mr h]
theorem aap {b:Nat} (hb:b<B):oO (B:Int) ls on (b:Int)=some (bl B (aL (av ls on) (fun c=>c==b) B)):=by
 have h1:=h.net.b1
 unfold oO
 have hm:uA (B:Int)=true:=by simp [uA];omega
 rw [hm,aa,Int.toNat_natCast,ae hb,aa,Int.toNat_natCast]
 have e:(List.replicate B false).set b true=bl B (fun c=>c==b):=by
  apply List.ext_getElem (by simp [bl])
  intro i h1 h2
  rw [List.getElem_set]
  simp only [bl,List.getElem_map,List.getElem_range,List.getElem_replicate]
  split
  ·rename_i e;subst e;simp
  ·rename_i e;symm;simpa using fun e2=>e e2.symm
 have hh:=ax (gz (B:Int) ls on) (fun k=>(bl B (aL (av ls on) (fun c=>c==b) k),(k:Int))) B (some (bl B (aL (av ls on) (fun c=>c==b) B))) (by omega) (fun k fuel hk=>?_) (fun fuel=>?_)
 ·rw [e,show gz (B:Int) ls on ai (bl B (fun c=>c==b),0)=_ from hh];rfl
 ·rw [tM,jE]
  simp only [au hk,cond_true,Sv h,Option.bind_some,ab (by omega:k<4611686018427387904)]
  rfl
 ·rw [tM,jE];simp only [ak,cond_false]
theorem Yy: ∀e∈av ls on,e.1<B∧e.2<B:=by
 intro e he
 obtain ⟨k,hk,_,rfl⟩:=EF.1 he
 have:=yG (h.net.ln k hk)
 simp only [Int.toNat_natCast] at this
 exact ⟨this.2.2.1,this.2.2.2⟩
theorem Og {b:Nat} (hb:b<B) (c:Nat):aL (av ls on) (fun c=>c==b) B c=(aO (av ls on) b==aO (av ls on) c):=by
 rw [Bool.eq_iff_iff,SG (Yy h) hb,beq_iff_eq,ov]
def qI (E:Ed) (B b:Nat):List Nat:=(List.range B).filter fun c=>aO E b==aO E c
theorem IT {b:Nat} (hb:b<B):iN (B:Int) ls on (b:Int)=some (zl (qI (av ls on) B b)):=by
 have h1:=h.net.b1
 unfold iN am
 have w1:az ((B:Int)-1)=(B:Int)-1:=bC (by omega) (by omega)
 have c1:(aF 0 (b:Int)&&aF (b:Int) ((B:Int)-1))=true:=by simp [aF];omega
 rw [Mg,Hm.2 h,Option.bind_some,w1,c1]
 simp only [Bool.not_true,Bool.not_false,ca,Option.bind_some,Bool.or_self,cond_false,aap h hb]
 have e:bl B (aL (av ls on) (fun c=>c==b) B)=bl B (fun c=>aO (av ls on) b==aO (av ls on) c):=MJ fun c _=>Og h hb c
 rw [e]
 have hh:=ax (gm (B:Int) (bl B (fun c=>aO (av ls on) b==aO (av ls on) c))) (fun k=>(zl ((List.range k).filter fun c=>aO (av ls on) b==aO (av ls on) c),(k:Int))) B (some (zl (qI (av ls on) B b))) (by omega) (fun k fuel hk=>?_) (fun fuel=>?_)
 ·rw [show gm (B:Int) _ ai (([]:List Int),0)=_ from hh];rfl
 ·rw [tI,jy]
  have hl:(zl ((List.range k).filter fun c=>aO (av ls on) b==aO (av ls on) c)).length≤k:=by
   rw [bP];have:=List.length_filter_le (fun c=>aO (av ls on) b==aO (av ls on) c) (List.range k);simpa using this
  have ha: ∀x:Int,bq (zl ((List.range k).filter fun c=>aO (av ls on) b==aO (av ls on) c)).length [x].length=true:=fun x=>by simp [bq];omega
  simp only [au hk,cond_true,Te,ae hk,aa,Int.toNat_natCast,OI hk,ha,ab (by omega:k<4611686018427387904)]
  rw [List.range_succ,List.filter_append]
  cases hc:aO (av ls on) b==aO (av ls on) k
  ·simp [hc,List.filter_cons]
  ·simp [hc,List.filter_cons,zl]
 ·rw [tI,jy];simp only [ak,cond_false];rfl
omit h in
theorem Su (l:List Int) (x:Int) (hl:l.length≤1099511627776):cJ l x=some (decide (x∈l)):=by
 unfold cJ
 have hh:=bU (jU l x) (fun k=>(k:Int)) l.length (fun k=>l.getD k 0==x) (some (.inr true)) (some (.inl ())) hl (fun k fuel hk=>?_) (fun fuel=>?_)
 ·rw [show jU l x ai 0=_ from hh,ME l 0 (fun y=>y==x)]
  have:l.any (fun y=>y==x)=decide (x∈l):=by
   rw [Bool.eq_iff_iff,List.any_eq_true,decide_eq_true_eq]
   exact ⟨fun ⟨y,h1,h2⟩=>by rw [←(beq_iff_eq.1 h2)];exact h1,fun h=>⟨x,h,by simp⟩⟩
  rw [this]
  cases decide (x∈l)<;>rfl
 ·rw [wQ,mf]
  simp only [au hk,ae hk,aa,cond_true,Int.toNat_natCast,ab (by omega:k<4611686018427387904)]
 ·rw [wQ,mf];simp only [ak,cond_false]
omit h in
theorem VN {l:List Nat} {c:Nat}:(c:Int)∈zl l↔c∈l:=by
 simp only [zl,List.mem_map]
 constructor
 ·rintro ⟨a,h1,h2⟩;have:a=c:=by omega
  subst this;exact h1
 ·intro h;exact ⟨c,h,rfl⟩
omit h in
theorem Du (E:Ed) (B b:Nat):(qI E B b).length≤B:=by
 unfold qI;have:=List.length_filter_le (fun c=>aO E b==aO E c) (List.range B);simpa using this
theorem Yv {a c:Nat} (ha:a<B) (hc:c<B):gn (B:Int) ls on (a:Int) (c:Int)=some (aO (av ls on) a==aO (av ls on) c):=by
 have h1:=h.net.b1
 unfold gn
 have hl:=Du (av ls on) B a
 rw [IT h ha,Option.bind_some,Su _ _ (by rw [bP];omega),Option.bind_some]
 have:decide ((c:Int)∈zl (qI (av ls on) B a))=(aO (av ls on) a==aO (av ls on) c):=by
  rw [Bool.eq_iff_iff,decide_eq_true_eq,VN]
  simp [qI,hc]
 rw [this]
def MP (ls:List Ln) (on:List Bool) (k:Nat):Bool:=on.getD k false&&aO (av ls (on.set k false)) (bQ (ls.getD k (0,0,0))).1==aO (av ls (on.set k false)) (bQ (ls.getD k (0,0,0))).2
theorem ZO (k:Nat):StOk (B:Int) ls (on.set k false):=⟨h.net,by rw [List.length_set];exact h.len⟩
theorem ae1:na (B:Int) ls on=some (OM ls on):=by
 have hll:=h.net.ll;have hl:=h.len
 unfold na oH
 have hh:=ax (cV (B:Int) ls on) (fun k=>(zl ((List.range k).filter (MP ls on)),(k:Int))) ls.length
  (some (zl ((List.range ls.length).filter (MP ls on)))) (by omega) (fun k fuel hk=>?_) (fun fuel=>?_)
 ·rw [show cV (B:Int) ls on ai (([]:List Int),0)=_ from hh]
  simp only [Option.bind_some,bP]
  congr 1
  show af 0 (((List.range ls.length).filter (MP ls on)).length:Int)=(List.range ls.length).any (MP ls on)
  rw [Bool.eq_iff_iff,af,decide_eq_true_eq,List.any_eq_true]
  constructor
  ·intro h1
   obtain ⟨k,hk⟩:=List.exists_mem_of_length_pos (show 0<((List.range ls.length).filter (MP ls on)).length by omega)
   obtain ⟨h2,h3⟩:=List.mem_filter.1 hk
   exact ⟨k,h2,h3⟩
  ·rintro ⟨k,h2,h3⟩
   have:=List.length_pos_of_mem (List.mem_filter.2 ⟨h2,h3⟩)
   omega
 ·rw [qi,eW]
  have hln:=yG (h.net.ln k hk)
  simp only [Int.toNat_natCast] at hln
  have hkn:k<on.length:=by omega
  have w1:az ((on.length:Int)-1)=(on.length:Int)-1:=bC (by omega) (by omega)
  have c1:(aF 0 (k:Int)&&aF (k:Int) ((on.length:Int)-1))=true:=by simp [aF];omega
  have a1:bq ([]:List Bool).length on.length=true:=by simp [bq];omega
  have hl2:=List.length_filter_le (MP ls on) (List.range k)
  rw [List.length_range] at hl2
  have ha: ∀x:Int,bq (zl ((List.range k).filter (MP ls on))).length [x].length=true:=fun x=>by rw [bP];simp [bq];omega
  have hsw:kN (B:Int) ls on (k:Int) false=some (on.set k false,true):=by
   unfold kN jY am
   rw [Mg,Hm.2 h]
   simp only [Option.bind_some,cond_true,a1,aa,List.nil_append,w1,c1,ae hkn,Int.toNat_natCast]
  have hsame:=Yv (ZO h k) hln.2.2.1 hln.2.2.2
  rw [Mg,Hm.2 h]
  simp only [au hkn,ca,Option.bind_some,Bool.and_self,cond_true,hsw,ae hkn,ae hk,Bool.or_true,aa,Int.toNat_natCast,ha,ab (by omega:k<4611686018427387904)]
  rw [hln.1,hln.2.1,hsame,List.range_succ,List.filter_append]
  have hcy:MP ls on k=(on.getD k false&&aO (av ls (on.set k false)) (bQ (ls.getD k (0,0,0))).1==aO (av ls (on.set k false)) (bQ (ls.getD k (0,0,0))).2):=rfl
  rw [List.filter_cons,List.filter_nil,hcy]
  cases ho:on.getD k false
  ·simp [gb]
  ·cases hc:aO (av ls (on.set k false)) (bQ (ls.getD k (0,0,0))).1==aO (av ls (on.set k false)) (bQ (ls.getD k (0,0,0))).2
   ·simp [gb]
   ·simp [gb,zl]
 ·rw [qi,eW]
  have:af (ls.length:Int) (on.length:Int)=false:=by rw [hl];exact ak
  simp only [this,qp,Option.bind_some,Bool.false_and,cond_false]
end
end Go.Proofs.YtjdlgannencchaaGreatDoor
