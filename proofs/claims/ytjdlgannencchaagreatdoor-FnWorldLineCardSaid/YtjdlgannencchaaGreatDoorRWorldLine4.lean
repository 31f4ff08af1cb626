/- Texts of the claim, one behind the other: RgL, LnI, LnJ, DaT, Da1, LnT, WkA, WkP, Isl, For, Flw, Wl, Net. -/
import Derived.Lib.ItoaLen
import Derived.Test.YtjdlgannencchaaGreatDoorRWorldLine3
namespace Go.Proofs.YtjdlgannencchaaGreatDoor
open Go.ChangeShapes Go.WideShapes Go.ChangeAt Go.RowKit
set_option linter.unusedVariables false
set_option linter.unusedSimpArgs false
set_option maxRecDepth 100000
def Yt (ops:Array Oper) (L:Nat) (up:Nat→Nat):Bool:=
 (List.range L).all fun j=>decide (j<up j)&&decide (up j≤L)&&((ops[up j]?).map (bM · j)).getD false
section
variable {P:Program} {ops:Array Oper} {Q:Exit→Act→World→Prop} {a0:Act} {D:List Nat} {dep:Nat→Nat}
 {Inv:World→Prop} {R:World→World→Prop} {Fs:Nat→Value→World→Prop}
def EX (P:Program) (ops:Array Oper) (Q:Exit→Act→World→Prop) (a0:Act) (D:List Nat) (dep:Nat→Nat) (Inv:World→Prop) (Fs:Nat→Value→World→Prop) (o:Oper):Prop:=
 ∀(a:Act) (w:World),yy a0 D a→Inv w→(∀j,j+1<ops.size→Fs j (sl a (dep j)) w)→
 Region.wanted o (yielded ops a.tmps)=true∧ ∃f args,(execOp a.eval o).run P w= .ok (.enter f args) w∧Calls P f args w fun e w'=> ∃v,e= .returned v∧Q .normal (a.put o.dst v) w'
theorem Vf {up:Nat→Nat} {L:Nat} {oL:Oper} (hL:ops.size=L+1) (hoL:ops[L]?=some oL) (hup:Yt ops L up=true) (hs:rp ops a0.tmps.size D dep=true) (hstab: ∀j a w w',R w w'→vA dep Fs j a w→vA dep Fs j a w')
 (hops: ∀i o,i<L→ops[i]?=some o→Qn P ops a0 D [] dep Inv R Fs i o)
 (hlast:EX P ops Q a0 D dep Inv Fs oL):
 ∀(fuel:Nat) (listed:Array Bool) (a:Act) (w:World),listed.size=ops.size→listed.getD L true=false→yy a0 D a→Inv w→
  (∀i,i<ops.size→listed.getD i true=true→vA dep Fs i a w)→
  (∀j oj i,ops[j]?=some oj→listed.getD j true=true→bM oj i=true→listed.getD i false=true)→
  ((List.range ops.size).filter fun i=> !listed.getD i true).length≤fuel→wpAny P .any ops Q fuel listed a w:=by
 have hall: ∀(listed:Array Bool),listed.size=ops.size→Region.ready .any ops listed=[]→ ∀n i,i≤n→i<ops.size→listed.getD i true=true:=by
  intro listed hsz hr n
  induction n with
  |zero=>
   intro i hi hlt
   obtain rfl:i=0:=by omega
   cases hl:listed.getD 0 true with
   |true=>rfl
   |false=>
    exfalso
    obtain ⟨o,ho⟩: ∃o,ops[0]?=some o:=⟨ops[0],by simp [hlt]⟩
    have hm:0∈Region.ready .any ops listed:=by
     unfold Region.ready
     rw [List.mem_filter]
     refine ⟨by simpa using hlt,?_⟩
     rw [hl,ho]
     simp only [Bool.not_false,Bool.true_and,Option.map_some,Option.getD_some]
     refine Array.all_eq_true'.2 fun e he=>?_
     cases hb:Region.binds .any e with
     |false=>rfl
     |true=>have:=(Dy hs ho).1 e he hb;omega
    rw [hr] at hm
    cases hm
  |succ n ih=>
   intro i hi hlt
   by_cases hle:i≤n
   ·exact ih i hle hlt
   obtain rfl:i=n+1:=by omega
   cases hl:listed.getD (n+1) true with
   |true=>rfl
   |false=>
    exfalso
    obtain ⟨o,ho⟩: ∃o,ops[n+1]?=some o:=⟨ops[n+1],by simp [hlt]⟩
    have hm:n+1∈Region.ready .any ops listed:=by
     unfold Region.ready
     rw [List.mem_filter]
     refine ⟨by simpa using hlt,?_⟩
     rw [hl,ho]
     simp only [Bool.not_false,Bool.true_and,Option.map_some,Option.getD_some]
     refine Array.all_eq_true'.2 fun e he=>?_
     cases hb:Region.binds .any e with
     |false=>rfl
     |true=>
      have h1:=(Dy hs ho).1 e he hb
      have h2:=ih e.on (by omega) (by omega)
      have h3:e.on<listed.size:=by omega
      simp [h3] at h2
      simp [h3,h2]
    rw [hr] at hm
    cases hm
 intro fuel
 induction fuel with
 |zero=>
  intro listed a w hsz hun0 hB hI hF hcl hn
  exfalso
  have hnil:(List.range ops.size).filter (fun i=> !listed.getD i true)=[]:=List.eq_nil_of_length_eq_zero (by omega)
  have:=List.filter_eq_nil_iff.1 hnil L (by simp;omega)
  rw [hun0] at this
  simp at this
 |succ fuel ih=>
  intro listed a w hsz hun0 hB hI hF hcl hn
  refine ⟨fun hr=>(by have:=(hall listed hsz hr L L (Nat.le_refl _) (by omega)).symm.trans hun0
                      cases this),fun i hi=>?_⟩
  have hi':=hi
  unfold Region.ready at hi'
  rw [List.mem_filter] at hi'
  obtain ⟨hir,hib⟩:=hi'
  have hilt:i<ops.size:=by simpa using hir
  obtain ⟨o,ho⟩: ∃o,ops[i]?=some o:=⟨ops[i],by simp [hilt]⟩
  rw [ho] at hib
  simp only [Option.map_some,Option.getD_some,Bool.and_eq_true,Bool.not_eq_true'] at hib
  obtain ⟨hun,hpre⟩:=hib
  have hpre': ∀j,bM o j=true→listed.getD j false=true:=by
   intro j hj
   unfold bM at hj
   obtain ⟨e,he,hb⟩:=List.any_eq_true.1 hj
   have he:=Array.mem_toList_iff.1 he
   simp only [Bool.and_eq_true,beq_iff_eq] at hb
   have:=Array.all_eq_true'.1 hpre e he
   rw [hb.1] at this
   simpa [hb.2] using this
  have hst:=Dy hs ho
  have hgd: ∀j d,(listed.setIfInBounds i true).getD j d=if j=i then true else listed.getD j d:=by
   intro j d
   have hil:i<listed.size:=by omega
   by_cases hji:j=i
   ·subst hji;simp [hil]
   ·rw [if_neg hji]
    simp only [Array.getD_eq_getD_getElem?]
    rw [Array.getElem?_setIfInBounds_ne (fun e=>hji e.symm)]
  by_cases hiL:i=L
  ·subst hiL
   obtain rfl:o=oL:=Option.some.inj (ho.symm.trans hoL)
   have hlt: ∀(n j:Nat),i-j≤n→j<i→listed.getD j true=true:=by
    intro n
    induction n with
    |zero=>intro j h1 h2;omega
    |succ n ihn=>
     intro j h1 h2
     have hu:=List.all_eq_true.1 hup j (by simpa using h2)
     simp only [Bool.and_eq_true,decide_eq_true_eq] at hu
     obtain ⟨⟨u1,u2⟩,u3⟩:=hu
     obtain ⟨ou,hou⟩: ∃ou,ops[up j]?=some ou:=⟨ops[up j]'(by omega),by simp [show up j<ops.size by omega]⟩
     rw [hou] at u3
     have u3:bM ou j=true:=u3
     have hj:listed.getD j false=true:=by
      by_cases hui:up j=i
      ·rw [hui,ho] at hou
       injection hou with hou
       subst hou
       exact hpre' j u3
      ·exact hcl (up j) ou j hou (ihn (up j) (by omega) (by omega)) u3
     have hjl:j<listed.size:=by omega
     simp [hjl] at hj
     simp [hjl,hj]
   have hallF: ∀j,j+1<ops.size→vA dep Fs j a w:=fun j hj=>hF j (by omega) (hlt i j (by omega) (by omega))
   obtain ⟨hw,f,args,hr,hg⟩:=hlast a w hB hI hallF
   unfold wpOp
   rw [ho]
   simp only [hw,if_true,Oper.wp,hr,Oper.upon]
   refine .inl (hg.mono ?_)
   rintro e w' ⟨v,rfl,hq⟩
   have hnone:Region.ready .any ops (listed.setIfInBounds i true)=[]:=by
    unfold Region.ready
    rw [List.filter_eq_nil_iff]
    intro j hj
    have hj':j<ops.size:=by simpa using hj
    have:(listed.setIfInBounds i true).getD j true=true:=by
     rw [hgd]
     by_cases hji:j=i
     ·simp [hji]
     ·rw [if_neg hji];exact hlt i j (by omega) (by omega)
    simp only [this,Bool.not_true,Bool.false_and,Bool.false_eq_true,not_false_eq_true]
   cases fuel with
   |zero=>exact ⟨hnone,hq⟩
   |succ fuel=>exact ⟨fun _=>hq,fun j hj=>by rw [hnone] at hj;cases hj⟩
  have howe:Qn P ops a0 D [] dep Inv R Fs i o:=hops i o (by omega) ho
  have hfacts: ∀j,bM o j=true→vA dep Fs j a w:=by
   intro j hj
   have h1:=hpre' j hj
   have hjl:j<listed.size:=by
    rcases Nat.lt_or_ge j listed.size with h |h
    ·exact h
    ·simp [h] at h1
   refine hF j (by omega) ?_
   simp [hjl] at h1
   simp [hjl,h1]
  -- what holds behind operation i
  have hnext: ∀a' w',(∃v,a'=a.put o.dst v)→Inv w'→vA dep Fs i a' w'→(w'=w∨(R w w'∧RX ops [] i=true))→
   wpAny P .any ops Q fuel (listed.setIfInBounds i true) a' w':=by
   rintro a' w' ⟨v,rfl⟩ hI' hFi hch
   refine ih _ _ _ (by simp [hsz]) (by rw [hgd,if_neg (fun e=>hiL e.symm)];exact hun0) (JR hB _ hst.2.1 v) hI' ?_ ?_ ?_
   ·intro j hj hlj
    rw [hgd] at hlj
    by_cases hji:j=i
    ·subst hji;exact hFi
    rw [if_neg hji] at hlj
    obtain ⟨oj,hoj⟩: ∃oj,ops[j]?=some oj:=⟨ops[j],by simp [hj]⟩
    have hnw:bM oj i=false:=by
     cases hw:bM oj i with
     |false=>rfl
     |true=>
      have h1:=hcl j oj i hoj hlj hw
      have hil:i<listed.size:=by omega
      simp [hil] at h1 hun
      rw [h1] at hun
      cases hun
    have h1:vA dep Fs j (a.put o.dst v) w:=QU _ _ (fun d hd=>hst.2.2 j oj hoj hji hnw d hd) (hF j hj hlj)
    rcases hch with rfl |⟨hR,hnl⟩
    ·exact h1
    ·exact hstab j _ _ _ hR h1
   ·intro j oj k hoj hlj hw
    rw [hgd] at hlj ⊢
    by_cases hki:k=i
    ·simp [hki]
    rw [if_neg hki]
    by_cases hji:j=i
    ·subst hji
     rw [ho] at hoj
     injection hoj with hoj
     subst hoj
     exact hpre' k hw
    ·rw [if_neg hji] at hlj
     exact hcl j oj k hoj hlj hw
   ·have hsub:(List.range ops.size).filter (fun j=> !(listed.setIfInBounds i true).getD j true)=((List.range ops.size).filter fun j=> !listed.getD j true).filter (fun j=> !(j==i)):=by
     rw [List.filter_filter]
     refine List.filter_congr fun j _=>?_
     rw [hgd]
     by_cases hji:j=i<;>simp [hji]
    rw [hsub]
    have hlt:(((List.range ops.size).filter fun j=> !listed.getD j true).filter (fun j=> !(j==i))).length<((List.range ops.size).filter fun j=> !listed.getD j true).length:=by
     rw [List.length_filter_lt_length_iff_exists]
     exact ⟨i,List.mem_filter.2 ⟨hir,by simp [hun]⟩,by simp⟩
    omega
  have hgive: ∀v w',JJ ops [] dep Inv R Fs i o a w v w'→wpAny P .any ops Q fuel (listed.setIfInBounds i true) (a.put o.dst v) w':=by
   rintro v w' ⟨h1,h2,h3⟩
   refine hnext _ _ ⟨v,rfl⟩ h1 ?_ h3
   unfold vA
   cases hd:o.dst with
   |none=>rw [hd] at h2;exact h2
   |some d=>
    rw [hd] at h2
    obtain ⟨e1,e2⟩:=MZ hs ho hd
    rw [e1,mP _ _ (by rw [hB.1];exact e2)]
    exact h2
  unfold wpOp
  rw [ho]
  rcases howe a w hB hI hfacts with ⟨hw,v,w',hr,hg⟩ |⟨hw,w',hr,hg⟩ |⟨hw,f,args,hr,hg⟩ |⟨hw,hg⟩
  ·simp only [hw,if_true,Oper.wp,hr,Oper.upon]
   exact .inl (hgive _ _ hg)
  ·simp only [hw,if_true,Oper.wp,hr,Oper.upon]
   exact .inl (hgive _ _ hg)
  ·simp only [hw,if_true,Oper.wp,hr,Oper.upon]
   refine .inl (hg.mono ?_)
   rintro e w' ⟨v,rfl,hg'⟩
   exact hgive _ _ hg'
  ·simp only [hw,Bool.false_eq_true,if_false]
   exact hgive _ _ hg
theorem Le {id:Nat} {w:World} {up:Nat→Nat} {L:Nat} {oL:Oper} (hm:P.follows .mixedOrders=true) (hL:ops.size=L+1) (hoL:ops[L]?=some oL) (hup:Yt ops L up=true) (hs:rp ops a0.tmps.size D dep=true)
 (hstab: ∀j a w w',R w w'→vA dep Fs j a w→vA dep Fs j a w') (hI:Inv w.drew)
 (hops: ∀i o,i<L→ops[i]?=some o→Qn P ops a0 D [] dep Inv R Fs i o) (hlast:EX P ops Q a0 D dep Inv Fs oL):(Code.region id ops true).wp P Q a0 w:=
 wp_region_any hm (Vf hL hoL hup hs hstab hops hlast ops.size _ a0 _ (by simp) (by simp [hL]) ⟨rfl,rfl,fun _ _=>rfl⟩ hI
  (fun i hi h=>by simp [hi] at h)
  (fun j oj i hj h=>by
   have:j<ops.size:=by
    rcases Nat.lt_or_ge j ops.size with h |h
    ·exact h
    ·simp [h] at hj
   simp [this] at h)
  (by have:=List.length_filter_le (fun i=> !(Array.replicate ops.size false).getD i true) (List.range ops.size);simpa using this))
theorem Ja {id:Nat} {w:World} {up:Nat→Nat} {L:Nat} {oL:Oper} (hm:P.follows .mixedOrders=true) (hL:ops.size=L+1) (hoL:ops[L]?=some oL) (hup:Yt ops L up=true) (hs:rp ops a0.tmps.size D dep=true)
 (hstab: ∀j a w w',R w w'→vA dep Fs j a w→vA dep Fs j a w') (hI:Inv w.drew)
 (hops:Ii P ops a0 D [] dep Inv R Fs 0 (ops.toList.take L)) (hlast:EX P ops Q a0 D dep Inv Fs oL):(Code.region id ops true).wp P Q a0 w:=
 Le hm hL hoL hup hs hstab hI (fun i o hi ho=>by
  have:=UX hops i o (by rw [List.getElem?_take_of_lt hi];simpa using ho)
  rwa [Nat.zero_add] at this) hlast
end
theorem Pc {f:FuncId} {own:Bool} (h:bu Tryz.prog ⟨f,[.o (.int .i64)],[.o .s],own,fun x=>dA gO 30 x⟩):bu Tryz.prog ⟨f,[.o (.int .i64)],[.o .s],own,fun x=>aS x⟩:=⟨h.1,fun x res hm=>h.2 x res (abe hm)⟩
theorem yD {w w1:World} (h:Bs w) (hb:Below w.heap.size w w1):Bs w1:=by
 obtain ⟨h1,m,h2⟩:=h
 exact ⟨fun w' h'=>h1 w' (bG h' hb),m,fun w' h'=>h2 w' (bG h' hb)⟩
theorem Ds {own:Bool} (hN:bu Tryz.prog ⟨118,[.o .s],[.o (.int .i64),.o .b],own,fun x=>aI x⟩) {w:World} (hbs:Bs w) {s:ByteArray} {r:Int×Bool} (hm:aI s=some r) {w1:World} (h1:Below w.heap.size w w1):
 Calls Tryz.prog 118 #[.string s] w1 fun e w'=>e= .returned (.tuple #[.int .i64 r.1,.bool r.2])∧Below w1.heap.size w1 w':=by
 have h:=hN.2 s r hm (XN []) w1 w1 [] (yD hbs h1) ⟨_,_,rfl,⟨s,rfl⟩,rfl⟩ (St.nil w1)
 refine h.mono ?_
 rintro e w' ⟨us,A,rfl,⟨v1,v2,v3,A1,A2,A3,hv,rfl,q1,q2,q3⟩,S⟩
 obtain ⟨v,vr,u,ur,B1,B2,rfl,rfl,rfl,⟨k,z,rfl,rfl,rfl⟩,v,vr,u,ur,B1,B2,rfl,rfl,rfl,⟨y,rfl,rfl,rfl⟩,rfl,rfl,rfl⟩:=q1
 have hv: [PV.int .i64 r.1,PV.b r.2]=_:=hv
 simp only [List.cons_append,List.nil_append,List.cons.injEq,PV.int.injEq,PV.b.injEq] at hv
 obtain ⟨⟨rfl,rfl⟩,rfl,_⟩:=hv
 exact ⟨rfl,S.below⟩
theorem Nf (w:World): ∃w1 w2 w3 w4 w5 w6 w7 w8,(Instr.makeMap 159 none).run Tryz.prog (w.alloc (.cells #[.int .i64 0,.int .i64 0,.int .i64 0] 86))= .ok (.map (some (w.heap.size+1))) (((w.alloc (.cells #[.int .i64 0,.int .i64 0,.int .i64 0] 86))).alloc (.map #[] 0))∧(Instr.makeMap 159 none).run Tryz.prog w5= .ok (.map (some (w.heap.size+2))) (w5.alloc (.map #[] 0))∧(Instr.mapUpdate 159 (.map (some (w.heap.size+1))) (.string {data:= #[111,110]}) (.int .i64 0)).run Tryz.prog (((w.alloc (.cells #[.int .i64 0,.int .i64 0,.int .i64 0] 86))).alloc (.map #[] 0))= .ok () w1∧(Instr.mapUpdate 159 (.map (some (w.heap.size+1))) (.string {data:= #[111,102,102]}) (.int .i64 1)).run Tryz.prog w1= .ok () w2∧(Instr.mapUpdate 159 (.map (some (w.heap.size+1))) (.string {data:= #[101,97,114,116,104]}) (.int .i64 2)).run Tryz.prog w2= .ok () w3∧(Instr.mapUpdate 159 (.map (some (w.heap.size+1))) (.string {data:= #[99,108,101,97,114]}) (.int .i64 3)).run Tryz.prog w3= .ok () w4∧(Instr.mapUpdate 159 (.map (some (w.heap.size+1))) (.string {data:= #[98,114,101,97,107]}) (.int .i64 6)).run Tryz.prog w4= .ok () w5∧(Instr.mapUpdate 159 (.map (some (w.heap.size+2))) (.string {data:= #[105,115,115,117,101]}) (.int .i64 4)).run Tryz.prog (w5.alloc (.map #[] 0))= .ok () w6∧(Instr.mapUpdate 159 (.map (some (w.heap.size+2))) (.string {data:= #[114,101,116,117,114,110]}) (.int .i64 5)).run Tryz.prog w6= .ok () w7∧(Instr.mapUpdate 159 (.map (some (w.heap.size+2))) (.string {data:= #[109,101,110,100]}) (.int .i64 7)).run Tryz.prog w7= .ok () w8∧qw w8 (w.heap.size+1) Et∧qw w8 (w.heap.size+2) Eu∧w8.heap.size=w.heap.size+3∧w5.heap.size=w.heap.size+2∧Below w.heap.size w w8∧Bk w8 w.heap.size 86 #[.int .i64 0,.int .i64 0,.int .i64 0]:=by
 have ht:Tryz.prog.underlying 159=some (.map 9 3):=Tryz.underlying159
 have hk:Tryz.prog.underlying 9=some .string:=Tryz.underlying9
 have b0:Below w.heap.size w (((w.alloc (.cells #[.int .i64 0,.int .i64 0,.int .i64 0] 86))).alloc (.map #[] 0)):=(Below.refl _ _).alloc (Nat.le_refl _) _ |>.alloc (by simp) _
 have B0:Bk (((w.alloc (.cells #[.int .i64 0,.int .i64 0,.int .i64 0] 86))).alloc (.map #[] 0)) w.heap.size 86 #[.int .i64 0,.int .i64 0,.int .i64 0]:=(Bk.new w _ _).alloc _
 have m0:qw (((w.alloc (.cells #[.int .i64 0,.int .i64 0,.int .i64 0] 86))).alloc (.map #[] 0)) (w.heap.size+1) []:=by have:=Oa ((w.alloc (.cells #[.int .i64 0,.int .i64 0,.int .i64 0] 86)));simpa using this
 have z0:(((w.alloc (.cells #[.int .i64 0,.int .i64 0,.int .i64 0] 86))).alloc (.map #[] 0)).heap.size=w.heap.size+2:=by simp
 obtain ⟨w1,r1,m1,z1,g1⟩:=sJ m0 ht hk (k:= {data:= #[111,110]}) 0 rfl
 have b1:=mJ b0 g1 (by omega)
 have B1:=B0.grown' g1 (by omega)
 obtain ⟨w2,r2,m2,z2,g2⟩:=sJ m1 ht hk (k:= {data:= #[111,102,102]}) 1 rfl
 have b2:=mJ b1 g2 (by omega)
 have B2:=B1.grown' g2 (by omega)
 obtain ⟨w3,r3,m3,z3,g3⟩:=sJ m2 ht hk (k:= {data:= #[101,97,114,116,104]}) 2 rfl
 have b3:=mJ b2 g3 (by omega)
 have B3:=B2.grown' g3 (by omega)
 obtain ⟨w4,r4,m4,z4,g4⟩:=sJ m3 ht hk (k:= {data:= #[99,108,101,97,114]}) 3 rfl
 have b4:=mJ b3 g4 (by omega)
 have B4:=B3.grown' g4 (by omega)
 obtain ⟨w5,r5,m5,z5,g5⟩:=sJ m4 ht hk (k:= {data:= #[98,114,101,97,107]}) 6 rfl
 have b5:=mJ b4 g5 (by omega)
 have B5:=B4.grown' g5 (by omega)
 have z5':w5.heap.size=w.heap.size+2:=by omega
 have n0:qw (w5.alloc (.map #[] 0)) w5.heap.size []:=Oa w5
 have m5':=Dp m5 (.map #[] 0)
 have b5':Below w.heap.size w (w5.alloc (.map #[] 0)):=b5.alloc (by omega) _
 have B5':=B5.alloc (.map #[] 0)
 obtain ⟨w6,r6,n1,z6,g6⟩:=sJ n0 ht hk (k:= {data:= #[105,115,115,117,101]}) 4 rfl
 have m6:=FW m5' g6 (by omega)
 have b6:=mJ b5' g6 (by omega)
 have B6:=B5'.grown' g6 (by omega)
 obtain ⟨w7,r7,n2,z7,g7⟩:=sJ n1 ht hk (k:= {data:= #[114,101,116,117,114,110]}) 5 rfl
 have m7:=FW m6 g7 (by omega)
 have b7:=mJ b6 g7 (by omega)
 have B7:=B6.grown' g7 (by omega)
 obtain ⟨w8,r8,n3,z8,g8⟩:=sJ n2 ht hk (k:= {data:= #[109,101,110,100]}) 7 rfl
 have m8:=FW m7 g8 (by omega)
 have b8:=mJ b7 g8 (by omega)
 have B8:=B7.grown' g8 (by omega)
 have z6':(w5.alloc (.map #[] 0)).heap.size=w.heap.size+3:=by simp;omega
 have q0:(Instr.makeMap 159 none).run Tryz.prog (w.alloc (.cells #[.int .i64 0,.int .i64 0,.int .i64 0] 86))= .ok (.map (some (w.heap.size+1))) (((w.alloc (.cells #[.int .i64 0,.int .i64 0,.int .i64 0] 86))).alloc (.map #[] 0)):=by have:=run_makeMap (P:=Tryz.prog) 159 ((w.alloc (.cells #[.int .i64 0,.int .i64 0,.int .i64 0] 86)));simpa using this
 have q5:(Instr.makeMap 159 none).run Tryz.prog w5= .ok (.map (some w5.heap.size)) (w5.alloc (.map #[] 0)):=rfl
 rw [z5'] at q5 r6 r7 r8 n3
 exact ⟨w1,w2,w3,w4,w5,w6,w7,w8,q0,q5,r1,r2,r3,r4,r5,r6,r7,r8,m8,n3,by omega,z5',b8,B8⟩
theorem Ox {w:World} {A:Option Addr} {c:Nat} {ws:List ByteArray} (R:Rc w 1 A ws.length c (ws.flatMap (EK.s).enc)) (h:0<ws.length): ∃b off,A=some ⟨b,off,none⟩∧b<w.heap.size∧ ∀j s,ws[j]?=some s→w.cell? ⟨b,off+j,none⟩=some (.string s):=by
 have hf:ws.flatMap (EK.s).enc=ws.map Value.string:=by rw [List.map_eq_flatMap];rfl
 obtain ⟨b,off,hA,hcell⟩:=R.rd.2 (by omega)
 rw [hf] at hcell
 have hc: ∀j s,ws[j]?=some s→w.cell? ⟨b,off+j,none⟩=some (.string s):=fun j z hz=>hcell j _ (by rw [List.getElem?_map,hz];rfl)
 refine ⟨b,off,hA,?_,hc⟩
 have:=hc 0 ws[0] (by simp)
 rcases Nat.lt_or_ge b w.heap.size with h |h
 ·exact h
 ·simp [World.cell?,Array.getElem?_eq_none h] at this
def Ij (w:World) (r:Int×Int×Int×Bool) (e:Ending) (w':World):Prop:=e= .returned (.tuple #[.agg #[.int .i64 r.1,.int .i64 r.2.1,.int .i64 r.2.2.1],.bool r.2.2.2])∧Below w.heap.size w w'
set_option maxRecDepth 20000 in
theorem PA {w:World} {A:Option Addr} {c n:Nat} (h2: ¬n=2) (h3: ¬n=3):Calls Tryz.prog 52 #[.slice A n c] w (Ij w (0,0,0,false)):=by
 obtain ⟨w1,w2,w3,w4,w5,w6,w7,w8,q1,q2,r1,r2,r3,r4,r5,r6,r7,r8,m1,m2,z8,z5,b8,B8⟩:=Nf w
 have e2:((n:Int)==2)=false:=by rw [beq_eq_false_iff_ne];omega
 have e3:((n:Int)==3)=false:=by rw [beq_eq_false_iff_ne];omega
 have f8:=B8.c3
 go_enter Tryz.func52,Tryz.ntmps52
 go_wp2
 exact bodyPost_ret (v:=.tuple #[.agg #[.int .i64 0,.int .i64 0,.int .i64 0],.bool false]) (by simp [results,Tryz.results52,go_sem, *]) rfl ⟨rfl,(by repeat' (first |exact Below.refl _ _ |assumption |refine Below.drew ?_ |refine cell_drew ?_ |refine Below.setCell ?_ (by (try simp);(try omega)) _ |refine Below.alloc ?_ (by (try simp);(try omega)) _ |refine uk (by assumption) (by (try simp);(try omega)) ?_))⟩
set_option maxRecDepth 20000 in
theorem Sr {own:Bool} (hN:bu Tryz.prog ⟨118,[.o .s],[.o (.int .i64),.o .b],own,fun x=>aI x⟩) {w:World} (hbs:Bs w) {x y:ByteArray} {A:Option Addr} {c:Nat} (R:Rc w 1 A [x,y].length c ([x,y].flatMap (EK.s).enc)) {p:Int×Bool} (hp:aI y=some p):
 Calls Tryz.prog 52 #[.slice A 2 c] w (Ij w ((oo Et x).1,p.1,0,(oo Et x).2&&p.2)):=by
 obtain ⟨b,off,rfl,hb,hc⟩:=Ox R (by simp)
 have c0:w.cell? ⟨b,off,none⟩=some (.string x):=hc 0 x rfl
 have c1:w.cell? ⟨b,off+1,none⟩=some (.string y):=hc 1 y rfl
 clear hc R
 obtain ⟨w1,w2,w3,w4,w5,w6,w7,w8,q1,q2,r1,r2,r3,r4,r5,r6,r7,r8,m1,m2,z8,z5,b8,B8⟩:=Nf w
 have hc0: ∀o,(w8.alloc o).cell? ⟨b,off,none⟩=some (.string x):=fun o=>((b8.alloc (by omega) o).cell (p:=⟨b,off,none⟩) hb).trans c0
 have hc1: ∀o,(w8.alloc o).cell? ⟨b,off+1,none⟩=some (.string y):=fun o=>((b8.alloc (by omega) o).cell (p:=⟨b,off+1,none⟩) hb).trans c1
 have hl: ∀o,(Instr.lookup 159 (.map (some (w.heap.size+1))) (.string x) true).run Tryz.prog (w8.alloc o)= .ok (.tuple #[.int .i64 (oo Et x).1,.bool (oo Et x).2]) (w8.alloc o):=fun o=>KH (Dp m1 o) Tryz.underlying159 Tryz.underlying9 (by simp [go_sem]) x
 have BD: ∀cs,Bk (w8.alloc (.cells cs 86)) (w.heap.size+3) 86 cs:=fun cs=>by have:=Bk.new w8 86 cs;rwa [z8] at this
 have B0: ∀cs,Bk (w8.alloc (.cells cs 86)) w.heap.size 86 #[.int .i64 0,.int .i64 0,.int .i64 0]:=fun cs=>B8.alloc _
 have bA: ∀o,Below w.heap.size w (w8.alloc o):=fun o=>b8.alloc (by omega) o
 have f8:=B8.c3
 generalize oo Et x=l at*
 obtain ⟨l1,l2⟩:=l
 obtain ⟨p1,p2⟩:=p
 go_enter Tryz.func52,Tryz.ntmps52
 go_wp2_with fail
 refine (Ds hN hbs hp (bA _)).mono ?_
 rintro e w9 ⟨rfl,hb9⟩
 have b9:=bG hb9 (bA _)
 have f0:=((B0 _).after hb9).c3
 have f1:=((BD _).after hb9).c3
 clear hb9 bA B0 BD f8 B8 b8 hl hc0 hc1 m1 m2 r1 r2 r3 r4 r5 r6 r7 r8 q1 q2
 cases l2
 all_goals
  go_wp2
  exact bodyPost_ret (v:=.tuple #[.agg #[.int .i64 l1,.int .i64 p1,.int .i64 0],.bool _]) (by simp [results,Tryz.results52,go_sem, *]) rfl ⟨rfl,(by repeat' (first |exact Below.refl _ _ |assumption |refine Below.drew ?_ |refine cell_drew ?_ |refine Below.setCell ?_ (by (try simp);(try omega)) _ |refine Below.alloc ?_ (by (try simp);(try omega)) _ |refine uk (by assumption) (by (try simp);(try omega)) ?_))⟩
set_option maxRecDepth 20000 in
set_option maxHeartbeats 2000000 in
theorem MJ {own:Bool} (hN:bu Tryz.prog ⟨118,[.o .s],[.o (.int .i64),.o .b],own,fun x=>aI x⟩) {w:World} (hbs:Bs w) {x y z:ByteArray} {A:Option Addr} {c:Nat} (R:Rc w 1 A [x,y,z].length c ([x,y,z].flatMap (EK.s).enc)) {p q:Int×Bool} (hp:aI y=some p) (hq:aI z=some q):
 Calls Tryz.prog 52 #[.slice A 3 c] w (Ij w ((oo Eu x).1,p.1,q.1,(oo Eu x).2&&p.2&&q.2)):=by
 obtain ⟨b,off,rfl,hb,hc⟩:=Ox R (by simp)
 have c0:w.cell? ⟨b,off,none⟩=some (.string x):=hc 0 x rfl
 have c1:w.cell? ⟨b,off+1,none⟩=some (.string y):=hc 1 y rfl
 have c2:w.cell? ⟨b,off+2,none⟩=some (.string z):=hc 2 z rfl
 clear hc R
 obtain ⟨w1,w2,w3,w4,w5,w6,w7,w8,q1,q2,r1,r2,r3,r4,r5,r6,r7,r8,m1,m2,z8,z5,b8,B8⟩:=Nf w
 have hc0: ∀o,(w8.alloc o).cell? ⟨b,off,none⟩=some (.string x):=fun o=>((b8.alloc (by omega) o).cell (p:=⟨b,off,none⟩) hb).trans c0
 have hc1: ∀o,(w8.alloc o).cell? ⟨b,off+1,none⟩=some (.string y):=fun o=>((b8.alloc (by omega) o).cell (p:=⟨b,off+1,none⟩) hb).trans c1
 have hl: ∀o,(Instr.lookup 159 (.map (some (w.heap.size+2))) (.string x) true).run Tryz.prog (w8.alloc o)= .ok (.tuple #[.int .i64 (oo Eu x).1,.bool (oo Eu x).2]) (w8.alloc o):=fun o=>KH (Dp m2 o) Tryz.underlying159 Tryz.underlying9 (by simp [go_sem]) x
 have BD: ∀cs,Bk (w8.alloc (.cells cs 86)) (w.heap.size+3) 86 cs:=fun cs=>by have:=Bk.new w8 86 cs;rwa [z8] at this
 have B0: ∀cs,Bk (w8.alloc (.cells cs 86)) w.heap.size 86 #[.int .i64 0,.int .i64 0,.int .i64 0]:=fun cs=>B8.alloc _
 have bA: ∀o,Below w.heap.size w (w8.alloc o):=fun o=>b8.alloc (by omega) o
 have f8:=B8.c3
 generalize oo Eu x=l at*
 obtain ⟨l1,l2⟩:=l
 obtain ⟨p1,p2⟩:=p
 obtain ⟨p3,p4⟩:=q
 go_enter Tryz.func52,Tryz.ntmps52
 go_wp2_with fail
 refine (Ds hN hbs hp (bA _)).mono ?_
 rintro e w9 ⟨rfl,hb9⟩
 have z9:=hb9.size
 simp at z9
 have b9:=bG hb9 (bA _)
 have f0:=((B0 _).after hb9).c3
 have f1:=((BD _).after hb9).c3
 have e2:=(b9.cell (p:=⟨b,off+2,none⟩) hb).trans c2
 have D:=(BD _).after hb9
 have D0:=(B0 _).after hb9
 clear hb9 bA B0 BD f8 B8 b8 hl hc0 hc1 m1 m2 r1 r2 r3 r4 r5 r6 r7 r8 q1 q2
 go_wp2_with fail
 have Dn:Bk (w9.setCell ⟨w.heap.size+3,1,none⟩ (.int .i64 p1)) (w.heap.size+3) 86 #[.int .i64 l1,.int .i64 p1,.int .i64 0]:=D.set_ 1 _
 have Dm:Bk (w9.setCell ⟨w.heap.size+3,1,none⟩ (.int .i64 p1)) w.heap.size 86 #[.int .i64 0,.int .i64 0,.int .i64 0]:=D0.far (by simp) _
 have bn:Below w.heap.size w (w9.setCell ⟨w.heap.size+3,1,none⟩ (.int .i64 p1)):=b9.setCell (by simp) _
 refine (Ds hN hbs hq bn).mono ?_
 rintro e w10 ⟨rfl,hb10⟩
 have b10:=bG hb10 bn
 have g0:=(Dm.after hb10).c3
 have g1:=(Dn.after hb10).c3
 clear hb10 Dn Dm D D0 f0 f1 b9 bn
 cases l2<;>cases p2
 all_goals
  go_wp2
  exact bodyPost_ret (v:=.tuple #[.agg #[.int .i64 l1,.int .i64 p1,.int .i64 p3],.bool _]) (by simp [results,Tryz.results52,go_sem, *]) rfl ⟨rfl,(by repeat' (first |exact Below.refl _ _ |assumption |refine Below.drew ?_ |refine cell_drew ?_ |refine Below.setCell ?_ (by (try simp);(try omega)) _ |refine Below.alloc ?_ (by (try simp);(try omega)) _ |refine uk (by assumption) (by (try simp);(try omega)) ?_))⟩
theorem Ks {own:Bool} (co:CallOk Tryz.prog 52) (hN:bu Tryz.prog ⟨118,[.o .s],[.o (.int .i64),.o .b],own,fun x=>aI x⟩):bu Tryz.prog ⟨52,[.o (.sl .ro 9 .s)],[.g [.int .i64,.int .i64,.int .i64],.o .b],false,fun x=>dL x⟩:=⟨co,fun x res hm e w0 w X hbs hp hS=>by
 have hm:dL x=some res:=hm
 obtain ⟨v,vr,hv,⟨l,hl,hro⟩,_⟩:=hp
 have hl:=(List.head_eq_of_cons_eq hv).trans hl
 injection hl with _ hl
 subst hl
 have R:=hro w _ hS (fun y hy=>List.mem_append_right _ hy)
 have hbs1:=yD hbs hS.below
 have key:Calls Tryz.prog 52 #[.slice (e.a 0) x.length (e.c 0)] w (Ij w res):=by
  unfold dL at hm
  by_cases h2:x.length=2
  ·obtain ⟨a,b,rfl⟩: ∃a b,x=[a,b]:=by
    match x,h2 with
    | [a,b],_=>exact ⟨a,b,rfl⟩
   rw [decide_eq_true h2] at hm
   obtain ⟨p,hp,hm⟩:=uq hm
   injection hm with hm
   subst hm
   exact Sr hN hbs1 R hp
  by_cases h3:x.length=3
  ·obtain ⟨a,b,c,rfl⟩: ∃a b c,x=[a,b,c]:=by
    match x,h3 with
    | [a,b,c],_=>exact ⟨a,b,c,rfl⟩
   rw [decide_eq_false h2,decide_eq_true h3] at hm
   obtain ⟨p,hp,hm⟩:=uq hm
   obtain ⟨q,hq,hm⟩:=uq hm
   injection hm with hm
   subst hm
   exact MJ hN hbs1 R hp hq
  rw [decide_eq_false h2,decide_eq_false h3] at hm
  injection hm with hm
  subst hm
  exact PA h2 h3
 refine Calls.mono key ?_
 rintro en w' ⟨rfl,hb⟩
 exact ⟨[_,_],[],rfl,⟨[_,_,_,_],[],[],[],[],[],rfl,rfl,⟨[_,_,_],[_],[_,_,_],[_],[],[],rfl,rfl,rfl,⟨_,_,_,_,[],[],rfl,rfl,rfl,⟨_,_,rfl,rfl,rfl⟩,_,_,_,_,[],[],rfl,rfl,rfl,⟨_,_,rfl,rfl,rfl⟩,_,_,_,_,[],[],rfl,rfl,rfl,⟨_,_,rfl,rfl,rfl⟩,rfl,rfl,rfl⟩,⟨_,[],_,[],[],[],rfl,rfl,rfl,⟨_,rfl,rfl,rfl⟩,rfl,rfl,rfl⟩⟩,⟨rfl,rfl⟩,⟨[],[],[],[],rfl,rfl,⟨rfl,rfl⟩,⟨rfl,rfl⟩⟩⟩,hS.quiet hb⟩⟩
abbrev OX:EK:=.p (.int .i64) (.p (.int .i64) (.int .i64))
theorem KO {own:Bool} (hN:bu Tryz.prog ⟨100,[.g [.int .i64,.sl .ro 77 OX]],[.o .b],own,fun x=>aM x.1 x.2⟩) {w:World} (hbs:Bs w) {b:Int} {ls:List (Int×Int×Int)} {A:Option Addr} {c:Nat} (R:Rc w 3 A ls.length c (ls.flatMap OX.enc)) {p:Bool} (hp:aM b ls=some p) {w1:World} (h1:Below w.heap.size w w1):
 Calls Tryz.prog 100 #[.agg #[.int .i64 b,.slice A ls.length c]] w1 fun e w'=>e= .returned (.bool p)∧Below w1.heap.size w1 w':=by
 have R1:Rc w1 3 A ls.length c (ls.flatMap OX.enc):=⟨R.rd.after h1,R.cap⟩
 refine (VU hN (x:=(b,ls)) hp (e:=XN [(none,0),(A,c)]) (w:=w1) (b:=p) (yD hbs h1) ⟨_,_,rfl,⟨.i64,b,rfl⟩,_,_,rfl,⟨ls,rfl,fun u L S _=>S.rc0 R1⟩,rfl⟩ rfl rfl rfl).mono ?_
 rintro e w' ⟨rfl,S⟩
 exact ⟨rfl,S.below⟩
theorem JQ {T e:TypeId} {B b:Nat} {p:Value} {bs:List Value} {w w':World} (h:Lib.BuilderAtF T e B b p bs w) (hb:Below w.heap.size w w'):Lib.BuilderAtF T e B b p bs w':=by
 have hlt:=h.lt
 obtain ⟨h1,v,h2,h3,h4⟩:=h
 refine ⟨h1,v,(hb.block b hlt).trans h2,h3.kept (row:=none) ⟨hb.os,hb.tape,hb.output,hb.size,fun k hk _=>hb.block k hk⟩ ?_,h4⟩
 cases v.ownBlock<;>simp
theorem Ho {T e:TypeId} {B b:Nat} {bs:List Value} {w w':World} (h:Lib.IsBuilderF T e B b bs w) (hb:Below w.heap.size w w'):Lib.IsBuilderF T e B b bs w':=
 h.imp (fun h=>JQ h hb) (fun h=>JQ h hb)
theorem DQ (B b:Nat) (bs:List Value) (s:ByteArray) (w:World) (h:Lib.IsBuilderF 131 5 B b bs w) (hlen:bs.length+s.size≤140737488355328) (hBw:B≤w.heap.size):
 Calls Tryz.prog 102 #[.pointer (some ⟨b,0,none⟩),.string s] w fun e w'=>e= .returned (.tuple #[.int .i64 s.size,.nilIface])∧Lib.IsBuilderF 131 5 B b (bs++Lib.strCells s) w'∧Below B w w':=by
 refine (Any.Builder_WriteString_k {Tryz.lays156 with} Tryz.Builder_Extra_156 B b bs s w h hlen hBw).mono ?_
 rintro e w' ⟨rfl,h1,h2,_⟩
 exact ⟨rfl,.inr h1,h2⟩
def LV (w:World) (s:ByteArray) (e:Ending) (w':World):Prop:=e= .returned (.string s)∧Below w.heap.size w w'
theorem Tl {own:Bool} (hN:bu Tryz.prog ⟨100,[.g [.int .i64,.sl .ro 77 OX]],[.o .b],own,fun x=>aM x.1 x.2⟩) {w:World} (hbs:Bs w) {b:Int} {ls:List (Int×Int×Int)} {A:Option Addr} {c:Nat} (R:Rc w 3 A ls.length c (ls.flatMap OX.enc)) (hp:aM b ls=some false):Calls Tryz.prog 42 #[.agg #[.int .i64 b,.slice A ls.length c]] w (LV w (bf [])):=by
 have b0:Below w.heap.size w (w.alloc (.cells #[.int .i64 b,.slice A ls.length c] 25)):=(Below.refl _ _).alloc (Nat.le_refl _) _
 have hS:(bf []:ByteArray)= {data:= #[]}:=rfl
 rw [hS]
 go_enter Tryz.func42,Tryz.ntmps42
 go_wp2_with fail
 refine (KO hN hbs R hp b0).mono ?_
 rintro e w1 ⟨rfl,h1⟩
 have b1:=bG h1 b0
 go_wp2
 exact bodyPost_ret (v:=.string {data:= #[]}) (by simp [results,Tryz.results42,go_sem, *]) rfl ⟨rfl,(by repeat' (first |exact Below.refl _ _ |assumption |refine Below.drew ?_ |refine cell_drew ?_ |refine Below.setCell ?_ (by (try simp);(try omega)) _ |refine Below.alloc ?_ (by (try simp);(try omega)) _ |refine uk (by assumption) (by (try simp);(try omega)) ?_))⟩
def Xv (x:Int×Int×Int):List UInt8:=32::(Lib.itoa x.1++45::(Lib.itoa x.2.1++58::Lib.itoa x.2.2))
def GI (b:Int) (ls:List (Int×Int×Int)) (k:Nat):List UInt8:=Lib.itoa b++(ls.take k).flatMap Xv
theorem JM (b:Int) (ls:List (Int×Int×Int)):GI b ls 0=Lib.itoa b:=by simp [GI]
theorem JL (b:Int) (ls:List (Int×Int×Int)) {k:Nat} (h:k<ls.length):GI b ls (k+1)=GI b ls k++Xv ls[k]:=by
 unfold GI
 rw [List.take_succ_eq_append_getElem h,List.flatMap_append];simp
theorem TK (b:Int) (ls:List (Int×Int×Int)):GI b ls ls.length=Po b ls:=by
 unfold GI;rw [List.take_length];rfl
def VG (n:Int):Prop:= -9223372036854775808≤n∧n≤9223372036854775807
theorem sj {n:Int} (h:VG n):(Lib.itoa n).length≤21:=Lib.itoa_length_le n h.1 h.2
theorem RS {x:Int×Int×Int} (h:(VG x.1∧VG x.2.1)∧VG x.2.2):(Xv x).length≤66:=by
 have h1:=sj h.1.1;have h2:=sj h.1.2;have h3:=sj h.2
 unfold Xv;simp;omega
theorem Qo {b:Int} {ls:List (Int×Int×Int)} (h1:VG b) (h3: ∀x∈ls,(VG x.1∧VG x.2.1)∧VG x.2.2): ∀k,k≤ls.length→(GI b ls k).length≤21+66*k
 |0,_=>by rw [JM];exact sj h1
 |k+1,hk=>by
  have:=Qo h1 h3 k (by omega)
  have:=RS (h3 ls[k] (List.getElem_mem _))
  rw [JL b ls (by omega),List.length_append];omega
def fsT (g:Nat) (xa xb xm:Int):Nat→Value→World→Prop
 |0,v,_=>v= .pointer (some ⟨g,0,none⟩)
 |1,v,_=>v= .int .i64 xa
 |2,v,_=>v= .string (bf (Lib.itoa xa))
 |3,v,_=>v= .string (bf ([32]++Lib.itoa xa))
 |4,v,_=>v= .string (bf ([32]++Lib.itoa xa++ [45]))
 |5,v,_=>v= .pointer (some ⟨g,1,none⟩)
 |6,v,_=>v= .int .i64 xb
 |7,v,_=>v= .string (bf (Lib.itoa xb))
 |8,v,_=>v= .string (bf ([32]++Lib.itoa xa++ [45]++Lib.itoa xb))
 |9,v,_=>v= .string (bf ([32]++Lib.itoa xa++ [45]++Lib.itoa xb++ [58]))
 |10,v,_=>v= .pointer (some ⟨g,2,none⟩)
 |11,v,_=>v= .int .i64 xm
 |12,v,_=>v= .string (bf (Lib.itoa xm))
 |13,v,_=>v= .string (bf ([32]++Lib.itoa xa++ [45]++Lib.itoa xb++ [58]++Lib.itoa xm))
 |_,_,_=>True
def WI (j:Nat):Nat:=if j<15 then 20+j else 0
def upT:Nat→Nat
 |0=>1 |1=>2 |2=>3 |3=>4 |4=>8 |5=>6 |6=>7 |7=>8 |8=>9 |9=>13 |10=>11 |11=>12 |12=>13 |13=>14 |_=>0
theorem Xw (xa xb xm:Int): [32]++Lib.itoa xa++ [45]++Lib.itoa xb++ [58]++Lib.itoa xm=Xv (xa,xb,xm):=by simp [Xv]
theorem Uq (g:Nat) (xa xb xm:Int) (j:Nat) (a:Act) (w w':World) (h:vA WI (fsT g xa xb xm) j a w):vA WI (fsT g xa xb xm) j a w':=by
 unfold vA at h ⊢
 match j with
 |0 |1 |2 |3 |4 |5 |6 |7 |8 |9 |10 |11 |12 |13=>exact h
 |n+14=>trivial
theorem yb {a:Act} {k:Nat} {v:Value} (h:a.tmps[k]?.getD undef=v):a.eval (.tmp k)=v:=by rw [←h];simp [Act.eval]
theorem Qp {P:Program} {a:Act} {w:World} {o:Oper} {T U:TypeId} {x y:Operand} {p q:List UInt8} (ho:o.op= .binOp .add T x y U) (hx:a.eval x= .string (bf p)) (hy:a.eval y= .string (bf q)) (h:p.length≤100∧q.length≤100):(execOp a.eval o).run P w= .ok (.value (.string (bf (p++q)))) w:=by
 have:=Ll (P:=P) (w:=w) ho hx hy (by rw [cu,cu];omega)
 rwa [wY] at this
set_option maxRecDepth 20000 in
set_option maxHeartbeats 2000000 in
theorem Vx {own:Bool} (hN:bu Tryz.prog ⟨100,[.g [.int .i64,.sl .ro 77 OX]],[.o .b],own,fun x=>aM x.1 x.2⟩) {w:World} (hbs:Bs w) {b:Int} {ls:List (Int×Int×Int)} {A:Option Addr} {c:Nat} (R:Rc w 3 A ls.length c (ls.flatMap OX.enc)) (hp:aM b ls=some true) (hb:RU b ls=true):Calls Tryz.prog 42 #[.agg #[.int .i64 b,.slice A ls.length c]] w (LV w (bf (Po b ls))):=by
 have b0:Below w.heap.size w (w.alloc (.cells #[.int .i64 b,.slice A ls.length c] 25)):=(Below.refl _ _).alloc (Nat.le_refl _) _
 have B0:Bk (w.alloc (.cells #[.int .i64 b,.slice A ls.length c] 25)) w.heap.size 25 #[.int .i64 b,.slice A ls.length c]:=Bk.new _ _ _
 unfold RU YA at hb
 simp only [Bool.and_eq_true,decide_eq_true_eq,List.all_eq_true] at hb
 obtain ⟨⟨hb1,hb2⟩,hb3⟩:=hb
 go_enter Tryz.func42,Tryz.ntmps42
 go_wp2_with fail
 refine (KO hN hbs R hp b0).mono ?_
 rintro e w1 ⟨rfl,h1⟩
 have b1:=bG h1 b0
 have B1:=B0.after h1
 have s1:=b1.size
 have f1:=(B1.alloc (.cells #[.pointer none,.slice none 0 0] 131)).c2
 go_wp2_with fail
 refine (qW hbs hb1 (b1.alloc s1 _)).mono ?_
 rintro e w2 ⟨rfl,h2⟩
 have F2:Lib.IsBuilderF 131 5 w1.heap.size w1.heap.size [] w2:=Ho (Lib.IsBuilderF.of (Lib.fresh_isBuilder _ _ w1)) h2
 have z2:=h2.size
 simp at z2
 have b2:=bG h2 (b1.alloc s1 _)
 have l0:=sj hb1
 have B2:=(B1.alloc (.cells #[.pointer none,.slice none 0 0] 131)).after h2
 go_wp2_with fail
 refine (DQ w1.heap.size w1.heap.size [] _ w2 F2 (by rw [cu];simp;omega) (by omega)).mono ?_
 rintro e w3 ⟨rfl,F3,h3⟩
 have b3:Below w.heap.size w w3:=b2.trans (h3.mono s1)
 have z3:=h3.size
 have zl:w.heap.size<w1.heap.size:=by have:=h1.size;simp at this;omega
 have B3:=B2.below h3 zl
 have e3:([]:List Value)++Lib.strCells (bf (Lib.itoa b))=Lib.byteCells (GI b ls 0):=by rw [JM,List.nil_append,Lib.strCells_eq,kG]
 rw [e3] at F3
 have HF:=Lib.hid F3
 have HB:=Lib.hid (Below.refl w1.heap.size w3)
 have f3:=B3.c2
 clear F3 f1 B1 B2 F2 b2 h3 h2 b1 h1
 go_wp2
 go_loopw [16] (fun i wr=> ∃k:Nat,k≤ls.length∧i= .int .i64 k∧Hid (Lib.IsBuilderF 131 5 w1.heap.size w1.heap.size (Lib.byteCells (GI b ls k)) wr)∧Hid (Below w1.heap.size w3 wr)) (fun i _=>ls.length-(intOf i).toNat)
 case atStart=>exact ⟨0,Nat.zero_le _,rfl,HF,HB⟩
 case round=>
  obtain ⟨k,hk,rfl,HF,HB⟩:=hrel
  have sr:=HB.out.size
  by_cases hlt:k<ls.length
  ·obtain ⟨bk,off,rfl,hcell⟩:=R.rd.2 (by omega)
   have hx3:=hb3 ls[k] (List.getElem_mem _)
   have hkk:ls.getD k (0,0,0)=ls[k]:=by simp [hlt]
   have hc0:=hcell (k*3+0) (.int .i64 ls[k].1) (tF (f:=OX.enc) (fun _=>rfl) (0,0,0) hlt (by rw [hkk];rfl))
   have hc1:=hcell (k*3+1) (.int .i64 ls[k].2.1) (tF (f:=OX.enc) (fun _=>rfl) (0,0,0) hlt (by rw [hkk];rfl))
   have hc2:=hcell (k*3+2) (.int .i64 ls[k].2.2) (tF (f:=OX.enc) (fun _=>rfl) (0,0,0) hlt (by rw [hkk];rfl))
   have hbk:bk<w.heap.size:=by
    rcases Nat.lt_or_ge bk w.heap.size with h |h
    ·exact h
    ·simp [World.cell?,Array.getElem?_eq_none h] at hc0
   have hac:=JL b ls hlt
   have hal:=Qo hb1 hb3 k hk
   have HA:=Lib.hid hac
   clear hac hcell hkk
   generalize ls[k]=x at*
   obtain ⟨xa,xb,xm⟩:=x
   have br:Below w.heap.size w wr:=b3.trans (HB.out.mono s1)
   have g0:wr.cell? ⟨bk,off+k*3,none⟩=some (.int .i64 xa):=(br.cell (p:=⟨bk,off+(k*3+0),none⟩) hbk).trans hc0
   have g1:wr.cell? ⟨bk,off+k*3+1,none⟩=some (.int .i64 xb):=(br.cell (p:=⟨bk,off+(k*3+1),none⟩) hbk).trans hc1
   have g2:wr.cell? ⟨bk,off+k*3+2,none⟩=some (.int .i64 xm):=(br.cell (p:=⟨bk,off+(k*3+2),none⟩) hbk).trans hc2
   clear hc0 hc1 hc2
   have BL:Bk (wr.alloc (.cells #[.int .i64 xa,.int .i64 xb,.int .i64 xm] 77)) wr.heap.size 77 #[.int .i64 xa,.int .i64 xb,.int .i64 xm]:=Bk.new _ _ _
   have FL:=HF.out.alloc (.cells #[.int .i64 xa,.int .i64 xb,.int .i64 xm] 77)
   have bL:=br.alloc (by omega) (.cells #[.int .i64 xa,.int .i64 xb,.int .i64 xm] 77)
   have HL:=HB.out.alloc (by omega) (.cells #[.int .i64 xa,.int .i64 xb,.int .i64 xm] 77)
   obtain ⟨⟨hxa,hxb⟩,hxm⟩:=hx3
   have la:=sj hxa;have lb:=sj hxb;have lm:=sj hxm
   go_wp2
   refine Ja (up:=upT) (L:=14) (D:=[20,21,22,23,24,25,26,27,28,29,30,31,32,33,34]) (dep:=WI) (R:=fun w w'=>Below w.heap.size w w') (Inv:=fun wx=>Below (wr.alloc (.cells #[.int .i64 xa,.int .i64 xb,.int .i64 xm] 77)).heap.size (wr.alloc (.cells #[.int .i64 xa,.int .i64 xb,.int .i64 xm] 77)) wx) (Fs:=fsT wr.heap.size xa xb xm) mixed rfl rfl (by kernel_rfl) (by kernel_rfl) (fun j a w w' _ h=>Uq _ _ _ _ j a w w' h) (Below.refl _ _).drew ?_ ?_
   ·refine ⟨?_,?_,?_,?_,?_,?_,?_,?_,?_,?_,?_,?_,?_,?_,trivial⟩<;>rintro a wx ⟨hs,hd,hB⟩ I hp
    ·have e1:a.tmps[5]?.getD undef= .pointer (some ⟨wr.heap.size,0,none⟩):=hB 5 rfl
     exact .inl ⟨rfl,_,wx,by simp [go_sem,e1],I,rfl,.inl rfl⟩
    ·have e1:a.tmps[20]?.getD undef=_:=hp 0 rfl
     have f:=(BL.after I).c3
     exact .inl ⟨rfl,_,wx,by simp [go_sem,e1,f],I,rfl,.inl rfl⟩
    ·have e1:a.tmps[21]?.getD undef=_:=hp 1 rfl
     refine .inr (.inr (.inl ⟨rfl,_,_,by simp [go_sem,e1];exact ⟨rfl,rfl⟩,?_⟩))
     refine (qW hbs hxa (bG I bL)).mono ?_
     rintro e w5 ⟨rfl,h5⟩
     exact ⟨_,rfl,bG h5 I,rfl,.inr ⟨h5,rfl⟩⟩
    ·have e1:a.eval (.const (.string {data:= #[32]}))= .string (bf [32]):=rfl
     have e2:a.tmps[22]?.getD undef=_:=hp 2 rfl
     exact .inl ⟨rfl,_,wx,Qp rfl e1 (yb e2) (by simp;omega),I,rfl,.inl rfl⟩
    ·have e1:a.tmps[23]?.getD undef=_:=hp 3 rfl
     have e2:a.eval (.const (.string {data:= #[45]}))= .string (bf [45]):=rfl
     exact .inl ⟨rfl,_,wx,Qp rfl (yb e1) e2 (by simp;omega),I,rfl,.inl rfl⟩
    ·have e1:a.tmps[5]?.getD undef= .pointer (some ⟨wr.heap.size,0,none⟩):=hB 5 rfl
     exact .inl ⟨rfl,_,wx,by simp [go_sem,e1],I,rfl,.inl rfl⟩
    ·have e1:a.tmps[25]?.getD undef=_:=hp 5 rfl
     have f:=(BL.after I).c3
     exact .inl ⟨rfl,_,wx,by simp [go_sem,e1,f],I,rfl,.inl rfl⟩
    ·have e1:a.tmps[26]?.getD undef=_:=hp 6 rfl
     refine .inr (.inr (.inl ⟨rfl,_,_,by simp [go_sem,e1];exact ⟨rfl,rfl⟩,?_⟩))
     refine (qW hbs hxb (bG I bL)).mono ?_
     rintro e w5 ⟨rfl,h5⟩
     exact ⟨_,rfl,bG h5 I,rfl,.inr ⟨h5,rfl⟩⟩
    ·have e1:a.tmps[24]?.getD undef=_:=hp 4 rfl
     have e2:a.tmps[27]?.getD undef=_:=hp 7 rfl
     exact .inl ⟨rfl,_,wx,Qp rfl (yb e1) (yb e2) (by simp;omega),I,rfl,.inl rfl⟩
    ·have e1:a.tmps[28]?.getD undef=_:=hp 8 rfl
     have e2:a.eval (.const (.string {data:= #[58]}))= .string (bf [58]):=rfl
     exact .inl ⟨rfl,_,wx,Qp rfl (yb e1) e2 (by simp;omega),I,rfl,.inl rfl⟩
    ·have e1:a.tmps[5]?.getD undef= .pointer (some ⟨wr.heap.size,0,none⟩):=hB 5 rfl
     exact .inl ⟨rfl,_,wx,by simp [go_sem,e1],I,rfl,.inl rfl⟩
    ·have e1:a.tmps[30]?.getD undef=_:=hp 10 rfl
     have f:=(BL.after I).c3
     exact .inl ⟨rfl,_,wx,by simp [go_sem,e1,f],I,rfl,.inl rfl⟩
    ·have e1:a.tmps[31]?.getD undef=_:=hp 11 rfl
     refine .inr (.inr (.inl ⟨rfl,_,_,by simp [go_sem,e1];exact ⟨rfl,rfl⟩,?_⟩))
     refine (qW hbs hxm (bG I bL)).mono ?_
     rintro e w5 ⟨rfl,h5⟩
     exact ⟨_,rfl,bG h5 I,rfl,.inr ⟨h5,rfl⟩⟩
    ·have e1:a.tmps[29]?.getD undef=_:=hp 9 rfl
     have e2:a.tmps[32]?.getD undef=_:=hp 12 rfl
     exact .inl ⟨rfl,_,wx,Qp rfl (yb e1) (yb e2) (by simp;omega),I,rfl,.inl rfl⟩
   ·intro a wx hB I hF
    have e13:a.tmps[33]?.getD undef= .string (bf (Xv (xa,xb,xm))):=by rw [←Xw];exact hF 13 (by decide)
    have e3:a.tmps[3]?.getD undef= .pointer (some ⟨w1.heap.size,0,none⟩):=hB.2.2 3 rfl
    refine ⟨rfl,_,_,by simp [go_sem,e13,e3];exact ⟨rfl,rfl⟩,?_⟩
    have hl3:=RS (x:=(xa,xb,xm)) ⟨⟨hxa,hxb⟩,hxm⟩
    refine (DQ w1.heap.size w1.heap.size _ _ wx (Ho FL I) (by rw [Lib.byteCells_length,cu];omega) (by have:=I.size;simp at this;omega)).mono ?_
    rintro e w6 ⟨rfl,F6,h6⟩
    refine ⟨_,rfl,?_⟩
    have b6:=(bG I HL (by omega)).trans h6
    rw [Lib.strCells_eq,kG,←Lib.byteCells_append,←HA.out] at F6
    have HF6:=Lib.hid F6
    have HB6:=Lib.hid b6
    rw [TQ hB]
    simp only [List.foldl]
    generalize sl a 20=v20
    generalize sl a 21=v21
    generalize sl a 22=v22
    generalize sl a 23=v23
    generalize sl a 24=v24
    generalize sl a 25=v25
    generalize sl a 26=v26
    generalize sl a 27=v27
    generalize sl a 28=v28
    generalize sl a 29=v29
    generalize sl a 30=v30
    generalize sl a 31=v31
    generalize sl a 32=v32
    generalize sl a 33=v33
    generalize sl a 34=v34
    clear hB hF e13 e3 F6 b6 h6 I BL FL bL HL g0 g1 g2 br HF HB
    go_simp
    go_wp2
    go_roundw
    case rel=>exact ⟨k+1,hlt,by go_num,HF6,HB6⟩
    case measure=>simp [intOf];omega
  ·obtain rfl:k=ls.length:=by omega
   have HF':=HF.out
   rw [TK] at HF'
   have b4:Below w.heap.size w wr:=b3.trans (HB.out.mono s1)
   have zw:w1.heap.size≤wr.heap.size:=by have:=HB.out.size;omega
   go_wp2_with fail
   refine (Tryz.Builder_String_any_k w1.heap.size w1.heap.size _ wr HF' zw).mono ?_
   rintro e w7 ⟨rfl,_,h7,_⟩
   have b7:=b4.trans (h7.mono s1)
   clear h7 HF' HF HB
   go_wp2
   exact bodyPost_ret (v:=.string (bf (Po b ls))) (by simp [results,Tryz.results42,go_sem, *];rfl) rfl ⟨rfl,b7⟩
theorem Ms {own:Bool} (co:CallOk Tryz.prog 42) (hN:bu Tryz.prog ⟨100,[.g [.int .i64,.sl .ro 77 OX]],[.o .b],own,fun x=>aM x.1 x.2⟩):bu Tryz.prog ⟨42,[.g [.int .i64,.sl .ro 77 OX]],[.o .s],false,fun x=>ca x.1 x.2⟩:=⟨co,fun x res hm e w0 w X hbs hp hS=>by
 obtain ⟨b,ls⟩:=x
 have hm:ca b ls=some res:=hm
 obtain ⟨v0,r0,q0,l0,p1⟩:=hp
 obtain ⟨v1,r1,q1,l1,p2⟩:=p1
 replace q1:=(List.tail_eq_of_cons_eq q0).trans q1
 obtain ⟨z1,m1,hro1⟩:=l1
 replace m1:=(List.head_eq_of_cons_eq q1).trans m1
 injection m1 with _ m1
 subst m1
 have R:Rc w 3 (e.a 1) ls.length (e.c 1) (ls.flatMap OX.enc):=hro1 w _ hS (fun y hy=>List.mem_append_right _ hy)
 have hbs1:=yD hbs hS.below
 have key:Calls Tryz.prog 42 #[.agg #[.int .i64 b,.slice (e.a 1) ls.length (e.c 1)]] w (LV w res):=by
  unfold ca at hm
  obtain ⟨p,hp,hm⟩:=uq hm
  cases p with
  |false=>
   injection hm with hm
   subst hm
   exact Tl hN hbs1 R hp
  |true=>
   obtain ⟨hb,hm⟩:=cP hm
   injection hm with hm
   subst hm
   exact Vx hN hbs1 R hp hb
 refine Calls.mono key ?_
 rintro en w' ⟨rfl,hb⟩
 exact ⟨[_],[],rfl,⟨[_],[],[],[],[],[],rfl,rfl,⟨_,[],_,[],[],[],rfl,rfl,rfl,⟨_,rfl,rfl,rfl⟩,rfl,rfl,rfl⟩,⟨rfl,rfl⟩,⟨[],[],[],[],rfl,rfl,⟨rfl,rfl⟩,⟨rfl,rfl⟩⟩⟩,hS.quiet hb⟩⟩
theorem Nn {x0:Value} {w:World} (h0:x0.cells= #[x0]):(Instr.build 117 [(0,x0)].toArray).run Tryz.prog w= .ok (.agg #[x0,.int .i64 0]) w:=by unfold Value.cells at h0;simp [go_sem,h0]
theorem abQ:CallOk Tryz.prog 10:=⟨by kernel_rfl⟩
theorem YJ:CallOk Tryz.prog 100:=⟨by kernel_rfl⟩
theorem YK:CallOk Tryz.prog 101:=⟨by kernel_rfl⟩
theorem YL:CallOk Tryz.prog 103:=⟨by kernel_rfl⟩
theorem YM:CallOk Tryz.prog 105:=⟨by kernel_rfl⟩
theorem YN:CallOk Tryz.prog 106:=⟨by kernel_rfl⟩
theorem YO:CallOk Tryz.prog 107:=⟨by kernel_rfl⟩
theorem YP:CallOk Tryz.prog 108:=⟨by kernel_rfl⟩
theorem YQ:CallOk Tryz.prog 109:=⟨by kernel_rfl⟩
theorem YR:CallOk Tryz.prog 110:=⟨by kernel_rfl⟩
theorem YS:CallOk Tryz.prog 111:=⟨by kernel_rfl⟩
theorem YT:CallOk Tryz.prog 112:=⟨by kernel_rfl⟩
theorem YU:CallOk Tryz.prog 113:=⟨by kernel_rfl⟩
theorem YV:CallOk Tryz.prog 114:=⟨by kernel_rfl⟩
theorem YW:CallOk Tryz.prog 115:=⟨by kernel_rfl⟩
theorem YX:CallOk Tryz.prog 116:=⟨by kernel_rfl⟩
theorem YY:CallOk Tryz.prog 118:=⟨by kernel_rfl⟩
theorem YZ:CallOk Tryz.prog 119:=⟨by kernel_rfl⟩
theorem abR:CallOk Tryz.prog 12:=⟨by kernel_rfl⟩
theorem Za:CallOk Tryz.prog 120:=⟨by kernel_rfl⟩
theorem Zb:CallOk Tryz.prog 121:=⟨by kernel_rfl⟩
theorem Zc:CallOk Tryz.prog 122:=⟨by kernel_rfl⟩
theorem Zd:CallOk Tryz.prog 123:=⟨by kernel_rfl⟩
theorem Ze:CallOk Tryz.prog 124:=⟨by kernel_rfl⟩
theorem Zf:CallOk Tryz.prog 125:=⟨by kernel_rfl⟩
theorem Zg:CallOk Tryz.prog 126:=⟨by kernel_rfl⟩
theorem Zh:CallOk Tryz.prog 127:=⟨by kernel_rfl⟩
theorem Zi:CallOk Tryz.prog 128:=⟨by kernel_rfl⟩
theorem Zj:CallOk Tryz.prog 129:=⟨by kernel_rfl⟩
theorem Zk:CallOk Tryz.prog 130:=⟨by kernel_rfl⟩
theorem Zl:CallOk Tryz.prog 131:=⟨by kernel_rfl⟩
theorem Zm:CallOk Tryz.prog 132:=⟨by kernel_rfl⟩
theorem Zn:CallOk Tryz.prog 133:=⟨by kernel_rfl⟩
theorem Zo:CallOk Tryz.prog 134:=⟨by kernel_rfl⟩
theorem Zp:CallOk Tryz.prog 135:=⟨by kernel_rfl⟩
theorem Zq:CallOk Tryz.prog 136:=⟨by kernel_rfl⟩
theorem Zr:CallOk Tryz.prog 137:=⟨by kernel_rfl⟩
theorem Zs:CallOk Tryz.prog 138:=⟨by kernel_rfl⟩
theorem Zt:CallOk Tryz.prog 139:=⟨by kernel_rfl⟩
theorem abS:CallOk Tryz.prog 14:=⟨by kernel_rfl⟩
theorem Zu:CallOk Tryz.prog 140:=⟨by kernel_rfl⟩
theorem Zv:CallOk Tryz.prog 141:=⟨by kernel_rfl⟩
theorem Zw:CallOk Tryz.prog 142:=⟨by kernel_rfl⟩
theorem Zx:CallOk Tryz.prog 143:=⟨by kernel_rfl⟩
theorem Zy:CallOk Tryz.prog 144:=⟨by kernel_rfl⟩
theorem abT:CallOk Tryz.prog 15:=⟨by kernel_rfl⟩
theorem abU:CallOk Tryz.prog 16:=⟨by kernel_rfl⟩
theorem Zz:CallOk Tryz.prog 162:=⟨by kernel_rfl⟩
theorem ZA:CallOk Tryz.prog 163:=⟨by kernel_rfl⟩
theorem ZB:CallOk Tryz.prog 164:=⟨by kernel_rfl⟩
theorem ZC:CallOk Tryz.prog 165:=⟨by kernel_rfl⟩
theorem ZD:CallOk Tryz.prog 168:=⟨by kernel_rfl⟩
theorem ZE:CallOk Tryz.prog 169:=⟨by kernel_rfl⟩
theorem abV:CallOk Tryz.prog 17:=⟨by kernel_rfl⟩
theorem ZF:CallOk Tryz.prog 170:=⟨by kernel_rfl⟩
theorem ZG:CallOk Tryz.prog 171:=⟨by kernel_rfl⟩
theorem ZH:CallOk Tryz.prog 172:=⟨by kernel_rfl⟩
theorem ZI:CallOk Tryz.prog 173:=⟨by kernel_rfl⟩
theorem ZJ:CallOk Tryz.prog 174:=⟨by kernel_rfl⟩
theorem ZK:CallOk Tryz.prog 175:=⟨by kernel_rfl⟩
theorem ZL:CallOk Tryz.prog 179:=⟨by kernel_rfl⟩
theorem abW:CallOk Tryz.prog 18:=⟨by kernel_rfl⟩
theorem ZM:CallOk Tryz.prog 180:=⟨by kernel_rfl⟩
theorem ZN:CallOk Tryz.prog 181:=⟨by kernel_rfl⟩
theorem ZO:CallOk Tryz.prog 182:=⟨by kernel_rfl⟩
theorem ZP:CallOk Tryz.prog 183:=⟨by kernel_rfl⟩
theorem ZQ:CallOk Tryz.prog 185:=⟨by kernel_rfl⟩
theorem ZR:CallOk Tryz.prog 186:=⟨by kernel_rfl⟩
theorem ZS:CallOk Tryz.prog 187:=⟨by kernel_rfl⟩
theorem ZT:CallOk Tryz.prog 188:=⟨by kernel_rfl⟩
theorem ZU:CallOk Tryz.prog 189:=⟨by kernel_rfl⟩
theorem abX:CallOk Tryz.prog 19:=⟨by kernel_rfl⟩
theorem ZV:CallOk Tryz.prog 190:=⟨by kernel_rfl⟩
theorem ZW:CallOk Tryz.prog 191:=⟨by kernel_rfl⟩
theorem ZX:CallOk Tryz.prog 192:=⟨by kernel_rfl⟩
theorem ZY:CallOk Tryz.prog 193:=⟨by kernel_rfl⟩
theorem ZZ:CallOk Tryz.prog 194:=⟨by kernel_rfl⟩
theorem aaa:CallOk Tryz.prog 195:=⟨by kernel_rfl⟩
theorem aab:CallOk Tryz.prog 200:=⟨by kernel_rfl⟩
theorem aac:CallOk Tryz.prog 201:=⟨by kernel_rfl⟩
theorem aad:CallOk Tryz.prog 204:=⟨by kernel_rfl⟩
theorem aae:CallOk Tryz.prog 205:=⟨by kernel_rfl⟩
theorem aaf:CallOk Tryz.prog 206:=⟨by kernel_rfl⟩
theorem aag:CallOk Tryz.prog 207:=⟨by kernel_rfl⟩
theorem aah:CallOk Tryz.prog 212:=⟨by kernel_rfl⟩
theorem aai:CallOk Tryz.prog 213:=⟨by kernel_rfl⟩
theorem aaj:CallOk Tryz.prog 216:=⟨by kernel_rfl⟩
theorem aak:CallOk Tryz.prog 217:=⟨by kernel_rfl⟩
theorem aal:CallOk Tryz.prog 219:=⟨by kernel_rfl⟩
theorem aam:CallOk Tryz.prog 220:=⟨by kernel_rfl⟩
theorem aan:CallOk Tryz.prog 221:=⟨by kernel_rfl⟩
theorem aao:CallOk Tryz.prog 222:=⟨by kernel_rfl⟩
theorem aap:CallOk Tryz.prog 232:=⟨by kernel_rfl⟩
theorem aaq:CallOk Tryz.prog 234:=⟨by kernel_rfl⟩
theorem aar:CallOk Tryz.prog 236:=⟨by kernel_rfl⟩
theorem aas:CallOk Tryz.prog 237:=⟨by kernel_rfl⟩
theorem aat:CallOk Tryz.prog 238:=⟨by kernel_rfl⟩
theorem aau:CallOk Tryz.prog 239:=⟨by kernel_rfl⟩
theorem aav:CallOk Tryz.prog 248:=⟨by kernel_rfl⟩
theorem aaw:CallOk Tryz.prog 251:=⟨by kernel_rfl⟩
theorem abY:CallOk Tryz.prog 33:=⟨by kernel_rfl⟩
theorem abZ:CallOk Tryz.prog 34:=⟨by kernel_rfl⟩
theorem ab0:CallOk Tryz.prog 35:=⟨by kernel_rfl⟩
theorem ab1:CallOk Tryz.prog 36:=⟨by kernel_rfl⟩
theorem ab2:CallOk Tryz.prog 37:=⟨by kernel_rfl⟩
theorem ab3:CallOk Tryz.prog 38:=⟨by kernel_rfl⟩
theorem ab4:CallOk Tryz.prog 39:=⟨by kernel_rfl⟩
theorem ab5:CallOk Tryz.prog 40:=⟨by kernel_rfl⟩
theorem ab6:CallOk Tryz.prog 41:=⟨by kernel_rfl⟩
theorem ab7:CallOk Tryz.prog 42:=⟨by kernel_rfl⟩
theorem ab8:CallOk Tryz.prog 43:=⟨by kernel_rfl⟩
theorem ab9:CallOk Tryz.prog 44:=⟨by kernel_rfl⟩
theorem aca:CallOk Tryz.prog 45:=⟨by kernel_rfl⟩
theorem acb:CallOk Tryz.prog 46:=⟨by kernel_rfl⟩
theorem acd:CallOk Tryz.prog 47:=⟨by kernel_rfl⟩
theorem ace:CallOk Tryz.prog 48:=⟨by kernel_rfl⟩
theorem acf:CallOk Tryz.prog 49:=⟨by kernel_rfl⟩
theorem acg:CallOk Tryz.prog 50:=⟨by kernel_rfl⟩
theorem ach:CallOk Tryz.prog 51:=⟨by kernel_rfl⟩
theorem aci:CallOk Tryz.prog 52:=⟨by kernel_rfl⟩
theorem acj:CallOk Tryz.prog 53:=⟨by kernel_rfl⟩
theorem ack:CallOk Tryz.prog 54:=⟨by kernel_rfl⟩
theorem acl:CallOk Tryz.prog 55:=⟨by kernel_rfl⟩
theorem acm:CallOk Tryz.prog 56:=⟨by kernel_rfl⟩
theorem acn:CallOk Tryz.prog 57:=⟨by kernel_rfl⟩
theorem aco:CallOk Tryz.prog 58:=⟨by kernel_rfl⟩
theorem acp:CallOk Tryz.prog 59:=⟨by kernel_rfl⟩
theorem acq:CallOk Tryz.prog 60:=⟨by kernel_rfl⟩
theorem acr:CallOk Tryz.prog 61:=⟨by kernel_rfl⟩
theorem aax:CallOk Tryz.prog 62:=⟨by kernel_rfl⟩
theorem acs:CallOk Tryz.prog 63:=⟨by kernel_rfl⟩
theorem act:CallOk Tryz.prog 64:=⟨by kernel_rfl⟩
theorem acu:CallOk Tryz.prog 65:=⟨by kernel_rfl⟩
theorem acv:CallOk Tryz.prog 66:=⟨by kernel_rfl⟩
theorem acw:CallOk Tryz.prog 67:=⟨by kernel_rfl⟩
theorem acx:CallOk Tryz.prog 68:=⟨by kernel_rfl⟩
theorem acy:CallOk Tryz.prog 69:=⟨by kernel_rfl⟩
theorem acz:CallOk Tryz.prog 70:=⟨by kernel_rfl⟩
theorem acA:CallOk Tryz.prog 71:=⟨by kernel_rfl⟩
theorem co9:CallOk Tryz.prog 9:=⟨by kernel_rfl⟩
theorem acB:CallOk Tryz.prog 93:=⟨by kernel_rfl⟩
theorem acC:CallOk Tryz.prog 94:=⟨by kernel_rfl⟩
theorem acD:CallOk Tryz.prog 95:=⟨by kernel_rfl⟩
theorem acE:CallOk Tryz.prog 96:=⟨by kernel_rfl⟩
theorem acF:CallOk Tryz.prog 97:=⟨by kernel_rfl⟩
theorem acG:CallOk Tryz.prog 98:=⟨by kernel_rfl⟩
theorem acH:CallOk Tryz.prog 99:=⟨by kernel_rfl⟩
theorem Xm:(Tryz.prog.info? 122).map (fun i=>(i.zero,i.size,i.bytes))=some (some (.agg #[.int .i64 0,.int .i64 0]),2,16):=by kernel_rfl
theorem RD:(Tryz.prog.info? 125).map (fun i=>(i.zero,i.size,i.bytes))=some (some (.agg #[.int .i64 0,.int .i64 0]),2,16):=by kernel_rfl
theorem aa5:(Tryz.prog.info? 3).map (fun i=>(i.zero,i.size,i.bytes))=some (some (.int .i64 0),1,8):=by kernel_rfl
theorem acP:(Tryz.prog.info? 4).map (fun i=>(i.zero,i.size,i.bytes))=some (some (.bool false),1,1):=by kernel_rfl
theorem aa6:(Tryz.prog.info? 77).map (fun i=>(i.zero,i.size,i.bytes))=some (some (.agg #[.int .i64 0,.int .i64 0,.int .i64 0]),3,24):=by kernel_rfl
theorem abK:(Tryz.prog.info? 122).map (·.size)=some 2:=by kernel_rfl
theorem Ic:(Tryz.prog.info? 125).map (·.size)=some 2:=by kernel_rfl
theorem YE:(Tryz.prog.info? 3).map (·.size)=some 1:=by kernel_rfl
theorem sz4:(Tryz.prog.info? 4).map (·.size)=some 1:=by kernel_rfl
theorem sz5:(Tryz.prog.info? 5).map (·.size)=some 1:=by kernel_rfl
theorem acX:(Tryz.prog.info? 77).map (·.size)=some 3:=by kernel_rfl
theorem aaC:Tryz.prog.eqGuardType Tryz.prog.depth 122=false:=by kernel_rfl
theorem aaE {a0 b0:Int} {a1 b1:Int} {w:World}:(Op.equalIn 10000 122 (.agg #[.int .i64 a0,.int .i64 a1]) (.agg #[.int .i64 b0,.int .i64 b1])).run Tryz.prog w= .ok ((a0==b0)&&(a1==b1)) w:=by
 simp [go_sem]
 (repeat' split)<;>simp_all
theorem aaD:Tryz.prog.eqGuardType Tryz.prog.depth 125=false:=by kernel_rfl
theorem aaF {a0 b0:Int} {a1 b1:Int} {w:World}:(Op.equalIn 10000 125 (.agg #[.int .i64 a0,.int .i64 a1]) (.agg #[.int .i64 b0,.int .i64 b1])).run Tryz.prog w= .ok ((a0==b0)&&(a1==b1)) w:=by
 simp [go_sem]
 (repeat' split)<;>simp_all
theorem acI:Tryz.prog.eqGuardType Tryz.prog.depth 77=false:=by kernel_rfl
theorem acJ {a0 b0:Int} {a1 b1:Int} {a2 b2:Int} {w:World}:(Op.equalIn 10000 77 (.agg #[.int .i64 a0,.int .i64 a1,.int .i64 a2]) (.agg #[.int .i64 b0,.int .i64 b1,.int .i64 b2])).run Tryz.prog w= .ok ((a0==b0)&&(a1==b1)&&(a2==b2)) w:=by
 simp [go_sem]
 (repeat' split)<;>simp_all
noncomputable section
def tys:List (Nat×TyI):=[(3,⟨.int .i64,1,8,[.int .i64 0],(.int .i64)⟩),(4,⟨.bo,1,1,[.bool false],.b⟩),(5,⟨.int .u8,1,1,[.int .u8 0],(.int .u8)⟩),(9,⟨.st,1,16,[.str ByteArray.empty],.s⟩),(22,⟨.sl 5,1,24,[.ns],.b⟩),(23,⟨.sl 77,1,24,[.ns],.b⟩),(25,⟨.ag [(0,1),(1,1)],2,32,[.int .i64 0,.ns],.b⟩),(26,⟨.sl 122,1,24,[.ns],.b⟩),(27,⟨.sl 4,1,24,[.ns],.b⟩),(28,⟨.sl 125,1,24,[.ns],.b⟩),(30,⟨.ag [(0,1),(1,1),(2,1)],3,72,[.ns,.ns,.ns],.b⟩),(31,⟨.sl 3,1,24,[.ns],.b⟩),(33,⟨.ag [(0,2),(2,1),(3,3),(6,1)],7,152,[.int .i64 0,.ns,.ns,.ns,.ns,.ns,.ns],.b⟩),(34,⟨.sl 9,1,24,[.ns],.b⟩),(49,⟨.sl 210,1,24,[.ns],.b⟩),(51,⟨.ag [(0,1),(1,1)],2,32,[.int .i64 0,.ns],.b⟩),(52,⟨.sl 185,1,24,[.ns],.b⟩),(53,⟨.sl 212,1,24,[.ns],.b⟩),(55,⟨.ag [(0,1),(1,1),(2,1)],3,72,[.ns,.ns,.ns],.b⟩),(57,⟨.ag [(0,2),(2,1),(3,3),(6,1)],7,152,[.int .i64 0,.ns,.ns,.ns,.ns,.ns,.ns],.b⟩),(65,⟨.ot,1,8,[.np],.b⟩),(77,⟨.ag [(0,1),(1,1),(2,1)],3,24,[.int .i64 0,.int .i64 0,.int .i64 0],(.p (.int .i64) (.p (.int .i64) (.int .i64)))⟩),(82,⟨.sl 86,1,24,[.ns],.b⟩),(86,⟨.ag [(0,1),(1,1),(2,1)],3,24,[.int .i64 0,.int .i64 0,.int .i64 0],(.p (.int .i64) (.p (.int .i64) (.int .i64)))⟩),(117,⟨.ag [(0,1),(1,1)],2,32,[.ns,.int .i64 0],.b⟩),(122,⟨.ag [(0,1),(1,1)],2,16,[.int .i64 0,.int .i64 0],(.p (.int .i64) (.int .i64))⟩),(125,⟨.ag [(0,1),(1,1)],2,16,[.int .i64 0,.int .i64 0],(.p (.int .i64) (.int .i64))⟩),(140,⟨.ar 8 3,8,64,[.int .i64 0,.int .i64 0,.int .i64 0,.int .i64 0,.int .i64 0,.int .i64 0,.int .i64 0,.int .i64 0],.b⟩),(142,⟨.ag [(0,8),(8,8)],16,128,[.int .i64 0,.int .i64 0,.int .i64 0,.int .i64 0,.int .i64 0,.int .i64 0,.int .i64 0,.int .i64 0,.int .i64 0,.int .i64 0,.int .i64 0,.int .i64 0,.int .i64 0,.int .i64 0,.int .i64 0,.int .i64 0],(.p (.int .i64) (.p (.int .i64) (.p (.int .i64) (.p (.int .i64) (.p (.int .i64) (.p (.int .i64) (.p (.int .i64) (.p (.int .i64) (.p (.int .i64) (.p (.int .i64) (.p (.int .i64) (.p (.int .i64) (.p (.int .i64) (.p (.int .i64) (.p (.int .i64) (.int .i64))))))))))))))))⟩),(145,⟨.ag [(0,2),(2,1),(3,1),(4,1)],5,104,[.int .i64 0,.ns,.ns,.ns,.ns],.b⟩),(151,⟨.ar 3 3,3,24,[.int .i64 0,.int .i64 0,.int .i64 0],.b⟩),(153,⟨.sl 157,1,24,[.ns],.b⟩),(157,⟨.ag [(0,1),(1,1)],2,16,[.int .i64 0,.bool false],(.p (.int .i64) .b)⟩),(185,⟨.ag [(0,1),(1,1)],2,16,[.int .i64 0,.int .i64 0],(.p (.int .i64) (.int .i64))⟩),(195,⟨.sl 3,1,24,[.ns],.b⟩),(210,⟨.ag [(0,1),(1,1),(2,1)],3,24,[.int .i64 0,.int .i64 0,.int .i64 0],(.p (.int .i64) (.p (.int .i64) (.int .i64)))⟩),(212,⟨.ag [(0,1),(1,1)],2,16,[.int .i64 0,.int .i64 0],(.p (.int .i64) (.int .i64))⟩),(227,⟨.int .u64,1,8,[.int .u64 0],.b⟩)]
theorem Yr:LI Tryz.prog tys=true:=by kernel_rfl
def eqt:List (Nat×EK):=[(77,(.p (.int .i64) (.p (.int .i64) (.int .i64)))),(122,(.p (.int .i64) (.int .i64))),(125,(.p (.int .i64) (.int .i64)))]
theorem Fa {x0:List Int} {A0:Option Addr} {n0 c0:Nat} {w:World} (h0:Rt w 1 eU A0 n0 c0 x0):
 Calls Tryz.prog 32 #[.slice A0 n0 c0] w (fun e w'=> ∃G0,e= .returned (.pointer (some ⟨G0,0,none⟩))∧St w w' [.box G0 117 #[.slice (YB c0 n0 A0) (x0.take 2000).length c0,.int .i64 0]]):=by
 obtain rfl:=h0.len
 refine oW Tryz.func32 Tryz.ntmps32 rfl [(0,.slice A0 x0.length c0)] ⟨rfl,trivial⟩ rfl ?_
 intro a hF
 have S:=St.nil w
 refine wp_seq ?_
 refine wp_region_lit ?_
 refine ax (v:=.pointer none) rfl rfl hF rfl (aF rfl rfl) ?_;clear hF;intro a hF
 refine wpList_nil ?_
 refine wp_seq ?_
 refine wp_seq ?_
 refine wp_region_lit ?_
 refine ax (v:=.slice A0 x0.length c0) rfl rfl hF rfl (aB rfl (hF.ev rfl)) ?_;clear hF;intro a hF
 refine ax (v:=.int .i64 (x0.length:Int)) rfl rfl hF rfl (kV rfl rfl Tryz.underlying22 (hF.ev rfl)) ?_;clear hF;intro a hF
 refine ax (v:=.bool (aw 2000 (x0.length:Int))) rfl rfl hF rfl (OC (hF.ev rfl) rfl rfl) ?_;clear hF;intro a hF
 refine wpList_nil ?_
 cases hc101:(aw 2000 (x0.length:Int))
 ·have hc101_:=hc101
  refine vF hF rfl hc101 ?_
  refine wp_skip ?_
  refine wp_seq ?_
  refine wp_region_lit ?_
  refine ax (v:=.slice A0 x0.length c0) rfl rfl hF rfl (aB rfl (hF.ev rfl)) ?_;clear hF;intro a hF
  refine ax (v:=.agg #[.slice A0 x0.length c0,.int .i64 0]) rfl rfl hF rfl (HZ (vs:=[(0,.slice A0 x0.length c0)]) rfl ⟨⟨rfl,(hF.ev rfl)⟩,trivial⟩ (Nn rfl)) ?_;clear hF;intro a hF
  refine Sf (cs:= #[.slice A0 x0.length c0,.int .i64 0]) rfl rfl hF rfl S (Ji rfl (hF.ev rfl) rfl) ?_;clear hF S;intro a g102 u hF S
  refine ax (v:=.pointer (some ⟨g102,0,none⟩)) rfl rfl hF rfl (aF rfl (hF.ev rfl)) ?_;clear hF;intro a hF
  refine wpList_nil ?_
  refine wp_ret ?_
  repeat with_reducible (first |refine er ?_ |refine lP ?_ |refine lO ?_)
  refine iu (.inl rfl) hF rfl (gL (hF.ev rfl)) ?_
  have q1:=KG hc101
  rw [YB,if_neg (by omega),List.take_of_length_le (by omega)]
  exact ⟨g102,rfl,S.sel [0] rfl rfl⟩
 ·have hc101_:=hc101
  refine vG hF rfl hc101 ?_
  refine wp_region_lit ?_
  refine ax (v:=.slice A0 x0.length c0) rfl rfl hF rfl (aB rfl (hF.ev rfl)) ?_;clear hF;intro a hF
  have hk103:=pB (show wR 0 2000 x0.length=true by have:=DO hc101;simp [wR];omega)
  refine ax (v:=.slice (bS c0 ((0:Int).toNat) 1 A0) ((aj x0 0 2000).length) (c0-(0:Int).toNat)) rfl rfl hF rfl (uH (l:=x0) rfl Tryz.underlying22 sz5 (hF.ev rfl) rfl hk103 rfl (S.rc0 h0.rc).cap) ?_;clear hF;intro a hF
  refine ax (v:=.slice (bS c0 ((0:Int).toNat) 1 A0) ((aj x0 0 2000).length) (c0-(0:Int).toNat)) rfl rfl hF rfl (aF rfl (hF.ev rfl)) ?_;clear hF;intro a hF
  refine wpList_nil ?_
  refine wp_seq ?_
  refine wp_region_lit ?_
  refine ax (v:=.slice (bS c0 ((0:Int).toNat) 1 A0) ((aj x0 0 2000).length) (c0-(0:Int).toNat)) rfl rfl hF rfl (aB rfl (hF.ev rfl)) ?_;clear hF;intro a hF
  refine ax (v:=.agg #[.slice (bS c0 ((0:Int).toNat) 1 A0) ((aj x0 0 2000).length) (c0-(0:Int).toNat),.int .i64 0]) rfl rfl hF rfl (HZ (vs:=[(0,.slice (bS c0 ((0:Int).toNat) 1 A0) ((aj x0 0 2000).length) (c0-(0:Int).toNat))]) rfl ⟨⟨rfl,(hF.ev rfl)⟩,trivial⟩ (Nn rfl)) ?_;clear hF;intro a hF
  refine Sf (cs:= #[.slice (bS c0 ((0:Int).toNat) 1 A0) ((aj x0 0 2000).length) (c0-(0:Int).toNat),.int .i64 0]) rfl rfl hF rfl S (Ji rfl (hF.ev rfl) rfl) ?_;clear hF S;intro a g104 u hF S
  refine ax (v:=.pointer (some ⟨g104,0,none⟩)) rfl rfl hF rfl (aF rfl (hF.ev rfl)) ?_;clear hF;intro a hF
  refine wpList_nil ?_
  refine wp_ret ?_
  repeat with_reducible (first |refine er ?_ |refine lP ?_ |refine lO ?_)
  refine iu (.inl rfl) hF rfl (gL (hF.ev rfl)) ?_
  have q1:=DO hc101
  rw [YB,if_pos (by omega),Tj]
  exact ⟨g104,rfl,S.sel [0] rfl rfl⟩
def opn:List (Nat×Nat):=[(32,117)]
theorem XH:JK Tryz.prog opn:=⟨UW ⟨by kernel_rfl⟩ Fa,trivial⟩
theorem WQ:TH Tryz.prog eqt:=⟨⟨acI,fun w x y=>acJ⟩,⟨aaC,fun w x y=>aaE⟩,⟨aaD,fun w x y=>aaF⟩,trivial⟩
theorem ck {c:Ctr} {fn:Func} {body:Code} {n:Nat} (cs:List Ctr) (rv:List ResultVar) (crt:Crt) (hcs:TE Tryz.prog cs) (hco:CallOk Tryz.prog c.f) (hf:Tryz.prog.funcs[c.f]?=some fn) (hn:fn.ntmps=n) (hb:fn.body=some body) (hr:fn.results=rv.toArray) (hal:(c.rs.flatMap RSh.ks).all (alK (mH c.ps))=true) (he: ∀x,c.m x=exF ⟨tys,eqt,cs,opn⟩ ⟨c.ps,c.rs,rv,n⟩ crt body x):bu Tryz.prog c:=cok (op:=opn) Yr WQ rfl hcs XH hco hf hb hn hr hal he
abbrev Aa:EK:=.int .i64
abbrev Ab:P1:=.o .k
abbrev Ac:Crt:=.q .z .z
abbrev Ak:PK:=.int .i64
abbrev Ah:EK:=.p Aa Aa
abbrev AS:EK:=.p Aa Ah
abbrev Bz:PK:=.sl .ro 77 AS
abbrev Al:PK:=.sl .ro 4 .b
abbrev Bq:PK:=.sl .ro 125 Ah
abbrev AE:PK:=.sl .ro 3 Aa
abbrev Ad:Prm:=.g [Ak,Bz,.sl .ro 122 Ah,Al,Al,Bq,AE]
abbrev Ae:Prm:=.g [Ak,Bz]
abbrev BP:Crt:=.q Ac .z
abbrev Af:Crt:=.q .z BP
abbrev AD:P0:=.i .i64
abbrev Ag:P1:=.o AD
abbrev AA:RK:=.int .i64
abbrev AY:RK:=.row 4 .b
abbrev BT:RK:=.row 125 Ah
abbrev CE:RK:=.row 3 Aa
abbrev Ai:RSh:=.g [AA,.row 77 AS,.row 122 Ah,AY,AY,BT,CE]
abbrev Aj:List P0:=[.k,.k,.k,.k,.k,.k,.k]
abbrev Am:Crt:=.q .z Ac
abbrev Ao:Prm:=.o (.sl .ro 122 Ah)
abbrev Ce:P0:=.r 122 Ah
abbrev AT:P0:=.r 4 .b
abbrev CS:P0:=.r 125 Ah
abbrev Au:P0:=.r 3 Aa
abbrev Ap:List P0:=[AD,.r 77 AS,Ce,AT,AT,CS,Au]
abbrev Aq:Nat×P1:=(4,Ab)
abbrev As:Nat×P1:=(1,Ab)
abbrev Av:Nat×P1:=(2,Ab)
abbrev Aw:P1:=.o (.r 86 AS)
abbrev Bt:Shp:=⟨[Aq],[],[]⟩
abbrev BR:List Alt:=[.rt]
abbrev AV:Nat×P1:=(0,Ab)
abbrev Bd:Crt:=.q Am (.q (.b Af) .z)
abbrev Az:Crt:=.q (.q .z (.cut Bt BR (.b (.lp ⟨[AV,As,Aq,(5,Ag)],[],[]⟩ Bd)))) Ac
abbrev AB:List P0:=[.k,.k]
abbrev AC:Nat×P1:=(6,Ab)
abbrev AF:Prm:=.o Ak
abbrev AW:Nat×P1:=(5,Ab)
abbrev By:List P0:=[.k,.k,.k,.k,.k,.k,Au]
abbrev BN:Nat×List P0:=(4,Aj)
abbrev AG:Crt:=.q .z (.q .z (.q .z (.q (.q .z (.cut ⟨[Aq,AW],[(5,By),BN],[]⟩ [] (.b (.lp ⟨[As,Av,Aq,AW,(6,Ag)],[(5,By),BN,(2,Aj)],[]⟩ (.q Am (.q (.b (.q .z (.cut ⟨[As,Av,Aq,AW,AC],[(5,By),BN,(2,Aj)],[]⟩ [] Ac))) .z)))))) Ac)))
abbrev AH:RSh:=.o .b
abbrev AI:Prm:=.g [Al,Al,Bq]
abbrev Cq:Crt:=.q (.b (.q .z Af)) .z
abbrev AJ:Crt:=.q .z (.q Ac Cq)
abbrev Cp:P0:=.w 3 Aa
abbrev AK:P1:=.o Cp
abbrev AL:RSh:=.o CE
abbrev AM:P1:=.o (.r 157 (.p Aa .b))
abbrev AN:Prm:=.o Al
abbrev AO:List P0:=[.k,.k,.k,.k,.k,.k,.k,.k,.k,.k,.k,.k,.k,.k,.k,.k]
abbrev AP:List P0:=[.k,.k,.k]
abbrev AQ:P1:=.o Au
abbrev AR:Nat×P1:=(8,Ab)
abbrev AU:Nat×P1:=(3,Ab)
abbrev Cs:PK:=.sl .ro 5 (.int .u8)
abbrev AX:Prm:=.bx 117 [Cs,Ak]
abbrev CM:Nat×P1:=(9,Ag)
abbrev Cc:Nat×P1:=(10,Ab)
abbrev BE:Crt:=.q Am (.q (.b .z) .z)
abbrev AZ:Crt:=.q .z (.q Af (.q .z (.q .z (.q (.q .z (.cut ⟨[AR,CM],[],[]⟩ [] (.b (.lp ⟨[Av,AR,CM,Cc,(11,Ag)],[],[]⟩ BE)))) Ac))))
abbrev Bg:Nat×P1:=(7,Ab)
abbrev BY:P1:=.o AT
abbrev Cj:Nat×List P0:=(4096,AB)
abbrev Ci:Nat×List P0:=(4,AB)
abbrev Ba:Shp:=⟨[Aq,AW,AC,Bg,(8,BY),(9,.o Ce)],[Cj,(7,AB),Ci],[]⟩
abbrev Bb:List (Nat×List P0):=[(3,AB)]
abbrev Bc:P0:=.w 4 .b
abbrev Be:Crt:=.q .z (.q Ac (.q (.b Ac) .z))
abbrev Bf:Nat×List P0:=(4096,[.k,AD])
abbrev Bh:Crt:=.q .z (.q Ac Af)
abbrev Cw:Crt:=.q Af Ac
abbrev Bi:Crt:=.q .z Cw
abbrev CC:Nat×P1:=(8,Ag)
abbrev Bj:Crt:=.b (.lp ⟨[As,Av,AU,AC,(7,AQ),CC],Bb,[]⟩ (.q Am (.q (.b (.q .z (.cut ⟨[As,Av,AU,AC,(7,AQ),AR],Bb,[]⟩ [] Ac))) .z)))
abbrev Bl:List Prm:=[Ae,AN,Ao]
abbrev Bm:RSh:=.o AA
abbrev Bn:List P0:=[.k,.k,.k,.k,.k]
abbrev Bo:List (Nat×List P0):=[(4096,[.k,.k,Cp,Cp,Au])]
abbrev Bp:Nat×P1:=(9,Ab)
abbrev Bu:Crt:=.q .z (.q Ac (.q .z (.q Ac (.q .z (.q Ac Bh)))))
abbrev Bv:Shp:=⟨[Aq,AW,AC],[(6,[Bc,Bc,CS]),(4,AP)],[]⟩
abbrev Bw:Shp:=⟨[Aq,AW,AC],[(6,[.k,Bc,CS]),(4,AP)],[]⟩
abbrev Bx:Shp:=⟨[Aq,AW,AC],[(6,[.k,.k,CS]),(4,AP)],[]⟩
abbrev BA:Prm:=.g [Ak,Ak,Ak]
abbrev BB:List (Nat×List P0):=[Bf,(7,[.k,.r 77 AS]),Ci]
abbrev BC:List (Nat×List P0):=[(1,Aj)]
abbrev BF:List RSh:=[AH]
abbrev BG:Shp:=⟨[As,Av,Aq,AR,Bp,Cc,(13,.z 4 .b),(14,Ag),(15,Ag),(42,Ab),(43,Ab)],[Ci],[]⟩
abbrev CN:Nat×P1:=(5,AQ)
abbrev BH:Shp:=⟨[Aq,CN],[],[]⟩
abbrev BX:P1:=.o .b
abbrev BI:Crt:=.q Ac (.q .z (.q Ac (.q .z (.q (.q (.cut ⟨[(4,BX)],[],[]⟩ [] .z) .z) Bh))))
abbrev BJ:Crt:=.q .z Am
abbrev BK:Nat×P1:=(12,Ab)
abbrev BM:RSh:=.o .s
abbrev BO:PK:=.sl .mu 3 Aa
abbrev BQ:RSh:=.o (.row 157 (.p Aa .b))
abbrev BS:Nat×P1:=(7,Ag)
abbrev BU:Nat×P1:=(3,Aw)
abbrev BV:Prm:=.o AE
abbrev BW:Nat×P1:=(13,Ab)
abbrev BZ:P1:=.o Bc
abbrev Ca:Shp:=⟨[AC,(7,AQ)],[],[]⟩
abbrev Cb:Shp:=⟨[Aq,AR],[Cj,(8,[.k,.k,.w 122 Ah,AT,AT,.k,Au]),BN],[]⟩
abbrev Cd:Prm:=.g [Ak,Bz,AE,AE,AE]
abbrev Cf:Prm:=.o (.sl .ro 9 .s)
abbrev Cg:Crt:=.q .z (.cut ⟨[AV,Av,(3,.o .s),Aq],[],[]⟩ [] Ac)
abbrev Ch:Prm:=.o .s
abbrev Ck:Crt:=.q .z (.q Af Az)
abbrev Cm:Shp:=⟨[Av,(3,.o .s)],[],[]⟩
abbrev Co:RSh:=.o (.row 86 AS)
abbrev Cr:Crt:=.q Am (.q (.b Ac) .z)
abbrev Cu:List P0:=[AD,AD,AD,AD,AD,AD,AD,AD,AD,AD,AD,AD,AD,AD,AD,AD]
abbrev Cv:P1:=.o (.w 5 (.int .u8))
abbrev Cy:Shp:=⟨[Av],[],[]⟩
abbrev Cz:RSh:=.o AY
abbrev CA:Nat×P1:=(11,Ab)
abbrev CB:RSh:=.g [AY,AY,BT]
abbrev CD:Shp:=⟨[As,Av,BU],BC,[]⟩
abbrev CF:Shp:=⟨[As,Aq,(5,AK),BK,BW,(14,Ag)],[],[]⟩
abbrev CG:Shp:=⟨[As,Aq,(5,AK),BK,BW,(14,Ab)],[],[]⟩
abbrev CH:List (Nat×List P0):=[(8,[AD,.k,Au,Au,Au]),(6,Bn)]
abbrev CI:Prm:=.o (.sl .tk 3 Aa)
abbrev CJ:Shp:=⟨[Av,BU],[],[]⟩
abbrev CK:Shp:=⟨[AV,Av,(3,.o .s),(4,Ag)],[],[]⟩
abbrev CL:List RSh:=[AL]
abbrev CO:Shp:=⟨[AV,As,Aq,AW,AC,BS,CC],[],[]⟩
abbrev CP:Shp:=⟨[Aq,AW,AC,BS],[(6,Ap),BN],[]⟩
abbrev CQ:Nat×P1:=(7,AK)
abbrev CR:List RSh:=[Bm]
def nF:Ctr:=⟨103,[AF],[BM],false,fun x=>bR x⟩
theorem qE:bu Tryz.prog nF:=Uv (YL)
def vx:Ctr:=⟨51,[Ch,Ch],[.o (.row 9 .s)],false,fun x=>fx x.1 x.2⟩
theorem Er:bu Tryz.prog vx:=Ri (ach)
def ri:Ctr:=⟨122,[Cf,Ch],[BM],false,fun x=>du x.1 x.2⟩
theorem vQ:bu Tryz.prog ri:=Uw (Zc)
def FP (n:Nat):Ctr:=⟨62,[AF],[BM],false,fun x=>dA gO n x⟩
theorem Fd: ∀n,bu Tryz.prog (FP n)
 |0=>⟨aax,fun x res h=>by cases h⟩
 |n+1=>ck [FP n] [.tmp 2] (.q .z (.q Af (.q Af Cw))) ⟨Fd n,trivial⟩ aax Tryz.func62 Tryz.ntmps62 rfl rfl rfl fun _=>by kernel_rfl
def fw:Ctr:=⟨62,[AF],[BM],false,fun x=>aS x⟩
theorem jE:bu Tryz.prog fw:=Pc (Fd 30)
def sn:Ctr:=⟨165,[Ae,AF],BF,false,fun x=>jW x.1 x.2.1 x.2.2⟩
theorem yG:bu Tryz.prog sn:=ck [] [.tmp 4] Am trivial ZC Tryz.func165 Tryz.ntmps165 rfl rfl rfl fun _=>by kernel_rfl
def md:Ctr:=⟨100,[Ae],BF,false,fun x=>aM x.1 x.2⟩
theorem ma:bu Tryz.prog md:=ck [sn] [.tmp 2] (.q .z (.q Af (.q (.q .z (.cut Cy BR (.b (.lp ⟨[As,Av,(20,Ab),(21,Ab),(22,Ag)],[(1,AB)],[]⟩ AJ)))) Ac))) ⟨yG,trivial⟩ YJ Tryz.func100 Tryz.ntmps100 rfl rfl rfl fun _=>by kernel_rfl
def vf:Ctr:=⟨179,[Ch],CR,false,fun x=>mm x⟩
theorem Ea:bu Tryz.prog vf:=ck [] [.tmp 2] (.q .z (.q Af (.q .z (.q (.q .z (.cut ⟨[Av,(3,Ag)],[],[]⟩ BR (.b (.lp ⟨[AV,Av,(3,Ag),(14,Ab),(15,Ag)],[],[]⟩ (.q .z (.q Ac (.q (.b (.q .z (.q Af .z))) .z))))))) Ac)))) trivial ZL Tryz.func179 Tryz.ntmps179 rfl rfl rfl fun _=>by kernel_rfl
def su:Ctr:=⟨118,[Ch],[Bm,AH],false,fun x=>aI x⟩
theorem rG:bu Tryz.prog su:=ck [vf,nF] [.tmp 2,.tmp 3] BJ ⟨Ea,qE,trivial⟩ YY Tryz.func118 Tryz.ntmps118 rfl rfl rfl fun _=>by kernel_rfl
def qX:Ctr:=⟨42,[Ae],[BM],false,fun x=>ca x.1 x.2⟩
theorem vJ:bu Tryz.prog qX:=Ms (ab7) ma
def vj:Ctr:=⟨52,[Cf],[.g [AA,AA,AA],AH],false,fun x=>dL x⟩
theorem Eg:bu Tryz.prog vj:=Ks (aci) rG
def dG:Ctr:=⟨34,[AX,AF],CR,true,fun x=>ac x.1 x.2.1 x.2.2⟩
theorem fy:bu Tryz.prog dG:=ck [] [.tmp 4] (.q .z (.q .z (.q Af (.q .z (.q Af BJ))))) trivial abZ Tryz.func34 Tryz.ntmps34 rfl rfl rfl fun _=>by kernel_rfl
def oB:Ctr:=⟨36,[AX,AF],BF,true,fun x=>cU x.1 x.2.1 x.2.2⟩
theorem tq:bu Tryz.prog oB:=ck [dG] [.tmp 4] (.q .z (.q (.cut ⟨[(4,BX)],[Bf],[]⟩ [] .z) .z)) ⟨fy,trivial⟩ ab1 Tryz.func36 Tryz.ntmps36 rfl rfl rfl fun _=>by kernel_rfl
def tY:Ctr:=⟨93,[AX,AF],[.g [AA,.row 77 AS],Cz,.o (.row 122 Ah)],true,fun x=>lF x.1 x.2.1 x.2.2⟩
theorem Db:bu Tryz.prog tY:=ck [dG,oB] [.cell 4 25,.tmp 5,.tmp 6] (.q .z (.q .z (.q .z (.q .z (.q .z (.q (.q .z (.cut ⟨[AV,As,Aq,AW,AC,Bg,(8,BY),(9,.o Ce)],BB,[]⟩ [] (.b (.lp ⟨[AV,As,Aq,AW,AC,Bg,(8,BY),(9,.o Ce),Cc,(11,Ag)],BB,[]⟩ (.q Am (.q (.b (.q (.q .z (.cut ⟨[AV,As,Aq,AW,AC,Bg,(8,BY),Bp,Cc,CA],BB,[]⟩ [] (.q (.q .z (.cut ⟨[AV,As,Aq,AW,AC,Bg,(8,BY),Bp,Cc,CA],[Bf,(7,AB),Ci],[]⟩ [] .z)) .z))) .z)) .z)))))) (.q (.q .z (.cut ⟨[AV,As,Aq,AW,AC,Bg,(8,BY),Bp],BB,[]⟩ [] (.b (.lp ⟨[AV,As,Aq,AW,AC,Bg,(8,BY),Bp,(12,Ag)],BB,[]⟩ (.q Am (.q (.b Am) .z)))))) (.q .z (.q (.q .z (.cut ⟨[AV,As,Aq,AW,AC,Bg,(8,BZ),(9,.o (.w 122 Ah))],[Bf,(7,AB),Ci],[]⟩ [] (.q Am .z))) (.q (.q .z (.cut ⟨[Aq,AW,AC,Bg,(8,BY),(9,.o Ce)],[Bf,(7,AB),Ci],[]⟩ [] (.q (.q .z (.b (.q .z (.cut Ba [] (.q Ac (.q .z (.cut Ba [] (.q (.q .z (.cut ⟨[Aq,AW,AC,Bg,(8,BZ),Bp],[Cj,(7,AB),Ci],[]⟩ [] (.b (.lp ⟨[Aq,AW,AC,Bg,(8,BZ),Bp,(15,Ag)],[Cj,(7,AB),Ci],[]⟩ BE)))) (.q .z (.cut Ba [] Ac)))))))))) .z))) Ac)))))))))) ⟨fy,tq,trivial⟩ acB Tryz.func93 Tryz.ntmps93 rfl rfl rfl fun _=>by kernel_rfl
def qm:Ctr:=⟨94,[AX,Ad],[.g [AA,AA,AA]],true,fun x=>ip x.1 x.2.1 x.2.2.1 x.2.2.2.1 x.2.2.2.2.1 x.2.2.2.2.2.1 x.2.2.2.2.2.2.1 x.2.2.2.2.2.2.2.1 x.2.2.2.2.2.2.2.2⟩
theorem xv:bu Tryz.prog qm:=ck [dG] [.cell 4 86] (.q .z (.q .z (.q (.q (.cut ⟨[AV,AU,Aq,AW,(40,BX)],[Bf,(5,AP),(4,AP),(3,Aj)],[]⟩ [] .z) (.q Am .z)) Ac))) ⟨fy,trivial⟩ acC Tryz.func94 Tryz.ntmps94 rfl rfl rfl fun _=>by kernel_rfl
def bF:Ctr:=⟨39,[AF,AF,AF],BF,false,fun x=>au x.1 x.2.1 x.2.2⟩
theorem bJ:bu Tryz.prog bF:=ck [] [.tmp 6] Am trivial ab4 Tryz.func39 Tryz.ntmps39 rfl rfl rfl fun _=>by kernel_rfl
def jI:Ctr:=⟨95,[Ae],BF,false,fun x=>dM x.1 x.2⟩
theorem mc:bu Tryz.prog jI:=ck [bF] [.tmp 2] (.q .z (.q Af (.q (.q .z (.cut Cy BR (.b (.lp ⟨[As,Av,(3,Ag)],[(1,AB)],[]⟩ (.q Am Cq))))) Ac))) ⟨bJ,trivial⟩ acD Tryz.func95 Tryz.ntmps95 rfl rfl rfl fun _=>by kernel_rfl
def nu:Ctr:=⟨37,[Ae,Ao],BF,false,fun x=>gf x.1 x.2.1 x.2.2⟩
theorem rK:bu Tryz.prog nu:=ck [bF,jI] [.tmp 4] (.q .z (.q (.q .z (.cut ⟨[As,Av,Aq],[(2,AB)],[]⟩ BR (.b (.lp ⟨[As,Av,Aq,(5,Ag)],[(2,AB)],[]⟩ Bd)))) Ac)) ⟨bJ,mc,trivial⟩ ab2 Tryz.func37 Tryz.ntmps37 rfl rfl rfl fun _=>by kernel_rfl
def nE:Ctr:=⟨96,[.o Bq,.g [Ak,Ak]],CR,false,fun x=>iL x.1 x.2.1 x.2.2⟩
theorem qD:bu Tryz.prog nE:=ck [] [.tmp 4] (.q .z (.q (.q .z (.cut Bt BR (.b (.lp ⟨[AV,AU,Aq,(5,Ag)],Bb,[]⟩ Bd)))) Ac)) trivial acE Tryz.func96 Tryz.ntmps96 rfl rfl rfl fun _=>by kernel_rfl
def lh:Ctr:=⟨38,[AI],BF,false,fun x=>eL x.1 x.2.1 x.2.2⟩
theorem oy:bu Tryz.prog lh:=ck [bF,nE] [.tmp 2] (.q .z (.q Af (.q (.q .z (.cut ⟨[As,Av],[(1,AP)],[]⟩ BR (.b (.lp ⟨[As,Av,(3,Ag)],[(1,AP)],[]⟩ Bd)))) (.q (.q .z (.cut Cy BR (.b (.lp ⟨[As,Av,(4,Ag)],[(1,AP)],[]⟩ (.q Am Cq))))) Ac)))) ⟨bJ,qD,trivial⟩ ab3 Tryz.func38 Tryz.ntmps38 rfl rfl rfl fun _=>by kernel_rfl
def fC:Ctr:=⟨162,[Ae,AN],BF,false,fun x=>cE x.1 x.2.1 x.2.2⟩
theorem jS:bu Tryz.prog fC:=ck [jI] [.tmp 4] Am ⟨mc,trivial⟩ Zz Tryz.func162 Tryz.ntmps162 rfl rfl rfl fun _=>by kernel_rfl
def kM:Ctr:=⟨97,Bl,BF,false,fun x=>gF x.1 x.2.1 x.2.2.1 x.2.2.2⟩
theorem mL:bu Tryz.prog kM:=ck [fC,nu] [.tmp 6] Am ⟨jS,rK,trivial⟩ acF Tryz.func97 Tryz.ntmps97 rfl rfl rfl fun _=>by kernel_rfl
def sX:Ctr:=⟨190,[AN],[Cz],false,fun x=>jO x⟩
theorem xH:bu Tryz.prog sX:=ck [] [.tmp 2] Am trivial ZV Tryz.func190 Tryz.ntmps190 rfl rfl rfl fun _=>by kernel_rfl
def sG:Ctr:=⟨200,[Ae,AN,AF,.o .b],[Cz,AH],false,fun x=>kw x.1 x.2.1 x.2.2.1 x.2.2.2.1 x.2.2.2.2⟩
theorem yP:bu Tryz.prog sG:=ck [fC,sX,bF] [.tmp 8,.tmp 9] (.q .z (.q Af (.q .z (.q Af Am)))) ⟨jS,xH,bJ,trivial⟩ aab Tryz.func200 Tryz.ntmps200 rfl rfl rfl fun _=>by kernel_rfl
def wt:Ctr:=⟨201,[Ae,AN,AF],[Cz],false,fun x=>nW x.1 x.2.1 x.2.2.1 x.2.2.2⟩
theorem Ft:bu Tryz.prog wt:=ck [] [.tmp 6] (.q .z (.q .z (.q .z (.q (.q .z (.cut ⟨[AC,(7,BZ)],[],[]⟩ [] (.b (.lp ⟨[As,AU,AC,(7,BZ),CC],Bb,[]⟩ (.q Am (.q (.b (.q .z (.cut ⟨[As,AU,AC,(7,BZ),AR],Bb,[]⟩ [] (.b (.lp ⟨[As,AU,AC,(7,BZ),AR,CM],Bb,[]⟩ (.q Am (.q (.b (.q .z (.q .z (.cut ⟨[As,AU,AC,(7,BZ),AR,Bp],Bb,[]⟩ [] BP)))) .z))))))) .z)))))) Ac)))) trivial aac Tryz.func201 Tryz.ntmps201 rfl rfl rfl fun _=>by kernel_rfl
def nA:Ctr:=⟨164,[Ae,AN,AF],CL,false,fun x=>iH x.1 x.2.1 x.2.2.1 x.2.2.2⟩
theorem qz:bu Tryz.prog nA:=ck [fC,bF,wt] [.tmp 6] (.q .z (.q .z (.q Af (.q .z (.q (.q .z (.cut Ca [] (.b (.lp ⟨[AU,AC,(7,AQ),AR,CM],Bb,[]⟩ (.q Am (.q (.b (.q .z (.cut ⟨[AU,AC,(7,AQ),AR,Bp],Bb,[]⟩ [] Ac))) .z)))))) Ac))))) ⟨jS,bJ,Ft,trivial⟩ ZB Tryz.func164 Tryz.ntmps164 rfl rfl rfl fun _=>by kernel_rfl
def li:Ctr:=⟨136,[BV,AF],BF,false,fun x=>cW x.1 x.2⟩
theorem mY:bu Tryz.prog li:=ck [] [.tmp 4] (.q .z Az) trivial Zq Tryz.func136 Tryz.ntmps136 rfl rfl rfl fun _=>by kernel_rfl
def nB:Ctr:=⟨99,[Ae,AN,AF,AF],BF,false,fun x=>gu x.1 x.2.1 x.2.2.1 x.2.2.2.1 x.2.2.2.2⟩
theorem rN:bu Tryz.prog nB:=ck [nA,li] [.tmp 8] Am ⟨qz,mY,trivial⟩ acH Tryz.func99 Tryz.ntmps99 rfl rfl rfl fun _=>by kernel_rfl
def sF:Ctr:=⟨163,[Ae,AN],CL,false,fun x=>nP x.1 x.2.1 x.2.2⟩
theorem yO:bu Tryz.prog sF:=ck [fC,sG,nB] [.tmp 4] (.q .z (.q .z (.q (.q .z (.cut BH [] (.b (.lp ⟨[As,Av,Aq,CN,(6,Ag)],[(2,AB)],[]⟩ (.q Am (.q (.b (.q .z (.q .z (.cut ⟨[As,Av,Aq,CN,AC],[(2,AB)],[]⟩ [] Ac)))) .z)))))) Ac))) ⟨jS,yP,rN,trivial⟩ ZA Tryz.func163 Tryz.ntmps163 rfl rfl rfl fun _=>by kernel_rfl
def vo:Ctr:=⟨98,[Ae,AN],BF,false,fun x=>mr x.1 x.2.1 x.2.2⟩
theorem Ej:bu Tryz.prog vo:=ck [sF] [.tmp 4] Am ⟨yO,trivial⟩ acG Tryz.func98 Tryz.ntmps98 rfl rfl rfl fun _=>by kernel_rfl
def lW:Ctr:=⟨40,Bl,BF,false,fun x=>eF x.1 x.2.1 x.2.2.1 x.2.2.2⟩
theorem oK:bu Tryz.prog lW:=ck [kM,vo,nB] [.tmp 6] (.q .z (.q Af (.q (.q .z (.cut ⟨[AC],[],[]⟩ BR (.b (.lp ⟨[As,Av,AU,AC,BS],Bb,[]⟩ (.q Am (.q (.b (.q .z (.cut ⟨[As,Av,AU,AC,Bg],Bb,[]⟩ BR (.b (.lp ⟨[As,Av,AU,AC,Bg,CC],Bb,[]⟩ Bd))))) .z)))))) Ac))) ⟨mL,Ej,rN,trivial⟩ ab5 Tryz.func40 Tryz.ntmps40 rfl rfl rfl fun _=>by kernel_rfl
def cz:Ctr:=⟨9,[Ad],BF,false,fun x=>bC x.1 x.2.1 x.2.2.1 x.2.2.2.1 x.2.2.2.2.1 x.2.2.2.2.2.1 x.2.2.2.2.2.2⟩
theorem dD:bu Tryz.prog cz:=ck [nu,lh,bF,lW] [.tmp 2] (.q .z (.q Af (.q (.q .z (.cut ⟨[As,Av],BC,[]⟩ BR (.b (.lp ⟨[As,Av,(3,Ag)],BC,[]⟩ Bd)))) Ac))) ⟨rK,oy,bJ,oK,trivial⟩ co9 Tryz.func9 Tryz.ntmps9 rfl rfl rfl fun _=>by kernel_rfl
def rg:Ctr:=⟨130,[AI],[CB],false,fun x=>kQ x.1 x.2.1 x.2.2⟩
theorem vO:bu Tryz.prog rg:=ck [sX] [.cell 2 30] Am ⟨xH,trivial⟩ Zk Tryz.func130 Tryz.ntmps130 rfl rfl rfl fun _=>by kernel_rfl
def iv:Ctr:=⟨61,[Ad],[Ai],false,fun x=>bz x.1 x.2.1 x.2.2.1 x.2.2.2.1 x.2.2.2.2.1 x.2.2.2.2.2.1 x.2.2.2.2.2.2⟩
theorem kL:bu Tryz.prog iv:=ck [rg] [.cell 2 33] BJ ⟨vO,trivial⟩ acr Tryz.func61 Tryz.ntmps61 rfl rfl rfl fun _=>by kernel_rfl
def pG:Ctr:=⟨138,[AI,AF],CL,false,fun x=>dN x.1 x.2.1 x.2.2.1 x.2.2.2⟩
theorem uQ:bu Tryz.prog pG:=ck [lh] [.tmp 4] (.q .z (.q .z (.q (.q .z (.cut BH [] (.b (.lp ⟨[As,Av,Aq,CN,(6,Ag)],[(2,AP)],[]⟩ (.q Am (.q (.b (.q .z (.cut ⟨[As,Av,Aq,CN,AC],[(2,AP)],[]⟩ [] Ac))) .z)))))) Ac))) ⟨oy,trivial⟩ Zs Tryz.func138 Tryz.ntmps138 rfl rfl rfl fun _=>by kernel_rfl
def wq:Ctr:=⟨139,[Ad,AF],[Ai],false,fun x=>nV x.1 x.2.1 x.2.2.1 x.2.2.2.1 x.2.2.2.2.1 x.2.2.2.2.2.1 x.2.2.2.2.2.2.1 x.2.2.2.2.2.2.2⟩
theorem Fq:bu Tryz.prog wq:=ck [iv] [.cell 4 33] AG ⟨kL,trivial⟩ Zt Tryz.func139 Tryz.ntmps139 rfl rfl rfl fun _=>by kernel_rfl
def vv:Ctr:=⟨137,[Ad,AF],[Ai],false,fun x=>mz x.1 x.2.1 x.2.2.1 x.2.2.2.1 x.2.2.2.2.1 x.2.2.2.2.2.1 x.2.2.2.2.2.2.1 x.2.2.2.2.2.2.2⟩
theorem Ep:bu Tryz.prog vv:=ck [iv,li] [.cell 4 33] (.q .z AG) ⟨kL,mY,trivial⟩ Zr Tryz.func137 Tryz.ntmps137 rfl rfl rfl fun _=>by kernel_rfl
def xK:Ctr:=⟨194,[AI,BA],BF,false,fun x=>oQ x.1 x.2.1 x.2.2.1 x.2.2.2.1 x.2.2.2.2.1 x.2.2.2.2.2⟩
theorem GO:bu Tryz.prog xK:=ck [nE,pG,bF] [.tmp 4] (.q .z (.q .z (.q (.q .z (.b (.q .z (.q Ac (.q .z BI))))) Ac))) ⟨qD,uQ,bJ,trivial⟩ ZZ Tryz.func194 Tryz.ntmps194 rfl rfl rfl fun _=>by kernel_rfl
def xJ:Ctr:=⟨140,[AI,BA],[CB,AH],false,fun x=>lY x.1 x.2.1 x.2.2.1 x.2.2.2.1 x.2.2.2.2.1 x.2.2.2.2.2⟩
theorem GN:bu Tryz.prog xJ:=ck [lh,rg,bF,xK,nE] [.cell 4 30,.tmp 5] (.q .z (.q Af (.q .z (.q Af (.q (.q .z (.b (.q .z (.cut Bv [] (.q .z (.q .z (.cut Bv [] (.q .z (.q .z (.cut Bw [] (.q .z (.q .z (.cut Bw [] (.q .z (.q .z (.cut Bx [] Am)))))))))))))))) Ac))))) ⟨oy,vO,bJ,GO,qD,trivial⟩ Zu Tryz.func140 Tryz.ntmps140 rfl rfl rfl fun _=>by kernel_rfl
def nD:Ctr:=⟨64,[Ad,BA],[Ai,AH],false,fun x=>iJ x.1 x.2.1 x.2.2.1 x.2.2.2.1 x.2.2.2.2.1 x.2.2.2.2.2.1 x.2.2.2.2.2.2.1 x.2.2.2.2.2.2.2.1 x.2.2.2.2.2.2.2.2.1 x.2.2.2.2.2.2.2.2.2⟩
theorem qC:bu Tryz.prog nD:=ck [cz,bF,iv,li,vv,pG,wq,xJ,lW] [.cell 4 33,.tmp 5] (.q .z (.q Af (.q Af (.q .z (.q (.b (.q .z (.q Ac (.q (.cut ⟨[Av,AU,Aq,AW,AC,(42,BX)],[BN,(3,AP),(2,Aj)],[]⟩ [] .z) (.q Ac Af))))) (.q .z (.q .z (.q Af Am)))))))) ⟨dD,bJ,kL,mY,Ep,uQ,Fq,GN,oK,trivial⟩ act Tryz.func64 Tryz.ntmps64 rfl rfl rfl fun _=>by kernel_rfl
def vu:Ctr:=⟨33,[AX,AF],[Ai],true,fun x=>my x.1 x.2.1 x.2.2⟩
theorem Eo:bu Tryz.prog vu:=ck [tY,dG,qm,nD,oB] [.cell 4 33] (.q .z (.q .z (.q .z (.q (.q .z (.cut ⟨[AV,As,Aq,AR],[Bf,(8,Ap),BN],[]⟩ [] (.b (.lp ⟨[AV,As,Aq,AR,CM],[Bf,(8,Ap),BN],[]⟩ (.q Am (.q (.b (.q .z (.q .z (.cut ⟨[AV,As,Aq,AR,Bp],[Cj,(8,Ap),BN],[]⟩ [] Ac)))) .z)))))) (.q (.q .z (.cut ⟨[Aq,AR],[Bf,(8,[.k,.k,Ce,AT,AT,.k,Au]),BN],[]⟩ [] (.q (.q .z (.b (.q .z (.cut ⟨[Aq,AR],[Cj,(8,[.k,.k,Ce,AT,AT,.k,Au]),BN],[]⟩ [] (.q .z (.q .z (.cut Cb [] (.q .z (.q .z (.cut Cb [] (.q (.q .z (.cut ⟨[Aq,AR],[Cj,(8,By),BN],[]⟩ [] (.b (.lp ⟨[Aq,AR,(12,Ag)],[Cj,(8,By),BN],[]⟩ (.q Am (.q (.b (.q .z (.cut ⟨[Aq,AR,BK],[Cj,(8,By),BN],[]⟩ [] Ac))) .z)))))) (.q .z (.cut ⟨[Aq,AR],[Cj,(8,[.k,.k,.w 122 Ah,AT,AT,.k,.k]),BN],[]⟩ [] (.q Ac Ac)))))))))))))) .z))) Ac))))) ⟨Db,fy,xv,qC,tq,trivial⟩ abY Tryz.func33 Tryz.ntmps33 rfl rfl rfl fun _=>by kernel_rfl
def wo:Ctr:=⟨35,[AX,Ad],[BM],true,fun x=>nU x.1 x.2.1 x.2.2.1 x.2.2.2.1 x.2.2.2.2.1 x.2.2.2.2.2.1 x.2.2.2.2.2.2.1 x.2.2.2.2.2.2.2.1 x.2.2.2.2.2.2.2.2⟩
theorem Fp:bu Tryz.prog wo:=ck [dG,fw] [.tmp 4] (.q .z (.q .z (.q .z (.q (.q .z (.cut ⟨[AV,Aq,(6,.o .s)],[Bf],[]⟩ [] Ac)) (.q (.q .z (.b Bh)) Ac))))) ⟨fy,jE,trivial⟩ ab0 Tryz.func35 Tryz.ntmps35 rfl rfl rfl fun _=>by kernel_rfl
def px:Ctr:=⟨15,[.o Cs],[Ai,BM],false,fun x=>dj x⟩
theorem vN:bu Tryz.prog px:=ck [vu,wo] [.cell 2 33,.tmp 3] (.q .z BJ) ⟨Eo,Fp,trivial⟩ abT Tryz.func15 Tryz.ntmps15 rfl rfl rfl fun _=>by kernel_rfl
def ss:Ctr:=⟨143,[AF],BF,false,fun x=>jY x⟩
theorem yJ:bu Tryz.prog ss:=ck [] [.tmp 2] Am trivial Zx Tryz.func143 Tryz.ntmps143 rfl rfl rfl fun _=>by kernel_rfl
def ni:Ctr:=⟨69,[Ae,Ao],BF,false,fun x=>fF x.1 x.2.1 x.2.2⟩
theorem rE:bu Tryz.prog ni:=ck [md,ss] [.tmp 4] (.q .z (.q Af (.q (.q .z (.cut Bt BR (.b (.lp ⟨[Aq,(17,Ab),(18,Ab),(19,Ag)],[],[]⟩ AJ)))) Ac))) ⟨ma,yJ,trivial⟩ acy Tryz.func69 Tryz.ntmps69 rfl rfl rfl fun _=>by kernel_rfl
def bP:Ctr:=⟨195,[.o Bq,.g [Ak,Ak]],CR,false,fun x=>aQ x.1 x.2.1 x.2.2⟩
theorem cY:bu Tryz.prog bP:=ck [] [.tmp 4] (.q .z (.q (.q .z (.cut Bt BR (.b (.lp ⟨[AV,AU,Aq,Bg,CC],Bb,[]⟩ AJ)))) Ac)) trivial aaa Tryz.func195 Tryz.ntmps195 rfl rfl rfl fun _=>by kernel_rfl
def aX:Ctr:=⟨144,[.o Bq,.g [Ak,Ak]],BF,false,fun x=>aD x.1 x.2.1 x.2.2⟩
theorem bH:bu Tryz.prog aX:=ck [bP] [.tmp 4] Am ⟨cY,trivial⟩ Zy Tryz.func144 Tryz.ntmps144 rfl rfl rfl fun _=>by kernel_rfl
def ld:Ctr:=⟨70,[AI],BF,false,fun x=>eG x.1 x.2.1 x.2.2⟩
theorem ox:bu Tryz.prog ld:=ck [aX] [.tmp 2] (.q .z (.q Af (.q (.q .z (.cut ⟨[As,Av],[(1,AP)],[]⟩ BR (.b (.lp ⟨[As,Av,(33,Ab),(34,Ag)],[(1,AP)],[]⟩ AJ)))) (.q (.q .z (.cut Cy BR (.b (.lp ⟨[As,Av,(51,Ab),(52,Ab),(53,Ag)],[(1,AP)],[]⟩ AJ)))) Ac)))) ⟨bH,trivial⟩ acz Tryz.func70 Tryz.ntmps70 rfl rfl rfl fun _=>by kernel_rfl
def cd:Ctr:=⟨45,[Ae,AF],BF,false,fun x=>aR x.1 x.2.1 x.2.2⟩
theorem cQ:bu Tryz.prog cd:=ck [] [.tmp 4] Am trivial aca Tryz.func45 Tryz.ntmps45 rfl rfl rfl fun _=>by kernel_rfl
def sq:Ctr:=⟨109,[Ae,AN],BF,false,fun x=>jX x.1 x.2.1 x.2.2⟩
theorem yI:bu Tryz.prog sq:=ck [md] [.tmp 4] Am ⟨ma,trivial⟩ YQ Tryz.func109 Tryz.ntmps109 rfl rfl rfl fun _=>by kernel_rfl
def jH:Ctr:=⟨44,Bl,BF,false,fun x=>dJ x.1 x.2.1 x.2.2.1 x.2.2.2⟩
theorem mb:bu Tryz.prog jH:=ck [sq,ni] [.tmp 6] Am ⟨yI,rE,trivial⟩ ab9 Tryz.func44 Tryz.ntmps44 rfl rfl rfl fun _=>by kernel_rfl
def pF:Ctr:=⟨204,[AF],CL,false,fun x=>jJ x⟩
theorem uP:bu Tryz.prog pF:=ck [] [.tmp 2] (.q .z (.q .z (.q (.q .z (.cut ⟨[Av,(3,AK)],[],[]⟩ [] (.b (.lp ⟨[Av,(3,AK),AR,CM],[],[]⟩ Be)))) Ac))) trivial aad Tryz.func204 Tryz.ntmps204 rfl rfl rfl fun _=>by kernel_rfl
def fA:Ctr:=⟨170,[.o BO,AF],CR,true,fun x=>bK x.1 x.2⟩
theorem jR:bu Tryz.prog fA:=ck [] [.tmp 4] (.q .z (.q (.cut ⟨[(1,Ag),Aq],[],[(0,Au)]⟩ [] (.b (.lp ⟨[(0,AK),(1,Ag),Aq],[],[]⟩ (.q Am (.b Ac))))) Ac)) trivial ZF Tryz.func170 Tryz.ntmps170 rfl rfl rfl fun _=>by kernel_rfl
def sD:Ctr:=⟨206,[.o BO,AF,AF],BF,true,fun x=>kg x.1 x.2.1 x.2.2⟩
theorem yM:bu Tryz.prog sD:=ck [fA] [.tmp 6] Am ⟨jR,trivial⟩ aaf Tryz.func206 Tryz.ntmps206 rfl rfl rfl fun _=>by kernel_rfl
def nn:Ctr:=⟨205,[.o BO,AF,AF],[],true,fun x=>fX x.1 x.2.1 x.2.2⟩
theorem rJ:bu Tryz.prog nn:=ck [fA] [] Ac ⟨jR,trivial⟩ aae Tryz.func205 Tryz.ntmps205 rfl rfl rfl fun _=>by kernel_rfl
def vh:Ctr:=⟨171,[Ae,AN],BF,false,fun x=>mn x.1 x.2.1 x.2.2⟩
theorem Eb:bu Tryz.prog vh:=ck [pF,sD,nn] [.tmp 4] (.q .z (.q .z (.q (.q .z (.cut Bt BR (.b (.lp CF (.q .z (.q Ac (.q (.b (.q .z (.q .z (.cut CG BR (.q (.q Af .z) .z))))) .z))))))) Ac))) ⟨uP,yM,rJ,trivial⟩ ZG Tryz.func171 Tryz.ntmps171 rfl rfl rfl fun _=>by kernel_rfl
def jT:Ctr:=⟨101,[BA,AF],CR,false,fun x=>cA x.1 x.2.1 x.2.2.1 x.2.2.2⟩
theorem mW:bu Tryz.prog jT:=ck [] [.tmp 4] (.q .z (.q (.q .z (.b Bh)) Ac)) trivial YK Tryz.func101 Tryz.ntmps101 rfl rfl rfl fun _=>by kernel_rfl
def qZ:Ctr:=⟨172,[.bx 145 [Ak,Bz,BO,BO,BO],AN,AF],[],true,fun x=>je x.1 x.2.1 x.2.2.1 x.2.2.2.1 x.2.2.2.2.1 x.2.2.2.2.2.1 x.2.2.2.2.2.2⟩
theorem xV:bu Tryz.prog qZ:=ck [jT] [] (.q .z (.q .z (.cut ⟨[],Bo,[]⟩ [] (.b (.lp ⟨[AV,As,Av,(6,Ag)],Bo,[]⟩ (.q Am (.q (.b (.q .z (.q .z (.cut ⟨[AV,As,Av,AC],Bo,[]⟩ [] (.b (.lp ⟨[AV,As,Av,AC,Bg,(46,Ab),(47,Ab),(48,Ag)],Bo,[]⟩ (.q .z (.q Ac (.q (.b (.q .z (.q .z (.q .z (.cut ⟨[AV,As,Av,AC,Bg,(46,Ab),(47,Ab),(48,Ab)],Bo,[]⟩ [] BP))))) .z))))))))) .z))))))) ⟨mW,trivial⟩ ZH Tryz.func172 Tryz.ntmps172 rfl rfl rfl fun _=>by kernel_rfl
def oO:Ctr:=⟨111,Bl,[.g [AA,.al 1,CE,CE,CE],AH],false,fun x=>jN x.1 x.2.1 x.2.2.1 x.2.2.2⟩
theorem sR:bu Tryz.prog oO:=ck [jH,vh,qZ] [.cell 6 145,.tmp 7] (.q .z (.q Af (.q .z (.q (.q .z (.cut ⟨[As,Av,AC,Bg,AR],[(8,[.k,.k,Cp,Cp,.k]),(6,Bn)],[]⟩ [] (.b (.lp ⟨[As,Av,AC,Bg,AR,(32,Ab),(33,Ag)],[(8,[.k,.k,Cp,Cp,.k]),(6,Bn)],[]⟩ Be)))) (.q (.q .z (.cut ⟨[AC,Bg,AR],CH,[]⟩ BR (.b (.lp ⟨[As,AC,Bg,AR,(45,Ab),(46,Ab),(47,Ag)],CH,[]⟩ (.q .z (.q Ac (.q (.cut ⟨[As,AC,Bg,AR,(45,Ab),(46,Ab),(47,Ab)],CH,[]⟩ BR (.b (.q .z (.q Am Cw)))) .z))))))) Ac))))) ⟨mb,Eb,xV,trivial⟩ YS Tryz.func111 Tryz.ntmps111 rfl rfl rfl fun _=>by kernel_rfl
def sV:Ctr:=⟨71,Bl,BF,false,fun x=>gP x.1 x.2.1 x.2.2.1 x.2.2.2⟩
theorem xF:bu Tryz.prog sV:=ck [oO] [.tmp 6] BJ ⟨sR,trivial⟩ acA Tryz.func71 Tryz.ntmps71 rfl rfl rfl fun _=>by kernel_rfl
def cw:Ctr:=⟨19,[Ad],BF,false,fun x=>bB x.1 x.2.1 x.2.2.1 x.2.2.2.1 x.2.2.2.2.1 x.2.2.2.2.2.1 x.2.2.2.2.2.2⟩
theorem dC:bu Tryz.prog cw:=ck [ni,ld,cd,sV] [.tmp 2] (.q .z (.q Af (.q (.q .z (.cut ⟨[As,Av],BC,[]⟩ BR (.b (.lp ⟨[As,Av,(29,Ab),(30,Ab),(31,Ag)],BC,[]⟩ AJ)))) Ac))) ⟨rE,ox,cQ,xF,trivial⟩ abX Tryz.func19 Tryz.ntmps19 rfl rfl rfl fun _=>by kernel_rfl
set_option maxHeartbeats 4000000 in
theorem mB {x0:List (Int×Int×Int)} {A0:Option Addr} {n0 c0:Nat} {w:World} {r:List (Int×Int×Int)} (h0:Rt w 3 Nz A0 n0 c0 x0) (hM:ba x0=some r):
 Calls Tryz.prog 105 #[.slice A0 n0 c0] w (fun e w'=> ∃(B0:Option Addr) (N0 D0:Nat),e= .returned (.slice B0 N0 D0)∧N0=r.length∧St w w' [.row 77 3 (.slice B0 N0 D0) N0 (r.flatMap Nz)]):=by
 obtain rfl:=h0.len
 unfold ba at hM
 obtain ⟨hk,hM⟩:=cP hM
 replace hk:=yB hk
 obtain rfl:=Option.some.inj hM
 refine oW Tryz.func105 Tryz.ntmps105 rfl [(0,.slice A0 x0.length c0)] ⟨rfl,trivial⟩ rfl ?_
 intro a hF
 have S:=St.nil w
 refine wp_seq ?_
 refine wp_region_lit ?_
 refine ax (v:=.slice none 0 0) rfl rfl hF rfl (aF rfl rfl) ?_;clear hF;intro a hF
 refine wpList_nil ?_
 refine wp_seq ?_
 refine wp_seq ?_
 refine wp_region_lit ?_
 refine ax (v:=.slice A0 x0.length c0) rfl rfl hF rfl (aB rfl (hF.ev rfl)) ?_;clear hF;intro a hF
 refine ax (v:=.bool (Option.isNone A0)) rfl rfl hF rfl (oF rfl Tryz.underlying23 (hF.ev rfl) rfl) ?_;clear hF;intro a hF
 refine wpList_nil ?_
 cases hc101:(Option.isNone A0)
 ·have hx:=trivial
  refine vF hF rfl hc101 ?_
  refine wp_skip ?_
  refine wp_seq ?_
  refine wp_region_lit ?_
  refine ug (cs:= #[]) (size:=3) rfl rfl hF rfl S (jM rfl Tryz.underlying23 (congrArg Option.isSome acX)) rfl (Nat.zero_le _) ?_;clear hF S;intro a g102 u hF S
  refine ax (v:=.slice A0 x0.length c0) rfl rfl hF rfl (aB rfl (hF.ev rfl)) ?_;clear hF;intro a hF
  have hk105:=hk
  refine rl (lx:=[]) (ly:=x0) rfl rfl hF rfl S rfl (hF.ev rfl) (hF.ev rfl) (i:=0) rfl rfl Tryz.underlying23 aa6 rfl (by decide) (S.rc0 h0.rc).rd rfl OY hk105 (by decide) ?_;clear hF S;intro a B103 d104 u hF S
  refine ax (v:=.slice B103 ((([]:List (Int×Int×Int))++x0).length) d104) rfl rfl hF rfl (aF rfl (hF.ev rfl)) ?_;clear hF;intro a hF
  refine wpList_nil ?_
  refine wp_ret ?_
  repeat with_reducible (first |refine er ?_ |refine lP ?_ |refine lO ?_)
  refine iu (.inl rfl) hF rfl (gL (hF.ev rfl)) ?_
  exact ⟨B103,((([]:List (Int×Int×Int))++x0).length),d104,rfl,rfl,S.sel [0] rfl rfl⟩
 ·have hx:=wH h0.rc.rd rfl hc101
  refine vG hF rfl hc101 ?_
  refine wp_seq ?_
  refine wp_region_lit ?_
  refine ax (v:=.slice none 0 0) rfl rfl hF rfl (aF rfl rfl) ?_;clear hF;intro a hF
  refine wpList_nil ?_
  refine wp_ret ?_
  repeat with_reducible (first |refine er ?_ |refine lP ?_ |refine lO ?_)
  refine iu (.inl rfl) hF rfl (gL (hF.ev rfl)) ?_
  subst hx
  replace S:=S.nilrow 77 3
  exact ⟨none,0,0,rfl,rfl,S.sel [0] rfl rfl⟩
def eM:Ctr:=⟨105,[.o Bz],[.o (.row 77 AS)],false,fun x=>ba x⟩
theorem mD:bu Tryz.prog eM:=⟨YM,fun x res hm e w0 w X _ hp hS=>by
 obtain ⟨v,vr,hv,⟨l,hl,hro⟩,_⟩:=hp
 have hl:=(List.head_eq_of_cons_eq hv).trans hl
 injection hl with _ hl
 subst hl
 refine (mB (A0:=e.a 0) (n0:=List.length x) (c0:=e.c 0) (w:=w) ⟨hro w _ hS (fun y hy=>List.mem_append_right _ hy),rfl⟩ hm).mono ?_
 rintro en w' ⟨B,N,D,rfl,hN,S⟩
 subst hN
 exact ⟨[_],[_],rfl,⟨[_],[],[],[_],[],[],rfl,rfl,⟨_,[],_,[],[_],[],rfl,rfl,rfl,⟨res,B,D,rfl,rfl,rfl⟩,rfl,rfl,rfl⟩,⟨rfl,rfl⟩,⟨[],[],[],[],rfl,rfl,⟨rfl,rfl⟩,⟨rfl,rfl⟩⟩⟩,hS.call1 S⟩⟩
set_option maxHeartbeats 4000000 in
theorem mV {x0:List (Int×Int)} {A0:Option Addr} {n0 c0:Nat} {w:World} {r:List (Int×Int)} (h0:Rt w 2 Ul A0 n0 c0 x0) (hM:bh x0=some r):
 Calls Tryz.prog 106 #[.slice A0 n0 c0] w (fun e w'=> ∃(B0:Option Addr) (N0 D0:Nat),e= .returned (.slice B0 N0 D0)∧N0=r.length∧St w w' [.row 122 2 (.slice B0 N0 D0) N0 (r.flatMap Ul)]):=by
 obtain rfl:=h0.len
 unfold bh at hM
 obtain ⟨hk,hM⟩:=cP hM
 replace hk:=yB hk
 obtain rfl:=Option.some.inj hM
 refine oW Tryz.func106 Tryz.ntmps106 rfl [(0,.slice A0 x0.length c0)] ⟨rfl,trivial⟩ rfl ?_
 intro a hF
 have S:=St.nil w
 refine wp_seq ?_
 refine wp_region_lit ?_
 refine ax (v:=.slice none 0 0) rfl rfl hF rfl (aF rfl rfl) ?_;clear hF;intro a hF
 refine wpList_nil ?_
 refine wp_seq ?_
 refine wp_seq ?_
 refine wp_region_lit ?_
 refine ax (v:=.slice A0 x0.length c0) rfl rfl hF rfl (aB rfl (hF.ev rfl)) ?_;clear hF;intro a hF
 refine ax (v:=.bool (Option.isNone A0)) rfl rfl hF rfl (oF rfl Tryz.underlying26 (hF.ev rfl) rfl) ?_;clear hF;intro a hF
 refine wpList_nil ?_
 cases hc101:(Option.isNone A0)
 ·have hx:=trivial
  refine vF hF rfl hc101 ?_
  refine wp_skip ?_
  refine wp_seq ?_
  refine wp_region_lit ?_
  refine ug (cs:= #[]) (size:=2) rfl rfl hF rfl S (jM rfl Tryz.underlying26 (congrArg Option.isSome abK)) rfl (Nat.zero_le _) ?_;clear hF S;intro a g102 u hF S
  refine ax (v:=.slice A0 x0.length c0) rfl rfl hF rfl (aB rfl (hF.ev rfl)) ?_;clear hF;intro a hF
  have hk105:=hk
  refine rl (lx:=[]) (ly:=x0) rfl rfl hF rfl S rfl (hF.ev rfl) (hF.ev rfl) (i:=0) rfl rfl Tryz.underlying26 Xm rfl (by decide) (S.rc0 h0.rc).rd rfl QO hk105 (by decide) ?_;clear hF S;intro a B103 d104 u hF S
  refine ax (v:=.slice B103 ((([]:List (Int×Int))++x0).length) d104) rfl rfl hF rfl (aF rfl (hF.ev rfl)) ?_;clear hF;intro a hF
  refine wpList_nil ?_
  refine wp_ret ?_
  repeat with_reducible (first |refine er ?_ |refine lP ?_ |refine lO ?_)
  refine iu (.inl rfl) hF rfl (gL (hF.ev rfl)) ?_
  exact ⟨B103,((([]:List (Int×Int))++x0).length),d104,rfl,rfl,S.sel [0] rfl rfl⟩
 ·have hx:=wH h0.rc.rd rfl hc101
  refine vG hF rfl hc101 ?_
  refine wp_seq ?_
  refine wp_region_lit ?_
  refine ax (v:=.slice none 0 0) rfl rfl hF rfl (aF rfl rfl) ?_;clear hF;intro a hF
  refine wpList_nil ?_
  refine wp_ret ?_
  repeat with_reducible (first |refine er ?_ |refine lP ?_ |refine lO ?_)
  refine iu (.inl rfl) hF rfl (gL (hF.ev rfl)) ?_
  subst hx
  replace S:=S.nilrow 122 2
  exact ⟨none,0,0,rfl,rfl,S.sel [0] rfl rfl⟩
def fB:Ctr:=⟨106,[Ao],[.o (.row 122 Ah)],false,fun x=>bh x⟩
theorem mX:bu Tryz.prog fB:=⟨YN,fun x res hm e w0 w X _ hp hS=>by
 obtain ⟨v,vr,hv,⟨l,hl,hro⟩,_⟩:=hp
 have hl:=(List.head_eq_of_cons_eq hv).trans hl
 injection hl with _ hl
 subst hl
 refine (mV (A0:=e.a 0) (n0:=List.length x) (c0:=e.c 0) (w:=w) ⟨hro w _ hS (fun y hy=>List.mem_append_right _ hy),rfl⟩ hm).mono ?_
 rintro en w' ⟨B,N,D,rfl,hN,S⟩
 subst hN
 exact ⟨[_],[_],rfl,⟨[_],[],[],[_],[],[],rfl,rfl,⟨_,[],_,[],[_],[],rfl,rfl,rfl,⟨res,B,D,rfl,rfl,rfl⟩,rfl,rfl,rfl⟩,⟨rfl,rfl⟩,⟨[],[],[],[],rfl,rfl,⟨rfl,rfl⟩,⟨rfl,rfl⟩⟩⟩,hS.call1 S⟩⟩
set_option maxHeartbeats 4000000 in
theorem sQ {x0:List Bool} {A0:Option Addr} {n0 c0:Nat} {w:World} {r:List Bool} (h0:Rt w 1 eB A0 n0 c0 x0) (hM:aW x0=some r):
 Calls Tryz.prog 114 #[.slice A0 n0 c0] w (fun e w'=> ∃(B0:Option Addr) (N0 D0:Nat),e= .returned (.slice B0 N0 D0)∧N0=r.length∧St w w' [.row 4 1 (.slice B0 N0 D0) N0 (r.flatMap eB)]):=by
 obtain rfl:=h0.len
 unfold aW at hM
 obtain ⟨hk,hM⟩:=cP hM
 replace hk:=yB hk
 obtain rfl:=Option.some.inj hM
 refine oW Tryz.func114 Tryz.ntmps114 rfl [(0,.slice A0 x0.length c0)] ⟨rfl,trivial⟩ rfl ?_
 intro a hF
 have S:=St.nil w
 refine wp_seq ?_
 refine wp_region_lit ?_
 refine ax (v:=.slice none 0 0) rfl rfl hF rfl (aF rfl rfl) ?_;clear hF;intro a hF
 refine wpList_nil ?_
 refine wp_seq ?_
 refine wp_seq ?_
 refine wp_region_lit ?_
 refine ax (v:=.slice A0 x0.length c0) rfl rfl hF rfl (aB rfl (hF.ev rfl)) ?_;clear hF;intro a hF
 refine ax (v:=.bool (Option.isNone A0)) rfl rfl hF rfl (oF rfl Tryz.underlying27 (hF.ev rfl) rfl) ?_;clear hF;intro a hF
 refine wpList_nil ?_
 cases hc101:(Option.isNone A0)
 ·have hx:=trivial
  refine vF hF rfl hc101 ?_
  refine wp_skip ?_
  refine wp_seq ?_
  refine wp_region_lit ?_
  refine ug (cs:= #[]) (size:=1) rfl rfl hF rfl S (jM rfl Tryz.underlying27 (congrArg Option.isSome sz4)) rfl (Nat.zero_le _) ?_;clear hF S;intro a g102 u hF S
  refine ax (v:=.slice A0 x0.length c0) rfl rfl hF rfl (aB rfl (hF.ev rfl)) ?_;clear hF;intro a hF
  have hk105:=hk
  refine rl (lx:=[]) (ly:=x0) rfl rfl hF rfl S rfl (hF.ev rfl) (hF.ev rfl) (i:=0) rfl rfl Tryz.underlying27 acP rfl (by decide) (S.rc0 h0.rc).rd rfl WL hk105 (by decide) ?_;clear hF S;intro a B103 d104 u hF S
  refine ax (v:=.slice B103 ((([]:List Bool)++x0).length) d104) rfl rfl hF rfl (aF rfl (hF.ev rfl)) ?_;clear hF;intro a hF
  refine wpList_nil ?_
  refine wp_ret ?_
  repeat with_reducible (first |refine er ?_ |refine lP ?_ |refine lO ?_)
  refine iu (.inl rfl) hF rfl (gL (hF.ev rfl)) ?_
  exact ⟨B103,((([]:List Bool)++x0).length),d104,rfl,rfl,S.sel [0] rfl rfl⟩
 ·have hx:=wH h0.rc.rd rfl hc101
  refine vG hF rfl hc101 ?_
  refine wp_seq ?_
  refine wp_region_lit ?_
  refine ax (v:=.slice none 0 0) rfl rfl hF rfl (aF rfl rfl) ?_;clear hF;intro a hF
  refine wpList_nil ?_
  refine wp_ret ?_
  repeat with_reducible (first |refine er ?_ |refine lP ?_ |refine lO ?_)
  refine iu (.inl rfl) hF rfl (gL (hF.ev rfl)) ?_
  subst hx
  replace S:=S.nilrow 4 1
  exact ⟨none,0,0,rfl,rfl,S.sel [0] rfl rfl⟩
def gN:Ctr:=⟨114,[AN],[Cz],false,fun x=>aW x⟩
theorem lU:bu Tryz.prog gN:=⟨YV,fun x res hm e w0 w X _ hp hS=>by
 obtain ⟨v,vr,hv,⟨l,hl,hro⟩,_⟩:=hp
 have hl:=(List.head_eq_of_cons_eq hv).trans hl
 injection hl with _ hl
 subst hl
 refine (sQ (A0:=e.a 0) (n0:=List.length x) (c0:=e.c 0) (w:=w) ⟨hro w _ hS (fun y hy=>List.mem_append_right _ hy),rfl⟩ hm).mono ?_
 rintro en w' ⟨B,N,D,rfl,hN,S⟩
 subst hN
 exact ⟨[_],[_],rfl,⟨[_],[],[],[_],[],[],rfl,rfl,⟨_,[],_,[],[_],[],rfl,rfl,rfl,⟨res,B,D,rfl,rfl,rfl⟩,rfl,rfl,rfl⟩,⟨rfl,rfl⟩,⟨[],[],[],[],rfl,rfl,⟨rfl,rfl⟩,⟨rfl,rfl⟩⟩⟩,hS.call1 S⟩⟩
set_option maxHeartbeats 4000000 in
theorem kJ {x0:List (Int×Int)} {A0:Option Addr} {n0 c0:Nat} {w:World} {r:List (Int×Int)} (h0:Rt w 2 iU A0 n0 c0 x0) (hM:aP x0=some r):
 Calls Tryz.prog 168 #[.slice A0 n0 c0] w (fun e w'=> ∃(B0:Option Addr) (N0 D0:Nat),e= .returned (.slice B0 N0 D0)∧N0=r.length∧St w w' [.row 125 2 (.slice B0 N0 D0) N0 (r.flatMap iU)]):=by
 obtain rfl:=h0.len
 unfold aP at hM
 obtain ⟨hk,hM⟩:=cP hM
 replace hk:=yB hk
 obtain rfl:=Option.some.inj hM
 refine oW Tryz.func168 Tryz.ntmps168 rfl [(0,.slice A0 x0.length c0)] ⟨rfl,trivial⟩ rfl ?_
 intro a hF
 have S:=St.nil w
 refine wp_seq ?_
 refine wp_region_lit ?_
 refine ax (v:=.slice none 0 0) rfl rfl hF rfl (aF rfl rfl) ?_;clear hF;intro a hF
 refine wpList_nil ?_
 refine wp_seq ?_
 refine wp_seq ?_
 refine wp_region_lit ?_
 refine ax (v:=.slice A0 x0.length c0) rfl rfl hF rfl (aB rfl (hF.ev rfl)) ?_;clear hF;intro a hF
 refine ax (v:=.bool (Option.isNone A0)) rfl rfl hF rfl (oF rfl Tryz.underlying28 (hF.ev rfl) rfl) ?_;clear hF;intro a hF
 refine wpList_nil ?_
 cases hc101:(Option.isNone A0)
 ·have hx:=trivial
  refine vF hF rfl hc101 ?_
  refine wp_skip ?_
  refine wp_seq ?_
  refine wp_region_lit ?_
  refine ug (cs:= #[]) (size:=2) rfl rfl hF rfl S (jM rfl Tryz.underlying28 (congrArg Option.isSome Ic)) rfl (Nat.zero_le _) ?_;clear hF S;intro a g102 u hF S
  refine ax (v:=.slice A0 x0.length c0) rfl rfl hF rfl (aB rfl (hF.ev rfl)) ?_;clear hF;intro a hF
  have hk105:=hk
  refine rl (lx:=[]) (ly:=x0) rfl rfl hF rfl S rfl (hF.ev rfl) (hF.ev rfl) (i:=0) rfl rfl Tryz.underlying28 RD rfl (by decide) (S.rc0 h0.rc).rd rfl DJ hk105 (by decide) ?_;clear hF S;intro a B103 d104 u hF S
  refine ax (v:=.slice B103 ((([]:List (Int×Int))++x0).length) d104) rfl rfl hF rfl (aF rfl (hF.ev rfl)) ?_;clear hF;intro a hF
  refine wpList_nil ?_
  refine wp_ret ?_
  repeat with_reducible (first |refine er ?_ |refine lP ?_ |refine lO ?_)
  refine iu (.inl rfl) hF rfl (gL (hF.ev rfl)) ?_
  exact ⟨B103,((([]:List (Int×Int))++x0).length),d104,rfl,rfl,S.sel [0] rfl rfl⟩
 ·have hx:=wH h0.rc.rd rfl hc101
  refine vG hF rfl hc101 ?_
  refine wp_seq ?_
  refine wp_region_lit ?_
  refine ax (v:=.slice none 0 0) rfl rfl hF rfl (aF rfl rfl) ?_;clear hF;intro a hF
  refine wpList_nil ?_
  refine wp_ret ?_
  repeat with_reducible (first |refine er ?_ |refine lP ?_ |refine lO ?_)
  refine iu (.inl rfl) hF rfl (gL (hF.ev rfl)) ?_
  subst hx
  replace S:=S.nilrow 125 2
  exact ⟨none,0,0,rfl,rfl,S.sel [0] rfl rfl⟩
def da:Ctr:=⟨168,[.o Bq],[.o BT],false,fun x=>aP x⟩
theorem kK:bu Tryz.prog da:=⟨ZD,fun x res hm e w0 w X _ hp hS=>by
 obtain ⟨v,vr,hv,⟨l,hl,hro⟩,_⟩:=hp
 have hl:=(List.head_eq_of_cons_eq hv).trans hl
 injection hl with _ hl
 subst hl
 refine (kJ (A0:=e.a 0) (n0:=List.length x) (c0:=e.c 0) (w:=w) ⟨hro w _ hS (fun y hy=>List.mem_append_right _ hy),rfl⟩ hm).mono ?_
 rintro en w' ⟨B,N,D,rfl,hN,S⟩
 subst hN
 exact ⟨[_],[_],rfl,⟨[_],[],[],[_],[],[],rfl,rfl,⟨_,[],_,[],[_],[],rfl,rfl,rfl,⟨res,B,D,rfl,rfl,rfl⟩,rfl,rfl,rfl⟩,⟨rfl,rfl⟩,⟨[],[],[],[],rfl,rfl,⟨rfl,rfl⟩,⟨rfl,rfl⟩⟩⟩,hS.call1 S⟩⟩
def nj:Ctr:=⟨107,[AI],[CB],false,fun x=>fO x.1 x.2.1 x.2.2⟩
theorem rF:bu Tryz.prog nj:=ck [gN,da] [.cell 2 30] Am ⟨lU,kK,trivial⟩ YO Tryz.func107 Tryz.ntmps107 rfl rfl rfl fun _=>by kernel_rfl
set_option maxHeartbeats 4000000 in
theorem uw {x0:List Int} {A0:Option Addr} {n0 c0:Nat} {w:World} {r:List Int} (h0:Rt w 1 eI A0 n0 c0 x0) (hM:cB x0=some r):
 Calls Tryz.prog 108 #[.slice A0 n0 c0] w (fun e w'=> ∃(B0:Option Addr) (N0 D0:Nat),e= .returned (.slice B0 N0 D0)∧N0=r.length∧St w w' [.row 3 1 (.slice B0 N0 D0) N0 (r.flatMap eI)]):=by
 obtain rfl:=h0.len
 unfold cB at hM
 obtain ⟨hk,hM⟩:=cP hM
 replace hk:=yB hk
 obtain rfl:=Option.some.inj hM
 refine oW Tryz.func108 Tryz.ntmps108 rfl [(0,.slice A0 x0.length c0)] ⟨rfl,trivial⟩ rfl ?_
 intro a hF
 have S:=St.nil w
 refine wp_seq ?_
 refine wp_region_lit ?_
 refine ax (v:=.slice none 0 0) rfl rfl hF rfl (aF rfl rfl) ?_;clear hF;intro a hF
 refine wpList_nil ?_
 refine wp_seq ?_
 refine wp_seq ?_
 refine wp_region_lit ?_
 refine ax (v:=.slice A0 x0.length c0) rfl rfl hF rfl (aB rfl (hF.ev rfl)) ?_;clear hF;intro a hF
 refine ax (v:=.bool (Option.isNone A0)) rfl rfl hF rfl (oF rfl Tryz.underlying31 (hF.ev rfl) rfl) ?_;clear hF;intro a hF
 refine wpList_nil ?_
 cases hc101:(Option.isNone A0)
 ·have hx:=trivial
  refine vF hF rfl hc101 ?_
  refine wp_skip ?_
  refine wp_seq ?_
  refine wp_region_lit ?_
  refine ug (cs:= #[]) (size:=1) rfl rfl hF rfl S (jM rfl Tryz.underlying31 (congrArg Option.isSome YE)) rfl (Nat.zero_le _) ?_;clear hF S;intro a g102 u hF S
  refine ax (v:=.slice A0 x0.length c0) rfl rfl hF rfl (aB rfl (hF.ev rfl)) ?_;clear hF;intro a hF
  have hk105:=hk
  refine rl (lx:=[]) (ly:=x0) rfl rfl hF rfl S rfl (hF.ev rfl) (hF.ev rfl) (i:=0) rfl rfl Tryz.underlying31 aa5 rfl (by decide) (S.rc0 h0.rc).rd rfl QQ hk105 (by decide) ?_;clear hF S;intro a B103 d104 u hF S
  refine ax (v:=.slice B103 ((([]:List Int)++x0).length) d104) rfl rfl hF rfl (aF rfl (hF.ev rfl)) ?_;clear hF;intro a hF
  refine wpList_nil ?_
  refine wp_ret ?_
  repeat with_reducible (first |refine er ?_ |refine lP ?_ |refine lO ?_)
  refine iu (.inl rfl) hF rfl (gL (hF.ev rfl)) ?_
  exact ⟨B103,((([]:List Int)++x0).length),d104,rfl,rfl,S.sel [0] rfl rfl⟩
 ·have hx:=wH h0.rc.rd rfl hc101
  refine vG hF rfl hc101 ?_
  refine wp_seq ?_
  refine wp_region_lit ?_
  refine ax (v:=.slice none 0 0) rfl rfl hF rfl (aF rfl rfl) ?_;clear hF;intro a hF
  refine wpList_nil ?_
  refine wp_ret ?_
  repeat with_reducible (first |refine er ?_ |refine lP ?_ |refine lO ?_)
  refine iu (.inl rfl) hF rfl (gL (hF.ev rfl)) ?_
  subst hx
  replace S:=S.nilrow 3 1
  exact ⟨none,0,0,rfl,rfl,S.sel [0] rfl rfl⟩
def nq:Ctr:=⟨108,[BV],CL,false,fun x=>cB x⟩
theorem ux:bu Tryz.prog nq:=⟨YP,fun x res hm e w0 w X _ hp hS=>by
 obtain ⟨v,vr,hv,⟨l,hl,hro⟩,_⟩:=hp
 have hl:=(List.head_eq_of_cons_eq hv).trans hl
 injection hl with _ hl
 subst hl
 refine (uw (A0:=e.a 0) (n0:=List.length x) (c0:=e.c 0) (w:=w) ⟨hro w _ hS (fun y hy=>List.mem_append_right _ hy),rfl⟩ hm).mono ?_
 rintro en w' ⟨B,N,D,rfl,hN,S⟩
 subst hN
 exact ⟨[_],[_],rfl,⟨[_],[],[],[_],[],[],rfl,rfl,⟨_,[],_,[],[_],[],rfl,rfl,rfl,⟨res,B,D,rfl,rfl,rfl⟩,rfl,rfl,rfl⟩,⟨rfl,rfl⟩,⟨[],[],[],[],rfl,rfl,⟨rfl,rfl⟩,⟨rfl,rfl⟩⟩⟩,hS.call1 S⟩⟩
def iW:Ctr:=⟨43,[Ad],[Ai],false,fun x=>cf x.1 x.2.1 x.2.2.1 x.2.2.2.1 x.2.2.2.2.1 x.2.2.2.2.2.1 x.2.2.2.2.2.2⟩
theorem mC:bu Tryz.prog iW:=ck [eM,fB,nj,nq] [.cell 2 33] Am ⟨mD,mX,rF,ux,trivial⟩ ab8 Tryz.func43 Tryz.ntmps43 rfl rfl rfl fun _=>by kernel_rfl
def uU:Ctr:=⟨232,[AF],BF,false,fun x=>me x⟩
theorem DS:bu Tryz.prog uU:=ck [] [.tmp 2] Am trivial aap Tryz.func232 Tryz.ntmps232 rfl rfl rfl fun _=>by kernel_rfl
def vZ:Ctr:=⟨212,[AF,AF],BF,false,fun x=>nJ x.1 x.2⟩
theorem Fe:bu Tryz.prog vZ:=ck [uU] [.tmp 4] Am ⟨DS,trivial⟩ aah Tryz.func212 Tryz.ntmps212 rfl rfl rfl fun _=>by kernel_rfl
def re:Ctr:=⟨213,[AF],BF,false,fun x=>jl x⟩
theorem xY:bu Tryz.prog re:=ck [] [.tmp 2] Am trivial aai Tryz.func213 Tryz.ntmps213 rfl rfl rfl fun _=>by kernel_rfl
def iQ:Ctr:=⟨180,[BV,AF],[Bm,AH],false,fun x=>bX x.1 x.2⟩
theorem oX:bu Tryz.prog iQ:=ck [vZ,re] [.tmp 4,.tmp 5] (.q .z (.q .z (.q .z (.q (.cut ⟨[AV,As,Aq,AW,AC,BS],[],[]⟩ [] (.b (.lp CO (.q Am (.b (.q .z (.q .z (.cut CO [] Ac)))))))) Ac)))) ⟨Fe,xY,trivial⟩ ZM Tryz.func180 Tryz.ntmps180 rfl rfl rfl fun _=>by kernel_rfl
set_option maxHeartbeats 4000000 in
theorem tj {x0:List Int} {x1:Int} {x2:Int} {A0:Option Addr} {n0 c0:Nat} {w:World} {r:List Int} {w0:World} {X:List Asn} (h0:n0=x0.length) (S:St w0 w (Asn.row 3 1 (.slice A0 n0 c0) n0 (x0.flatMap eI)::X)) (hM:ci x0 x1 x2=some r):
 Calls Tryz.prog 182 #[.slice A0 n0 c0,.int .i64 x1,.int .i64 x2] w (fun e w'=> ∃(B0:Option Addr) (N0 D0:Nat),e= .returned (.slice B0 N0 D0)∧N0=r.length∧St w0 w' (Asn.row 3 1 (.slice B0 N0 D0) N0 (r.flatMap eI)::X)):=by
 obtain rfl:=h0
 unfold ci at hM
 refine oW Tryz.func182 Tryz.ntmps182 rfl [(0,.slice A0 x0.length c0),(1,.int .i64 x1),(2,.int .i64 x2)] ⟨rfl,rfl,rfl,trivial⟩ rfl ?_
 intro a hF
 refine wp_seq ?_
 refine wp_region_lit ?_
 refine ax (v:=.slice none 0 0) rfl rfl hF rfl (aF rfl rfl) ?_;clear hF;intro a hF
 refine wpList_nil ?_
 refine wp_seq ?_
 refine wp_region_lit ?_
 refine ax (v:=.slice A0 x0.length c0) rfl rfl hF rfl (aB rfl (hF.ev rfl)) ?_;clear hF;intro a hF
 refine ax (v:=.int .i64 x1) rfl rfl hF rfl (aB rfl (hF.ev rfl)) ?_;clear hF;intro a hF
 refine ax (v:=.int .i64 x2) rfl rfl hF rfl (aB rfl (hF.ev rfl)) ?_;clear hF;intro a hF
 refine ax (v:=.slice A0 x0.length c0) rfl rfl hF rfl (aB rfl (hF.ev rfl)) ?_;clear hF;intro a hF
 refine ax (v:=.int .i64 (x0.length:Int)) rfl rfl hF rfl (kV rfl rfl Tryz.underlying31 (hF.ev rfl)) ?_;clear hF;intro a hF
 obtain ⟨hk101,hM⟩:=cP hM
 replace hk101:=pB hk101
 refine ax (v:=.slice (bS ((x0.length:Int).toNat) x1.toNat 1 A0) (x2.toNat-x1.toNat) ((x0.length:Int).toNat-x1.toNat)) rfl rfl hF rfl (Gu rfl Tryz.underlying31 YE (hF.ev rfl) (hF.ev rfl) (hF.ev rfl) (hF.ev rfl) hk101 (Int.ofNat_le.2 (S.rc 0 rfl).cap)) ?_;clear hF;intro a hF
 refine wpList_nil ?_
 refine wp_seq ?_
 refine wp_seq ?_
 refine wp_region_lit ?_
 refine ax (v:=.int .i64 x1) rfl rfl hF rfl (aB rfl (hF.ev rfl)) ?_;clear hF;intro a hF
 refine ax (v:=.int .i64 x2) rfl rfl hF rfl (aB rfl (hF.ev rfl)) ?_;clear hF;intro a hF
 refine ax (v:=.bool (x1==x2)) rfl rfl hF rfl (Jj (hF.ev rfl) (hF.ev rfl) rfl) ?_;clear hF;intro a hF
 refine wpList_nil ?_
 cases hc102:(x1==x2)
 ·replace hM:=VI hc102 hM
  refine vF hF rfl hc102 ?_
  refine wp_skip ?_
  refine wp_seq ?_
  refine wp_region_lit ?_
  refine ax (v:=.slice A0 x0.length c0) rfl rfl hF rfl (aB rfl (hF.ev rfl)) ?_;clear hF;intro a hF
  refine ax (v:=.int .i64 (x0.length:Int)) rfl rfl hF rfl (kV rfl rfl Tryz.underlying31 (hF.ev rfl)) ?_;clear hF;intro a hF
  refine ax (v:=.int .i64 (x0.length:Int)) rfl rfl hF rfl (aF rfl (hF.ev rfl)) ?_;clear hF;intro a hF
  refine wpList_nil ?_
  refine wp_seq ?_
  obtain ⟨hk103,hM⟩:=cP hM
  replace hk103:=pB hk103
  obtain ⟨hk104,hM⟩:=cP hM
  replace hk104:=pB hk104
  obtain ⟨hk105,hM⟩:=cP hM
  replace hk105:=yB hk105
  have hp106:=(S.rc 0 rfl).cap
  have hq107:=Nw (l:=x0) (p:=x1) (q:=x2) rfl (by omega)
  refine HV (D:=[20,21,22,23,24,25,26,0]) (Lr:=(X)) (deps:=(fun |0=> [20] |1=> [21] |2=> [22] |3=> [23] |4=> [24] |5=> [25] |6=> [26] |7=> [0] |_=> [])) (rd:=(fun _=> [])) (zr:=(fun |2=> [6] |5=> [6] |_=> []))
   (φ:=fun i vs=>match i,vs with |0,[v20]=>v20= .slice A0 x0.length c0 |1,[v21]=>v21= .int .i64 x1 |2,[v22]=>v22= .slice (bS c0 ((0:Int).toNat) 1 A0) ((aj x0 0 x1).length) (c0-(0:Int).toNat) |3,[v23]=>v23= .slice A0 x0.length c0 |4,[v24]=>v24= .int .i64 x2 |5,[v25]=>v25= .slice (bS c0 x2.toNat 1 A0) ((aj x0 x2 (x0.length:Int)).length) (c0-x2.toNat) |6,[v26]=>v26= .slice A0 (((aj x0 0 x1)++(aj x0 x2 (x0.length:Int))).length) c0 |7,[v0]=>v0= .slice A0 (((aj x0 0 x1)++(aj x0 x2 (x0.length:Int))).length) c0 |_,_=>True)
   (C:=fun i vs=>match i,vs with |6,[v26]=> [.row 3 1 (.slice A0 (((aj x0 0 x1)++(aj x0 x2 (x0.length:Int))).length) c0) (((aj x0 0 x1)++(aj x0 x2 (x0.length:Int))).length) (((aj x0 0 x1)++(aj x0 x2 (x0.length:Int))).flatMap eI)] |_,_=> [])
   (κ:=(fun _=>none)) (Z:=(fun |6=> [.row 3 1 (.slice A0 x0.length c0) x0.length (x0.flatMap eI)] |_=> [])) mixed hF (by kernel_rfl) (show St w0 _ (Asn.row 3 1 (.slice A0 x0.length c0) x0.length (x0.flatMap eI)::X) from S.selT (M:=[.row 3 1 (.slice A0 x0.length c0) x0.length (x0.flatMap eI)]) 1 [0] rfl rfl rfl) ?_ ?_
  ·refine ⟨?_,?_,?_,?_,?_,?_,?_,?_,trivial⟩
   ·intro a u X' hB hu hp hr hz hl S
    replace S:St w0 u ([]++X'):=S
    exact .inl ⟨rfl,.slice A0 x0.length c0,u,(aB rfl (hF.evU (hu 7 0 rfl rfl) rfl)),rfl,S⟩
   ·intro a u X' hB hu hp hr hz hl S
    replace S:St w0 u ([]++X'):=S
    exact .inl ⟨rfl,.int .i64 x1,u,(aB rfl (hF.evB hB rfl rfl)),rfl,S⟩
   ·intro a u X' hB hu hp hr hz hl S
    replace S:St w0 u ([]++X'):=S
    have e20:sl a 20= .slice A0 x0.length c0:=hp 0 rfl
    have e21:sl a 21= .int .i64 x1:=hp 1 rfl
    exact .inl ⟨rfl,.slice (bS c0 ((0:Int).toNat) 1 A0) ((aj x0 0 x1).length) (c0-(0:Int).toNat),u,(uH (l:=x0) rfl Tryz.underlying31 YE (jF e20) (jF e21) hk103 rfl (yi (show Ow _ _ _ _ _ _ from S.mem (List.mem_append_right _ (hz 6 (List.mem_of_getElem? (i:=0) rfl) _ (List.mem_of_getElem? (i:=0) rfl))))).cap),rfl,S⟩
   ·intro a u X' hB hu hp hr hz hl S
    replace S:St w0 u ([]++X'):=S
    exact .inl ⟨rfl,.slice A0 x0.length c0,u,(aB rfl (hF.evU (hu 7 0 rfl rfl) rfl)),rfl,S⟩
   ·intro a u X' hB hu hp hr hz hl S
    replace S:St w0 u ([]++X'):=S
    exact .inl ⟨rfl,.int .i64 x2,u,(aB rfl (hF.evB hB rfl rfl)),rfl,S⟩
   ·intro a u X' hB hu hp hr hz hl S
    replace S:St w0 u ([]++X'):=S
    have e23:sl a 23= .slice A0 x0.length c0:=hp 3 rfl
    have e24:sl a 24= .int .i64 x2:=hp 4 rfl
    exact .inl ⟨rfl,.slice (bS c0 x2.toNat 1 A0) ((aj x0 x2 (x0.length:Int)).length) (c0-x2.toNat),u,(sY (l:=x0) rfl Tryz.underlying31 YE (jF e23) (jF e24) hk104 rfl (yi (show Ow _ _ _ _ _ _ from S.mem (List.mem_append_right _ (hz 6 (List.mem_of_getElem? (i:=0) rfl) _ (List.mem_of_getElem? (i:=0) rfl))))).cap),rfl,S⟩
   ·intro a u X' hB hu hp hr hz hl S
    replace S:St w0 u ([.row 3 1 (.slice A0 x0.length c0) x0.length (x0.flatMap eI)]++X'):=S
    have e22:sl a 22= .slice (bS c0 ((0:Int).toNat) 1 A0) ((aj x0 0 x1).length) (c0-(0:Int).toNat):=hp 2 rfl
    have e25:sl a 25= .slice (bS c0 x2.toNat 1 A0) ((aj x0 x2 (x0.length:Int)).length) (c0-x2.toNat):=hp 5 rfl
    obtain ⟨w',hrun,S'⟩:=S.delrow (i:=0) (P:=Tryz.prog) (ty:=31) (p:=x1) (q:=x2) rfl rfl QP QQ Tryz.underlying31 YE (by omega) (by omega) (by omega)
    exact .inl ⟨rfl,_,w',uG rfl (jF e22) (jF e25) hrun,rfl,S'⟩
   ·intro a u X' hB hu hp hr hz hl S
    replace S:St w0 u ([]++X'):=S
    have e26:sl a 26= .slice A0 (((aj x0 0 x1)++(aj x0 x2 (x0.length:Int))).length) c0:=hp 6 rfl
    exact .inl ⟨rfl,.slice A0 (((aj x0 0 x1)++(aj x0 x2 (x0.length:Int))).length) c0,u,(aF rfl (jF e26)),rfl,S⟩
  ·intro a u hB hp S
   obtain ⟨q0,q1,q2,q3,q4,q5,q6,q7,_⟩:=hp
   have e20:sl a 20= .slice A0 x0.length c0:=q0
   have e21:sl a 21= .int .i64 x1:=q1
   have e22:sl a 22= .slice (bS c0 ((0:Int).toNat) 1 A0) ((aj x0 0 x1).length) (c0-(0:Int).toNat):=q2
   have e23:sl a 23= .slice A0 x0.length c0:=q3
   have e24:sl a 24= .int .i64 x2:=q4
   have e25:sl a 25= .slice (bS c0 x2.toNat 1 A0) ((aj x0 x2 (x0.length:Int)).length) (c0-x2.toNat):=q5
   have e26:sl a 26= .slice A0 (((aj x0 0 x1)++(aj x0 x2 (x0.length:Int))).length) c0:=q6
   have e0:sl a 0= .slice A0 (((aj x0 0 x1)++(aj x0 x2 (x0.length:Int))).length) c0:=q7
   replace S:St w0 u (Asn.row 3 1 (.slice A0 (((aj x0 0 x1)++(aj x0 x2 (x0.length:Int))).length) c0) (((aj x0 0 x1)++(aj x0 x2 (x0.length:Int))).length) (((aj x0 0 x1)++(aj x0 x2 (x0.length:Int))).flatMap eI)::X):=S
   clear q0 q1 q2 q3 q4 q5 q6 q7
   have hF:=hF.region hB [(20,.slice A0 x0.length c0),(21,.int .i64 x1),(22,.slice (bS c0 ((0:Int).toNat) 1 A0) ((aj x0 0 x1).length) (c0-(0:Int).toNat)),(23,.slice A0 x0.length c0),(24,.int .i64 x2),(25,.slice (bS c0 x2.toNat 1 A0) ((aj x0 x2 (x0.length:Int)).length) (c0-x2.toNat)),(26,.slice A0 (((aj x0 0 x1)++(aj x0 x2 (x0.length:Int))).length) c0),(0,.slice A0 (((aj x0 0 x1)++(aj x0 x2 (x0.length:Int))).length) c0)] (zO ⟨e20,e21,e22,e23,e24,e25,e26,e0,trivial⟩) rfl
   clear hB e20 e21 e22 e23 e24 e25 e26 e0
   refine wp_seq ?_
   refine wp_region_lit ?_
   refine ax (v:=.slice A0 (((aj x0 0 x1)++(aj x0 x2 (x0.length:Int))).length) c0) rfl rfl hF rfl (aB rfl (hF.ev rfl)) ?_;clear hF;intro a hF
   refine ax (v:=.slice A0 (((aj x0 0 x1)++(aj x0 x2 (x0.length:Int))).length) c0) rfl rfl hF rfl (aB rfl (hF.ev rfl)) ?_;clear hF;intro a hF
   refine ax (v:=.int .i64 ((((aj x0 0 x1)++(aj x0 x2 (x0.length:Int))).length):Int)) rfl rfl hF rfl (kV rfl rfl Tryz.underlying31 (hF.ev rfl)) ?_;clear hF;intro a hF
   refine ax (v:=.int .i64 (x0.length:Int)) rfl rfl hF rfl (aB rfl (hF.ev rfl)) ?_;clear hF;intro a hF
   refine ax (v:=.slice (bS c0 (((((aj x0 0 x1)++(aj x0 x2 (x0.length:Int))).length):Int).toNat) 1 A0) ((x0.length:Int).toNat-((((aj x0 0 x1)++(aj x0 x2 (x0.length:Int))).length):Int).toNat) (c0-((((aj x0 0 x1)++(aj x0 x2 (x0.length:Int))).length):Int).toNat)) rfl rfl hF rfl (zD rfl Tryz.underlying31 YE (hF.ev rfl) (hF.ev rfl) (hF.ev rfl) ⟨Int.natCast_nonneg _,Int.ofNat_le.2 hq107,Int.ofNat_le.2 hp106⟩) ?_;clear hF;intro a hF
   obtain ⟨w',hrun,S'⟩:=S.clear (i:=0) (P:=Tryz.prog) (hi:=(x0.length:Int)) rfl rfl QP Tryz.underlying31 aa5 rfl rfl ⟨Int.ofNat_le.2 hq107,Int.ofNat_le.2 hp106⟩
   refine DP rfl rfl rfl (hF.ev rfl) hrun ?_
   clear S hrun;have S:=S';clear S';generalize w'=u at S ⊢
   refine wpList_nil ?_
   refine wp_seq ?_
   refine wp_region_lit ?_
   refine ax (v:=.slice A0 (((aj x0 0 x1)++(aj x0 x2 (x0.length:Int))).length) c0) rfl rfl hF rfl (aB rfl (hF.ev rfl)) ?_;clear hF;intro a hF
   refine ax (v:=.slice A0 (((aj x0 0 x1)++(aj x0 x2 (x0.length:Int))).length) c0) rfl rfl hF rfl (aF rfl (hF.ev rfl)) ?_;clear hF;intro a hF
   refine wpList_nil ?_
   refine wp_ret ?_
   repeat with_reducible (first |refine er ?_ |refine lP ?_ |refine lO ?_)
   refine iu (.inl rfl) hF rfl (gL (hF.ev rfl)) ?_
   obtain rfl:=Option.some.inj hM
   exact ⟨A0,(((aj x0 0 x1)++(aj x0 x2 (x0.length:Int))).length),c0,rfl,rfl,S.selT (M:=[.row 3 1 (.slice A0 (((aj x0 0 x1)++(aj x0 x2 (x0.length:Int))).length) c0) (((aj x0 0 x1)++(aj x0 x2 (x0.length:Int))).length) (((aj x0 0 x1)++(aj x0 x2 (x0.length:Int))).flatMap eI)]) 1 [0] rfl rfl rfl⟩
 ·replace hM:=VJ hc102 hM
  refine vG hF rfl hc102 ?_
  refine wp_seq ?_
  refine wp_region_lit ?_
  refine ax (v:=.slice A0 x0.length c0) rfl rfl hF rfl (aB rfl (hF.ev rfl)) ?_;clear hF;intro a hF
  refine ax (v:=.slice A0 x0.length c0) rfl rfl hF rfl (aF rfl (hF.ev rfl)) ?_;clear hF;intro a hF
  refine wpList_nil ?_
  refine wp_ret ?_
  repeat with_reducible (first |refine er ?_ |refine lP ?_ |refine lO ?_)
  refine iu (.inl rfl) hF rfl (gL (hF.ev rfl)) ?_
  obtain rfl:=Option.some.inj hM
  exact ⟨A0,x0.length,c0,rfl,rfl,S.selT (M:=[.row 3 1 (.slice A0 x0.length c0) x0.length (x0.flatMap eI)]) 1 [0] rfl rfl rfl⟩
def mM:Ctr:=⟨182,[CI,AF,AF],CL,true,fun x=>ci x.1 x.2.1 x.2.2⟩
theorem tn:bu Tryz.prog mM:=⟨ZO,fun x res hm e w0 w X _ hp hS=>(tj (w:=w) (w0:=w0) (X:=X) (A0:=e.a 0) (n0:=x.1.length) (c0:=e.c 0) rfl hS hm).mono (by
 rintro en w' ⟨B,N,D,rfl,hN,S⟩
 subst hN
 exact ⟨_,_,rfl,⟨[_],[],[],[_],[],[],rfl,rfl,⟨_,[],_,[],[_],[],rfl,rfl,rfl,⟨res,B,D,rfl,rfl,rfl⟩,rfl,rfl,rfl⟩,⟨rfl,rfl⟩,⟨[],[],[],[],rfl,rfl,⟨rfl,rfl⟩,⟨[],[],[],[],rfl,rfl,⟨rfl,rfl⟩,⟨[],[],[],[],rfl,rfl,⟨rfl,rfl⟩,⟨rfl,rfl⟩⟩⟩⟩⟩,S⟩)⟩
set_option maxHeartbeats 4000000 in
theorem tm {x0:List Int} {x1:Int} {x2:List Int} {A0:Option Addr} {n0 c0:Nat} {A2:Option Addr} {n2 c2:Nat} {w:World} {r:List Int} {w0:World} {X:List Asn} (h0:n0=x0.length) (h2:n2=x2.length) (S:St w0 w (Asn.row 3 1 (.slice A0 n0 c0) n0 (x0.flatMap eI)::Asn.row 3 1 (.slice A2 n2 c2) n2 (x2.flatMap eI)::X)) (hM:cj x0 x1 x2=some r):
 Calls Tryz.prog 181 #[.slice A0 n0 c0,.int .i64 x1,.slice A2 n2 c2] w (fun e w'=> ∃(B0:Option Addr) (N0 D0:Nat),e= .returned (.slice B0 N0 D0)∧N0=r.length∧St w0 w' (Asn.row 3 1 (.slice B0 N0 D0) N0 (r.flatMap eI)::X)):=by
 obtain rfl:=h0
 obtain rfl:=h2
 unfold cj at hM
 obtain ⟨hk1,hM⟩:=cP hM
 obtain ⟨hk2,hM⟩:=cP hM
 obtain ⟨hk3,hM⟩:=cP hM
 obtain rfl:=Option.some.inj hM
 replace hk1:=pB hk1
 replace hk2:=yB hk2
 obtain ⟨y,rfl⟩: ∃y,x2=[y]:=List.length_eq_one_iff.1 (by have:=eq_of_beq hk3;omega)
 refine (Pg S (k:=0) (m:=1) rfl rfl rfl (by decide) ⟨hk1.2.1,hk1.2.2⟩ hk2).mono ?_
 rintro e w' ⟨B,D,rfl,T⟩
 exact ⟨B,_,D,rfl,UE hk1.2.1 hk1.2.2,T.sub (.cons_cons _ (.cons _ (List.Sublist.refl _)))⟩
def mN:Ctr:=⟨181,[CI,AF,CI],CL,true,fun x=>cj x.1 x.2.1 x.2.2⟩
theorem tp:bu Tryz.prog mN:=⟨ZN,fun x res hm e w0 w X _ hp hS=>(tm (w:=w) (w0:=w0) (X:=X) (A0:=e.a 0) (n0:=x.1.length) (c0:=e.c 0) (A2:=e.a 2) (n2:=x.2.2.length) (c2:=e.c 2) rfl rfl hS hm).mono (by
 rintro en w' ⟨B,N,D,rfl,hN,S⟩
 subst hN
 exact ⟨_,_,rfl,⟨[_],[],[],[_],[],[],rfl,rfl,⟨_,[],_,[],[_],[],rfl,rfl,rfl,⟨res,B,D,rfl,rfl,rfl⟩,rfl,rfl,rfl⟩,⟨rfl,rfl⟩,⟨[],[],[],[],rfl,rfl,⟨rfl,rfl⟩,⟨[],[],[],[],rfl,rfl,⟨rfl,rfl⟩,⟨[],[],[],[],rfl,rfl,⟨rfl,rfl⟩,⟨rfl,rfl⟩⟩⟩⟩⟩,S⟩)⟩
def uX:Ctr:=⟨234,[AI,AF],CL,false,fun x=>mg x.1 x.2.1 x.2.2.1 x.2.2.2⟩
theorem DV:bu Tryz.prog uX:=ck [ld] [.tmp 4] (.q .z (.q Af (.q .z (.q (.q .z (.cut BH [] (.b (.lp ⟨[As,Aq,CN,BK,BW,(14,Ag)],[],[]⟩ (.q .z (.q Ac (.q (.b (.q .z (.q .z (.cut ⟨[As,Aq,CN,BK,BW,(14,Ab)],[],[]⟩ [] Ac)))) .z))))))) Ac)))) ⟨ox,trivial⟩ aaq Tryz.func234 Tryz.ntmps234 rfl rfl rfl fun _=>by kernel_rfl
def uY:Ctr:=⟨216,[AI,BA],BF,false,fun x=>mh x.1 x.2.1 x.2.2.1 x.2.2.2.1 x.2.2.2.2.1 x.2.2.2.2.2⟩
theorem DW:bu Tryz.prog uY:=ck [aX,uX] [.tmp 4] (.q .z (.q .z (.q .z (.q (.q .z (.b (.q (.q .z (.cut ⟨[Av,AU,Aq,AW,AC,Bg,(29,Ab),(30,BX)],[(3,AP),(2,AP)],[]⟩ [] Ac)) BI))) Ac)))) ⟨bH,DV,trivial⟩ aaj Tryz.func216 Tryz.ntmps216 rfl rfl rfl fun _=>by kernel_rfl
set_option maxHeartbeats 4000000 in
theorem kC {x0:List (Int×Int)} {x1:Int} {x2:Int} {A0:Option Addr} {n0 c0:Nat} {w:World} {r:List (Int×Int)} {w0:World} {X:List Asn} (h0:n0=x0.length) (S:St w0 w (Asn.row 125 2 (.slice A0 n0 c0) n0 (x0.flatMap iU)::X)) (hM:aL x0 x1 x2=some r):
 Calls Tryz.prog 217 #[.slice A0 n0 c0,.int .i64 x1,.int .i64 x2] w (fun e w'=> ∃(B0:Option Addr) (N0 D0:Nat),e= .returned (.slice B0 N0 D0)∧N0=r.length∧St w0 w' (Asn.row 125 2 (.slice B0 N0 D0) N0 (r.flatMap iU)::X)):=by
 obtain rfl:=h0
 unfold aL at hM
 refine oW Tryz.func217 Tryz.ntmps217 rfl [(0,.slice A0 x0.length c0),(1,.int .i64 x1),(2,.int .i64 x2)] ⟨rfl,rfl,rfl,trivial⟩ rfl ?_
 intro a hF
 refine wp_seq ?_
 refine wp_region_lit ?_
 refine ax (v:=.slice none 0 0) rfl rfl hF rfl (aF rfl rfl) ?_;clear hF;intro a hF
 refine wpList_nil ?_
 refine wp_seq ?_
 refine wp_region_lit ?_
 refine ax (v:=.slice A0 x0.length c0) rfl rfl hF rfl (aB rfl (hF.ev rfl)) ?_;clear hF;intro a hF
 refine ax (v:=.int .i64 x1) rfl rfl hF rfl (aB rfl (hF.ev rfl)) ?_;clear hF;intro a hF
 refine ax (v:=.int .i64 x2) rfl rfl hF rfl (aB rfl (hF.ev rfl)) ?_;clear hF;intro a hF
 refine ax (v:=.slice A0 x0.length c0) rfl rfl hF rfl (aB rfl (hF.ev rfl)) ?_;clear hF;intro a hF
 refine ax (v:=.int .i64 (x0.length:Int)) rfl rfl hF rfl (kV rfl rfl Tryz.underlying28 (hF.ev rfl)) ?_;clear hF;intro a hF
 obtain ⟨hk101,hM⟩:=cP hM
 replace hk101:=pB hk101
 refine ax (v:=.slice (bS ((x0.length:Int).toNat) x1.toNat 2 A0) (x2.toNat-x1.toNat) ((x0.length:Int).toNat-x1.toNat)) rfl rfl hF rfl (Gu rfl Tryz.underlying28 Ic (hF.ev rfl) (hF.ev rfl) (hF.ev rfl) (hF.ev rfl) hk101 (Int.ofNat_le.2 (S.rc 0 rfl).cap)) ?_;clear hF;intro a hF
 refine wpList_nil ?_
 refine wp_seq ?_
 refine wp_seq ?_
 refine wp_region_lit ?_
 refine ax (v:=.int .i64 x1) rfl rfl hF rfl (aB rfl (hF.ev rfl)) ?_;clear hF;intro a hF
 refine ax (v:=.int .i64 x2) rfl rfl hF rfl (aB rfl (hF.ev rfl)) ?_;clear hF;intro a hF
 refine ax (v:=.bool (x1==x2)) rfl rfl hF rfl (Jj (hF.ev rfl) (hF.ev rfl) rfl) ?_;clear hF;intro a hF
 refine wpList_nil ?_
 cases hc102:(x1==x2)
 ·replace hM:=VI hc102 hM
  refine vF hF rfl hc102 ?_
  refine wp_skip ?_
  refine wp_seq ?_
  refine wp_region_lit ?_
  refine ax (v:=.slice A0 x0.length c0) rfl rfl hF rfl (aB rfl (hF.ev rfl)) ?_;clear hF;intro a hF
  refine ax (v:=.int .i64 (x0.length:Int)) rfl rfl hF rfl (kV rfl rfl Tryz.underlying28 (hF.ev rfl)) ?_;clear hF;intro a hF
  refine ax (v:=.int .i64 (x0.length:Int)) rfl rfl hF rfl (aF rfl (hF.ev rfl)) ?_;clear hF;intro a hF
  refine wpList_nil ?_
  refine wp_seq ?_
  obtain ⟨hk103,hM⟩:=cP hM
  replace hk103:=pB hk103
  obtain ⟨hk104,hM⟩:=cP hM
  replace hk104:=pB hk104
  obtain ⟨hk105,hM⟩:=cP hM
  replace hk105:=yB hk105
  have hp106:=(S.rc 0 rfl).cap
  have hq107:=Nw (l:=x0) (p:=x1) (q:=x2) rfl (by omega)
  refine HV (D:=[20,21,22,23,24,25,26,0]) (Lr:=(X)) (deps:=(fun |0=> [20] |1=> [21] |2=> [22] |3=> [23] |4=> [24] |5=> [25] |6=> [26] |7=> [0] |_=> [])) (rd:=(fun _=> [])) (zr:=(fun |2=> [6] |5=> [6] |_=> []))
   (φ:=fun i vs=>match i,vs with |0,[v20]=>v20= .slice A0 x0.length c0 |1,[v21]=>v21= .int .i64 x1 |2,[v22]=>v22= .slice (bS c0 ((0:Int).toNat) 2 A0) ((aj x0 0 x1).length) (c0-(0:Int).toNat) |3,[v23]=>v23= .slice A0 x0.length c0 |4,[v24]=>v24= .int .i64 x2 |5,[v25]=>v25= .slice (bS c0 x2.toNat 2 A0) ((aj x0 x2 (x0.length:Int)).length) (c0-x2.toNat) |6,[v26]=>v26= .slice A0 (((aj x0 0 x1)++(aj x0 x2 (x0.length:Int))).length) c0 |7,[v0]=>v0= .slice A0 (((aj x0 0 x1)++(aj x0 x2 (x0.length:Int))).length) c0 |_,_=>True)
   (C:=fun i vs=>match i,vs with |6,[v26]=> [.row 125 2 (.slice A0 (((aj x0 0 x1)++(aj x0 x2 (x0.length:Int))).length) c0) (((aj x0 0 x1)++(aj x0 x2 (x0.length:Int))).length) (((aj x0 0 x1)++(aj x0 x2 (x0.length:Int))).flatMap iU)] |_,_=> [])
   (κ:=(fun _=>none)) (Z:=(fun |6=> [.row 125 2 (.slice A0 x0.length c0) x0.length (x0.flatMap iU)] |_=> [])) mixed hF (by kernel_rfl) (show St w0 _ (Asn.row 125 2 (.slice A0 x0.length c0) x0.length (x0.flatMap iU)::X) from S.selT (M:=[.row 125 2 (.slice A0 x0.length c0) x0.length (x0.flatMap iU)]) 1 [0] rfl rfl rfl) ?_ ?_
  ·refine ⟨?_,?_,?_,?_,?_,?_,?_,?_,trivial⟩
   ·intro a u X' hB hu hp hr hz hl S
    replace S:St w0 u ([]++X'):=S
    exact .inl ⟨rfl,.slice A0 x0.length c0,u,(aB rfl (hF.evU (hu 7 0 rfl rfl) rfl)),rfl,S⟩
   ·intro a u X' hB hu hp hr hz hl S
    replace S:St w0 u ([]++X'):=S
    exact .inl ⟨rfl,.int .i64 x1,u,(aB rfl (hF.evB hB rfl rfl)),rfl,S⟩
   ·intro a u X' hB hu hp hr hz hl S
    replace S:St w0 u ([]++X'):=S
    have e20:sl a 20= .slice A0 x0.length c0:=hp 0 rfl
    have e21:sl a 21= .int .i64 x1:=hp 1 rfl
    exact .inl ⟨rfl,.slice (bS c0 ((0:Int).toNat) 2 A0) ((aj x0 0 x1).length) (c0-(0:Int).toNat),u,(uH (l:=x0) rfl Tryz.underlying28 Ic (jF e20) (jF e21) hk103 rfl (yi (show Ow _ _ _ _ _ _ from S.mem (List.mem_append_right _ (hz 6 (List.mem_of_getElem? (i:=0) rfl) _ (List.mem_of_getElem? (i:=0) rfl))))).cap),rfl,S⟩
   ·intro a u X' hB hu hp hr hz hl S
    replace S:St w0 u ([]++X'):=S
    exact .inl ⟨rfl,.slice A0 x0.length c0,u,(aB rfl (hF.evU (hu 7 0 rfl rfl) rfl)),rfl,S⟩
   ·intro a u X' hB hu hp hr hz hl S
    replace S:St w0 u ([]++X'):=S
    exact .inl ⟨rfl,.int .i64 x2,u,(aB rfl (hF.evB hB rfl rfl)),rfl,S⟩
   ·intro a u X' hB hu hp hr hz hl S
    replace S:St w0 u ([]++X'):=S
    have e23:sl a 23= .slice A0 x0.length c0:=hp 3 rfl
    have e24:sl a 24= .int .i64 x2:=hp 4 rfl
    exact .inl ⟨rfl,.slice (bS c0 x2.toNat 2 A0) ((aj x0 x2 (x0.length:Int)).length) (c0-x2.toNat),u,(sY (l:=x0) rfl Tryz.underlying28 Ic (jF e23) (jF e24) hk104 rfl (yi (show Ow _ _ _ _ _ _ from S.mem (List.mem_append_right _ (hz 6 (List.mem_of_getElem? (i:=0) rfl) _ (List.mem_of_getElem? (i:=0) rfl))))).cap),rfl,S⟩
   ·intro a u X' hB hu hp hr hz hl S
    replace S:St w0 u ([.row 125 2 (.slice A0 x0.length c0) x0.length (x0.flatMap iU)]++X'):=S
    have e22:sl a 22= .slice (bS c0 ((0:Int).toNat) 2 A0) ((aj x0 0 x1).length) (c0-(0:Int).toNat):=hp 2 rfl
    have e25:sl a 25= .slice (bS c0 x2.toNat 2 A0) ((aj x0 x2 (x0.length:Int)).length) (c0-x2.toNat):=hp 5 rfl
    obtain ⟨w',hrun,S'⟩:=S.delrow (i:=0) (P:=Tryz.prog) (ty:=28) (p:=x1) (q:=x2) rfl rfl DH DJ Tryz.underlying28 Ic (by omega) (by omega) (by omega)
    exact .inl ⟨rfl,_,w',uG rfl (jF e22) (jF e25) hrun,rfl,S'⟩
   ·intro a u X' hB hu hp hr hz hl S
    replace S:St w0 u ([]++X'):=S
    have e26:sl a 26= .slice A0 (((aj x0 0 x1)++(aj x0 x2 (x0.length:Int))).length) c0:=hp 6 rfl
    exact .inl ⟨rfl,.slice A0 (((aj x0 0 x1)++(aj x0 x2 (x0.length:Int))).length) c0,u,(aF rfl (jF e26)),rfl,S⟩
  ·intro a u hB hp S
   obtain ⟨q0,q1,q2,q3,q4,q5,q6,q7,_⟩:=hp
   have e20:sl a 20= .slice A0 x0.length c0:=q0
   have e21:sl a 21= .int .i64 x1:=q1
   have e22:sl a 22= .slice (bS c0 ((0:Int).toNat) 2 A0) ((aj x0 0 x1).length) (c0-(0:Int).toNat):=q2
   have e23:sl a 23= .slice A0 x0.length c0:=q3
   have e24:sl a 24= .int .i64 x2:=q4
   have e25:sl a 25= .slice (bS c0 x2.toNat 2 A0) ((aj x0 x2 (x0.length:Int)).length) (c0-x2.toNat):=q5
   have e26:sl a 26= .slice A0 (((aj x0 0 x1)++(aj x0 x2 (x0.length:Int))).length) c0:=q6
   have e0:sl a 0= .slice A0 (((aj x0 0 x1)++(aj x0 x2 (x0.length:Int))).length) c0:=q7
   replace S:St w0 u (Asn.row 125 2 (.slice A0 (((aj x0 0 x1)++(aj x0 x2 (x0.length:Int))).length) c0) (((aj x0 0 x1)++(aj x0 x2 (x0.length:Int))).length) (((aj x0 0 x1)++(aj x0 x2 (x0.length:Int))).flatMap iU)::X):=S
   clear q0 q1 q2 q3 q4 q5 q6 q7
   have hF:=hF.region hB [(20,.slice A0 x0.length c0),(21,.int .i64 x1),(22,.slice (bS c0 ((0:Int).toNat) 2 A0) ((aj x0 0 x1).length) (c0-(0:Int).toNat)),(23,.slice A0 x0.length c0),(24,.int .i64 x2),(25,.slice (bS c0 x2.toNat 2 A0) ((aj x0 x2 (x0.length:Int)).length) (c0-x2.toNat)),(26,.slice A0 (((aj x0 0 x1)++(aj x0 x2 (x0.length:Int))).length) c0),(0,.slice A0 (((aj x0 0 x1)++(aj x0 x2 (x0.length:Int))).length) c0)] (zO ⟨e20,e21,e22,e23,e24,e25,e26,e0,trivial⟩) rfl
   clear hB e20 e21 e22 e23 e24 e25 e26 e0
   refine wp_seq ?_
   refine wp_region_lit ?_
   refine ax (v:=.slice A0 (((aj x0 0 x1)++(aj x0 x2 (x0.length:Int))).length) c0) rfl rfl hF rfl (aB rfl (hF.ev rfl)) ?_;clear hF;intro a hF
   refine ax (v:=.slice A0 (((aj x0 0 x1)++(aj x0 x2 (x0.length:Int))).length) c0) rfl rfl hF rfl (aB rfl (hF.ev rfl)) ?_;clear hF;intro a hF
   refine ax (v:=.int .i64 ((((aj x0 0 x1)++(aj x0 x2 (x0.length:Int))).length):Int)) rfl rfl hF rfl (kV rfl rfl Tryz.underlying28 (hF.ev rfl)) ?_;clear hF;intro a hF
   refine ax (v:=.int .i64 (x0.length:Int)) rfl rfl hF rfl (aB rfl (hF.ev rfl)) ?_;clear hF;intro a hF
   refine ax (v:=.slice (bS c0 (((((aj x0 0 x1)++(aj x0 x2 (x0.length:Int))).length):Int).toNat) 2 A0) ((x0.length:Int).toNat-((((aj x0 0 x1)++(aj x0 x2 (x0.length:Int))).length):Int).toNat) (c0-((((aj x0 0 x1)++(aj x0 x2 (x0.length:Int))).length):Int).toNat)) rfl rfl hF rfl (zD rfl Tryz.underlying28 Ic (hF.ev rfl) (hF.ev rfl) (hF.ev rfl) ⟨Int.natCast_nonneg _,Int.ofNat_le.2 hq107,Int.ofNat_le.2 hp106⟩) ?_;clear hF;intro a hF
   obtain ⟨w',hrun,S'⟩:=S.clear (i:=0) (P:=Tryz.prog) (hi:=(x0.length:Int)) rfl rfl DH Tryz.underlying28 RD rfl rfl ⟨Int.ofNat_le.2 hq107,Int.ofNat_le.2 hp106⟩
   refine DP rfl rfl rfl (hF.ev rfl) hrun ?_
   clear S hrun;have S:=S';clear S';generalize w'=u at S ⊢
   refine wpList_nil ?_
   refine wp_seq ?_
   refine wp_region_lit ?_
   refine ax (v:=.slice A0 (((aj x0 0 x1)++(aj x0 x2 (x0.length:Int))).length) c0) rfl rfl hF rfl (aB rfl (hF.ev rfl)) ?_;clear hF;intro a hF
   refine ax (v:=.slice A0 (((aj x0 0 x1)++(aj x0 x2 (x0.length:Int))).length) c0) rfl rfl hF rfl (aF rfl (hF.ev rfl)) ?_;clear hF;intro a hF
   refine wpList_nil ?_
   refine wp_ret ?_
   repeat with_reducible (first |refine er ?_ |refine lP ?_ |refine lO ?_)
   refine iu (.inl rfl) hF rfl (gL (hF.ev rfl)) ?_
   obtain rfl:=Option.some.inj hM
   exact ⟨A0,(((aj x0 0 x1)++(aj x0 x2 (x0.length:Int))).length),c0,rfl,rfl,S.selT (M:=[.row 125 2 (.slice A0 (((aj x0 0 x1)++(aj x0 x2 (x0.length:Int))).length) c0) (((aj x0 0 x1)++(aj x0 x2 (x0.length:Int))).length) (((aj x0 0 x1)++(aj x0 x2 (x0.length:Int))).flatMap iU)]) 1 [0] rfl rfl rfl⟩
 ·replace hM:=VJ hc102 hM
  refine vG hF rfl hc102 ?_
  refine wp_seq ?_
  refine wp_region_lit ?_
  refine ax (v:=.slice A0 x0.length c0) rfl rfl hF rfl (aB rfl (hF.ev rfl)) ?_;clear hF;intro a hF
  refine ax (v:=.slice A0 x0.length c0) rfl rfl hF rfl (aF rfl (hF.ev rfl)) ?_;clear hF;intro a hF
  refine wpList_nil ?_
  refine wp_ret ?_
  repeat with_reducible (first |refine er ?_ |refine lP ?_ |refine lO ?_)
  refine iu (.inl rfl) hF rfl (gL (hF.ev rfl)) ?_
  obtain rfl:=Option.some.inj hM
  exact ⟨A0,x0.length,c0,rfl,rfl,S.selT (M:=[.row 125 2 (.slice A0 x0.length c0) x0.length (x0.flatMap iU)]) 1 [0] rfl rfl rfl⟩
def cV:Ctr:=⟨217,[.o (.sl .tk 125 Ah),AF,AF],[.o BT],true,fun x=>aL x.1 x.2.1 x.2.2⟩
theorem kD:bu Tryz.prog cV:=⟨aak,fun x res hm e w0 w X _ hp hS=>(kC (w:=w) (w0:=w0) (X:=X) (A0:=e.a 0) (n0:=x.1.length) (c0:=e.c 0) rfl hS hm).mono (by
 rintro en w' ⟨B,N,D,rfl,hN,S⟩
 subst hN
 exact ⟨_,_,rfl,⟨[_],[],[],[_],[],[],rfl,rfl,⟨_,[],_,[],[_],[],rfl,rfl,rfl,⟨res,B,D,rfl,rfl,rfl⟩,rfl,rfl,rfl⟩,⟨rfl,rfl⟩,⟨[],[],[],[],rfl,rfl,⟨rfl,rfl⟩,⟨[],[],[],[],rfl,rfl,⟨rfl,rfl⟩,⟨[],[],[],[],rfl,rfl,⟨rfl,rfl⟩,⟨rfl,rfl⟩⟩⟩⟩⟩,S⟩)⟩
def xI:Ctr:=⟨183,[AI,BA],[CB,AH],false,fun x=>oP x.1 x.2.1 x.2.2.1 x.2.2.2.1 x.2.2.2.2.1 x.2.2.2.2.2⟩
theorem GM:bu Tryz.prog xI:=ck [ld,nj,uY,bP,cV] [.cell 4 30,.tmp 5] (.q .z (.q Af (.q .z (.q Af (.q .z (.q (.q .z (.b (.q (.q .z (.cut ⟨[AU,Aq,AW,AC,Bg,(39,Ab),(40,BX)],[(7,AB),(6,AP),(4,AP),(3,AP)],[]⟩ [] Ac)) (.cut Bv [] (.q .z (.q (.q .z (.cut ⟨[AU,Aq,AW,AC,Bg,(39,Ab),(51,BX)],[(7,AB),(6,AP),(4,AP),(3,AP)],[]⟩ [] Ac)) (.cut Bw [] (.q .z (.q .z (.cut Bx [] (.q .z (.q .z (.cut Bx [] BP))))))))))))) Ac)))))) ⟨ox,rF,DW,cY,kD,trivial⟩ ZP Tryz.func183 Tryz.ntmps183 rfl rfl rfl fun _=>by kernel_rfl
def vd:Ctr:=⟨119,[.bx 33 [Ak,.sl .mu 77 AS,.sl .mu 122 Ah,.sl .mu 4 .b,.sl .mu 4 .b,.sl .mu 125 Ah,BO],BA],BF,true,fun x=>mj x.1 x.2.1 x.2.2.1 x.2.2.2.1 x.2.2.2.2.1 x.2.2.2.2.2.1 x.2.2.2.2.2.2.1 x.2.2.2.2.2.2.2.1 x.2.2.2.2.2.2.2.2.1 x.2.2.2.2.2.2.2.2.2⟩
theorem DY:bu Tryz.prog vd:=ck [iQ,mN,aX,mM,xI,sV] [.tmp 4] (.q .z (.q .z (.q (.q .z (.b (.q .z (.q (.q Af BJ) (.q .z (.q (.q Af Am) (.q .z (.cut ⟨[AV,AU,Aq],[(3,AP),(4096,Aj)],[]⟩ BR (.q Af .z))))))))) BJ))) ⟨oX,tp,bH,tn,GM,xF,trivial⟩ YZ Tryz.func119 Tryz.ntmps119 rfl rfl rfl fun _=>by kernel_rfl
def qY:Ctr:=⟨53,[Ad,BA],[Ai,AH],false,fun x=>kO x.1 x.2.1 x.2.2.1 x.2.2.2.1 x.2.2.2.2.1 x.2.2.2.2.2.1 x.2.2.2.2.2.2.1 x.2.2.2.2.2.2.2.1 x.2.2.2.2.2.2.2.2.1 x.2.2.2.2.2.2.2.2.2⟩
theorem vK:bu Tryz.prog qY:=ck [cw,iW,cd,vd] [.cell 4 33,.tmp 5] (.q .z (.q Af (.q .z (.q (.q (.cut ⟨[Av,Aq,AW,AC,(23,BX)],[(6,Ap),BN,(2,Aj)],[]⟩ [] .z) BP) Ac)))) ⟨dC,mC,cQ,DY,trivial⟩ acj Tryz.func53 Tryz.ntmps53 rfl rfl rfl fun _=>by kernel_rfl
def qj:Ctr:=⟨113,[AI],[Co],false,fun x=>gW x.1 x.2.1 x.2.2⟩
theorem xp:bu Tryz.prog qj:=ck [] [.tmp 2] (.q .z (.q .z (.q (.q .z (.cut CJ [] (.b (.lp ⟨[Av,BU,Bg,AR,CM],[],[]⟩ Be)))) Ac))) trivial YU Tryz.func113 Tryz.ntmps113 rfl rfl rfl fun _=>by kernel_rfl
def ve:Ctr:=⟨115,[AF,AN,.o .b],[Co],false,fun x=>ml x.1 x.2.1 x.2.2⟩
theorem DZ:bu Tryz.prog ve:=ck [] [.tmp 6] (.q .z (.q .z (.q (.q .z (.cut ⟨[AC,(7,Aw)],[],[]⟩ [] (.b (.lp ⟨[AV,Av,AC,(7,Aw),Cc,CA,(12,Ag)],[],[]⟩ (.q .z (.q Ac (.q (.b (.q .z (.q .z (.cut ⟨[AV,Av,AC,(7,Aw),Cc,CA,BK],[],[]⟩ [] Ac)))) .z))))))) Ac))) trivial YW Tryz.func115 Tryz.ntmps115 rfl rfl rfl fun _=>by kernel_rfl
def wg:Ctr:=⟨46,[AF,AF],[Cz],false,fun x=>nN x.1 x.2⟩
theorem Fi:bu Tryz.prog wg:=ck [] [.tmp 4] (.q .z (.q .z (.q (.q .z (.cut ⟨[Aq,(5,BZ)],[],[]⟩ [] (.b (.lp ⟨[AV,Aq,(5,BZ),Cc,(11,Ag)],[],[]⟩ Be)))) Ac))) trivial acb Tryz.func46 Tryz.ntmps46 rfl rfl rfl fun _=>by kernel_rfl
def ra:Ctr:=⟨169,[Ae,AN],CL,false,fun x=>kP x.1 x.2.1 x.2.2⟩
theorem vL:bu Tryz.prog ra:=ck [pF,nn] [.tmp 4] (.q .z (.q .z (.q (.q .z (.cut ⟨[Aq,(5,AK)],[],[]⟩ [] (.b (.lp CF (.q .z (.q Ac (.q (.b (.q .z (.q .z (.cut CG [] Ac)))) .z))))))) Ac))) ⟨uP,rJ,trivial⟩ ZE Tryz.func169 Tryz.ntmps169 rfl rfl rfl fun _=>by kernel_rfl
def sW:Ctr:=⟨110,Bl,[.g [AA,AA,AA,AA,AA,AA,AA,AA,AA,AA,AA,AA,AA,AA,AA,AA]],false,fun x=>lX x.1 x.2.1 x.2.2.1 x.2.2.2⟩
theorem xG:bu Tryz.prog sW:=ck [ra,fA] [.cell 6 142] (.q .z (.q .z (.q .z (.q (.q .z (.cut ⟨[AC,Bg],[(7,Cu),(6,AO)],[]⟩ [] (.b (.lp ⟨[AC,Bg,(8,AK),(15,Ab),(16,Ab),(17,Ag)],[(7,Cu),(6,AO)],[]⟩ (.q .z (.q Ac (.q (.b BJ) .z))))))) Ac)))) ⟨vL,jR,trivial⟩ YR Tryz.func110 Tryz.ntmps110 rfl rfl rfl fun _=>by kernel_rfl
def nk:Ctr:=⟨47,Bl,CR,false,fun x=>fQ x.1 x.2.1 x.2.2.1 x.2.2.2⟩
theorem rH:bu Tryz.prog nk:=ck [sW] [.tmp 6] (.q .z (.q .z (.q (.q .z (.cut ⟨[AC,CC],[],[]⟩ [] (.b (.lp ⟨[AC,Bg,CC,(16,Ab),(17,Ag)],[(7,AO)],[]⟩ (.q .z (.q Ac (.q (.b (.q .z (.q .z (.cut ⟨[AC,Bg,CC,(16,Ab),(17,Ab)],[(7,AO)],[]⟩ [] Ac)))) .z))))))) Ac))) ⟨xG,trivial⟩ acd Tryz.func47 Tryz.ntmps47 rfl rfl rfl fun _=>by kernel_rfl
def wa:Ctr:=⟨48,[AN,AN],CL,false,fun x=>nK x.1 x.2⟩
theorem Ff:bu Tryz.prog wa:=ck [] [.tmp 4] (.q .z (.q Af (.q .z (.q (.q .z (.cut BH [] (.b (.lp ⟨[AV,As,Aq,CN,BW,(14,Ag)],[],[]⟩ (.q .z (.q Ac (.q (.b (.q .z (.q .z (.cut ⟨[AV,As,Aq,CN,BW,(14,Ab)],[],[]⟩ [] Ac)))) .z))))))) Ac)))) trivial ace Tryz.func48 Tryz.ntmps48 rfl rfl rfl fun _=>by kernel_rfl
def sy:Ctr:=⟨207,[Cd,AF],CR,false,fun x=>kc x.1 x.2.1 x.2.2.1 x.2.2.2.1 x.2.2.2.2.1 x.2.2.2.2.2⟩
theorem yK:bu Tryz.prog sy:=ck [jT] [.tmp 4] Am ⟨mW,trivial⟩ aag Tryz.func207 Tryz.ntmps207 rfl rfl rfl fun _=>by kernel_rfl
def nm:Ctr:=⟨173,[Cd,Ao],CL,false,fun x=>fS x.1 x.2.1 x.2.2.1 x.2.2.2.1 x.2.2.2.2.1 x.2.2.2.2.2⟩
theorem rI:bu Tryz.prog nm:=ck [sy] [.tmp 4] (.q .z (.q .z (.q .z (.q (.q .z (.cut ⟨[Aq,(5,AK)],[],[]⟩ [] (.b (.lp ⟨[As,Av,Aq,(5,AK),(6,AK),BS],[(2,Bn)],[]⟩ (.q Am (.q (.b (.q .z (.q .z (.q .z (.q .z (.cut ⟨[As,Av,Aq,(5,AK),(6,AK),Bg],[(2,Bn)],[]⟩ [] BP)))))) .z)))))) Ac)))) ⟨yK,trivial⟩ ZI Tryz.func173 Tryz.ntmps173 rfl rfl rfl fun _=>by kernel_rfl
def sC:Ctr:=⟨174,[Cd,Ao,AF],CR,false,fun x=>ke x.1 x.2.1 x.2.2.1 x.2.2.2.1 x.2.2.2.2.1 x.2.2.2.2.2.1 x.2.2.2.2.2.2⟩
theorem yL:bu Tryz.prog sC:=ck [] [.tmp 6] (.q .z (.q .z (.q (.q .z (.cut ⟨[AC,BS],[],[]⟩ [] (.b (.lp ⟨[As,Av,AC,BS,CA,BK,(13,Ag)],[],[]⟩ (.q .z (.q Ac (.q (.b (.q .z (.q .z (.cut ⟨[As,Av,AC,BS,CA,BK,BW],[],[]⟩ [] Ac)))) .z))))))) Ac))) trivial ZJ Tryz.func174 Tryz.ntmps174 rfl rfl rfl fun _=>by kernel_rfl
def tN:Ctr:=⟨112,[Cd,Ao],BF,false,fun x=>lu x.1 x.2.1 x.2.2.1 x.2.2.2.1 x.2.2.2.2.1 x.2.2.2.2.2⟩
theorem zX:bu Tryz.prog tN:=ck [nm,sC] [.tmp 4] (.q .z (.q (.q .z (.cut ⟨[As,Av,Aq],[(2,Bn)],[]⟩ BR (.b (.lp ⟨[As,Av,Aq,CA,BK,(13,Ag)],[(2,Bn)],[]⟩ AJ)))) (.q (.q .z (.cut Bt BR (.b (.lp ⟨[As,Av,Aq,(28,Ab),(29,Ab),(30,Ag)],[(2,Bn)],[]⟩ AJ)))) Ac))) ⟨rI,yL,trivial⟩ YT Tryz.func112 Tryz.ntmps112 rfl rfl rfl fun _=>by kernel_rfl
def wb:Ctr:=⟨49,Bl,BF,false,fun x=>nL x.1 x.2.1 x.2.2.1 x.2.2.2⟩
theorem Fg:bu Tryz.prog wb:=ck [oO,tN] [.tmp 6] BJ ⟨sR,zX,trivial⟩ acf Tryz.func49 Tryz.ntmps49 rfl rfl rfl fun _=>by kernel_rfl
def tH:Ctr:=⟨12,[Ae,AN,Ao,BV],[Cz,AH],false,fun x=>lj x.1 x.2.1 x.2.2.1 x.2.2.2.1 x.2.2.2.2⟩
theorem zR:bu Tryz.prog tH:=ck [jH,cd,wg,nk,wa,wb] [.tmp 8,.tmp 9] (.q .z (.q Af (.q .z (.q (.q .z (.cut ⟨[As,Av,Aq,AR,Bp,(10,Ag)],[Ci],[]⟩ [] (.b (.lp ⟨[As,Av,Aq,AR,Bp,(10,Ag),(25,Ab),(26,Ab),(27,Ag)],[Ci],[]⟩ (.q .z (.q Ac (.q (.b (.q .z (.q .z (.cut ⟨[As,Av,Aq,AR,Bp,(10,Ag),(25,Ab),(26,Ab),(27,Ab)],[Ci],[]⟩ [] Ac)))) .z))))))) (.q .z (.q .z (.q (.q .z (.cut ⟨[AR,Bp,(13,.z 4 .b)],[],[]⟩ [] (.b (.lp ⟨[As,Av,Aq,AR,Bp,Cc,(13,.z 4 .b),(14,Ag),(15,Ag),(42,Ab),(43,Ag)],[Ci],[]⟩ (.q .z (.q Ac (.q (.cut BG [] (.b (.q .z (.q Am (.q .z (.q .z (.q Am (.q .z (.q .z (.cut BG [] Ac)))))))))) .z))))))) Ac))))))) ⟨mb,cQ,Fi,rH,Ff,Fg,trivial⟩ abR Tryz.func12 Tryz.ntmps12 rfl rfl rfl fun _=>by kernel_rfl
def wd:Ctr:=⟨175,[AN,AN],[BQ],false,fun x=>nM x.1 x.2⟩
theorem Fh:bu Tryz.prog wd:=ck [] [.tmp 4] (.q .z (.q Af (.q .z (.q (.q .z (.cut ⟨[Aq,(5,AM),(6,AM)],[],[]⟩ [] (.b (.lp ⟨[AV,As,Aq,(5,AM),(6,AM),(19,Ab),(20,Ag)],[],[]⟩ (.q .z (.q Ac (.q (.b (.q .z (.b (.q .z (.cut ⟨[AV,As,Aq,(5,AM),(6,AM),(19,Ab),(20,Ab)],[],[]⟩ [] (.q .z (.q .z (.cut ⟨[AV,As,Aq,AW,(6,AM),(19,Ab),(20,Ab)],[],[]⟩ [] Ac)))))))) .z))))))) Ac)))) trivial ZK Tryz.func175 Tryz.ntmps175 rfl rfl rfl fun _=>by kernel_rfl
def qi:Ctr:=⟨116,[Ae,AN,Ao,BV],[BQ,AH],false,fun x=>gT x.1 x.2.1 x.2.2.1 x.2.2.2.1 x.2.2.2.2⟩
theorem xo:bu Tryz.prog qi:=ck [tH,wd] [.tmp 8,.tmp 9] (.q .z Bi) ⟨zR,Fh,trivial⟩ YX Tryz.func116 Tryz.ntmps116 rfl rfl rfl fun _=>by kernel_rfl
def tI:Ctr:=⟨50,[Ad],[Co],false,fun x=>iy x.1 x.2.1 x.2.2.1 x.2.2.2.1 x.2.2.2.2.1 x.2.2.2.2.2.1 x.2.2.2.2.2.2⟩
theorem zS:bu Tryz.prog tI:=ck [cw,qj,gN,ve,qi] [.tmp 2] (.q .z (.q Af (.q .z (.q .z (.q (.q .z (.cut ⟨[As,Av,BU,(4,BZ)],BC,[]⟩ [] (.b (.lp ⟨[As,Av,BU,(4,BZ),(25,Ab),(26,Ab),(27,Ag)],BC,[]⟩ (.q .z (.q Ac (.q (.b (.q .z (.q (.q .z (.cut ⟨[As,Av,BU,(4,BZ),AC,(25,Ab),(26,Ab),(27,Ab)],BC,[]⟩ [] BP)) (.q .z (.cut ⟨[As,Av,BU,Aq,(25,Ab),(26,Ab),(27,Ab)],BC,[]⟩ [] (.b (.lp ⟨[As,Av,BU,Aq,AC,(25,Ab),(26,Ab),(27,Ab),(44,Ab),(45,Ag)],BC,[]⟩ Be))))))) .z))))))) (.q .z (.q .z (.q (.q .z (.cut CJ [] (.b (.lp ⟨[Av,BU,(71,Ab),(72,Ab),(73,Ag)],[],[]⟩ (.q .z (.q Ac (.q (.b (.q .z (.q .z (.q (.q .z (.cut ⟨[Av,AU,BK,(13,Ag),(71,Ab),(72,Ab),(73,Ab)],[(12,AB)],[]⟩ [] Ac)) .z)))) .z))))))) Ac)))))))) ⟨dC,xp,lU,DZ,xo,trivial⟩ acg Tryz.func50 Tryz.ntmps50 rfl rfl rfl fun _=>by kernel_rfl
def uZ:Ctr:=⟨120,[Ad,.o (.sl .ro 86 AS)],[Ai,Bm],false,fun x=>mi x.1 x.2.1 x.2.2.1 x.2.2.2.1 x.2.2.2.2.1 x.2.2.2.2.2.1 x.2.2.2.2.2.2.1 x.2.2.2.2.2.2.2⟩
theorem DX:bu Tryz.prog uZ:=ck [cw,iW,qY] [.cell 4 33,.tmp 5] (.q .z (.q Af (.q .z (.q (.q .z (.cut CP [] (.b (.lp ⟨[Aq,AW,AC,BS,(18,Ab),(19,Ab),(20,Ag)],[(6,Ap),BN],[]⟩ (.q .z (.q Ac (.q (.b (.q .z (.q .z (.q .z (.cut ⟨[Aq,AW,AC,BS,(18,Ab),(19,Ab),(20,Ab)],[(6,Ap),BN],[]⟩ [] BP))))) .z))))))) Ac)))) ⟨dC,mC,vK,trivial⟩ Za Tryz.func120 Tryz.ntmps120 rfl rfl rfl fun _=>by kernel_rfl
def tM:Ctr:=⟨54,[Ad],[Ai],false,fun x=>lq x.1 x.2.1 x.2.2.1 x.2.2.2.1 x.2.2.2.2.1 x.2.2.2.2.2.1 x.2.2.2.2.2.2⟩
theorem zW:bu Tryz.prog tM:=ck [tI,uZ] [.cell 2 33] BJ ⟨zS,DX,trivial⟩ ack Tryz.func54 Tryz.ntmps54 rfl rfl rfl fun _=>by kernel_rfl
def uV:Ctr:=⟨121,[Ae,AN,Ao,AF],CR,false,fun x=>mf x.1 x.2.1 x.2.2.1 x.2.2.2.1 x.2.2.2.2⟩
theorem DT:bu Tryz.prog uV:=ck [oO,cd,nm] [.tmp 8] (.q .z Bi) ⟨sR,cQ,rI,trivial⟩ Zb Tryz.func121 Tryz.ntmps121 rfl rfl rfl fun _=>by kernel_rfl
def vi:Ctr:=⟨124,[BV],[BM],false,fun x=>dK x⟩
theorem Ec:bu Tryz.prog vi:=ck [nF,ri] [.tmp 2] (.q .z (.q Af (.q .z (.q (.q .z (.cut ⟨[Av,(3,.o (.w 9 .s))],[],[]⟩ [] (.b (.lp ⟨[Av,(3,.o (.w 9 .s)),BK,BW,(14,Ag)],[],[]⟩ Be)))) Ac)))) ⟨qE,vQ,trivial⟩ Ze Tryz.func124 Tryz.ntmps124 rfl rfl rfl fun _=>by kernel_rfl
def sk:Ctr:=⟨185,Bl,CL,false,fun x=>jU x.1 x.2.1 x.2.2.1 x.2.2.2⟩
theorem yF:bu Tryz.prog sk:=ck [jH,ra,sW,fA] [.tmp 6] (.q .z (.q Af (.q .z (.q .z (.q (.q .z (.cut ⟨[AC,(9,AQ)],[],[]⟩ [] (.b (.lp ⟨[AC,CQ,AR,(9,AQ),(24,Ab),(25,Ag)],[(8,AO)],[]⟩ (.q .z (.q Ac (.q (.b (.q .z (.q .z (.cut ⟨[AC,Bg,AR,(9,AQ),(24,Ab),(25,Ab)],[(8,AO)],[]⟩ [] Ac)))) .z))))))) Ac))))) ⟨mb,vL,xG,jR,trivial⟩ ZQ Tryz.func185 Tryz.ntmps185 rfl rfl rfl fun _=>by kernel_rfl
def nr:Ctr:=⟨219,[BV,AF],CR,false,fun x=>eC x.1 x.2⟩
theorem uz:bu Tryz.prog nr:=ck [] [.tmp 4] (.q .z (.q (.q .z (.cut Bt BR (.b (.lp ⟨[AV,As,Aq,Bg,CC],[],[]⟩ AJ)))) Ac)) trivial aal Tryz.func219 Tryz.ntmps219 rfl rfl rfl fun _=>by kernel_rfl
def lL:Ctr:=⟨186,[BV,AF],BF,false,fun x=>cM x.1 x.2⟩
theorem rA:bu Tryz.prog lL:=ck [nr] [.tmp 4] Am ⟨uz,trivial⟩ ZR Tryz.func186 Tryz.ntmps186 rfl rfl rfl fun _=>by kernel_rfl
def tK:Ctr:=⟨125,[Ad],CL,false,fun x=>eH x.1 x.2.1 x.2.2.1 x.2.2.2.1 x.2.2.2.2.1 x.2.2.2.2.2.1 x.2.2.2.2.2.2⟩
theorem zU:bu Tryz.prog tK:=ck [cw,sk,lL] [.tmp 2] (.q .z (.q Af (.q .z (.q .z (.q (.q .z (.cut ⟨[Av,(4,AQ)],[],[]⟩ [] (.b (.lp ⟨[Av,AU,(4,AQ),(19,Ab),(20,Ab),(21,Ag)],[],[]⟩ (.q .z (.q Ac (.q (.b (.q .z (.q .z (.cut ⟨[Av,AU,(4,AQ),(19,Ab),(20,Ab),(21,Ab)],[],[]⟩ [] Ac)))) .z))))))) Ac))))) ⟨dC,yF,rA,trivial⟩ Zf Tryz.func125 Tryz.ntmps125 rfl rfl rfl fun _=>by kernel_rfl
def sp:Ctr:=⟨14,Bl,CR,false,fun x=>fK x.1 x.2.1 x.2.2.1 x.2.2.2⟩
theorem yH:bu Tryz.prog sp:=ck [jH,nk] [.tmp 6] Bi ⟨mb,rH,trivial⟩ abS Tryz.func14 Tryz.ntmps14 rfl rfl rfl fun _=>by kernel_rfl
def tJ:Ctr:=⟨123,[AN],[BM],false,fun x=>iz x⟩
theorem zT:bu Tryz.prog tJ:=ck [] [.tmp 2] (.q .z (.q Af (.q .z (.q (.q .z (.cut ⟨[Av,(3,Cv)],[],[]⟩ [] (.b (.lp ⟨[Av,(3,Cv),BK,BW,(14,Ag)],[],[]⟩ (.q .z (.q Ac (.q (.b (.q .z (.q .z (.q .z (.cut ⟨[Av,(3,Cv),BK,BW,(14,Ab)],[],[]⟩ [] Ac))))) .z))))))) Ac)))) trivial Zd Tryz.func123 Tryz.ntmps123 rfl rfl rfl fun _=>by kernel_rfl
def qk:Ctr:=⟨55,[Ad,Cf],[BM],false,fun x=>gZ x.1 x.2.1 x.2.2.1 x.2.2.2.1 x.2.2.2.2.1 x.2.2.2.2.2.1 x.2.2.2.2.2.2.1 x.2.2.2.2.2.2.2⟩
theorem xq:bu Tryz.prog qk:=ck [su,cd,uV,nF,ri,tJ,sp,tK,vi,qX] [.tmp 4] (.q .z (.q (.q .z (.q (.q .z (.q (.b Bh) Ac)) .z)) (.q (.q .z (.b Bu)) Ac))) ⟨rG,cQ,DT,qE,vQ,zT,yH,zU,Ec,vJ,trivial⟩ acl Tryz.func55 Tryz.ntmps55 rfl rfl rfl fun _=>by kernel_rfl
def tL:Ctr:=⟨16,[Ad,Ch],[Ai,BM],false,fun x=>eJ x.1 x.2.1 x.2.2.1 x.2.2.2.1 x.2.2.2.2.1 x.2.2.2.2.2.1 x.2.2.2.2.2.2.1 x.2.2.2.2.2.2.2⟩
theorem zV:bu Tryz.prog tL:=ck [cw,vx,vj,qY,tM,iW,qk] [.cell 4 33,.tmp 5] (.q .z (.q Af (.q .z (.q (.q .z (.q .z (.q Bi .z))) Cw)))) ⟨dC,Er,Eg,vK,zW,mC,xq,trivial⟩ abU Tryz.func16 Tryz.ntmps16 rfl rfl rfl fun _=>by kernel_rfl
def zc:Ctr:=⟨56,[Ch,.o (.int .u8)],[.o (.row 9 .s)],false,fun x=>qs x.1 x.2⟩
theorem It:bu Tryz.prog zc:=ck [] [.tmp 4] (.q .z (.q .z (.q .z (.q (.q .z (.cut ⟨[AV,Aq,(5,.o (.r 9 .s)),(6,Ag)],[],[]⟩ [] (.b (.lp ⟨[AV,As,Aq,(5,.o (.r 9 .s)),(6,Ag),BS],[],[]⟩ (.q Am (.q (.b (.q .z (.cut ⟨[AV,As,Aq,(5,.o (.r 9 .s)),(6,Ag),Bg],[],[]⟩ [] BP))) .z)))))) Ac)))) trivial acm Tryz.func56 Tryz.ntmps56 rfl rfl rfl fun _=>by kernel_rfl
def xL:Ctr:=⟨126,[Ch],CR,false,fun x=>lZ x⟩
theorem GR:bu Tryz.prog xL:=ck [bF] [.tmp 2] (.q .z (.q Af (.q .z (.q (.q .z (.cut ⟨[Av,(3,Ag)],[],[]⟩ BR (.b (.lp ⟨[AV,Av,(3,Ag),(4,Ag)],[],[]⟩ (.q Am (.q (.b (.q Af .z)) .z)))))) Ac)))) ⟨bJ,trivial⟩ Zg Tryz.func126 Tryz.ntmps126 rfl rfl rfl fun _=>by kernel_rfl
def sH:Ctr:=⟨57,[Cf],[AL,AH],false,fun x=>kx x⟩
theorem yQ:bu Tryz.prog sH:=ck [xL] [.tmp 2,.tmp 3] (.q .z (.q .z (.q .z (.q (.q .z (.cut ⟨[Av,AU,(4,AQ),(5,BX)],[],[]⟩ [] (.b (.lp ⟨[AV,Av,AU,(4,AQ),(5,BX),(6,Ag)],[],[]⟩ Cr)))) Ac)))) ⟨GR,trivial⟩ acn Tryz.func57 Tryz.ntmps57 rfl rfl rfl fun _=>by kernel_rfl
def wz:Ctr:=⟨58,[Ch],[Bm,Bm],false,fun x=>nX x⟩
theorem Fu:bu Tryz.prog wz:=ck [] [.tmp 2,.tmp 3] (.q .z (.q (.q .z (.b (.q .z (.q Ac (.q .z (.q Ac (.q .z (.q Ac Bu)))))))) Ac)) trivial aco Tryz.func58 Tryz.ntmps58 rfl rfl rfl fun _=>by kernel_rfl
def wl:Ctr:=⟨135,[Ae],[BM],false,fun x=>nR x.1 x.2⟩
theorem Fl:bu Tryz.prog wl:=ck [jI,fw] [.tmp 2] (.q .z (.q Af (.q .z (.q (.q .z (.cut Cm [] (.b (.lp ⟨[As,Av,(3,.o .s),(4,Ag)],[(1,AB)],[]⟩ Cr)))) Ac)))) ⟨mc,jE,trivial⟩ Zp Tryz.func135 Tryz.ntmps135 rfl rfl rfl fun _=>by kernel_rfl
def wA:Ctr:=⟨133,[BV],[BM],false,fun x=>kT x⟩
theorem Fv:bu Tryz.prog wA:=ck [fw] [.tmp 2] (.q .z (.q .z (.q (.q .z (.cut Cm [] (.b (.lp CK (.q Am (.q (.b (.q Cg .z)) .z)))))) Cw))) ⟨jE,trivial⟩ Zn Tryz.func133 Tryz.ntmps133 rfl rfl rfl fun _=>by kernel_rfl
def nv:Ctr:=⟨191,[Ae,AN,Ao,AF],CR,false,fun x=>gk x.1 x.2.1 x.2.2.1 x.2.2.2.1 x.2.2.2.2⟩
theorem rL:bu Tryz.prog nv:=ck [kM,bF,nA] [.tmp 8] AZ ⟨mL,bJ,qz,trivial⟩ ZW Tryz.func191 Tryz.ntmps191 rfl rfl rfl fun _=>by kernel_rfl
def sE:Ctr:=⟨193,Bl,CL,false,fun x=>ko x.1 x.2.1 x.2.2.1 x.2.2.2⟩
theorem yN:bu Tryz.prog sE:=ck [kM,nv] [.tmp 6] (.q .z (.q .z (.q (.q .z (.cut Ca [] Bj)) Ac))) ⟨mL,rL,trivial⟩ ZY Tryz.func193 Tryz.ntmps193 rfl rfl rfl fun _=>by kernel_rfl
def tU:Ctr:=⟨134,[Ad],CL,false,fun x=>iI x.1 x.2.1 x.2.2.1 x.2.2.2.1 x.2.2.2.2.1 x.2.2.2.2.2.1 x.2.2.2.2.2.2⟩
theorem CX:bu Tryz.prog tU:=ck [cz,sE,li] [.tmp 2] (.q .z (.q .z (.q Af (.q .z (.q (.q .z (.cut ⟨[Av,(3,AQ)],[],[]⟩ [] (.b (.lp ⟨[As,Av,(3,AQ),Aq,(5,Ag)],BC,[]⟩ (.q Am (.q (.b (.q .z (.cut ⟨[As,Av,(3,AQ),Aq,AW],BC,[]⟩ [] Ac))) .z)))))) Ac))))) ⟨dD,yN,mY,trivial⟩ Zo Tryz.func134 Tryz.ntmps134 rfl rfl rfl fun _=>by kernel_rfl
def nz:Ctr:=⟨192,[Ae,AN,Ao,AF],CR,false,fun x=>gl x.1 x.2.1 x.2.2.1 x.2.2.2.1 x.2.2.2.2⟩
theorem rM:bu Tryz.prog nz:=ck [kM,bF,nA] [.tmp 8] AZ ⟨mL,bJ,qz,trivial⟩ ZX Tryz.func192 Tryz.ntmps192 rfl rfl rfl fun _=>by kernel_rfl
def nC:Ctr:=⟨132,Bl,CR,false,fun x=>cD x.1 x.2.1 x.2.2.1 x.2.2.2⟩
theorem rO:bu Tryz.prog nC:=ck [kM,nv,nz] [.tmp 6] (.q .z (.q Af (.q .z (.q (.q .z (.cut ⟨[AC,BS],[],[]⟩ [] (.b (.lp ⟨[As,Av,AU,AC,BS,CC],Bb,[]⟩ (.q Am (.q (.b (.q .z (.cut ⟨[As,Av,AU,AC,BS,AR],Bb,[]⟩ [] Ac))) .z)))))) Ac)))) ⟨mL,rL,rM,trivial⟩ Zm Tryz.func132 Tryz.ntmps132 rfl rfl rfl fun _=>by kernel_rfl
def tT:Ctr:=⟨131,[AN],[BM],false,fun x=>lz x⟩
theorem CW:bu Tryz.prog tT:=ck [] [.tmp 2] (.q .z (.q .z (.q (.q .z (.cut Cm [] (.b (.lp CK (.q Am (.q (.b Cg) .z)))))) Ac))) trivial Zl Tryz.func131 Tryz.ntmps131 rfl rfl rfl fun _=>by kernel_rfl
def xM:Ctr:=⟨63,[Ad,Ch],[BM],false,fun x=>oR x.1 x.2.1 x.2.2.1 x.2.2.2.1 x.2.2.2.2.1 x.2.2.2.2.2.1 x.2.2.2.2.2.2.1 x.2.2.2.2.2.2.2⟩
theorem GS:bu Tryz.prog xM:=ck [tT,nC,fw,tU,wA,wl] [.tmp 4] (.q .z (.q (.q .z (.b Bu)) Ac)) ⟨CW,rO,jE,CX,Fv,Fl,trivial⟩ acs Tryz.func63 Tryz.ntmps63 rfl rfl rfl fun _=>by kernel_rfl
def tZ:Ctr:=⟨188,Bl,CL,false,fun x=>lG x.1 x.2.1 x.2.2.1 x.2.2.2⟩
theorem Dc:bu Tryz.prog tZ:=ck [] [.tmp 6] (.q .z (.q .z (.q (.q .z (.cut ⟨[As,AU,AC,(7,AQ)],Bb,[]⟩ [] Bj)) (.q (.q .z (.cut ⟨[AC,CQ],[],[]⟩ [] (.b (.lp ⟨[As,AU,AC,CQ,CM],Bb,[]⟩ (.q Am (.q (.b (.q .z (.cut ⟨[As,AU,AC,CQ,Bp],Bb,[]⟩ [] (.b (.lp ⟨[As,AU,AC,CQ,Bp,(10,Ag)],Bb,[]⟩ (.q Am (.q (.b (.q .z (.q (.q .z (.cut ⟨[As,AU,AC,CQ,Bp,Cc,CA],[(11,AP),(3,AB)],[]⟩ [] Ac)) (.q .z (.cut ⟨[As,AU,AC,CQ,Bp,Cc],Bb,[]⟩ [] Ac))))) .z))))))) .z)))))) Ac)))) trivial ZT Tryz.func188 Tryz.ntmps188 rfl rfl rfl fun _=>by kernel_rfl
def vq:Ctr:=⟨222,[Ae,AF,AF],CR,false,fun x=>mv x.1 x.2.1 x.2.2.1 x.2.2.2⟩
theorem El:bu Tryz.prog vq:=ck [jI,bF] [.tmp 6] (.q .z (.q Af (.q .z (.q Af Cw)))) ⟨mc,bJ,trivial⟩ aao Tryz.func222 Tryz.ntmps222 rfl rfl rfl fun _=>by kernel_rfl
def zd:Ctr:=⟨189,[Ae,BV,AF],CL,false,fun x=>qt x.1 x.2.1 x.2.2.1 x.2.2.2⟩
theorem Iu:bu Tryz.prog zd:=ck [vq] [.tmp 6] (.q .z (.q .z (.q (.cut Ca [] (.b (.lp ⟨[As,(2,Ag),AU,AC,(7,AQ)],Bb,[]⟩ (.q Am (.b Ac))))) Ac))) ⟨El,trivial⟩ ZU Tryz.func189 Tryz.ntmps189 rfl rfl rfl fun _=>by kernel_rfl
def rh:Ctr:=⟨129,Bl,CL,false,fun x=>kU x.1 x.2.1 x.2.2.1 x.2.2.2⟩
theorem vP:bu Tryz.prog rh:=ck [tZ,zd] [.tmp 6] (.q .z (.q .z (.q .z (.q (.q .z (.cut ⟨[AC,CQ],[],[]⟩ [] (.b (.lp ⟨[Av,AU,AC,CQ,AR,CM],Bb,[]⟩ (.q Am (.q (.b (.q .z (.q .z (.cut ⟨[Av,AU,AC,CQ,AR,Bp],Bb,[]⟩ [] (.b (.lp ⟨[Av,AU,AC,CQ,AR,Bp,Cc,(11,Ag)],Bb,[]⟩ BE)))))) .z)))))) Ac)))) ⟨Dc,Iu,trivial⟩ Zj Tryz.func129 Tryz.ntmps129 rfl rfl rfl fun _=>by kernel_rfl
def vp:Ctr:=⟨60,[Ae,AN,Ao,AF],CR,false,fun x=>mt x.1 x.2.1 x.2.2.1 x.2.2.2.1 x.2.2.2.2⟩
theorem Ek:bu Tryz.prog vp:=ck [lW,bF,rh] [.tmp 8] Bi ⟨oK,bJ,vP,trivial⟩ acq Tryz.func60 Tryz.ntmps60 rfl rfl rfl fun _=>by kernel_rfl
def wn:Ctr:=⟨236,[AF,AF],[Cz,AH],false,fun x=>nT x.1 x.2⟩
theorem Fn:bu Tryz.prog wn:=ck [bF] [.tmp 4,.tmp 5] (.q .z (.q .z (.q Af (.q (.q .z (.cut ⟨[Aq,AW,(6,BY)],[],[]⟩ [] (.b (.lp ⟨[(0,Ag),As,Aq,AW,(6,BY),BS],[],[]⟩ Cr)))) Ac)))) ⟨bJ,trivial⟩ aar Tryz.func236 Tryz.ntmps236 rfl rfl rfl fun _=>by kernel_rfl
def xO:Ctr:=⟨251,Bl,CL,false,fun x=>oT x.1 x.2.1 x.2.2.1 x.2.2.2⟩
theorem GU:bu Tryz.prog xO:=ck [rh] [.tmp 6] (.q .z (.q .z (.q .z (.q (.q .z (.cut Ca [] (.b (.lp ⟨[As,AU,AC,(7,AQ),AR,CM],Bb,[]⟩ (.q Am (.q (.b (.q .z (.cut ⟨[As,AU,AC,(7,AQ),AR,Bp],Bb,[]⟩ [] Ac))) .z)))))) Ac)))) ⟨vP,trivial⟩ aaw Tryz.func251 Tryz.ntmps251 rfl rfl rfl fun _=>by kernel_rfl
def xN:Ctr:=⟨248,Bl,BF,false,fun x=>oS x.1 x.2.1 x.2.2.1 x.2.2.2⟩
theorem GT:bu Tryz.prog xN:=ck [nz,xO] [.tmp 6] (.q .z (.q (.q .z (.cut ⟨[As,Av,AU,AC],Bb,[]⟩ BR (.b (.lp ⟨[As,Av,AU,AC,BS],Bb,[]⟩ Bd)))) Ac)) ⟨rM,GU,trivial⟩ aav Tryz.func248 Tryz.ntmps248 rfl rfl rfl fun _=>by kernel_rfl
def wj:Ctr:=⟨237,Bl,BF,false,fun x=>nQ x.1 x.2.1 x.2.2.1 x.2.2.2⟩
theorem Fk:bu Tryz.prog wj:=ck [lW,xN] [.tmp 6] Am ⟨oK,GT,trivial⟩ aas Tryz.func237 Tryz.ntmps237 rfl rfl rfl fun _=>by kernel_rfl
def rf:Ctr:=⟨239,[AN,AN],CL,false,fun x=>iD x.1 x.2⟩
theorem vM:bu Tryz.prog rf:=ck [] [.tmp 4] (.q .z (.q .z (.q (.q .z (.cut BH [] (.b (.lp ⟨[AV,As,Aq,CN,(6,Ag)],[],[]⟩ (.q Am (.q (.b (.q .z (.cut ⟨[AV,As,Aq,CN,AC],[],[]⟩ [] Ac))) .z)))))) Ac))) trivial aau Tryz.func239 Tryz.ntmps239 rfl rfl rfl fun _=>by kernel_rfl
def tX:Ctr:=⟨238,[AF,AF,AF,AF],BF,false,fun x=>oC x.1 x.2.1 x.2.2.1 x.2.2.2⟩
theorem Da:bu Tryz.prog tX:=ck [] [.tmp 8] Am trivial aat Tryz.func238 Tryz.ntmps238 rfl rfl rfl fun _=>by kernel_rfl
def tR:Ctr:=⟨220,[Ae,AN,Ao,BV],[Cz,AH],false,fun x=>lw x.1 x.2.1 x.2.2.1 x.2.2.2.1 x.2.2.2.2⟩
theorem CU:bu Tryz.prog tR:=ck [kM,wn,bF,wj,nC,rf,tX] [.tmp 8,.tmp 9] (.q .z (.q .z (.q Af (.q .z (.q .z (.q (.q .z (.cut ⟨[AR,Bp,(10,BY),(11,Ag)],[],[]⟩ [] (.b (.lp ⟨[As,Av,AU,Aq,AR,Bp,(10,BY),(11,Ag),(12,Ag),(13,Ag)],[Ci],[]⟩ (.q Am (.q (.b (.q .z (.q .z (.q (.q .z (.cut ⟨[As,Av,AU,Aq,AR,Bp,Cc,CA,BK,BW,(14,Ab),(16,BX)],[Ci],[]⟩ [] (.b (.lp ⟨[As,Av,AU,Aq,AR,Bp,Cc,CA,BK,BW,(14,Ab),(16,BX),(17,Ag)],[Ci],[]⟩ BE)))) (.q (.cut ⟨[As,Av,AU,Aq,AR,Bp,Cc,CA,BK,BW,(14,Ab),(86,BX)],[Ci],[]⟩ [] .z) (.cut ⟨[As,Av,AU,Aq,AR,Bp,(10,BY),(11,Ag),(12,Ag),BW],[Ci],[]⟩ [] (.q Am .z))))))) .z)))))) Ac)))))) ⟨mL,Fn,bJ,Fk,rO,vM,Da,trivial⟩ aam Tryz.func220 Tryz.ntmps220 rfl rfl rfl fun _=>by kernel_rfl
def wm:Ctr:=⟨221,[AN,AN],[BQ],false,fun x=>nS x.1 x.2⟩
theorem Fm:bu Tryz.prog wm:=ck [rf] [.tmp 4] (.q .z (.q .z (.q .z (.q Af (.q (.q .z (.cut ⟨[As,Aq,(5,AM),AC],[],[]⟩ [] (.b (.lp ⟨[AV,As,Aq,(5,AM),AC,BS],[],[]⟩ (.q Am (.q (.b (.q .z (.cut ⟨[AV,As,Aq,(5,AM),AC,Bg],[],[]⟩ [] Ac))) .z)))))) (.q (.q .z (.cut ⟨[Aq,(5,AM)],[],[]⟩ [] (.b (.lp ⟨[As,Aq,(5,AM),AC,CC],[],[]⟩ (.q Am (.q (.b (.q .z (.cut ⟨[As,Aq,(5,AM),AC,AR],[],[]⟩ [] Ac))) .z)))))) Ac)))))) ⟨vM,trivial⟩ aan Tryz.func221 Tryz.ntmps221 rfl rfl rfl fun _=>by kernel_rfl
def ql:Ctr:=⟨187,[Ae,AN,Ao,BV],[BQ,AH],false,fun x=>il x.1 x.2.1 x.2.2.1 x.2.2.2.1 x.2.2.2.2⟩
theorem xu:bu Tryz.prog ql:=ck [tR,wm] [.tmp 8,.tmp 9] (.q .z Bi) ⟨CU,Fm,trivial⟩ ZS Tryz.func187 Tryz.ntmps187 rfl rfl rfl fun _=>by kernel_rfl
def tS:Ctr:=⟨128,[Ad],[Co],false,fun x=>iE x.1 x.2.1 x.2.2.1 x.2.2.2.1 x.2.2.2.2.1 x.2.2.2.2.2.1 x.2.2.2.2.2.2⟩
theorem CV:bu Tryz.prog tS:=ck [cz,li,ql] [.tmp 2] (.q .z (.q .z (.q Af (.q (.q .z (.cut CD [] (.b (.lp ⟨[As,Av,BU,(4,Ag)],BC,[]⟩ BE)))) (.q (.q .z (.cut CD [] (.b (.lp ⟨[As,Av,BU,(5,Ag)],BC,[]⟩ (.q Am (.q (.b (.q (.q .z (.cut ⟨[As,Av,BU,AW],BC,[]⟩ [] Ac)) .z)) .z)))))) (.q (.q .z (.cut CD [] (.b (.lp ⟨[As,Av,BU,(6,Ag)],BC,[]⟩ (.q Am (.q (.b (.q .z (.cut ⟨[As,Av,BU,AC],BC,[]⟩ [] Ac))) .z)))))) (.q .z (.q (.q .z (.cut CJ [] (.b (.lp ⟨[Av,BU,Bg,CM],[],[]⟩ (.q Am (.q (.b (.q .z (.cut ⟨[Av,BU,Bg,Bp],[],[]⟩ [] Ac))) .z)))))) Ac)))))))) ⟨dD,mY,xu,trivial⟩ Zi Tryz.func128 Tryz.ntmps128 rfl rfl rfl fun _=>by kernel_rfl
def vt:Ctr:=⟨127,[Ad,.o (.sl .ro 86 AS)],[Ai,Bm],false,fun x=>mw x.1 x.2.1 x.2.2.1 x.2.2.2.1 x.2.2.2.2.1 x.2.2.2.2.2.1 x.2.2.2.2.2.2.1 x.2.2.2.2.2.2.2⟩
theorem Em:bu Tryz.prog vt:=ck [cz,iv,nD] [.cell 4 33,.tmp 5] (.q .z (.q Af (.q .z (.q .z (.q (.q .z (.cut CP [] (.b (.lp ⟨[As,Aq,AW,AC,BS,CC],[(6,Ap),BN],[]⟩ (.q Am (.q (.b (.q .z (.q .z (.cut ⟨[As,Aq,AW,AC,BS,AR],[(6,Ap),BN],[]⟩ [] BP)))) .z)))))) Ac))))) ⟨dD,kL,qC,trivial⟩ Zh Tryz.func127 Tryz.ntmps127 rfl rfl rfl fun _=>by kernel_rfl
def tW:Ctr:=⟨59,[Ad],[Ai],false,fun x=>lC x.1 x.2.1 x.2.2.1 x.2.2.2.1 x.2.2.2.2.1 x.2.2.2.2.2.1 x.2.2.2.2.2.2⟩
theorem CZ:bu Tryz.prog tW:=ck [tS,vt] [.cell 2 33] BJ ⟨CV,Em,trivial⟩ acp Tryz.func59 Tryz.ntmps59 rfl rfl rfl fun _=>by kernel_rfl
def tV:Ctr:=⟨17,[Ad,Ch],[Ai,BM],false,fun x=>iK x.1 x.2.1 x.2.2.1 x.2.2.2.1 x.2.2.2.2.1 x.2.2.2.2.2.1 x.2.2.2.2.2.2.1 x.2.2.2.2.2.2.2⟩
theorem CY:bu Tryz.prog tV:=ck [cz,zc,sH,wz,tW,vp,iv,fw,xM,nD] [.cell 4 33,.tmp 5] (.q .z (.q Af (.q .z (.q .z (.q .z (.q (.b (.q .z (.q Ac (.q .z (.q Bi Bh))))) (.q .z (.q (.q .z (.cut ⟨[Av,Aq,AW,BK],[(12,[.k,.k,AD]),BN,(2,Aj)],[]⟩ [] Ac)) Bi)))))))) ⟨dD,It,yQ,Fu,CZ,Ek,kL,jE,GS,qC,trivial⟩ abV Tryz.func17 Tryz.ntmps17 rfl rfl rfl fun _=>by kernel_rfl
def wh:Ctr:=⟨65,[Ae,Ae],BF,false,fun x=>nO x.1 x.2.1 x.2.2.1 x.2.2.2⟩
theorem Fj:bu Tryz.prog wh:=ck [] [.tmp 4] (.q .z (.q Af (.q (.q .z (.cut Bt BR (.b (.lp ⟨[Av,AU,Aq,(5,Ag)],[(3,AB),(2,AB)],[]⟩ Bd)))) Ac))) trivial acu Tryz.func65 Tryz.ntmps65 rfl rfl rfl fun _=>by kernel_rfl
def tP:Ctr:=⟨66,[Ao,Ao],BF,false,fun x=>lv x.1 x.2⟩
theorem zZ:bu Tryz.prog tP:=ck [] [.tmp 4] Ck trivial acv Tryz.func66 Tryz.ntmps66 rfl rfl rfl fun _=>by kernel_rfl
def tO:Ctr:=⟨141,[AN,AN],BF,false,fun x=>iC x.1 x.2⟩
theorem zY:bu Tryz.prog tO:=ck [] [.tmp 4] Ck trivial Zv Tryz.func141 Tryz.ntmps141 rfl rfl rfl fun _=>by kernel_rfl
def rb:Ctr:=⟨142,[.o Bq,.o Bq],BF,false,fun x=>jk x.1 x.2⟩
theorem xX:bu Tryz.prog rb:=ck [] [.tmp 4] Ck trivial Zw Tryz.func142 Tryz.ntmps142 rfl rfl rfl fun _=>by kernel_rfl
def vm:Ctr:=⟨67,[AI,AI],BF,false,fun x=>mq x.1 x.2.1 x.2.2.1 x.2.2.2.1 x.2.2.2.2.1 x.2.2.2.2.2⟩
theorem Ei:bu Tryz.prog vm:=ck [tO,rb] [.tmp 4] Am ⟨zY,xX,trivial⟩ acw Tryz.func67 Tryz.ntmps67 rfl rfl rfl fun _=>by kernel_rfl
def vk:Ctr:=⟨68,[BV,BV],BF,false,fun x=>mo x.1 x.2⟩
theorem Eh:bu Tryz.prog vk:=ck [] [.tmp 4] Ck trivial acx Tryz.func68 Tryz.ntmps68 rfl rfl rfl fun _=>by kernel_rfl
def tQ:Ctr:=⟨18,[Ad,Ad],BF,false,fun x=>eK x.1 x.2.1 x.2.2.1 x.2.2.2.1 x.2.2.2.2.1 x.2.2.2.2.2.1 x.2.2.2.2.2.2.1 x.2.2.2.2.2.2.2.1 x.2.2.2.2.2.2.2.2.1 x.2.2.2.2.2.2.2.2.2.1 x.2.2.2.2.2.2.2.2.2.2.1 x.2.2.2.2.2.2.2.2.2.2.2.1 x.2.2.2.2.2.2.2.2.2.2.2.2.1 x.2.2.2.2.2.2.2.2.2.2.2.2.2⟩
theorem CT:bu Tryz.prog tQ:=ck [wh,tP,vm,vk] [.tmp 4] Am ⟨Fj,zZ,Ei,Eh,trivial⟩ abW Tryz.func18 Tryz.ntmps18 rfl rfl rfl fun _=>by kernel_rfl
def uW:Ctr:=⟨41,[Ae,AF,AF],CR,false,fun x=>pH x.1 x.2.1 x.2.2.1 x.2.2.2⟩
theorem DU:bu Tryz.prog uW:=ck [md,cd,jT] [.tmp 6] Bi ⟨ma,cQ,mW,trivial⟩ ab6 Tryz.func41 Tryz.ntmps41 rfl rfl rfl fun _=>by kernel_rfl
def zb:Ctr:=⟨10,[],BF,false,fun x=>qq⟩
theorem Is:bu Tryz.prog zb:=ck [uW,qX] [.tmp 0] Am ⟨DU,vJ,trivial⟩ abQ Tryz.func10 Tryz.ntmps10 rfl rfl rfl fun _=>by kernel_rfl
def yc:Ctr:=⟨4,[.o Cs],BF,false,fun x=>jg x⟩
theorem xW:bu Tryz.prog yc:=ck [px,tL,tV,tQ,cz,zb,cw] [.tmp 2] (.q .z (.q Af (.q .z (.q .z (.q .z (.q Af (.q Af Am))))))) ⟨vN,zV,CY,CT,dD,Is,dC,trivial⟩ ⟨by kernel_rfl⟩ Tryz.func4 Tryz.ntmps4 rfl rfl rfl fun _=>by kernel_rfl
theorem xU {x0:List Int} {A0:Option Addr} {n0 c0:Nat} {w:World} (hbs:Bs w) {r:Bool} (h0:Rt w 1 eU A0 n0 c0 x0) (hM:jg x0=some r):
 Calls Tryz.prog 4 #[.slice A0 n0 c0] w (fun e w'=>e= .returned (.bool r)∧St w w' []):=by
 obtain rfl:=h0.len
 exact VU xW (x:=x0) hM (e:=XN [(A0,c0)]) hbs ⟨_,_,rfl,⟨_,rfl,fun _ _ S _=>S.rc0 h0.rc⟩,rfl⟩ rfl rfl rfl
end
end Go.Proofs.YtjdlgannencchaaGreatDoor
namespace Go.Proofs.YtjdlgannencchaaGreatDoor
open Go.Lib
set_option linter.unusedVariables false
set_option linter.unusedSimpArgs false
def tl (s:ByteArray):List UInt8:=s.data.toList
theorem xk (s:ByteArray):(tl s).length=s.size:=by simp [tl]
theorem DD (l:List UInt8):tl (bf l)=l:=kG l
theorem Vz (s:ByteArray):s.toList=tl s:=ByteArray.toList_eq s
theorem Hs (s:ByteArray) (k:Nat):kI s (k:Int)=(((tl s).getD k 0).toNat:Int):=rfl
theorem Hx (c:UInt8):dv c≤207:=by have:=c.toNat_lt;unfold dv;omega
theorem VB (l:List UInt8) (h:l.length≤3):oI l≤100000:=by
 match l,h with
 | [],_=>simp [oI]
 | [a],_=>have:=Hx a;simp [oI];omega
 | [a,b],_=>have:=Hx a;have:=Hx b;simp [oI];omega
 | [a,b,c],_=>have:=Hx a;have:=Hx b;have:=Hx c;simp [oI];omega
theorem Qg (l:List UInt8) {k:Nat} (h:k<l.length):oI (l.take (k+1))=10*oI (l.take k)+dv (l.getD k 0):=by
 unfold oI
 rw [List.take_succ_eq_append_getElem h,List.foldl_append,ai h];rfl
theorem QJ (c:UInt8):(aw (c.toNat:Int) 48 ||aw 57 (c.toNat:Int))= !nh c:=by
 unfold aw nh
 by_cases h1:48≤c.toNat<;>by_cases h2:c.toNat≤57<;>simp [h1,h2]<;>omega
theorem Ke (s:ByteArray) (h:s.size≤3):cg s aq (0,0)=some (if (tl s).all nh=true then .inl (oI (tl s):Int) else .inr (-1)):=by
 have hl:=xk s
 have hh:=bZ (cg s) (fun k=>((oI ((tl s).take k):Int),(k:Int))) s.size (fun k=> !nh ((tl s).getD k 0)) (some (.inr (-1))) (some (.inl (oI (tl s):Int))) (by omega) (fun k fuel hk=>by
  have hk2:k<(tl s).length:=by omega
  have hv:=VB ((tl s).take k) (by simp;omega)
  rw [qL,hZ]
  simp only [az hk,ah hk,Hs,QJ,Bool.or_true,aa,cond_true,af (by omega:k<4611686018427387904)]
  cases hd:nh ((tl s).getD k 0) with
  |false=>rfl
  |true=>
   have hr:=yZ hd
   have hdv:(((tl s).getD k 0).toNat:Int)-48=(dv ((tl s).getD k 0):Int):=by unfold dv;omega
   have hlt:=tw hd
   simp only [Bool.not_true,cond_false]
   have e1:ay (10*(oI ((tl s).take k):Int))=10*(oI ((tl s).take k):Int):=DF (by omega)
   have e2:ay (dv ((tl s).getD k 0):Int)=(dv ((tl s).getD k 0):Int):=DF (by omega)
   rw [hdv,wk8 (by omega),e1,e2,DF (by omega),Qg _ hk2]
   rfl) (fun fuel=>by
   have ht:(tl s).take s.size=tl s:=List.take_of_length_le (by omega)
   rw [qL,hZ,ht]
   simp only [ak,cond_false])
 rw [←hl,JO (tl s) 0 (fun c=> !nh c)] at hh
 have hany:(tl s).any (fun c=> !nh c)= !(tl s).all nh:=by simp [List.all_eq_not_any_not]
 rw [hany] at hh
 rw [show cg s aq (0,0)=_ from hh]
 cases (tl s).all nh<;>rfl
theorem Uy (s:ByteArray):mm s=some (Ml (tl s)):=by
 have hl:=xk s
 unfold mm Ml
 by_cases h:1≤s.size∧s.size≤3
 ·rw [show aw (s.size:Int) 1=false from decide_eq_false (by omega),show aw 3 (s.size:Int)=false from decide_eq_false (by omega),Ke s h.2]
  by_cases ha:(tl s).all nh=true
  ·have hc:1≤(tl s).length∧(tl s).length≤3∧(tl s).all nh=true:=⟨by omega,by omega,ha⟩
   rw [if_pos hc];simp [ha]
  ·have hc: ¬(1≤(tl s).length∧(tl s).length≤3∧(tl s).all nh=true):=fun k=>ha k.2.2
   rw [if_neg hc];simp [ha]
 ·have hc: ¬(1≤(tl s).length∧(tl s).length≤3∧(tl s).all nh=true):=fun k=>h ⟨by omega,by omega⟩
  rw [if_neg hc]
  have:(aw (s.size:Int) 1 ||aw 3 (s.size:Int))=true:=by
   unfold aw;simp only [Bool.or_eq_true,decide_eq_true_eq];omega
  rw [this];rfl
theorem yW (s:ByteArray):aI s=some (Ml (tl s),decide (0≤bD (tl s))):=by
 have hb:=WJ (tl s)
 unfold aI
 rw [Uy,Option.bind_some]
 by_cases h:0≤Ml (tl s)
 ·obtain ⟨n,hn⟩: ∃n:Nat,Ml (tl s)=n:=⟨(Ml (tl s)).toNat,by omega⟩
  have h3:=RZ (tl s)
  rw [hn] at hb h3 ⊢
  rw [show aY 0 (n:Int)=true from decide_eq_true (by omega),NT (by omega)]
  simp only [gb,cond_true,Option.bind_some,Bool.true_and,kH,Vz]
  rw [Int.toNat_natCast] at h3
  congr 2
  rw [Bool.eq_iff_iff,beq_iff_eq,decide_eq_true_eq,←h3]
  exact ⟨fun e=>⟨by omega,e⟩,fun e=>e.2⟩
 ·have h3: ¬0≤bD (tl s):=fun k=>h (by rw [vR k];exact k)
  rw [show aY 0 (Ml (tl s))=false from decide_eq_false h,decide_eq_false h3]
  rfl
theorem abC (s:ByteArray):lZ s=some (bD (tl s)):=by
 have hl:=xk s
 have same:ub s=cg s:=rfl
 unfold lZ au bD
 rw [same]
 by_cases h:1≤s.size∧s.size≤3
 ·have h1:(aY 1 (s.size:Int)&&aY (s.size:Int) 3)=true:=by unfold aY;simp;omega
  have h0:aC 0 s.size=true:=decide_eq_true (by omega)
  have hz:((kI s 0)==48)=decide ((tl s).headD 0=48):=by
   rw [show kI s 0=(((tl s).getD 0 0).toNat:Int) from rfl,show (tl s).getD 0 0=(tl s).headD 0 by cases tl s<;>rfl]
   generalize (tl s).headD 0=c
   rw [Bool.eq_iff_iff,beq_iff_eq,decide_eq_true_eq]
   exact ⟨fun e=>UInt8.toNat_inj.1 (by have:c.toNat=48:=by omega
                                       rw [this];rfl),fun e=>by subst e;rfl⟩
  simp only [Option.bind_some,h1,h0,hz,Bool.not_true,Bool.false_or,Bool.or_true,aa]
  rw [Ke s h.2]
  by_cases h2:1<s.size∧(tl s).headD 0=48
  ·have hc: ¬((1≤(tl s).length∧(tl s).length≤3∧(tl s).all nh=true)∧ ¬(1<(tl s).length∧(tl s).headD 0=48)):=fun k=>k.2 ⟨by omega,h2.2⟩
   rw [if_neg hc,show aw 1 (s.size:Int)=true from decide_eq_true (by omega),decide_eq_true h2.2];rfl
  ·have:(aw 1 (s.size:Int)&&decide ((tl s).headD 0=48))=false:=by
    rw [Bool.eq_false_iff];intro hh;simp only [Bool.and_eq_true,decide_eq_true_eq,aw] at hh;exact h2 ⟨by omega,hh.2⟩
   rw [this]
   by_cases ha:(tl s).all nh=true
   ·have hc:(1≤(tl s).length∧(tl s).length≤3∧(tl s).all nh=true)∧ ¬(1<(tl s).length∧(tl s).headD 0=48):=⟨⟨by omega,by omega,ha⟩,fun k=>h2 ⟨by omega,k.2⟩⟩
    rw [if_pos hc];simp [ha]
   ·have hc: ¬((1≤(tl s).length∧(tl s).length≤3∧(tl s).all nh=true)∧ ¬(1<(tl s).length∧(tl s).headD 0=48)):=fun k=>ha k.1.2.2
    rw [if_neg hc];simp [ha]
 ·have h1:(aY 1 (s.size:Int)&&aY (s.size:Int) 3)=false:=by unfold aY;rw [Bool.eq_false_iff];simp;omega
  have hc: ¬((1≤(tl s).length∧(tl s).length≤3∧(tl s).all nh=true)∧ ¬(1<(tl s).length∧(tl s).headD 0=48)):=fun k=>h ⟨by omega,by omega⟩
  rw [if_neg hc]
  simp [h1]
def iT (c:UInt8) (l:List UInt8):Nat→List (List UInt8)×Nat
 |0=>([],0)
 |k+1=>if l.getD k 0=c then ((iT c l k).1++ [(l.drop (iT c l k).2).take (k-(iT c l k).2)],k+1) else iT c l k
theorem EA (c:UInt8) (l:List UInt8): ∀k,(iT c l k).2≤k∧(iT c l k).1.length≤k
 |0=>by simp [iT]
 |k+1=>by
  have:=EA c l k
  unfold iT;split
  ·simp;omega
  ·omega
theorem JZ (c:UInt8) (l:List UInt8): ∀k,k≤l.length→(∀j,(iT c l k).2≤j→j<k→l.getD j 0≠c)∧dI c l=(iT c l k).1++dI c (l.drop (iT c l k).2)
 |0,_=>by simp [iT]
 |k+1,hk=>by
  obtain ⟨h1,h2⟩:=JZ c l k (by omega)
  have hle:=(EA c l k).1
  unfold iT;split
  ·rename_i e
   refine ⟨fun j h3 h4=>by simp only at h3;omega,?_⟩
   have hsp:l.drop (iT c l k).2=(l.drop (iT c l k).2).take (k-(iT c l k).2)++c::l.drop (k+1):=by
    conv=>lhs;rw [←List.take_append_drop (k-(iT c l k).2) (l.drop (iT c l k).2)]
    rw [List.drop_drop,show (iT c l k).2+(k-(iT c l k).2)=k by omega,List.drop_eq_getElem_cons (by omega:k<l.length),←ai (d:=0) (by omega:k<l.length),e]
   have hn:c∉(l.drop (iT c l k).2).take (k-(iT c l k).2):=by
    intro hm
    obtain ⟨j,hj,he⟩:=List.mem_iff_getElem.1 hm
    have hj2:j<k-(iT c l k).2:=by have:=List.length_take_le (k-(iT c l k).2) (l.drop (iT c l k).2);omega
    have:=h1 ((iT c l k).2+j) (by omega) (by omega)
    rw [ai (by omega:(iT c l k).2+j<l.length)] at this
    simp only [List.getElem_take,List.getElem_drop] at he
    exact this he
   rw [h2]
   conv=>lhs;rw [hsp,Fc c _ _ hn]
   simp
  ·rename_i e
   refine ⟨fun j h3 h4=>?_,h2⟩
   rcases Nat.lt_or_ge j k with h |h
   ·exact h1 j h3 h
   ·obtain rfl:j=k:=by omega
    exact e
theorem HD (s:ByteArray) (a b:Nat):ByteArray.extract s a b=bf (((tl s).drop a).take (b-a)):=by
 rw [←tg s]
 exact ByteArray.extract_mk s.data.toList a b
theorem acT (s:ByteArray) (hs:s.size≤1048576):qs s 32=some ((dI 32 (tl s)).map bf):=by
 have hl:=xk s
 unfold qs
 have hh:=aE (jK s 32) (fun k=>((iT 32 (tl s) k).1.map bf,((iT 32 (tl s) k).2:Int),(k:Int))) s.size (some ((iT 32 (tl s) s.size).1.map bf,((iT 32 (tl s) s.size).2:Int))) (by omega) (fun k fuel hk=>by
  obtain ⟨c1,c2⟩:=EA 32 (tl s) k
  rw [uR,lD]
  have hb:((((tl s).getD k 0).toNat:Int)==32)=decide ((tl s).getD k 0=32):=by
   generalize (tl s).getD k 0=c
   rw [Bool.eq_iff_iff,beq_iff_eq,decide_eq_true_eq]
   exact ⟨fun e=>UInt8.toNat_inj.1 (by have:c.toNat=32:=by omega
                                       rw [this];rfl),fun e=>by subst e;rfl⟩
  simp only [az hk,ah hk,Hs,hb,aa,cond_true,af (by omega:k<4611686018427387904)]
  have b1:wR ((iT 32 (tl s) k).2:Int) (k:Int) s.size=true:=decide_eq_true (by omega)
  have b2: ∀x:ByteArray,bw ((iT 32 (tl s) k).1.map bf).length ([x]:List ByteArray).length=true:=fun x=>decide_eq_true (by simp;omega)
  by_cases e:(tl s).getD k 0=32
  ·rw [decide_eq_true e]
   simp only [cond_true,b1,b2,aa,Option.bind_some,Int.toNat_natCast,HD]
   conv=>rhs;unfold iT
   rw [if_pos e]
   simp
  ·rw [decide_eq_false e]
   simp only [cond_false,Option.bind_some]
   conv=>rhs;unfold iT
   rw [if_neg e]) (fun fuel=>by
  rw [uR,lD];simp only [ak,cond_false])
 rw [show jK s 32 aq (([]:List ByteArray),0,0)=_ from hh]
 obtain ⟨c1,c2⟩:=EA 32 (tl s) s.size
 obtain ⟨d1,d2⟩:=JZ 32 (tl s) s.size (by omega)
 have b1:wR ((iT 32 (tl s) s.size).2:Int) (s.size:Int) s.size=true:=decide_eq_true (by omega)
 have b2: ∀x:ByteArray,bw ((iT 32 (tl s) s.size).1.map bf).length ([x]:List ByteArray).length=true:=fun x=>decide_eq_true (by simp;omega)
 simp only [Option.bind_some,b1,b2,aa,HD,Int.toNat_natCast]
 have hn:(32:UInt8)∉(tl s).drop (iT 32 (tl s) s.size).2:=by
  intro hm
  obtain ⟨j,hj,he⟩:=List.mem_iff_getElem.1 hm
  rw [List.length_drop] at hj
  have:=d1 ((iT 32 (tl s) s.size).2+j) (by omega) (by omega)
  rw [ai (by omega)] at this
  rw [List.getElem_drop] at he
  exact this he
 rw [d2,wZ 32 _ hn,List.map_append,List.take_of_length_le (by rw [List.length_drop];omega)]
 rfl
end Go.Proofs.YtjdlgannencchaaGreatDoor
namespace Go.Proofs.YtjdlgannencchaaGreatDoor
open Go.ChangeShapes Go.WideShapes Go.ChangeAt Go.RowKit
set_option linter.unusedVariables false
set_option linter.unusedSimpArgs false
theorem ye {σ Out:Type} (L:Nat→σ→Option Out) (st:Nat→σ) (n:Nat) (P:Nat→Bool) (fv:Nat→Option Out) (out:Option Out) (hn:n≤1099511627776) (hstep: ∀k fuel,k<n→L (fuel+1) (st k)=bif P k then fv k else L fuel (st (k+1))) (hend: ∀fuel,L (fuel+1) (st n)=out):
 L aq (st 0)=match (List.range n).find? P with |some k=>fv k |none=>out:=by
 have key: ∀j k fuel,k+j=n→j<fuel→L fuel (st k)=match (List.range' k j).find? P with |some k=>fv k |none=>out:=by
  intro j
  induction j with
  |zero=>
   intro k fuel hk hf
   obtain ⟨f,rfl⟩: ∃f,fuel=f+1:=⟨fuel-1,by omega⟩
   obtain rfl:k=n:=by omega
   simpa using hend f
  |succ j ih=>
   intro k fuel hk hf
   obtain ⟨f,rfl⟩: ∃f,fuel=f+1:=⟨fuel-1,by omega⟩
   rw [hstep k f (by omega),ih (k+1) f (by omega) (by omega),List.range'_succ,List.find?_cons]
   cases P k<;>simp
 rw [key n 0 aq (by omega) (oN hn),List.range_eq_range']
abbrev Pm:=List (Int×Int)
abbrev Wk:=List Bool×List Bool×Pm
def Qk (l:Pm) (p:Int×Int):Int:=match (List.range l.length).find? (fun k=>(l.getD k (0,0)).1==p.1&&(l.getD k (0,0)).2==p.2) with |some k=>(k:Int) |none=> -1
theorem tG (l:Pm) (p:Int×Int):(Qk l p= -1∧p∉l)∨(∃k,k<l.length∧Qk l p=(k:Int)∧l.getD k (0,0)=p∧ ∀j,j<k→l.getD j (0,0)≠p):=by
 unfold Qk
 cases h:(List.range l.length).find? (fun k=>(l.getD k (0,0)).1==p.1&&(l.getD k (0,0)).2==p.2) with
 |none=>
  left
  refine ⟨rfl,fun hp=>?_⟩
  obtain ⟨k,hk,rfl⟩:=List.mem_iff_getElem.1 hp
  have:=List.find?_eq_none.1 h k (by simpa using hk)
  rw [ai hk] at this
  simp at this
 |some k=>
  right
  obtain ⟨h1,h2,h3⟩:=List.find?_range_eq_some.1 h
  have hk:k<l.length:=by simpa using h2
  simp only [Bool.and_eq_true,beq_iff_eq] at h1
  refine ⟨k,hk,rfl,Prod.ext h1.1 h1.2,fun j hj e=>?_⟩
  have:=h3 j hj
  rw [e] at this
  simp at this
theorem IC {l:Pm} {p:Int×Int}:aY 0 (Qk l p)=decide (p∈l):=by
 rcases tG l p with ⟨h1,h2⟩ |⟨k,hk,h1,h2,h3⟩
 ·rw [h1];simp [aY,h2]
 ·have:p∈l:=by rw [←h2,ai hk];exact List.getElem_mem hk
  rw [h1];simp [aY,this]
theorem qu {l:Pm} {p:Int×Int} {k:Nat}:p∈l.take k↔ ∃j,j<k∧j<l.length∧l.getD j (0,0)=p:=by
 constructor
 ·intro h
  obtain ⟨j,hj,rfl⟩:=List.mem_iff_getElem.1 h
  have hj':j<k∧j<l.length:=by rw [List.length_take] at hj;omega
  exact ⟨j,hj'.1,hj'.2,by rw [ai hj'.2];simp⟩
 ·rintro ⟨j,h1,h2,rfl⟩
  rw [ai h2]
  exact List.mem_iff_getElem.2 ⟨j,by simp;omega,by simp⟩
theorem QY {l:Pm} {k:Nat} (hk:k<l.length):aw (Qk l (l.getD k (0,0))) (k:Int)=decide (l.getD k (0,0)∈l.take k):=by
 rcases tG l (l.getD k (0,0)) with ⟨h1,h2⟩ |⟨i,hi,h1,h2,h3⟩
 ·exact absurd (by rw [ai hk];exact List.getElem_mem hk) h2
 ·rw [h1]
  have hle:i≤k:=by
   rcases Nat.lt_or_ge k i with h |h
   ·exact absurd rfl (h3 k h)
   ·exact h
  rcases Nat.lt_or_ge i k with h |h
  ·have:l.getD k (0,0)∈l.take k:=qu.2 ⟨i,h,hi,h2⟩
   rw [decide_eq_true this];exact decide_eq_true (by omega)
  ·obtain rfl:i=k:=by omega
   have: ¬l.getD i (0,0)∈l.take i:=fun hm=>by
    obtain ⟨j,j1,j2,j3⟩:=qu.1 hm
    exact h3 j j1 j3
   rw [decide_eq_false this];exact decide_eq_false (by omega)
def Gg (on earth:List Bool) (pm:Pm) (k:Nat):Bool:=
 GW (pm.getD k (0,0)).1 0 9&&(decide (0≤(pm.getD k (0,0)).2)&&decide ((pm.getD k (0,0)).2<(on.length:Int)))&&earth.getD (pm.getD k (0,0)).2.toNat false&& !decide (pm.getD k (0,0)∈pm.take k)
def mR (on earth:List Bool) (pm:Pm):Bool:=
 GW (on.length:Int) 1 10&&(earth.length==on.length)&&decide (pm.length≤6)&&(!(List.range on.length).any fun k=>on.getD k false&&earth.getD k false)&& !(List.range pm.length).any fun k=> !Gg on earth pm k
structure WorkOk (on earth:List Bool) (pm:Pm):Prop where
 l0:1≤on.length
 l1:on.length≤10
 le:earth.length=on.length
 lp:pm.length≤6
 ne: ∀k,on.getD k false=true→earth.getD k false=false
 pm: ∀k,k<pm.length→(0≤(pm.getD k (0,0)).1∧(pm.getD k (0,0)).1≤9)∧(0≤(pm.getD k (0,0)).2∧(pm.getD k (0,0)).2<(on.length:Int))∧earth.getD (pm.getD k (0,0)).2.toNat false=true∧pm.getD k (0,0)∉pm.take k
theorem Lb {on earth:List Bool} {pm:Pm} {k:Nat}:Gg on earth pm k=true↔(0≤(pm.getD k (0,0)).1∧(pm.getD k (0,0)).1≤9)∧(0≤(pm.getD k (0,0)).2∧(pm.getD k (0,0)).2<(on.length:Int))∧earth.getD (pm.getD k (0,0)).2.toNat false=true∧pm.getD k (0,0)∉pm.take k:=by
 simp only [Gg,Bool.and_eq_true,sh,decide_eq_true_eq,Bool.not_eq_true',decide_eq_false_iff_not,and_assoc]
theorem JN {n:Nat} {f:Nat→Bool}:(!(List.range n).any f)=true↔ ∀k,k<n→f k=false:=by
 rw [Bool.not_eq_true',List.any_eq_false]
 simp only [List.mem_range,Bool.not_eq_true]
theorem uj {on earth:List Bool} {pm:Pm}:mR on earth pm=true↔WorkOk on earth pm:=by
 unfold mR
 rw [Bool.and_eq_true,JN,Bool.and_eq_true,JN,Bool.and_eq_true,Bool.and_eq_true,sh,beq_iff_eq,decide_eq_true_eq]
 constructor
 ·rintro ⟨⟨⟨⟨h1,h2⟩,h3⟩,h4⟩,h5⟩
  refine ⟨by omega,by omega,h2,h3,fun k hk=>?_,fun k hk=>Lb.1 (by have:=h5 k hk;simpa using this)⟩
  by_cases hl:k<on.length
  ·have:=h4 k hl
   rw [hk] at this
   simpa using this
  ·simp [List.getD,List.getElem?_eq_none (Nat.le_of_not_lt hl)] at hk
 ·intro h
  have:=h.l0;have:=h.l1
  refine ⟨⟨⟨⟨by omega,h.le⟩,h.lp⟩,fun k hk=>?_⟩,fun k hk=>by rw [Lb.2 (h.pm k hk)];rfl⟩
  cases ho:on.getD k false
  ·rfl
  ·rw [h.ne k ho];rfl
theorem aa4 (n:Int):GW n 1 10=(!aw n 1&& !aw 10 n):=by rw [Bool.eq_iff_iff];simp [GW,aw]
theorem lt6 (n:Nat):aw 6 (n:Int)= !decide (n≤6):=by rw [Bool.eq_iff_iff];simp [aw];omega
theorem Nq (a b:Nat):((a:Int) !=(b:Int))= !(a==b):=by rw [Bool.eq_iff_iff];simp;omega
def cR (pm:Pm) (line:Int):List Int:=(pm.filter (·.2==line)).map (·.1)
theorem HH {pm:Pm} {line:Int} {k:Nat} (hk:k<pm.length):cR (pm.take (k+1)) line=if (pm.getD k (0,0)).2==line then cR (pm.take k) line++ [(pm.getD k (0,0)).1] else cR (pm.take k) line:=by
 unfold cR
 rw [List.take_succ_eq_append_getElem hk,List.filter_append,List.map_append,ai hk]
 cases h:pm[k].2==line<;>simp [h]
theorem FF (pm:Pm) (line:Int):(cR pm line).length≤pm.length:=by
 unfold cR;rw [List.length_map];exact List.length_filter_le _ _
def eV (w:Wk) (kd a who:Int):Bool:=
 if kd=0∨kd=2 then !w.1.getD a.toNat false&& !w.2.1.getD a.toNat false
 else if kd=1 then w.1.getD a.toNat false
 else if kd=3 then w.2.1.getD a.toNat false&&decide (cR w.2.2 a=[])
 else if kd=4 then w.2.1.getD a.toNat false&&(GW who 0 9&& !decide ((who,a)∈w.2.2)&&decide (w.2.2.length<6))
 else if kd=5 then decide ((who,a)∈w.2.2)
 else false
def cJ (w:Wk) (kd a who:Int):Wk:=
 if kd=0 then (w.1.set a.toNat true,w.2.1,w.2.2)
 else if kd=1 then (w.1.set a.toNat false,w.2.1,w.2.2)
 else if kd=2 then (w.1,w.2.1.set a.toNat true,w.2.2)
 else if kd=3 then (w.1,w.2.1.set a.toNat false,w.2.2)
 else if kd=4 then (w.1,w.2.1,w.2.2++ [(who,a)])
 else (w.1,w.2.1,w.2.2.take (Qk w.2.2 (who,a)).toNat++w.2.2.drop ((Qk w.2.2 (who,a)).toNat+1))
def dB (w:Wk) (kd a who:Int):Wk×Bool:=
 if mR w.1 w.2.1 w.2.2 then (if 0≤a∧a<(w.1.length:Int)∧eV w kd a who=true then (cJ w kd a who,true) else (w,false)) else (([],[],[]),false)
def nZ (r:Wk×Bool):List Bool×List Bool×Pm×Bool:=(r.1.1,r.1.2.1,r.1.2.2,r.2)
theorem Od (l:List Int):((l.length:Int)==0)=decide (l=[]):=by cases l<;>simp;omega
theorem Ve (w:Wk) (kd a who:Int):(cJ w kd a who).1.length=w.1.length∧(cJ w kd a who).2.1.length=w.2.1.length∧(cJ w kd a who).2.2.length≤w.2.2.length+1:=by
 unfold cJ
 repeat' split
 all_goals simp
 omega
def ry (s:Int×Wk) (d:Int×Int×Int):Int×Wk:=if (dB s.2 d.1 d.2.1 d.2.2).2=true then (s.1+1,(dB s.2 d.1 d.2.1 d.2.2).1) else s
theorem sT {α:Type} {l:List α} {k:Nat} {y d:α} (hk:k<l.length):(l.set k y).getD k d=y:=by simp [List.getD,hk]
theorem eW {α:Type} {l:List α} {i j:Nat} {y d:α} (h:i≠j):(l.set i y).getD j d=l.getD j d:=by simp [List.getD,List.getElem?_set_ne h]
theorem WY {α:Type} {l:List α} {k:Nat} {d:α} (h:l.length≤k):l.getD k d=d:=by simp [List.getD,List.getElem?_eq_none h]
structure WOk (w:Wk):Prop where
 l0:1≤w.1.length
 l1:w.1.length≤10
 le:w.2.1.length=w.1.length
 lp:w.2.2.length≤6
 ne: ∀k,w.1.getD k false=true→w.2.1.getD k false=false
 pm: ∀p∈w.2.2,(0≤p.1∧p.1≤9)∧(0≤p.2∧p.2<(w.1.length:Int))∧w.2.1.getD p.2.toNat false=true
 nd:w.2.2.Nodup
theorem EV {w:Wk}:mR w.1 w.2.1 w.2.2=true↔WOk w:=by
 rw [uj]
 constructor
 ·intro h
  refine ⟨h.l0,h.l1,h.le,h.lp,h.ne,fun p hp=>?_,?_⟩
  ·obtain ⟨k,hk,rfl⟩:=List.mem_iff_getElem.1 hp
   have:=h.pm k hk
   rw [ai hk] at this
   exact ⟨this.1,this.2.1,this.2.2.1⟩
  ·rw [List.nodup_iff_pairwise_ne,List.pairwise_iff_getElem]
   intro i j hi hj hij e
   refine (h.pm j hj).2.2.2 (qu.2 ⟨i,hij,hi,?_⟩)
   rw [ai hi,ai hj,e]
 ·intro h
  refine ⟨h.l0,h.l1,h.le,h.lp,h.ne,fun k hk=>?_⟩
  have hm:=h.pm (w.2.2.getD k (0,0)) (by rw [ai hk];exact List.getElem_mem hk)
  refine ⟨hm.1,hm.2.1,hm.2.2,fun ht=>?_⟩
  obtain ⟨j,h1,h2,h3⟩:=qu.1 ht
  have hp:=h.nd
  rw [List.nodup_iff_pairwise_ne,List.pairwise_iff_getElem] at hp
  rw [ai h2,ai hk] at h3
  exact hp j k h2 hk h1 h3
theorem PF {w:Wk} {a who:Int} (hm:(who,a)∈w.2.2): ∃A B,w.2.2=A++(who,a)::B∧cJ w 5 a who=(w.1,w.2.1,A++B):=by
 rcases tG w.2.2 (who,a) with ⟨h1,h2⟩ |⟨k,hk,h1,h2,h3⟩
 ·exact absurd hm h2
 refine ⟨w.2.2.take k,w.2.2.drop (k+1),?_,?_⟩
 ·rw [←h2,ai hk];simp
 ·unfold cJ
  rw [if_neg (by decide),if_neg (by decide),if_neg (by decide),if_neg (by decide),if_neg (by decide),h1,Int.toNat_natCast]
theorem Ro {pm:Pm} {line x:Int}:x∈cR pm line↔(x,line)∈pm:=by
 simp only [cR,List.mem_map,List.mem_filter,beq_iff_eq]
 constructor
 ·rintro ⟨p,⟨h1,h2⟩,h3⟩
  rw [←h3,←h2];exact h1
 ·intro h;exact ⟨(x,line),⟨h,rfl⟩,rfl⟩
theorem Xz {A B:Pm} {p:Int×Int} (h:(A++p::B).Nodup):(A++B).Nodup∧p∉A++B:=by
 rw [List.nodup_append] at h
 obtain ⟨h1,h2,h3⟩:=h
 rw [List.nodup_cons] at h2
 refine ⟨List.nodup_append.2 ⟨h1,h2.2,fun a ha b hb=>h3 a ha b (by simp [hb])⟩,fun hm=>?_⟩
 rcases List.mem_append.1 hm with hm |hm
 ·exact h3 p hm p (by simp) rfl
 ·exact h2.1 hm
theorem MG {w:Wk} {kd a who:Int} (h:WOk w) (ha:0≤a∧a<(w.1.length:Int)) (hm:eV w kd a who=true):WOk (cJ w kd a who)∧cJ w kd a who≠w∧eV (cJ w kd a who) kd a who=false:=by
 have hal:a.toNat<w.1.length:=by omega
 have hae:a.toNat<w.2.1.length:=by have:=h.le;omega
 by_cases k0:kd=0
 ·subst k0
  have hm:w.1.getD a.toNat false=false∧w.2.1.getD a.toNat false=false:=by simpa only [eV,true_or,if_true,Bool.and_eq_true,Bool.not_eq_true'] using hm
  have e:cJ w 0 a who=(w.1.set a.toNat true,w.2.1,w.2.2):=rfl
  rw [e]
  refine ⟨⟨by simpa using h.l0,by simpa using h.l1,by simpa using h.le,h.lp,fun k hk=>?_,fun p hp=>by simpa using h.pm p hp,h.nd⟩,fun hc=>?_,?_⟩
  ·by_cases hka:a.toNat=k
   ·rw [←hka];exact hm.2
   ·exact h.ne k (by rwa [eW hka] at hk)
  ·have:=congrArg (fun w:Wk=>w.1.getD a.toNat false) hc
   simp only [sT hal,hm.1] at this
   cases this
  ·simp only [eV,true_or,if_true,sT hal];rfl
 by_cases k1:kd=1
 ·subst k1
  have hm:w.1.getD a.toNat false=true:=hm
  have e:cJ w 1 a who=(w.1.set a.toNat false,w.2.1,w.2.2):=rfl
  rw [e]
  refine ⟨⟨by simpa using h.l0,by simpa using h.l1,by simpa using h.le,h.lp,fun k hk=>?_,fun p hp=>by simpa using h.pm p hp,h.nd⟩,fun hc=>?_,?_⟩
  ·by_cases hka:a.toNat=k
   ·rw [←hka] at hk;rw [sT hal] at hk;cases hk
   ·exact h.ne k (by rwa [eW hka] at hk)
  ·have:=congrArg (fun w:Wk=>w.1.getD a.toNat false) hc
   simp only [sT hal,hm] at this
   cases this
  ·exact sT hal
 by_cases k2:kd=2
 ·subst k2
  have hm:w.1.getD a.toNat false=false∧w.2.1.getD a.toNat false=false:=by simpa only [eV,or_true,if_true,Bool.and_eq_true,Bool.not_eq_true'] using hm
  have e:cJ w 2 a who=(w.1,w.2.1.set a.toNat true,w.2.2):=rfl
  rw [e]
  refine ⟨⟨h.l0,h.l1,by simpa using h.le,h.lp,fun k hk=>?_,fun p hp=>?_,h.nd⟩,fun hc=>?_,?_⟩
  ·by_cases hka:a.toNat=k
   ·rw [←hka] at hk;rw [hm.1] at hk;cases hk
   ·rw [eW hka];exact h.ne k hk
  ·obtain ⟨p1,p2,p3⟩:=h.pm p hp
   refine ⟨p1,p2,?_⟩
   by_cases hka:a.toNat=p.2.toNat
   ·rw [←hka,sT hae]
   ·rw [eW hka];exact p3
  ·have:=congrArg (fun w:Wk=>w.2.1.getD a.toNat false) hc
   simp only [sT hae,hm.2] at this
   cases this
  ·simp only [eV,or_true,if_true,sT hae];simp
 by_cases k3:kd=3
 ·subst k3
  have hm:w.2.1.getD a.toNat false=true∧cR w.2.2 a=[]:=by
   have:(w.2.1.getD a.toNat false&&decide (cR w.2.2 a=[]))=true:=hm
   simpa only [Bool.and_eq_true,decide_eq_true_eq] using this
  have e:cJ w 3 a who=(w.1,w.2.1.set a.toNat false,w.2.2):=rfl
  rw [e]
  refine ⟨⟨h.l0,h.l1,by simpa using h.le,h.lp,fun k hk=>?_,fun p hp=>?_,h.nd⟩,fun hc=>?_,?_⟩
  ·by_cases hka:a.toNat=k
   ·rw [←hka,sT hae]
   ·rw [eW hka];exact h.ne k hk
  ·obtain ⟨p1,p2,p3⟩:=h.pm p hp
   refine ⟨p1,p2,?_⟩
   have hka:a.toNat≠p.2.toNat:=fun hka=>by
    have hpa:p.2=a:=by omega
    have:p.1∈cR w.2.2 a:=Ro.2 (by rw [←hpa];exact hp)
    rw [hm.2] at this;simp at this
   rw [eW hka];exact p3
  ·have:=congrArg (fun w:Wk=>w.2.1.getD a.toNat false) hc
   simp only [sT hae,hm.1] at this
   cases this
  ·show ((w.2.1.set a.toNat false).getD a.toNat false&&_)=false
   rw [sT hae];rfl
 by_cases k4:kd=4
 ·subst k4
  have hm:w.2.1.getD a.toNat false=true∧(0≤who∧who≤9)∧(who,a)∉w.2.2∧w.2.2.length<6:=by
   have:(w.2.1.getD a.toNat false&&(GW who 0 9&& !decide ((who,a)∈w.2.2)&&decide (w.2.2.length<6)))=true:=hm
   simp only [Bool.and_eq_true,decide_eq_true_eq,sh,Bool.not_eq_true',decide_eq_false_iff_not] at this
   exact ⟨this.1,this.2.1.1,this.2.1.2,this.2.2⟩
  have e:cJ w 4 a who=(w.1,w.2.1,w.2.2++ [(who,a)]):=rfl
  rw [e]
  refine ⟨⟨h.l0,h.l1,h.le,by simp;omega,h.ne,fun p hp=>?_,?_⟩,fun hc=>?_,?_⟩
  ·rcases List.mem_append.1 hp with hp |hp
   ·exact h.pm p hp
   ·have hp:p=(who,a):=by simpa using hp
    subst hp
    exact ⟨hm.2.1,ha,hm.1⟩
  ·refine List.nodup_append.2 ⟨h.nd,by simp,fun x hx y hy e=>?_⟩
   have hy:y=(who,a):=by simpa using hy
   rw [e,hy] at hx
   exact hm.2.2.1 hx
  ·have:=congrArg (fun w:Wk=>w.2.2.length) hc
   simp at this
  ·show (w.2.1.getD a.toNat false&&(GW who 0 9&& !decide ((who,a)∈w.2.2++ [(who,a)])&&decide ((w.2.2++ [(who,a)]).length<6)))=false
   simp
 by_cases k5:kd=5
 ·subst k5
  have hmem:(who,a)∈w.2.2:=by
   have:decide ((who,a)∈w.2.2)=true:=hm
   simpa using this
  obtain ⟨A,B,e1,e2⟩:=PF hmem
  have hnd:=h.nd
  rw [e1] at hnd
  obtain ⟨n1,n2⟩:=Xz hnd
  rw [e2]
  have hlp:=h.lp
  rw [e1] at hlp
  refine ⟨⟨h.l0,h.l1,h.le,by simp at hlp ⊢;omega,h.ne,fun p hp=>h.pm p ?_,n1⟩,fun hc=>?_,?_⟩
  ·rw [e1]
   rcases List.mem_append.1 hp with hp |hp
   ·simp [hp]
   ·simp [hp]
  ·have:=congrArg (fun w:Wk=>w.2.2.length) hc
   rw [e1] at this
   simp at this<;>omega
  ·show decide ((who,a)∈A++B)=false
   exact decide_eq_false n2
 ·simp [eV,k0,k1,k2,k3,k4,k5] at hm
theorem qH {w:Wk} (h:WOk w) (kd a who:Int):(dB w kd a who=(cJ w kd a who,true)∧(0≤a∧a<(w.1.length:Int))∧eV w kd a who=true∧WOk (cJ w kd a who))∨(dB w kd a who=(w,false)∧ ¬((0≤a∧a<(w.1.length:Int))∧eV w kd a who=true)):=by
 unfold dB
 rw [if_pos (EV.2 h)]
 by_cases hc:0≤a∧a<(w.1.length:Int)∧eV w kd a who=true
 ·rw [if_pos hc];exact .inl ⟨rfl,⟨hc.1,hc.2.1⟩,hc.2.2,(MG h ⟨hc.1,hc.2.1⟩ hc.2.2).1⟩
 ·rw [if_neg hc];exact .inr ⟨rfl,fun hh=>hc ⟨hh.1.1,hh.1.2,hh.2⟩⟩
def bV (pm:Pm):List (Int×Int×Int):=pm.map fun p=>(5,p.2,p.1)
theorem HW {pm:Pm} {k:Nat} (hk:k<pm.length):bV (pm.take (k+1))=bV (pm.take k)++ [(5,(pm.getD k (0,0)).2,(pm.getD k (0,0)).1)]:=by
 rw [List.take_succ_eq_append_getElem hk,ai hk]
 simp only [bV,List.map_append,List.map_cons,List.map_nil]
def dF (kd:Int) (l:List Bool) (b:Bool):Nat→List (Int×Int×Int)
 |0=> []
 |k+1=>if (l.getD k false==b)=true then dF kd l b k++ [(kd,(k:Int),0)] else dF kd l b k
theorem xe (kd:Int) (l:List Bool) (b:Bool): ∀k,(dF kd l b k).length≤k
 |0=>by simp [dF]
 |k+1=>by have:=xe kd l b k;simp only [dF];split<;>simp<;>omega
theorem ui {s:Int×Wk} {kd a who:Int} (h:WOk s.2) (ha:0≤a∧a<(s.2.1.length:Int)) (hm:eV s.2 kd a who=true):ry s (kd,a,who)=(s.1+1,cJ s.2 kd a who):=by
 unfold ry
 dsimp only
 rcases qH h kd a who with ⟨f1,f2,f3,f4⟩ |⟨f1,f2⟩
 ·rw [f1,if_pos rfl]
 ·exact absurd ⟨ha,hm⟩ f2
theorem Lj: ∀(pm:Pm) (c:Int) (on earth:List Bool),WOk (on,earth,pm)→(bV pm).foldl ry (c,on,earth,pm)=(c+(pm.length:Int),on,earth,[])
 | [],c,on,earth,_=>by simp [bV]
 |p::pm,c,on,earth,h=>by
  have hm:eV (on,earth,p::pm) 5 p.2 p.1=true:=by
   show decide ((p.1,p.2)∈p::pm)=true
   exact decide_eq_true (by simp)
  have ha:=(h.pm p (by simp)).2.1
  have hst:=ui (s:=(c,on,earth,p::pm)) h ha hm
  have hput:cJ (on,earth,p::pm) 5 p.2 p.1=(on,earth,pm):=by
   rcases tG (p::pm) (p.1,p.2) with ⟨h1,h2⟩ |⟨k,hk,h1,h2,h3⟩
   ·exact absurd (by simp) h2
   ·have hk0:k=0:=by
     rcases Nat.eq_zero_or_pos k with h |h
     ·exact h
     ·exact absurd (by simp) (h3 0 h)
    subst hk0
    unfold cJ
    rw [if_neg (by decide),if_neg (by decide),if_neg (by decide),if_neg (by decide),if_neg (by decide)]
    dsimp only
    rw [h1];simp
  have hok:=(MG h ha hm).1
  rw [hput] at hst hok
  show (bV pm).foldl ry (ry (c,on,earth,p::pm) (5,p.2,p.1))=_
  rw [hst,Lj pm (c+1) on earth hok]
  simp;omega
theorem Oq {l:List Bool} {b:Bool} {k:Nat} (hk:k<l.length):(List.replicate k b++l.drop k).set k b=List.replicate (k+1) b++l.drop (k+1):=by
 rw [List.set_append_right _ _ (by simp),List.length_replicate,Nat.sub_self,List.drop_eq_getElem_cons hk,List.set_cons_zero,List.replicate_succ',List.append_assoc];rfl
theorem Oo {l:List Bool} {b:Bool} {k:Nat} (hk:k<l.length):(List.replicate k b++l.drop k).getD k false=l.getD k false:=by
 simp [List.getD,List.getElem?_append_right]
theorem Su {l:List Bool} {b:Bool} {k:Nat} (hk:k<l.length) (h:l.getD k false=b):List.replicate k b++l.drop k=List.replicate (k+1) b++l.drop (k+1):=by
 rw [←Oq hk]
 have h2:=Oo (b:=b) hk
 have hl:k<(List.replicate k b++l.drop k).length:=by simp;omega
 rw [ai hl,h] at h2
 have e:=List.set_getElem_self hl
 rw [h2] at e
 exact e.symm
theorem Hu {on earth:List Bool} (h:WOk (on,earth,[])) (c:Int): ∀k,k≤earth.length→(dF 3 earth true k).foldl ry (c,on,earth,[])=(c+((dF 3 earth true k).length:Int),on,List.replicate k false++earth.drop k,[])∧WOk (on,List.replicate k false++earth.drop k,[])
 |0,_=>by simpa [dF] using h
 |k+1,hk=>by
  obtain ⟨i1,i2⟩:=Hu h c k (by omega)
  have hle:=h.le
  dsimp only at hle
  simp only [dF]
  cases he:earth.getD k false
  ·simp only [show (false==true)=false from rfl,Bool.false_eq_true,if_false]
   rw [←Su (by omega) he]
   exact ⟨i1,i2⟩
  ·simp only [beq_self_eq_true,if_true,List.foldl_append,List.foldl_cons,List.foldl_nil,i1,List.length_append,List.length_singleton]
   have hm:eV (on,List.replicate k false++earth.drop k,[]) 3 (k:Int) 0=true:=by
    show ((List.replicate k false++earth.drop k).getD (k:Int).toNat false&&decide (cR [] (k:Int)=[]))=true
    rw [Int.toNat_natCast,Oo (by omega),he];rfl
   have ha:0≤(k:Int)∧(k:Int)<(on.length:Int):=by omega
   have hst:=ui (s:=(c+((dF 3 earth true k).length:Int),on,List.replicate k false++earth.drop k,[])) i2 ha hm
   have hput:cJ (on,List.replicate k false++earth.drop k,[]) 3 (k:Int) 0=(on,List.replicate (k+1) false++earth.drop (k+1),[]):=by
    show (on,(List.replicate k false++earth.drop k).set (k:Int).toNat false,[])=_
    rw [Int.toNat_natCast,Oq (by omega)]
   have hok:=(MG i2 ha hm).1
   dsimp only at hst
   rw [hput] at hst hok
   rw [hst]
   refine ⟨?_,hok⟩
   congr 1
   omega
inductive Cn (E:List (Nat×Nat)):Nat→Nat→Prop
 |refl (a:Nat):Cn E a a
 |step {a b c:Nat}:Cn E a b→(b,c)∈E∨(c,b)∈E→Cn E a c
theorem Cn.trans {E:List (Nat×Nat)} {a b c:Nat} (h:Cn E a b) (k:Cn E b c):Cn E a c:=by
 induction k with
 |refl=>exact h
 |step _ e ih=>exact ih.step e
theorem Cn.one {E:List (Nat×Nat)} {a b:Nat} (h:(a,b)∈E∨(b,a)∈E):Cn E a b:=(Cn.refl a).step h
theorem Cn.symm {E:List (Nat×Nat)} {a b:Nat} (h:Cn E a b):Cn E b a:=by
 induction h with
 |refl=>exact .refl _
 |step _ e ih=>exact (Cn.one e.symm).trans ih
theorem Cn.mono {E F:List (Nat×Nat)} (hEF: ∀e∈E,e∈F) {a b:Nat} (h:Cn E a b):Cn F a b:=by
 induction h with
 |refl=>exact .refl _
 |step _ e ih=>exact ih.step (e.imp (hEF _) (hEF _))
theorem Nu {E:List (Nat×Nat)} {x y a b:Nat}:Cn (E++ [(x,y)]) a b↔Cn E a b∨(Cn E a x∧Cn E y b)∨(Cn E a y∧Cn E x b):=by
 have hm: ∀ {a b:Nat},Cn E a b→Cn (E++ [(x,y)]) a b:=fun h=>h.mono fun e he=>by simp [he]
 constructor
 ·intro h
  induction h with
  |refl=>exact .inl (.refl _)
  | @step b c _ e ih=>
   have he:((b,c)∈E∨(c,b)∈E)∨((b=x∧c=y)∨(b=y∧c=x)):=by
    simp only [List.mem_append,List.mem_singleton,Prod.mk.injEq] at e
    rcases e with (e |e) |(e |e)
    ·exact .inl (.inl e)
    ·exact .inr (.inl e)
    ·exact .inl (.inr e)
    ·exact .inr (.inr ⟨e.2,e.1⟩)
   rcases he with he |⟨rfl,rfl⟩ |⟨rfl,rfl⟩
   ·rcases ih with ih |⟨h1,h2⟩ |⟨h1,h2⟩
    ·exact .inl (ih.step he)
    ·exact .inr (.inl ⟨h1,h2.step he⟩)
    ·exact .inr (.inr ⟨h1,h2.step he⟩)
   ·rcases ih with ih |⟨h1,h2⟩ |⟨h1,h2⟩
    ·exact .inr (.inl ⟨ih,.refl _⟩)
    ·exact .inr (.inl ⟨h1,.refl _⟩)
    ·exact .inl h1
   ·rcases ih with ih |⟨h1,h2⟩ |⟨h1,h2⟩
    ·exact .inr (.inr ⟨ih,.refl _⟩)
    ·exact .inl h1
    ·exact .inr (.inr ⟨h1,.refl _⟩)
 ·have hxy:Cn (E++ [(x,y)]) x y:=.one (.inl (by simp))
  rintro (h |⟨h1,h2⟩ |⟨h1,h2⟩)
  ·exact hm h
  ·exact ((hm h1).trans hxy).trans (hm h2)
  ·exact ((hm h1).trans hxy.symm).trans (hm h2)
def qp (f:Nat→Nat) (a b:Nat) (c:Nat):Nat:=if f c=max (f a) (f b) then min (f a) (f b) else f c
def aU (E:List (Nat×Nat)):Nat→Nat:=E.foldl (fun f e=>qp f e.1 e.2) id
theorem xf (E:List (Nat×Nat)) (e:Nat×Nat):aU (E++ [e])=qp (aU E) e.1 e.2:=by unfold aU;rw [List.foldl_append];rfl
theorem Ss (f:Nat→Nat) (x y a b:Nat):qp f x y a=qp f x y b↔f a=f b∨(f a=f x∧f y=f b)∨(f a=f y∧f x=f b):=by
 unfold qp
 split<;>split<;>omega
theorem EL {α:Type} {P:List α→Prop} (h0:P []) (h1: ∀l a,P l→P (l++ [a])): ∀l,P l:=by
 intro l
 have: ∀r:List α,P r.reverse:=by
  intro r
  induction r with
  |nil=>exact h0
  |cons a r ih=>rw [List.reverse_cons];exact h1 _ _ ih
 have:=this l.reverse
 rwa [List.reverse_reverse] at this
theorem nG (E:List (Nat×Nat)): ∀a b,aU E a=aU E b↔Cn E a b:=by
 refine EL (P:=fun E=> ∀a b,aU E a=aU E b↔Cn E a b) ?_ ?_ E
 ·intro a b
  constructor
  ·intro h;have h:a=b:=h;subst h;exact .refl _
  ·intro h
   cases h with
   |refl=>rfl
   |step _ e=>simp at e
 ·intro E e ih a b
  obtain ⟨x,y⟩:=e
  rw [xf,Ss,ih,ih,ih,ih,ih,Nu]
theorem RJ (E:List (Nat×Nat)):(∀a,aU E a≤a)∧ ∀a,aU E (aU E a)=aU E a:=by
 refine EL (P:=fun E=>(∀a,aU E a≤a)∧ ∀a,aU E (aU E a)=aU E a) ⟨fun a=>Nat.le_refl a,fun a=>rfl⟩ ?_ E
 rintro E ⟨x,y⟩ ⟨h1,h2⟩
 rw [xf]
 refine ⟨fun a=>?_,fun a=>?_⟩
 ·have:=h1 a
  unfold qp
  split<;>omega
 ·have ha:=h2 a
  have hx:=h2 x
  have hy:=h2 y
  unfold qp
  by_cases hc:aU E a=max (aU E x) (aU E y)
  ·rw [if_pos hc]
   rcases Nat.le_total (aU E x) (aU E y) with hle |hle
   ·rw [Nat.min_eq_left hle,hx];split<;>omega
   ·rw [Nat.min_eq_right hle,hy];split<;>omega
  ·rw [if_neg hc,ha,if_neg hc]
def Dn (u:List Nat):Prop:= ∀b,b<u.length→u.getD b 0≤b
inductive Rot (u:List Nat):Nat→Nat→Prop
 |stop {r:Nat}:u.getD r 0=r→Rot u r r
 |go {b r:Nat}:Rot u (u.getD b 0) r→Rot u b r
theorem Rot.root {u:List Nat} {b r:Nat} (h:Rot u b r):u.getD r 0=r:=by
 induction h with
 |stop h=>exact h
 |go _ ih=>exact ih
theorem Rot.fix {u:List Nat} {b r:Nat} (h:Rot u b r) (hb:u.getD b 0=b):r=b:=by
 induction h with
 |stop _=>rfl
 |go _ ih=>exact (ih (by rw [hb];exact hb)).trans hb
theorem Rot.uniq {u:List Nat} {b r r':Nat} (h:Rot u b r) (h':Rot u b r'):r=r':=by
 induction h with
 |stop h=>exact (h'.fix h).symm
 | @go b r h1 ih=>
  cases h' with
  |stop h2=>exact h1.fix (by rw [h2];exact h2) |>.trans h2
  |go h2=>exact ih h2
theorem Rot.next {u:List Nat} {b r:Nat} (h:Rot u b r):Rot u (u.getD b 0) r:=by
 cases h with
 |stop h=>rw [h];exact .stop h
 |go h=>exact h
theorem Rot.ex {u:List Nat} (h:Dn u): ∀b,b<u.length→ ∃r,Rot u b r∧r≤b:=by
 intro b
 induction b using Nat.strongRecOn with
 |ind b ih=>
  intro hb
  by_cases hc:u.getD b 0=b
  ·exact ⟨b,.stop hc,Nat.le_refl _⟩
  ·have h1:=h b hb
   obtain ⟨r,h2,h3⟩:=ih (u.getD b 0) (by omega) (by omega)
   exact ⟨r,.go h2,by omega⟩
theorem oc {u:List Nat} {b v c:Nat} (hb:b<u.length):(u.set b v).getD c 0=if c=b then v else u.getD c 0:=by
 by_cases h:c=b
 ·subst h;simp [List.getD,hb]
 ·rw [if_neg h];simp [List.getD,List.getElem?_set_ne (Ne.symm h)]
theorem Rot.halve {u:List Nat} (h:Dn u) {b:Nat} (hb:b<u.length): ∀c r,c<u.length→(Rot u c r→Rot (u.set b (u.getD (u.getD b 0) 0)) c r):=by
 intro c
 induction c using Nat.strongRecOn with
 |ind c ih=>
  intro r hc hr
  by_cases hf:u.getD c 0=c
  ·have e:=hr.fix hf
   subst e
   refine .stop ?_
   rw [oc hb]
   split
   ·rename_i e;subst e;rw [hf];exact hf
   ·exact hf
  ·have h1:=h c hc
   refine .go ?_
   rw [oc hb]
   split
   ·rename_i e;subst e
    have h2:=h (u.getD c 0) (by omega)
    exact ih _ (by omega) r (by omega) hr.next.next
   ·exact ih _ (by omega) r (by omega) hr.next
theorem Dn.halve {u:List Nat} (h:Dn u) {b:Nat} (hb:b<u.length):Dn (u.set b (u.getD (u.getD b 0) 0)):=by
 intro c hc
 rw [List.length_set] at hc
 rw [oc hb]
 split
 ·rename_i e;subst e
  have h1:=h c hc
  have h2:=h (u.getD c 0) (by omega)
  omega
 ·exact h c hc
theorem Rot.join {u:List Nat} {f:Nat→Nat} (h:Dn u) (hf: ∀c,c<u.length→Rot u c (f c)) {a b:Nat} (ha:a<u.length) (hb:b<u.length) (hlt: ∀c,c<u.length→f c≤c):
 ∀c,c<u.length→Rot (u.set (max (f a) (f b)) (min (f a) (f b))) c (qp f a b c):=by
 have la:=hlt a ha
 have lb:=hlt b hb
 have hm:max (f a) (f b)<u.length:=by omega
 have hmin:(u.set (max (f a) (f b)) (min (f a) (f b))).getD (min (f a) (f b)) 0=min (f a) (f b):=by
  rw [oc hm]
  split
  ·rfl
  ·rcases Nat.le_total (f a) (f b) with hle |hle
   ·rw [Nat.min_eq_left hle];exact (hf a ha).root
   ·rw [Nat.min_eq_right hle];exact (hf b hb).root
 intro c
 induction c using Nat.strongRecOn with
 |ind c ih=>
  intro hc
  by_cases hcm:c=max (f a) (f b)
  ·have hroot:u.getD c 0=c:=by
    rw [hcm]
    rcases Nat.le_total (f a) (f b) with hle |hle
    ·rw [Nat.max_eq_right hle];exact (hf b hb).root
    ·rw [Nat.max_eq_left hle];exact (hf a ha).root
   have hfc:f c=c:=(hf c hc).fix hroot
   have e:qp f a b c=min (f a) (f b):=by unfold qp;rw [if_pos (by rw [hfc];exact hcm)]
   rw [e]
   refine .go ?_
   rw [oc hm,if_pos hcm]
   exact .stop hmin
  ·by_cases hroot:u.getD c 0=c
   ·have hfc:f c=c:=(hf c hc).fix hroot
    have e:qp f a b c=c:=by unfold qp;rw [if_neg (by rw [hfc];exact hcm),hfc]
    rw [e]
    refine .stop ?_
    rw [oc hm,if_neg hcm];exact hroot
   ·have h1:=h c hc
    have e:f (u.getD c 0)=f c:=(hf (u.getD c 0) (by omega)).uniq (hf c hc).next
    have e2:qp f a b c=qp f a b (u.getD c 0):=by unfold qp;rw [e]
    rw [e2]
    refine .go ?_
    rw [oc hm,if_neg hcm]
    exact ih _ (by omega) (by omega)
def HI (s:Nat→Bool) (e:Nat×Nat):Nat→Bool:=if s e.1 ||s e.2 then fun c=>c==e.1 ||c==e.2 ||s c else s
def kW (E:List (Nat×Nat)) (s:Nat→Bool):Nat→Bool:=E.foldl HI s
def aT (E:List (Nat×Nat)) (s:Nat→Bool):Nat→Nat→Bool
 |0=>s
 |k+1=>kW E (aT E s k)
theorem FG {s:Nat→Bool} {e:Nat×Nat} {c:Nat} (h:s c=true):HI s e c=true:=by
 unfold HI;split<;>simp [h]
theorem oG (E:List (Nat×Nat)): ∀ {s:Nat→Bool} {c:Nat},s c=true→kW E s c=true:=by
 induction E with
 |nil=>intro s c h;exact h
 |cons e E ih=>intro s c h;exact ih (FG h)
theorem Ib (E:List (Nat×Nat)): ∀ {s:Nat→Bool} {e:Nat×Nat},e∈E→(s e.1 ||s e.2)=true→kW E s e.1=true∧kW E s e.2=true:=by
 induction E with
 |nil=>intro s e h;simp at h
 |cons d E ih=>
  intro s e h hs
  rcases List.mem_cons.1 h with rfl |h
  ·have h1:HI s e e.1=true:=by unfold HI;rw [if_pos hs];simp
   have h2:HI s e e.2=true:=by unfold HI;rw [if_pos hs];simp
   exact ⟨oG E h1,oG E h2⟩
  ·refine ih (s:=HI s d) h ?_
   rw [Bool.or_eq_true] at hs ⊢
   exact hs.imp FG FG
theorem LC {F:List (Nat×Nat)} {b:Nat} (E:List (Nat×Nat)): ∀ {s:Nat→Bool},(∀e∈E,e∈F)→(∀c,s c=true→Cn F b c)→ ∀c,kW E s c=true→Cn F b c:=by
 induction E with
 |nil=>intro s _ h c hc;exact h c hc
 |cons e E ih=>
  intro s hE h c hc
  refine ih (s:=HI s e) (fun x hx=>hE x (by simp [hx])) (fun c hc=>?_) c hc
  unfold HI at hc
  split at hc
  ·rename_i hs
   have he:e∈F:=hE e (by simp)
   have h1:Cn F b e.1∧Cn F b e.2:=by
    rw [Bool.or_eq_true] at hs
    rcases hs with hs |hs
    ·exact ⟨h _ hs,(h _ hs).step (.inl he)⟩
    ·exact ⟨(h _ hs).step (.inr he),h _ hs⟩
   simp only [Bool.or_eq_true,beq_iff_eq] at hc
   rcases hc with (rfl |rfl) |hc
   ·exact h1.1
   ·exact h1.2
   ·exact h c hc
  ·exact h c hc
theorem Jy {E:List (Nat×Nat)} {b:Nat} (k:Nat): ∀c,aT E (fun c=>c==b) k c=true→Cn E b c:=by
 induction k with
 |zero=>intro c hc;have:c=b:=by simpa [aT] using hc
        subst this;exact .refl _
 |succ k ih=>exact LC E (fun _ h=>h) ih
theorem JY {p q:Nat→Bool} (l:List Nat) (h: ∀c,p c=true→q c=true):l.countP p≤l.countP q∧((∃c∈l,q c=true∧p c=false)→l.countP p+1≤l.countP q):=by
 induction l with
 |nil=>exact ⟨Nat.le_refl _,fun ⟨c,hc,_⟩=>by simp at hc⟩
 |cons x l ih=>
  simp only [List.countP_cons]
  have hx:=h x
  refine ⟨?_,?_⟩
  ·cases hp:p x
   ·simp;omega
   ·rw [hx hp];simp;omega
  ·rintro ⟨c,hc,h1,h2⟩
   rcases List.mem_cons.1 hc with rfl |hc
   ·rw [h1,h2];simp;omega
   ·have:=ih.2 ⟨c,hc,h1,h2⟩
    cases hp:p x
    ·simp;omega
    ·rw [hx hp];simp;omega
def LU (E:List (Nat×Nat)) (s:Nat→Bool):Prop:= ∀e∈E,s e.1=s e.2
theorem Gx {E:List (Nat×Nat)} {s:Nat→Bool} (h:LU E s): ∀c,kW E s c=s c:=by
 have: ∀(F:List (Nat×Nat)),(∀e∈F,s e.1=s e.2)→kW F s=s:=by
  intro F
  induction F with
  |nil=>intro _;rfl
  |cons e F ih=>
   intro hF
   have he:HI s e=s:=by
    have e0:=hF e (by simp)
    unfold HI
    split
    ·rename_i hs
     funext c
     rw [e0,Bool.or_self] at hs
     by_cases h1:c=e.1
     ·subst h1;simp [e0,hs]
     ·by_cases h2:c=e.2
      ·subst h2;simp [hs]
      ·simp [h1,h2]
    ·rfl
   show kW F (HI s e)=s
   rw [he]
   exact ih fun x hx=>hF x (by simp [hx])
 intro c;rw [this E h]
theorem LE {E:List (Nat×Nat)} {B b:Nat} (hE: ∀e∈E,e.1<B∧e.2<B) (hb:b<B): ∀k,LU E (aT E (fun c=>c==b) k)∨k+1≤(List.range B).countP (aT E (fun c=>c==b) k):=by
 intro k
 induction k with
 |zero=>
  refine .inr ?_
  have:=List.countP_pos_iff (p:=fun c=>c==b) (l:=List.range B) |>.2 ⟨b,by simpa using hb,by simp⟩
  simpa [aT] using this
 |succ k ih=>
  by_cases hs:LU E (aT E (fun c=>c==b) k)
  ·left
   have e:aT E (fun c=>c==b) (k+1)=aT E (fun c=>c==b) k:=funext (Gx hs)
   rw [e];exact hs
  ·rcases ih with ih |ih
   ·exact absurd ih hs
   right
   have hm: ∀c,aT E (fun c=>c==b) k c=true→aT E (fun c=>c==b) (k+1) c=true:=fun c hc=>oG E hc
   obtain ⟨e,he,hne⟩: ∃e∈E,aT E (fun c=>c==b) k e.1≠aT E (fun c=>c==b) k e.2:=by
    refine Classical.byContradiction fun hn=>hs fun e he=>Classical.byContradiction fun h=>hn ⟨e,he,h⟩
   have hor:(aT E (fun c=>c==b) k e.1 ||aT E (fun c=>c==b) k e.2)=true:=by
    revert hne;cases aT E (fun c=>c==b) k e.1<;>cases aT E (fun c=>c==b) k e.2<;>simp
   have hh:=Ib E he hor
   have hlt:=hE e he
   have:=(JY (List.range B) hm).2 (by
    cases h1:aT E (fun c=>c==b) k e.1
    ·exact ⟨e.1,by simpa using hlt.1,hh.1,h1⟩
    ·cases h2:aT E (fun c=>c==b) k e.2
     ·exact ⟨e.2,by simpa using hlt.2,hh.2,h2⟩
     ·rw [h1,h2] at hne;exact absurd rfl hne)
   omega
theorem Qa {E:List (Nat×Nat)} {B b c:Nat} (hE: ∀e∈E,e.1<B∧e.2<B) (hb:b<B):aT E (fun c=>c==b) B c=true↔Cn E b c:=by
 refine ⟨Jy B c,fun h=>?_⟩
 have hs:LU E (aT E (fun c=>c==b) B):=by
  rcases LE hE hb B with h |h
  ·exact h
  ·have:=List.countP_le_length (p:=aT E (fun c=>c==b) B) (l:=List.range B)
   simp at this;omega
 have hstart: ∀k,aT E (fun c=>c==b) k b=true:=by
  intro k
  induction k with
  |zero=>simp [aT]
  |succ k ih=>exact oG E ih
 induction h with
 |refl=>exact hstart B
 |step _ e ih=>
  rcases e with e |e
  ·rw [←hs _ e];exact ih
  ·rw [hs _ e];exact ih
abbrev Ed:=List (Nat×Nat)
def Fo (E:Ed):Prop:= ∀P e Q,E=P++e::Q→ ¬Cn P e.1 e.2
theorem WU:Fo []:=by
 intro P e Q h
 have:=congrArg List.length h
 simp at this
theorem NF {E:Ed} {e:Nat×Nat}:Fo (E++ [e])↔Fo E∧ ¬Cn E e.1 e.2:=by
 constructor
 ·intro h
  exact ⟨fun P f Q hE=>h P f (Q++ [e]) (by rw [hE];simp),h E e [] rfl⟩
 ·rintro ⟨h1,h2⟩ P f Q hE
  rcases List.eq_nil_or_concat Q with rfl |⟨Q',x,rfl⟩
  ·obtain ⟨rfl,h3⟩:=List.append_inj' hE rfl
   obtain rfl:e=f:=by simpa using h3
   exact h2
  ·have hE':E++ [e]=(P++f::Q')++ [x]:=by rw [hE];simp
   obtain ⟨rfl,h3⟩:=List.append_inj' hE' rfl
   exact h1 P f Q' rfl
theorem VN: ∀(Q P:Ed) (e:Nat×Nat),Fo (P++e::Q)→ ¬Cn (P++Q) e.1 e.2:=by
 refine EL (P:=fun Q=> ∀(P:Ed) (e:Nat×Nat),Fo (P++e::Q)→ ¬Cn (P++Q) e.1 e.2) ?_ ?_
 ·intro P e h
  rw [List.append_nil];exact h P e [] rfl
 ·rintro Q ⟨x,y⟩ ih P e h hc
  have h':Fo ((P++e::Q)++ [(x,y)]):=by simpa using h
  rw [NF] at h'
  have hn:=ih P e h'.1
  have M: ∀ {a b:Nat},Cn (P++Q) a b→Cn (P++e::Q) a b:=fun h=>h.mono fun f hf=>by
   rcases List.mem_append.1 hf with hf |hf<;>simp [hf]
  have he:Cn (P++e::Q) e.1 e.2:=.one (.inl (by simp))
  rw [←List.append_assoc,Nu] at hc
  rcases hc with hc |⟨h1,h2⟩ |⟨h1,h2⟩
  ·exact hn hc
  ·exact h'.2 ((M h1).symm.trans (he.trans (M h2).symm))
  ·exact h'.2 ((M h2).trans (he.symm.trans (M h1)))
theorem WV {E F:Ed} (hs:E.Sublist F) (h:Fo F):Fo E:=by
 intro P e Q hE hc
 subst hE
 obtain ⟨F1,F2,rfl,s1,s2⟩:=List.append_sublist_iff.1 hs
 obtain ⟨G1,G2,rfl,m1,m2⟩:=List.cons_sublist_iff.1 s2
 obtain ⟨H1,H2,rfl⟩:=List.append_of_mem m1
 refine h (F1++H1) e (H2++G2) (by simp) (hc.mono fun f hf=>?_)
 simp [s1.subset hf]
abbrev Ln:=Int×Int×Int
def cc (l:Ln):Nat×Nat:=(l.1.toNat,l.2.1.toNat)
def uf (z:List (Ln×Bool)):Ed:=(z.filter (·.2)).map fun p=>cc p.1
def aA (ls:List Ln) (on:List Bool):Ed:=uf (ls.zip on)
theorem IX (y z:List (Ln×Bool)):uf (y++z)=uf y++uf z:=by simp [uf]
theorem KR {z:List (Ln×Bool)} {k:Nat} (hk:k<z.length):uf (z.take (k+1))=if z[k].2 then uf (z.take k)++ [cc z[k].1] else uf (z.take k):=by
 rw [List.take_succ_eq_append_getElem hk,IX]
 cases h:z[k].2<;>simp [uf,h]
theorem UU {z:List (Ln×Bool)} {k:Nat} (hk:k<z.length):z=z.take k++z[k]::z.drop (k+1):=by
 rw [←List.drop_eq_getElem_cons hk,List.take_append_drop]
theorem IV {ls:List Ln} {on:List Bool} {k:Nat} (hk:k<ls.length) (hl:on.length=ls.length) (ho:on.getD k false=true):
 aA ls on=uf ((ls.zip on).take k)++cc (ls.getD k (0,0,0))::uf ((ls.zip on).drop (k+1)):=by
 have hz:k<(ls.zip on).length:=by simp;omega
 have e:(ls.zip on)[k]=(ls.getD k (0,0,0),true):=by
  rw [ai (by omega:k<on.length)] at ho
  rw [List.getElem_zip,ai hk,ho]
 have h:=UU hz
 unfold aA
 rw [e] at h
 conv=>lhs;rw [h]
 rw [IX]
 simp [uf]
theorem IW {ls:List Ln} {on:List Bool} {k:Nat} (hk:k<ls.length) (hl:on.length=ls.length):
 aA ls (on.set k false)=uf ((ls.zip on).take k)++uf ((ls.zip on).drop (k+1)):=by
 have e:ls.zip (on.set k false)=(ls.zip on).take k++(ls[k],false)::(ls.zip on).drop (k+1):=by
  apply List.ext_getElem
  ·simp;omega
  ·intro i h1 h2
   have hi:i<ls.length:=by simp at h1;omega
   rw [List.getElem_zip,List.getElem_set,List.getElem_append]
   have hkz:((ls.zip on).take k).length=k:=by simp;omega
   split
   ·rename_i hik
    subst hik
    simp [hkz]
   ·split
    ·simp
    ·rename_i h3 h4
     rw [hkz] at h4
     obtain ⟨j,hj⟩: ∃j,i-((ls.zip on).take k).length=j+1:=⟨i-k-1,by rw [hkz];omega⟩
     simp only [hj,List.getElem_cons_succ,List.getElem_drop,List.getElem_zip]
     have:k+1+j=i:=by rw [hkz] at hj;omega
     simp [this]
 unfold aA
 rw [e,IX]
 simp [uf]
theorem zm {ls:List Ln} {on:List Bool} {e:Nat×Nat}:e∈aA ls on↔ ∃k,k<ls.length∧on.getD k false=true∧e=cc (ls.getD k (0,0,0)):=by
 unfold aA uf
 rw [List.mem_map]
 constructor
 ·rintro ⟨p,hp,rfl⟩
  obtain ⟨h1,h2⟩:=List.mem_filter.1 hp
  obtain ⟨k,hk,rfl⟩:=List.mem_iff_getElem.1 h1
  have hk':k<ls.length∧k<on.length:=by rw [List.length_zip] at hk;omega
  rw [List.getElem_zip] at h2 ⊢
  exact ⟨k,hk'.1,by rw [ai hk'.2];exact h2,by rw [ai hk'.1]⟩
 ·rintro ⟨k,hk,ho,rfl⟩
  have hk2:k<on.length:=by
   rcases Nat.lt_or_ge k on.length with h |h
   ·exact h
   ·rw [List.getD_eq_getElem?_getD,List.getElem?_eq_none h] at ho;simp at ho
  refine ⟨(ls[k],on[k]),List.mem_filter.2 ⟨List.mem_iff_getElem.2 ⟨k,by simp;omega,by simp⟩,?_⟩,by rw [ai hk]⟩
  rw [ai hk2] at ho
  exact ho
theorem UT {ls:List Ln}: ∀ {on on':List Bool},on.length=on'.length→(∀k,on.getD k false=true→on'.getD k false=true)→(aA ls on).Sublist (aA ls on'):=by
 induction ls with
 |nil=>intro on on' _ _;simp [aA,uf]
 |cons l ls ih=>
  intro on on' hl h
  cases on with
  |nil=>simp [aA,uf]
  |cons b on=>
   cases on' with
   |nil=>simp at hl
   |cons b' on'=>
    have h2:=ih (on:=on) (on':=on') (by simpa using hl) (fun k hk=>by have:=h (k+1);simpa using this (by simpa using hk))
    have h0:b=true→b'=true:=fun hb=>by have:=h 0;simpa using this (by simpa using hb)
    unfold aA uf at h2 ⊢
    cases b
    ·cases b'
     ·simpa using h2
     ·simpa using h2.trans (List.sublist_cons_self _ _)
    ·rw [h0 rfl];simpa using h2
def Mh (ls:List Ln) (on:List Bool):Bool:=(List.range ls.length).any fun k=>on.getD k false&&aU (aA ls (on.set k false)) (cc (ls.getD k (0,0,0))).1==aU (aA ls (on.set k false)) (cc (ls.getD k (0,0,0))).2
def Mg (ls:List Ln) (on:List Bool):Bool:=(List.range ls.length).any fun k=>on.getD k false&&aU (uf ((ls.zip on).take k)) (cc (ls.getD k (0,0,0))).1==aU (uf ((ls.zip on).take k)) (cc (ls.getD k (0,0,0))).2
theorem NG {ls:List Ln} {on:List Bool} (hl:on.length=ls.length) (h: ∀k,k<ls.length→on.getD k false=true→ ¬Cn (uf ((ls.zip on).take k)) (cc (ls.getD k (0,0,0))).1 (cc (ls.getD k (0,0,0))).2):Fo (aA ls on):=by
 have: ∀k,k≤ls.length→Fo (uf ((ls.zip on).take k)):=by
  intro k
  induction k with
  |zero=>intro _;exact WU
  |succ k ih=>
   intro hk
   have hz:k<(ls.zip on).length:=by simp;omega
   rw [KR hz]
   have e1:(ls.zip on)[k].2=on.getD k false:=by rw [ai (by omega)];simp
   have e2:(ls.zip on)[k].1=ls.getD k (0,0,0):=by rw [ai (by omega)];simp
   rw [e1,e2]
   split
   ·rename_i ho
    exact NF.2 ⟨ih (by omega),h k (by omega) ho⟩
   ·exact ih (by omega)
 have h2:=this ls.length (Nat.le_refl _)
 rwa [List.take_of_length_le (by simp;omega)] at h2
theorem Nv {ls:List Ln} {on:List Bool} (hl:on.length=ls.length):Mg ls on=false↔Fo (aA ls on):=by
 unfold Mg
 rw [List.any_eq_false]
 constructor
 ·intro h
  refine NG hl fun k hk ho hc=>h k (by simpa using hk) ?_
  rw [ho,(nG _ _ _).2 hc];simp
 ·intro h k hk hc
  have hk:k<ls.length:=by simpa using hk
  simp only [Bool.and_eq_true,beq_iff_eq] at hc
  exact h _ _ _ (IV hk hl hc.1) ((nG _ _ _).1 hc.2)
theorem Ir {ls:List Ln} {on:List Bool} (hl:on.length=ls.length):Mh ls on=false↔Fo (aA ls on):=by
 unfold Mh
 rw [List.any_eq_false]
 constructor
 ·intro h
  refine NG hl fun k hk ho hc=>h k (by simpa using hk) ?_
  rw [ho,IW hk hl,(nG _ _ _).2 (hc.mono fun f hf=>by simp [hf])];simp
 ·intro h k hk hc
  have hk:k<ls.length:=by simpa using hk
  simp only [Bool.and_eq_true,beq_iff_eq] at hc
  rw [IW hk hl] at hc
  rw [IV hk hl hc.1] at h
  exact VN _ _ _ h ((nG _ _ _).1 hc.2)
theorem WF {ls:List Ln} {on:List Bool} (hl:on.length=ls.length):Mg ls on=Mh ls on:=by
 cases h:Mh ls on
 ·exact (Nv hl).2 ((Ir hl).1 h)
 ·cases h2:Mg ls on
  ·rw [(Ir hl).2 ((Nv hl).1 h2)] at h;exact h
  ·rfl
def aK (pts:List (Int×Int)) (b:Nat):Bool:=decide (0<(pts.getD b (0,0)).1)
theorem pu {pts:List (Int×Int)} {b:Nat} (h:aK pts b=true):b<pts.length:=by
 rcases Nat.lt_or_ge b pts.length with h1 |h1
 ·exact h1
 ·simp [aK,List.getElem?_eq_none h1] at h
def Nh (E:Ed) (pts:List (Int×Int)):Bool:=(List.range pts.length).any fun k=>(List.range k).any fun j=>aK pts k&&aK pts j&&aU E j==aU E k
theorem GC {E:Ed} {pts:List (Int×Int)}:Nh E pts=false↔ ∀a b,aK pts a=true→aK pts b=true→Cn E a b→a=b:=by
 unfold Nh
 rw [List.any_eq_false]
 constructor
 ·intro h
  have key: ∀a b,aK pts a=true→aK pts b=true→Cn E a b→ ¬a<b:=by
   intro a b ha hb hc hlt
   refine h b (by simpa using pu hb) (List.any_eq_true.2 ⟨a,by simpa using hlt,?_⟩)
   rw [ha,hb,(nG _ _ _).2 hc];simp
  intro a b ha hb hc
  have h1:=key a b ha hb hc
  have h2:=key b a hb ha hc.symm
  omega
 ·intro h k hk hc
  obtain ⟨j,hj,h2⟩:=List.any_eq_true.1 hc
  simp only [Bool.and_eq_true,beq_iff_eq] at h2
  have:=h j k h2.1.2 h2.1.1 ((nG _ _ _).1 h2.2)
  have:j<k:=by simpa using hj
  omega
def kE (ls:List Ln) (on:List Bool) (pts:List (Int×Int)):Bool:= !Mh ls on&& !Nh (aA ls on) pts
theorem Gk {ls:List Ln} {on:List Bool} {pts:List (Int×Int)} (hl:on.length=ls.length):kE ls on pts=true↔Fo (aA ls on)∧ ∀a b,aK pts a=true→aK pts b=true→Cn (aA ls on) a b→a=b:=by
 unfold kE
 rw [Bool.and_eq_true,Bool.not_eq_true',Bool.not_eq_true',Ir hl,GC]
theorem Gl {ls:List Ln} {on on':List Bool} {pts:List (Int×Int)} (hl:on.length=ls.length) (hl':on'.length=ls.length) (h: ∀k,on.getD k false=true→on'.getD k false=true) (hr:kE ls on' pts=true):kE ls on pts=true:=by
 rw [Gk hl'] at hr
 rw [Gk hl]
 have hs:=UT (ls:=ls) (hl.trans hl'.symm) h
 exact ⟨WV hs hr.1,fun a b ha hb hc=>hr.2 a b ha hb (hc.mono fun e he=>hs.subset he)⟩
def gM (E:Ed) (pts:List (Int×Int)) (b:Nat):Bool:=(List.range pts.length).any fun f=>aK pts f&&aU E f==aU E b
theorem lV {E:Ed} {pts:List (Int×Int)} {b:Nat}:gM E pts b=true↔ ∃f,aK pts f=true∧Cn E f b:=by
 unfold gM
 rw [List.any_eq_true]
 constructor
 ·rintro ⟨f,_,h⟩
  simp only [Bool.and_eq_true,beq_iff_eq] at h
  exact ⟨f,h.1,(nG _ _ _).1 h.2⟩
 ·rintro ⟨f,h1,h2⟩
  exact ⟨f,by simpa using pu h1,by rw [h1,(nG _ _ _).2 h2];simp⟩
theorem NC {E:Ed} {pts:List (Int×Int)} {a b:Nat} (h:gM E pts a=true) (hc:Cn E a b):gM E pts b=true:=by
 obtain ⟨f,h1,h2⟩:=lV.1 h
 exact lV.2 ⟨f,h1,h2.trans hc⟩
def Lk (ls:List Ln) (on:List Bool) (k b c:Nat):Prop:=k<ls.length∧on.getD k false=true∧(cc (ls.getD k (0,0,0))=(b,c)∨cc (ls.getD k (0,0,0))=(c,b))
structure Par (ls:List Ln) (on:List Bool) (pts:List (Int×Int)) (par:Nat→Int) (rk:Nat→Nat):Prop where
 fed: ∀b,b<pts.length→gM (aA ls on) pts b=true→aK pts b=true∨0≤par b
 feed: ∀b,aK pts b=true→par b<0
 line: ∀b,0≤par b→ ∃c,Lk ls on (par b).toNat b c∧c<pts.length∧gM (aA ls on) pts c=true∧rk c<rk b
inductive Way (ls:List Ln) (on:List Bool) (par:Nat→Int):Nat→List Nat→Prop
 |top {b:Nat}:par b<0→Way ls on par b []
 |step {b c:Nat} {w:List Nat}:0≤par b→Lk ls on (par b).toNat b c→Way ls on par c w→Way ls on par b (w++ [(par b).toNat])
theorem yS {ls:List Ln} {on:List Bool} {k b c d:Nat} (h:Lk ls on k b c) (h':Lk ls on k b d):c=d:=by
 obtain ⟨_,_,h⟩:=h
 obtain ⟨_,_,h'⟩:=h'
 rcases h with h |h<;>rcases h' with h' |h'<;>rw [h] at h'<;>simp only [Prod.mk.injEq] at h'<;>omega
theorem Lk.cn {ls:List Ln} {on:List Bool} {k b c:Nat} (h:Lk ls on k b c):Cn (aA ls on) b c:=by
 obtain ⟨h1,h2,h3⟩:=h
 have hm:=zm.2 ⟨k,h1,h2,rfl⟩
 rcases h3 with h3 |h3<;>rw [h3] at hm
 ·exact .one (.inl hm)
 ·exact .one (.inr hm)
theorem Lk.off {ls:List Ln} {on:List Bool} {k j b c:Nat} (h:Lk ls on k b c) (hj:k≠j):Lk ls (on.set j false) k b c:=by
 obtain ⟨h1,h2,h3⟩:=h
 exact ⟨h1,by rw [←h2];simp [List.getD,List.getElem?_set_ne (Ne.symm hj)],h3⟩
section
variable {ls:List Ln} {on:List Bool} {pts:List (Int×Int)} {par:Nat→Int} {rk:Nat→Nat} (P:Par ls on pts par rk) (hl:on.length=ls.length)
include P
theorem Par.way: ∀(n b:Nat),rk b≤n→ ∃w,Way ls on par b w:=by
 intro n
 induction n with
 |zero=>
  intro b hb
  by_cases h:0≤par b
  ·obtain ⟨c,_,_,_,h2⟩:=P.line b h;omega
  ·exact ⟨[],.top (by omega)⟩
 |succ n ih=>
  intro b hb
  by_cases h:0≤par b
  ·obtain ⟨c,h1,_,_,h2⟩:=P.line b h
   obtain ⟨w,hw⟩:=ih c (by omega)
   exact ⟨_,.step h h1 hw⟩
  ·exact ⟨[],.top (by omega)⟩
omit P in
theorem Way.uniq {b:Nat} {w v:List Nat} (h:Way ls on par b w):Way ls on par b v→w=v:=by
 induction h generalizing v with
 |top h=>intro h';cases h' with
  |top _=>rfl
  |step h2 _ _=>omega
 |step h1 h2 _ ih=>intro h';cases h' with
  |top h3=>omega
  |step h3 h4 h5=>
   obtain rfl:=yS h2 h4
   rw [ih h5]
theorem Par.up {b c:Nat} (h:0≤par b) (h2:Lk ls on (par b).toNat b c):c<pts.length∧gM (aA ls on) pts c=true∧rk c<rk b:=by
 obtain ⟨d,h3,h4⟩:=P.line b h
 rw [yS h2 h3];exact h4
theorem Par.inj {b d:Nat} (hb:0≤par b) (hd:0≤par d) (h:par b=par d):b=d:=by
 obtain ⟨c,h1,_,_,h2⟩:=P.line b hb
 obtain ⟨e,h3,_,_,h4⟩:=P.line d hd
 rw [←h] at h3
 obtain ⟨_,_,h1⟩:=h1
 obtain ⟨_,_,h3⟩:=h3
 rcases h1 with h1 |h1<;>rcases h3 with h3 |h3<;>rw [h1] at h3<;>simp only [Prod.mk.injEq] at h3<;>obtain ⟨rfl,rfl⟩:=h3<;>first |rfl |omega
theorem Way.mem {b:Nat} {w:List Nat} (h:Way ls on par b w): ∀k∈w,∃d,0≤par d∧(par d).toNat=k∧rk d≤rk b:=by
 induction h with
 |top _=>intro k hk;simp at hk
 | @step b c w h1 h2 _ ih=>
  intro k hk
  rcases List.mem_append.1 hk with hk |hk
  ·obtain ⟨d,h3,h4,h5⟩:=ih k hk
   exact ⟨d,h3,h4,by have:=(P.up h1 h2).2.2;omega⟩
  ·exact ⟨b,h1,(List.mem_singleton.1 hk).symm,Nat.le_refl _⟩
theorem Way.last {b c:Nat} {w:List Nat} (h1:0≤par b) (h2:Lk ls on (par b).toNat b c) (h:Way ls on par c w):(par b).toNat∉w:=by
 intro hm
 obtain ⟨d,h3,h4,h5⟩:=Way.mem P h _ hm
 have h6:=(P.up h1 h2).2.2
 have:b=d:=P.inj h1 h3 (by omega)
 subst this;omega
theorem Way.nodup {b:Nat} {w:List Nat} (h:Way ls on par b w):w.Nodup:=by
 induction h with
 |top _=>simp
 |step h1 h2 h3 ih=>
  rw [List.nodup_append]
  refine ⟨ih,by simp,fun a ha b hb=>?_⟩
  obtain rfl:b=_:=by simpa using hb
  intro e
  exact Way.last P h1 h2 h3 (e▸ha)
theorem Way.stays {b k:Nat} {w:List Nat} (h:Way ls on par b w) (hb:b<pts.length) (hf:gM (aA ls on) pts b=true) (hk:k∉w):gM (aA ls (on.set k false)) pts b=true:=by
 induction h with
 | @top b h=>
  rcases P.fed b hb hf with h1 |h1
  ·exact lV.2 ⟨b,h1,.refl _⟩
  ·omega
 | @step b c w h1 h2 _ ih=>
  have hc:=P.up h1 h2
  have:=ih hc.1 hc.2.1 fun hm=>hk (by simp [hm])
  exact NC this (h2.off fun e=>hk (by simp [e])).cn.symm
theorem Way.under {b k:Nat} {w:List Nat} (h:Way ls on par b w) (hk:k∈w): ∃d c v,0≤par d∧(par d).toNat=k∧Lk ls on k d c∧Way ls on par c v∧k∉v∧c<pts.length∧gM (aA ls on) pts c=true∧Cn (aA ls (on.set k false)) d b:=by
 induction h with
 |top _=>simp at hk
 | @step b c w h1 h2 h3 ih=>
  have hc:=P.up h1 h2
  by_cases he:k=(par b).toNat
  ·subst he
   exact ⟨b,c,w,h1,rfl,h2,h3,Way.last P h1 h2 h3,hc.1,hc.2.1,.refl _⟩
  ·have hm:k∈w:=by simpa [he] using hk
   obtain ⟨d,e,v,g1,g2,g3,g4,g5,g6,g7,g8⟩:=ih hm
   exact ⟨d,e,v,g1,g2,g3,g4,g5,g6,g7,g8.trans (h2.off (Ne.symm he)).cn.symm⟩
include hl in
theorem Way.iff (hr:kE ls on pts=true) {b k:Nat} {w:List Nat} (h:Way ls on par b w) (hb:b<pts.length) (hf:gM (aA ls on) pts b=true):k∈w↔gM (aA ls (on.set k false)) pts b=false:=by
 constructor
 ·intro hk
  obtain ⟨d,c,v,h1,h2,h3,h4,h5,h6,h7,h8⟩:=Way.under P h hk
  cases hx:gM (aA ls (on.set k false)) pts b
  ·rfl
  exfalso
  obtain ⟨f,f1,f2⟩:=lV.1 hx
  obtain ⟨g,g1,g2⟩:=lV.1 (Way.stays P h4 h6 h7 h5)
  obtain ⟨hk1,hk2,hk3⟩:=h3
  have hoff:=IW hk1 hl
  have hon:=IV hk1 hl hk2
  have M: ∀ {x y:Nat},Cn (aA ls (on.set k false)) x y→Cn (aA ls on) x y:=fun hxy=>hxy.mono fun e he=>by
   rw [hoff] at he;rw [hon]
   rcases List.mem_append.1 he with he |he<;>simp [he]
  rw [Gk hl] at hr
  have hdc:Cn (aA ls on) d c:=Lk.cn ⟨hk1,hk2,hk3⟩
  have hfg:f=g:=hr.2 f g f1 g1 ((M f2).trans ((M h8).symm.trans (hdc.trans (M g2).symm)))
  subst hfg
  have hj:Cn (aA ls (on.set k false)) d c:=(h8.trans f2.symm).trans g2
  rw [hoff] at hj
  have hfo:=hr.1
  rw [hon] at hfo
  have:=VN _ _ _ hfo
  rcases hk3 with e |e<;>rw [e] at this
  ·exact this hj
  ·exact this hj.symm
 ·intro hx
  refine Classical.byContradiction fun hk=>?_
  rw [Way.stays P h hb hf hk] at hx
  cases hx
end
def fz (ls:List Ln) (on:List Bool) (pts:List (Int×Int)) (k:Nat):Int:=
 ((List.range pts.length).map fun b=>if gM (aA ls on) pts b&& !gM (aA ls (on.set k false)) pts b then (pts.getD b (0,0)).2 else 0).sum
open Classical in
noncomputable def DA (n:Nat) (f:Nat→Int) (p:Nat→Prop):Int:=((List.range n).map fun b=>if p b then f b else 0).sum
theorem ON {n:Nat} {f g h:Nat→Int} (e: ∀b,b<n→f b=g b+h b):((List.range n).map f).sum=((List.range n).map g).sum+((List.range n).map h).sum:=by
 induction n with
 |zero=>rfl
 |succ n ih=>
  rw [List.range_succ,List.map_append,List.map_append,List.map_append,List.sum_append,List.sum_append,List.sum_append,ih fun b hb=>e b (by omega)]
  have:=e n (by omega)
  simp only [List.map_cons,List.map_nil,List.sum_cons,List.sum_nil]
  omega
theorem pC {n:Nat} {f g:Nat→Int} (e: ∀b,b<n→f b=g b):((List.range n).map f).sum=((List.range n).map g).sum:=by
 congr 1
 exact List.map_congr_left fun b hb=>e b (by simpa using hb)
theorem wU {n:Nat} {f:Nat→Int} (e: ∀b,b<n→f b=0):((List.range n).map f).sum=0:=by
 rw [pC e]
 induction n with
 |zero=>rfl
 |succ n ih=>rw [List.range_succ,List.map_append,List.sum_append,ih fun b hb=>e b (by omega)];rfl
theorem OL {n:Nat} (f:Nat→Int) {a:Nat} (ha:a<n):((List.range n).map fun b=>if b=a then f b else 0).sum=f a:=by
 induction n with
 |zero=>omega
 |succ n ih=>
  rw [List.range_succ,List.map_append,List.sum_append]
  by_cases h:a=n
  ·subst h
   rw [wU fun b hb=>if_neg (by omega)]
   simp
  ·rw [ih (by omega)]
   simp only [List.map_cons,List.map_nil,List.sum_cons,List.sum_nil]
   rw [if_neg (by omega)];omega
theorem LA {n:Nat} {f:Nat→Int} {p q r:Nat→Prop} (e: ∀b,b<n→(p b↔q b∨r b)) (d: ∀b,b<n→ ¬(q b∧r b)):DA n f p=DA n f q+DA n f r:=by
 refine ON fun b hb=>?_
 have h1:=e b hb
 have h2:=d b hb
 by_cases hq:q b
 ·have hr: ¬r b:=fun h=>h2 ⟨hq,h⟩
  rw [if_pos (h1.2 (.inl hq)),if_pos hq,if_neg hr];omega
 ·by_cases hr:r b
  ·rw [if_pos (h1.2 (.inr hr)),if_neg hq,if_pos hr];omega
  ·rw [if_neg (fun h=>(h1.1 h).elim hq hr),if_neg hq,if_neg hr];rfl
theorem GB {n:Nat} {f:Nat→Int} {p q:Nat→Prop} (e: ∀b,b<n→(p b↔q b)):DA n f p=DA n f q:=by
 refine pC fun b hb=>?_
 by_cases h:p b
 ·rw [if_pos h,if_pos ((e b hb).1 h)]
 ·rw [if_neg h,if_neg fun h2=>h ((e b hb).2 h2)]
theorem Td {n:Nat} {f:Nat→Int} {a:Nat} (ha:a<n):DA n f (fun b=>b=a)=f a:=by
 rw [←OL f ha]
 exact pC fun b hb=>by by_cases h:b=a<;>simp [h]
theorem PY {n:Nat} {f:Nat→Int} {p:Nat→Prop} (e: ∀b,b<n→ ¬p b):DA n f p=0:=
 wU fun b hb=>if_neg (e b hb)
def cX (E:Ed) (pts:List (Int×Int)) (f:Int×Int→Int) (b:Nat):Int:=((List.range pts.length).map fun c=>if aU E c=aU E b then f (pts.getD c (0,0)) else 0).sum
def Up (ls:List Ln) (on:List Bool) (par:Nat→Int) (b c:Nat):Prop:=0≤par b∧Lk ls on (par b).toNat b c
inductive An (ls:List Ln) (on:List Bool) (par:Nat→Int) (d:Nat):Nat→Prop
 |self:An ls on par d d
 |step {b c:Nat}:Up ls on par b c→An ls on par d c→An ls on par d b
section
variable {ls:List Ln} {on:List Bool} {pts:List (Int×Int)} {par:Nat→Int} {rk:Nat→Nat} (P:Par ls on pts par rk) (hl:on.length=ls.length)
theorem Up.inj {b c d:Nat} (h:Up ls on par b c) (h':Up ls on par b d):c=d:=yS h.2 h'.2
theorem An.trans {a b c:Nat} (h:An ls on par a b) (h':An ls on par b c):An ls on par a c:=by
 induction h' with
 |self=>exact h
 |step u _ ih=>exact .step u ih
theorem An.top {o b:Nat}:An ls on par o b↔b=o∨ ∃d,Up ls on par d o∧An ls on par d b:=by
 constructor
 ·intro h
  induction h with
  |self=>exact .inl rfl
  | @step b c u h ih=>
   rcases ih with rfl |⟨d,h1,h2⟩
   ·exact .inr ⟨b,u,.self⟩
   ·exact .inr ⟨d,h1,.step u h2⟩
 ·rintro (rfl |⟨d,h1,h2⟩)
  ·exact .self
  ·exact An.trans (.step h1 .self) h2
theorem An.chain {d e b:Nat} (h:An ls on par d b) (h':An ls on par e b):An ls on par d e∨An ls on par e d:=by
 induction h with
 |self=>exact .inr h'
 | @step b c u h ih=>
  cases h' with
  |self=>exact .inl (.step u h)
  |step u' h2=>
   obtain rfl:=u.inj u'
   exact ih h2
include P
theorem An.rkle {d b:Nat} (h:An ls on par d b):rk d≤rk b:=by
 induction h with
 |self=>exact Nat.le_refl _
 |step u _ ih=>have:=(P.up u.1 u.2).2.2;omega
omit P in
theorem An.proper {d b c:Nat} (h:An ls on par d b) (u:Up ls on par b c) (hne:d≠b):An ls on par d c:=by
 cases h with
 |self=>exact absurd rfl hne
 |step u' h'=>rw [u.inj u'];exact h'
theorem An.way {d b:Nat} {w:List Nat} (hd:0≤par d) (h:Way ls on par b w):An ls on par d b↔(par d).toNat∈w:=by
 induction h with
 | @top b h=>
  constructor
  ·intro h1
   cases h1 with
   |self=>omega
   |step u _=>have:=u.1;omega
  ·intro h1;simp at h1
 | @step b c w h1 h2 h3 ih=>
  constructor
  ·intro h
   by_cases e:d=b
   ·subst e;simp
   ·have:=ih.1 (An.proper h ⟨h1,h2⟩ e)
    simp [this]
  ·intro h
   rcases List.mem_append.1 h with h |h
   ·exact .step ⟨h1,h2⟩ (ih.2 h)
   ·have e:(par d).toNat=(par b).toNat:=by simpa using h
    rw [P.inj hd h1 (by omega)];exact .self
theorem Up.fed {b c:Nat} (u:Up ls on par b c):gM (aA ls on) pts b=true:=NC (P.up u.1 u.2).2.1 u.2.cn.symm
theorem An.fed {d b:Nat} (h:An ls on par d b) (hd:gM (aA ls on) pts d=true):gM (aA ls on) pts b=true:=by
 induction h with
 |self=>exact hd
 |step u _ _=>exact Up.fed P u
include hl in
theorem Par.flow (hr:kE ls on pts=true) {d:Nat} (hd:0≤par d):fz ls on pts (par d).toNat=DA pts.length (fun b=>(pts.getD b (0,0)).2) (An ls on par d):=by
 refine pC fun b hb=>?_
 obtain ⟨c,hc,_⟩:=P.line d hd
 have hdf:gM (aA ls on) pts d=true:=Up.fed P ⟨hd,hc⟩
 obtain ⟨w,hw⟩:=P.way (rk b) b (Nat.le_refl _)
 cases hf:gM (aA ls on) pts b
 ·have hna: ¬An ls on par d b:=fun h=>by rw [An.fed P h hdf] at hf;cases hf
  simp [hna]
 ·have h1:=Way.iff P hl hr hw hb hf (k:=(par d).toNat)
  have h2:=An.way P hd hw
  cases hx:gM (aA ls (on.set (par d).toNat false)) pts b
  ·have ha:=h2.2 (h1.2 hx)
   simp [ha]
  ·have hna: ¬An ls on par d b:=fun h=>by have:=h1.1 (h2.1 h);rw [hx] at this;cases this
   simp [hna]
include hl in
theorem Par.flow0 (hr:kE ls on pts=true) {k:Nat} (hk: ∀d,0≤par d→(par d).toNat≠k):fz ls on pts k=0:=by
 refine wU fun b hb=>?_
 obtain ⟨w,hw⟩:=P.way (rk b) b (Nat.le_refl _)
 cases hf:gM (aA ls on) pts b
 ·rfl
 ·cases hx:gM (aA ls (on.set k false)) pts b
  ·have h1:=(Way.iff P hl hr hw hb hf (k:=k)).2 hx
   obtain ⟨d,h2,h3,_⟩:=Way.mem P hw k h1
   exact absurd h3 (hk d h2)
  ·rfl
omit P
def Wt (ls:List Ln) (on:List Bool) (par:Nat→Int) (rk:Nat→Nat) (F:Nat→Prop) (i c b:Nat):Prop:=(b=c∧F c∧i≤rk c)∨ ∃d,Up ls on par d c∧i≤rk d∧An ls on par d b
noncomputable def ov (ls:List Ln) (on:List Bool) (pts:List (Int×Int)) (par:Nat→Int) (rk:Nat→Nat) (i c:Nat):Int:=DA pts.length (fun b=>(pts.getD b (0,0)).2) (Wt ls on par rk (fun c=>gM (aA ls on) pts c=true) i c)
noncomputable def mT (ls:List Ln) (on:List Bool) (pts:List (Int×Int)) (par:Nat→Int) (o:Nat):Int:=DA pts.length (fun b=>(pts.getD b (0,0)).2) (An ls on par o)
include P
theorem Par.want_self {i o:Nat} (ho:rk o=i) (hb:o<pts.length) (hf:gM (aA ls on) pts o=true):ov ls on pts par rk (i+1) o+(pts.getD o (0,0)).2=mT ls on pts par o:=by
 unfold ov mT
 rw [←Td (f:=fun b=>(pts.getD b (0,0)).2) hb]
 refine (LA (fun b hb=>?_) (fun b hb=>?_)).symm
 ·rw [An.top]
  constructor
  ·rintro (h |⟨d,h1,h2⟩)
   ·exact .inr h
   ·exact .inl (.inr ⟨d,h1,by have:=(P.up h1.1 h1.2).2.2;omega,h2⟩)
  ·rintro ((⟨_,_,h⟩ |⟨d,h1,_,h2⟩) |h)
   ·omega
   ·exact .inr ⟨d,h1,h2⟩
   ·exact .inl h
 ·rintro ⟨⟨_,_,h⟩ |⟨d,h1,_,h2⟩,rfl⟩
  ·omega
  ·have:=An.rkle P h2
   have:=(P.up h1.1 h1.2).2.2
   omega
theorem Par.want_now {i o:Nat} (ho:rk o=i) (hf:gM (aA ls on) pts o=true):ov ls on pts par rk i o=mT ls on pts par o:=by
 refine GB fun b hb=>?_
 rw [An.top]
 constructor
 ·rintro (⟨h,_⟩ |⟨d,h1,_,h2⟩)
  ·exact .inl h
  ·exact .inr ⟨d,h1,h2⟩
 ·rintro (h |⟨d,h1,h2⟩)
  ·exact .inl ⟨h,hf,by omega⟩
  ·exact .inr ⟨d,h1,by have:=(P.up h1.1 h1.2).2.2;omega,h2⟩
theorem Par.want_up {i o c:Nat} (hinj: ∀a b,gM (aA ls on) pts a=true→gM (aA ls on) pts b=true→rk a=rk b→a=b) (ho:rk o=i) (u:Up ls on par o c):ov ls on pts par rk i c=ov ls on pts par rk (i+1) c+mT ls on pts par o:=by
 have hrk:=(P.up u.1 u.2).2.2
 refine LA (fun b hb=>?_) (fun b hb=>?_)
 ·constructor
  ·rintro (⟨_,_,h⟩ |⟨d,h1,h2,h3⟩)
   ·omega
   ·by_cases e:rk d=i
    ·rw [hinj o d (Up.fed P u) (Up.fed P h1) (by omega)];exact .inr h3
    ·exact .inl (.inr ⟨d,h1,by omega,h3⟩)
  ·rintro ((⟨_,_,h⟩ |⟨d,h1,h2,h3⟩) |h)
   ·omega
   ·exact .inr ⟨d,h1,by omega,h3⟩
   ·exact .inr ⟨o,u,by omega,h⟩
 ·rintro ⟨⟨_,_,h⟩ |⟨d,h1,h2,h3⟩,h4⟩
  ·omega
  ·have hne:d≠o:=fun e=>by subst e;omega
   rcases An.chain h3 h4 with h |h
   ·have:=An.rkle P (An.proper h u hne)
    have:=(P.up h1.1 h1.2).2.2
    omega
   ·have:=An.rkle P (An.proper h h1 (Ne.symm hne))
    omega
theorem Par.want_else {i o c:Nat} (hinj: ∀a b,gM (aA ls on) pts a=true→gM (aA ls on) pts b=true→rk a=rk b→a=b) (ho:rk o=i) (hf:gM (aA ls on) pts o=true) (h1:c≠o) (h2: ¬Up ls on par o c):ov ls on pts par rk i c=ov ls on pts par rk (i+1) c:=by
 refine GB fun b hb=>?_
 constructor
 ·rintro (⟨h3,h4,h5⟩ |⟨d,h3,h4,h5⟩)
  ·refine .inl ⟨h3,h4,?_⟩
   by_cases e:rk c=i
   ·exact absurd (hinj c o h4 hf (by omega)) h1
   ·omega
  ·refine .inr ⟨d,h3,?_,h5⟩
   by_cases e:rk d=i
   ·rw [hinj d o (Up.fed P h3) hf (by omega)] at h3;exact absurd h3 h2
   ·omega
 ·rintro (⟨h3,h4,h5⟩ |⟨d,h3,h4,h5⟩)
  ·exact .inl ⟨h3,h4,by omega⟩
  ·exact .inr ⟨d,h3,by omega,h5⟩
end
def xP (b:Int) (l:Ln):Bool:=GW l.1 0 (b-1)&&GW l.2.1 0 (b-1)&& !(l.1==l.2.1)&&GW l.2.2 1 999
def Dq (b:Int) (ls:List Ln):Bool:=GW b 1 8&&decide (ls.length≤10)&& !(List.range ls.length).any fun k=> !xP b (ls.getD k (0,0,0))
def GL (p:Int×Int):Bool:=GW p.1 0 999&&GW p.2 0 999
def pE (b:Int) (ls:List Ln) (pts:List (Int×Int)):Bool:=Dq b ls&&decide ((pts.length:Int)=b)&& !(List.range pts.length).any fun k=> !GL (pts.getD k (0,0))
def Vw (b:Int) (ls:List Ln) (on:List Bool):Bool:=Dq b ls&&decide (on.length=ls.length)
def KQ (b:Int) (ls:List Ln) (on:List Bool) (pts:List (Int×Int)):Bool:=Vw b ls on&&pE b ls pts
def uh (b:Int) (ls:List Ln) (on:List Bool) (pts:List (Int×Int)):Bool:=KQ b ls on pts&&kE ls on pts
structure LnOk (b:Int) (l:Ln):Prop where
 a:0≤l.1∧l.1<b
 b:0≤l.2.1∧l.2.1<b
 ne:l.1≠l.2.1
 m:1≤l.2.2∧l.2.2≤999
structure NetOk (b:Int) (ls:List Ln):Prop where
 b0:1≤b
 b1:b≤8
 ll:ls.length≤10
 ln: ∀k,k<ls.length→LnOk b (ls.getD k (0,0,0))
theorem HO {b:Int} {l:Ln}:xP b l=true↔LnOk b l:=by
 simp only [xP,Bool.and_eq_true,sh,Bool.not_eq_true',beq_eq_false_iff_ne]
 constructor
 ·rintro ⟨⟨⟨h1,h2⟩,h3⟩,h4⟩;exact ⟨by omega,by omega,h3,h4⟩
 ·intro h;have:=h.a;have:=h.b;exact ⟨⟨⟨by omega,by omega⟩,h.ne⟩,h.m⟩
theorem wG {b:Int} {ls:List Ln}:Dq b ls=true↔NetOk b ls:=by
 unfold Dq
 rw [Bool.and_eq_true,JN,Bool.and_eq_true,sh,decide_eq_true_eq]
 constructor
 ·rintro ⟨⟨h1,h2⟩,h3⟩;exact ⟨h1.1,h1.2,h2,fun k hk=>HO.1 (by have:=h3 k hk;simpa using this)⟩
 ·intro h;exact ⟨⟨⟨h.b0,h.b1⟩,h.ll⟩,fun k hk=>by rw [HO.2 (h.ln k hk)];rfl⟩
structure BusOk (b:Int) (ls:List Ln) (pts:List (Int×Int)):Prop where
 net:NetOk b ls
 lp:(pts.length:Int)=b
 bs: ∀k,k<pts.length→(0≤(pts.getD k (0,0)).1∧(pts.getD k (0,0)).1≤999)∧(0≤(pts.getD k (0,0)).2∧(pts.getD k (0,0)).2≤999)
theorem uu {b:Int} {ls:List Ln} {pts:List (Int×Int)}:pE b ls pts=true↔BusOk b ls pts:=by
 unfold pE
 rw [Bool.and_eq_true,JN,Bool.and_eq_true,wG,decide_eq_true_eq]
 constructor
 ·rintro ⟨⟨h1,h2⟩,h3⟩;exact ⟨h1,h2,fun k hk=>by have:=h3 k hk;simpa [GL,sh] using this⟩
 ·intro h;exact ⟨⟨h.net,h.lp⟩,fun k hk=>by
   have h2:GL (pts.getD k (0,0))=true:=by unfold GL;rw [Bool.and_eq_true,sh,sh];exact h.bs k hk
   rw [h2];rfl⟩
theorem Sd {b:Int} {ls:List Ln} {pts:List (Int×Int)} (h:BusOk b ls pts) (on:List Bool): ∀e∈aA ls on,e.1<pts.length∧e.2<pts.length:=by
 intro e he
 obtain ⟨k,hk,_,rfl⟩:=zm.1 he
 have h1:=h.net.ln k hk
 have:=h.lp;have:=h1.a;have:=h1.b
 exact ⟨by unfold cc;dsimp only;omega,by unfold cc;dsimp only;omega⟩
theorem uJ: ∀ {l m:List Int},l.Pairwise (· < ·)→m.Pairwise (· < ·)→(∀x,x∈l↔x∈m)→l=m
 | [],[],_,_,_=>rfl
 | [],y::m,_,_,h=>by have:=(h y).2 (by simp);simp at this
 |x::l,[],_,_,h=>by have:=(h x).1 (by simp);simp at this
 |x::l,y::m,hl,hm,h=>by
  rw [List.pairwise_cons] at hl hm
  have hxy:x=y:=by
   rcases List.mem_cons.1 ((h x).1 (by simp)) with h1 |h1
   ·exact h1
   ·rcases List.mem_cons.1 ((h y).2 (by simp)) with h2 |h2
    ·exact h2.symm
    ·have:=hm.1 x h1;have:=hl.1 y h2;omega
  subst hxy
  rw [uJ hl.2 hm.2 fun z=>?_]
  constructor
  ·intro hz
   rcases List.mem_cons.1 ((h z).1 (by simp [hz])) with h1 |h1
   ·subst h1;have:=hl.1 z hz;omega
   ·exact h1
  ·intro hz
   rcases List.mem_cons.1 ((h z).2 (by simp [hz])) with h1 |h1
   ·subst h1;have:=hm.1 z hz;omega
   ·exact h1
def FN (a:Int) (l:List Int):List Int:=l.filter (fun x=>decide (x<a))++a::l.filter (fun x=>decide (a<x))
theorem FO {a:Int} {l:List Int} {x:Int}:x∈FN a l↔x=a∨x∈l:=by
 simp only [FN,List.mem_append,List.mem_cons,List.mem_filter,decide_eq_true_eq]
 constructor
 ·rintro (⟨h,_⟩ |h |⟨h,_⟩)
  ·exact .inr h
  ·exact .inl h
  ·exact .inr h
 ·rintro (h |h)
  ·exact .inr (.inl h)
  ·rcases Int.lt_trichotomy x a with h1 |h1 |h1
   ·exact .inl ⟨h,h1⟩
   ·exact .inr (.inl h1)
   ·exact .inr (.inr ⟨h,h1⟩)
theorem vY {a:Int} {l:List Int} (h:l.Pairwise (· < ·)):(FN a l).Pairwise (· < ·):=by
 unfold FN
 rw [List.pairwise_append,List.pairwise_cons]
 refine ⟨h.sublist List.filter_sublist,⟨fun x hx=>?_,h.sublist List.filter_sublist⟩,fun x hx y hy=>?_⟩
 ·have:=(List.mem_filter.1 hx).2;simpa using this
 ·have h1:x<a:=by have:=(List.mem_filter.1 hx).2;simpa using this
  rcases List.mem_cons.1 hy with rfl |hy
  ·exact h1
  ·have:a<y:=by have:=(List.mem_filter.1 hy).2;simpa using this
   omega
theorem Hh {l:List Int} (h: ∀k,k+1<l.length→l.getD k 0<l.getD (k+1) 0):l.Pairwise (· < ·):=by
 rw [List.pairwise_iff_getElem]
 have key: ∀d i,i+d+1<l.length→l.getD i 0<l.getD (i+d+1) 0:=by
  intro d
  induction d with
  |zero=>intro i hi;exact h i hi
  |succ d ih=>
   intro i hi
   have h1:=ih i (by omega)
   have h2:=h (i+d+1) (by omega)
   have e:i+(d+1)+1=i+d+1+1:=by omega
   rw [e];omega
 intro i j hi hj hij
 have:=key (j-i-1) i (by omega)
 rw [show i+(j-i-1)+1=j by omega,ai hi,ai hj] at this
 exact this
theorem sO {l:List Int} (h:l.Pairwise (· < ·)) {k:Nat} (hk:k+1<l.length):l.getD k 0<l.getD (k+1) 0:=by
 rw [List.pairwise_iff_getElem] at h
 rw [ai (by omega),ai hk]
 exact h k (k+1) (by omega) hk (by omega)
@[ext] structure Wd where
 b:Int
 ls:List Ln
 pts:List (Int×Int)
 on:List Bool
 earth:List Bool
 pm:Pm
 br:List Int
def Wd.wk (w:Wd):Wk:=(w.on,w.earth,w.pm)
def Wd.put (w:Wd) (k:Wk):Wd:=⟨w.b,w.ls,w.pts,k.1,k.2.1,k.2.2,w.br⟩
def Wd.zero:Wd:=⟨0,[],[],[],[],[],[]⟩
theorem XS (w:Wd) (k:Wk):(w.put k).wk=k:=rfl
theorem Lc (w:Wd):w.put w.wk=w:=rfl
def yC (on:List Bool) (br:List Int) (k:Nat):Bool:=(decide (0≤br.getD k 0)&&decide (br.getD k 0<(on.length:Int)))&& !on.getD (br.getD k 0).toNat false&&(decide (k=0) ||decide (br.getD (k-1) 0<br.getD k 0))
def YG (on:List Bool) (br:List Int):Bool:= !(List.range br.length).any fun k=> !yC on br k
def wv (w:Wd):Bool:=pE w.b w.ls w.pts&&mR w.on w.earth w.pm&&decide (w.on.length=w.ls.length)&&YG w.on w.br&&kE w.ls w.on w.pts
structure WdOk (w:Wd):Prop where
 bus:BusOk w.b w.ls w.pts
 work:WOk w.wk
 len:w.on.length=w.ls.length
 inn: ∀x∈w.br,(0≤x∧x<(w.on.length:Int))∧w.on.getD x.toNat false=false
 sor:w.br.Pairwise (· < ·)
 rad:kE w.ls w.on w.pts=true
theorem Ua {on:List Bool} {br:List Int}:YG on br=true↔(∀x∈br,(0≤x∧x<(on.length:Int))∧on.getD x.toNat false=false)∧br.Pairwise (· < ·):=by
 unfold YG
 rw [JN]
 constructor
 ·intro h
  have h1: ∀k,k<br.length→(0≤br.getD k 0∧br.getD k 0<(on.length:Int))∧on.getD (br.getD k 0).toNat false=false∧(k=0∨br.getD (k-1) 0<br.getD k 0):=by
   intro k hk
   have:=h k hk
   simpa only [yC,Bool.not_eq_false',Bool.and_eq_true,Bool.or_eq_true,decide_eq_true_eq,Bool.not_eq_true',and_assoc] using this
  refine ⟨fun x hx=>?_,Hh fun k hk=>?_⟩
  ·obtain ⟨k,hk,rfl⟩:=List.mem_iff_getElem.1 hx
   have:=h1 k hk
   rw [ai hk] at this
   exact ⟨this.1,this.2.1⟩
  ·rcases (h1 (k+1) hk).2.2 with h2 |h2
   ·omega
   ·simpa using h2
 ·rintro ⟨h1,h2⟩ k hk
  have h3:=h1 (br.getD k 0) (by rw [ai hk];exact List.getElem_mem hk)
  have h4:k=0∨br.getD (k-1) 0<br.getD k 0:=by
   rcases Nat.eq_zero_or_pos k with h |h
   ·exact .inl h
   ·obtain ⟨j,rfl⟩: ∃j,k=j+1:=⟨k-1,by omega⟩
    exact .inr (sO h2 hk)
  have:yC on br k=true:=by simpa only [yC,Bool.and_eq_true,Bool.or_eq_true,decide_eq_true_eq,Bool.not_eq_true',and_assoc] using ⟨h3.1.1,h3.1.2,h3.2,h4⟩
  rw [this];rfl
theorem bW {w:Wd}:wv w=true↔WdOk w:=by
 unfold wv
 rw [Bool.and_eq_true,Bool.and_eq_true,Bool.and_eq_true,Bool.and_eq_true,uu,decide_eq_true_eq,Ua]
 constructor
 ·rintro ⟨⟨⟨⟨h1,h2⟩,h3⟩,h4,h5⟩,h6⟩;exact ⟨h1,EV.1 h2,h3,h4,h5,h6⟩
 ·intro h;exact ⟨⟨⟨⟨h.bus,EV.2 h.work⟩,h.len⟩,h.inn,h.sor⟩,h.rad⟩
def bN (w:Wd) (kd a who:Int):Wd×Bool:=
 if wv w=true then
  if 0≤a∧a<(w.on.length:Int) then
   if kd=6∧a∉w.br then ({w with on:=w.on.set a.toNat false,br:=FN a w.br},true)
   else if kd=7∧a∈w.br∧(who,a)∈w.pm then ({w with br:=w.br.filter fun x=>x !=a},true)
   else if kd=0∧a∈w.br then (w,false)
   else if (dB w.wk kd a who).2=true∧kE w.ls (dB w.wk kd a who).1.1 w.pts=true then (w.put (dB w.wk kd a who).1,true)
   else (w,false)
  else (w,false)
 else (.zero,false)
theorem XR {w:Wk} {kd a who:Int} (h:kd≠0): ∀k,(cJ w kd a who).1.getD k false=true→w.1.getD k false=true:=by
 intro k hk
 unfold cJ at hk
 rw [if_neg h] at hk
 split at hk
 ·by_cases e:a.toNat=k
  ·subst e
   rcases Nat.lt_or_ge a.toNat w.1.length with h1 |h1
   ·rw [sT h1] at hk;cases hk
   ·rw [WY (by simpa using h1)] at hk;cases hk
  ·rwa [eW e] at hk
 ·split at hk
  ·exact hk
  ·split at hk
   ·exact hk
   ·split at hk<;>exact hk
theorem MH (w:Wk) (kd a who:Int):(cJ w kd a who).1.length=w.1.length:=(Ve w kd a who).1
theorem EU {w:Wk} (hw:WOk w) {kd a who:Int}:(dB w kd a who).1.1.length=w.1.length∧(kd≠0→ ∀k,(dB w kd a who).1.1.getD k false=true→w.1.getD k false=true):=by
 rcases qH hw kd a who with ⟨h,_⟩ |⟨h,_⟩
 ·rw [h];exact ⟨MH _ _ _ _,fun h0=>XR h0⟩
 ·rw [h];exact ⟨rfl,fun _ k hk=>hk⟩
theorem LM {w:Wd} (h:WdOk w) {kd a who:Int} (h0:kd≠0):kE w.ls (dB w.wk kd a who).1.1 w.pts=true:=by
 have h1:=EU h.work (kd:=kd) (a:=a) (who:=who)
 exact Gl (h1.1.trans h.len) h.len (h1.2 h0) h.rad
theorem Qh {w:Wd} (h:WdOk w) {k:Wk} (hk:WOk k) (hl:k.1.length=w.on.length) (hbr: ∀x∈w.br,k.1.getD x.toNat false=false) (hr:kE w.ls k.1 w.pts=true):WdOk (w.put k):=
 ⟨h.bus,hk,hl.trans h.len,fun x hx=>⟨by have:=(h.inn x hx).1;show 0≤x∧x<(k.1.length:Int);rw [hl];exact this,hbr x hx⟩,h.sor,hr⟩
theorem Ts {w:Wk} (h:WOk w) (kd a who:Int):WOk (dB w kd a who).1:=by
 rcases qH h kd a who with ⟨h1,_,_,h2⟩ |⟨h1,_⟩
 ·rw [h1];exact h2
 ·rw [h1];exact h
theorem ET {w:Wd} (h:WdOk w) (kd a who:Int):WdOk (bN w kd a who).1:=by
 unfold bN
 rw [if_pos (bW.2 h)]
 split
 ·rename_i ha
  split
  ·rename_i h6
   have hal:a.toNat<w.on.length:=by omega
   have hsub: ∀k,(w.on.set a.toNat false).getD k false=true→w.on.getD k false=true:=by
    intro k hk
    by_cases e:a.toNat=k
    ·subst e;rw [sT hal] at hk;cases hk
    ·rwa [eW e] at hk
   have hw:=h.work
   refine ⟨h.bus,⟨by simpa [Wd.wk] using hw.l0,by simpa [Wd.wk] using hw.l1,by simpa [Wd.wk] using hw.le,hw.lp,fun k hk=>hw.ne k (hsub k hk),fun p hp=>?_,hw.nd⟩,by simpa using h.len,fun x hx=>?_,vY h.sor,Gl (by simpa using h.len) h.len hsub h.rad⟩
   ·have:=hw.pm p hp
    simpa [Wd.wk] using this
   ·dsimp only at hx ⊢
    rcases FO.1 hx with rfl |hx
    ·exact ⟨by simpa using ha,sT hal⟩
    ·have:=h.inn x hx
     refine ⟨by simpa using this.1,?_⟩
     cases hc:(w.on.set a.toNat false).getD x.toNat false
     ·rfl
     ·rw [hsub _ hc] at this;exact this.2
  ·split
   ·exact ⟨h.bus,h.work,h.len,fun x hx=>h.inn x (List.mem_filter.1 hx).1,h.sor.sublist List.filter_sublist,h.rad⟩
   ·split
    ·exact h
    ·rename_i h6 h7 h0
     split
     ·rename_i hr
      have h1:=EU h.work (kd:=kd) (a:=a) (who:=who)
      refine Qh h (Ts h.work kd a who) h1.1 (fun x hx=>?_) hr.2
      have hi:=h.inn x hx
      by_cases hk:kd=0
      ·subst hk
       have hne:a≠x:=fun e=>h0 ⟨rfl,e▸hx⟩
       rcases qH h.work 0 a who with ⟨g,_⟩ |⟨g,_⟩
       ·rw [g]
        show (w.on.set a.toNat true).getD x.toNat false=false
        rw [eW (by omega)];exact hi.2
       ·rw [g];exact hi.2
      ·cases hc:(dB w.wk kd a who).1.1.getD x.toNat false
       ·rfl
       ·have h2:=h1.2 hk _ hc
        rw [show w.wk.1=w.on from rfl] at h2
        rw [h2] at hi;exact hi.2
     ·exact h
 ·exact h
theorem Tq (w:Wd) (h:wv w=true) (kd a who:Int):(bN w kd a who).1.b=w.b∧(bN w kd a who).1.ls=w.ls∧(bN w kd a who).1.pts=w.pts:=by
 unfold bN
 rw [if_pos h]
 repeat' split
 all_goals exact ⟨rfl,rfl,rfl⟩
theorem If {w:Wd} (h:WdOk w) {kd a who:Int} (hf:(bN w kd a who).2=false):(bN w kd a who).1=w:=by
 unfold bN at hf ⊢
 rw [if_pos (bW.2 h)] at hf ⊢
 split<;>rename_i ha
 ·rw [if_pos ha] at hf
  split<;>rename_i h6
  ·rw [if_pos h6] at hf;cases hf
  ·rw [if_neg h6] at hf
   split<;>rename_i h7
   ·rw [if_pos h7] at hf;cases hf
   ·rw [if_neg h7] at hf
    split<;>rename_i h0
    ·rfl
    ·rw [if_neg h0] at hf
     split<;>rename_i hr
     ·rw [if_pos hr] at hf;cases hf
     ·rfl
 ·rfl
abbrev Dd:=Int×Int×Int
def bq (s:Int×Wd) (d:Dd):Int×Wd:=if (bN s.2 d.1 d.2.1 d.2.2).2=true then (s.1+1,(bN s.2 d.1 d.2.1 d.2.2).1) else s
theorem xl {s:Int×Wd} (h:WdOk s.2) (d:Dd):WdOk (bq s d).2:=by
 unfold bq
 split
 ·exact ET h _ _ _
 ·exact h
theorem iO (l:List Dd): ∀ {s:Int×Wd},WdOk s.2→WdOk (l.foldl bq s).2:=by
 induction l with
 |nil=>intro s h;exact h
 |cons d l ih=>intro s h;exact ih (xl h d)
def wX (w:Wd) (l:List Dd):Int×Wd:=if wv w=true then l.foldl bq (0,w) else (0,.zero)
theorem LK {w:Wd} (h:WdOk w) (l:List Dd):WdOk (wX w l).2:=by
 unfold wX;rw [if_pos (bW.2 h)];exact iO l h
theorem zL (l:List Dd) (hl: ∀d∈l,d.1≠0∧d.1≠6∧d.1≠7): ∀(c:Int) (w:Wd),WdOk w→l.foldl bq (c,w)=((l.foldl ry (c,w.wk)).1,w.put (l.foldl ry (c,w.wk)).2):=by
 induction l with
 |nil=>intro c w h;rfl
 |cons d l ih=>
  intro c w h
  have hd:=hl d (by simp)
  have e0:bN w d.1 d.2.1 d.2.2=(w.put (dB w.wk d.1 d.2.1 d.2.2).1,(dB w.wk d.1 d.2.1 d.2.2).2):=by
   unfold bN
   rcases qH h.work d.1 d.2.1 d.2.2 with ⟨g,g2,_⟩ |⟨g,g2⟩
   ·have hr:=LM h hd.1 (a:=d.2.1) (who:=d.2.2)
    have g3:0≤d.2.1∧d.2.1<(w.on.length:Int):=g2
    rw [if_pos (bW.2 h),if_pos g3,if_neg (fun g=>hd.2.1 g.1),if_neg (fun g=>hd.2.2 g.1),if_neg (fun g=>hd.1 g.1),if_pos ⟨by rw [g],hr⟩,g]
   ·have hn: ¬((dB w.wk d.1 d.2.1 d.2.2).2=true∧kE w.ls (dB w.wk d.1 d.2.1 d.2.2).1.1 w.pts=true):=by rw [g];simp
    rw [if_pos (bW.2 h)]
    split
    ·rw [g];simp [hd.1,hd.2.1,hd.2.2,Lc]
    ·rw [g,Lc]
  have e:bq (c,w) d=((ry (c,w.wk) d).1,w.put (ry (c,w.wk) d).2):=by
   unfold bq ry
   dsimp only
   rw [e0]
   dsimp only
   split
   ·rfl
   ·rfl
  have hok:=xl (s:=(c,w)) h d
  rw [List.foldl_cons,List.foldl_cons,e]
  rw [e] at hok
  rw [ih (fun x hx=>hl x (by simp [hx])) _ _ hok,XS]
  rfl
theorem ua {σ Out:Type} (L:Nat→σ→Option Out) (R:Nat→σ→Prop) (n:Nat) (xy:σ→Option Out) (hn:n≤1099511627776)
 (hstep: ∀k fuel s,k<n→R k s→ ∃s',R (k+1) s'∧L (fuel+1) s=L fuel s') (hend: ∀fuel s,R n s→L (fuel+1) s=xy s) (s:σ) (h0:R 0 s): ∃s',R n s'∧L aq s=xy s':=by
 have go: ∀j k fuel s,k+j=n→j<fuel→R k s→ ∃s',R n s'∧L fuel s=xy s':=by
  intro j
  induction j with
  |zero=>
   intro k fuel s hk hf hr
   obtain ⟨f,rfl⟩: ∃f,fuel=f+1:=⟨fuel-1,by omega⟩
   obtain rfl:k=n:=by omega
   exact ⟨s,hr,hend f s hr⟩
  |succ j ih=>
   intro k fuel s hk hf hr
   obtain ⟨f,rfl⟩: ∃f,fuel=f+1:=⟨fuel-1,by omega⟩
   obtain ⟨s',h1,h2⟩:=hstep k f s (by omega) hr
   rw [h2]
   exact ih (k+1) f s' (by omega) (by omega) h1
 exact go n 0 aq s (by omega) (oN hn) h0
theorem Pk {σ Out:Type} (L:Nat→σ→Option Out) (R:Nat→σ→Prop) (n:Nat) (P:Nat→Bool) (fv out:Option Out) (hn:n≤1099511627776)
 (hstep: ∀k fuel s,k<n→R k s→(P k=true∧L (fuel+1) s=fv)∨(P k=false∧ ∃s',R (k+1) s'∧L (fuel+1) s=L fuel s')) (hend: ∀fuel s,R n s→L (fuel+1) s=out) (s:σ) (h0:R 0 s):
 L aq s=bif (List.range n).any P then fv else out:=by
 have go: ∀j k fuel s,k+j=n→j<fuel→R k s→L fuel s=bif (List.range' k j).any P then fv else out:=by
  intro j
  induction j with
  |zero=>
   intro k fuel s hk hf hr
   obtain ⟨f,rfl⟩: ∃f,fuel=f+1:=⟨fuel-1,by omega⟩
   obtain rfl:k=n:=by omega
   simpa using hend f s hr
  |succ j ih=>
   intro k fuel s hk hf hr
   obtain ⟨f,rfl⟩: ∃f,fuel=f+1:=⟨fuel-1,by omega⟩
   rw [List.range'_succ,List.any_cons]
   rcases hstep k f s (by omega) hr with ⟨h1,h2⟩ |⟨h1,s',h2,h3⟩
   ·rw [h1,h2];rfl
   ·rw [h1,h3,ih (k+1) f s' (by omega) (by omega) h2];rfl
 rw [go n 0 aq s (by omega) (oN hn) h0,List.range_eq_range']
theorem ltN (b:Int):(aw b 1 ||aw 8 b)= !GW b 1 8:=by rw [Bool.eq_iff_iff];simp [aw,GW]<;>omega
theorem abb (n:Nat):aw 10 (n:Int)= !decide (n≤10):=by rw [Bool.eq_iff_iff];simp [aw];omega
theorem NW (a b:Nat):((a:Int)==(b:Int))=decide (a=b):=by rw [Bool.eq_iff_iff];simp<;>omega
theorem UI (b:Int) (l:Ln):xP b l=((aY 0 l.1&&aw l.1 b)&&(aY 0 l.2.1&&aw l.2.1 b)&& !(l.1==l.2.1)&&(!aw l.2.2 1&& !aw 999 l.2.2)):=by
 rw [Bool.eq_iff_iff];simp [xP,GW,aY,aw]<;>omega
theorem Xf (b:Int) (ls:List Ln):aM b ls=some (Dq b ls):=by
 unfold aM Dq
 rw [ltN,abb]
 cases h1:GW b 1 8
 ·rfl
 by_cases hl:ls.length≤10
 ·have h:=bZ (ce b ls) (fun k=>(k:Int)) ls.length (fun k=> !xP b (ls.getD k (0,0,0))) (some (.inr false)) (some (.inl ())) (by omega) (fun k fuel hk=>?_) (fun fuel=>?_)
  ·rw [show ce b ls aq 0=_ from h,decide_eq_true hl]
   cases (List.range ls.length).any fun k=> !xP b (ls.getD k (0,0,0))<;>rfl
  ·rw [iV,cG]
   simp only [az hk,ah hk,aa,cond_true,Int.toNat_natCast,af (by omega:k<4611686018427387904),jW,Option.bind_some]
   generalize ls.getD k (0,0,0)=l
   rw [UI]
   cases aY 0 l.1&&aw l.1 b<;>cases aY 0 l.2.1&&aw l.2.1 b<;>cases l.1==l.2.1<;>cases aw l.2.2 1<;>cases aw 999 l.2.2<;>rfl
  ·rw [iV,cG];simp only [ak,cond_false]
 ·rw [decide_eq_false hl];rfl
theorem Vs (b:Int) (ls:List Ln):dM b ls=some (Dq b ls):=by
 unfold dM Dq au
 rw [abb,oA]
 cases h1:aY 1 b&&aY b 8
 ·rfl
 by_cases hl:ls.length≤10
 ·have hb:1≤b∧b≤8:=by simpa [aY] using h1
  have w1:ay (b-1)=b-1:=aO (by omega) (by omega)
  have h:=bZ (eP b ls) (fun k=>(k:Int)) ls.length (fun k=> !xP b (ls.getD k (0,0,0))) (some (.inr false)) (some (.inl ())) (by omega) (fun k fuel hk=>?_) (fun fuel=>?_)
  ·rw [show eP b ls aq 0=_ from h,decide_eq_true hl]
   cases (List.range ls.length).any fun k=> !xP b (ls.getD k (0,0,0))<;>rfl
  ·rw [qQ,ij]
   simp only [az hk,ah hk,aa,cond_true,Int.toNat_natCast,af (by omega:k<4611686018427387904),au,Option.bind_some,w1]
   generalize ls.getD k (0,0,0)=l
   unfold xP
   rw [oA,oA,oA]
   cases aY 0 l.1&&aY l.1 (b-1)<;>cases aY 0 l.2.1&&aY l.2.1 (b-1)<;>cases l.1==l.2.1<;>cases aY 1 l.2.2&&aY l.2.2 999<;>rfl
  ·rw [qQ,ij];simp only [ak,cond_false]
 ·rw [decide_eq_false hl];rfl
section
variable (b:Int) (ls:List Ln) (pts:List (Int×Int)) (hp:pts.length≤1048576)
include hp
theorem Rp:fF b ls pts=some (pE b ls pts):=by
 unfold fF pE
 rw [Xf,Option.bind_some]
 have e:((pts.length:Int) !=b)= !decide ((pts.length:Int)=b):=by rw [Bool.eq_iff_iff];simp
 rw [e]
 have h:=bZ (db pts) (fun k=>(k:Int)) pts.length (fun k=> !GL (pts.getD k (0,0))) (some (.inr false)) (some (.inl ())) (by omega) (fun k fuel hk=>?_) (fun fuel=>?_)
 ·rw [show db pts aq 0=_ from h]
  cases Dq b ls<;>cases decide ((pts.length:Int)=b)<;>cases (List.range pts.length).any fun k=> !GL (pts.getD k (0,0))<;>rfl
 ·rw [oZ,eY]
  simp only [az hk,ah hk,aa,cond_true,Int.toNat_natCast,af (by omega:k<4611686018427387904),jY,Option.bind_some]
  generalize pts.getD k (0,0)=p
  unfold GL
  rw [oA,oA]
  cases aY 0 p.1&&aY p.1 999<;>cases aY 0 p.2&&aY p.2 999<;>rfl
 ·rw [oZ,eY];simp only [ak,cond_false]
theorem SN:gf b ls pts=some (pE b ls pts):=by
 unfold gf pE
 rw [Vs]
 have e:((pts.length:Int)==b)=decide ((pts.length:Int)=b):=by rw [Bool.eq_iff_iff];simp
 rw [e]
 have h:=bZ (dh pts) (fun k=>(k:Int)) pts.length (fun k=> !GL (pts.getD k (0,0))) (some (.inr false)) (some (.inl ())) (by omega) (fun k fuel hk=>?_) (fun fuel=>?_)
 ·rw [show dh pts aq 0=_ from h]
  cases Dq b ls<;>cases decide ((pts.length:Int)=b)<;>cases (List.range pts.length).any fun k=> !GL (pts.getD k (0,0))<;>rfl
 ·rw [ph,fh]
  simp only [az hk,ah hk,aa,cond_true,Int.toNat_natCast,af (by omega:k<4611686018427387904),au,Option.bind_some,Bool.or_true]
  generalize pts.getD k (0,0)=p
  unfold GL
  rw [oA,oA]
  cases aY 0 p.1&&aY p.1 999<;>cases aY 0 p.2&&aY p.2 999<;>rfl
 ·rw [ph,fh];simp only [ak,cond_false]
omit hp in
theorem Xh (on:List Bool):jX b ls on=some (Vw b ls on):=by
 unfold jX Vw;rw [Xf,NW];rfl
omit hp in
theorem Jp (on:List Bool):cE b ls on=some (Vw b ls on):=by
 unfold cE Vw;rw [Vs,NW];rfl
theorem Uz (on:List Bool):dJ b ls on pts=some (KQ b ls on pts):=by
 unfold dJ KQ
 rw [Xh,Rp b ls pts hp]
 cases Vw b ls on<;>cases pE b ls pts<;>rfl
theorem PO (on:List Bool):gF b ls on pts=some (KQ b ls on pts):=by
 unfold gF KQ
 rw [Jp,SN b ls pts hp]
 cases Vw b ls on<;>cases pE b ls pts<;>rfl
end
structure StOk (b:Int) (ls:List Ln) (on:List Bool):Prop where
 net:NetOk b ls
 len:on.length=ls.length
theorem EP {b:Int} {ls:List Ln} {on:List Bool}:Vw b ls on=true↔StOk b ls on:=by
 unfold Vw
 rw [Bool.and_eq_true,wG,decide_eq_true_eq]
 exact ⟨fun h=>⟨h.1,h.2⟩,fun h=>⟨h.1,h.2⟩⟩
theorem fp {b:Int} {ls:List Ln} {on:List Bool} {pts:List (Int×Int)}:KQ b ls on pts=true↔StOk b ls on∧BusOk b ls pts:=by
 unfold KQ;rw [Bool.and_eq_true,EP,uu]
def zl (u:List Nat):List Int:=u.map fun (n:Nat)=>(n:Int)
theorem cb (u:List Nat):(zl u).length=u.length:=by simp [zl]
theorem rz (u:List Nat) (k:Nat):(zl u).getD k 0=((u.getD k 0:Nat):Int):=by
 unfold zl
 rcases Nat.lt_or_ge k u.length with h |h
 ·simp [List.getD,h]
 ·simp [List.getD,List.getElem?_eq_none h]
theorem Tw (u:List Nat) (k v:Nat):(zl u).set k (v:Int)=zl (u.set k v):=by simp [zl,List.map_set]
structure UR (u:List Nat) (B:Nat) (f:Nat→Nat):Prop where
 len:u.length=B
 dn:Dn u
 rot: ∀c,c<B→Rot u c (f c)
theorem UR.le {u:List Nat} {B:Nat} {f:Nat→Nat} (h:UR u B f) {c:Nat} (hc:c<B):f c≤c:=by
 obtain ⟨r,h1,h2⟩:=Rot.ex h.dn c (by rw [h.len];exact hc)
 rw [(h.rot c hc).uniq h1];exact h2
theorem WR {u0:List Nat} {B:Nat} {f:Nat→Nat} (h0:u0.length=B): ∀(c fuel:Nat) (u:List Nat),c<fuel→UR u B f→c<B→ ∃v,fW (zl u0) fuel (zl u,(c:Int))=some (((f c:Nat):Int),zl v)∧UR v B f:=by
 intro c
 induction c using Nat.strongRecOn with
 |ind c ih=>
  intro fuel u hf hu hc
  obtain ⟨g,rfl⟩: ∃g,fuel=g+1:=⟨fuel-1,by omega⟩
  rw [vS,jP]
  have hx: ∀d,d<B→aC (d:Int) (zl u0).length=true:=fun d hd=>by rw [cb,h0];exact ah hd
  simp only [hx c hc,aa,Int.toNat_natCast,rz]
  by_cases hr:u.getD c 0=c
  ·have e:(((u.getD c 0:Nat):Int) !=(c:Int))=false:=by rw [hr];simp
   rw [e,(hu.rot c hc).fix hr]
   exact ⟨u,rfl,hu⟩
  ·have e:(((u.getD c 0:Nat):Int) !=(c:Int))=true:=by simp only [bne_iff_ne,ne_eq];omega
   have h1:=hu.dn c (by rw [hu.len];exact hc)
   have h2:=hu.dn (u.getD c 0) (by rw [hu.len];omega)
   simp only [e,cond_true,hx _ (show u.getD c 0<B by omega),aa,Int.toNat_natCast,rz]
   have h3:(zl u).set c ((u.getD (u.getD c 0) 0:Nat):Int)=zl (u.set c (u.getD (u.getD c 0) 0)):=Tw _ _ _
   rw [h3,rz,oc (by rw [hu.len];exact hc),if_pos rfl]
   have hcl:c<u.length:=by rw [hu.len];exact hc
   have hv:UR (u.set c (u.getD (u.getD c 0) 0)) B f:=⟨by rw [List.length_set];exact hu.len,hu.dn.halve hcl,fun d hd=>Rot.halve hu.dn hcl d _ (by rw [hu.len];exact hd) (hu.rot d hd)⟩
   obtain ⟨v,i1,i2⟩:=ih (u.getD (u.getD c 0) 0) (by omega) g _ (by omega) hv (by omega)
   have hf2:f (u.getD (u.getD c 0) 0)=f c:=(hu.rot _ (by omega)).uniq ((hu.rot c hc).next.next)
   rw [hf2] at i1
   exact ⟨v,i1,i2⟩
theorem Dl {u:List Nat} {B:Nat} {f:Nat→Nat} (h:UR u B f) (hB:B≤1099511627776) {c:Nat} (hc:c<B): ∃v,bK (zl u) (c:Int)=some (((f c:Nat):Int),zl v)∧UR v B f:=by
 obtain ⟨v,h1,h2⟩:=WR h.len c aq u (oN (by omega)) h hc
 refine ⟨v,?_,h2⟩
 unfold bK
 rw [h1];rfl
theorem aa1 {u:List Nat} {B:Nat} {f:Nat→Nat} (h:UR u B f) (hB:B≤1099511627776) {a c:Nat} (ha:a<B) (hc:c<B): ∃v,kg (zl u) (a:Int) (c:Int)=some (decide (f a=f c),zl v)∧UR v B f:=by
 obtain ⟨v,h1,h2⟩:=Dl h hB ha
 obtain ⟨x,h3,h4⟩:=Dl h2 hB hc
 refine ⟨x,?_,h4⟩
 unfold kg
 rw [h1,Option.bind_some,h3,Option.bind_some]
 have:(((f a:Nat):Int)==((f c:Nat):Int))=decide (f a=f c):=by rw [Bool.eq_iff_iff];simp;omega
 rw [this]
theorem VP {u:List Nat} {B:Nat} {f:Nat→Nat} (h:UR u B f) (hB:B≤1099511627776) {a c:Nat} (ha:a<B) (hc:c<B): ∃v,fX (zl u) (a:Int) (c:Int)=some (zl v)∧UR v B (qp f a c):=by
 obtain ⟨v,h1,h2⟩:=Dl h hB ha
 obtain ⟨x,h3,h4⟩:=Dl h2 hB hc
 have la:=h.le ha
 have lc:=h.le hc
 refine ⟨x.set (max (f a) (f c)) (min (f a) (f c)),?_,?_⟩
 ·unfold fX
  rw [h1,Option.bind_some,h3,Option.bind_some]
  have e1:max ((f a:Nat):Int) ((f c:Nat):Int)=((max (f a) (f c):Nat):Int):=by omega
  have e2:min ((f a:Nat):Int) ((f c:Nat):Int)=((min (f a) (f c):Nat):Int):=by omega
  have hx:aC ((max (f a) (f c):Nat):Int) (zl u).length=true:=by rw [cb,h.len];exact ah (by omega)
  rw [e1,e2,hx,aa,Int.toNat_natCast]
  exact congrArg some (Tw _ _ _)
 ·have hlen:=h4.len
  refine ⟨by rw [List.length_set];exact hlen,fun d hd=>?_,fun d hd=>Rot.join h4.dn (fun c hc=>h4.rot c (by omega)) (by omega) (by omega) (fun c hc=>h4.le (by omega)) d (by omega)⟩
  rw [List.length_set] at hd
  rw [oc (by omega)]
  split
  ·omega
  ·exact h4.dn d hd
theorem aaX {B:Nat} (hB:B≤1099511627776):jJ (B:Int)=some (zl (List.range B))∧UR (List.range B) B id:=by
 refine ⟨?_,by simp,fun b hb=>?_,fun c hc=>?_⟩
 ·unfold jJ
  have hm:yw (B:Int)=true:=by simp [yw];omega
  rw [hm,aa,Int.toNat_natCast]
  have h:=aE (eO (B:Int)) (fun k=>((List.range B).map (fun (i:Nat)=>if i<k then (i:Int) else 0),(k:Int))) B (some (zl (List.range B))) (by omega) (fun k fuel hk=>?_) (fun fuel=>?_)
  ·have e:(List.range B).map (fun (i:Nat)=>if i<0 then (i:Int) else 0)=List.replicate B (0:Int):=by
    apply List.ext_getElem (by simp)
    intro i h1 h2
    simp
   rw [e] at h
   rw [show eO (B:Int) aq (List.replicate B (0:Int),0)=_ from h];rfl
  ·rw [qO,ic]
   simp only [Int.toNat_natCast,az hk,ah hk,cond_true,aa,af (by omega:k<4611686018427387904)]
   congr 2
   apply List.ext_getElem (by simp)
   intro i h1 h2
   rw [List.getElem_set]
   simp only [List.getElem_map,List.getElem_range]
   split
   ·rename_i e;subst e;rw [if_pos (by omega)]
   ·by_cases hi:i<k
    ·rw [if_pos hi,if_pos (by omega)]
    ·rw [if_neg hi,if_neg (by omega)]
  ·rw [qO,ic]
   simp only [Int.toNat_natCast,ak,cond_false]
   congr 1
   unfold zl
   refine List.map_congr_left fun i hi=>?_
   rw [if_pos (by simpa using hi)]
 ·have hb:b<B:=by simpa using hb
  simp [List.getD,hb]
 ·exact .stop (by simp [List.getD,hc])
theorem wC {b:Int} {l:Ln} (h:LnOk b l):l.1=(((cc l).1:Nat):Int)∧l.2.1=(((cc l).2:Nat):Int)∧(cc l).1<b.toNat∧(cc l).2<b.toNat:=by
 have:=h.a;have:=h.b
 unfold cc
 dsimp only
 omega
section
variable {b:Int} {ls:List Ln} {on:List Bool} (h:StOk b ls on)
include h
theorem uO {k:Nat} (hk:k<ls.length):uf ((ls.zip on).take (k+1))=if on.getD k false then uf ((ls.zip on).take k)++ [cc (ls.getD k (0,0,0))] else uf ((ls.zip on).take k):=by
 have hl:=h.len
 have hz:k<(ls.zip on).length:=by simp;omega
 rw [KR hz,ai (by omega:k<on.length),ai hk]
 simp
theorem JA:uf ((ls.zip on).take ls.length)=aA ls on:=by
 have hl:=h.len
 unfold aA
 rw [List.take_of_length_le (by simp;omega)]
theorem acL:mn b ls on=some (Mg ls on):=by
 have hb:=h.net.b0;have hb1:=h.net.b1;have hll:=h.net.ll;have hl:=h.len
 obtain ⟨B,rfl⟩: ∃B:Nat,b=(B:Int):=⟨b.toNat,by omega⟩
 obtain ⟨n1,n2⟩:=aaX (B:=B) (by omega)
 unfold mn Mg
 rw [n1,Option.bind_some]
 have hh:=Pk (jb ls on) (fun k s=> ∃u,s=(zl u,(k:Int))∧UR u B (aU (uf ((ls.zip on).take k)))) ls.length
  (fun k=>on.getD k false&&aU (uf ((ls.zip on).take k)) (cc (ls.getD k (0,0,0))).1==aU (uf ((ls.zip on).take k)) (cc (ls.getD k (0,0,0))).2) (some (.inr true)) (some (.inl ())) (by omega) ?_ ?_ (zl (List.range B),0) ⟨_,rfl,n2⟩
 ·rw [hh]
  cases (List.range ls.length).any _<;>rfl
 ·rintro k fuel s hk ⟨u,rfl,hu⟩
  rw [qM,ia]
  have hln:=wC (h.net.ln k hk)
  simp only [Int.toNat_natCast] at hln
  simp only [az hk,ah hk,ah (show k<on.length by omega),aa,cond_true,Int.toNat_natCast,af (by omega:k<4611686018427387904)]
  rw [hln.1,hln.2.1]
  cases ho:on.getD k false
  ·right
   refine ⟨rfl,(zl u,((k+1:Nat):Int)),⟨u,rfl,?_⟩,rfl⟩
   rw [uO h hk,ho];exact hu
  ·obtain ⟨v,s1,s2⟩:=aa1 hu (by omega) hln.2.2.1 hln.2.2.2
   simp only [cond_true,s1,Option.bind_some]
   by_cases he:aU (uf ((ls.zip on).take k)) (cc (ls.getD k (0,0,0))).1=aU (uf ((ls.zip on).take k)) (cc (ls.getD k (0,0,0))).2
   ·left
    rw [decide_eq_true he]
    exact ⟨by rw [he];simp,rfl⟩
   ·right
    obtain ⟨x,j1,j2⟩:=VP s2 (by omega) hln.2.2.1 hln.2.2.2
    rw [decide_eq_false he]
    simp only [cond_false,j1,Option.bind_some]
    refine ⟨by simpa using he,(zl x,((k+1:Nat):Int)),⟨x,rfl,?_⟩,rfl⟩
    rw [uO h hk,ho,if_pos rfl,xf];exact j2
 ·rintro fuel s ⟨u,rfl,hu⟩
  rw [qM,ia];simp only [ak,cond_false]
end
def bl (B:Nat) (s:Nat→Bool):List Bool:=(List.range B).map s
theorem Qw (B:Nat) (s:Nat→Bool):(bl B s).length=B:=by simp [bl]
theorem Mc {B c:Nat} {s:Nat→Bool} (h:c<B):(bl B s).getD c false=s c:=by simp [bl,List.getD,h]
theorem Qy {B a:Nat} {s:Nat→Bool} (h:a<B):(bl B s).set a true=bl B (fun c=>c==a ||s c):=by
 apply List.ext_getElem (by simp [bl])
 intro i h1 h2
 rw [List.getElem_set]
 simp only [bl,List.getElem_map,List.getElem_range]
 split
 ·rename_i e;subst e;simp
 ·rename_i e
  have:(i==a)=false:=by simpa using fun e2=>e e2.symm
  rw [this];rfl
theorem JT {B:Nat} {s t:Nat→Bool} (h: ∀c,c<B→s c=t c):bl B s=bl B t:=List.map_congr_left fun c hc=>h c (by simpa using hc)
theorem uL (E:Ed) (e:Nat×Nat) (s:Nat→Bool):kW (E++ [e]) s=HI (kW E s) e:=by unfold kW;rw [List.foldl_append];rfl
section
variable {B:Nat} {ls:List Ln} {on:List Bool} (h:StOk (B:Int) ls on)
include h
theorem PQ (s:Nat→Bool):gD (B:Int) ls on aq (bl B s,0)=some (bl B (kW (aA ls on) s)):=by
 have hll:=h.net.ll;have hl:=h.len
 have hh:=aE (gD (B:Int) ls on) (fun k=>(bl B (kW (uf ((ls.zip on).take k)) s),(k:Int))) ls.length (some (bl B (kW (aA ls on) s))) (by omega) (fun k fuel hk=>?_) (fun fuel=>?_)
 ·exact hh
 ·rw [sd,jx]
  have hln:=wC (h.net.ln k hk)
  simp only [Int.toNat_natCast] at hln
  simp only [az hk,ah hk,ah (show k<on.length by omega),aa,cond_true,Int.toNat_natCast,af (by omega:k<4611686018427387904)]
  rw [hln.1,hln.2.1]
  rw [uO h hk]
  generalize cc (ls.getD k (0,0,0))=e at*
  simp only [ah hln.2.2.1,ah hln.2.2.2,Int.toNat_natCast,Bool.or_true,aa,Qw,Mc hln.2.2.1,Mc hln.2.2.2]
  cases ho:on.getD k false
  ·rfl
  ·rw [if_pos rfl,uL]
   generalize kW (uf ((ls.zip on).take k)) s=t
   unfold HI
   rw [Bool.true_and]
   cases t e.1 ||t e.2
   ·rfl
   ·simp only [cond_true,Option.bind_some,if_true]
    rw [Qy hln.2.2.1,Qy hln.2.2.2]
    congr 2
    refine JT fun c hc=>?_
    cases c==e.1<;>cases c==e.2<;>rfl
 ·rw [sd,jx]
  simp only [ak,cond_false]
  rw [JA h]
theorem Yh {b:Nat} (hb:b<B):nW (B:Int) ls on (b:Int)=some (bl B (aT (aA ls on) (fun c=>c==b) B)):=by
 have h1:=h.net.b1
 unfold nW
 have hm:yw (B:Int)=true:=by simp [yw];omega
 rw [hm,aa,Int.toNat_natCast,ah hb,aa,Int.toNat_natCast]
 have e:(List.replicate B false).set b true=bl B (fun c=>c==b):=by
  apply List.ext_getElem (by simp [bl])
  intro i h1 h2
  rw [List.getElem_set]
  simp only [bl,List.getElem_map,List.getElem_range,List.getElem_replicate]
  split
  ·rename_i e;subst e;simp
  ·rename_i e;symm;simpa using fun e2=>e e2.symm
 have hh:=aE (gC (B:Int) ls on) (fun k=>(bl B (aT (aA ls on) (fun c=>c==b) k),(k:Int))) B (some (bl B (aT (aA ls on) (fun c=>c==b) B))) (by omega) (fun k fuel hk=>?_) (fun fuel=>?_)
 ·rw [e,show gC (B:Int) ls on aq (bl B (fun c=>c==b),0)=_ from hh];rfl
 ·rw [sc,jw]
  simp only [az hk,cond_true,PQ h,Option.bind_some,af (by omega:k<4611686018427387904)]
  rfl
 ·rw [sc,jw];simp only [ak,cond_false]
theorem Wn: ∀e∈aA ls on,e.1<B∧e.2<B:=by
 intro e he
 obtain ⟨k,hk,_,rfl⟩:=zm.1 he
 have:=wC (h.net.ln k hk)
 simp only [Int.toNat_natCast] at this
 exact ⟨this.2.2.1,this.2.2.2⟩
theorem LD {b:Nat} (hb:b<B) (c:Nat):aT (aA ls on) (fun c=>c==b) B c=(aU (aA ls on) b==aU (aA ls on) c):=by
 rw [Bool.eq_iff_iff,Qa (Wn h) hb,beq_iff_eq,nG]
def pJ (E:Ed) (B b:Nat):List Nat:=(List.range B).filter fun c=>aU E b==aU E c
theorem Gv {b:Nat} (hb:b<B):iH (B:Int) ls on (b:Int)=some (zl (pJ (aA ls on) B b)):=by
 have h1:=h.net.b1
 unfold iH au
 have w1:ay ((B:Int)-1)=(B:Int)-1:=aO (by omega) (by omega)
 have c1:(aY 0 (b:Int)&&aY (b:Int) ((B:Int)-1))=true:=by simp [aY];omega
 rw [Jp,EP.2 h,Option.bind_some,w1,c1]
 simp only [Bool.not_true,Bool.not_false,cv,Option.bind_some,Bool.or_self,cond_false,Yh h hb]
 have e:bl B (aT (aA ls on) (fun c=>c==b) B)=bl B (fun c=>aU (aA ls on) b==aU (aA ls on) c):=JT fun c _=>LD h hb c
 rw [e]
 have hh:=aE (gr (B:Int) (bl B (fun c=>aU (aA ls on) b==aU (aA ls on) c))) (fun k=>(zl ((List.range k).filter fun c=>aU (aA ls on) b==aU (aA ls on) c),(k:Int))) B (some (zl (pJ (aA ls on) B b))) (by omega) (fun k fuel hk=>?_) (fun fuel=>?_)
 ·rw [show gr (B:Int) _ aq (([]:List Int),0)=_ from hh];rfl
 ·rw [rY,jr]
  have hl:(zl ((List.range k).filter fun c=>aU (aA ls on) b==aU (aA ls on) c)).length≤k:=by
   rw [cb];have:=List.length_filter_le (fun c=>aU (aA ls on) b==aU (aA ls on) c) (List.range k);simpa using this
  have ha: ∀x:Int,bw (zl ((List.range k).filter fun c=>aU (aA ls on) b==aU (aA ls on) c)).length [x].length=true:=fun x=>by simp [bw];omega
  simp only [az hk,cond_true,Qw,ah hk,aa,Int.toNat_natCast,Mc hk,ha,af (by omega:k<4611686018427387904)]
  rw [List.range_succ,List.filter_append]
  cases hc:aU (aA ls on) b==aU (aA ls on) k
  ·simp [hc,List.filter_cons]
  ·simp [hc,List.filter_cons,zl]
 ·rw [rY,jr];simp only [ak,cond_false];rfl
omit h in
theorem PP (l:List Int) (x:Int) (hl:l.length≤1099511627776):cW l x=some (decide (x∈l)):=by
 unfold cW
 have hh:=bZ (jL l x) (fun k=>(k:Int)) l.length (fun k=>l.getD k 0==x) (some (.inr true)) (some (.inl ())) hl (fun k fuel hk=>?_) (fun fuel=>?_)
 ·rw [show jL l x aq 0=_ from hh,JO l 0 (fun y=>y==x)]
  have:l.any (fun y=>y==x)=decide (x∈l):=by
   rw [Bool.eq_iff_iff,List.any_eq_true,decide_eq_true_eq]
   exact ⟨fun ⟨y,h1,h2⟩=>by rw [←(beq_iff_eq.1 h2)];exact h1,fun h=>⟨x,h,by simp⟩⟩
  rw [this]
  cases decide (x∈l)<;>rfl
 ·rw [uS,lE]
  simp only [az hk,ah hk,aa,cond_true,Int.toNat_natCast,af (by omega:k<4611686018427387904)]
 ·rw [uS,lE];simp only [ak,cond_false]
omit h in
theorem Tv {l:List Nat} {c:Nat}:(c:Int)∈zl l↔c∈l:=by
 simp only [zl,List.mem_map]
 constructor
 ·rintro ⟨a,h1,h2⟩;have:a=c:=by omega
  subst this;exact h1
 ·intro h;exact ⟨c,h,rfl⟩
omit h in
theorem yj (E:Ed) (B b:Nat):(pJ E B b).length≤B:=by
 unfold pJ;have:=List.length_filter_le (fun c=>aU E b==aU E c) (List.range B);simpa using this
theorem Wj {a c:Nat} (ha:a<B) (hc:c<B):gu (B:Int) ls on (a:Int) (c:Int)=some (aU (aA ls on) a==aU (aA ls on) c):=by
 have h1:=h.net.b1
 unfold gu
 have hl:=yj (aA ls on) B a
 rw [Gv h ha,Option.bind_some,PP _ _ (by rw [cb];omega),Option.bind_some]
 have:decide ((c:Int)∈zl (pJ (aA ls on) B a))=(aU (aA ls on) a==aU (aA ls on) c):=by
  rw [Bool.eq_iff_iff,decide_eq_true_eq,Tv]
  simp [pJ,hc]
 rw [this]
def Ka (ls:List Ln) (on:List Bool) (k:Nat):Bool:=on.getD k false&&aU (aA ls (on.set k false)) (cc (ls.getD k (0,0,0))).1==aU (aA ls (on.set k false)) (cc (ls.getD k (0,0,0))).2
theorem XF (k:Nat):StOk (B:Int) ls (on.set k false):=⟨h.net,by rw [List.length_set];exact h.len⟩
theorem acU:mr (B:Int) ls on=some (Mh ls on):=by
 have hll:=h.net.ll;have hl:=h.len
 unfold mr nP
 have hh:=aE (di (B:Int) ls on) (fun k=>(zl ((List.range k).filter (Ka ls on)),(k:Int))) ls.length
  (some (zl ((List.range ls.length).filter (Ka ls on)))) (by omega) (fun k fuel hk=>?_) (fun fuel=>?_)
 ·rw [show di (B:Int) ls on aq (([]:List Int),0)=_ from hh]
  simp only [Option.bind_some,cb]
  congr 1
  show aw 0 (((List.range ls.length).filter (Ka ls on)).length:Int)=(List.range ls.length).any (Ka ls on)
  rw [Bool.eq_iff_iff,aw,decide_eq_true_eq,List.any_eq_true]
  constructor
  ·intro h1
   obtain ⟨k,hk⟩:=List.exists_mem_of_length_pos (show 0<((List.range ls.length).filter (Ka ls on)).length by omega)
   obtain ⟨h2,h3⟩:=List.mem_filter.1 hk
   exact ⟨k,h2,h3⟩
  ·rintro ⟨k,h2,h3⟩
   have:=List.length_pos_of_mem (List.mem_filter.2 ⟨h2,h3⟩)
   omega
 ·rw [pi,fi]
  have hln:=wC (h.net.ln k hk)
  simp only [Int.toNat_natCast] at hln
  have hkn:k<on.length:=by omega
  have w1:ay ((on.length:Int)-1)=(on.length:Int)-1:=aO (by omega) (by omega)
  have c1:(aY 0 (k:Int)&&aY (k:Int) ((on.length:Int)-1))=true:=by simp [aY];omega
  have a1:bw ([]:List Bool).length on.length=true:=by simp [bw];omega
  have hl2:=List.length_filter_le (Ka ls on) (List.range k)
  rw [List.length_range] at hl2
  have ha: ∀x:Int,bw (zl ((List.range k).filter (Ka ls on))).length [x].length=true:=fun x=>by rw [cb];simp [bw];omega
  have hsw:kw (B:Int) ls on (k:Int) false=some (on.set k false,true):=by
   unfold kw jO au
   rw [Jp,EP.2 h]
   simp only [Option.bind_some,cond_true,a1,aa,List.nil_append,w1,c1,ah hkn,Int.toNat_natCast]
  have hsame:=Wj (XF h k) hln.2.2.1 hln.2.2.2
  rw [Jp,EP.2 h]
  simp only [az hkn,cv,Option.bind_some,Bool.and_self,cond_true,hsw,ah hkn,ah hk,Bool.or_true,aa,Int.toNat_natCast,ha,af (by omega:k<4611686018427387904)]
  rw [hln.1,hln.2.1,hsame,List.range_succ,List.filter_append]
  have hcy:Ka ls on k=(on.getD k false&&aU (aA ls (on.set k false)) (cc (ls.getD k (0,0,0))).1==aU (aA ls (on.set k false)) (cc (ls.getD k (0,0,0))).2):=rfl
  rw [List.filter_cons,List.filter_nil,hcy]
  cases ho:on.getD k false
  ·simp [gb]
  ·cases hc:aU (aA ls (on.set k false)) (cc (ls.getD k (0,0,0))).1==aU (aA ls (on.set k false)) (cc (ls.getD k (0,0,0))).2
   ·simp [gb]
   ·simp [gb,zl]
 ·rw [pi,fi]
  have:aw (ls.length:Int) (on.length:Int)=false:=by rw [hl];exact ak
  simp only [this,pw,Option.bind_some,Bool.false_and,cond_false]
end
end Go.Proofs.YtjdlgannencchaaGreatDoor
