/- Texts of the claim, one behind the other: LnJ, DaT, Da1, LnT, WkA, WkP, Isl, For, Flw, Wl, Net, Tr, Sum, Al, WkV, WvM, DkM. -/
import Derived.Lib.ItoaLen
import Derived.Test.YtjdlgannencchaaGreatDoorRLinesHeal3
namespace Go.Proofs.YtjdlgannencchaaGreatDoor
open Go.ChangeShapes Go.WideShapes Go.ChangeAt Go.RowKit
set_option linter.unusedVariables false
set_option linter.unusedSimpArgs false
set_option maxRecDepth 100000
abbrev Jc:EK:=.p (.int .i64) (.p (.int .i64) (.int .i64))
theorem EN {own:Bool} (hN:bD Tryz.prog ⟨100,[.g [.int .i64,.sl .ro 77 Jc]],[.o .b],own,fun x=>aC x.1 x.2⟩) {w:World} (hbs:Bs w) {b:Int} {ls:List (Int×Int×Int)} {A:Option Addr} {c:Nat} (R:Rc w 3 A ls.length c (ls.flatMap Jc.enc)) {p:Bool} (hp:aC b ls=some p) {w1:World} (h1:Below w.heap.size w w1):
 Calls Tryz.prog 100 #[.agg #[.int .i64 b,.slice A ls.length c]] w1 fun e w'=>e= .returned (.bool p)∧Below w1.heap.size w1 w':=by
 have R1:Rc w1 3 A ls.length c (ls.flatMap Jc.enc):=⟨R.rd.after h1,R.cap⟩
 refine (PT hN (x:=(b,ls)) hp (e:=RS [(none,0),(A,c)]) (w:=w1) (b:=p) (tm hbs h1) ⟨_,_,rfl,⟨.i64,b,rfl⟩,_,_,rfl,⟨ls,rfl,fun u L S _=>S.rc0 R1⟩,rfl⟩ rfl rfl rfl).mono ?_
 rintro e w' ⟨rfl,S⟩
 exact ⟨rfl,S.below⟩
theorem DN {T e:TypeId} {B b:Nat} {p:Value} {bs:List Value} {w w':World} (h:Lib.BuilderAtF T e B b p bs w) (hb:Below w.heap.size w w'):Lib.BuilderAtF T e B b p bs w':=by
 have hlt:=h.lt
 obtain ⟨h1,v,h2,h3,h4⟩:=h
 refine ⟨h1,v,(hb.block b hlt).trans h2,h3.kept (row:=none) ⟨hb.os,hb.tape,hb.output,hb.size,fun k hk _=>hb.block k hk⟩ ?_,h4⟩
 cases v.ownBlock<;>simp
theorem yT {T e:TypeId} {B b:Nat} {bs:List Value} {w w':World} (h:Lib.IsBuilderF T e B b bs w) (hb:Below w.heap.size w w'):Lib.IsBuilderF T e B b bs w':=
 h.imp (fun h=>DN h hb) (fun h=>DN h hb)
theorem vx (B b:Nat) (bs:List Value) (s:ByteArray) (w:World) (h:Lib.IsBuilderF 131 5 B b bs w) (hlen:bs.length+s.size≤140737488355328) (hBw:B≤w.heap.size):
 Calls Tryz.prog 102 #[.pointer (some ⟨b,0,none⟩),.string s] w fun e w'=>e= .returned (.tuple #[.int .i64 s.size,.nilIface])∧Lib.IsBuilderF 131 5 B b (bs++Lib.strCells s) w'∧Below B w w':=by
 refine (Any.Builder_WriteString_k {Tryz.lays156 with} Tryz.Builder_Extra_156 B b bs s w h hlen hBw).mono ?_
 rintro e w' ⟨rfl,h1,h2,_⟩
 exact ⟨rfl,.inr h1,h2⟩
def FN (w:World) (s:ByteArray) (e:Ending) (w':World):Prop:=e= .returned (.string s)∧Below w.heap.size w w'
theorem MV {own:Bool} (hN:bD Tryz.prog ⟨100,[.g [.int .i64,.sl .ro 77 Jc]],[.o .b],own,fun x=>aC x.1 x.2⟩) {w:World} (hbs:Bs w) {b:Int} {ls:List (Int×Int×Int)} {A:Option Addr} {c:Nat} (R:Rc w 3 A ls.length c (ls.flatMap Jc.enc)) (hp:aC b ls=some false):Calls Tryz.prog 42 #[.agg #[.int .i64 b,.slice A ls.length c]] w (FN w (bH [])):=by
 have b0:Below w.heap.size w (w.alloc (.cells #[.int .i64 b,.slice A ls.length c] 25)):=(Below.refl _ _).alloc (Nat.le_refl _) _
 have hS:(bH []:ByteArray)= {data:= #[]}:=rfl
 rw [hS]
 go_enter Tryz.func42,Tryz.ntmps42
 go_wp2_with fail
 refine (EN hN hbs R hp b0).mono ?_
 rintro e w1 ⟨rfl,h1⟩
 have b1:=aX h1 b0
 go_wp2
 exact bodyPost_ret (v:=.string {data:= #[]}) (by simp [results,Tryz.results42,go_sem, *]) rfl ⟨rfl,(by repeat' (first |exact Below.refl _ _ |assumption |refine Below.drew ?_ |refine cell_drew ?_ |refine Below.setCell ?_ (by (try simp);(try omega)) _ |refine Below.alloc ?_ (by (try simp);(try omega)) _ |refine pO (by assumption) (by (try simp);(try omega)) ?_))⟩
def Ry (x:Int×Int×Int):List UInt8:=32::(Lib.itoa x.1++45::(Lib.itoa x.2.1++58::Lib.itoa x.2.2))
def yw (b:Int) (ls:List (Int×Int×Int)) (k:Nat):List UInt8:=Lib.itoa b++(ls.take k).flatMap Ry
theorem DJ (b:Int) (ls:List (Int×Int×Int)):yw b ls 0=Lib.itoa b:=by simp [yw]
theorem DH (b:Int) (ls:List (Int×Int×Int)) {k:Nat} (h:k<ls.length):yw b ls (k+1)=yw b ls k++Ry ls[k]:=by
 unfold yw
 rw [List.take_succ_eq_append_getElem h,List.flatMap_append];simp
theorem Nu (b:Int) (ls:List (Int×Int×Int)):yw b ls ls.length=LR b ls:=by
 unfold yw;rw [List.take_length];rfl
def Pz (n:Int):Prop:= -9223372036854775808≤n∧n≤9223372036854775807
theorem oi {n:Int} (h:Pz n):(Lib.itoa n).length≤21:=Lib.itoa_length_le n h.1 h.2
theorem LO {x:Int×Int×Int} (h:(Pz x.1∧Pz x.2.1)∧Pz x.2.2):(Ry x).length≤66:=by
 have h1:=oi h.1.1;have h2:=oi h.1.2;have h3:=oi h.2
 unfold Ry;simp;omega
theorem Ki {b:Int} {ls:List (Int×Int×Int)} (h1:Pz b) (h3: ∀x∈ls,(Pz x.1∧Pz x.2.1)∧Pz x.2.2): ∀k,k≤ls.length→(yw b ls k).length≤21+66*k
 |0,_=>by rw [DJ];exact oi h1
 |k+1,hk=>by
  have:=Ki h1 h3 k (by omega)
  have:=LO (h3 ls[k] (List.getElem_mem _))
  rw [DH b ls (by omega),List.length_append];omega
def WO (g:Nat) (xa xb xm:Int):Nat→Value→World→Prop
 |0,v,_=>v= .pointer (some ⟨g,0,none⟩)
 |1,v,_=>v= .int .i64 xa
 |2,v,_=>v= .string (bH (Lib.itoa xa))
 |3,v,_=>v= .string (bH ([32]++Lib.itoa xa))
 |4,v,_=>v= .string (bH ([32]++Lib.itoa xa++ [45]))
 |5,v,_=>v= .pointer (some ⟨g,1,none⟩)
 |6,v,_=>v= .int .i64 xb
 |7,v,_=>v= .string (bH (Lib.itoa xb))
 |8,v,_=>v= .string (bH ([32]++Lib.itoa xa++ [45]++Lib.itoa xb))
 |9,v,_=>v= .string (bH ([32]++Lib.itoa xa++ [45]++Lib.itoa xb++ [58]))
 |10,v,_=>v= .pointer (some ⟨g,2,none⟩)
 |11,v,_=>v= .int .i64 xm
 |12,v,_=>v= .string (bH (Lib.itoa xm))
 |13,v,_=>v= .string (bH ([32]++Lib.itoa xa++ [45]++Lib.itoa xb++ [58]++Lib.itoa xm))
 |_,_,_=>True
def QC (j:Nat):Nat:=if j<15 then 20+j else 0
def XX:Nat→Nat
 |0=>1 |1=>2 |2=>3 |3=>4 |4=>8 |5=>6 |6=>7 |7=>8 |8=>9 |9=>13 |10=>11 |11=>12 |12=>13 |13=>14 |_=>0
theorem Rz (xa xb xm:Int): [32]++Lib.itoa xa++ [45]++Lib.itoa xb++ [58]++Lib.itoa xm=Ry (xa,xb,xm):=by simp [Ry]
theorem Oa (g:Nat) (xa xb xm:Int) (j:Nat) (a:Act) (w w':World) (h:qG QC (WO g xa xb xm) j a w):qG QC (WO g xa xb xm) j a w':=by
 unfold qG at h ⊢
 match j with
 |0 |1 |2 |3 |4 |5 |6 |7 |8 |9 |10 |11 |12 |13=>exact h
 |n+14=>trivial
theorem sK {a:Act} {k:Nat} {v:Value} (h:a.tmps[k]?.getD undef=v):a.eval (.tmp k)=v:=by rw [←h];simp [Act.eval]
theorem Kj {P:Program} {a:Act} {w:World} {o:Oper} {T U:TypeId} {x y:Operand} {p q:List UInt8} (ho:o.op= .binOp .add T x y U) (hx:a.eval x= .string (bH p)) (hy:a.eval y= .string (bH q)) (h:p.length≤100∧q.length≤100):(execOp a.eval o).run P w= .ok (.value (.string (bH (p++q)))) w:=by
 have:=Fi (P:=P) (w:=w) ho hx hy (by rw [iC,iC];omega)
 rwa [Ho] at this
set_option maxRecDepth 20000 in
set_option maxHeartbeats 2000000 in
theorem Pp {own:Bool} (hN:bD Tryz.prog ⟨100,[.g [.int .i64,.sl .ro 77 Jc]],[.o .b],own,fun x=>aC x.1 x.2⟩) {w:World} (hbs:Bs w) {b:Int} {ls:List (Int×Int×Int)} {A:Option Addr} {c:Nat} (R:Rc w 3 A ls.length c (ls.flatMap Jc.enc)) (hp:aC b ls=some true) (hb:LQ b ls=true):Calls Tryz.prog 42 #[.agg #[.int .i64 b,.slice A ls.length c]] w (FN w (bH (LR b ls))):=by
 have b0:Below w.heap.size w (w.alloc (.cells #[.int .i64 b,.slice A ls.length c] 25)):=(Below.refl _ _).alloc (Nat.le_refl _) _
 have B0:Bk (w.alloc (.cells #[.int .i64 b,.slice A ls.length c] 25)) w.heap.size 25 #[.int .i64 b,.slice A ls.length c]:=Bk.new _ _ _
 unfold LQ SD at hb
 simp only [Bool.and_eq_true,decide_eq_true_eq,List.all_eq_true] at hb
 obtain ⟨⟨hb1,hb2⟩,hb3⟩:=hb
 go_enter Tryz.func42,Tryz.ntmps42
 go_wp2_with fail
 refine (EN hN hbs R hp b0).mono ?_
 rintro e w1 ⟨rfl,h1⟩
 have b1:=aX h1 b0
 have B1:=B0.after h1
 have s1:=b1.size
 have f1:=(B1.alloc (.cells #[.pointer none,.slice none 0 0] 131)).c2
 go_wp2_with fail
 refine (nm hbs hb1 (b1.alloc s1 _)).mono ?_
 rintro e w2 ⟨rfl,h2⟩
 have F2:Lib.IsBuilderF 131 5 w1.heap.size w1.heap.size [] w2:=yT (Lib.IsBuilderF.of (Lib.fresh_isBuilder _ _ w1)) h2
 have z2:=h2.size
 simp at z2
 have b2:=aX h2 (b1.alloc s1 _)
 have l0:=oi hb1
 have B2:=(B1.alloc (.cells #[.pointer none,.slice none 0 0] 131)).after h2
 go_wp2_with fail
 refine (vx w1.heap.size w1.heap.size [] _ w2 F2 (by rw [iC];simp;omega) (by omega)).mono ?_
 rintro e w3 ⟨rfl,F3,h3⟩
 have b3:Below w.heap.size w w3:=b2.trans (h3.mono s1)
 have z3:=h3.size
 have zl:w.heap.size<w1.heap.size:=by have:=h1.size;simp at this;omega
 have B3:=B2.below h3 zl
 have e3:([]:List Value)++Lib.strCells (bH (Lib.itoa b))=Lib.byteCells (yw b ls 0):=by rw [DJ,List.nil_append,Lib.strCells_eq,iB]
 rw [e3] at F3
 have HF:=Lib.hid F3
 have HB:=Lib.hid (Below.refl w1.heap.size w3)
 have f3:=B3.c2
 clear F3 f1 B1 B2 F2 b2 h3 h2 b1 h1
 go_wp2
 go_loopw [16] (fun i wr=> ∃k:Nat,k≤ls.length∧i= .int .i64 k∧Hid (Lib.IsBuilderF 131 5 w1.heap.size w1.heap.size (Lib.byteCells (yw b ls k)) wr)∧Hid (Below w1.heap.size w3 wr)) (fun i _=>ls.length-(intOf i).toNat)
 case atStart=>exact ⟨0,Nat.zero_le _,rfl,HF,HB⟩
 case round=>
  obtain ⟨k,hk,rfl,HF,HB⟩:=hrel
  have sr:=HB.out.size
  by_cases hlt:k<ls.length
  ·obtain ⟨bk,off,rfl,hcell⟩:=R.rd.2 (by omega)
   have hx3:=hb3 ls[k] (List.getElem_mem _)
   have hkk:ls.getD k (0,0,0)=ls[k]:=by simp [hlt]
   have hc0:=hcell (k*3+0) (.int .i64 ls[k].1) (py (f:=Jc.enc) (fun _=>rfl) (0,0,0) hlt (by rw [hkk];rfl))
   have hc1:=hcell (k*3+1) (.int .i64 ls[k].2.1) (py (f:=Jc.enc) (fun _=>rfl) (0,0,0) hlt (by rw [hkk];rfl))
   have hc2:=hcell (k*3+2) (.int .i64 ls[k].2.2) (py (f:=Jc.enc) (fun _=>rfl) (0,0,0) hlt (by rw [hkk];rfl))
   have hbk:bk<w.heap.size:=by
    rcases Nat.lt_or_ge bk w.heap.size with h |h
    ·exact h
    ·simp [World.cell?,Array.getElem?_eq_none h] at hc0
   have hac:=DH b ls hlt
   have hal:=Ki hb1 hb3 k hk
   have HA:=Lib.hid hac
   clear hac hcell hkk
   generalize ls[k]=x at*
   obtain ⟨xa,xb,xm⟩:=x
   have br:Below w.heap.size w wr:=b3.trans (HB.out.mono s1)
   have g0:wr.cell? ⟨bk,off+k*3,none⟩=some (.int .i64 xa):=(br.cell (p:=⟨bk,off+(k*3+0),none⟩) hbk).trans hc0
   have g1:wr.cell? ⟨bk,off+k*3+1,none⟩=some (.int .i64 xb):=(br.cell (p:=⟨bk,off+(k*3+1),none⟩) hbk).trans hc1
   have g2:wr.cell? ⟨bk,off+k*3+2,none⟩=some (.int .i64 xm):=(br.cell (p:=⟨bk,off+(k*3+2),none⟩) hbk).trans hc2
   clear hc0 hc1 hc2
   have BL:Bk (wr.alloc (.cells #[.int .i64 xa,.int .i64 xb,.int .i64 xm] 77)) wr.heap.size 77 #[.int .i64 xa,.int .i64 xb,.int .i64 xm]:=Bk.new _ _ _
   have FL:=HF.out.alloc (.cells #[.int .i64 xa,.int .i64 xb,.int .i64 xm] 77)
   have bL:=br.alloc (by omega) (.cells #[.int .i64 xa,.int .i64 xb,.int .i64 xm] 77)
   have HL:=HB.out.alloc (by omega) (.cells #[.int .i64 xa,.int .i64 xb,.int .i64 xm] 77)
   obtain ⟨⟨hxa,hxb⟩,hxm⟩:=hx3
   have la:=oi hxa;have lb:=oi hxb;have lm:=oi hxm
   go_wp2
   refine CS (up:=XX) (L:=14) (D:=[20,21,22,23,24,25,26,27,28,29,30,31,32,33,34]) (dep:=QC) (R:=fun w w'=>Below w.heap.size w w') (Inv:=fun wx=>Below (wr.alloc (.cells #[.int .i64 xa,.int .i64 xb,.int .i64 xm] 77)).heap.size (wr.alloc (.cells #[.int .i64 xa,.int .i64 xb,.int .i64 xm] 77)) wx) (Fs:=WO wr.heap.size xa xb xm) mixed rfl rfl (by kernel_rfl) (by kernel_rfl) (fun j a w w' _ h=>Oa _ _ _ _ j a w w' h) (Below.refl _ _).drew ?_ ?_
   ·refine ⟨?_,?_,?_,?_,?_,?_,?_,?_,?_,?_,?_,?_,?_,?_,trivial⟩<;>rintro a wx ⟨hs,hd,hB⟩ I hp
    ·have e1:a.tmps[5]?.getD undef= .pointer (some ⟨wr.heap.size,0,none⟩):=hB 5 rfl
     exact .inl ⟨rfl,_,wx,by simp [go_sem,e1],I,rfl,.inl rfl⟩
    ·have e1:a.tmps[20]?.getD undef=_:=hp 0 rfl
     have f:=(BL.after I).c3
     exact .inl ⟨rfl,_,wx,by simp [go_sem,e1,f],I,rfl,.inl rfl⟩
    ·have e1:a.tmps[21]?.getD undef=_:=hp 1 rfl
     refine .inr (.inr (.inl ⟨rfl,_,_,by simp [go_sem,e1];exact ⟨rfl,rfl⟩,?_⟩))
     refine (nm hbs hxa (aX I bL)).mono ?_
     rintro e w5 ⟨rfl,h5⟩
     exact ⟨_,rfl,aX h5 I,rfl,.inr ⟨h5,rfl⟩⟩
    ·have e1:a.eval (.const (.string {data:= #[32]}))= .string (bH [32]):=rfl
     have e2:a.tmps[22]?.getD undef=_:=hp 2 rfl
     exact .inl ⟨rfl,_,wx,Kj rfl e1 (sK e2) (by simp;omega),I,rfl,.inl rfl⟩
    ·have e1:a.tmps[23]?.getD undef=_:=hp 3 rfl
     have e2:a.eval (.const (.string {data:= #[45]}))= .string (bH [45]):=rfl
     exact .inl ⟨rfl,_,wx,Kj rfl (sK e1) e2 (by simp;omega),I,rfl,.inl rfl⟩
    ·have e1:a.tmps[5]?.getD undef= .pointer (some ⟨wr.heap.size,0,none⟩):=hB 5 rfl
     exact .inl ⟨rfl,_,wx,by simp [go_sem,e1],I,rfl,.inl rfl⟩
    ·have e1:a.tmps[25]?.getD undef=_:=hp 5 rfl
     have f:=(BL.after I).c3
     exact .inl ⟨rfl,_,wx,by simp [go_sem,e1,f],I,rfl,.inl rfl⟩
    ·have e1:a.tmps[26]?.getD undef=_:=hp 6 rfl
     refine .inr (.inr (.inl ⟨rfl,_,_,by simp [go_sem,e1];exact ⟨rfl,rfl⟩,?_⟩))
     refine (nm hbs hxb (aX I bL)).mono ?_
     rintro e w5 ⟨rfl,h5⟩
     exact ⟨_,rfl,aX h5 I,rfl,.inr ⟨h5,rfl⟩⟩
    ·have e1:a.tmps[24]?.getD undef=_:=hp 4 rfl
     have e2:a.tmps[27]?.getD undef=_:=hp 7 rfl
     exact .inl ⟨rfl,_,wx,Kj rfl (sK e1) (sK e2) (by simp;omega),I,rfl,.inl rfl⟩
    ·have e1:a.tmps[28]?.getD undef=_:=hp 8 rfl
     have e2:a.eval (.const (.string {data:= #[58]}))= .string (bH [58]):=rfl
     exact .inl ⟨rfl,_,wx,Kj rfl (sK e1) e2 (by simp;omega),I,rfl,.inl rfl⟩
    ·have e1:a.tmps[5]?.getD undef= .pointer (some ⟨wr.heap.size,0,none⟩):=hB 5 rfl
     exact .inl ⟨rfl,_,wx,by simp [go_sem,e1],I,rfl,.inl rfl⟩
    ·have e1:a.tmps[30]?.getD undef=_:=hp 10 rfl
     have f:=(BL.after I).c3
     exact .inl ⟨rfl,_,wx,by simp [go_sem,e1,f],I,rfl,.inl rfl⟩
    ·have e1:a.tmps[31]?.getD undef=_:=hp 11 rfl
     refine .inr (.inr (.inl ⟨rfl,_,_,by simp [go_sem,e1];exact ⟨rfl,rfl⟩,?_⟩))
     refine (nm hbs hxm (aX I bL)).mono ?_
     rintro e w5 ⟨rfl,h5⟩
     exact ⟨_,rfl,aX h5 I,rfl,.inr ⟨h5,rfl⟩⟩
    ·have e1:a.tmps[29]?.getD undef=_:=hp 9 rfl
     have e2:a.tmps[32]?.getD undef=_:=hp 12 rfl
     exact .inl ⟨rfl,_,wx,Kj rfl (sK e1) (sK e2) (by simp;omega),I,rfl,.inl rfl⟩
   ·intro a wx hB I hF
    have e13:a.tmps[33]?.getD undef= .string (bH (Ry (xa,xb,xm))):=by rw [←Rz];exact hF 13 (by decide)
    have e3:a.tmps[3]?.getD undef= .pointer (some ⟨w1.heap.size,0,none⟩):=hB.2.2 3 rfl
    refine ⟨rfl,_,_,by simp [go_sem,e13,e3];exact ⟨rfl,rfl⟩,?_⟩
    have hl3:=LO (x:=(xa,xb,xm)) ⟨⟨hxa,hxb⟩,hxm⟩
    refine (vx w1.heap.size w1.heap.size _ _ wx (yT FL I) (by rw [Lib.byteCells_length,iC];omega) (by have:=I.size;simp at this;omega)).mono ?_
    rintro e w6 ⟨rfl,F6,h6⟩
    refine ⟨_,rfl,?_⟩
    have b6:=(aX I HL (by omega)).trans h6
    rw [Lib.strCells_eq,iB,←Lib.byteCells_append,←HA.out] at F6
    have HF6:=Lib.hid F6
    have HB6:=Lib.hid b6
    rw [NB hB]
    simp only [List.foldl]
    generalize sl a 20=v20
    generalize sl a 21=v21
    generalize sl a 22=v22
    generalize sl a 23=v23
    generalize sl a 24=v24
    generalize sl a 25=v25
    generalize sl a 26=v26
    generalize sl a 27=v27
    generalize sl a 28=v28
    generalize sl a 29=v29
    generalize sl a 30=v30
    generalize sl a 31=v31
    generalize sl a 32=v32
    generalize sl a 33=v33
    generalize sl a 34=v34
    clear hB hF e13 e3 F6 b6 h6 I BL FL bL HL g0 g1 g2 br HF HB
    go_simp
    go_wp2
    go_roundw
    case rel=>exact ⟨k+1,hlt,by go_num,HF6,HB6⟩
    case measure=>simp [intOf];omega
  ·obtain rfl:k=ls.length:=by omega
   have HF':=HF.out
   rw [Nu] at HF'
   have b4:Below w.heap.size w wr:=b3.trans (HB.out.mono s1)
   have zw:w1.heap.size≤wr.heap.size:=by have:=HB.out.size;omega
   go_wp2_with fail
   refine (Tryz.Builder_String_any_k w1.heap.size w1.heap.size _ wr HF' zw).mono ?_
   rintro e w7 ⟨rfl,_,h7,_⟩
   have b7:=b4.trans (h7.mono s1)
   clear h7 HF' HF HB
   go_wp2
   exact bodyPost_ret (v:=.string (bH (LR b ls))) (by simp [results,Tryz.results42,go_sem, *];rfl) rfl ⟨rfl,b7⟩
theorem Gj {own:Bool} (co:CallOk Tryz.prog 42) (hN:bD Tryz.prog ⟨100,[.g [.int .i64,.sl .ro 77 Jc]],[.o .b],own,fun x=>aC x.1 x.2⟩):bD Tryz.prog ⟨42,[.g [.int .i64,.sl .ro 77 Jc]],[.o .s],false,fun x=>bF x.1 x.2⟩:=⟨co,fun x res hm e w0 w X hbs hp hS=>by
 obtain ⟨b,ls⟩:=x
 have hm:bF b ls=some res:=hm
 obtain ⟨v0,r0,q0,l0,p1⟩:=hp
 obtain ⟨v1,r1,q1,l1,p2⟩:=p1
 replace q1:=(List.tail_eq_of_cons_eq q0).trans q1
 obtain ⟨z1,m1,hro1⟩:=l1
 replace m1:=(List.head_eq_of_cons_eq q1).trans m1
 injection m1 with _ m1
 subst m1
 have R:Rc w 3 (e.a 1) ls.length (e.c 1) (ls.flatMap Jc.enc):=hro1 w _ hS (fun y hy=>List.mem_append_right _ hy)
 have hbs1:=tm hbs hS.below
 have key:Calls Tryz.prog 42 #[.agg #[.int .i64 b,.slice (e.a 1) ls.length (e.c 1)]] w (FN w res):=by
  unfold bF at hm
  obtain ⟨p,hp,hm⟩:=pQ hm
  cases p with
  |false=>
   injection hm with hm
   subst hm
   exact MV hN hbs1 R hp
  |true=>
   obtain ⟨hb,hm⟩:=cv hm
   injection hm with hm
   subst hm
   exact Pp hN hbs1 R hp hb
 refine Calls.mono key ?_
 rintro en w' ⟨rfl,hb⟩
 exact ⟨[_],[],rfl,⟨[_],[],[],[],[],[],rfl,rfl,⟨_,[],_,[],[],[],rfl,rfl,rfl,⟨_,rfl,rfl,rfl⟩,rfl,rfl,rfl⟩,⟨rfl,rfl⟩,⟨[],[],[],[],rfl,rfl,⟨rfl,rfl⟩,⟨rfl,rfl⟩⟩⟩,hS.quiet hb⟩⟩
theorem Hj {x0:Value} {w:World} (h0:x0.cells= #[x0]):(Instr.build 117 [(0,x0)].toArray).run Tryz.prog w= .ok (.agg #[x0,.int .i64 0]) w:=by unfold Value.cells at h0;simp [go_sem,h0]
theorem VR:CallOk Tryz.prog 10:=⟨by kernel_rfl⟩
theorem SO:CallOk Tryz.prog 100:=⟨by kernel_rfl⟩
theorem SP:CallOk Tryz.prog 101:=⟨by kernel_rfl⟩
theorem SQ:CallOk Tryz.prog 103:=⟨by kernel_rfl⟩
theorem SR:CallOk Tryz.prog 105:=⟨by kernel_rfl⟩
theorem SS:CallOk Tryz.prog 106:=⟨by kernel_rfl⟩
theorem ST:CallOk Tryz.prog 107:=⟨by kernel_rfl⟩
theorem SU:CallOk Tryz.prog 108:=⟨by kernel_rfl⟩
theorem SW:CallOk Tryz.prog 109:=⟨by kernel_rfl⟩
theorem VS:CallOk Tryz.prog 11:=⟨by kernel_rfl⟩
theorem SX:CallOk Tryz.prog 110:=⟨by kernel_rfl⟩
theorem SY:CallOk Tryz.prog 111:=⟨by kernel_rfl⟩
theorem SZ:CallOk Tryz.prog 112:=⟨by kernel_rfl⟩
theorem Ta:CallOk Tryz.prog 113:=⟨by kernel_rfl⟩
theorem Tb:CallOk Tryz.prog 114:=⟨by kernel_rfl⟩
theorem Tc:CallOk Tryz.prog 115:=⟨by kernel_rfl⟩
theorem Td:CallOk Tryz.prog 116:=⟨by kernel_rfl⟩
theorem Te:CallOk Tryz.prog 118:=⟨by kernel_rfl⟩
theorem Tf:CallOk Tryz.prog 119:=⟨by kernel_rfl⟩
theorem VT:CallOk Tryz.prog 12:=⟨by kernel_rfl⟩
theorem Tg:CallOk Tryz.prog 120:=⟨by kernel_rfl⟩
theorem Ti:CallOk Tryz.prog 121:=⟨by kernel_rfl⟩
theorem Tj:CallOk Tryz.prog 122:=⟨by kernel_rfl⟩
theorem Tk:CallOk Tryz.prog 123:=⟨by kernel_rfl⟩
theorem Tl:CallOk Tryz.prog 124:=⟨by kernel_rfl⟩
theorem Tm:CallOk Tryz.prog 125:=⟨by kernel_rfl⟩
theorem VU:CallOk Tryz.prog 13:=⟨by kernel_rfl⟩
theorem Tn:CallOk Tryz.prog 130:=⟨by kernel_rfl⟩
theorem To:CallOk Tryz.prog 136:=⟨by kernel_rfl⟩
theorem Tp:CallOk Tryz.prog 137:=⟨by kernel_rfl⟩
theorem Tq:CallOk Tryz.prog 138:=⟨by kernel_rfl⟩
theorem Tr:CallOk Tryz.prog 139:=⟨by kernel_rfl⟩
theorem VV:CallOk Tryz.prog 14:=⟨by kernel_rfl⟩
theorem Ts:CallOk Tryz.prog 140:=⟨by kernel_rfl⟩
theorem Tt:CallOk Tryz.prog 143:=⟨by kernel_rfl⟩
theorem Tu:CallOk Tryz.prog 144:=⟨by kernel_rfl⟩
theorem VW:CallOk Tryz.prog 16:=⟨by kernel_rfl⟩
theorem Tv:CallOk Tryz.prog 162:=⟨by kernel_rfl⟩
theorem Tw:CallOk Tryz.prog 163:=⟨by kernel_rfl⟩
theorem Tx:CallOk Tryz.prog 164:=⟨by kernel_rfl⟩
theorem Ty:CallOk Tryz.prog 165:=⟨by kernel_rfl⟩
theorem Tz:CallOk Tryz.prog 168:=⟨by kernel_rfl⟩
theorem TA:CallOk Tryz.prog 169:=⟨by kernel_rfl⟩
theorem TB:CallOk Tryz.prog 170:=⟨by kernel_rfl⟩
theorem TC:CallOk Tryz.prog 171:=⟨by kernel_rfl⟩
theorem TD:CallOk Tryz.prog 172:=⟨by kernel_rfl⟩
theorem TE:CallOk Tryz.prog 173:=⟨by kernel_rfl⟩
theorem TH:CallOk Tryz.prog 174:=⟨by kernel_rfl⟩
theorem TJ:CallOk Tryz.prog 175:=⟨by kernel_rfl⟩
theorem TK:CallOk Tryz.prog 179:=⟨by kernel_rfl⟩
theorem TL:CallOk Tryz.prog 180:=⟨by kernel_rfl⟩
theorem TM:CallOk Tryz.prog 181:=⟨by kernel_rfl⟩
theorem TN:CallOk Tryz.prog 182:=⟨by kernel_rfl⟩
theorem TO:CallOk Tryz.prog 183:=⟨by kernel_rfl⟩
theorem TP:CallOk Tryz.prog 185:=⟨by kernel_rfl⟩
theorem TQ:CallOk Tryz.prog 186:=⟨by kernel_rfl⟩
theorem VX:CallOk Tryz.prog 19:=⟨by kernel_rfl⟩
theorem TT:CallOk Tryz.prog 190:=⟨by kernel_rfl⟩
theorem TU:CallOk Tryz.prog 194:=⟨by kernel_rfl⟩
theorem TV:CallOk Tryz.prog 195:=⟨by kernel_rfl⟩
theorem TW:CallOk Tryz.prog 200:=⟨by kernel_rfl⟩
theorem TX:CallOk Tryz.prog 201:=⟨by kernel_rfl⟩
theorem TY:CallOk Tryz.prog 204:=⟨by kernel_rfl⟩
theorem TZ:CallOk Tryz.prog 205:=⟨by kernel_rfl⟩
theorem Ua:CallOk Tryz.prog 206:=⟨by kernel_rfl⟩
theorem Ub:CallOk Tryz.prog 207:=⟨by kernel_rfl⟩
theorem Uc:CallOk Tryz.prog 212:=⟨by kernel_rfl⟩
theorem Ud:CallOk Tryz.prog 213:=⟨by kernel_rfl⟩
theorem Ue:CallOk Tryz.prog 216:=⟨by kernel_rfl⟩
theorem Uf:CallOk Tryz.prog 217:=⟨by kernel_rfl⟩
theorem Ug:CallOk Tryz.prog 219:=⟨by kernel_rfl⟩
theorem Uh:CallOk Tryz.prog 232:=⟨by kernel_rfl⟩
theorem Ui:CallOk Tryz.prog 234:=⟨by kernel_rfl⟩
theorem VY:CallOk Tryz.prog 33:=⟨by kernel_rfl⟩
theorem VZ:CallOk Tryz.prog 34:=⟨by kernel_rfl⟩
theorem Wa:CallOk Tryz.prog 35:=⟨by kernel_rfl⟩
theorem Wb:CallOk Tryz.prog 36:=⟨by kernel_rfl⟩
theorem Wc:CallOk Tryz.prog 37:=⟨by kernel_rfl⟩
theorem We:CallOk Tryz.prog 38:=⟨by kernel_rfl⟩
theorem Wg:CallOk Tryz.prog 39:=⟨by kernel_rfl⟩
theorem Wh:CallOk Tryz.prog 40:=⟨by kernel_rfl⟩
theorem Wi:CallOk Tryz.prog 41:=⟨by kernel_rfl⟩
theorem Wj:CallOk Tryz.prog 42:=⟨by kernel_rfl⟩
theorem Wl:CallOk Tryz.prog 43:=⟨by kernel_rfl⟩
theorem Wm:CallOk Tryz.prog 44:=⟨by kernel_rfl⟩
theorem Wn:CallOk Tryz.prog 45:=⟨by kernel_rfl⟩
theorem Wo:CallOk Tryz.prog 46:=⟨by kernel_rfl⟩
theorem Wp:CallOk Tryz.prog 47:=⟨by kernel_rfl⟩
theorem Wq:CallOk Tryz.prog 48:=⟨by kernel_rfl⟩
theorem Wr:CallOk Tryz.prog 49:=⟨by kernel_rfl⟩
theorem Ws:CallOk Tryz.prog 50:=⟨by kernel_rfl⟩
theorem Wu:CallOk Tryz.prog 51:=⟨by kernel_rfl⟩
theorem Wv:CallOk Tryz.prog 52:=⟨by kernel_rfl⟩
theorem Ww:CallOk Tryz.prog 53:=⟨by kernel_rfl⟩
theorem Wx:CallOk Tryz.prog 54:=⟨by kernel_rfl⟩
theorem Wy:CallOk Tryz.prog 55:=⟨by kernel_rfl⟩
theorem Wz:CallOk Tryz.prog 61:=⟨by kernel_rfl⟩
theorem Uj:CallOk Tryz.prog 62:=⟨by kernel_rfl⟩
theorem WA:CallOk Tryz.prog 64:=⟨by kernel_rfl⟩
theorem WB:CallOk Tryz.prog 69:=⟨by kernel_rfl⟩
theorem WC:CallOk Tryz.prog 70:=⟨by kernel_rfl⟩
theorem WD:CallOk Tryz.prog 71:=⟨by kernel_rfl⟩
theorem XB:CallOk Tryz.prog 8:=⟨by kernel_rfl⟩
theorem XC:CallOk Tryz.prog 9:=⟨by kernel_rfl⟩
theorem WE:CallOk Tryz.prog 93:=⟨by kernel_rfl⟩
theorem WF:CallOk Tryz.prog 94:=⟨by kernel_rfl⟩
theorem WG:CallOk Tryz.prog 95:=⟨by kernel_rfl⟩
theorem WH:CallOk Tryz.prog 96:=⟨by kernel_rfl⟩
theorem WI:CallOk Tryz.prog 97:=⟨by kernel_rfl⟩
theorem WJ:CallOk Tryz.prog 98:=⟨by kernel_rfl⟩
theorem WK:CallOk Tryz.prog 99:=⟨by kernel_rfl⟩
theorem Rp:(Tryz.prog.info? 122).map (fun i=>(i.zero,i.size,i.bytes))=some (some (.agg #[.int .i64 0,.int .i64 0]),2,16):=by kernel_rfl
theorem LC:(Tryz.prog.info? 125).map (fun i=>(i.zero,i.size,i.bytes))=some (some (.agg #[.int .i64 0,.int .i64 0]),2,16):=by kernel_rfl
theorem UT:(Tryz.prog.info? 3).map (fun i=>(i.zero,i.size,i.bytes))=some (some (.int .i64 0),1,8):=by kernel_rfl
theorem WX:(Tryz.prog.info? 4).map (fun i=>(i.zero,i.size,i.bytes))=some (some (.bool false),1,1):=by kernel_rfl
theorem UU:(Tryz.prog.info? 77).map (fun i=>(i.zero,i.size,i.bytes))=some (some (.agg #[.int .i64 0,.int .i64 0,.int .i64 0]),3,24):=by kernel_rfl
theorem Vx:(Tryz.prog.info? 122).map (·.size)=some 2:=by kernel_rfl
theorem zE:(Tryz.prog.info? 125).map (·.size)=some 2:=by kernel_rfl
theorem SH:(Tryz.prog.info? 3).map (·.size)=some 1:=by kernel_rfl
theorem XU:(Tryz.prog.info? 4).map (·.size)=some 1:=by kernel_rfl
theorem XV:(Tryz.prog.info? 5).map (·.size)=some 1:=by kernel_rfl
theorem Xj:(Tryz.prog.info? 77).map (·.size)=some 3:=by kernel_rfl
theorem Ur:Tryz.prog.eqGuardType Tryz.prog.depth 122=false:=by kernel_rfl
theorem Ut {a0 b0:Int} {a1 b1:Int} {w:World}:(Op.equalIn 10000 122 (.agg #[.int .i64 a0,.int .i64 a1]) (.agg #[.int .i64 b0,.int .i64 b1])).run Tryz.prog w= .ok ((a0==b0)&&(a1==b1)) w:=by
 simp [go_sem]
 (repeat' split)<;>simp_all
theorem Us:Tryz.prog.eqGuardType Tryz.prog.depth 125=false:=by kernel_rfl
theorem Uu {a0 b0:Int} {a1 b1:Int} {w:World}:(Op.equalIn 10000 125 (.agg #[.int .i64 a0,.int .i64 a1]) (.agg #[.int .i64 b0,.int .i64 b1])).run Tryz.prog w= .ok ((a0==b0)&&(a1==b1)) w:=by
 simp [go_sem]
 (repeat' split)<;>simp_all
theorem WL:Tryz.prog.eqGuardType Tryz.prog.depth 77=false:=by kernel_rfl
theorem WM {a0 b0:Int} {a1 b1:Int} {a2 b2:Int} {w:World}:(Op.equalIn 10000 77 (.agg #[.int .i64 a0,.int .i64 a1,.int .i64 a2]) (.agg #[.int .i64 b0,.int .i64 b1,.int .i64 b2])).run Tryz.prog w= .ok ((a0==b0)&&(a1==b1)&&(a2==b2)) w:=by
 simp [go_sem]
 (repeat' split)<;>simp_all
noncomputable section
def Xv:List (Nat×TyI):=[(3,⟨.int .i64,1,8,[.int .i64 0],(.int .i64)⟩),(4,⟨.bo,1,1,[.bool false],.b⟩),(5,⟨.int .u8,1,1,[.int .u8 0],(.int .u8)⟩),(9,⟨.st,1,16,[.str ByteArray.empty],.s⟩),(22,⟨.sl 5,1,24,[.ns],.b⟩),(23,⟨.sl 77,1,24,[.ns],.b⟩),(25,⟨.ag [(0,1),(1,1)],2,32,[.int .i64 0,.ns],.b⟩),(26,⟨.sl 122,1,24,[.ns],.b⟩),(27,⟨.sl 4,1,24,[.ns],.b⟩),(28,⟨.sl 125,1,24,[.ns],.b⟩),(30,⟨.ag [(0,1),(1,1),(2,1)],3,72,[.ns,.ns,.ns],.b⟩),(31,⟨.sl 3,1,24,[.ns],.b⟩),(33,⟨.ag [(0,2),(2,1),(3,3),(6,1)],7,152,[.int .i64 0,.ns,.ns,.ns,.ns,.ns,.ns],.b⟩),(34,⟨.sl 9,1,24,[.ns],.b⟩),(49,⟨.sl 210,1,24,[.ns],.b⟩),(51,⟨.ag [(0,1),(1,1)],2,32,[.int .i64 0,.ns],.b⟩),(52,⟨.sl 185,1,24,[.ns],.b⟩),(53,⟨.sl 212,1,24,[.ns],.b⟩),(55,⟨.ag [(0,1),(1,1),(2,1)],3,72,[.ns,.ns,.ns],.b⟩),(57,⟨.ag [(0,2),(2,1),(3,3),(6,1)],7,152,[.int .i64 0,.ns,.ns,.ns,.ns,.ns,.ns],.b⟩),(65,⟨.ot,1,8,[.np],.b⟩),(77,⟨.ag [(0,1),(1,1),(2,1)],3,24,[.int .i64 0,.int .i64 0,.int .i64 0],(.p (.int .i64) (.p (.int .i64) (.int .i64)))⟩),(82,⟨.sl 86,1,24,[.ns],.b⟩),(86,⟨.ag [(0,1),(1,1),(2,1)],3,24,[.int .i64 0,.int .i64 0,.int .i64 0],(.p (.int .i64) (.p (.int .i64) (.int .i64)))⟩),(117,⟨.ag [(0,1),(1,1)],2,32,[.ns,.int .i64 0],.b⟩),(122,⟨.ag [(0,1),(1,1)],2,16,[.int .i64 0,.int .i64 0],(.p (.int .i64) (.int .i64))⟩),(125,⟨.ag [(0,1),(1,1)],2,16,[.int .i64 0,.int .i64 0],(.p (.int .i64) (.int .i64))⟩),(140,⟨.ar 8 3,8,64,[.int .i64 0,.int .i64 0,.int .i64 0,.int .i64 0,.int .i64 0,.int .i64 0,.int .i64 0,.int .i64 0],.b⟩),(142,⟨.ag [(0,8),(8,8)],16,128,[.int .i64 0,.int .i64 0,.int .i64 0,.int .i64 0,.int .i64 0,.int .i64 0,.int .i64 0,.int .i64 0,.int .i64 0,.int .i64 0,.int .i64 0,.int .i64 0,.int .i64 0,.int .i64 0,.int .i64 0,.int .i64 0],(.p (.int .i64) (.p (.int .i64) (.p (.int .i64) (.p (.int .i64) (.p (.int .i64) (.p (.int .i64) (.p (.int .i64) (.p (.int .i64) (.p (.int .i64) (.p (.int .i64) (.p (.int .i64) (.p (.int .i64) (.p (.int .i64) (.p (.int .i64) (.p (.int .i64) (.int .i64))))))))))))))))⟩),(145,⟨.ag [(0,2),(2,1),(3,1),(4,1)],5,104,[.int .i64 0,.ns,.ns,.ns,.ns],.b⟩),(151,⟨.ar 3 3,3,24,[.int .i64 0,.int .i64 0,.int .i64 0],.b⟩),(153,⟨.sl 157,1,24,[.ns],.b⟩),(157,⟨.ag [(0,1),(1,1)],2,16,[.int .i64 0,.bool false],(.p (.int .i64) .b)⟩),(185,⟨.ag [(0,1),(1,1)],2,16,[.int .i64 0,.int .i64 0],(.p (.int .i64) (.int .i64))⟩),(195,⟨.sl 3,1,24,[.ns],.b⟩),(210,⟨.ag [(0,1),(1,1),(2,1)],3,24,[.int .i64 0,.int .i64 0,.int .i64 0],(.p (.int .i64) (.p (.int .i64) (.int .i64)))⟩),(212,⟨.ag [(0,1),(1,1)],2,16,[.int .i64 0,.int .i64 0],(.p (.int .i64) (.int .i64))⟩),(227,⟨.int .u64,1,8,[.int .u64 0],.b⟩)]
theorem Su:FB Tryz.prog Xv=true:=by kernel_rfl
def Xp:List (Nat×EK):=[(77,(.p (.int .i64) (.p (.int .i64) (.int .i64)))),(122,(.p (.int .i64) (.int .i64))),(125,(.p (.int .i64) (.int .i64)))]
theorem wN {x0:List Int} {A0:Option Addr} {n0 c0:Nat} {w:World} (h0:Rt w 1 eU A0 n0 c0 x0):
 Calls Tryz.prog 32 #[.slice A0 n0 c0] w (fun e w'=> ∃G0,e= .returned (.pointer (some ⟨G0,0,none⟩))∧St w w' [.box G0 117 #[.slice (SE c0 n0 A0) (x0.take 2000).length c0,.int .i64 0]]):=by
 obtain rfl:=h0.len
 refine lM Tryz.func32 Tryz.ntmps32 rfl [(0,.slice A0 x0.length c0)] ⟨rfl,trivial⟩ rfl ?_
 intro a hF
 have S:=St.nil w
 refine wp_seq ?_
 refine wp_region_lit ?_
 refine af (v:=.pointer none) rfl rfl hF rfl (ax rfl rfl) ?_;clear hF;intro a hF
 refine wpList_nil ?_
 refine wp_seq ?_
 refine wp_seq ?_
 refine wp_region_lit ?_
 refine af (v:=.slice A0 x0.length c0) rfl rfl hF rfl (aj rfl (hF.ev rfl)) ?_;clear hF;intro a hF
 refine af (v:=.int .i64 (x0.length:Int)) rfl rfl hF rfl (iL rfl rfl Tryz.underlying22 (hF.ev rfl)) ?_;clear hF;intro a hF
 refine af (v:=.bool (am 2000 (x0.length:Int))) rfl rfl hF rfl (Iz (hF.ev rfl) rfl rfl) ?_;clear hF;intro a hF
 refine wpList_nil ?_
 cases hc101:(am 2000 (x0.length:Int))
 ·have hc101_:=hc101
  refine qL hF rfl hc101 ?_
  refine wp_skip ?_
  refine wp_seq ?_
  refine wp_region_lit ?_
  refine af (v:=.slice A0 x0.length c0) rfl rfl hF rfl (aj rfl (hF.ev rfl)) ?_;clear hF;intro a hF
  refine af (v:=.agg #[.slice A0 x0.length c0,.int .i64 0]) rfl rfl hF rfl (zC (vs:=[(0,.slice A0 x0.length c0)]) rfl ⟨⟨rfl,(hF.ev rfl)⟩,trivial⟩ (Hj rfl)) ?_;clear hF;intro a hF
  refine Mb (cs:= #[.slice A0 x0.length c0,.int .i64 0]) rfl rfl hF rfl S (Da rfl (hF.ev rfl) rfl) ?_;clear hF S;intro a g102 u hF S
  refine af (v:=.pointer (some ⟨g102,0,none⟩)) rfl rfl hF rfl (ax rfl (hF.ev rfl)) ?_;clear hF;intro a hF
  refine wpList_nil ?_
  refine wp_ret ?_
  repeat with_reducible (first |refine dB ?_ |refine jc ?_ |refine jb ?_)
  refine fR (.inl rfl) hF rfl (fp (hF.ev rfl)) ?_
  have q1:=EE hc101
  rw [SE,if_neg (by omega),List.take_of_length_le (by omega)]
  exact ⟨g102,rfl,S.sel [0] rfl rfl⟩
 ·have hc101_:=hc101
  refine qM hF rfl hc101 ?_
  refine wp_region_lit ?_
  refine af (v:=.slice A0 x0.length c0) rfl rfl hF rfl (aj rfl (hF.ev rfl)) ?_;clear hF;intro a hF
  have hk103:=mb (show sU 0 2000 x0.length=true by have:=tO hc101;simp [sU];omega)
  refine af (v:=.slice (bm c0 ((0:Int).toNat) 1 A0) ((ac x0 0 2000).length) (c0-(0:Int).toNat)) rfl rfl hF rfl (qe (l:=x0) rfl Tryz.underlying22 XV (hF.ev rfl) rfl hk103 rfl (S.rc0 h0.rc).cap) ?_;clear hF;intro a hF
  refine af (v:=.slice (bm c0 ((0:Int).toNat) 1 A0) ((ac x0 0 2000).length) (c0-(0:Int).toNat)) rfl rfl hF rfl (ax rfl (hF.ev rfl)) ?_;clear hF;intro a hF
  refine wpList_nil ?_
  refine wp_seq ?_
  refine wp_region_lit ?_
  refine af (v:=.slice (bm c0 ((0:Int).toNat) 1 A0) ((ac x0 0 2000).length) (c0-(0:Int).toNat)) rfl rfl hF rfl (aj rfl (hF.ev rfl)) ?_;clear hF;intro a hF
  refine af (v:=.agg #[.slice (bm c0 ((0:Int).toNat) 1 A0) ((ac x0 0 2000).length) (c0-(0:Int).toNat),.int .i64 0]) rfl rfl hF rfl (zC (vs:=[(0,.slice (bm c0 ((0:Int).toNat) 1 A0) ((ac x0 0 2000).length) (c0-(0:Int).toNat))]) rfl ⟨⟨rfl,(hF.ev rfl)⟩,trivial⟩ (Hj rfl)) ?_;clear hF;intro a hF
  refine Mb (cs:= #[.slice (bm c0 ((0:Int).toNat) 1 A0) ((ac x0 0 2000).length) (c0-(0:Int).toNat),.int .i64 0]) rfl rfl hF rfl S (Da rfl (hF.ev rfl) rfl) ?_;clear hF S;intro a g104 u hF S
  refine af (v:=.pointer (some ⟨g104,0,none⟩)) rfl rfl hF rfl (ax rfl (hF.ev rfl)) ?_;clear hF;intro a hF
  refine wpList_nil ?_
  refine wp_ret ?_
  repeat with_reducible (first |refine dB ?_ |refine jc ?_ |refine jb ?_)
  refine fR (.inl rfl) hF rfl (fp (hF.ev rfl)) ?_
  have q1:=tO hc101
  rw [SE,if_pos (by omega),MT]
  exact ⟨g104,rfl,S.sel [0] rfl rfl⟩
def Xb:List (Nat×Nat):=[(32,117)]
theorem RM:DG Tryz.prog Xb:=⟨OM ⟨by kernel_rfl⟩ wN,trivial⟩
theorem QL:Nr Tryz.prog Xp:=⟨⟨WL,fun w x y=>WM⟩,⟨Ur,fun w x y=>Ut⟩,⟨Us,fun w x y=>Uu⟩,trivial⟩
theorem ck {c:Ctr} {fn:Func} {body:Code} {n:Nat} (cs:List Ctr) (rv:List ResultVar) (crt:Crt) (hcs:Nq Tryz.prog cs) (hco:CallOk Tryz.prog c.f) (hf:Tryz.prog.funcs[c.f]?=some fn) (hn:fn.ntmps=n) (hb:fn.body=some body) (hr:fn.results=rv.toArray) (hal:(c.rs.flatMap RSh.ks).all (VQ (jK c.ps))=true) (he: ∀x,c.m x=VJ ⟨Xv,Xp,cs,Xb⟩ ⟨c.ps,c.rs,rv,n⟩ crt body x):bD Tryz.prog c:=XD (op:=Xb) Su QL rfl hcs RM hco hf hb hn hr hal he
abbrev Aa:EK:=.int .i64
abbrev Ab:P1:=.o .k
abbrev Ac:Crt:=.q .z .z
abbrev Ag:PK:=.int .i64
abbrev Ae:EK:=.p Aa Aa
abbrev AE:EK:=.p Aa Ae
abbrev Bj:PK:=.sl .ro 77 AE
abbrev Al:PK:=.sl .ro 4 .b
abbrev Bv:PK:=.sl .ro 125 Ae
abbrev AH:PK:=.sl .ro 3 Aa
abbrev Ad:Prm:=.g [Ag,Bj,.sl .ro 122 Ae,Al,Al,Bv,AH]
abbrev BM:Crt:=.q Ac .z
abbrev Af:Crt:=.q .z BM
abbrev Aq:P0:=.i .i64
abbrev Ah:P1:=.o Aq
abbrev As:RK:=.int .i64
abbrev AT:RK:=.row 4 .b
abbrev Bx:RK:=.row 125 Ae
abbrev Cd:RK:=.row 3 Aa
abbrev Ai:RSh:=.g [As,.row 77 AE,.row 122 Ae,AT,AT,Bx,Cd]
abbrev Aj:List P0:=[.k,.k,.k,.k,.k,.k,.k]
abbrev Ak:Prm:=.g [Ag,Bj]
abbrev BN:P0:=.r 122 Ae
abbrev AW:P0:=.r 4 .b
abbrev Cu:P0:=.r 125 Ae
abbrev Au:P0:=.r 3 Aa
abbrev Am:List P0:=[Aq,.r 77 AE,BN,AW,AW,Cu,Au]
abbrev Ao:Crt:=.q .z Ac
abbrev Ap:Nat×P1:=(4,Ab)
abbrev Av:Prm:=.o (.sl .ro 122 Ae)
abbrev AR:Nat×P1:=(5,Ab)
abbrev Bi:List P0:=[.k,.k,.k,.k,.k,.k,Au]
abbrev BA:Nat×List P0:=(4,Aj)
abbrev Az:Nat×P1:=(1,Ab)
abbrev AB:Nat×P1:=(2,Ab)
abbrev AD:Nat×P1:=(6,Ab)
abbrev Aw:Crt:=.q .z (.q .z (.q .z (.q (.q .z (.cut ⟨[Ap,AR],[(5,Bi),BA],[]⟩ [] (.b (.lp ⟨[Az,AB,Ap,AR,(6,Ah)],[(5,Bi),BA,(2,Aj)],[]⟩ (.q Ao (.q (.b (.q .z (.cut ⟨[Az,AB,Ap,AR,AD],[(5,Bi),BA,(2,Aj)],[]⟩ [] Ac))) .z)))))) Ac)))
abbrev BT:Crt:=.q (.b (.q .z Af)) .z
abbrev AA:Crt:=.q .z (.q Ac BT)
abbrev AC:List P0:=[.k,.k]
abbrev AF:Prm:=.o Ag
abbrev AG:Prm:=.g [Al,Al,Bv]
abbrev AI:RSh:=.o .b
abbrev AJ:List P0:=[.k,.k,.k,.k,.k,.k,.k,.k,.k,.k,.k,.k,.k,.k,.k,.k]
abbrev AK:List P0:=[.k,.k,.k]
abbrev AL:P0:=.w 3 Aa
abbrev Ba:Nat×P1:=(7,Ab)
abbrev Ca:Nat×P1:=(8,.o AW)
abbrev BP:Nat×List P0:=(4096,AC)
abbrev Cq:Nat×List P0:=(4,AC)
abbrev AM:Shp:=⟨[Ap,AR,AD,Ba,Ca,(9,.o BN)],[BP,(7,AC),Cq],[]⟩
abbrev AN:Crt:=.q .z (.q Ac (.q (.b Ac) .z))
abbrev AO:RSh:=.o Cd
abbrev BX:PK:=.sl .ro 5 (.int .u8)
abbrev AP:Prm:=.bx 117 [BX,Ag]
abbrev AQ:Prm:=.o Al
abbrev AS:P0:=.w 4 .b
abbrev AU:P1:=.o (.r 86 AE)
abbrev AV:Nat×List P0:=(4096,[.k,Aq])
abbrev AX:P1:=.o (.r 157 (.p Aa .b))
abbrev AY:List P0:=[.k,.k,.k,.k,.k]
abbrev AZ:Nat×P1:=(0,Ab)
abbrev Bb:Nat×P1:=(8,Ab)
abbrev Bc:Crt:=.q Ao (.q (.b Af) .z)
abbrev Bd:P1:=.o Au
abbrev BU:P1:=.o .b
abbrev BC:Crt:=.q .z (.q Ac Af)
abbrev Be:Crt:=.q Ac (.q .z (.q Ac (.q .z (.q (.q (.cut ⟨[(4,BU)],[],[]⟩ [] .z) .z) BC))))
abbrev Bf:Shp:=⟨[Ap,AR,AD],[(6,[AS,AS,Cu]),(4,AK)],[]⟩
abbrev Bg:Shp:=⟨[Ap,AR,AD],[(6,[.k,AS,Cu]),(4,AK)],[]⟩
abbrev Bh:Shp:=⟨[Ap,AR,AD],[(6,[.k,.k,Cu]),(4,AK)],[]⟩
abbrev Bl:Prm:=.g [Ag,Ag,Ag]
abbrev Bm:List (Nat×List P0):=[AV,(7,[.k,.r 77 AE]),Cq]
abbrev BQ:Nat×P1:=(9,Ab)
abbrev Bn:Shp:=⟨[Az,AB,Ap,Bb,BQ,(10,Ab),(13,.z 4 .b),(14,Ah),(15,Ah),(42,Ab),(43,Ab)],[Cq],[]⟩
abbrev Bo:Shp:=⟨[Ap],[],[]⟩
abbrev Bp:Nat×P1:=(3,Ab)
abbrev Bq:RSh:=.o As
abbrev Bt:PK:=.sl .mu 3 Aa
abbrev Bu:List (Nat×List P0):=[(4096,[.k,.k,AL,AL,Au])]
abbrev Bw:P1:=.o AL
abbrev By:List RSh:=[AI]
abbrev Bz:List Prm:=[Ak,AQ,Av]
abbrev BB:Crt:=.q .z Ao
abbrev BE:Crt:=.q .z (.q Af Ac)
abbrev BF:List Alt:=[.rt]
abbrev BG:P1:=.o AS
abbrev BH:Shp:=⟨[Ap,(5,Bd)],[],[]⟩
abbrev BI:Shp:=⟨[Ap,Bb],[BP,(8,[.k,.k,.w 122 Ae,AW,AW,.k,Au]),BA],[]⟩
abbrev BJ:Nat×P1:=(12,Ab)
abbrev BK:Prm:=.g [Ag,Bj,AH,AH,AH]
abbrev BO:Prm:=.o (.sl .ro 9 .s)
abbrev BR:RSh:=.o .s
abbrev BS:Nat×P1:=(13,Ab)
abbrev BV:List P0:=[Aq,Aq,Aq,Aq,Aq,Aq,Aq,Aq,Aq,Aq,Aq,Aq,Aq,Aq,Aq,Aq]
abbrev BW:P1:=.o (.w 5 (.int .u8))
abbrev BY:Shp:=⟨[AB],[],[]⟩
abbrev BZ:List (Nat×List P0):=[(3,AC)]
abbrev Cb:RSh:=.g [AT,AT,Bx]
abbrev Co:Nat×P1:=(7,Ah)
abbrev Cc:Shp:=⟨[AZ,Az,Ap,AR,AD,Co,(8,Ah)],[],[]⟩
abbrev Ce:P1:=.o (.w 9 .s)
abbrev Cf:Shp:=⟨[Az,Ap,(5,Bw),BJ,BS,(14,Ah)],[],[]⟩
abbrev Cg:Shp:=⟨[Az,Ap,(5,Bw),BJ,BS,(14,Ab)],[],[]⟩
abbrev Ch:Prm:=.o AH
abbrev Ci:List (Nat×List P0):=[(8,[Aq,.k,Au,Au,Au]),(6,AY)]
abbrev Cj:Prm:=.o (.sl .tk 3 Aa)
abbrev Ck:Crt:=.q .z (.q Af (.q .z (.q Af Ao)))
abbrev Cm:RSh:=.o AT
abbrev Cp:RSh:=.o (.row 86 AE)
abbrev Cr:RSh:=.o (.row 9 .s)
abbrev Cs:List (Nat×List P0):=[(1,Aj)]
def kE:Ctr:=⟨103,[AF],[BR],false,fun x=>bj x⟩
theorem mR:bD Tryz.prog kE:=Of (SQ)
def qE:Ctr:=⟨51,[.o .s,.o .s],[Cr],false,fun x=>ey x.1 x.2⟩
theorem vO:bD Tryz.prog qE:=Lh (Wu)
def nA:Ctr:=⟨122,[BO,.o .s],[BR],false,fun x=>cQ x.1 x.2⟩
theorem qS:bD Tryz.prog nA:=Og (Tj)
def xy (n:Nat):Ctr:=⟨62,[AF],[BR],false,fun x=>iz fu n x⟩
theorem wP: ∀n,bD Tryz.prog (xy n)
 |0=>⟨Uj,fun x res h=>by cases h⟩
 |n+1=>ck [xy n] [.tmp 2] (.q .z (.q Af (.q Af (.q Af Ac)))) ⟨wP n,trivial⟩ Uj Tryz.func62 Tryz.ntmps62 rfl rfl rfl fun _=>by kernel_rfl
def qB:Ctr:=⟨62,[AF],[BR],false,fun x=>cf x⟩
theorem vL:bD Tryz.prog qB:=Ji (wP 30)
def om:Ctr:=⟨165,[Ak,AF],By,false,fun x=>hZ x.1 x.2.1 x.2.2⟩
theorem tt:bD Tryz.prog om:=ck [] [.tmp 4] Ao trivial Ty Tryz.func165 Tryz.ntmps165 rfl rfl rfl fun _=>by kernel_rfl
def jn:Ctr:=⟨100,[Ak],By,false,fun x=>aC x.1 x.2⟩
theorem jl:bD Tryz.prog jn:=ck [om] [.tmp 2] (.q .z (.q Af (.q (.q .z (.cut BY BF (.b (.lp ⟨[Az,AB,(20,Ab),(21,Ab),(22,Ah)],[(1,AC)],[]⟩ AA)))) Ac))) ⟨tt,trivial⟩ SO Tryz.func100 Tryz.ntmps100 rfl rfl rfl fun _=>by kernel_rfl
def qw:Ctr:=⟨179,[.o .s],[Bq],false,fun x=>jw x⟩
theorem vG:bD Tryz.prog qw:=ck [] [.tmp 2] (.q .z (.q Af (.q .z (.q (.q .z (.cut ⟨[AB,(3,Ah)],[],[]⟩ BF (.b (.lp ⟨[AZ,AB,(3,Ah),(14,Ab),(15,Ah)],[],[]⟩ (.q .z (.q Ac (.q (.b (.q .z (.q Af .z))) .z))))))) Ac)))) trivial TK Tryz.func179 Tryz.ntmps179 rfl rfl rfl fun _=>by kernel_rfl
def ow:Ctr:=⟨118,[.o .s],[Bq,AI],false,fun x=>az x⟩
theorem nP:bD Tryz.prog ow:=ck [qw,kE] [.tmp 2,.tmp 3] BB ⟨vG,mR,trivial⟩ Te Tryz.func118 Tryz.ntmps118 rfl rfl rfl fun _=>by kernel_rfl
def nn:Ctr:=⟨42,[Ak],[BR],false,fun x=>bF x.1 x.2⟩
theorem qO:bD Tryz.prog nn:=Gj (Wj) jl
def qz:Ctr:=⟨52,[BO],[.g [As,As,As],AI],false,fun x=>da x⟩
theorem vJ:bD Tryz.prog qz:=Ep (Wv) nP
def bU:Ctr:=⟨34,[AP,AF],[Bq],true,fun x=>ab x.1 x.2.1 x.2.2⟩
theorem cV:bD Tryz.prog bU:=ck [] [.tmp 4] (.q .z (.q .z (.q Af (.q .z (.q Af BB))))) trivial VZ Tryz.func34 Tryz.ntmps34 rfl rfl rfl fun _=>by kernel_rfl
def iP:Ctr:=⟨36,[AP,AF],By,true,fun x=>bO x.1 x.2.1 x.2.2⟩
theorem lu:bD Tryz.prog iP:=ck [bU] [.tmp 4] (.q .z (.q (.cut ⟨[(4,BU)],[AV],[]⟩ [] .z) .z)) ⟨cV,trivial⟩ Wb Tryz.func36 Tryz.ntmps36 rfl rfl rfl fun _=>by kernel_rfl
def pG:Ctr:=⟨93,[AP,AF],[.g [As,.row 77 AE],Cm,.o (.row 122 Ae)],true,fun x=>iU x.1 x.2.1 x.2.2⟩
theorem uD:bD Tryz.prog pG:=ck [bU,iP] [.cell 4 25,.tmp 5,.tmp 6] (.q .z (.q .z (.q .z (.q .z (.q .z (.q (.q .z (.cut ⟨[AZ,Az,Ap,AR,AD,Ba,Ca,(9,.o BN)],Bm,[]⟩ [] (.b (.lp ⟨[AZ,Az,Ap,AR,AD,Ba,Ca,(9,.o BN),(10,Ab),(11,Ah)],Bm,[]⟩ (.q Ao (.q (.b (.q (.q .z (.cut ⟨[AZ,Az,Ap,AR,AD,Ba,Ca,BQ,(10,Ab),(11,Ab)],Bm,[]⟩ [] (.q (.q .z (.cut ⟨[AZ,Az,Ap,AR,AD,Ba,Ca,BQ,(10,Ab),(11,Ab)],[AV,(7,AC),Cq],[]⟩ [] .z)) .z))) .z)) .z)))))) (.q (.q .z (.cut ⟨[AZ,Az,Ap,AR,AD,Ba,Ca,BQ],Bm,[]⟩ [] (.b (.lp ⟨[AZ,Az,Ap,AR,AD,Ba,Ca,BQ,(12,Ah)],Bm,[]⟩ (.q Ao (.q (.b Ao) .z)))))) (.q .z (.q (.q .z (.cut ⟨[AZ,Az,Ap,AR,AD,Ba,(8,BG),(9,.o (.w 122 Ae))],[AV,(7,AC),Cq],[]⟩ [] (.q Ao .z))) (.q (.q .z (.cut ⟨[Ap,AR,AD,Ba,Ca,(9,.o BN)],[AV,(7,AC),Cq],[]⟩ [] (.q (.q .z (.b (.q .z (.cut AM [] (.q Ac (.q .z (.cut AM [] (.q (.q .z (.cut ⟨[Ap,AR,AD,Ba,(8,BG),BQ],[BP,(7,AC),Cq],[]⟩ [] (.b (.lp ⟨[Ap,AR,AD,Ba,(8,BG),BQ,(15,Ah)],[BP,(7,AC),Cq],[]⟩ (.q Ao (.q (.b .z) .z)))))) (.q .z (.cut AM [] Ac)))))))))) .z))) Ac)))))))))) ⟨cV,lu,trivial⟩ WE Tryz.func93 Tryz.ntmps93 rfl rfl rfl fun _=>by kernel_rfl
def mD:Ctr:=⟨94,[AP,Ad],[.g [As,As,As]],true,fun x=>fP x.1 x.2.1 x.2.2.1 x.2.2.2.1 x.2.2.2.2.1 x.2.2.2.2.2.1 x.2.2.2.2.2.2.1 x.2.2.2.2.2.2.2.1 x.2.2.2.2.2.2.2.2⟩
theorem sa:bD Tryz.prog mD:=ck [bU] [.cell 4 86] (.q .z (.q .z (.q (.q (.cut ⟨[AZ,Bp,Ap,AR,(40,BU)],[AV,(5,AK),(4,AK),(3,Aj)],[]⟩ [] .z) (.q Ao .z)) Ac))) ⟨cV,trivial⟩ WF Tryz.func94 Tryz.ntmps94 rfl rfl rfl fun _=>by kernel_rfl
def dH:Ctr:=⟨39,[AF,AF,AF],By,false,fun x=>aw x.1 x.2.1 x.2.2⟩
theorem ez:bD Tryz.prog dH:=ck [] [.tmp 6] Ao trivial Wg Tryz.func39 Tryz.ntmps39 rfl rfl rfl fun _=>by kernel_rfl
def mf:Ctr:=⟨95,[Ak],By,false,fun x=>gN x.1 x.2⟩
theorem qk:bD Tryz.prog mf:=ck [dH] [.tmp 2] (.q .z (.q Af (.q (.q .z (.cut BY BF (.b (.lp ⟨[Az,AB,(3,Ah)],[(1,AC)],[]⟩ (.q Ao BT))))) Ac))) ⟨ez,trivial⟩ WG Tryz.func95 Tryz.ntmps95 rfl rfl rfl fun _=>by kernel_rfl
def kz:Ctr:=⟨37,[Ak,Av],By,false,fun x=>fe x.1 x.2.1 x.2.2⟩
theorem nT:bD Tryz.prog kz:=ck [dH,mf] [.tmp 4] (.q .z (.q (.q .z (.cut ⟨[Az,AB,Ap],[(2,AC)],[]⟩ BF (.b (.lp ⟨[Az,AB,Ap,(5,Ah)],[(2,AC)],[]⟩ Bc)))) Ac)) ⟨ez,qk,trivial⟩ Wc Tryz.func37 Tryz.ntmps37 rfl rfl rfl fun _=>by kernel_rfl
def kC:Ctr:=⟨96,[.o Bv,.g [Ag,Ag]],[Bq],false,fun x=>ga x.1 x.2.1 x.2.2⟩
theorem mP:bD Tryz.prog kC:=ck [] [.tmp 4] (.q .z (.q (.q .z (.cut Bo BF (.b (.lp ⟨[AZ,Bp,Ap,(5,Ah)],BZ,[]⟩ Bc)))) Ac)) trivial WH Tryz.func96 Tryz.ntmps96 rfl rfl rfl fun _=>by kernel_rfl
def iO:Ctr:=⟨38,[AG],By,false,fun x=>dN x.1 x.2.1 x.2.2⟩
theorem lr:bD Tryz.prog iO:=ck [dH,kC] [.tmp 2] (.q .z (.q Af (.q (.q .z (.cut ⟨[Az,AB],[(1,AK)],[]⟩ BF (.b (.lp ⟨[Az,AB,(3,Ah)],[(1,AK)],[]⟩ Bc)))) (.q (.q .z (.cut BY BF (.b (.lp ⟨[Az,AB,(4,Ah)],[(1,AK)],[]⟩ (.q Ao BT))))) Ac)))) ⟨ez,mP,trivial⟩ We Tryz.func38 Tryz.ntmps38 rfl rfl rfl fun _=>by kernel_rfl
def eD:Ctr:=⟨162,[Ak,AQ],By,false,fun x=>bZ x.1 x.2.1 x.2.2⟩
theorem gX:bD Tryz.prog eD:=ck [mf] [.tmp 4] Ao ⟨qk,trivial⟩ Tv Tryz.func162 Tryz.ntmps162 rfl rfl rfl fun _=>by kernel_rfl
def vp:Ctr:=⟨97,Bz,By,false,fun x=>oC x.1 x.2.1 x.2.2.1 x.2.2.2⟩
theorem DX:bD Tryz.prog vp:=ck [eD,kz] [.tmp 6] Ao ⟨gX,nT,trivial⟩ WI Tryz.func97 Tryz.ntmps97 rfl rfl rfl fun _=>by kernel_rfl
def oT:Ctr:=⟨190,[AQ],[Cm],false,fun x=>gS x⟩
theorem sn:bD Tryz.prog oT:=ck [] [.tmp 2] Ao trivial TT Tryz.func190 Tryz.ntmps190 rfl rfl rfl fun _=>by kernel_rfl
def oB:Ctr:=⟨200,[Ak,AQ,AF,.o .b],[Cm,AI],false,fun x=>ir x.1 x.2.1 x.2.2.1 x.2.2.2.1 x.2.2.2.2⟩
theorem tD:bD Tryz.prog oB:=ck [eD,oT,dH] [.tmp 8,.tmp 9] Ck ⟨gX,sn,ez,trivial⟩ TW Tryz.func200 Tryz.ntmps200 rfl rfl rfl fun _=>by kernel_rfl
def rn:Ctr:=⟨201,[Ak,AQ,AF],[Cm],false,fun x=>kS x.1 x.2.1 x.2.2.1 x.2.2.2⟩
theorem wZ:bD Tryz.prog rn:=ck [] [.tmp 6] (.q .z (.q .z (.q .z (.q (.q .z (.cut ⟨[AD,(7,BG)],[],[]⟩ [] (.b (.lp ⟨[Az,Bp,AD,(7,BG),(8,Ah)],BZ,[]⟩ (.q Ao (.q (.b (.q .z (.cut ⟨[Az,Bp,AD,(7,BG),Bb],BZ,[]⟩ [] (.b (.lp ⟨[Az,Bp,AD,(7,BG),Bb,(9,Ah)],BZ,[]⟩ (.q Ao (.q (.b (.q .z (.q .z (.cut ⟨[Az,Bp,AD,(7,BG),Bb,BQ],BZ,[]⟩ [] BM)))) .z))))))) .z)))))) Ac)))) trivial TX Tryz.func201 Tryz.ntmps201 rfl rfl rfl fun _=>by kernel_rfl
def ri:Ctr:=⟨164,[Ak,AQ,AF],[AO],false,fun x=>kO x.1 x.2.1 x.2.2.1 x.2.2.2⟩
theorem wV:bD Tryz.prog ri:=ck [eD,dH,rn] [.tmp 6] (.q .z (.q .z (.q Af (.q .z (.q (.q .z (.cut ⟨[AD,(7,Bd)],[],[]⟩ [] (.b (.lp ⟨[Bp,AD,(7,Bd),Bb,(9,Ah)],BZ,[]⟩ (.q Ao (.q (.b (.q .z (.cut ⟨[Bp,AD,(7,Bd),Bb,BQ],BZ,[]⟩ [] Ac))) .z)))))) Ac))))) ⟨gX,ez,wZ,trivial⟩ Tx Tryz.func164 Tryz.ntmps164 rfl rfl rfl fun _=>by kernel_rfl
def mI:Ctr:=⟨136,[Ch,AF],By,false,fun x=>fk x.1 x.2⟩
theorem pX:bD Tryz.prog mI:=ck [] [.tmp 4] (.q .z (.q (.q .z (.cut Bo BF (.b (.lp ⟨[AZ,Az,Ap,(5,Ah)],[],[]⟩ Bc)))) Ac)) trivial To Tryz.func136 Tryz.ntmps136 rfl rfl rfl fun _=>by kernel_rfl
def kA:Ctr:=⟨99,[Ak,AQ,AF,AF],By,false,fun x=>fg x.1 x.2.1 x.2.2.1 x.2.2.2.1 x.2.2.2.2⟩
theorem nU:bD Tryz.prog kA:=ck [ri,mI] [.tmp 8] Ao ⟨wV,pX,trivial⟩ WK Tryz.func99 Tryz.ntmps99 rfl rfl rfl fun _=>by kernel_rfl
def oA:Ctr:=⟨163,[Ak,AQ],[AO],false,fun x=>kN x.1 x.2.1 x.2.2⟩
theorem tC:bD Tryz.prog oA:=ck [eD,oB,kA] [.tmp 4] (.q .z (.q .z (.q (.q .z (.cut BH [] (.b (.lp ⟨[Az,AB,Ap,(5,Bd),(6,Ah)],[(2,AC)],[]⟩ (.q Ao (.q (.b (.q .z (.q .z (.cut ⟨[Az,AB,Ap,(5,Bd),AD],[(2,AC)],[]⟩ [] Ac)))) .z)))))) Ac))) ⟨gX,tD,nU,trivial⟩ Tw Tryz.func163 Tryz.ntmps163 rfl rfl rfl fun _=>by kernel_rfl
def qA:Ctr:=⟨98,[Ak,AQ],By,false,fun x=>jy x.1 x.2.1 x.2.2⟩
theorem vK:bD Tryz.prog qA:=ck [oA] [.tmp 4] Ao ⟨tC,trivial⟩ WJ Tryz.func98 Tryz.ntmps98 rfl rfl rfl fun _=>by kernel_rfl
def oS:Ctr:=⟨40,Bz,By,false,fun x=>gR x.1 x.2.1 x.2.2.1 x.2.2.2⟩
theorem sk:bD Tryz.prog oS:=ck [vp,qA,kA] [.tmp 6] (.q .z (.q Af (.q (.q .z (.cut ⟨[AD],[],[]⟩ BF (.b (.lp ⟨[Az,AB,Bp,AD,Co],BZ,[]⟩ (.q Ao (.q (.b (.q .z (.cut ⟨[Az,AB,Bp,AD,Ba],BZ,[]⟩ BF (.b (.lp ⟨[Az,AB,Bp,AD,Ba,(8,Ah)],BZ,[]⟩ Bc))))) .z)))))) Ac))) ⟨DX,vK,nU,trivial⟩ Wh Tryz.func40 Tryz.ntmps40 rfl rfl rfl fun _=>by kernel_rfl
def kB:Ctr:=⟨9,[Ad],By,false,fun x=>cX x.1 x.2.1 x.2.2.1 x.2.2.2.1 x.2.2.2.2.1 x.2.2.2.2.2.1 x.2.2.2.2.2.2⟩
theorem nV:bD Tryz.prog kB:=ck [kz,iO,dH,oS] [.tmp 2] (.q .z (.q Af (.q (.q .z (.cut ⟨[Az,AB],Cs,[]⟩ BF (.b (.lp ⟨[Az,AB,(3,Ah)],Cs,[]⟩ Bc)))) Ac))) ⟨nT,lr,ez,sk,trivial⟩ XC Tryz.func9 Tryz.ntmps9 rfl rfl rfl fun _=>by kernel_rfl
def nz:Ctr:=⟨130,[AG],[Cb],false,fun x=>iI x.1 x.2.1 x.2.2⟩
theorem qR:bD Tryz.prog nz:=ck [oT] [.cell 2 30] Ao ⟨sn,trivial⟩ Tn Tryz.func130 Tryz.ntmps130 rfl rfl rfl fun _=>by kernel_rfl
def kD:Ctr:=⟨61,[Ad],[Ai],false,fun x=>cP x.1 x.2.1 x.2.2.1 x.2.2.2.1 x.2.2.2.2.1 x.2.2.2.2.2.1 x.2.2.2.2.2.2⟩
theorem mQ:bD Tryz.prog kD:=ck [nz] [.cell 2 33] BB ⟨qR,trivial⟩ Wz Tryz.func61 Tryz.ntmps61 rfl rfl rfl fun _=>by kernel_rfl
def mg:Ctr:=⟨138,[AG,AF],[AO],false,fun x=>db x.1 x.2.1 x.2.2.1 x.2.2.2⟩
theorem ql:bD Tryz.prog mg:=ck [iO] [.tmp 4] (.q .z (.q .z (.q (.q .z (.cut BH [] (.b (.lp ⟨[Az,AB,Ap,(5,Bd),(6,Ah)],[(2,AK)],[]⟩ (.q Ao (.q (.b (.q .z (.cut ⟨[Az,AB,Ap,(5,Bd),AD],[(2,AK)],[]⟩ [] Ac))) .z)))))) Ac))) ⟨lr,trivial⟩ Tq Tryz.func138 Tryz.ntmps138 rfl rfl rfl fun _=>by kernel_rfl
def rm:Ctr:=⟨139,[Ad,AF],[Ai],false,fun x=>kR x.1 x.2.1 x.2.2.1 x.2.2.2.1 x.2.2.2.2.1 x.2.2.2.2.2.1 x.2.2.2.2.2.2.1 x.2.2.2.2.2.2.2⟩
theorem wY:bD Tryz.prog rm:=ck [kD] [.cell 4 33] Aw ⟨mQ,trivial⟩ Tr Tryz.func139 Tryz.ntmps139 rfl rfl rfl fun _=>by kernel_rfl
def qD:Ctr:=⟨137,[Ad,AF],[Ai],false,fun x=>jB x.1 x.2.1 x.2.2.1 x.2.2.2.1 x.2.2.2.2.1 x.2.2.2.2.2.1 x.2.2.2.2.2.2.1 x.2.2.2.2.2.2.2⟩
theorem vN:bD Tryz.prog qD:=ck [kD,mI] [.cell 4 33] (.q .z Aw) ⟨mQ,pX,trivial⟩ Tp Tryz.func137 Tryz.ntmps137 rfl rfl rfl fun _=>by kernel_rfl
def ss:Ctr:=⟨194,[AG,Bl],By,false,fun x=>lJ x.1 x.2.1 x.2.2.1 x.2.2.2.1 x.2.2.2.2.1 x.2.2.2.2.2⟩
theorem yB:bD Tryz.prog ss:=ck [kC,mg,dH] [.tmp 4] (.q .z (.q .z (.q (.q .z (.b (.q .z (.q Ac (.q .z Be))))) Ac))) ⟨mP,ql,ez,trivial⟩ TU Tryz.func194 Tryz.ntmps194 rfl rfl rfl fun _=>by kernel_rfl
def sq:Ctr:=⟨140,[AG,Bl],[Cb,AI],false,fun x=>jk x.1 x.2.1 x.2.2.1 x.2.2.2.1 x.2.2.2.2.1 x.2.2.2.2.2⟩
theorem yA:bD Tryz.prog sq:=ck [iO,nz,dH,ss,kC] [.cell 4 30,.tmp 5] (.q .z (.q Af (.q .z (.q Af (.q (.q .z (.b (.q .z (.cut Bf [] (.q .z (.q .z (.cut Bf [] (.q .z (.q .z (.cut Bg [] (.q .z (.q .z (.cut Bg [] (.q .z (.q .z (.cut Bh [] Ao)))))))))))))))) Ac))))) ⟨lr,qR,ez,yB,mP,trivial⟩ Ts Tryz.func140 Tryz.ntmps140 rfl rfl rfl fun _=>by kernel_rfl
def rj:Ctr:=⟨64,[Ad,Bl],[Ai,AI],false,fun x=>kP x.1 x.2.1 x.2.2.1 x.2.2.2.1 x.2.2.2.2.1 x.2.2.2.2.2.1 x.2.2.2.2.2.2.1 x.2.2.2.2.2.2.2.1 x.2.2.2.2.2.2.2.2.1 x.2.2.2.2.2.2.2.2.2⟩
theorem wW:bD Tryz.prog rj:=ck [kB,dH,kD,mI,qD,mg,rm,sq,oS] [.cell 4 33,.tmp 5] (.q .z (.q Af (.q Af (.q .z (.q (.b (.q .z (.q Ac (.q (.cut ⟨[AB,Bp,Ap,AR,AD,(42,BU)],[BA,(3,AK),(2,Aj)],[]⟩ [] .z) (.q Ac Af))))) (.q .z (.q .z (.q Af Ao)))))))) ⟨nV,ez,mQ,pX,vN,ql,wY,yA,sk,trivial⟩ WA Tryz.func64 Tryz.ntmps64 rfl rfl rfl fun _=>by kernel_rfl
def qC:Ctr:=⟨33,[AP,AF],[Ai],true,fun x=>jA x.1 x.2.1 x.2.2⟩
theorem vM:bD Tryz.prog qC:=ck [pG,bU,mD,rj,iP] [.cell 4 33] (.q .z (.q .z (.q .z (.q (.q .z (.cut ⟨[AZ,Az,Ap,Bb],[AV,(8,Am),BA],[]⟩ [] (.b (.lp ⟨[AZ,Az,Ap,Bb,(9,Ah)],[AV,(8,Am),BA],[]⟩ (.q Ao (.q (.b (.q .z (.q .z (.cut ⟨[AZ,Az,Ap,Bb,BQ],[BP,(8,Am),BA],[]⟩ [] Ac)))) .z)))))) (.q (.q .z (.cut ⟨[Ap,Bb],[AV,(8,[.k,.k,BN,AW,AW,.k,Au]),BA],[]⟩ [] (.q (.q .z (.b (.q .z (.cut ⟨[Ap,Bb],[BP,(8,[.k,.k,BN,AW,AW,.k,Au]),BA],[]⟩ [] (.q .z (.q .z (.cut BI [] (.q .z (.q .z (.cut BI [] (.q (.q .z (.cut ⟨[Ap,Bb],[BP,(8,Bi),BA],[]⟩ [] (.b (.lp ⟨[Ap,Bb,(12,Ah)],[BP,(8,Bi),BA],[]⟩ (.q Ao (.q (.b (.q .z (.cut ⟨[Ap,Bb,BJ],[BP,(8,Bi),BA],[]⟩ [] Ac))) .z)))))) (.q .z (.cut ⟨[Ap,Bb],[BP,(8,[.k,.k,.w 122 Ae,AW,AW,.k,.k]),BA],[]⟩ [] (.q Ac Ac)))))))))))))) .z))) Ac))))) ⟨uD,cV,sa,wW,lu,trivial⟩ VY Tryz.func33 Tryz.ntmps33 rfl rfl rfl fun _=>by kernel_rfl
def rl:Ctr:=⟨35,[AP,Ad],[BR],true,fun x=>kQ x.1 x.2.1 x.2.2.1 x.2.2.2.1 x.2.2.2.2.1 x.2.2.2.2.2.1 x.2.2.2.2.2.2.1 x.2.2.2.2.2.2.2.1 x.2.2.2.2.2.2.2.2⟩
theorem wX:bD Tryz.prog rl:=ck [bU,qB] [.tmp 4] (.q .z (.q .z (.q .z (.q (.q .z (.cut ⟨[AZ,Ap,(6,.o .s)],[AV],[]⟩ [] Ac)) (.q (.q .z (.b BC)) Ac))))) ⟨cV,vL,trivial⟩ Wa Tryz.func35 Tryz.ntmps35 rfl rfl rfl fun _=>by kernel_rfl
def ov:Ctr:=⟨143,[AF],By,false,fun x=>ic x⟩
theorem tx:bD Tryz.prog ov:=ck [] [.tmp 2] Ao trivial Tt Tryz.func143 Tryz.ntmps143 rfl rfl rfl fun _=>by kernel_rfl
def kg:Ctr:=⟨69,[Ak,Av],By,false,fun x=>eH x.1 x.2.1 x.2.2⟩
theorem nM:bD Tryz.prog kg:=ck [jn,ov] [.tmp 4] (.q .z (.q Af (.q (.q .z (.cut Bo BF (.b (.lp ⟨[Ap,(17,Ab),(18,Ab),(19,Ah)],[],[]⟩ AA)))) Ac))) ⟨jl,tx,trivial⟩ WB Tryz.func69 Tryz.ntmps69 rfl rfl rfl fun _=>by kernel_rfl
def bg:Ctr:=⟨195,[.o Bv,.g [Ag,Ag]],[Bq],false,fun x=>aG x.1 x.2.1 x.2.2⟩
theorem cF:bD Tryz.prog bg:=ck [] [.tmp 4] (.q .z (.q (.q .z (.cut Bo BF (.b (.lp ⟨[AZ,Bp,Ap,Ba,(8,Ah)],BZ,[]⟩ AA)))) Ac)) trivial TV Tryz.func195 Tryz.ntmps195 rfl rfl rfl fun _=>by kernel_rfl
def aO:Ctr:=⟨144,[.o Bv,.g [Ag,Ag]],By,false,fun x=>aq x.1 x.2.1 x.2.2⟩
theorem aZ:bD Tryz.prog aO:=ck [bg] [.tmp 4] Ao ⟨cF,trivial⟩ Tu Tryz.func144 Tryz.ntmps144 rfl rfl rfl fun _=>by kernel_rfl
def iN:Ctr:=⟨70,[AG],By,false,fun x=>dL x.1 x.2.1 x.2.2⟩
theorem lq:bD Tryz.prog iN:=ck [aO] [.tmp 2] (.q .z (.q Af (.q (.q .z (.cut ⟨[Az,AB],[(1,AK)],[]⟩ BF (.b (.lp ⟨[Az,AB,(33,Ab),(34,Ah)],[(1,AK)],[]⟩ AA)))) (.q (.q .z (.cut BY BF (.b (.lp ⟨[Az,AB,(51,Ab),(52,Ab),(53,Ah)],[(1,AK)],[]⟩ AA)))) Ac)))) ⟨aZ,trivial⟩ WC Tryz.func70 Tryz.ntmps70 rfl rfl rfl fun _=>by kernel_rfl
def bI:Ctr:=⟨45,[Ak,AF],By,false,fun x=>aH x.1 x.2.1 x.2.2⟩
theorem cw:bD Tryz.prog bI:=ck [] [.tmp 4] Ao trivial Wn Tryz.func45 Tryz.ntmps45 rfl rfl rfl fun _=>by kernel_rfl
def oo:Ctr:=⟨109,[Ak,AQ],By,false,fun x=>ia x.1 x.2.1 x.2.2⟩
theorem tv:bD Tryz.prog oo:=ck [jn] [.tmp 4] Ao ⟨jl,trivial⟩ SW Tryz.func109 Tryz.ntmps109 rfl rfl rfl fun _=>by kernel_rfl
def gL:Ctr:=⟨44,Bz,By,false,fun x=>cY x.1 x.2.1 x.2.2.1 x.2.2.2⟩
theorem jm:bD Tryz.prog gL:=ck [oo,kg] [.tmp 6] Ao ⟨tv,nM,trivial⟩ Wm Tryz.func44 Tryz.ntmps44 rfl rfl rfl fun _=>by kernel_rfl
def me:Ctr:=⟨204,[AF],[AO],false,fun x=>gM x⟩
theorem qj:bD Tryz.prog me:=ck [] [.tmp 2] (.q .z (.q .z (.q (.q .z (.cut ⟨[AB,(3,Bw)],[],[]⟩ [] (.b (.lp ⟨[AB,(3,Bw),Bb,(9,Ah)],[],[]⟩ AN)))) Ac))) trivial TY Tryz.func204 Tryz.ntmps204 rfl rfl rfl fun _=>by kernel_rfl
def eA:Ctr:=⟨170,[.o Bt,AF],[Bq],true,fun x=>bd x.1 x.2⟩
theorem gW:bD Tryz.prog eA:=ck [] [.tmp 4] (.q .z (.q (.cut ⟨[(1,Ah),Ap],[],[(0,Au)]⟩ [] (.b (.lp ⟨[(0,Bw),(1,Ah),Ap],[],[]⟩ (.q Ao (.b Ac))))) Ac)) trivial TB Tryz.func170 Tryz.ntmps170 rfl rfl rfl fun _=>by kernel_rfl
def oz:Ctr:=⟨206,[.o Bt,AF,AF],By,true,fun x=>io x.1 x.2.1 x.2.2⟩
theorem tB:bD Tryz.prog oz:=ck [eA] [.tmp 6] Ao ⟨gW,trivial⟩ Ua Tryz.func206 Tryz.ntmps206 rfl rfl rfl fun _=>by kernel_rfl
def kv:Ctr:=⟨205,[.o Bt,AF,AF],[],true,fun x=>fc x.1 x.2.1 x.2.2⟩
theorem nS:bD Tryz.prog kv:=ck [eA] [] Ac ⟨gW,trivial⟩ TZ Tryz.func205 Tryz.ntmps205 rfl rfl rfl fun _=>by kernel_rfl
def qx:Ctr:=⟨171,[Ak,AQ],By,false,fun x=>jx x.1 x.2.1 x.2.2⟩
theorem vH:bD Tryz.prog qx:=ck [me,oz,kv] [.tmp 4] (.q .z (.q .z (.q (.q .z (.cut Bo BF (.b (.lp Cf (.q .z (.q Ac (.q (.b (.q .z (.q .z (.cut Cg BF (.q (.q Af .z) .z))))) .z))))))) Ac))) ⟨qj,tB,nS,trivial⟩ TC Tryz.func171 Tryz.ntmps171 rfl rfl rfl fun _=>by kernel_rfl
def gY:Ctr:=⟨101,[Bl,AF],[Bq],false,fun x=>bV x.1 x.2.1 x.2.2.1 x.2.2.2⟩
theorem jX:bD Tryz.prog gY:=ck [] [.tmp 4] (.q .z (.q (.q .z (.b BC)) Ac)) trivial SP Tryz.func101 Tryz.ntmps101 rfl rfl rfl fun _=>by kernel_rfl
def nr:Ctr:=⟨172,[.bx 145 [Ag,Bj,Bt,Bt,Bt],AQ,AF],[],true,fun x=>gx x.1 x.2.1 x.2.2.1 x.2.2.2.1 x.2.2.2.2.1 x.2.2.2.2.2.1 x.2.2.2.2.2.2⟩
theorem sE:bD Tryz.prog nr:=ck [gY] [] (.q .z (.q .z (.cut ⟨[],Bu,[]⟩ [] (.b (.lp ⟨[AZ,Az,AB,(6,Ah)],Bu,[]⟩ (.q Ao (.q (.b (.q .z (.q .z (.cut ⟨[AZ,Az,AB,AD],Bu,[]⟩ [] (.b (.lp ⟨[AZ,Az,AB,AD,Ba,(46,Ab),(47,Ab),(48,Ah)],Bu,[]⟩ (.q .z (.q Ac (.q (.b (.q .z (.q .z (.q .z (.cut ⟨[AZ,Az,AB,AD,Ba,(46,Ab),(47,Ab),(48,Ab)],Bu,[]⟩ [] BM))))) .z))))))))) .z))))))) ⟨jX,trivial⟩ TD Tryz.func172 Tryz.ntmps172 rfl rfl rfl fun _=>by kernel_rfl
def lH:Ctr:=⟨111,Bz,[.g [As,.al 1,Cd,Cd,Cd],AI],false,fun x=>gQ x.1 x.2.1 x.2.2.1 x.2.2.2⟩
theorem oK:bD Tryz.prog lH:=ck [gL,qx,nr] [.cell 6 145,.tmp 7] (.q .z (.q Af (.q .z (.q (.q .z (.cut ⟨[Az,AB,AD,Ba,Bb],[(8,[.k,.k,AL,AL,.k]),(6,AY)],[]⟩ [] (.b (.lp ⟨[Az,AB,AD,Ba,Bb,(32,Ab),(33,Ah)],[(8,[.k,.k,AL,AL,.k]),(6,AY)],[]⟩ AN)))) (.q (.q .z (.cut ⟨[AD,Ba,Bb],Ci,[]⟩ BF (.b (.lp ⟨[Az,AD,Ba,Bb,(45,Ab),(46,Ab),(47,Ah)],Ci,[]⟩ (.q .z (.q Ac (.q (.cut ⟨[Az,AD,Ba,Bb,(45,Ab),(46,Ab),(47,Ab)],Ci,[]⟩ BF (.b (.q .z (.q Ao (.q Af Ac))))) .z))))))) Ac))))) ⟨jm,vH,sE,trivial⟩ SY Tryz.func111 Tryz.ntmps111 rfl rfl rfl fun _=>by kernel_rfl
def oQ:Ctr:=⟨71,Bz,By,false,fun x=>fw x.1 x.2.1 x.2.2.1 x.2.2.2⟩
theorem sh:bD Tryz.prog oQ:=ck [lH] [.tmp 6] BB ⟨oK,trivial⟩ WD Tryz.func71 Tryz.ntmps71 rfl rfl rfl fun _=>by kernel_rfl
def bB:Ctr:=⟨19,[Ad],By,false,fun x=>aT x.1 x.2.1 x.2.2.1 x.2.2.2.1 x.2.2.2.2.1 x.2.2.2.2.2.1 x.2.2.2.2.2.2⟩
theorem bT:bD Tryz.prog bB:=ck [kg,iN,bI,oQ] [.tmp 2] (.q .z (.q Af (.q (.q .z (.cut ⟨[Az,AB],Cs,[]⟩ BF (.b (.lp ⟨[Az,AB,(29,Ab),(30,Ab),(31,Ah)],Cs,[]⟩ AA)))) Ac))) ⟨nM,lq,cw,sh,trivial⟩ VX Tryz.func19 Tryz.ntmps19 rfl rfl rfl fun _=>by kernel_rfl
set_option maxHeartbeats 4000000 in
theorem jE {x0:List (Int×Int×Int)} {A0:Option Addr} {n0 c0:Nat} {w:World} {r:List (Int×Int×Int)} (h0:Rt w 3 Hw A0 n0 c0 x0) (hM:aQ x0=some r):
 Calls Tryz.prog 105 #[.slice A0 n0 c0] w (fun e w'=> ∃(B0:Option Addr) (N0 D0:Nat),e= .returned (.slice B0 N0 D0)∧N0=r.length∧St w w' [.row 77 3 (.slice B0 N0 D0) N0 (r.flatMap Hw)]):=by
 obtain rfl:=h0.len
 unfold aQ at hM
 obtain ⟨hk,hM⟩:=cv hM
 replace hk:=tg hk
 obtain rfl:=Option.some.inj hM
 refine lM Tryz.func105 Tryz.ntmps105 rfl [(0,.slice A0 x0.length c0)] ⟨rfl,trivial⟩ rfl ?_
 intro a hF
 have S:=St.nil w
 refine wp_seq ?_
 refine wp_region_lit ?_
 refine af (v:=.slice none 0 0) rfl rfl hF rfl (ax rfl rfl) ?_;clear hF;intro a hF
 refine wpList_nil ?_
 refine wp_seq ?_
 refine wp_seq ?_
 refine wp_region_lit ?_
 refine af (v:=.slice A0 x0.length c0) rfl rfl hF rfl (aj rfl (hF.ev rfl)) ?_;clear hF;intro a hF
 refine af (v:=.bool (Option.isNone A0)) rfl rfl hF rfl (lD rfl Tryz.underlying23 (hF.ev rfl) rfl) ?_;clear hF;intro a hF
 refine wpList_nil ?_
 cases hc101:(Option.isNone A0)
 ·have hx:=trivial
  refine qL hF rfl hc101 ?_
  refine wp_skip ?_
  refine wp_seq ?_
  refine wp_region_lit ?_
  refine pK (cs:= #[]) (size:=3) rfl rfl hF rfl S (gP rfl Tryz.underlying23 (congrArg Option.isSome Xj)) rfl (Nat.zero_le _) ?_;clear hF S;intro a g102 u hF S
  refine af (v:=.slice A0 x0.length c0) rfl rfl hF rfl (aj rfl (hF.ev rfl)) ?_;clear hF;intro a hF
  have hk105:=hk
  refine nC (lx:=[]) (ly:=x0) rfl rfl hF rfl S rfl (hF.ev rfl) (hF.ev rfl) (i:=0) rfl rfl Tryz.underlying23 UU rfl (by decide) (S.rc0 h0.rc).rd rfl Jd hk105 (by decide) ?_;clear hF S;intro a B103 d104 u hF S
  refine af (v:=.slice B103 ((([]:List (Int×Int×Int))++x0).length) d104) rfl rfl hF rfl (ax rfl (hF.ev rfl)) ?_;clear hF;intro a hF
  refine wpList_nil ?_
  refine wp_ret ?_
  repeat with_reducible (first |refine dB ?_ |refine jc ?_ |refine jb ?_)
  refine fR (.inl rfl) hF rfl (fp (hF.ev rfl)) ?_
  exact ⟨B103,((([]:List (Int×Int×Int))++x0).length),d104,rfl,rfl,S.sel [0] rfl rfl⟩
 ·have hx:=ry h0.rc.rd rfl hc101
  refine qM hF rfl hc101 ?_
  refine wp_seq ?_
  refine wp_region_lit ?_
  refine af (v:=.slice none 0 0) rfl rfl hF rfl (ax rfl rfl) ?_;clear hF;intro a hF
  refine wpList_nil ?_
  refine wp_ret ?_
  repeat with_reducible (first |refine dB ?_ |refine jc ?_ |refine jb ?_)
  refine fR (.inl rfl) hF rfl (fp (hF.ev rfl)) ?_
  subst hx
  replace S:=S.nilrow 77 3
  exact ⟨none,0,0,rfl,rfl,S.sel [0] rfl rfl⟩
def dP:Ctr:=⟨105,[.o Bj],[.o (.row 77 AE)],false,fun x=>aQ x⟩
theorem jF:bD Tryz.prog dP:=⟨SR,fun x res hm e w0 w X _ hp hS=>by
 obtain ⟨v,vr,hv,⟨l,hl,hro⟩,_⟩:=hp
 have hl:=(List.head_eq_of_cons_eq hv).trans hl
 injection hl with _ hl
 subst hl
 refine (jE (A0:=e.a 0) (n0:=List.length x) (c0:=e.c 0) (w:=w) ⟨hro w _ hS (fun y hy=>List.mem_append_right _ hy),rfl⟩ hm).mono ?_
 rintro en w' ⟨B,N,D,rfl,hN,S⟩
 subst hN
 exact ⟨[_],[_],rfl,⟨[_],[],[],[_],[],[],rfl,rfl,⟨_,[],_,[],[_],[],rfl,rfl,rfl,⟨res,B,D,rfl,rfl,rfl⟩,rfl,rfl,rfl⟩,⟨rfl,rfl⟩,⟨[],[],[],[],rfl,rfl,⟨rfl,rfl⟩,⟨rfl,rfl⟩⟩⟩,hS.call1 S⟩⟩
set_option maxHeartbeats 4000000 in
theorem jW {x0:List (Int×Int)} {A0:Option Addr} {n0 c0:Nat} {w:World} {r:List (Int×Int)} (h0:Rt w 2 NV A0 n0 c0 x0) (hM:aV x0=some r):
 Calls Tryz.prog 106 #[.slice A0 n0 c0] w (fun e w'=> ∃(B0:Option Addr) (N0 D0:Nat),e= .returned (.slice B0 N0 D0)∧N0=r.length∧St w w' [.row 122 2 (.slice B0 N0 D0) N0 (r.flatMap NV)]):=by
 obtain rfl:=h0.len
 unfold aV at hM
 obtain ⟨hk,hM⟩:=cv hM
 replace hk:=tg hk
 obtain rfl:=Option.some.inj hM
 refine lM Tryz.func106 Tryz.ntmps106 rfl [(0,.slice A0 x0.length c0)] ⟨rfl,trivial⟩ rfl ?_
 intro a hF
 have S:=St.nil w
 refine wp_seq ?_
 refine wp_region_lit ?_
 refine af (v:=.slice none 0 0) rfl rfl hF rfl (ax rfl rfl) ?_;clear hF;intro a hF
 refine wpList_nil ?_
 refine wp_seq ?_
 refine wp_seq ?_
 refine wp_region_lit ?_
 refine af (v:=.slice A0 x0.length c0) rfl rfl hF rfl (aj rfl (hF.ev rfl)) ?_;clear hF;intro a hF
 refine af (v:=.bool (Option.isNone A0)) rfl rfl hF rfl (lD rfl Tryz.underlying26 (hF.ev rfl) rfl) ?_;clear hF;intro a hF
 refine wpList_nil ?_
 cases hc101:(Option.isNone A0)
 ·have hx:=trivial
  refine qL hF rfl hc101 ?_
  refine wp_skip ?_
  refine wp_seq ?_
  refine wp_region_lit ?_
  refine pK (cs:= #[]) (size:=2) rfl rfl hF rfl S (gP rfl Tryz.underlying26 (congrArg Option.isSome Vx)) rfl (Nat.zero_le _) ?_;clear hF S;intro a g102 u hF S
  refine af (v:=.slice A0 x0.length c0) rfl rfl hF rfl (aj rfl (hF.ev rfl)) ?_;clear hF;intro a hF
  have hk105:=hk
  refine nC (lx:=[]) (ly:=x0) rfl rfl hF rfl S rfl (hF.ev rfl) (hF.ev rfl) (i:=0) rfl rfl Tryz.underlying26 Rp rfl (by decide) (S.rc0 h0.rc).rd rfl KM hk105 (by decide) ?_;clear hF S;intro a B103 d104 u hF S
  refine af (v:=.slice B103 ((([]:List (Int×Int))++x0).length) d104) rfl rfl hF rfl (ax rfl (hF.ev rfl)) ?_;clear hF;intro a hF
  refine wpList_nil ?_
  refine wp_ret ?_
  repeat with_reducible (first |refine dB ?_ |refine jc ?_ |refine jb ?_)
  refine fR (.inl rfl) hF rfl (fp (hF.ev rfl)) ?_
  exact ⟨B103,((([]:List (Int×Int))++x0).length),d104,rfl,rfl,S.sel [0] rfl rfl⟩
 ·have hx:=ry h0.rc.rd rfl hc101
  refine qM hF rfl hc101 ?_
  refine wp_seq ?_
  refine wp_region_lit ?_
  refine af (v:=.slice none 0 0) rfl rfl hF rfl (ax rfl rfl) ?_;clear hF;intro a hF
  refine wpList_nil ?_
  refine wp_ret ?_
  repeat with_reducible (first |refine dB ?_ |refine jc ?_ |refine jb ?_)
  refine fR (.inl rfl) hF rfl (fp (hF.ev rfl)) ?_
  subst hx
  replace S:=S.nilrow 122 2
  exact ⟨none,0,0,rfl,rfl,S.sel [0] rfl rfl⟩
def eC:Ctr:=⟨106,[Av],[.o (.row 122 Ae)],false,fun x=>aV x⟩
theorem jY:bD Tryz.prog eC:=⟨SS,fun x res hm e w0 w X _ hp hS=>by
 obtain ⟨v,vr,hv,⟨l,hl,hro⟩,_⟩:=hp
 have hl:=(List.head_eq_of_cons_eq hv).trans hl
 injection hl with _ hl
 subst hl
 refine (jW (A0:=e.a 0) (n0:=List.length x) (c0:=e.c 0) (w:=w) ⟨hro w _ hS (fun y hy=>List.mem_append_right _ hy),rfl⟩ hm).mono ?_
 rintro en w' ⟨B,N,D,rfl,hN,S⟩
 subst hN
 exact ⟨[_],[_],rfl,⟨[_],[],[],[_],[],[],rfl,rfl,⟨_,[],_,[],[_],[],rfl,rfl,rfl,⟨res,B,D,rfl,rfl,rfl⟩,rfl,rfl,rfl⟩,⟨rfl,rfl⟩,⟨[],[],[],[],rfl,rfl,⟨rfl,rfl⟩,⟨rfl,rfl⟩⟩⟩,hS.call1 S⟩⟩
set_option maxHeartbeats 4000000 in
theorem oJ {x0:List Bool} {A0:Option Addr} {n0 c0:Nat} {w:World} {r:List Bool} (h0:Rt w 1 eB A0 n0 c0 x0) (hM:aM x0=some r):
 Calls Tryz.prog 114 #[.slice A0 n0 c0] w (fun e w'=> ∃(B0:Option Addr) (N0 D0:Nat),e= .returned (.slice B0 N0 D0)∧N0=r.length∧St w w' [.row 4 1 (.slice B0 N0 D0) N0 (r.flatMap eB)]):=by
 obtain rfl:=h0.len
 unfold aM at hM
 obtain ⟨hk,hM⟩:=cv hM
 replace hk:=tg hk
 obtain rfl:=Option.some.inj hM
 refine lM Tryz.func114 Tryz.ntmps114 rfl [(0,.slice A0 x0.length c0)] ⟨rfl,trivial⟩ rfl ?_
 intro a hF
 have S:=St.nil w
 refine wp_seq ?_
 refine wp_region_lit ?_
 refine af (v:=.slice none 0 0) rfl rfl hF rfl (ax rfl rfl) ?_;clear hF;intro a hF
 refine wpList_nil ?_
 refine wp_seq ?_
 refine wp_seq ?_
 refine wp_region_lit ?_
 refine af (v:=.slice A0 x0.length c0) rfl rfl hF rfl (aj rfl (hF.ev rfl)) ?_;clear hF;intro a hF
 refine af (v:=.bool (Option.isNone A0)) rfl rfl hF rfl (lD rfl Tryz.underlying27 (hF.ev rfl) rfl) ?_;clear hF;intro a hF
 refine wpList_nil ?_
 cases hc101:(Option.isNone A0)
 ·have hx:=trivial
  refine qL hF rfl hc101 ?_
  refine wp_skip ?_
  refine wp_seq ?_
  refine wp_region_lit ?_
  refine pK (cs:= #[]) (size:=1) rfl rfl hF rfl S (gP rfl Tryz.underlying27 (congrArg Option.isSome XU)) rfl (Nat.zero_le _) ?_;clear hF S;intro a g102 u hF S
  refine af (v:=.slice A0 x0.length c0) rfl rfl hF rfl (aj rfl (hF.ev rfl)) ?_;clear hF;intro a hF
  have hk105:=hk
  refine nC (lx:=[]) (ly:=x0) rfl rfl hF rfl S rfl (hF.ev rfl) (hF.ev rfl) (i:=0) rfl rfl Tryz.underlying27 WX rfl (by decide) (S.rc0 h0.rc).rd rfl QG hk105 (by decide) ?_;clear hF S;intro a B103 d104 u hF S
  refine af (v:=.slice B103 ((([]:List Bool)++x0).length) d104) rfl rfl hF rfl (ax rfl (hF.ev rfl)) ?_;clear hF;intro a hF
  refine wpList_nil ?_
  refine wp_ret ?_
  repeat with_reducible (first |refine dB ?_ |refine jc ?_ |refine jb ?_)
  refine fR (.inl rfl) hF rfl (fp (hF.ev rfl)) ?_
  exact ⟨B103,((([]:List Bool)++x0).length),d104,rfl,rfl,S.sel [0] rfl rfl⟩
 ·have hx:=ry h0.rc.rd rfl hc101
  refine qM hF rfl hc101 ?_
  refine wp_seq ?_
  refine wp_region_lit ?_
  refine af (v:=.slice none 0 0) rfl rfl hF rfl (ax rfl rfl) ?_;clear hF;intro a hF
  refine wpList_nil ?_
  refine wp_ret ?_
  repeat with_reducible (first |refine dB ?_ |refine jc ?_ |refine jb ?_)
  refine fR (.inl rfl) hF rfl (fp (hF.ev rfl)) ?_
  subst hx
  replace S:=S.nilrow 4 1
  exact ⟨none,0,0,rfl,rfl,S.sel [0] rfl rfl⟩
def ft:Ctr:=⟨114,[AQ],[Cm],false,fun x=>aM x⟩
theorem jh:bD Tryz.prog ft:=⟨Tb,fun x res hm e w0 w X _ hp hS=>by
 obtain ⟨v,vr,hv,⟨l,hl,hro⟩,_⟩:=hp
 have hl:=(List.head_eq_of_cons_eq hv).trans hl
 injection hl with _ hl
 subst hl
 refine (oJ (A0:=e.a 0) (n0:=List.length x) (c0:=e.c 0) (w:=w) ⟨hro w _ hS (fun y hy=>List.mem_append_right _ hy),rfl⟩ hm).mono ?_
 rintro en w' ⟨B,N,D,rfl,hN,S⟩
 subst hN
 exact ⟨[_],[_],rfl,⟨[_],[],[],[_],[],[],rfl,rfl,⟨_,[],_,[],[_],[],rfl,rfl,rfl,⟨res,B,D,rfl,rfl,rfl⟩,rfl,rfl,rfl⟩,⟨rfl,rfl⟩,⟨[],[],[],[],rfl,rfl,⟨rfl,rfl⟩,⟨rfl,rfl⟩⟩⟩,hS.call1 S⟩⟩
set_option maxHeartbeats 4000000 in
theorem iD {x0:List (Int×Int)} {A0:Option Addr} {n0 c0:Nat} {w:World} {r:List (Int×Int)} (h0:Rt w 2 gi A0 n0 c0 x0) (hM:aF x0=some r):
 Calls Tryz.prog 168 #[.slice A0 n0 c0] w (fun e w'=> ∃(B0:Option Addr) (N0 D0:Nat),e= .returned (.slice B0 N0 D0)∧N0=r.length∧St w w' [.row 125 2 (.slice B0 N0 D0) N0 (r.flatMap gi)]):=by
 obtain rfl:=h0.len
 unfold aF at hM
 obtain ⟨hk,hM⟩:=cv hM
 replace hk:=tg hk
 obtain rfl:=Option.some.inj hM
 refine lM Tryz.func168 Tryz.ntmps168 rfl [(0,.slice A0 x0.length c0)] ⟨rfl,trivial⟩ rfl ?_
 intro a hF
 have S:=St.nil w
 refine wp_seq ?_
 refine wp_region_lit ?_
 refine af (v:=.slice none 0 0) rfl rfl hF rfl (ax rfl rfl) ?_;clear hF;intro a hF
 refine wpList_nil ?_
 refine wp_seq ?_
 refine wp_seq ?_
 refine wp_region_lit ?_
 refine af (v:=.slice A0 x0.length c0) rfl rfl hF rfl (aj rfl (hF.ev rfl)) ?_;clear hF;intro a hF
 refine af (v:=.bool (Option.isNone A0)) rfl rfl hF rfl (lD rfl Tryz.underlying28 (hF.ev rfl) rfl) ?_;clear hF;intro a hF
 refine wpList_nil ?_
 cases hc101:(Option.isNone A0)
 ·have hx:=trivial
  refine qL hF rfl hc101 ?_
  refine wp_skip ?_
  refine wp_seq ?_
  refine wp_region_lit ?_
  refine pK (cs:= #[]) (size:=2) rfl rfl hF rfl S (gP rfl Tryz.underlying28 (congrArg Option.isSome zE)) rfl (Nat.zero_le _) ?_;clear hF S;intro a g102 u hF S
  refine af (v:=.slice A0 x0.length c0) rfl rfl hF rfl (aj rfl (hF.ev rfl)) ?_;clear hF;intro a hF
  have hk105:=hk
  refine nC (lx:=[]) (ly:=x0) rfl rfl hF rfl S rfl (hF.ev rfl) (hF.ev rfl) (i:=0) rfl rfl Tryz.underlying28 LC rfl (by decide) (S.rc0 h0.rc).rd rfl vi hk105 (by decide) ?_;clear hF S;intro a B103 d104 u hF S
  refine af (v:=.slice B103 ((([]:List (Int×Int))++x0).length) d104) rfl rfl hF rfl (ax rfl (hF.ev rfl)) ?_;clear hF;intro a hF
  refine wpList_nil ?_
  refine wp_ret ?_
  repeat with_reducible (first |refine dB ?_ |refine jc ?_ |refine jb ?_)
  refine fR (.inl rfl) hF rfl (fp (hF.ev rfl)) ?_
  exact ⟨B103,((([]:List (Int×Int))++x0).length),d104,rfl,rfl,S.sel [0] rfl rfl⟩
 ·have hx:=ry h0.rc.rd rfl hc101
  refine qM hF rfl hc101 ?_
  refine wp_seq ?_
  refine wp_region_lit ?_
  refine af (v:=.slice none 0 0) rfl rfl hF rfl (ax rfl rfl) ?_;clear hF;intro a hF
  refine wpList_nil ?_
  refine wp_ret ?_
  repeat with_reducible (first |refine dB ?_ |refine jc ?_ |refine jb ?_)
  refine fR (.inl rfl) hF rfl (fp (hF.ev rfl)) ?_
  subst hx
  replace S:=S.nilrow 125 2
  exact ⟨none,0,0,rfl,rfl,S.sel [0] rfl rfl⟩
def cG:Ctr:=⟨168,[.o Bv],[.o Bx],false,fun x=>aF x⟩
theorem iE:bD Tryz.prog cG:=⟨Tz,fun x res hm e w0 w X _ hp hS=>by
 obtain ⟨v,vr,hv,⟨l,hl,hro⟩,_⟩:=hp
 have hl:=(List.head_eq_of_cons_eq hv).trans hl
 injection hl with _ hl
 subst hl
 refine (iD (A0:=e.a 0) (n0:=List.length x) (c0:=e.c 0) (w:=w) ⟨hro w _ hS (fun y hy=>List.mem_append_right _ hy),rfl⟩ hm).mono ?_
 rintro en w' ⟨B,N,D,rfl,hN,S⟩
 subst hN
 exact ⟨[_],[_],rfl,⟨[_],[],[],[_],[],[],rfl,rfl,⟨_,[],_,[],[_],[],rfl,rfl,rfl,⟨res,B,D,rfl,rfl,rfl⟩,rfl,rfl,rfl⟩,⟨rfl,rfl⟩,⟨[],[],[],[],rfl,rfl,⟨rfl,rfl⟩,⟨rfl,rfl⟩⟩⟩,hS.call1 S⟩⟩
def ko:Ctr:=⟨107,[AG],[Cb],false,fun x=>eR x.1 x.2.1 x.2.2⟩
theorem nO:bD Tryz.prog ko:=ck [ft,cG] [.cell 2 30] Ao ⟨jh,iE,trivial⟩ ST Tryz.func107 Tryz.ntmps107 rfl rfl rfl fun _=>by kernel_rfl
set_option maxHeartbeats 4000000 in
theorem pU {x0:List Int} {A0:Option Addr} {n0 c0:Nat} {w:World} {r:List Int} (h0:Rt w 1 eI A0 n0 c0 x0) (hM:bX x0=some r):
 Calls Tryz.prog 108 #[.slice A0 n0 c0] w (fun e w'=> ∃(B0:Option Addr) (N0 D0:Nat),e= .returned (.slice B0 N0 D0)∧N0=r.length∧St w w' [.row 3 1 (.slice B0 N0 D0) N0 (r.flatMap eI)]):=by
 obtain rfl:=h0.len
 unfold bX at hM
 obtain ⟨hk,hM⟩:=cv hM
 replace hk:=tg hk
 obtain rfl:=Option.some.inj hM
 refine lM Tryz.func108 Tryz.ntmps108 rfl [(0,.slice A0 x0.length c0)] ⟨rfl,trivial⟩ rfl ?_
 intro a hF
 have S:=St.nil w
 refine wp_seq ?_
 refine wp_region_lit ?_
 refine af (v:=.slice none 0 0) rfl rfl hF rfl (ax rfl rfl) ?_;clear hF;intro a hF
 refine wpList_nil ?_
 refine wp_seq ?_
 refine wp_seq ?_
 refine wp_region_lit ?_
 refine af (v:=.slice A0 x0.length c0) rfl rfl hF rfl (aj rfl (hF.ev rfl)) ?_;clear hF;intro a hF
 refine af (v:=.bool (Option.isNone A0)) rfl rfl hF rfl (lD rfl Tryz.underlying31 (hF.ev rfl) rfl) ?_;clear hF;intro a hF
 refine wpList_nil ?_
 cases hc101:(Option.isNone A0)
 ·have hx:=trivial
  refine qL hF rfl hc101 ?_
  refine wp_skip ?_
  refine wp_seq ?_
  refine wp_region_lit ?_
  refine pK (cs:= #[]) (size:=1) rfl rfl hF rfl S (gP rfl Tryz.underlying31 (congrArg Option.isSome SH)) rfl (Nat.zero_le _) ?_;clear hF S;intro a g102 u hF S
  refine af (v:=.slice A0 x0.length c0) rfl rfl hF rfl (aj rfl (hF.ev rfl)) ?_;clear hF;intro a hF
  have hk105:=hk
  refine nC (lx:=[]) (ly:=x0) rfl rfl hF rfl S rfl (hF.ev rfl) (hF.ev rfl) (i:=0) rfl rfl Tryz.underlying31 UT rfl (by decide) (S.rc0 h0.rc).rd rfl KO hk105 (by decide) ?_;clear hF S;intro a B103 d104 u hF S
  refine af (v:=.slice B103 ((([]:List Int)++x0).length) d104) rfl rfl hF rfl (ax rfl (hF.ev rfl)) ?_;clear hF;intro a hF
  refine wpList_nil ?_
  refine wp_ret ?_
  repeat with_reducible (first |refine dB ?_ |refine jc ?_ |refine jb ?_)
  refine fR (.inl rfl) hF rfl (fp (hF.ev rfl)) ?_
  exact ⟨B103,((([]:List Int)++x0).length),d104,rfl,rfl,S.sel [0] rfl rfl⟩
 ·have hx:=ry h0.rc.rd rfl hc101
  refine qM hF rfl hc101 ?_
  refine wp_seq ?_
  refine wp_region_lit ?_
  refine af (v:=.slice none 0 0) rfl rfl hF rfl (ax rfl rfl) ?_;clear hF;intro a hF
  refine wpList_nil ?_
  refine wp_ret ?_
  repeat with_reducible (first |refine dB ?_ |refine jc ?_ |refine jb ?_)
  refine fR (.inl rfl) hF rfl (fp (hF.ev rfl)) ?_
  subst hx
  replace S:=S.nilrow 3 1
  exact ⟨none,0,0,rfl,rfl,S.sel [0] rfl rfl⟩
def kw:Ctr:=⟨108,[Ch],[AO],false,fun x=>bX x⟩
theorem pV:bD Tryz.prog kw:=⟨SU,fun x res hm e w0 w X _ hp hS=>by
 obtain ⟨v,vr,hv,⟨l,hl,hro⟩,_⟩:=hp
 have hl:=(List.head_eq_of_cons_eq hv).trans hl
 injection hl with _ hl
 subst hl
 refine (pU (A0:=e.a 0) (n0:=List.length x) (c0:=e.c 0) (w:=w) ⟨hro w _ hS (fun y hy=>List.mem_append_right _ hy),rfl⟩ hm).mono ?_
 rintro en w' ⟨B,N,D,rfl,hN,S⟩
 subst hN
 exact ⟨[_],[_],rfl,⟨[_],[],[],[_],[],[],rfl,rfl,⟨_,[],_,[],[_],[],rfl,rfl,rfl,⟨res,B,D,rfl,rfl,rfl⟩,rfl,rfl,rfl⟩,⟨rfl,rfl⟩,⟨[],[],[],[],rfl,rfl,⟨rfl,rfl⟩,⟨rfl,rfl⟩⟩⟩,hS.call1 S⟩⟩
def dO:Ctr:=⟨43,[Ad],[Ai],false,fun x=>bi x.1 x.2.1 x.2.2.1 x.2.2.2.1 x.2.2.2.2.1 x.2.2.2.2.2.1 x.2.2.2.2.2.2⟩
theorem gh:bD Tryz.prog dO:=ck [dP,eC,ko,kw] [.cell 2 33] Ao ⟨jF,jY,nO,pV,trivial⟩ Wl Tryz.func43 Tryz.ntmps43 rfl rfl rfl fun _=>by kernel_rfl
def qn:Ctr:=⟨232,[AF],By,false,fun x=>jo x⟩
theorem vy:bD Tryz.prog qn:=ck [] [.tmp 2] Ao trivial Uh Tryz.func232 Tryz.ntmps232 rfl rfl rfl fun _=>by kernel_rfl
def rb:Ctr:=⟨212,[AF,AF],By,false,fun x=>kI x.1 x.2⟩
theorem wQ:bD Tryz.prog rb:=ck [qn] [.tmp 4] Ao ⟨vy,trivial⟩ Uc Tryz.func212 Tryz.ntmps212 rfl rfl rfl fun _=>by kernel_rfl
def nv:Ctr:=⟨213,[AF],By,false,fun x=>gA x⟩
theorem sG:bD Tryz.prog nv:=ck [] [.tmp 2] Ao trivial Ud Tryz.func213 Tryz.ntmps213 rfl rfl rfl fun _=>by kernel_rfl
def gg:Ctr:=⟨180,[Ch,AF],[Bq,AI],false,fun x=>bC x.1 x.2⟩
theorem lN:bD Tryz.prog gg:=ck [rb,nv] [.tmp 4,.tmp 5] (.q .z (.q .z (.q .z (.q (.cut ⟨[AZ,Az,Ap,AR,AD,Co],[],[]⟩ [] (.b (.lp Cc (.q Ao (.b (.q .z (.q .z (.cut Cc [] Ac)))))))) Ac)))) ⟨wQ,sG,trivial⟩ TL Tryz.func180 Tryz.ntmps180 rfl rfl rfl fun _=>by kernel_rfl
set_option maxHeartbeats 4000000 in
theorem pc {x0:List Int} {x1:Int} {x2:Int} {A0:Option Addr} {n0 c0:Nat} {w:World} {r:List Int} {w0:World} {X:List Asn} (h0:n0=x0.length) (S:St w0 w (Asn.row 3 1 (.slice A0 n0 c0) n0 (x0.flatMap eI)::X)) (hM:bM x0 x1 x2=some r):
 Calls Tryz.prog 182 #[.slice A0 n0 c0,.int .i64 x1,.int .i64 x2] w (fun e w'=> ∃(B0:Option Addr) (N0 D0:Nat),e= .returned (.slice B0 N0 D0)∧N0=r.length∧St w0 w' (Asn.row 3 1 (.slice B0 N0 D0) N0 (r.flatMap eI)::X)):=by
 obtain rfl:=h0
 unfold bM at hM
 refine lM Tryz.func182 Tryz.ntmps182 rfl [(0,.slice A0 x0.length c0),(1,.int .i64 x1),(2,.int .i64 x2)] ⟨rfl,rfl,rfl,trivial⟩ rfl ?_
 intro a hF
 refine wp_seq ?_
 refine wp_region_lit ?_
 refine af (v:=.slice none 0 0) rfl rfl hF rfl (ax rfl rfl) ?_;clear hF;intro a hF
 refine wpList_nil ?_
 refine wp_seq ?_
 refine wp_region_lit ?_
 refine af (v:=.slice A0 x0.length c0) rfl rfl hF rfl (aj rfl (hF.ev rfl)) ?_;clear hF;intro a hF
 refine af (v:=.int .i64 x1) rfl rfl hF rfl (aj rfl (hF.ev rfl)) ?_;clear hF;intro a hF
 refine af (v:=.int .i64 x2) rfl rfl hF rfl (aj rfl (hF.ev rfl)) ?_;clear hF;intro a hF
 refine af (v:=.slice A0 x0.length c0) rfl rfl hF rfl (aj rfl (hF.ev rfl)) ?_;clear hF;intro a hF
 refine af (v:=.int .i64 (x0.length:Int)) rfl rfl hF rfl (iL rfl rfl Tryz.underlying31 (hF.ev rfl)) ?_;clear hF;intro a hF
 obtain ⟨hk101,hM⟩:=cv hM
 replace hk101:=mb hk101
 refine af (v:=.slice (bm ((x0.length:Int).toNat) x1.toNat 1 A0) (x2.toNat-x1.toNat) ((x0.length:Int).toNat-x1.toNat)) rfl rfl hF rfl (ya rfl Tryz.underlying31 SH (hF.ev rfl) (hF.ev rfl) (hF.ev rfl) (hF.ev rfl) hk101 (Int.ofNat_le.2 (S.rc 0 rfl).cap)) ?_;clear hF;intro a hF
 refine wpList_nil ?_
 refine wp_seq ?_
 refine wp_seq ?_
 refine wp_region_lit ?_
 refine af (v:=.int .i64 x1) rfl rfl hF rfl (aj rfl (hF.ev rfl)) ?_;clear hF;intro a hF
 refine af (v:=.int .i64 x2) rfl rfl hF rfl (aj rfl (hF.ev rfl)) ?_;clear hF;intro a hF
 refine af (v:=.bool (x1==x2)) rfl rfl hF rfl (Db (hF.ev rfl) (hF.ev rfl) rfl) ?_;clear hF;intro a hF
 refine wpList_nil ?_
 cases hc102:(x1==x2)
 ·replace hM:=PA hc102 hM
  refine qL hF rfl hc102 ?_
  refine wp_skip ?_
  refine wp_seq ?_
  refine wp_region_lit ?_
  refine af (v:=.slice A0 x0.length c0) rfl rfl hF rfl (aj rfl (hF.ev rfl)) ?_;clear hF;intro a hF
  refine af (v:=.int .i64 (x0.length:Int)) rfl rfl hF rfl (iL rfl rfl Tryz.underlying31 (hF.ev rfl)) ?_;clear hF;intro a hF
  refine af (v:=.int .i64 (x0.length:Int)) rfl rfl hF rfl (ax rfl (hF.ev rfl)) ?_;clear hF;intro a hF
  refine wpList_nil ?_
  refine wp_seq ?_
  obtain ⟨hk103,hM⟩:=cv hM
  replace hk103:=mb hk103
  obtain ⟨hk104,hM⟩:=cv hM
  replace hk104:=mb hk104
  obtain ⟨hk105,hM⟩:=cv hM
  replace hk105:=tg hk105
  have hp106:=(S.rc 0 rfl).cap
  have hq107:=Ht (l:=x0) (p:=x1) (q:=x2) rfl (by omega)
  refine zy (D:=[20,21,22,23,24,25,26,0]) (Lr:=(X)) (deps:=(fun |0=> [20] |1=> [21] |2=> [22] |3=> [23] |4=> [24] |5=> [25] |6=> [26] |7=> [0] |_=> [])) (rd:=(fun _=> [])) (zr:=(fun |2=> [6] |5=> [6] |_=> []))
   (φ:=fun i vs=>match i,vs with |0,[v20]=>v20= .slice A0 x0.length c0 |1,[v21]=>v21= .int .i64 x1 |2,[v22]=>v22= .slice (bm c0 ((0:Int).toNat) 1 A0) ((ac x0 0 x1).length) (c0-(0:Int).toNat) |3,[v23]=>v23= .slice A0 x0.length c0 |4,[v24]=>v24= .int .i64 x2 |5,[v25]=>v25= .slice (bm c0 x2.toNat 1 A0) ((ac x0 x2 (x0.length:Int)).length) (c0-x2.toNat) |6,[v26]=>v26= .slice A0 (((ac x0 0 x1)++(ac x0 x2 (x0.length:Int))).length) c0 |7,[v0]=>v0= .slice A0 (((ac x0 0 x1)++(ac x0 x2 (x0.length:Int))).length) c0 |_,_=>True)
   (C:=fun i vs=>match i,vs with |6,[v26]=> [.row 3 1 (.slice A0 (((ac x0 0 x1)++(ac x0 x2 (x0.length:Int))).length) c0) (((ac x0 0 x1)++(ac x0 x2 (x0.length:Int))).length) (((ac x0 0 x1)++(ac x0 x2 (x0.length:Int))).flatMap eI)] |_,_=> [])
   (κ:=(fun _=>none)) (Z:=(fun |6=> [.row 3 1 (.slice A0 x0.length c0) x0.length (x0.flatMap eI)] |_=> [])) mixed hF (by kernel_rfl) (show St w0 _ (Asn.row 3 1 (.slice A0 x0.length c0) x0.length (x0.flatMap eI)::X) from S.selT (M:=[.row 3 1 (.slice A0 x0.length c0) x0.length (x0.flatMap eI)]) 1 [0] rfl rfl rfl) ?_ ?_
  ·refine ⟨?_,?_,?_,?_,?_,?_,?_,?_,trivial⟩
   ·intro a u X' hB hu hp hr hz hl S
    replace S:St w0 u ([]++X'):=S
    exact .inl ⟨rfl,.slice A0 x0.length c0,u,(aj rfl (hF.evU (hu 7 0 rfl rfl) rfl)),rfl,S⟩
   ·intro a u X' hB hu hp hr hz hl S
    replace S:St w0 u ([]++X'):=S
    exact .inl ⟨rfl,.int .i64 x1,u,(aj rfl (hF.evB hB rfl rfl)),rfl,S⟩
   ·intro a u X' hB hu hp hr hz hl S
    replace S:St w0 u ([]++X'):=S
    have e20:sl a 20= .slice A0 x0.length c0:=hp 0 rfl
    have e21:sl a 21= .int .i64 x1:=hp 1 rfl
    exact .inl ⟨rfl,.slice (bm c0 ((0:Int).toNat) 1 A0) ((ac x0 0 x1).length) (c0-(0:Int).toNat),u,(qe (l:=x0) rfl Tryz.underlying31 SH (gJ e20) (gJ e21) hk103 rfl (sR (show Ow _ _ _ _ _ _ from S.mem (List.mem_append_right _ (hz 6 (List.mem_of_getElem? (i:=0) rfl) _ (List.mem_of_getElem? (i:=0) rfl))))).cap),rfl,S⟩
   ·intro a u X' hB hu hp hr hz hl S
    replace S:St w0 u ([]++X'):=S
    exact .inl ⟨rfl,.slice A0 x0.length c0,u,(aj rfl (hF.evU (hu 7 0 rfl rfl) rfl)),rfl,S⟩
   ·intro a u X' hB hu hp hr hz hl S
    replace S:St w0 u ([]++X'):=S
    exact .inl ⟨rfl,.int .i64 x2,u,(aj rfl (hF.evB hB rfl rfl)),rfl,S⟩
   ·intro a u X' hB hu hp hr hz hl S
    replace S:St w0 u ([]++X'):=S
    have e23:sl a 23= .slice A0 x0.length c0:=hp 3 rfl
    have e24:sl a 24= .int .i64 x2:=hp 4 rfl
    exact .inl ⟨rfl,.slice (bm c0 x2.toNat 1 A0) ((ac x0 x2 (x0.length:Int)).length) (c0-x2.toNat),u,(oU (l:=x0) rfl Tryz.underlying31 SH (gJ e23) (gJ e24) hk104 rfl (sR (show Ow _ _ _ _ _ _ from S.mem (List.mem_append_right _ (hz 6 (List.mem_of_getElem? (i:=0) rfl) _ (List.mem_of_getElem? (i:=0) rfl))))).cap),rfl,S⟩
   ·intro a u X' hB hu hp hr hz hl S
    replace S:St w0 u ([.row 3 1 (.slice A0 x0.length c0) x0.length (x0.flatMap eI)]++X'):=S
    have e22:sl a 22= .slice (bm c0 ((0:Int).toNat) 1 A0) ((ac x0 0 x1).length) (c0-(0:Int).toNat):=hp 2 rfl
    have e25:sl a 25= .slice (bm c0 x2.toNat 1 A0) ((ac x0 x2 (x0.length:Int)).length) (c0-x2.toNat):=hp 5 rfl
    obtain ⟨w',hrun,S'⟩:=S.delrow (i:=0) (P:=Tryz.prog) (ty:=31) (p:=x1) (q:=x2) rfl rfl KN KO Tryz.underlying31 SH (by omega) (by omega) (by omega)
    exact .inl ⟨rfl,_,w',qd rfl (gJ e22) (gJ e25) hrun,rfl,S'⟩
   ·intro a u X' hB hu hp hr hz hl S
    replace S:St w0 u ([]++X'):=S
    have e26:sl a 26= .slice A0 (((ac x0 0 x1)++(ac x0 x2 (x0.length:Int))).length) c0:=hp 6 rfl
    exact .inl ⟨rfl,.slice A0 (((ac x0 0 x1)++(ac x0 x2 (x0.length:Int))).length) c0,u,(ax rfl (gJ e26)),rfl,S⟩
  ·intro a u hB hp S
   obtain ⟨q0,q1,q2,q3,q4,q5,q6,q7,_⟩:=hp
   have e20:sl a 20= .slice A0 x0.length c0:=q0
   have e21:sl a 21= .int .i64 x1:=q1
   have e22:sl a 22= .slice (bm c0 ((0:Int).toNat) 1 A0) ((ac x0 0 x1).length) (c0-(0:Int).toNat):=q2
   have e23:sl a 23= .slice A0 x0.length c0:=q3
   have e24:sl a 24= .int .i64 x2:=q4
   have e25:sl a 25= .slice (bm c0 x2.toNat 1 A0) ((ac x0 x2 (x0.length:Int)).length) (c0-x2.toNat):=q5
   have e26:sl a 26= .slice A0 (((ac x0 0 x1)++(ac x0 x2 (x0.length:Int))).length) c0:=q6
   have e0:sl a 0= .slice A0 (((ac x0 0 x1)++(ac x0 x2 (x0.length:Int))).length) c0:=q7
   replace S:St w0 u (Asn.row 3 1 (.slice A0 (((ac x0 0 x1)++(ac x0 x2 (x0.length:Int))).length) c0) (((ac x0 0 x1)++(ac x0 x2 (x0.length:Int))).length) (((ac x0 0 x1)++(ac x0 x2 (x0.length:Int))).flatMap eI)::X):=S
   clear q0 q1 q2 q3 q4 q5 q6 q7
   have hF:=hF.region hB [(20,.slice A0 x0.length c0),(21,.int .i64 x1),(22,.slice (bm c0 ((0:Int).toNat) 1 A0) ((ac x0 0 x1).length) (c0-(0:Int).toNat)),(23,.slice A0 x0.length c0),(24,.int .i64 x2),(25,.slice (bm c0 x2.toNat 1 A0) ((ac x0 x2 (x0.length:Int)).length) (c0-x2.toNat)),(26,.slice A0 (((ac x0 0 x1)++(ac x0 x2 (x0.length:Int))).length) c0),(0,.slice A0 (((ac x0 0 x1)++(ac x0 x2 (x0.length:Int))).length) c0)] (ut ⟨e20,e21,e22,e23,e24,e25,e26,e0,trivial⟩) rfl
   clear hB e20 e21 e22 e23 e24 e25 e26 e0
   refine wp_seq ?_
   refine wp_region_lit ?_
   refine af (v:=.slice A0 (((ac x0 0 x1)++(ac x0 x2 (x0.length:Int))).length) c0) rfl rfl hF rfl (aj rfl (hF.ev rfl)) ?_;clear hF;intro a hF
   refine af (v:=.slice A0 (((ac x0 0 x1)++(ac x0 x2 (x0.length:Int))).length) c0) rfl rfl hF rfl (aj rfl (hF.ev rfl)) ?_;clear hF;intro a hF
   refine af (v:=.int .i64 ((((ac x0 0 x1)++(ac x0 x2 (x0.length:Int))).length):Int)) rfl rfl hF rfl (iL rfl rfl Tryz.underlying31 (hF.ev rfl)) ?_;clear hF;intro a hF
   refine af (v:=.int .i64 (x0.length:Int)) rfl rfl hF rfl (aj rfl (hF.ev rfl)) ?_;clear hF;intro a hF
   refine af (v:=.slice (bm c0 (((((ac x0 0 x1)++(ac x0 x2 (x0.length:Int))).length):Int).toNat) 1 A0) ((x0.length:Int).toNat-((((ac x0 0 x1)++(ac x0 x2 (x0.length:Int))).length):Int).toNat) (c0-((((ac x0 0 x1)++(ac x0 x2 (x0.length:Int))).length):Int).toNat)) rfl rfl hF rfl (ud rfl Tryz.underlying31 SH (hF.ev rfl) (hF.ev rfl) (hF.ev rfl) ⟨Int.natCast_nonneg _,Int.ofNat_le.2 hq107,Int.ofNat_le.2 hp106⟩) ?_;clear hF;intro a hF
   obtain ⟨w',hrun,S'⟩:=S.clear (i:=0) (P:=Tryz.prog) (hi:=(x0.length:Int)) rfl rfl KN Tryz.underlying31 UT rfl rfl ⟨Int.ofNat_le.2 hq107,Int.ofNat_le.2 hp106⟩
   refine vu rfl rfl rfl (hF.ev rfl) hrun ?_
   clear S hrun;have S:=S';clear S';generalize w'=u at S ⊢
   refine wpList_nil ?_
   refine wp_seq ?_
   refine wp_region_lit ?_
   refine af (v:=.slice A0 (((ac x0 0 x1)++(ac x0 x2 (x0.length:Int))).length) c0) rfl rfl hF rfl (aj rfl (hF.ev rfl)) ?_;clear hF;intro a hF
   refine af (v:=.slice A0 (((ac x0 0 x1)++(ac x0 x2 (x0.length:Int))).length) c0) rfl rfl hF rfl (ax rfl (hF.ev rfl)) ?_;clear hF;intro a hF
   refine wpList_nil ?_
   refine wp_ret ?_
   repeat with_reducible (first |refine dB ?_ |refine jc ?_ |refine jb ?_)
   refine fR (.inl rfl) hF rfl (fp (hF.ev rfl)) ?_
   obtain rfl:=Option.some.inj hM
   exact ⟨A0,(((ac x0 0 x1)++(ac x0 x2 (x0.length:Int))).length),c0,rfl,rfl,S.selT (M:=[.row 3 1 (.slice A0 (((ac x0 0 x1)++(ac x0 x2 (x0.length:Int))).length) c0) (((ac x0 0 x1)++(ac x0 x2 (x0.length:Int))).length) (((ac x0 0 x1)++(ac x0 x2 (x0.length:Int))).flatMap eI)]) 1 [0] rfl rfl rfl⟩
 ·replace hM:=PC hc102 hM
  refine qM hF rfl hc102 ?_
  refine wp_seq ?_
  refine wp_region_lit ?_
  refine af (v:=.slice A0 x0.length c0) rfl rfl hF rfl (aj rfl (hF.ev rfl)) ?_;clear hF;intro a hF
  refine af (v:=.slice A0 x0.length c0) rfl rfl hF rfl (ax rfl (hF.ev rfl)) ?_;clear hF;intro a hF
  refine wpList_nil ?_
  refine wp_ret ?_
  repeat with_reducible (first |refine dB ?_ |refine jc ?_ |refine jb ?_)
  refine fR (.inl rfl) hF rfl (fp (hF.ev rfl)) ?_
  obtain rfl:=Option.some.inj hM
  exact ⟨A0,x0.length,c0,rfl,rfl,S.selT (M:=[.row 3 1 (.slice A0 x0.length c0) x0.length (x0.flatMap eI)]) 1 [0] rfl rfl rfl⟩
def jN:Ctr:=⟨182,[Cj,AF,AF],[AO],true,fun x=>bM x.1 x.2.1 x.2.2⟩
theorem ph:bD Tryz.prog jN:=⟨TN,fun x res hm e w0 w X _ hp hS=>(pc (w:=w) (w0:=w0) (X:=X) (A0:=e.a 0) (n0:=x.1.length) (c0:=e.c 0) rfl hS hm).mono (by
 rintro en w' ⟨B,N,D,rfl,hN,S⟩
 subst hN
 exact ⟨_,_,rfl,⟨[_],[],[],[_],[],[],rfl,rfl,⟨_,[],_,[],[_],[],rfl,rfl,rfl,⟨res,B,D,rfl,rfl,rfl⟩,rfl,rfl,rfl⟩,⟨rfl,rfl⟩,⟨[],[],[],[],rfl,rfl,⟨rfl,rfl⟩,⟨[],[],[],[],rfl,rfl,⟨rfl,rfl⟩,⟨[],[],[],[],rfl,rfl,⟨rfl,rfl⟩,⟨rfl,rfl⟩⟩⟩⟩⟩,S⟩)⟩
set_option maxHeartbeats 4000000 in
theorem pd {x0:List Int} {x1:Int} {x2:List Int} {A0:Option Addr} {n0 c0:Nat} {A2:Option Addr} {n2 c2:Nat} {w:World} {r:List Int} {w0:World} {X:List Asn} (h0:n0=x0.length) (h2:n2=x2.length) (S:St w0 w (Asn.row 3 1 (.slice A0 n0 c0) n0 (x0.flatMap eI)::Asn.row 3 1 (.slice A2 n2 c2) n2 (x2.flatMap eI)::X)) (hM:bN x0 x1 x2=some r):
 Calls Tryz.prog 181 #[.slice A0 n0 c0,.int .i64 x1,.slice A2 n2 c2] w (fun e w'=> ∃(B0:Option Addr) (N0 D0:Nat),e= .returned (.slice B0 N0 D0)∧N0=r.length∧St w0 w' (Asn.row 3 1 (.slice B0 N0 D0) N0 (r.flatMap eI)::X)):=by
 obtain rfl:=h0
 obtain rfl:=h2
 unfold bN at hM
 obtain ⟨hk1,hM⟩:=cv hM
 obtain ⟨hk2,hM⟩:=cv hM
 obtain ⟨hk3,hM⟩:=cv hM
 obtain rfl:=Option.some.inj hM
 replace hk1:=mb hk1
 replace hk2:=tg hk2
 obtain ⟨y,rfl⟩: ∃y,x2=[y]:=List.length_eq_one_iff.1 (by have:=eq_of_beq hk3;omega)
 refine (Jm S (k:=0) (m:=1) rfl rfl rfl (by decide) ⟨hk1.2.1,hk1.2.2⟩ hk2).mono ?_
 rintro e w' ⟨B,D,rfl,T⟩
 exact ⟨B,_,D,rfl,Oq hk1.2.1 hk1.2.2,T.sub (.cons_cons _ (.cons _ (List.Sublist.refl _)))⟩
def jO:Ctr:=⟨181,[Cj,AF,Cj],[AO],true,fun x=>bN x.1 x.2.1 x.2.2⟩
theorem pi:bD Tryz.prog jO:=⟨TM,fun x res hm e w0 w X _ hp hS=>(pd (w:=w) (w0:=w0) (X:=X) (A0:=e.a 0) (n0:=x.1.length) (c0:=e.c 0) (A2:=e.a 2) (n2:=x.2.2.length) (c2:=e.c 2) rfl rfl hS hm).mono (by
 rintro en w' ⟨B,N,D,rfl,hN,S⟩
 subst hN
 exact ⟨_,_,rfl,⟨[_],[],[],[_],[],[],rfl,rfl,⟨_,[],_,[],[_],[],rfl,rfl,rfl,⟨res,B,D,rfl,rfl,rfl⟩,rfl,rfl,rfl⟩,⟨rfl,rfl⟩,⟨[],[],[],[],rfl,rfl,⟨rfl,rfl⟩,⟨[],[],[],[],rfl,rfl,⟨rfl,rfl⟩,⟨[],[],[],[],rfl,rfl,⟨rfl,rfl⟩,⟨rfl,rfl⟩⟩⟩⟩⟩,S⟩)⟩
def qq:Ctr:=⟨234,[AG,AF],[AO],false,fun x=>jr x.1 x.2.1 x.2.2.1 x.2.2.2⟩
theorem vB:bD Tryz.prog qq:=ck [iN] [.tmp 4] (.q .z (.q Af (.q .z (.q (.q .z (.cut BH [] (.b (.lp ⟨[Az,Ap,(5,Bd),BJ,BS,(14,Ah)],[],[]⟩ (.q .z (.q Ac (.q (.b (.q .z (.q .z (.cut ⟨[Az,Ap,(5,Bd),BJ,BS,(14,Ab)],[],[]⟩ [] Ac)))) .z))))))) Ac)))) ⟨lq,trivial⟩ Ui Tryz.func234 Tryz.ntmps234 rfl rfl rfl fun _=>by kernel_rfl
def qs:Ctr:=⟨216,[AG,Bl],By,false,fun x=>js x.1 x.2.1 x.2.2.1 x.2.2.2.1 x.2.2.2.2.1 x.2.2.2.2.2⟩
theorem vC:bD Tryz.prog qs:=ck [aO,qq] [.tmp 4] (.q .z (.q .z (.q .z (.q (.q .z (.b (.q (.q .z (.cut ⟨[AB,Bp,Ap,AR,AD,Ba,(29,Ab),(30,BU)],[(3,AK),(2,AK)],[]⟩ [] Ac)) Be))) Ac)))) ⟨aZ,vB,trivial⟩ Ue Tryz.func216 Tryz.ntmps216 rfl rfl rfl fun _=>by kernel_rfl
set_option maxHeartbeats 4000000 in
theorem iv {x0:List (Int×Int)} {x1:Int} {x2:Int} {A0:Option Addr} {n0 c0:Nat} {w:World} {r:List (Int×Int)} {w0:World} {X:List Asn} (h0:n0=x0.length) (S:St w0 w (Asn.row 125 2 (.slice A0 n0 c0) n0 (x0.flatMap gi)::X)) (hM:aB x0 x1 x2=some r):
 Calls Tryz.prog 217 #[.slice A0 n0 c0,.int .i64 x1,.int .i64 x2] w (fun e w'=> ∃(B0:Option Addr) (N0 D0:Nat),e= .returned (.slice B0 N0 D0)∧N0=r.length∧St w0 w' (Asn.row 125 2 (.slice B0 N0 D0) N0 (r.flatMap gi)::X)):=by
 obtain rfl:=h0
 unfold aB at hM
 refine lM Tryz.func217 Tryz.ntmps217 rfl [(0,.slice A0 x0.length c0),(1,.int .i64 x1),(2,.int .i64 x2)] ⟨rfl,rfl,rfl,trivial⟩ rfl ?_
 intro a hF
 refine wp_seq ?_
 refine wp_region_lit ?_
 refine af (v:=.slice none 0 0) rfl rfl hF rfl (ax rfl rfl) ?_;clear hF;intro a hF
 refine wpList_nil ?_
 refine wp_seq ?_
 refine wp_region_lit ?_
 refine af (v:=.slice A0 x0.length c0) rfl rfl hF rfl (aj rfl (hF.ev rfl)) ?_;clear hF;intro a hF
 refine af (v:=.int .i64 x1) rfl rfl hF rfl (aj rfl (hF.ev rfl)) ?_;clear hF;intro a hF
 refine af (v:=.int .i64 x2) rfl rfl hF rfl (aj rfl (hF.ev rfl)) ?_;clear hF;intro a hF
 refine af (v:=.slice A0 x0.length c0) rfl rfl hF rfl (aj rfl (hF.ev rfl)) ?_;clear hF;intro a hF
 refine af (v:=.int .i64 (x0.length:Int)) rfl rfl hF rfl (iL rfl rfl Tryz.underlying28 (hF.ev rfl)) ?_;clear hF;intro a hF
 obtain ⟨hk101,hM⟩:=cv hM
 replace hk101:=mb hk101
 refine af (v:=.slice (bm ((x0.length:Int).toNat) x1.toNat 2 A0) (x2.toNat-x1.toNat) ((x0.length:Int).toNat-x1.toNat)) rfl rfl hF rfl (ya rfl Tryz.underlying28 zE (hF.ev rfl) (hF.ev rfl) (hF.ev rfl) (hF.ev rfl) hk101 (Int.ofNat_le.2 (S.rc 0 rfl).cap)) ?_;clear hF;intro a hF
 refine wpList_nil ?_
 refine wp_seq ?_
 refine wp_seq ?_
 refine wp_region_lit ?_
 refine af (v:=.int .i64 x1) rfl rfl hF rfl (aj rfl (hF.ev rfl)) ?_;clear hF;intro a hF
 refine af (v:=.int .i64 x2) rfl rfl hF rfl (aj rfl (hF.ev rfl)) ?_;clear hF;intro a hF
 refine af (v:=.bool (x1==x2)) rfl rfl hF rfl (Db (hF.ev rfl) (hF.ev rfl) rfl) ?_;clear hF;intro a hF
 refine wpList_nil ?_
 cases hc102:(x1==x2)
 ·replace hM:=PA hc102 hM
  refine qL hF rfl hc102 ?_
  refine wp_skip ?_
  refine wp_seq ?_
  refine wp_region_lit ?_
  refine af (v:=.slice A0 x0.length c0) rfl rfl hF rfl (aj rfl (hF.ev rfl)) ?_;clear hF;intro a hF
  refine af (v:=.int .i64 (x0.length:Int)) rfl rfl hF rfl (iL rfl rfl Tryz.underlying28 (hF.ev rfl)) ?_;clear hF;intro a hF
  refine af (v:=.int .i64 (x0.length:Int)) rfl rfl hF rfl (ax rfl (hF.ev rfl)) ?_;clear hF;intro a hF
  refine wpList_nil ?_
  refine wp_seq ?_
  obtain ⟨hk103,hM⟩:=cv hM
  replace hk103:=mb hk103
  obtain ⟨hk104,hM⟩:=cv hM
  replace hk104:=mb hk104
  obtain ⟨hk105,hM⟩:=cv hM
  replace hk105:=tg hk105
  have hp106:=(S.rc 0 rfl).cap
  have hq107:=Ht (l:=x0) (p:=x1) (q:=x2) rfl (by omega)
  refine zy (D:=[20,21,22,23,24,25,26,0]) (Lr:=(X)) (deps:=(fun |0=> [20] |1=> [21] |2=> [22] |3=> [23] |4=> [24] |5=> [25] |6=> [26] |7=> [0] |_=> [])) (rd:=(fun _=> [])) (zr:=(fun |2=> [6] |5=> [6] |_=> []))
   (φ:=fun i vs=>match i,vs with |0,[v20]=>v20= .slice A0 x0.length c0 |1,[v21]=>v21= .int .i64 x1 |2,[v22]=>v22= .slice (bm c0 ((0:Int).toNat) 2 A0) ((ac x0 0 x1).length) (c0-(0:Int).toNat) |3,[v23]=>v23= .slice A0 x0.length c0 |4,[v24]=>v24= .int .i64 x2 |5,[v25]=>v25= .slice (bm c0 x2.toNat 2 A0) ((ac x0 x2 (x0.length:Int)).length) (c0-x2.toNat) |6,[v26]=>v26= .slice A0 (((ac x0 0 x1)++(ac x0 x2 (x0.length:Int))).length) c0 |7,[v0]=>v0= .slice A0 (((ac x0 0 x1)++(ac x0 x2 (x0.length:Int))).length) c0 |_,_=>True)
   (C:=fun i vs=>match i,vs with |6,[v26]=> [.row 125 2 (.slice A0 (((ac x0 0 x1)++(ac x0 x2 (x0.length:Int))).length) c0) (((ac x0 0 x1)++(ac x0 x2 (x0.length:Int))).length) (((ac x0 0 x1)++(ac x0 x2 (x0.length:Int))).flatMap gi)] |_,_=> [])
   (κ:=(fun _=>none)) (Z:=(fun |6=> [.row 125 2 (.slice A0 x0.length c0) x0.length (x0.flatMap gi)] |_=> [])) mixed hF (by kernel_rfl) (show St w0 _ (Asn.row 125 2 (.slice A0 x0.length c0) x0.length (x0.flatMap gi)::X) from S.selT (M:=[.row 125 2 (.slice A0 x0.length c0) x0.length (x0.flatMap gi)]) 1 [0] rfl rfl rfl) ?_ ?_
  ·refine ⟨?_,?_,?_,?_,?_,?_,?_,?_,trivial⟩
   ·intro a u X' hB hu hp hr hz hl S
    replace S:St w0 u ([]++X'):=S
    exact .inl ⟨rfl,.slice A0 x0.length c0,u,(aj rfl (hF.evU (hu 7 0 rfl rfl) rfl)),rfl,S⟩
   ·intro a u X' hB hu hp hr hz hl S
    replace S:St w0 u ([]++X'):=S
    exact .inl ⟨rfl,.int .i64 x1,u,(aj rfl (hF.evB hB rfl rfl)),rfl,S⟩
   ·intro a u X' hB hu hp hr hz hl S
    replace S:St w0 u ([]++X'):=S
    have e20:sl a 20= .slice A0 x0.length c0:=hp 0 rfl
    have e21:sl a 21= .int .i64 x1:=hp 1 rfl
    exact .inl ⟨rfl,.slice (bm c0 ((0:Int).toNat) 2 A0) ((ac x0 0 x1).length) (c0-(0:Int).toNat),u,(qe (l:=x0) rfl Tryz.underlying28 zE (gJ e20) (gJ e21) hk103 rfl (sR (show Ow _ _ _ _ _ _ from S.mem (List.mem_append_right _ (hz 6 (List.mem_of_getElem? (i:=0) rfl) _ (List.mem_of_getElem? (i:=0) rfl))))).cap),rfl,S⟩
   ·intro a u X' hB hu hp hr hz hl S
    replace S:St w0 u ([]++X'):=S
    exact .inl ⟨rfl,.slice A0 x0.length c0,u,(aj rfl (hF.evU (hu 7 0 rfl rfl) rfl)),rfl,S⟩
   ·intro a u X' hB hu hp hr hz hl S
    replace S:St w0 u ([]++X'):=S
    exact .inl ⟨rfl,.int .i64 x2,u,(aj rfl (hF.evB hB rfl rfl)),rfl,S⟩
   ·intro a u X' hB hu hp hr hz hl S
    replace S:St w0 u ([]++X'):=S
    have e23:sl a 23= .slice A0 x0.length c0:=hp 3 rfl
    have e24:sl a 24= .int .i64 x2:=hp 4 rfl
    exact .inl ⟨rfl,.slice (bm c0 x2.toNat 2 A0) ((ac x0 x2 (x0.length:Int)).length) (c0-x2.toNat),u,(oU (l:=x0) rfl Tryz.underlying28 zE (gJ e23) (gJ e24) hk104 rfl (sR (show Ow _ _ _ _ _ _ from S.mem (List.mem_append_right _ (hz 6 (List.mem_of_getElem? (i:=0) rfl) _ (List.mem_of_getElem? (i:=0) rfl))))).cap),rfl,S⟩
   ·intro a u X' hB hu hp hr hz hl S
    replace S:St w0 u ([.row 125 2 (.slice A0 x0.length c0) x0.length (x0.flatMap gi)]++X'):=S
    have e22:sl a 22= .slice (bm c0 ((0:Int).toNat) 2 A0) ((ac x0 0 x1).length) (c0-(0:Int).toNat):=hp 2 rfl
    have e25:sl a 25= .slice (bm c0 x2.toNat 2 A0) ((ac x0 x2 (x0.length:Int)).length) (c0-x2.toNat):=hp 5 rfl
    obtain ⟨w',hrun,S'⟩:=S.delrow (i:=0) (P:=Tryz.prog) (ty:=28) (p:=x1) (q:=x2) rfl rfl vh vi Tryz.underlying28 zE (by omega) (by omega) (by omega)
    exact .inl ⟨rfl,_,w',qd rfl (gJ e22) (gJ e25) hrun,rfl,S'⟩
   ·intro a u X' hB hu hp hr hz hl S
    replace S:St w0 u ([]++X'):=S
    have e26:sl a 26= .slice A0 (((ac x0 0 x1)++(ac x0 x2 (x0.length:Int))).length) c0:=hp 6 rfl
    exact .inl ⟨rfl,.slice A0 (((ac x0 0 x1)++(ac x0 x2 (x0.length:Int))).length) c0,u,(ax rfl (gJ e26)),rfl,S⟩
  ·intro a u hB hp S
   obtain ⟨q0,q1,q2,q3,q4,q5,q6,q7,_⟩:=hp
   have e20:sl a 20= .slice A0 x0.length c0:=q0
   have e21:sl a 21= .int .i64 x1:=q1
   have e22:sl a 22= .slice (bm c0 ((0:Int).toNat) 2 A0) ((ac x0 0 x1).length) (c0-(0:Int).toNat):=q2
   have e23:sl a 23= .slice A0 x0.length c0:=q3
   have e24:sl a 24= .int .i64 x2:=q4
   have e25:sl a 25= .slice (bm c0 x2.toNat 2 A0) ((ac x0 x2 (x0.length:Int)).length) (c0-x2.toNat):=q5
   have e26:sl a 26= .slice A0 (((ac x0 0 x1)++(ac x0 x2 (x0.length:Int))).length) c0:=q6
   have e0:sl a 0= .slice A0 (((ac x0 0 x1)++(ac x0 x2 (x0.length:Int))).length) c0:=q7
   replace S:St w0 u (Asn.row 125 2 (.slice A0 (((ac x0 0 x1)++(ac x0 x2 (x0.length:Int))).length) c0) (((ac x0 0 x1)++(ac x0 x2 (x0.length:Int))).length) (((ac x0 0 x1)++(ac x0 x2 (x0.length:Int))).flatMap gi)::X):=S
   clear q0 q1 q2 q3 q4 q5 q6 q7
   have hF:=hF.region hB [(20,.slice A0 x0.length c0),(21,.int .i64 x1),(22,.slice (bm c0 ((0:Int).toNat) 2 A0) ((ac x0 0 x1).length) (c0-(0:Int).toNat)),(23,.slice A0 x0.length c0),(24,.int .i64 x2),(25,.slice (bm c0 x2.toNat 2 A0) ((ac x0 x2 (x0.length:Int)).length) (c0-x2.toNat)),(26,.slice A0 (((ac x0 0 x1)++(ac x0 x2 (x0.length:Int))).length) c0),(0,.slice A0 (((ac x0 0 x1)++(ac x0 x2 (x0.length:Int))).length) c0)] (ut ⟨e20,e21,e22,e23,e24,e25,e26,e0,trivial⟩) rfl
   clear hB e20 e21 e22 e23 e24 e25 e26 e0
   refine wp_seq ?_
   refine wp_region_lit ?_
   refine af (v:=.slice A0 (((ac x0 0 x1)++(ac x0 x2 (x0.length:Int))).length) c0) rfl rfl hF rfl (aj rfl (hF.ev rfl)) ?_;clear hF;intro a hF
   refine af (v:=.slice A0 (((ac x0 0 x1)++(ac x0 x2 (x0.length:Int))).length) c0) rfl rfl hF rfl (aj rfl (hF.ev rfl)) ?_;clear hF;intro a hF
   refine af (v:=.int .i64 ((((ac x0 0 x1)++(ac x0 x2 (x0.length:Int))).length):Int)) rfl rfl hF rfl (iL rfl rfl Tryz.underlying28 (hF.ev rfl)) ?_;clear hF;intro a hF
   refine af (v:=.int .i64 (x0.length:Int)) rfl rfl hF rfl (aj rfl (hF.ev rfl)) ?_;clear hF;intro a hF
   refine af (v:=.slice (bm c0 (((((ac x0 0 x1)++(ac x0 x2 (x0.length:Int))).length):Int).toNat) 2 A0) ((x0.length:Int).toNat-((((ac x0 0 x1)++(ac x0 x2 (x0.length:Int))).length):Int).toNat) (c0-((((ac x0 0 x1)++(ac x0 x2 (x0.length:Int))).length):Int).toNat)) rfl rfl hF rfl (ud rfl Tryz.underlying28 zE (hF.ev rfl) (hF.ev rfl) (hF.ev rfl) ⟨Int.natCast_nonneg _,Int.ofNat_le.2 hq107,Int.ofNat_le.2 hp106⟩) ?_;clear hF;intro a hF
   obtain ⟨w',hrun,S'⟩:=S.clear (i:=0) (P:=Tryz.prog) (hi:=(x0.length:Int)) rfl rfl vh Tryz.underlying28 LC rfl rfl ⟨Int.ofNat_le.2 hq107,Int.ofNat_le.2 hp106⟩
   refine vu rfl rfl rfl (hF.ev rfl) hrun ?_
   clear S hrun;have S:=S';clear S';generalize w'=u at S ⊢
   refine wpList_nil ?_
   refine wp_seq ?_
   refine wp_region_lit ?_
   refine af (v:=.slice A0 (((ac x0 0 x1)++(ac x0 x2 (x0.length:Int))).length) c0) rfl rfl hF rfl (aj rfl (hF.ev rfl)) ?_;clear hF;intro a hF
   refine af (v:=.slice A0 (((ac x0 0 x1)++(ac x0 x2 (x0.length:Int))).length) c0) rfl rfl hF rfl (ax rfl (hF.ev rfl)) ?_;clear hF;intro a hF
   refine wpList_nil ?_
   refine wp_ret ?_
   repeat with_reducible (first |refine dB ?_ |refine jc ?_ |refine jb ?_)
   refine fR (.inl rfl) hF rfl (fp (hF.ev rfl)) ?_
   obtain rfl:=Option.some.inj hM
   exact ⟨A0,(((ac x0 0 x1)++(ac x0 x2 (x0.length:Int))).length),c0,rfl,rfl,S.selT (M:=[.row 125 2 (.slice A0 (((ac x0 0 x1)++(ac x0 x2 (x0.length:Int))).length) c0) (((ac x0 0 x1)++(ac x0 x2 (x0.length:Int))).length) (((ac x0 0 x1)++(ac x0 x2 (x0.length:Int))).flatMap gi)]) 1 [0] rfl rfl rfl⟩
 ·replace hM:=PC hc102 hM
  refine qM hF rfl hc102 ?_
  refine wp_seq ?_
  refine wp_region_lit ?_
  refine af (v:=.slice A0 x0.length c0) rfl rfl hF rfl (aj rfl (hF.ev rfl)) ?_;clear hF;intro a hF
  refine af (v:=.slice A0 x0.length c0) rfl rfl hF rfl (ax rfl (hF.ev rfl)) ?_;clear hF;intro a hF
  refine wpList_nil ?_
  refine wp_ret ?_
  repeat with_reducible (first |refine dB ?_ |refine jc ?_ |refine jb ?_)
  refine fR (.inl rfl) hF rfl (fp (hF.ev rfl)) ?_
  obtain rfl:=Option.some.inj hM
  exact ⟨A0,x0.length,c0,rfl,rfl,S.selT (M:=[.row 125 2 (.slice A0 x0.length c0) x0.length (x0.flatMap gi)]) 1 [0] rfl rfl rfl⟩
def cD:Ctr:=⟨217,[.o (.sl .tk 125 Ae),AF,AF],[.o Bx],true,fun x=>aB x.1 x.2.1 x.2.2⟩
theorem iw:bD Tryz.prog cD:=⟨Uf,fun x res hm e w0 w X _ hp hS=>(iv (w:=w) (w0:=w0) (X:=X) (A0:=e.a 0) (n0:=x.1.length) (c0:=e.c 0) rfl hS hm).mono (by
 rintro en w' ⟨B,N,D,rfl,hN,S⟩
 subst hN
 exact ⟨_,_,rfl,⟨[_],[],[],[_],[],[],rfl,rfl,⟨_,[],_,[],[_],[],rfl,rfl,rfl,⟨res,B,D,rfl,rfl,rfl⟩,rfl,rfl,rfl⟩,⟨rfl,rfl⟩,⟨[],[],[],[],rfl,rfl,⟨rfl,rfl⟩,⟨[],[],[],[],rfl,rfl,⟨rfl,rfl⟩,⟨[],[],[],[],rfl,rfl,⟨rfl,rfl⟩,⟨rfl,rfl⟩⟩⟩⟩⟩,S⟩)⟩
def sp:Ctr:=⟨183,[AG,Bl],[Cb,AI],false,fun x=>lI x.1 x.2.1 x.2.2.1 x.2.2.2.1 x.2.2.2.2.1 x.2.2.2.2.2⟩
theorem yz:bD Tryz.prog sp:=ck [iN,ko,qs,bg,cD] [.cell 4 30,.tmp 5] (.q .z (.q Af (.q .z (.q Af (.q .z (.q (.q .z (.b (.q (.q .z (.cut ⟨[Bp,Ap,AR,AD,Ba,(39,Ab),(40,BU)],[(7,AC),(6,AK),(4,AK),(3,AK)],[]⟩ [] Ac)) (.cut Bf [] (.q .z (.q (.q .z (.cut ⟨[Bp,Ap,AR,AD,Ba,(39,Ab),(51,BU)],[(7,AC),(6,AK),(4,AK),(3,AK)],[]⟩ [] Ac)) (.cut Bg [] (.q .z (.q .z (.cut Bh [] (.q .z (.q .z (.cut Bh [] BM))))))))))))) Ac)))))) ⟨lq,nO,vC,cF,iw,trivial⟩ TO Tryz.func183 Tryz.ntmps183 rfl rfl rfl fun _=>by kernel_rfl
def qu:Ctr:=⟨119,[.bx 33 [Ag,.sl .mu 77 AE,.sl .mu 122 Ae,.sl .mu 4 .b,.sl .mu 4 .b,.sl .mu 125 Ae,Bt],Bl],By,true,fun x=>ju x.1 x.2.1 x.2.2.1 x.2.2.2.1 x.2.2.2.2.1 x.2.2.2.2.2.1 x.2.2.2.2.2.2.1 x.2.2.2.2.2.2.2.1 x.2.2.2.2.2.2.2.2.1 x.2.2.2.2.2.2.2.2.2⟩
theorem vE:bD Tryz.prog qu:=ck [gg,jO,aO,jN,sp,oQ] [.tmp 4] (.q .z (.q .z (.q (.q .z (.b (.q .z (.q (.q Af BB) (.q .z (.q (.q Af Ao) (.q .z (.cut ⟨[AZ,Bp,Ap],[(3,AK),(4096,Aj)],[]⟩ BF (.q Af .z))))))))) BB))) ⟨lN,pi,aZ,ph,yz,sh,trivial⟩ Tf Tryz.func119 Tryz.ntmps119 rfl rfl rfl fun _=>by kernel_rfl
def nq:Ctr:=⟨53,[Ad,Bl],[Ai,AI],false,fun x=>iG x.1 x.2.1 x.2.2.1 x.2.2.2.1 x.2.2.2.2.1 x.2.2.2.2.2.1 x.2.2.2.2.2.2.1 x.2.2.2.2.2.2.2.1 x.2.2.2.2.2.2.2.2.1 x.2.2.2.2.2.2.2.2.2⟩
theorem qP:bD Tryz.prog nq:=ck [bB,dO,bI,qu] [.cell 4 33,.tmp 5] (.q .z (.q Af (.q .z (.q (.q (.cut ⟨[AB,Ap,AR,AD,(23,BU)],[(6,Am),BA,(2,Aj)],[]⟩ [] .z) BM) Ac)))) ⟨bT,gh,cw,vE,trivial⟩ Ww Tryz.func53 Tryz.ntmps53 rfl rfl rfl fun _=>by kernel_rfl
def mB:Ctr:=⟨113,[AG],[Cp],false,fun x=>fF x.1 x.2.1 x.2.2⟩
theorem rY:bD Tryz.prog mB:=ck [] [.tmp 2] (.q .z (.q .z (.q (.q .z (.cut ⟨[AB,(3,AU)],[],[]⟩ [] (.b (.lp ⟨[AB,(3,AU),Ba,Bb,(9,Ah)],[],[]⟩ AN)))) Ac))) trivial Ta Tryz.func113 Tryz.ntmps113 rfl rfl rfl fun _=>by kernel_rfl
def qv:Ctr:=⟨115,[AF,AQ,.o .b],[Cp],false,fun x=>jv x.1 x.2.1 x.2.2⟩
theorem vF:bD Tryz.prog qv:=ck [] [.tmp 6] (.q .z (.q .z (.q (.q .z (.cut ⟨[AD,(7,AU)],[],[]⟩ [] (.b (.lp ⟨[AZ,AB,AD,(7,AU),(10,Ab),(11,Ab),(12,Ah)],[],[]⟩ (.q .z (.q Ac (.q (.b (.q .z (.q .z (.cut ⟨[AZ,AB,AD,(7,AU),(10,Ab),(11,Ab),BJ],[],[]⟩ [] Ac)))) .z))))))) Ac))) trivial Tc Tryz.func115 Tryz.ntmps115 rfl rfl rfl fun _=>by kernel_rfl
def rh:Ctr:=⟨46,[AF,AF],[Cm],false,fun x=>kM x.1 x.2⟩
theorem wU:bD Tryz.prog rh:=ck [] [.tmp 4] (.q .z (.q .z (.q (.q .z (.cut ⟨[Ap,(5,BG)],[],[]⟩ [] (.b (.lp ⟨[AZ,Ap,(5,BG),(10,Ab),(11,Ah)],[],[]⟩ AN)))) Ac))) trivial Wo Tryz.func46 Tryz.ntmps46 rfl rfl rfl fun _=>by kernel_rfl
def nu:Ctr:=⟨169,[Ak,AQ],[AO],false,fun x=>iH x.1 x.2.1 x.2.2⟩
theorem qQ:bD Tryz.prog nu:=ck [me,kv] [.tmp 4] (.q .z (.q .z (.q (.q .z (.cut ⟨[Ap,(5,Bw)],[],[]⟩ [] (.b (.lp Cf (.q .z (.q Ac (.q (.b (.q .z (.q .z (.cut Cg [] Ac)))) .z))))))) Ac))) ⟨qj,nS,trivial⟩ TA Tryz.func169 Tryz.ntmps169 rfl rfl rfl fun _=>by kernel_rfl
def oR:Ctr:=⟨110,Bz,[.g [As,As,As,As,As,As,As,As,As,As,As,As,As,As,As,As]],false,fun x=>jj x.1 x.2.1 x.2.2.1 x.2.2.2⟩
theorem sj:bD Tryz.prog oR:=ck [nu,eA] [.cell 6 142] (.q .z (.q .z (.q .z (.q (.q .z (.cut ⟨[AD,Ba],[(7,BV),(6,AJ)],[]⟩ [] (.b (.lp ⟨[AD,Ba,(8,Bw),(15,Ab),(16,Ab),(17,Ah)],[(7,BV),(6,AJ)],[]⟩ (.q .z (.q Ac (.q (.b BB) .z))))))) Ac)))) ⟨qQ,gW,trivial⟩ SX Tryz.func110 Tryz.ntmps110 rfl rfl rfl fun _=>by kernel_rfl
def kq:Ctr:=⟨47,Bz,[Bq],false,fun x=>eV x.1 x.2.1 x.2.2.1 x.2.2.2⟩
theorem nQ:bD Tryz.prog kq:=ck [oR] [.tmp 6] (.q .z (.q .z (.q (.q .z (.cut ⟨[AD,(8,Ah)],[],[]⟩ [] (.b (.lp ⟨[AD,Ba,(8,Ah),(16,Ab),(17,Ah)],[(7,AJ)],[]⟩ (.q .z (.q Ac (.q (.b (.q .z (.q .z (.cut ⟨[AD,Ba,(8,Ah),(16,Ab),(17,Ab)],[(7,AJ)],[]⟩ [] Ac)))) .z))))))) Ac))) ⟨sj,trivial⟩ Wp Tryz.func47 Tryz.ntmps47 rfl rfl rfl fun _=>by kernel_rfl
def re:Ctr:=⟨48,[AQ,AQ],[AO],false,fun x=>kJ x.1 x.2⟩
theorem wR:bD Tryz.prog re:=ck [] [.tmp 4] (.q .z (.q Af (.q .z (.q (.q .z (.cut BH [] (.b (.lp ⟨[AZ,Az,Ap,(5,Bd),BS,(14,Ah)],[],[]⟩ (.q .z (.q Ac (.q (.b (.q .z (.q .z (.cut ⟨[AZ,Az,Ap,(5,Bd),BS,(14,Ab)],[],[]⟩ [] Ac)))) .z))))))) Ac)))) trivial Wq Tryz.func48 Tryz.ntmps48 rfl rfl rfl fun _=>by kernel_rfl
def ox:Ctr:=⟨207,[BK,AF],[Bq],false,fun x=>ij x.1 x.2.1 x.2.2.1 x.2.2.2.1 x.2.2.2.2.1 x.2.2.2.2.2⟩
theorem tz:bD Tryz.prog ox:=ck [gY] [.tmp 4] Ao ⟨jX,trivial⟩ Ub Tryz.func207 Tryz.ntmps207 rfl rfl rfl fun _=>by kernel_rfl
def kr:Ctr:=⟨173,[BK,Av],[AO],false,fun x=>eX x.1 x.2.1 x.2.2.1 x.2.2.2.1 x.2.2.2.2.1 x.2.2.2.2.2⟩
theorem nR:bD Tryz.prog kr:=ck [ox] [.tmp 4] (.q .z (.q .z (.q .z (.q (.q .z (.cut ⟨[Ap,(5,Bw)],[],[]⟩ [] (.b (.lp ⟨[Az,AB,Ap,(5,Bw),(6,Bw),Co],[(2,AY)],[]⟩ (.q Ao (.q (.b (.q .z (.q .z (.q .z (.q .z (.cut ⟨[Az,AB,Ap,(5,Bw),(6,Bw),Ba],[(2,AY)],[]⟩ [] BM)))))) .z)))))) Ac)))) ⟨tz,trivial⟩ TE Tryz.func173 Tryz.ntmps173 rfl rfl rfl fun _=>by kernel_rfl
def oy:Ctr:=⟨174,[BK,Av,AF],[Bq],false,fun x=>il x.1 x.2.1 x.2.2.1 x.2.2.2.1 x.2.2.2.2.1 x.2.2.2.2.2.1 x.2.2.2.2.2.2⟩
theorem tA:bD Tryz.prog oy:=ck [] [.tmp 6] (.q .z (.q .z (.q (.q .z (.cut ⟨[AD,Co],[],[]⟩ [] (.b (.lp ⟨[Az,AB,AD,Co,(11,Ab),BJ,(13,Ah)],[],[]⟩ (.q .z (.q Ac (.q (.b (.q .z (.q .z (.cut ⟨[Az,AB,AD,Co,(11,Ab),BJ,BS],[],[]⟩ [] Ac)))) .z))))))) Ac))) trivial TH Tryz.func174 Tryz.ntmps174 rfl rfl rfl fun _=>by kernel_rfl
def pF:Ctr:=⟨112,[BK,Av],By,false,fun x=>iS x.1 x.2.1 x.2.2.1 x.2.2.2.1 x.2.2.2.2.1 x.2.2.2.2.2⟩
theorem uC:bD Tryz.prog pF:=ck [kr,oy] [.tmp 4] (.q .z (.q (.q .z (.cut ⟨[Az,AB,Ap],[(2,AY)],[]⟩ BF (.b (.lp ⟨[Az,AB,Ap,(11,Ab),BJ,(13,Ah)],[(2,AY)],[]⟩ AA)))) (.q (.q .z (.cut Bo BF (.b (.lp ⟨[Az,AB,Ap,(28,Ab),(29,Ab),(30,Ah)],[(2,AY)],[]⟩ AA)))) Ac))) ⟨nR,tA,trivial⟩ SZ Tryz.func112 Tryz.ntmps112 rfl rfl rfl fun _=>by kernel_rfl
def rf:Ctr:=⟨49,Bz,By,false,fun x=>kK x.1 x.2.1 x.2.2.1 x.2.2.2⟩
theorem wS:bD Tryz.prog rf:=ck [lH,pF] [.tmp 6] BB ⟨oK,uC,trivial⟩ Wr Tryz.func49 Tryz.ntmps49 rfl rfl rfl fun _=>by kernel_rfl
def lz:Ctr:=⟨12,[Ak,AQ,Av,Ch],[Cm,AI],false,fun x=>dJ x.1 x.2.1 x.2.2.1 x.2.2.2.1 x.2.2.2.2⟩
theorem pe:bD Tryz.prog lz:=ck [gL,bI,rh,kq,re,rf] [.tmp 8,.tmp 9] (.q .z (.q Af (.q .z (.q (.q .z (.cut ⟨[Az,AB,Ap,Bb,BQ,(10,Ah)],[Cq],[]⟩ [] (.b (.lp ⟨[Az,AB,Ap,Bb,BQ,(10,Ah),(25,Ab),(26,Ab),(27,Ah)],[Cq],[]⟩ (.q .z (.q Ac (.q (.b (.q .z (.q .z (.cut ⟨[Az,AB,Ap,Bb,BQ,(10,Ah),(25,Ab),(26,Ab),(27,Ab)],[Cq],[]⟩ [] Ac)))) .z))))))) (.q .z (.q .z (.q (.q .z (.cut ⟨[Bb,BQ,(13,.z 4 .b)],[],[]⟩ [] (.b (.lp ⟨[Az,AB,Ap,Bb,BQ,(10,Ab),(13,.z 4 .b),(14,Ah),(15,Ah),(42,Ab),(43,Ah)],[Cq],[]⟩ (.q .z (.q Ac (.q (.cut Bn [] (.b (.q .z (.q Ao (.q .z (.q .z (.q Ao (.q .z (.q .z (.cut Bn [] Ac)))))))))) .z))))))) Ac))))))) ⟨jm,cw,wU,nQ,wR,wS,trivial⟩ VT Tryz.func12 Tryz.ntmps12 rfl rfl rfl fun _=>by kernel_rfl
def rg:Ctr:=⟨175,[AQ,AQ],[.o (.row 157 (.p Aa .b))],false,fun x=>kL x.1 x.2⟩
theorem wT:bD Tryz.prog rg:=ck [] [.tmp 4] (.q .z (.q Af (.q .z (.q (.q .z (.cut ⟨[Ap,(5,AX),(6,AX)],[],[]⟩ [] (.b (.lp ⟨[AZ,Az,Ap,(5,AX),(6,AX),(19,Ab),(20,Ah)],[],[]⟩ (.q .z (.q Ac (.q (.b (.q .z (.b (.q .z (.cut ⟨[AZ,Az,Ap,(5,AX),(6,AX),(19,Ab),(20,Ab)],[],[]⟩ [] (.q .z (.q .z (.cut ⟨[AZ,Az,Ap,AR,(6,AX),(19,Ab),(20,Ab)],[],[]⟩ [] Ac)))))))) .z))))))) Ac)))) trivial TJ Tryz.func175 Tryz.ntmps175 rfl rfl rfl fun _=>by kernel_rfl
def mA:Ctr:=⟨116,[Ak,AQ,Av,Ch],[.o (.row 157 (.p Aa .b)),AI],false,fun x=>fC x.1 x.2.1 x.2.2.1 x.2.2.2.1 x.2.2.2.2⟩
theorem rX:bD Tryz.prog mA:=ck [lz,rg] [.tmp 8,.tmp 9] (.q .z BE) ⟨pe,wT,trivial⟩ Td Tryz.func116 Tryz.ntmps116 rfl rfl rfl fun _=>by kernel_rfl
def lA:Ctr:=⟨50,[Ad],[Cp],false,fun x=>dK x.1 x.2.1 x.2.2.1 x.2.2.2.1 x.2.2.2.2.1 x.2.2.2.2.2.1 x.2.2.2.2.2.2⟩
theorem pf:bD Tryz.prog lA:=ck [bB,mB,ft,qv,mA] [.tmp 2] (.q .z (.q Af (.q .z (.q .z (.q (.q .z (.cut ⟨[Az,AB,(3,AU),(4,BG)],Cs,[]⟩ [] (.b (.lp ⟨[Az,AB,(3,AU),(4,BG),(25,Ab),(26,Ab),(27,Ah)],Cs,[]⟩ (.q .z (.q Ac (.q (.b (.q .z (.q (.q .z (.cut ⟨[Az,AB,(3,AU),(4,BG),AD,(25,Ab),(26,Ab),(27,Ab)],Cs,[]⟩ [] BM)) (.q .z (.cut ⟨[Az,AB,(3,AU),Ap,(25,Ab),(26,Ab),(27,Ab)],Cs,[]⟩ [] (.b (.lp ⟨[Az,AB,(3,AU),Ap,AD,(25,Ab),(26,Ab),(27,Ab),(44,Ab),(45,Ah)],Cs,[]⟩ AN))))))) .z))))))) (.q .z (.q .z (.q (.q .z (.cut ⟨[AB,(3,AU)],[],[]⟩ [] (.b (.lp ⟨[AB,(3,AU),(71,Ab),(72,Ab),(73,Ah)],[],[]⟩ (.q .z (.q Ac (.q (.b (.q .z (.q .z (.q (.q .z (.cut ⟨[AB,Bp,BJ,(13,Ah),(71,Ab),(72,Ab),(73,Ab)],[(12,AC)],[]⟩ [] Ac)) .z)))) .z))))))) Ac)))))))) ⟨bT,rY,jh,vF,rX,trivial⟩ Ws Tryz.func50 Tryz.ntmps50 rfl rfl rfl fun _=>by kernel_rfl
def qt:Ctr:=⟨120,[Ad,.o (.sl .ro 86 AE)],[Ai,Bq],false,fun x=>jt x.1 x.2.1 x.2.2.1 x.2.2.2.1 x.2.2.2.2.1 x.2.2.2.2.2.1 x.2.2.2.2.2.2.1 x.2.2.2.2.2.2.2⟩
theorem vD:bD Tryz.prog qt:=ck [bB,dO,nq] [.cell 4 33,.tmp 5] (.q .z (.q Af (.q .z (.q (.q .z (.cut ⟨[Ap,AR,AD,Co],[(6,Am),BA],[]⟩ [] (.b (.lp ⟨[Ap,AR,AD,Co,(18,Ab),(19,Ab),(20,Ah)],[(6,Am),BA],[]⟩ (.q .z (.q Ac (.q (.b (.q .z (.q .z (.q .z (.cut ⟨[Ap,AR,AD,Co,(18,Ab),(19,Ab),(20,Ab)],[(6,Am),BA],[]⟩ [] BM))))) .z))))))) Ac)))) ⟨bT,gh,qP,trivial⟩ Tg Tryz.func120 Tryz.ntmps120 rfl rfl rfl fun _=>by kernel_rfl
def pE:Ctr:=⟨54,[Ad],[Ai],false,fun x=>iQ x.1 x.2.1 x.2.2.1 x.2.2.2.1 x.2.2.2.2.1 x.2.2.2.2.2.1 x.2.2.2.2.2.2⟩
theorem uB:bD Tryz.prog pE:=ck [lA,qt] [.cell 2 33] BB ⟨pf,vD,trivial⟩ Wx Tryz.func54 Tryz.ntmps54 rfl rfl rfl fun _=>by kernel_rfl
def qo:Ctr:=⟨121,[Ak,AQ,Av,AF],[Bq],false,fun x=>jq x.1 x.2.1 x.2.2.1 x.2.2.2.1 x.2.2.2.2⟩
theorem vz:bD Tryz.prog qo:=ck [lH,bI,kr] [.tmp 8] (.q .z BE) ⟨oK,cw,nR,trivial⟩ Ti Tryz.func121 Tryz.ntmps121 rfl rfl rfl fun _=>by kernel_rfl
def qy:Ctr:=⟨124,[Ch],[BR],false,fun x=>cZ x⟩
theorem vI:bD Tryz.prog qy:=ck [kE,nA] [.tmp 2] (.q .z (.q Af (.q .z (.q (.q .z (.cut ⟨[AB,(3,Ce)],[],[]⟩ [] (.b (.lp ⟨[AB,(3,Ce),BJ,BS,(14,Ah)],[],[]⟩ AN)))) Ac)))) ⟨mR,qS,trivial⟩ Tl Tryz.func124 Tryz.ntmps124 rfl rfl rfl fun _=>by kernel_rfl
def ol:Ctr:=⟨185,Bz,[AO],false,fun x=>gZ x.1 x.2.1 x.2.2.1 x.2.2.2⟩
theorem tq:bD Tryz.prog ol:=ck [gL,nu,oR,eA] [.tmp 6] (.q .z (.q Af (.q .z (.q .z (.q (.q .z (.cut ⟨[AD,(9,Bd)],[],[]⟩ [] (.b (.lp ⟨[AD,(7,Bw),Bb,(9,Bd),(24,Ab),(25,Ah)],[(8,AJ)],[]⟩ (.q .z (.q Ac (.q (.b (.q .z (.q .z (.cut ⟨[AD,Ba,Bb,(9,Bd),(24,Ab),(25,Ab)],[(8,AJ)],[]⟩ [] Ac)))) .z))))))) Ac))))) ⟨jm,qQ,sj,gW,trivial⟩ TP Tryz.func185 Tryz.ntmps185 rfl rfl rfl fun _=>by kernel_rfl
def kx:Ctr:=⟨219,[Ch,AF],[Bq],false,fun x=>dG x.1 x.2⟩
theorem pW:bD Tryz.prog kx:=ck [] [.tmp 4] (.q .z (.q (.q .z (.cut Bo BF (.b (.lp ⟨[AZ,Az,Ap,Ba,(8,Ah)],[],[]⟩ AA)))) Ac)) trivial Ug Tryz.func219 Tryz.ntmps219 rfl rfl rfl fun _=>by kernel_rfl
def iZ:Ctr:=⟨186,[Ch,AF],By,false,fun x=>cm x.1 x.2⟩
theorem nI:bD Tryz.prog iZ:=ck [kx] [.tmp 4] Ao ⟨pW,trivial⟩ TQ Tryz.func186 Tryz.ntmps186 rfl rfl rfl fun _=>by kernel_rfl
def pC:Ctr:=⟨125,[Ad],[AO],false,fun x=>dM x.1 x.2.1 x.2.2.1 x.2.2.2.1 x.2.2.2.2.1 x.2.2.2.2.2.1 x.2.2.2.2.2.2⟩
theorem uz:bD Tryz.prog pC:=ck [bB,ol,iZ] [.tmp 2] (.q .z (.q Af (.q .z (.q .z (.q (.q .z (.cut ⟨[AB,(4,Bd)],[],[]⟩ [] (.b (.lp ⟨[AB,Bp,(4,Bd),(19,Ab),(20,Ab),(21,Ah)],[],[]⟩ (.q .z (.q Ac (.q (.b (.q .z (.q .z (.cut ⟨[AB,Bp,(4,Bd),(19,Ab),(20,Ab),(21,Ab)],[],[]⟩ [] Ac)))) .z))))))) Ac))))) ⟨bT,tq,nI,trivial⟩ Tm Tryz.func125 Tryz.ntmps125 rfl rfl rfl fun _=>by kernel_rfl
def kj:Ctr:=⟨14,Bz,[Bq],false,fun x=>bW x.1 x.2.1 x.2.2.1 x.2.2.2⟩
theorem nN:bD Tryz.prog kj:=ck [gL,kq] [.tmp 6] BE ⟨jm,nQ,trivial⟩ VV Tryz.func14 Tryz.ntmps14 rfl rfl rfl fun _=>by kernel_rfl
def pA:Ctr:=⟨123,[AQ],[BR],false,fun x=>fT x⟩
theorem uw:bD Tryz.prog pA:=ck [] [.tmp 2] (.q .z (.q Af (.q .z (.q (.q .z (.cut ⟨[AB,(3,BW)],[],[]⟩ [] (.b (.lp ⟨[AB,(3,BW),BJ,BS,(14,Ah)],[],[]⟩ (.q .z (.q Ac (.q (.b (.q .z (.q .z (.q .z (.cut ⟨[AB,(3,BW),BJ,BS,(14,Ab)],[],[]⟩ [] Ac))))) .z))))))) Ac)))) trivial Tk Tryz.func123 Tryz.ntmps123 rfl rfl rfl fun _=>by kernel_rfl
def mC:Ctr:=⟨55,[Ad,BO],[BR],false,fun x=>fI x.1 x.2.1 x.2.2.1 x.2.2.2.1 x.2.2.2.2.1 x.2.2.2.2.2.1 x.2.2.2.2.2.2.1 x.2.2.2.2.2.2.2⟩
theorem rZ:bD Tryz.prog mC:=ck [ow,bI,qo,kE,nA,pA,kj,pC,qy,nn] [.tmp 4] (.q .z (.q (.q .z (.q (.q .z (.q (.b BC) Ac)) .z)) (.q (.q .z (.b (.q .z (.q Ac (.q .z (.q Ac (.q .z (.q Ac BC)))))))) Ac))) ⟨nP,cw,vz,mR,qS,uw,nN,uz,vI,qO,trivial⟩ Wy Tryz.func55 Tryz.ntmps55 rfl rfl rfl fun _=>by kernel_rfl
def pD:Ctr:=⟨16,[Ad,.o .s],[Ai,BR],false,fun x=>fV x.1 x.2.1 x.2.2.1 x.2.2.2.1 x.2.2.2.2.1 x.2.2.2.2.2.1 x.2.2.2.2.2.2.1 x.2.2.2.2.2.2.2⟩
theorem uA:bD Tryz.prog pD:=ck [bB,qE,qz,nq,pE,dO,mC] [.cell 4 33,.tmp 5] (.q .z (.q Af (.q .z (.q (.q .z (.q .z (.q BE .z))) (.q Af Ac))))) ⟨bT,vO,vJ,qP,uB,gh,rZ,trivial⟩ VW Tryz.func16 Tryz.ntmps16 rfl rfl rfl fun _=>by kernel_rfl
def qp:Ctr:=⟨41,[Ak,AF,AF],[Bq],false,fun x=>mh x.1 x.2.1 x.2.2.1 x.2.2.2⟩
theorem vA:bD Tryz.prog qp:=ck [jn,bI,gY] [.tmp 6] BE ⟨jl,cw,jX,trivial⟩ Wi Tryz.func41 Tryz.ntmps41 rfl rfl rfl fun _=>by kernel_rfl
def tK:Ctr:=⟨10,[],By,false,fun x=>mJ⟩
theorem zS:bD Tryz.prog tK:=ck [qp,nn] [.tmp 0] Ao ⟨vA,qO,trivial⟩ VR Tryz.func10 Tryz.ntmps10 rfl rfl rfl fun _=>by kernel_rfl
def ld:Ctr:=⟨8,[.o BX],[Ai,Cr],false,fun x=>cu x⟩
theorem qH:bD Tryz.prog ld:=ck [qC,bU,rl,iP] [.cell 2 33,.tmp 3] (.q .z (.q .z (.q .z (.q .z (.q (.q .z (.cut ⟨[AB,Bp,Ap,AR,(6,.o (.r 9 .s))],[(4,[.k,Aq]),(5,Aj),(2,Aj)],[]⟩ [] (.b (.lp ⟨[AB,Bp,Ap,AR,(6,.o (.r 9 .s)),Co],[(4,[.k,Aq]),(5,Aj),(2,Aj)],[]⟩ (.q Ao (.q (.b .z) .z)))))) (.q (.q .z (.cut ⟨[AB,Bp,AR,(6,.o (.r 9 .s))],[(5,Aj),(2,Aj)],[]⟩ [] Ac)) Ac)))))) ⟨vM,cV,wX,lu,trivial⟩ XB Tryz.func8 Tryz.ntmps8 rfl rfl rfl fun _=>by kernel_rfl
def oq:Ctr:=⟨11,[Ad,BO],[Ai,Cr],false,fun x=>ib x.1 x.2.1 x.2.2.1 x.2.2.2.1 x.2.2.2.2.1 x.2.2.2.2.2.1 x.2.2.2.2.2.2.1 x.2.2.2.2.2.2.2⟩
theorem tw:bD Tryz.prog oq:=ck [bB,dO,pD] [.cell 4 33,.tmp 5] (.q .z (.q Af (.q .z (.q .z (.q (.q .z (.cut ⟨[Ap,AR,AD,(7,Ce)],[(6,Am),BA],[]⟩ [] (.b (.lp ⟨[Ap,AR,AD,(7,Ce),(24,Ab),(25,Ab),(26,Ah)],[(6,Am),BA],[]⟩ AN)))) Ac))))) ⟨bT,gh,uA,trivial⟩ VS Tryz.func11 Tryz.ntmps11 rfl rfl rfl fun _=>by kernel_rfl
def pB:Ctr:=⟨13,[Ad],By,false,fun x=>fU x.1 x.2.1 x.2.2.1 x.2.2.2.1 x.2.2.2.2.1 x.2.2.2.2.2.1 x.2.2.2.2.2.2⟩
theorem ux:bD Tryz.prog pB:=ck [bB,lA] [.tmp 2] (.q .z (.q (.cut ⟨[(2,BU)],[],[]⟩ [] .z) .z)) ⟨bT,pf,trivial⟩ VU Tryz.func13 Tryz.ntmps13 rfl rfl rfl fun _=>by kernel_rfl
def sL:Ctr:=⟨3,[.o BX],By,false,fun x=>gz x⟩
theorem sF:bD Tryz.prog sL:=ck [ld,kB,tK,oq,lz,pB,kj] [.tmp 2] (.q .z (.q Af Ck)) ⟨qH,nV,zS,tw,pe,ux,nN,trivial⟩ ⟨by kernel_rfl⟩ Tryz.func3 Tryz.ntmps3 rfl rfl rfl fun _=>by kernel_rfl
theorem sD {x0:List Int} {A0:Option Addr} {n0 c0:Nat} {w:World} (hbs:Bs w) {r:Bool} (h0:Rt w 1 eU A0 n0 c0 x0) (hM:gz x0=some r):
 Calls Tryz.prog 3 #[.slice A0 n0 c0] w (fun e w'=>e= .returned (.bool r)∧St w w' []):=by
 obtain rfl:=h0.len
 exact PT sF (x:=x0) hM (e:=RS [(A0,c0)]) hbs ⟨_,_,rfl,⟨_,rfl,fun _ _ S _=>S.rc0 h0.rc⟩,rfl⟩ rfl rfl rfl
end
end Go.Proofs.YtjdlgannencchaaGreatDoor
namespace Go.Proofs.YtjdlgannencchaaGreatDoor
open Go.Lib
set_option linter.unusedVariables false
set_option linter.unusedSimpArgs false
def tl (s:ByteArray):List UInt8:=s.data.toList
theorem Dv (s:ByteArray):(tl s).length=s.size:=by simp [tl]
theorem Du (l:List UInt8):tl (bH l)=l:=iB l
theorem Pr (s:ByteArray):s.toList=tl s:=ByteArray.toList_eq s
theorem IX (s:ByteArray) (k:Nat):pT s (k:Int)=(((tl s).getD k 0).toNat:Int):=rfl
theorem zc (c:UInt8):dv c≤207:=by have:=c.toNat_lt;unfold dv;omega
theorem Pt (l:List UInt8) (h:l.length≤3):lE l≤100000:=by
 match l,h with
 | [],_=>simp [lE]
 | [a],_=>have:=zc a;simp [lE];omega
 | [a,b],_=>have:=zc a;have:=zc b;simp [lE];omega
 | [a,b,c],_=>have:=zc a;have:=zc b;have:=zc c;simp [lE];omega
theorem JZ (l:List UInt8) {k:Nat} (h:k<l.length):lE (l.take (k+1))=10*lE (l.take k)+dv (l.getD k 0):=by
 unfold lE
 rw [List.take_succ_eq_append_getElem h,List.foldl_append,ae h];rfl
theorem KH (c:UInt8):(am (c.toNat:Int) 48 ||am 57 (c.toNat:Int))= !mH c:=by
 unfold am mH
 by_cases h1:48≤c.toNat<;>by_cases h2:c.toNat≤57<;>simp [h1,h2]<;>omega
theorem KG (s:ByteArray) (h:s.size≤3):cC s ao (0,0)=some (if (tl s).all mH=true then .inl (lE (tl s):Int) else .inr (-1)):=by
 have hl:=Dv s
 have hh:=cc (cC s) (fun k=>((lE ((tl s).take k):Int),(k:Int))) s.size (fun k=> !mH ((tl s).getD k 0)) (some (.inr (-1))) (some (.inl (lE (tl s):Int))) (by omega) (fun k fuel hk=>by
  have hk2:k<(tl s).length:=by omega
  have hv:=Pt ((tl s).take k) (by simp;omega)
  rw [mX,fK]
  simp only [aK hk,ah hk,IX,KH,Bool.or_true,aa,cond_true,ai (by omega:k<4611686018427387904)]
  cases hd:mH ((tl s).getD k 0) with
  |false=>rfl
  |true=>
   have hr:=tJ hd
   have hdv:(((tl s).getD k 0).toNat:Int)-48=(dv ((tl s).getD k 0):Int):=by unfold dv;omega
   have hlt:=po hd
   simp only [Bool.not_true,cond_false]
   have e1:ak (10*(lE ((tl s).take k):Int))=10*(lE ((tl s).take k):Int):=yn (by omega)
   have e2:ak (dv ((tl s).getD k 0):Int)=(dv ((tl s).getD k 0):Int):=yn (by omega)
   rw [hdv,Xy (by omega),e1,e2,yn (by omega),JZ _ hk2]
   rfl) (fun fuel=>by
   have ht:(tl s).take s.size=tl s:=List.take_of_length_le (by omega)
   rw [mX,fK,ht]
   simp only [av,cond_false])
 rw [←hl,DL (tl s) 0 (fun c=> !mH c)] at hh
 have hany:(tl s).any (fun c=> !mH c)= !(tl s).all mH:=by simp [List.all_eq_not_any_not]
 rw [hany] at hh
 rw [show cC s ao (0,0)=_ from hh]
 cases (tl s).all mH<;>rfl
theorem Oi (s:ByteArray):jw s=some (Gc (tl s)):=by
 have hl:=Dv s
 unfold jw Gc
 by_cases h:1≤s.size∧s.size≤3
 ·rw [show am (s.size:Int) 1=false from decide_eq_false (by omega),show am 3 (s.size:Int)=false from decide_eq_false (by omega),KG s h.2]
  by_cases ha:(tl s).all mH=true
  ·have hc:1≤(tl s).length∧(tl s).length≤3∧(tl s).all mH=true:=⟨by omega,by omega,ha⟩
   rw [if_pos hc];simp [ha]
  ·have hc: ¬(1≤(tl s).length∧(tl s).length≤3∧(tl s).all mH=true):=fun k=>ha k.2.2
   rw [if_neg hc];simp [ha]
 ·have hc: ¬(1≤(tl s).length∧(tl s).length≤3∧(tl s).all mH=true):=fun k=>h ⟨by omega,by omega⟩
  rw [if_neg hc]
  have:(am (s.size:Int) 1 ||am 3 (s.size:Int))=true:=by
   unfold am;simp only [Bool.or_eq_true,decide_eq_true_eq];omega
  rw [this];rfl
theorem tG (s:ByteArray):az s=some (Gc (tl s),decide (0≤iy (tl s))):=by
 have hb:=QD (tl s)
 unfold az
 rw [Oi,Option.bind_some]
 by_cases h:0≤Gc (tl s)
 ·obtain ⟨n,hn⟩: ∃n:Nat,Gc (tl s)=n:=⟨(Gc (tl s)).toNat,by omega⟩
  have h3:=LW (tl s)
  rw [hn] at hb h3 ⊢
  rw [show bb 0 (n:Int)=true from decide_eq_true (by omega),HT (by omega)]
  simp only [gb,cond_true,Option.bind_some,Bool.true_and,pb,Pr]
  rw [Int.toNat_natCast] at h3
  congr 2
  rw [Bool.eq_iff_iff,beq_iff_eq,decide_eq_true_eq,←h3]
  exact ⟨fun e=>⟨by omega,e⟩,fun e=>e.2⟩
 ·have h3: ¬0≤iy (tl s):=fun k=>h (by rw [qT k];exact k)
  rw [show bb 0 (Gc (tl s))=false from decide_eq_false h,decide_eq_false h3]
  rfl
end Go.Proofs.YtjdlgannencchaaGreatDoor
namespace Go.Proofs.YtjdlgannencchaaGreatDoor
open Go.ChangeShapes Go.WideShapes Go.ChangeAt Go.RowKit
set_option linter.unusedVariables false
set_option linter.unusedSimpArgs false
theorem sO {σ Out:Type} (L:Nat→σ→Option Out) (st:Nat→σ) (n:Nat) (P:Nat→Bool) (fv:Nat→Option Out) (out:Option Out) (hn:n≤1099511627776) (hstep: ∀k fuel,k<n→L (fuel+1) (st k)=bif P k then fv k else L fuel (st (k+1))) (hend: ∀fuel,L (fuel+1) (st n)=out):
 L ao (st 0)=match (List.range n).find? P with |some k=>fv k |none=>out:=by
 have key: ∀j k fuel,k+j=n→j<fuel→L fuel (st k)=match (List.range' k j).find? P with |some k=>fv k |none=>out:=by
  intro j
  induction j with
  |zero=>
   intro k fuel hk hf
   obtain ⟨f,rfl⟩: ∃f,fuel=f+1:=⟨fuel-1,by omega⟩
   obtain rfl:k=n:=by omega
   simpa using hend f
  |succ j ih=>
   intro k fuel hk hf
   obtain ⟨f,rfl⟩: ∃f,fuel=f+1:=⟨fuel-1,by omega⟩
   rw [hstep k f (by omega),ih (k+1) f (by omega) (by omega),List.range'_succ,List.find?_cons]
   cases P k<;>simp
 rw [key n 0 ao (by omega) (mG hn),List.range_eq_range']
abbrev Pm:=List (Int×Int)
abbrev Wk:=List Bool×List Bool×Pm
def Ke (l:Pm) (p:Int×Int):Int:=match (List.range l.length).find? (fun k=>(l.getD k (0,0)).1==p.1&&(l.getD k (0,0)).2==p.2) with |some k=>(k:Int) |none=> -1
theorem pz (l:Pm) (p:Int×Int):(Ke l p= -1∧p∉l)∨(∃k,k<l.length∧Ke l p=(k:Int)∧l.getD k (0,0)=p∧ ∀j,j<k→l.getD j (0,0)≠p):=by
 unfold Ke
 cases h:(List.range l.length).find? (fun k=>(l.getD k (0,0)).1==p.1&&(l.getD k (0,0)).2==p.2) with
 |none=>
  left
  refine ⟨rfl,fun hp=>?_⟩
  obtain ⟨k,hk,rfl⟩:=List.mem_iff_getElem.1 hp
  have:=List.find?_eq_none.1 h k (by simpa using hk)
  rw [ae hk] at this
  simp at this
 |some k=>
  right
  obtain ⟨h1,h2,h3⟩:=List.find?_range_eq_some.1 h
  have hk:k<l.length:=by simpa using h2
  simp only [Bool.and_eq_true,beq_iff_eq] at h1
  refine ⟨k,hk,rfl,Prod.ext h1.1 h1.2,fun j hj e=>?_⟩
  have:=h3 j hj
  rw [e] at this
  simp at this
theorem Cv {l:Pm} {p:Int×Int}:bb 0 (Ke l p)=decide (p∈l):=by
 rcases pz l p with ⟨h1,h2⟩ |⟨k,hk,h1,h2,h3⟩
 ·rw [h1];simp [bb,h2]
 ·have:p∈l:=by rw [←h2,ae hk];exact List.getElem_mem hk
  rw [h1];simp [bb,this]
theorem mK {l:Pm} {p:Int×Int} {k:Nat}:p∈l.take k↔ ∃j,j<k∧j<l.length∧l.getD j (0,0)=p:=by
 constructor
 ·intro h
  obtain ⟨j,hj,rfl⟩:=List.mem_iff_getElem.1 h
  have hj':j<k∧j<l.length:=by rw [List.length_take] at hj;omega
  exact ⟨j,hj'.1,hj'.2,by rw [ae hj'.2];simp⟩
 ·rintro ⟨j,h1,h2,rfl⟩
  rw [ae h2]
  exact List.mem_iff_getElem.2 ⟨j,by simp;omega,by simp⟩
theorem KX {l:Pm} {k:Nat} (hk:k<l.length):am (Ke l (l.getD k (0,0))) (k:Int)=decide (l.getD k (0,0)∈l.take k):=by
 rcases pz l (l.getD k (0,0)) with ⟨h1,h2⟩ |⟨i,hi,h1,h2,h3⟩
 ·exact absurd (by rw [ae hk];exact List.getElem_mem hk) h2
 ·rw [h1]
  have hle:i≤k:=by
   rcases Nat.lt_or_ge k i with h |h
   ·exact absurd rfl (h3 k h)
   ·exact h
  rcases Nat.lt_or_ge i k with h |h
  ·have:l.getD k (0,0)∈l.take k:=mK.2 ⟨i,h,hi,h2⟩
   rw [decide_eq_true this];exact decide_eq_true (by omega)
  ·obtain rfl:i=k:=by omega
   have: ¬l.getD i (0,0)∈l.take i:=fun hm=>by
    obtain ⟨j,j1,j2,j3⟩:=mK.1 hm
    exact h3 j j1 j3
   rw [decide_eq_false this];exact decide_eq_false (by omega)
def xP (on earth:List Bool) (pm:Pm) (k:Nat):Bool:=
 yD (pm.getD k (0,0)).1 0 9&&(decide (0≤(pm.getD k (0,0)).2)&&decide ((pm.getD k (0,0)).2<(on.length:Int)))&&earth.getD (pm.getD k (0,0)).2.toNat false&& !decide (pm.getD k (0,0)∈pm.take k)
def jR (on earth:List Bool) (pm:Pm):Bool:=
 yD (on.length:Int) 1 10&&(earth.length==on.length)&&decide (pm.length≤6)&&(!(List.range on.length).any fun k=>on.getD k false&&earth.getD k false)&& !(List.range pm.length).any fun k=> !xP on earth pm k
structure WorkOk (on earth:List Bool) (pm:Pm):Prop where
 l0:1≤on.length
 l1:on.length≤10
 le:earth.length=on.length
 lp:pm.length≤6
 ne: ∀k,on.getD k false=true→earth.getD k false=false
 pm: ∀k,k<pm.length→(0≤(pm.getD k (0,0)).1∧(pm.getD k (0,0)).1≤9)∧(0≤(pm.getD k (0,0)).2∧(pm.getD k (0,0)).2<(on.length:Int))∧earth.getD (pm.getD k (0,0)).2.toNat false=true∧pm.getD k (0,0)∉pm.take k
theorem Fa {on earth:List Bool} {pm:Pm} {k:Nat}:xP on earth pm k=true↔(0≤(pm.getD k (0,0)).1∧(pm.getD k (0,0)).1≤9)∧(0≤(pm.getD k (0,0)).2∧(pm.getD k (0,0)).2<(on.length:Int))∧earth.getD (pm.getD k (0,0)).2.toNat false=true∧pm.getD k (0,0)∉pm.take k:=by
 simp only [xP,Bool.and_eq_true,oh,decide_eq_true_eq,Bool.not_eq_true',decide_eq_false_iff_not,and_assoc]
theorem DK {n:Nat} {f:Nat→Bool}:(!(List.range n).any f)=true↔ ∀k,k<n→f k=false:=by
 rw [Bool.not_eq_true',List.any_eq_false]
 simp only [List.mem_range,Bool.not_eq_true]
theorem pN {on earth:List Bool} {pm:Pm}:jR on earth pm=true↔WorkOk on earth pm:=by
 unfold jR
 rw [Bool.and_eq_true,DK,Bool.and_eq_true,DK,Bool.and_eq_true,Bool.and_eq_true,oh,beq_iff_eq,decide_eq_true_eq]
 constructor
 ·rintro ⟨⟨⟨⟨h1,h2⟩,h3⟩,h4⟩,h5⟩
  refine ⟨by omega,by omega,h2,h3,fun k hk=>?_,fun k hk=>Fa.1 (by have:=h5 k hk;simpa using this)⟩
  by_cases hl:k<on.length
  ·have:=h4 k hl
   rw [hk] at this
   simpa using this
  ·simp [List.getD,List.getElem?_eq_none (Nat.le_of_not_lt hl)] at hk
 ·intro h
  have:=h.l0;have:=h.l1
  refine ⟨⟨⟨⟨by omega,h.le⟩,h.lp⟩,fun k hk=>?_⟩,fun k hk=>by rw [Fa.2 (h.pm k hk)];rfl⟩
  cases ho:on.getD k false
  ·rfl
  ·rw [h.ne k ho];rfl
theorem US (n:Int):yD n 1 10=(!am n 1&& !am 10 n):=by rw [Bool.eq_iff_iff];simp [yD,am]
theorem Xr (n:Nat):am 6 (n:Int)= !decide (n≤6):=by rw [Bool.eq_iff_iff];simp [am];omega
theorem Hm (a b:Nat):((a:Int) !=(b:Int))= !(a==b):=by rw [Bool.eq_iff_iff];simp;omega
def cA (pm:Pm) (line:Int):List Int:=(pm.filter (·.2==line)).map (·.1)
theorem zi {pm:Pm} {line:Int} {k:Nat} (hk:k<pm.length):cA (pm.take (k+1)) line=if (pm.getD k (0,0)).2==line then cA (pm.take k) line++ [(pm.getD k (0,0)).1] else cA (pm.take k) line:=by
 unfold cA
 rw [List.take_succ_eq_append_getElem hk,List.filter_append,List.map_append,ae hk]
 cases h:pm[k].2==line<;>simp [h]
theorem xl (pm:Pm) (line:Int):(cA pm line).length≤pm.length:=by
 unfold cA;rw [List.length_map];exact List.length_filter_le _ _
def dV (w:Wk) (kd a who:Int):Bool:=
 if kd=0∨kd=2 then !w.1.getD a.toNat false&& !w.2.1.getD a.toNat false
 else if kd=1 then w.1.getD a.toNat false
 else if kd=3 then w.2.1.getD a.toNat false&&decide (cA w.2.2 a=[])
 else if kd=4 then w.2.1.getD a.toNat false&&(yD who 0 9&& !decide ((who,a)∈w.2.2)&&decide (w.2.2.length<6))
 else if kd=5 then decide ((who,a)∈w.2.2)
 else false
def cg (w:Wk) (kd a who:Int):Wk:=
 if kd=0 then (w.1.set a.toNat true,w.2.1,w.2.2)
 else if kd=1 then (w.1.set a.toNat false,w.2.1,w.2.2)
 else if kd=2 then (w.1,w.2.1.set a.toNat true,w.2.2)
 else if kd=3 then (w.1,w.2.1.set a.toNat false,w.2.2)
 else if kd=4 then (w.1,w.2.1,w.2.2++ [(who,a)])
 else (w.1,w.2.1,w.2.2.take (Ke w.2.2 (who,a)).toNat++w.2.2.drop ((Ke w.2.2 (who,a)).toNat+1))
def cU (w:Wk) (kd a who:Int):Wk×Bool:=
 if jR w.1 w.2.1 w.2.2 then (if 0≤a∧a<(w.1.length:Int)∧dV w kd a who=true then (cg w kd a who,true) else (w,false)) else (([],[],[]),false)
def kT (r:Wk×Bool):List Bool×List Bool×Pm×Bool:=(r.1.1,r.1.2.1,r.1.2.2,r.2)
theorem Ig (l:List Int):((l.length:Int)==0)=decide (l=[]):=by cases l<;>simp;omega
theorem OU (w:Wk) (kd a who:Int):(cg w kd a who).1.length=w.1.length∧(cg w kd a who).2.1.length=w.2.1.length∧(cg w kd a who).2.2.length≤w.2.2.length+1:=by
 unfold cg
 repeat' split
 all_goals simp
 omega
def nH (s:Int×Wk) (d:Int×Int×Int):Int×Wk:=if (cU s.2 d.1 d.2.1 d.2.2).2=true then (s.1+1,(cU s.2 d.1 d.2.1 d.2.2).1) else s
theorem oO {α:Type} {l:List α} {k:Nat} {y d:α} (hk:k<l.length):(l.set k y).getD k d=y:=by simp [List.getD,hk]
theorem dW {α:Type} {l:List α} {i j:Nat} {y d:α} (h:i≠j):(l.set i y).getD j d=l.getD j d:=by simp [List.getD,List.getElem?_set_ne h]
theorem QT {α:Type} {l:List α} {k:Nat} {d:α} (h:l.length≤k):l.getD k d=d:=by simp [List.getD,List.getElem?_eq_none h]
structure WOk (w:Wk):Prop where
 l0:1≤w.1.length
 l1:w.1.length≤10
 le:w.2.1.length=w.1.length
 lp:w.2.2.length≤6
 ne: ∀k,w.1.getD k false=true→w.2.1.getD k false=false
 pm: ∀p∈w.2.2,(0≤p.1∧p.1≤9)∧(0≤p.2∧p.2<(w.1.length:Int))∧w.2.1.getD p.2.toNat false=true
 nd:w.2.2.Nodup
theorem wE {w:Wk}:jR w.1 w.2.1 w.2.2=true↔WOk w:=by
 rw [pN]
 constructor
 ·intro h
  refine ⟨h.l0,h.l1,h.le,h.lp,h.ne,fun p hp=>?_,?_⟩
  ·obtain ⟨k,hk,rfl⟩:=List.mem_iff_getElem.1 hp
   have:=h.pm k hk
   rw [ae hk] at this
   exact ⟨this.1,this.2.1,this.2.2.1⟩
  ·rw [List.nodup_iff_pairwise_ne,List.pairwise_iff_getElem]
   intro i j hi hj hij e
   refine (h.pm j hj).2.2.2 (mK.2 ⟨i,hij,hi,?_⟩)
   rw [ae hi,ae hj,e]
 ·intro h
  refine ⟨h.l0,h.l1,h.le,h.lp,h.ne,fun k hk=>?_⟩
  have hm:=h.pm (w.2.2.getD k (0,0)) (by rw [ae hk];exact List.getElem_mem hk)
  refine ⟨hm.1,hm.2.1,hm.2.2,fun ht=>?_⟩
  obtain ⟨j,h1,h2,h3⟩:=mK.1 ht
  have hp:=h.nd
  rw [List.nodup_iff_pairwise_ne,List.pairwise_iff_getElem] at hp
  rw [ae h2,ae hk] at h3
  exact hp j k h2 hk h1 h3
theorem JI {w:Wk} {a who:Int} (hm:(who,a)∈w.2.2): ∃A B,w.2.2=A++(who,a)::B∧cg w 5 a who=(w.1,w.2.1,A++B):=by
 rcases pz w.2.2 (who,a) with ⟨h1,h2⟩ |⟨k,hk,h1,h2,h3⟩
 ·exact absurd hm h2
 refine ⟨w.2.2.take k,w.2.2.drop (k+1),?_,?_⟩
 ·rw [←h2,ae hk];simp
 ·unfold cg
  rw [if_neg (by decide),if_neg (by decide),if_neg (by decide),if_neg (by decide),if_neg (by decide),h1,Int.toNat_natCast]
theorem Lm {pm:Pm} {line x:Int}:x∈cA pm line↔(x,line)∈pm:=by
 simp only [cA,List.mem_map,List.mem_filter,beq_iff_eq]
 constructor
 ·rintro ⟨p,⟨h1,h2⟩,h3⟩
  rw [←h3,←h2];exact h1
 ·intro h;exact ⟨(x,line),⟨h,rfl⟩,rfl⟩
theorem RC {A B:Pm} {p:Int×Int} (h:(A++p::B).Nodup):(A++B).Nodup∧p∉A++B:=by
 rw [List.nodup_append] at h
 obtain ⟨h1,h2,h3⟩:=h
 rw [List.nodup_cons] at h2
 refine ⟨List.nodup_append.2 ⟨h1,h2.2,fun a ha b hb=>h3 a ha b (by simp [hb])⟩,fun hm=>?_⟩
 rcases List.mem_append.1 hm with hm |hm
 ·exact h3 p hm p (by simp) rfl
 ·exact h2.1 hm
theorem GC {w:Wk} {kd a who:Int} (h:WOk w) (ha:0≤a∧a<(w.1.length:Int)) (hm:dV w kd a who=true):WOk (cg w kd a who)∧cg w kd a who≠w∧dV (cg w kd a who) kd a who=false:=by
 have hal:a.toNat<w.1.length:=by omega
 have hae:a.toNat<w.2.1.length:=by have:=h.le;omega
 by_cases k0:kd=0
 ·subst k0
  have hm:w.1.getD a.toNat false=false∧w.2.1.getD a.toNat false=false:=by simpa only [dV,true_or,if_true,Bool.and_eq_true,Bool.not_eq_true'] using hm
  have e:cg w 0 a who=(w.1.set a.toNat true,w.2.1,w.2.2):=rfl
  rw [e]
  refine ⟨⟨by simpa using h.l0,by simpa using h.l1,by simpa using h.le,h.lp,fun k hk=>?_,fun p hp=>by simpa using h.pm p hp,h.nd⟩,fun hc=>?_,?_⟩
  ·by_cases hka:a.toNat=k
   ·rw [←hka];exact hm.2
   ·exact h.ne k (by rwa [dW hka] at hk)
  ·have:=congrArg (fun w:Wk=>w.1.getD a.toNat false) hc
   simp only [oO hal,hm.1] at this
   cases this
  ·simp only [dV,true_or,if_true,oO hal];rfl
 by_cases k1:kd=1
 ·subst k1
  have hm:w.1.getD a.toNat false=true:=hm
  have e:cg w 1 a who=(w.1.set a.toNat false,w.2.1,w.2.2):=rfl
  rw [e]
  refine ⟨⟨by simpa using h.l0,by simpa using h.l1,by simpa using h.le,h.lp,fun k hk=>?_,fun p hp=>by simpa using h.pm p hp,h.nd⟩,fun hc=>?_,?_⟩
  ·by_cases hka:a.toNat=k
   ·rw [←hka] at hk;rw [oO hal] at hk;cases hk
   ·exact h.ne k (by rwa [dW hka] at hk)
  ·have:=congrArg (fun w:Wk=>w.1.getD a.toNat false) hc
   simp only [oO hal,hm] at this
   cases this
  ·exact oO hal
 by_cases k2:kd=2
 ·subst k2
  have hm:w.1.getD a.toNat false=false∧w.2.1.getD a.toNat false=false:=by simpa only [dV,or_true,if_true,Bool.and_eq_true,Bool.not_eq_true'] using hm
  have e:cg w 2 a who=(w.1,w.2.1.set a.toNat true,w.2.2):=rfl
  rw [e]
  refine ⟨⟨h.l0,h.l1,by simpa using h.le,h.lp,fun k hk=>?_,fun p hp=>?_,h.nd⟩,fun hc=>?_,?_⟩
  ·by_cases hka:a.toNat=k
   ·rw [←hka] at hk;rw [hm.1] at hk;cases hk
   ·rw [dW hka];exact h.ne k hk
  ·obtain ⟨p1,p2,p3⟩:=h.pm p hp
   refine ⟨p1,p2,?_⟩
   by_cases hka:a.toNat=p.2.toNat
   ·rw [←hka,oO hae]
   ·rw [dW hka];exact p3
  ·have:=congrArg (fun w:Wk=>w.2.1.getD a.toNat false) hc
   simp only [oO hae,hm.2] at this
   cases this
  ·simp only [dV,or_true,if_true,oO hae];simp
 by_cases k3:kd=3
 ·subst k3
  have hm:w.2.1.getD a.toNat false=true∧cA w.2.2 a=[]:=by
   have:(w.2.1.getD a.toNat false&&decide (cA w.2.2 a=[]))=true:=hm
   simpa only [Bool.and_eq_true,decide_eq_true_eq] using this
  have e:cg w 3 a who=(w.1,w.2.1.set a.toNat false,w.2.2):=rfl
  rw [e]
  refine ⟨⟨h.l0,h.l1,by simpa using h.le,h.lp,fun k hk=>?_,fun p hp=>?_,h.nd⟩,fun hc=>?_,?_⟩
  ·by_cases hka:a.toNat=k
   ·rw [←hka,oO hae]
   ·rw [dW hka];exact h.ne k hk
  ·obtain ⟨p1,p2,p3⟩:=h.pm p hp
   refine ⟨p1,p2,?_⟩
   have hka:a.toNat≠p.2.toNat:=fun hka=>by
    have hpa:p.2=a:=by omega
    have:p.1∈cA w.2.2 a:=Lm.2 (by rw [←hpa];exact hp)
    rw [hm.2] at this;simp at this
   rw [dW hka];exact p3
  ·have:=congrArg (fun w:Wk=>w.2.1.getD a.toNat false) hc
   simp only [oO hae,hm.1] at this
   cases this
  ·show ((w.2.1.set a.toNat false).getD a.toNat false&&_)=false
   rw [oO hae];rfl
 by_cases k4:kd=4
 ·subst k4
  have hm:w.2.1.getD a.toNat false=true∧(0≤who∧who≤9)∧(who,a)∉w.2.2∧w.2.2.length<6:=by
   have:(w.2.1.getD a.toNat false&&(yD who 0 9&& !decide ((who,a)∈w.2.2)&&decide (w.2.2.length<6)))=true:=hm
   simp only [Bool.and_eq_true,decide_eq_true_eq,oh,Bool.not_eq_true',decide_eq_false_iff_not] at this
   exact ⟨this.1,this.2.1.1,this.2.1.2,this.2.2⟩
  have e:cg w 4 a who=(w.1,w.2.1,w.2.2++ [(who,a)]):=rfl
  rw [e]
  refine ⟨⟨h.l0,h.l1,h.le,by simp;omega,h.ne,fun p hp=>?_,?_⟩,fun hc=>?_,?_⟩
  ·rcases List.mem_append.1 hp with hp |hp
   ·exact h.pm p hp
   ·have hp:p=(who,a):=by simpa using hp
    subst hp
    exact ⟨hm.2.1,ha,hm.1⟩
  ·refine List.nodup_append.2 ⟨h.nd,by simp,fun x hx y hy e=>?_⟩
   have hy:y=(who,a):=by simpa using hy
   rw [e,hy] at hx
   exact hm.2.2.1 hx
  ·have:=congrArg (fun w:Wk=>w.2.2.length) hc
   simp at this
  ·show (w.2.1.getD a.toNat false&&(yD who 0 9&& !decide ((who,a)∈w.2.2++ [(who,a)])&&decide ((w.2.2++ [(who,a)]).length<6)))=false
   simp
 by_cases k5:kd=5
 ·subst k5
  have hmem:(who,a)∈w.2.2:=by
   have:decide ((who,a)∈w.2.2)=true:=hm
   simpa using this
  obtain ⟨A,B,e1,e2⟩:=JI hmem
  have hnd:=h.nd
  rw [e1] at hnd
  obtain ⟨n1,n2⟩:=RC hnd
  rw [e2]
  have hlp:=h.lp
  rw [e1] at hlp
  refine ⟨⟨h.l0,h.l1,h.le,by simp at hlp ⊢;omega,h.ne,fun p hp=>h.pm p ?_,n1⟩,fun hc=>?_,?_⟩
  ·rw [e1]
   rcases List.mem_append.1 hp with hp |hp
   ·simp [hp]
   ·simp [hp]
  ·have:=congrArg (fun w:Wk=>w.2.2.length) hc
   rw [e1] at this
   simp at this<;>omega
  ·show decide ((who,a)∈A++B)=false
   exact decide_eq_false n2
 ·simp [dV,k0,k1,k2,k3,k4,k5] at hm
theorem mT {w:Wk} (h:WOk w) (kd a who:Int):(cU w kd a who=(cg w kd a who,true)∧(0≤a∧a<(w.1.length:Int))∧dV w kd a who=true∧WOk (cg w kd a who))∨(cU w kd a who=(w,false)∧ ¬((0≤a∧a<(w.1.length:Int))∧dV w kd a who=true)):=by
 unfold cU
 rw [if_pos (wE.2 h)]
 by_cases hc:0≤a∧a<(w.1.length:Int)∧dV w kd a who=true
 ·rw [if_pos hc];exact .inl ⟨rfl,⟨hc.1,hc.2.1⟩,hc.2.2,(GC h ⟨hc.1,hc.2.1⟩ hc.2.2).1⟩
 ·rw [if_neg hc];exact .inr ⟨rfl,fun hh=>hc ⟨hh.1.1,hh.1.2,hh.2⟩⟩
def cR (pm:Pm):List (Int×Int×Int):=pm.map fun p=>(5,p.2,p.1)
theorem JK {pm:Pm} {k:Nat} (hk:k<pm.length):cR (pm.take (k+1))=cR (pm.take k)++ [(5,(pm.getD k (0,0)).2,(pm.getD k (0,0)).1)]:=by
 rw [List.take_succ_eq_append_getElem hk,ae hk]
 simp only [cR,List.map_append,List.map_cons,List.map_nil]
def em (kd:Int) (l:List Bool) (b:Bool):Nat→List (Int×Int×Int)
 |0=> []
 |k+1=>if (l.getD k false==b)=true then em kd l b k++ [(kd,(k:Int),0)] else em kd l b k
theorem vV (kd:Int) (l:List Bool) (b:Bool): ∀k,(em kd l b k).length≤k
 |0=>by simp [em]
 |k+1=>by have:=vV kd l b k;simp only [em];split<;>simp<;>omega
theorem pL {s:Int×Wk} {kd a who:Int} (h:WOk s.2) (ha:0≤a∧a<(s.2.1.length:Int)) (hm:dV s.2 kd a who=true):nH s (kd,a,who)=(s.1+1,cg s.2 kd a who):=by
 unfold nH
 dsimp only
 rcases mT h kd a who with ⟨f1,f2,f3,f4⟩ |⟨f1,f2⟩
 ·rw [f1,if_pos rfl]
 ·exact absurd ⟨ha,hm⟩ f2
theorem Fh: ∀(pm:Pm) (c:Int) (on earth:List Bool),WOk (on,earth,pm)→(cR pm).foldl nH (c,on,earth,pm)=(c+(pm.length:Int),on,earth,[])
 | [],c,on,earth,_=>by simp [cR]
 |p::pm,c,on,earth,h=>by
  have hm:dV (on,earth,p::pm) 5 p.2 p.1=true:=by
   show decide ((p.1,p.2)∈p::pm)=true
   exact decide_eq_true (by simp)
  have ha:=(h.pm p (by simp)).2.1
  have hst:=pL (s:=(c,on,earth,p::pm)) h ha hm
  have hput:cg (on,earth,p::pm) 5 p.2 p.1=(on,earth,pm):=by
   rcases pz (p::pm) (p.1,p.2) with ⟨h1,h2⟩ |⟨k,hk,h1,h2,h3⟩
   ·exact absurd (by simp) h2
   ·have hk0:k=0:=by
     rcases Nat.eq_zero_or_pos k with h |h
     ·exact h
     ·exact absurd (by simp) (h3 0 h)
    subst hk0
    unfold cg
    rw [if_neg (by decide),if_neg (by decide),if_neg (by decide),if_neg (by decide),if_neg (by decide)]
    dsimp only
    rw [h1];simp
  have hok:=(GC h ha hm).1
  rw [hput] at hst hok
  show (cR pm).foldl nH (nH (c,on,earth,p::pm) (5,p.2,p.1))=_
  rw [hst,Fh pm (c+1) on earth hok]
  simp;omega
theorem Is {l:List Bool} {b:Bool} {k:Nat} (hk:k<l.length):(List.replicate k b++l.drop k).set k b=List.replicate (k+1) b++l.drop (k+1):=by
 rw [List.set_append_right _ _ (by simp),List.length_replicate,Nat.sub_self,List.drop_eq_getElem_cons hk,List.set_cons_zero,List.replicate_succ',List.append_assoc];rfl
theorem Ir {l:List Bool} {b:Bool} {k:Nat} (hk:k<l.length):(List.replicate k b++l.drop k).getD k false=l.getD k false:=by
 simp [List.getD,List.getElem?_append_right]
theorem Mp {l:List Bool} {b:Bool} {k:Nat} (hk:k<l.length) (h:l.getD k false=b):List.replicate k b++l.drop k=List.replicate (k+1) b++l.drop (k+1):=by
 rw [←Is hk]
 have h2:=Ir (b:=b) hk
 have hl:k<(List.replicate k b++l.drop k).length:=by simp;omega
 rw [ae hl,h] at h2
 have e:=List.set_getElem_self hl
 rw [h2] at e
 exact e.symm
theorem yX {on earth:List Bool} (h:WOk (on,earth,[])) (c:Int): ∀k,k≤earth.length→(em 3 earth true k).foldl nH (c,on,earth,[])=(c+((em 3 earth true k).length:Int),on,List.replicate k false++earth.drop k,[])∧WOk (on,List.replicate k false++earth.drop k,[])
 |0,_=>by simpa [em] using h
 |k+1,hk=>by
  obtain ⟨i1,i2⟩:=yX h c k (by omega)
  have hle:=h.le
  dsimp only at hle
  simp only [em]
  cases he:earth.getD k false
  ·simp only [show (false==true)=false from rfl,Bool.false_eq_true,if_false]
   rw [←Mp (by omega) he]
   exact ⟨i1,i2⟩
  ·simp only [beq_self_eq_true,if_true,List.foldl_append,List.foldl_cons,List.foldl_nil,i1,List.length_append,List.length_singleton]
   have hm:dV (on,List.replicate k false++earth.drop k,[]) 3 (k:Int) 0=true:=by
    show ((List.replicate k false++earth.drop k).getD (k:Int).toNat false&&decide (cA [] (k:Int)=[]))=true
    rw [Int.toNat_natCast,Ir (by omega),he];rfl
   have ha:0≤(k:Int)∧(k:Int)<(on.length:Int):=by omega
   have hst:=pL (s:=(c+((em 3 earth true k).length:Int),on,List.replicate k false++earth.drop k,[])) i2 ha hm
   have hput:cg (on,List.replicate k false++earth.drop k,[]) 3 (k:Int) 0=(on,List.replicate (k+1) false++earth.drop (k+1),[]):=by
    show (on,(List.replicate k false++earth.drop k).set (k:Int).toNat false,[])=_
    rw [Int.toNat_natCast,Is (by omega)]
   have hok:=(GC i2 ha hm).1
   dsimp only at hst
   rw [hput] at hst hok
   rw [hst]
   refine ⟨?_,hok⟩
   congr 1
   omega
inductive Cn (E:List (Nat×Nat)):Nat→Nat→Prop
 |refl (a:Nat):Cn E a a
 |step {a b c:Nat}:Cn E a b→(b,c)∈E∨(c,b)∈E→Cn E a c
theorem Cn.trans {E:List (Nat×Nat)} {a b c:Nat} (h:Cn E a b) (k:Cn E b c):Cn E a c:=by
 induction k with
 |refl=>exact h
 |step _ e ih=>exact ih.step e
theorem Cn.one {E:List (Nat×Nat)} {a b:Nat} (h:(a,b)∈E∨(b,a)∈E):Cn E a b:=(Cn.refl a).step h
theorem Cn.symm {E:List (Nat×Nat)} {a b:Nat} (h:Cn E a b):Cn E b a:=by
 induction h with
 |refl=>exact .refl _
 |step _ e ih=>exact (Cn.one e.symm).trans ih
theorem Cn.mono {E F:List (Nat×Nat)} (hEF: ∀e∈E,e∈F) {a b:Nat} (h:Cn E a b):Cn F a b:=by
 induction h with
 |refl=>exact .refl _
 |step _ e ih=>exact ih.step (e.imp (hEF _) (hEF _))
theorem Hr {E:List (Nat×Nat)} {x y a b:Nat}:Cn (E++ [(x,y)]) a b↔Cn E a b∨(Cn E a x∧Cn E y b)∨(Cn E a y∧Cn E x b):=by
 have hm: ∀ {a b:Nat},Cn E a b→Cn (E++ [(x,y)]) a b:=fun h=>h.mono fun e he=>by simp [he]
 constructor
 ·intro h
  induction h with
  |refl=>exact .inl (.refl _)
  | @step b c _ e ih=>
   have he:((b,c)∈E∨(c,b)∈E)∨((b=x∧c=y)∨(b=y∧c=x)):=by
    simp only [List.mem_append,List.mem_singleton,Prod.mk.injEq] at e
    rcases e with (e |e) |(e |e)
    ·exact .inl (.inl e)
    ·exact .inr (.inl e)
    ·exact .inl (.inr e)
    ·exact .inr (.inr ⟨e.2,e.1⟩)
   rcases he with he |⟨rfl,rfl⟩ |⟨rfl,rfl⟩
   ·rcases ih with ih |⟨h1,h2⟩ |⟨h1,h2⟩
    ·exact .inl (ih.step he)
    ·exact .inr (.inl ⟨h1,h2.step he⟩)
    ·exact .inr (.inr ⟨h1,h2.step he⟩)
   ·rcases ih with ih |⟨h1,h2⟩ |⟨h1,h2⟩
    ·exact .inr (.inl ⟨ih,.refl _⟩)
    ·exact .inr (.inl ⟨h1,.refl _⟩)
    ·exact .inl h1
   ·rcases ih with ih |⟨h1,h2⟩ |⟨h1,h2⟩
    ·exact .inr (.inr ⟨ih,.refl _⟩)
    ·exact .inl h1
    ·exact .inr (.inr ⟨h1,.refl _⟩)
 ·have hxy:Cn (E++ [(x,y)]) x y:=.one (.inl (by simp))
  rintro (h |⟨h1,h2⟩ |⟨h1,h2⟩)
  ·exact hm h
  ·exact ((hm h1).trans hxy).trans (hm h2)
  ·exact ((hm h1).trans hxy.symm).trans (hm h2)
def mF (f:Nat→Nat) (a b:Nat) (c:Nat):Nat:=if f c=max (f a) (f b) then min (f a) (f b) else f c
def aN (E:List (Nat×Nat)):Nat→Nat:=E.foldl (fun f e=>mF f e.1 e.2) id
theorem rP (E:List (Nat×Nat)) (e:Nat×Nat):aN (E++ [e])=mF (aN E) e.1 e.2:=by unfold aN;rw [List.foldl_append];rfl
theorem Mo (f:Nat→Nat) (x y a b:Nat):mF f x y a=mF f x y b↔f a=f b∨(f a=f x∧f y=f b)∨(f a=f y∧f x=f b):=by
 unfold mF
 split<;>split<;>omega
theorem wj {α:Type} {P:List α→Prop} (h0:P []) (h1: ∀l a,P l→P (l++ [a])): ∀l,P l:=by
 intro l
 have: ∀r:List α,P r.reverse:=by
  intro r
  induction r with
  |nil=>exact h0
  |cons a r ih=>rw [List.reverse_cons];exact h1 _ _ ih
 have:=this l.reverse
 rwa [List.reverse_reverse] at this
theorem kF (E:List (Nat×Nat)): ∀a b,aN E a=aN E b↔Cn E a b:=by
 refine wj (P:=fun E=> ∀a b,aN E a=aN E b↔Cn E a b) ?_ ?_ E
 ·intro a b
  constructor
  ·intro h;have h:a=b:=h;subst h;exact .refl _
  ·intro h
   cases h with
   |refl=>rfl
   |step _ e=>simp at e
 ·intro E e ih a b
  obtain ⟨x,y⟩:=e
  rw [rP,Mo,ih,ih,ih,ih,ih,Hr]
theorem LI (E:List (Nat×Nat)):(∀a,aN E a≤a)∧ ∀a,aN E (aN E a)=aN E a:=by
 refine wj (P:=fun E=>(∀a,aN E a≤a)∧ ∀a,aN E (aN E a)=aN E a) ⟨fun a=>Nat.le_refl a,fun a=>rfl⟩ ?_ E
 rintro E ⟨x,y⟩ ⟨h1,h2⟩
 rw [rP]
 refine ⟨fun a=>?_,fun a=>?_⟩
 ·have:=h1 a
  unfold mF
  split<;>omega
 ·have ha:=h2 a
  have hx:=h2 x
  have hy:=h2 y
  unfold mF
  by_cases hc:aN E a=max (aN E x) (aN E y)
  ·rw [if_pos hc]
   rcases Nat.le_total (aN E x) (aN E y) with hle |hle
   ·rw [Nat.min_eq_left hle,hx];split<;>omega
   ·rw [Nat.min_eq_right hle,hy];split<;>omega
  ·rw [if_neg hc,ha,if_neg hc]
def Dn (u:List Nat):Prop:= ∀b,b<u.length→u.getD b 0≤b
inductive Rot (u:List Nat):Nat→Nat→Prop
 |stop {r:Nat}:u.getD r 0=r→Rot u r r
 |go {b r:Nat}:Rot u (u.getD b 0) r→Rot u b r
theorem Rot.root {u:List Nat} {b r:Nat} (h:Rot u b r):u.getD r 0=r:=by
 induction h with
 |stop h=>exact h
 |go _ ih=>exact ih
theorem Rot.fix {u:List Nat} {b r:Nat} (h:Rot u b r) (hb:u.getD b 0=b):r=b:=by
 induction h with
 |stop _=>rfl
 |go _ ih=>exact (ih (by rw [hb];exact hb)).trans hb
theorem Rot.uniq {u:List Nat} {b r r':Nat} (h:Rot u b r) (h':Rot u b r'):r=r':=by
 induction h with
 |stop h=>exact (h'.fix h).symm
 | @go b r h1 ih=>
  cases h' with
  |stop h2=>exact h1.fix (by rw [h2];exact h2) |>.trans h2
  |go h2=>exact ih h2
theorem Rot.next {u:List Nat} {b r:Nat} (h:Rot u b r):Rot u (u.getD b 0) r:=by
 cases h with
 |stop h=>rw [h];exact .stop h
 |go h=>exact h
theorem Rot.ex {u:List Nat} (h:Dn u): ∀b,b<u.length→ ∃r,Rot u b r∧r≤b:=by
 intro b
 induction b using Nat.strongRecOn with
 |ind b ih=>
  intro hb
  by_cases hc:u.getD b 0=b
  ·exact ⟨b,.stop hc,Nat.le_refl _⟩
  ·have h1:=h b hb
   obtain ⟨r,h2,h3⟩:=ih (u.getD b 0) (by omega) (by omega)
   exact ⟨r,.go h2,by omega⟩
theorem kV {u:List Nat} {b v c:Nat} (hb:b<u.length):(u.set b v).getD c 0=if c=b then v else u.getD c 0:=by
 by_cases h:c=b
 ·subst h;simp [List.getD,hb]
 ·rw [if_neg h];simp [List.getD,List.getElem?_set_ne (Ne.symm h)]
theorem Rot.halve {u:List Nat} (h:Dn u) {b:Nat} (hb:b<u.length): ∀c r,c<u.length→(Rot u c r→Rot (u.set b (u.getD (u.getD b 0) 0)) c r):=by
 intro c
 induction c using Nat.strongRecOn with
 |ind c ih=>
  intro r hc hr
  by_cases hf:u.getD c 0=c
  ·have e:=hr.fix hf
   subst e
   refine .stop ?_
   rw [kV hb]
   split
   ·rename_i e;subst e;rw [hf];exact hf
   ·exact hf
  ·have h1:=h c hc
   refine .go ?_
   rw [kV hb]
   split
   ·rename_i e;subst e
    have h2:=h (u.getD c 0) (by omega)
    exact ih _ (by omega) r (by omega) hr.next.next
   ·exact ih _ (by omega) r (by omega) hr.next
theorem Dn.halve {u:List Nat} (h:Dn u) {b:Nat} (hb:b<u.length):Dn (u.set b (u.getD (u.getD b 0) 0)):=by
 intro c hc
 rw [List.length_set] at hc
 rw [kV hb]
 split
 ·rename_i e;subst e
  have h1:=h c hc
  have h2:=h (u.getD c 0) (by omega)
  omega
 ·exact h c hc
theorem Rot.join {u:List Nat} {f:Nat→Nat} (h:Dn u) (hf: ∀c,c<u.length→Rot u c (f c)) {a b:Nat} (ha:a<u.length) (hb:b<u.length) (hlt: ∀c,c<u.length→f c≤c):
 ∀c,c<u.length→Rot (u.set (max (f a) (f b)) (min (f a) (f b))) c (mF f a b c):=by
 have la:=hlt a ha
 have lb:=hlt b hb
 have hm:max (f a) (f b)<u.length:=by omega
 have hmin:(u.set (max (f a) (f b)) (min (f a) (f b))).getD (min (f a) (f b)) 0=min (f a) (f b):=by
  rw [kV hm]
  split
  ·rfl
  ·rcases Nat.le_total (f a) (f b) with hle |hle
   ·rw [Nat.min_eq_left hle];exact (hf a ha).root
   ·rw [Nat.min_eq_right hle];exact (hf b hb).root
 intro c
 induction c using Nat.strongRecOn with
 |ind c ih=>
  intro hc
  by_cases hcm:c=max (f a) (f b)
  ·have hroot:u.getD c 0=c:=by
    rw [hcm]
    rcases Nat.le_total (f a) (f b) with hle |hle
    ·rw [Nat.max_eq_right hle];exact (hf b hb).root
    ·rw [Nat.max_eq_left hle];exact (hf a ha).root
   have hfc:f c=c:=(hf c hc).fix hroot
   have e:mF f a b c=min (f a) (f b):=by unfold mF;rw [if_pos (by rw [hfc];exact hcm)]
   rw [e]
   refine .go ?_
   rw [kV hm,if_pos hcm]
   exact .stop hmin
  ·by_cases hroot:u.getD c 0=c
   ·have hfc:f c=c:=(hf c hc).fix hroot
    have e:mF f a b c=c:=by unfold mF;rw [if_neg (by rw [hfc];exact hcm),hfc]
    rw [e]
    refine .stop ?_
    rw [kV hm,if_neg hcm];exact hroot
   ·have h1:=h c hc
    have e:f (u.getD c 0)=f c:=(hf (u.getD c 0) (by omega)).uniq (hf c hc).next
    have e2:mF f a b c=mF f a b (u.getD c 0):=by unfold mF;rw [e]
    rw [e2]
    refine .go ?_
    rw [kV hm,if_neg hcm]
    exact ih _ (by omega) (by omega)
def Gl (s:Nat→Bool) (e:Nat×Nat):Nat→Bool:=if s e.1 ||s e.2 then fun c=>c==e.1 ||c==e.2 ||s c else s
def nG (E:List (Nat×Nat)) (s:Nat→Bool):Nat→Bool:=E.foldl Gl s
def ca (E:List (Nat×Nat)) (s:Nat→Bool):Nat→Nat→Bool
 |0=>s
 |k+1=>nG E (ca E s k)
theorem xn {s:Nat→Bool} {e:Nat×Nat} {c:Nat} (h:s c=true):Gl s e c=true:=by
 unfold Gl;split<;>simp [h]
theorem qh (E:List (Nat×Nat)): ∀ {s:Nat→Bool} {c:Nat},s c=true→nG E s c=true:=by
 induction E with
 |nil=>intro s c h;exact h
 |cons e E ih=>intro s c h;exact ih (xn h)
theorem JU (E:List (Nat×Nat)): ∀ {s:Nat→Bool} {e:Nat×Nat},e∈E→(s e.1 ||s e.2)=true→nG E s e.1=true∧nG E s e.2=true:=by
 induction E with
 |nil=>intro s e h;simp at h
 |cons d E ih=>
  intro s e h hs
  rcases List.mem_cons.1 h with rfl |h
  ·have h1:Gl s e e.1=true:=by unfold Gl;rw [if_pos hs];simp
   have h2:Gl s e e.2=true:=by unfold Gl;rw [if_pos hs];simp
   exact ⟨qh E h1,qh E h2⟩
  ·refine ih (s:=Gl s d) h ?_
   rw [Bool.or_eq_true] at hs ⊢
   exact hs.imp xn xn
theorem Fv {F:List (Nat×Nat)} {b:Nat} (E:List (Nat×Nat)): ∀ {s:Nat→Bool},(∀e∈E,e∈F)→(∀c,s c=true→Cn F b c)→ ∀c,nG E s c=true→Cn F b c:=by
 induction E with
 |nil=>intro s _ h c hc;exact h c hc
 |cons e E ih=>
  intro s hE h c hc
  refine ih (s:=Gl s e) (fun x hx=>hE x (by simp [hx])) (fun c hc=>?_) c hc
  unfold Gl at hc
  split at hc
  ·rename_i hs
   have he:e∈F:=hE e (by simp)
   have h1:Cn F b e.1∧Cn F b e.2:=by
    rw [Bool.or_eq_true] at hs
    rcases hs with hs |hs
    ·exact ⟨h _ hs,(h _ hs).step (.inl he)⟩
    ·exact ⟨(h _ hs).step (.inr he),h _ hs⟩
   simp only [Bool.or_eq_true,beq_iff_eq] at hc
   rcases hc with (rfl |rfl) |hc
   ·exact h1.1
   ·exact h1.2
   ·exact h c hc
  ·exact h c hc
theorem Dt {E:List (Nat×Nat)} {b:Nat} (k:Nat): ∀c,ca E (fun c=>c==b) k c=true→Cn E b c:=by
 induction k with
 |zero=>intro c hc;have:c=b:=by simpa [ca] using hc
        subst this;exact .refl _
 |succ k ih=>exact Fv E (fun _ h=>h) ih
theorem KB {p q:Nat→Bool} (l:List Nat) (h: ∀c,p c=true→q c=true):l.countP p≤l.countP q∧((∃c∈l,q c=true∧p c=false)→l.countP p+1≤l.countP q):=by
 induction l with
 |nil=>exact ⟨Nat.le_refl _,fun ⟨c,hc,_⟩=>by simp at hc⟩
 |cons x l ih=>
  simp only [List.countP_cons]
  have hx:=h x
  refine ⟨?_,?_⟩
  ·cases hp:p x
   ·simp;omega
   ·rw [hx hp];simp;omega
  ·rintro ⟨c,hc,h1,h2⟩
   rcases List.mem_cons.1 hc with rfl |hc
   ·rw [h1,h2];simp;omega
   ·have:=ih.2 ⟨c,hc,h1,h2⟩
    cases hp:p x
    ·simp;omega
    ·rw [hx hp];simp;omega
def Nt (E:List (Nat×Nat)) (s:Nat→Bool):Prop:= ∀e∈E,s e.1=s e.2
theorem GT {E:List (Nat×Nat)} {s:Nat→Bool} (h:Nt E s): ∀c,nG E s c=s c:=by
 have: ∀(F:List (Nat×Nat)),(∀e∈F,s e.1=s e.2)→nG F s=s:=by
  intro F
  induction F with
  |nil=>intro _;rfl
  |cons e F ih=>
   intro hF
   have he:Gl s e=s:=by
    have e0:=hF e (by simp)
    unfold Gl
    split
    ·rename_i hs
     funext c
     rw [e0,Bool.or_self] at hs
     by_cases h1:c=e.1
     ·subst h1;simp [e0,hs]
     ·by_cases h2:c=e.2
      ·subst h2;simp [hs]
      ·simp [h1,h2]
    ·rfl
   show nG F (Gl s e)=s
   rw [he]
   exact ih fun x hx=>hF x (by simp [hx])
 intro c;rw [this E h]
theorem Fx {E:List (Nat×Nat)} {B b:Nat} (hE: ∀e∈E,e.1<B∧e.2<B) (hb:b<B): ∀k,Nt E (ca E (fun c=>c==b) k)∨k+1≤(List.range B).countP (ca E (fun c=>c==b) k):=by
 intro k
 induction k with
 |zero=>
  refine .inr ?_
  have:=List.countP_pos_iff (p:=fun c=>c==b) (l:=List.range B) |>.2 ⟨b,by simpa using hb,by simp⟩
  simpa [ca] using this
 |succ k ih=>
  by_cases hs:Nt E (ca E (fun c=>c==b) k)
  ·left
   have e:ca E (fun c=>c==b) (k+1)=ca E (fun c=>c==b) k:=funext (GT hs)
   rw [e];exact hs
  ·rcases ih with ih |ih
   ·exact absurd ih hs
   right
   have hm: ∀c,ca E (fun c=>c==b) k c=true→ca E (fun c=>c==b) (k+1) c=true:=fun c hc=>qh E hc
   obtain ⟨e,he,hne⟩: ∃e∈E,ca E (fun c=>c==b) k e.1≠ca E (fun c=>c==b) k e.2:=by
    refine Classical.byContradiction fun hn=>hs fun e he=>Classical.byContradiction fun h=>hn ⟨e,he,h⟩
   have hor:(ca E (fun c=>c==b) k e.1 ||ca E (fun c=>c==b) k e.2)=true:=by
    revert hne;cases ca E (fun c=>c==b) k e.1<;>cases ca E (fun c=>c==b) k e.2<;>simp
   have hh:=JU E he hor
   have hlt:=hE e he
   have:=(KB (List.range B) hm).2 (by
    cases h1:ca E (fun c=>c==b) k e.1
    ·exact ⟨e.1,by simpa using hlt.1,hh.1,h1⟩
    ·cases h2:ca E (fun c=>c==b) k e.2
     ·exact ⟨e.2,by simpa using hlt.2,hh.2,h2⟩
     ·rw [h1,h2] at hne;exact absurd rfl hne)
   omega
theorem JV {E:List (Nat×Nat)} {B b c:Nat} (hE: ∀e∈E,e.1<B∧e.2<B) (hb:b<B):ca E (fun c=>c==b) B c=true↔Cn E b c:=by
 refine ⟨Dt B c,fun h=>?_⟩
 have hs:Nt E (ca E (fun c=>c==b) B):=by
  rcases Fx hE hb B with h |h
  ·exact h
  ·have:=List.countP_le_length (p:=ca E (fun c=>c==b) B) (l:=List.range B)
   simp at this;omega
 have hstart: ∀k,ca E (fun c=>c==b) k b=true:=by
  intro k
  induction k with
  |zero=>simp [ca]
  |succ k ih=>exact qh E ih
 induction h with
 |refl=>exact hstart B
 |step _ e ih=>
  rcases e with e |e
  ·rw [←hs _ e];exact ih
  ·rw [hs _ e];exact ih
abbrev Ed:=List (Nat×Nat)
def Fo (E:Ed):Prop:= ∀P e Q,E=P++e::Q→ ¬Cn P e.1 e.2
theorem QP:Fo []:=by
 intro P e Q h
 have:=congrArg List.length h
 simp at this
theorem HE {E:Ed} {e:Nat×Nat}:Fo (E++ [e])↔Fo E∧ ¬Cn E e.1 e.2:=by
 constructor
 ·intro h
  exact ⟨fun P f Q hE=>h P f (Q++ [e]) (by rw [hE];simp),h E e [] rfl⟩
 ·rintro ⟨h1,h2⟩ P f Q hE
  rcases List.eq_nil_or_concat Q with rfl |⟨Q',x,rfl⟩
  ·obtain ⟨rfl,h3⟩:=List.append_inj' hE rfl
   obtain rfl:e=f:=by simpa using h3
   exact h2
  ·have hE':E++ [e]=(P++f::Q')++ [x]:=by rw [hE];simp
   obtain ⟨rfl,h3⟩:=List.append_inj' hE' rfl
   exact h1 P f Q' rfl
theorem PF: ∀(Q P:Ed) (e:Nat×Nat),Fo (P++e::Q)→ ¬Cn (P++Q) e.1 e.2:=by
 refine wj (P:=fun Q=> ∀(P:Ed) (e:Nat×Nat),Fo (P++e::Q)→ ¬Cn (P++Q) e.1 e.2) ?_ ?_
 ·intro P e h
  rw [List.append_nil];exact h P e [] rfl
 ·rintro Q ⟨x,y⟩ ih P e h hc
  have h':Fo ((P++e::Q)++ [(x,y)]):=by simpa using h
  rw [HE] at h'
  have hn:=ih P e h'.1
  have M: ∀ {a b:Nat},Cn (P++Q) a b→Cn (P++e::Q) a b:=fun h=>h.mono fun f hf=>by
   rcases List.mem_append.1 hf with hf |hf<;>simp [hf]
  have he:Cn (P++e::Q) e.1 e.2:=.one (.inl (by simp))
  rw [←List.append_assoc,Hr] at hc
  rcases hc with hc |⟨h1,h2⟩ |⟨h1,h2⟩
  ·exact hn hc
  ·exact h'.2 ((M h1).symm.trans (he.trans (M h2).symm))
  ·exact h'.2 ((M h2).trans (he.symm.trans (M h1)))
theorem QQ {E F:Ed} (hs:E.Sublist F) (h:Fo F):Fo E:=by
 intro P e Q hE hc
 subst hE
 obtain ⟨F1,F2,rfl,s1,s2⟩:=List.append_sublist_iff.1 hs
 obtain ⟨G1,G2,rfl,m1,m2⟩:=List.cons_sublist_iff.1 s2
 obtain ⟨H1,H2,rfl⟩:=List.append_of_mem m1
 refine h (F1++H1) e (H2++G2) (by simp) (hc.mono fun f hf=>?_)
 simp [s1.subset hf]
abbrev Ln:=Int×Int×Int
def bK (l:Ln):Nat×Nat:=(l.1.toNat,l.2.1.toNat)
def rB (z:List (Ln×Bool)):Ed:=(z.filter (·.2)).map fun p=>bK p.1
def aD (ls:List Ln) (on:List Bool):Ed:=rB (ls.zip on)
theorem CP (y z:List (Ln×Bool)):rB (y++z)=rB y++rB z:=by simp [rB]
theorem EP {z:List (Ln×Bool)} {k:Nat} (hk:k<z.length):rB (z.take (k+1))=if z[k].2 then rB (z.take k)++ [bK z[k].1] else rB (z.take k):=by
 rw [List.take_succ_eq_append_getElem hk,CP]
 cases h:z[k].2<;>simp [rB,h]
theorem OK {z:List (Ln×Bool)} {k:Nat} (hk:k<z.length):z=z.take k++z[k]::z.drop (k+1):=by
 rw [←List.drop_eq_getElem_cons hk,List.take_append_drop]
theorem CN {ls:List Ln} {on:List Bool} {k:Nat} (hk:k<ls.length) (hl:on.length=ls.length) (ho:on.getD k false=true):
 aD ls on=rB ((ls.zip on).take k)++bK (ls.getD k (0,0,0))::rB ((ls.zip on).drop (k+1)):=by
 have hz:k<(ls.zip on).length:=by simp;omega
 have e:(ls.zip on)[k]=(ls.getD k (0,0,0),true):=by
  rw [ae (by omega:k<on.length)] at ho
  rw [List.getElem_zip,ae hk,ho]
 have h:=OK hz
 unfold aD
 rw [e] at h
 conv=>lhs;rw [h]
 rw [CP]
 simp [rB]
theorem CO {ls:List Ln} {on:List Bool} {k:Nat} (hk:k<ls.length) (hl:on.length=ls.length):
 aD ls (on.set k false)=rB ((ls.zip on).take k)++rB ((ls.zip on).drop (k+1)):=by
 have e:ls.zip (on.set k false)=(ls.zip on).take k++(ls[k],false)::(ls.zip on).drop (k+1):=by
  apply List.ext_getElem
  ·simp;omega
  ·intro i h1 h2
   have hi:i<ls.length:=by simp at h1;omega
   rw [List.getElem_zip,List.getElem_set,List.getElem_append]
   have hkz:((ls.zip on).take k).length=k:=by simp;omega
   split
   ·rename_i hik
    subst hik
    simp [hkz]
   ·split
    ·simp
    ·rename_i h3 h4
     rw [hkz] at h4
     obtain ⟨j,hj⟩: ∃j,i-((ls.zip on).take k).length=j+1:=⟨i-k-1,by rw [hkz];omega⟩
     simp only [hj,List.getElem_cons_succ,List.getElem_drop,List.getElem_zip]
     have:k+1+j=i:=by rw [hkz] at hj;omega
     simp [this]
 unfold aD
 rw [e,CP]
 simp [rB]
theorem tS {ls:List Ln} {on:List Bool} {e:Nat×Nat}:e∈aD ls on↔ ∃k,k<ls.length∧on.getD k false=true∧e=bK (ls.getD k (0,0,0)):=by
 unfold aD rB
 rw [List.mem_map]
 constructor
 ·rintro ⟨p,hp,rfl⟩
  obtain ⟨h1,h2⟩:=List.mem_filter.1 hp
  obtain ⟨k,hk,rfl⟩:=List.mem_iff_getElem.1 h1
  have hk':k<ls.length∧k<on.length:=by rw [List.length_zip] at hk;omega
  rw [List.getElem_zip] at h2 ⊢
  exact ⟨k,hk'.1,by rw [ae hk'.2];exact h2,by rw [ae hk'.1]⟩
 ·rintro ⟨k,hk,ho,rfl⟩
  have hk2:k<on.length:=by
   rcases Nat.lt_or_ge k on.length with h |h
   ·exact h
   ·rw [List.getD_eq_getElem?_getD,List.getElem?_eq_none h] at ho;simp at ho
  refine ⟨(ls[k],on[k]),List.mem_filter.2 ⟨List.mem_iff_getElem.2 ⟨k,by simp;omega,by simp⟩,?_⟩,by rw [ae hk]⟩
  rw [ae hk2] at ho
  exact ho
theorem OJ {ls:List Ln}: ∀ {on on':List Bool},on.length=on'.length→(∀k,on.getD k false=true→on'.getD k false=true)→(aD ls on).Sublist (aD ls on'):=by
 induction ls with
 |nil=>intro on on' _ _;simp [aD,rB]
 |cons l ls ih=>
  intro on on' hl h
  cases on with
  |nil=>simp [aD,rB]
  |cons b on=>
   cases on' with
   |nil=>simp at hl
   |cons b' on'=>
    have h2:=ih (on:=on) (on':=on') (by simpa using hl) (fun k hk=>by have:=h (k+1);simpa using this (by simpa using hk))
    have h0:b=true→b'=true:=fun hb=>by have:=h 0;simpa using this (by simpa using hb)
    unfold aD rB at h2 ⊢
    cases b
    ·cases b'
     ·simpa using h2
     ·simpa using h2.trans (List.sublist_cons_self _ _)
    ·rw [h0 rfl];simpa using h2
def FX (ls:List Ln) (on:List Bool):Bool:=(List.range ls.length).any fun k=>on.getD k false&&aN (aD ls (on.set k false)) (bK (ls.getD k (0,0,0))).1==aN (aD ls (on.set k false)) (bK (ls.getD k (0,0,0))).2
def FW (ls:List Ln) (on:List Bool):Bool:=(List.range ls.length).any fun k=>on.getD k false&&aN (rB ((ls.zip on).take k)) (bK (ls.getD k (0,0,0))).1==aN (rB ((ls.zip on).take k)) (bK (ls.getD k (0,0,0))).2
theorem HG {ls:List Ln} {on:List Bool} (hl:on.length=ls.length) (h: ∀k,k<ls.length→on.getD k false=true→ ¬Cn (rB ((ls.zip on).take k)) (bK (ls.getD k (0,0,0))).1 (bK (ls.getD k (0,0,0))).2):Fo (aD ls on):=by
 have: ∀k,k≤ls.length→Fo (rB ((ls.zip on).take k)):=by
  intro k
  induction k with
  |zero=>intro _;exact QP
  |succ k ih=>
   intro hk
   have hz:k<(ls.zip on).length:=by simp;omega
   rw [EP hz]
   have e1:(ls.zip on)[k].2=on.getD k false:=by rw [ae (by omega)];simp
   have e2:(ls.zip on)[k].1=ls.getD k (0,0,0):=by rw [ae (by omega)];simp
   rw [e1,e2]
   split
   ·rename_i ho
    exact HE.2 ⟨ih (by omega),h k (by omega) ho⟩
   ·exact ih (by omega)
 have h2:=this ls.length (Nat.le_refl _)
 rwa [List.take_of_length_le (by simp;omega)] at h2
theorem Hs {ls:List Ln} {on:List Bool} (hl:on.length=ls.length):FW ls on=false↔Fo (aD ls on):=by
 unfold FW
 rw [List.any_eq_false]
 constructor
 ·intro h
  refine HG hl fun k hk ho hc=>h k (by simpa using hk) ?_
  rw [ho,(kF _ _ _).2 hc];simp
 ·intro h k hk hc
  have hk:k<ls.length:=by simpa using hk
  simp only [Bool.and_eq_true,beq_iff_eq] at hc
  exact h _ _ _ (CN hk hl hc.1) ((kF _ _ _).1 hc.2)
theorem zR {ls:List Ln} {on:List Bool} (hl:on.length=ls.length):FX ls on=false↔Fo (aD ls on):=by
 unfold FX
 rw [List.any_eq_false]
 constructor
 ·intro h
  refine HG hl fun k hk ho hc=>h k (by simpa using hk) ?_
  rw [ho,CO hk hl,(kF _ _ _).2 (hc.mono fun f hf=>by simp [hf])];simp
 ·intro h k hk hc
  have hk:k<ls.length:=by simpa using hk
  simp only [Bool.and_eq_true,beq_iff_eq] at hc
  rw [CO hk hl] at hc
  rw [CN hk hl hc.1] at h
  exact PF _ _ _ h ((kF _ _ _).1 hc.2)
theorem QA {ls:List Ln} {on:List Bool} (hl:on.length=ls.length):FW ls on=FX ls on:=by
 cases h:FX ls on
 ·exact (Hs hl).2 ((zR hl).1 h)
 ·cases h2:FW ls on
  ·rw [(zR hl).2 ((Hs hl).1 h2)] at h;exact h
  ·rfl
def bc (pts:List (Int×Int)) (b:Nat):Bool:=decide (0<(pts.getD b (0,0)).1)
theorem nh {pts:List (Int×Int)} {b:Nat} (h:bc pts b=true):b<pts.length:=by
 rcases Nat.lt_or_ge b pts.length with h1 |h1
 ·exact h1
 ·simp [bc,List.getElem?_eq_none h1] at h
def Hd (E:Ed) (pts:List (Int×Int)):Bool:=(List.range pts.length).any fun k=>(List.range k).any fun j=>bc pts k&&bc pts j&&aN E j==aN E k
theorem yk {E:Ed} {pts:List (Int×Int)}:Hd E pts=false↔ ∀a b,bc pts a=true→bc pts b=true→Cn E a b→a=b:=by
 unfold Hd
 rw [List.any_eq_false]
 constructor
 ·intro h
  have key: ∀a b,bc pts a=true→bc pts b=true→Cn E a b→ ¬a<b:=by
   intro a b ha hb hc hlt
   refine h b (by simpa using nh hb) (List.any_eq_true.2 ⟨a,by simpa using hlt,?_⟩)
   rw [ha,hb,(kF _ _ _).2 hc];simp
  intro a b ha hb hc
  have h1:=key a b ha hb hc
  have h2:=key b a hb ha hc.symm
  omega
 ·intro h k hk hc
  obtain ⟨j,hj,h2⟩:=List.any_eq_true.1 hc
  simp only [Bool.and_eq_true,beq_iff_eq] at h2
  have:=h j k h2.1.2 h2.1.1 ((kF _ _ _).1 h2.2)
  have:j<k:=by simpa using hj
  omega
def iV (ls:List Ln) (on:List Bool) (pts:List (Int×Int)):Bool:= !FX ls on&& !Hd (aD ls on) pts
theorem xT {ls:List Ln} {on:List Bool} {pts:List (Int×Int)} (hl:on.length=ls.length):iV ls on pts=true↔Fo (aD ls on)∧ ∀a b,bc pts a=true→bc pts b=true→Cn (aD ls on) a b→a=b:=by
 unfold iV
 rw [Bool.and_eq_true,Bool.not_eq_true',Bool.not_eq_true',zR hl,yk]
theorem xU {ls:List Ln} {on on':List Bool} {pts:List (Int×Int)} (hl:on.length=ls.length) (hl':on'.length=ls.length) (h: ∀k,on.getD k false=true→on'.getD k false=true) (hr:iV ls on' pts=true):iV ls on pts=true:=by
 rw [xT hl'] at hr
 rw [xT hl]
 have hs:=OJ (ls:=ls) (hl.trans hl'.symm) h
 exact ⟨QQ hs hr.1,fun a b ha hb hc=>hr.2 a b ha hb (hc.mono fun e he=>hs.subset he)⟩
def gk (E:Ed) (pts:List (Int×Int)) (b:Nat):Bool:=(List.range pts.length).any fun f=>bc pts f&&aN E f==aN E b
theorem kb {E:Ed} {pts:List (Int×Int)} {b:Nat}:gk E pts b=true↔ ∃f,bc pts f=true∧Cn E f b:=by
 unfold gk
 rw [List.any_eq_true]
 constructor
 ·rintro ⟨f,_,h⟩
  simp only [Bool.and_eq_true,beq_iff_eq] at h
  exact ⟨f,h.1,(kF _ _ _).1 h.2⟩
 ·rintro ⟨f,h1,h2⟩
  exact ⟨f,by simpa using nh h1,by rw [h1,(kF _ _ _).2 h2];simp⟩
theorem Hz {E:Ed} {pts:List (Int×Int)} {a b:Nat} (h:gk E pts a=true) (hc:Cn E a b):gk E pts b=true:=by
 obtain ⟨f,h1,h2⟩:=kb.1 h
 exact kb.2 ⟨f,h1,h2.trans hc⟩
def Lk (ls:List Ln) (on:List Bool) (k b c:Nat):Prop:=k<ls.length∧on.getD k false=true∧(bK (ls.getD k (0,0,0))=(b,c)∨bK (ls.getD k (0,0,0))=(c,b))
structure Par (ls:List Ln) (on:List Bool) (pts:List (Int×Int)) (par:Nat→Int) (rk:Nat→Nat):Prop where
 fed: ∀b,b<pts.length→gk (aD ls on) pts b=true→bc pts b=true∨0≤par b
 feed: ∀b,bc pts b=true→par b<0
 line: ∀b,0≤par b→ ∃c,Lk ls on (par b).toNat b c∧c<pts.length∧gk (aD ls on) pts c=true∧rk c<rk b
inductive Way (ls:List Ln) (on:List Bool) (par:Nat→Int):Nat→List Nat→Prop
 |top {b:Nat}:par b<0→Way ls on par b []
 |step {b c:Nat} {w:List Nat}:0≤par b→Lk ls on (par b).toNat b c→Way ls on par c w→Way ls on par b (w++ [(par b).toNat])
theorem xf {ls:List Ln} {on:List Bool} {k b c d:Nat} (h:Lk ls on k b c) (h':Lk ls on k b d):c=d:=by
 obtain ⟨_,_,h⟩:=h
 obtain ⟨_,_,h'⟩:=h'
 rcases h with h |h<;>rcases h' with h' |h'<;>rw [h] at h'<;>simp only [Prod.mk.injEq] at h'<;>omega
theorem Lk.cn {ls:List Ln} {on:List Bool} {k b c:Nat} (h:Lk ls on k b c):Cn (aD ls on) b c:=by
 obtain ⟨h1,h2,h3⟩:=h
 have hm:=tS.2 ⟨k,h1,h2,rfl⟩
 rcases h3 with h3 |h3<;>rw [h3] at hm
 ·exact .one (.inl hm)
 ·exact .one (.inr hm)
theorem Lk.off {ls:List Ln} {on:List Bool} {k j b c:Nat} (h:Lk ls on k b c) (hj:k≠j):Lk ls (on.set j false) k b c:=by
 obtain ⟨h1,h2,h3⟩:=h
 exact ⟨h1,by rw [←h2];simp [List.getD,List.getElem?_set_ne (Ne.symm hj)],h3⟩
section
variable {ls:List Ln} {on:List Bool} {pts:List (Int×Int)} {par:Nat→Int} {rk:Nat→Nat} (P:Par ls on pts par rk) (hl:on.length=ls.length)
include P
theorem Par.way: ∀(n b:Nat),rk b≤n→ ∃w,Way ls on par b w:=by
 intro n
 induction n with
 |zero=>
  intro b hb
  by_cases h:0≤par b
  ·obtain ⟨c,_,_,_,h2⟩:=P.line b h;omega
  ·exact ⟨[],.top (by omega)⟩
 |succ n ih=>
  intro b hb
  by_cases h:0≤par b
  ·obtain ⟨c,h1,_,_,h2⟩:=P.line b h
   obtain ⟨w,hw⟩:=ih c (by omega)
   exact ⟨_,.step h h1 hw⟩
  ·exact ⟨[],.top (by omega)⟩
omit P in
theorem Way.uniq {b:Nat} {w v:List Nat} (h:Way ls on par b w):Way ls on par b v→w=v:=by
 induction h generalizing v with
 |top h=>intro h';cases h' with
  |top _=>rfl
  |step h2 _ _=>omega
 |step h1 h2 _ ih=>intro h';cases h' with
  |top h3=>omega
  |step h3 h4 h5=>
   obtain rfl:=xf h2 h4
   rw [ih h5]
theorem Par.up {b c:Nat} (h:0≤par b) (h2:Lk ls on (par b).toNat b c):c<pts.length∧gk (aD ls on) pts c=true∧rk c<rk b:=by
 obtain ⟨d,h3,h4⟩:=P.line b h
 rw [xf h2 h3];exact h4
theorem Par.inj {b d:Nat} (hb:0≤par b) (hd:0≤par d) (h:par b=par d):b=d:=by
 obtain ⟨c,h1,_,_,h2⟩:=P.line b hb
 obtain ⟨e,h3,_,_,h4⟩:=P.line d hd
 rw [←h] at h3
 obtain ⟨_,_,h1⟩:=h1
 obtain ⟨_,_,h3⟩:=h3
 rcases h1 with h1 |h1<;>rcases h3 with h3 |h3<;>rw [h1] at h3<;>simp only [Prod.mk.injEq] at h3<;>obtain ⟨rfl,rfl⟩:=h3<;>first |rfl |omega
theorem Way.mem {b:Nat} {w:List Nat} (h:Way ls on par b w): ∀k∈w,∃d,0≤par d∧(par d).toNat=k∧rk d≤rk b:=by
 induction h with
 |top _=>intro k hk;simp at hk
 | @step b c w h1 h2 _ ih=>
  intro k hk
  rcases List.mem_append.1 hk with hk |hk
  ·obtain ⟨d,h3,h4,h5⟩:=ih k hk
   exact ⟨d,h3,h4,by have:=(P.up h1 h2).2.2;omega⟩
  ·exact ⟨b,h1,(List.mem_singleton.1 hk).symm,Nat.le_refl _⟩
theorem Way.last {b c:Nat} {w:List Nat} (h1:0≤par b) (h2:Lk ls on (par b).toNat b c) (h:Way ls on par c w):(par b).toNat∉w:=by
 intro hm
 obtain ⟨d,h3,h4,h5⟩:=Way.mem P h _ hm
 have h6:=(P.up h1 h2).2.2
 have:b=d:=P.inj h1 h3 (by omega)
 subst this;omega
theorem Way.stays {b k:Nat} {w:List Nat} (h:Way ls on par b w) (hb:b<pts.length) (hf:gk (aD ls on) pts b=true) (hk:k∉w):gk (aD ls (on.set k false)) pts b=true:=by
 induction h with
 | @top b h=>
  rcases P.fed b hb hf with h1 |h1
  ·exact kb.2 ⟨b,h1,.refl _⟩
  ·omega
 | @step b c w h1 h2 _ ih=>
  have hc:=P.up h1 h2
  have:=ih hc.1 hc.2.1 fun hm=>hk (by simp [hm])
  exact Hz this (h2.off fun e=>hk (by simp [e])).cn.symm
theorem Way.under {b k:Nat} {w:List Nat} (h:Way ls on par b w) (hk:k∈w): ∃d c v,0≤par d∧(par d).toNat=k∧Lk ls on k d c∧Way ls on par c v∧k∉v∧c<pts.length∧gk (aD ls on) pts c=true∧Cn (aD ls (on.set k false)) d b:=by
 induction h with
 |top _=>simp at hk
 | @step b c w h1 h2 h3 ih=>
  have hc:=P.up h1 h2
  by_cases he:k=(par b).toNat
  ·subst he
   exact ⟨b,c,w,h1,rfl,h2,h3,Way.last P h1 h2 h3,hc.1,hc.2.1,.refl _⟩
  ·have hm:k∈w:=by simpa [he] using hk
   obtain ⟨d,e,v,g1,g2,g3,g4,g5,g6,g7,g8⟩:=ih hm
   exact ⟨d,e,v,g1,g2,g3,g4,g5,g6,g7,g8.trans (h2.off (Ne.symm he)).cn.symm⟩
include hl in
theorem Way.iff (hr:iV ls on pts=true) {b k:Nat} {w:List Nat} (h:Way ls on par b w) (hb:b<pts.length) (hf:gk (aD ls on) pts b=true):k∈w↔gk (aD ls (on.set k false)) pts b=false:=by
 constructor
 ·intro hk
  obtain ⟨d,c,v,h1,h2,h3,h4,h5,h6,h7,h8⟩:=Way.under P h hk
  cases hx:gk (aD ls (on.set k false)) pts b
  ·rfl
  exfalso
  obtain ⟨f,f1,f2⟩:=kb.1 hx
  obtain ⟨g,g1,g2⟩:=kb.1 (Way.stays P h4 h6 h7 h5)
  obtain ⟨hk1,hk2,hk3⟩:=h3
  have hoff:=CO hk1 hl
  have hon:=CN hk1 hl hk2
  have M: ∀ {x y:Nat},Cn (aD ls (on.set k false)) x y→Cn (aD ls on) x y:=fun hxy=>hxy.mono fun e he=>by
   rw [hoff] at he;rw [hon]
   rcases List.mem_append.1 he with he |he<;>simp [he]
  rw [xT hl] at hr
  have hdc:Cn (aD ls on) d c:=Lk.cn ⟨hk1,hk2,hk3⟩
  have hfg:f=g:=hr.2 f g f1 g1 ((M f2).trans ((M h8).symm.trans (hdc.trans (M g2).symm)))
  subst hfg
  have hj:Cn (aD ls (on.set k false)) d c:=(h8.trans f2.symm).trans g2
  rw [hoff] at hj
  have hfo:=hr.1
  rw [hon] at hfo
  have:=PF _ _ _ hfo
  rcases hk3 with e |e<;>rw [e] at this
  ·exact this hj
  ·exact this hj.symm
 ·intro hx
  refine Classical.byContradiction fun hk=>?_
  rw [Way.stays P h hb hf hk] at hx
  cases hx
end
def lY (ls:List Ln) (on:List Bool) (pts:List (Int×Int)) (k:Nat):Int:=
 ((List.range pts.length).map fun b=>if gk (aD ls on) pts b&& !gk (aD ls (on.set k false)) pts b then (pts.getD b (0,0)).2 else 0).sum
open Classical in
noncomputable def uY (n:Nat) (f:Nat→Int) (p:Nat→Prop):Int:=((List.range n).map fun b=>if p b then f b else 0).sum
theorem IJ {n:Nat} {f g h:Nat→Int} (e: ∀b,b<n→f b=g b+h b):((List.range n).map f).sum=((List.range n).map g).sum+((List.range n).map h).sum:=by
 induction n with
 |zero=>rfl
 |succ n ih=>
  rw [List.range_succ,List.map_append,List.map_append,List.map_append,List.sum_append,List.sum_append,List.sum_append,ih fun b hb=>e b (by omega)]
  have:=e n (by omega)
  simp only [List.map_cons,List.map_nil,List.sum_cons,List.sum_nil]
  omega
theorem pM {n:Nat} {f g:Nat→Int} (e: ∀b,b<n→f b=g b):((List.range n).map f).sum=((List.range n).map g).sum:=by
 congr 1
 exact List.map_congr_left fun b hb=>e b (by simpa using hb)
theorem rK {n:Nat} {f:Nat→Int} (e: ∀b,b<n→f b=0):((List.range n).map f).sum=0:=by
 rw [pM e]
 induction n with
 |zero=>rfl
 |succ n ih=>rw [List.range_succ,List.map_append,List.sum_append,ih fun b hb=>e b (by omega)];rfl
theorem II {n:Nat} (f:Nat→Int) {a:Nat} (ha:a<n):((List.range n).map fun b=>if b=a then f b else 0).sum=f a:=by
 induction n with
 |zero=>omega
 |succ n ih=>
  rw [List.range_succ,List.map_append,List.sum_append]
  by_cases h:a=n
  ·subst h
   rw [rK fun b hb=>if_neg (by omega)]
   simp
  ·rw [ih (by omega)]
   simp only [List.map_cons,List.map_nil,List.sum_cons,List.sum_nil]
   rw [if_neg (by omega)];omega
theorem Ft {n:Nat} {f:Nat→Int} {p q r:Nat→Prop} (e: ∀b,b<n→(p b↔q b∨r b)) (d: ∀b,b<n→ ¬(q b∧r b)):uY n f p=uY n f q+uY n f r:=by
 refine IJ fun b hb=>?_
 have h1:=e b hb
 have h2:=d b hb
 by_cases hq:q b
 ·have hr: ¬r b:=fun h=>h2 ⟨hq,h⟩
  rw [if_pos (h1.2 (.inl hq)),if_pos hq,if_neg hr];omega
 ·by_cases hr:r b
  ·rw [if_pos (h1.2 (.inr hr)),if_neg hq,if_pos hr];omega
  ·rw [if_neg (fun h=>(h1.1 h).elim hq hr),if_neg hq,if_neg hr];rfl
theorem yj {n:Nat} {f:Nat→Int} {p q:Nat→Prop} (e: ∀b,b<n→(p b↔q b)):uY n f p=uY n f q:=by
 refine pM fun b hb=>?_
 by_cases h:p b
 ·rw [if_pos h,if_pos ((e b hb).1 h)]
 ·rw [if_neg h,if_neg fun h2=>h ((e b hb).2 h2)]
theorem MP {n:Nat} {f:Nat→Int} {a:Nat} (ha:a<n):uY n f (fun b=>b=a)=f a:=by
 rw [←II f ha]
 exact pM fun b hb=>by by_cases h:b=a<;>simp [h]
theorem JT {n:Nat} {f:Nat→Int} {p:Nat→Prop} (e: ∀b,b<n→ ¬p b):uY n f p=0:=
 rK fun b hb=>if_neg (e b hb)
def oW (E:Ed) (pts:List (Int×Int)) (f:Int×Int→Int) (b:Nat):Int:=((List.range pts.length).map fun c=>if aN E c=aN E b then f (pts.getD c (0,0)) else 0).sum
def Up (ls:List Ln) (on:List Bool) (par:Nat→Int) (b c:Nat):Prop:=0≤par b∧Lk ls on (par b).toNat b c
inductive An (ls:List Ln) (on:List Bool) (par:Nat→Int) (d:Nat):Nat→Prop
 |self:An ls on par d d
 |step {b c:Nat}:Up ls on par b c→An ls on par d c→An ls on par d b
section
variable {ls:List Ln} {on:List Bool} {pts:List (Int×Int)} {par:Nat→Int} {rk:Nat→Nat} (P:Par ls on pts par rk) (hl:on.length=ls.length)
theorem Up.inj {b c d:Nat} (h:Up ls on par b c) (h':Up ls on par b d):c=d:=xf h.2 h'.2
theorem An.trans {a b c:Nat} (h:An ls on par a b) (h':An ls on par b c):An ls on par a c:=by
 induction h' with
 |self=>exact h
 |step u _ ih=>exact .step u ih
theorem An.top {o b:Nat}:An ls on par o b↔b=o∨ ∃d,Up ls on par d o∧An ls on par d b:=by
 constructor
 ·intro h
  induction h with
  |self=>exact .inl rfl
  | @step b c u h ih=>
   rcases ih with rfl |⟨d,h1,h2⟩
   ·exact .inr ⟨b,u,.self⟩
   ·exact .inr ⟨d,h1,.step u h2⟩
 ·rintro (rfl |⟨d,h1,h2⟩)
  ·exact .self
  ·exact An.trans (.step h1 .self) h2
theorem An.chain {d e b:Nat} (h:An ls on par d b) (h':An ls on par e b):An ls on par d e∨An ls on par e d:=by
 induction h with
 |self=>exact .inr h'
 | @step b c u h ih=>
  cases h' with
  |self=>exact .inl (.step u h)
  |step u' h2=>
   obtain rfl:=u.inj u'
   exact ih h2
include P
theorem An.rkle {d b:Nat} (h:An ls on par d b):rk d≤rk b:=by
 induction h with
 |self=>exact Nat.le_refl _
 |step u _ ih=>have:=(P.up u.1 u.2).2.2;omega
omit P in
theorem An.proper {d b c:Nat} (h:An ls on par d b) (u:Up ls on par b c) (hne:d≠b):An ls on par d c:=by
 cases h with
 |self=>exact absurd rfl hne
 |step u' h'=>rw [u.inj u'];exact h'
theorem An.way {d b:Nat} {w:List Nat} (hd:0≤par d) (h:Way ls on par b w):An ls on par d b↔(par d).toNat∈w:=by
 induction h with
 | @top b h=>
  constructor
  ·intro h1
   cases h1 with
   |self=>omega
   |step u _=>have:=u.1;omega
  ·intro h1;simp at h1
 | @step b c w h1 h2 h3 ih=>
  constructor
  ·intro h
   by_cases e:d=b
   ·subst e;simp
   ·have:=ih.1 (An.proper h ⟨h1,h2⟩ e)
    simp [this]
  ·intro h
   rcases List.mem_append.1 h with h |h
   ·exact .step ⟨h1,h2⟩ (ih.2 h)
   ·have e:(par d).toNat=(par b).toNat:=by simpa using h
    rw [P.inj hd h1 (by omega)];exact .self
theorem Up.fed {b c:Nat} (u:Up ls on par b c):gk (aD ls on) pts b=true:=Hz (P.up u.1 u.2).2.1 u.2.cn.symm
theorem An.fed {d b:Nat} (h:An ls on par d b) (hd:gk (aD ls on) pts d=true):gk (aD ls on) pts b=true:=by
 induction h with
 |self=>exact hd
 |step u _ _=>exact Up.fed P u
include hl in
theorem Par.flow (hr:iV ls on pts=true) {d:Nat} (hd:0≤par d):lY ls on pts (par d).toNat=uY pts.length (fun b=>(pts.getD b (0,0)).2) (An ls on par d):=by
 refine pM fun b hb=>?_
 obtain ⟨c,hc,_⟩:=P.line d hd
 have hdf:gk (aD ls on) pts d=true:=Up.fed P ⟨hd,hc⟩
 obtain ⟨w,hw⟩:=P.way (rk b) b (Nat.le_refl _)
 cases hf:gk (aD ls on) pts b
 ·have hna: ¬An ls on par d b:=fun h=>by rw [An.fed P h hdf] at hf;cases hf
  simp [hna]
 ·have h1:=Way.iff P hl hr hw hb hf (k:=(par d).toNat)
  have h2:=An.way P hd hw
  cases hx:gk (aD ls (on.set (par d).toNat false)) pts b
  ·have ha:=h2.2 (h1.2 hx)
   simp [ha]
  ·have hna: ¬An ls on par d b:=fun h=>by have:=h1.1 (h2.1 h);rw [hx] at this;cases this
   simp [hna]
include hl in
theorem Par.flow0 (hr:iV ls on pts=true) {k:Nat} (hk: ∀d,0≤par d→(par d).toNat≠k):lY ls on pts k=0:=by
 refine rK fun b hb=>?_
 obtain ⟨w,hw⟩:=P.way (rk b) b (Nat.le_refl _)
 cases hf:gk (aD ls on) pts b
 ·rfl
 ·cases hx:gk (aD ls (on.set k false)) pts b
  ·have h1:=(Way.iff P hl hr hw hb hf (k:=k)).2 hx
   obtain ⟨d,h2,h3,_⟩:=Way.mem P hw k h1
   exact absurd h3 (hk d h2)
  ·rfl
omit P
def Wt (ls:List Ln) (on:List Bool) (par:Nat→Int) (rk:Nat→Nat) (F:Nat→Prop) (i c b:Nat):Prop:=(b=c∧F c∧i≤rk c)∨ ∃d,Up ls on par d c∧i≤rk d∧An ls on par d b
noncomputable def li (ls:List Ln) (on:List Bool) (pts:List (Int×Int)) (par:Nat→Int) (rk:Nat→Nat) (i c:Nat):Int:=uY pts.length (fun b=>(pts.getD b (0,0)).2) (Wt ls on par rk (fun c=>gk (aD ls on) pts c=true) i c)
noncomputable def jU (ls:List Ln) (on:List Bool) (pts:List (Int×Int)) (par:Nat→Int) (o:Nat):Int:=uY pts.length (fun b=>(pts.getD b (0,0)).2) (An ls on par o)
include P
theorem Par.want_self {i o:Nat} (ho:rk o=i) (hb:o<pts.length) (hf:gk (aD ls on) pts o=true):li ls on pts par rk (i+1) o+(pts.getD o (0,0)).2=jU ls on pts par o:=by
 unfold li jU
 rw [←MP (f:=fun b=>(pts.getD b (0,0)).2) hb]
 refine (Ft (fun b hb=>?_) (fun b hb=>?_)).symm
 ·rw [An.top]
  constructor
  ·rintro (h |⟨d,h1,h2⟩)
   ·exact .inr h
   ·exact .inl (.inr ⟨d,h1,by have:=(P.up h1.1 h1.2).2.2;omega,h2⟩)
  ·rintro ((⟨_,_,h⟩ |⟨d,h1,_,h2⟩) |h)
   ·omega
   ·exact .inr ⟨d,h1,h2⟩
   ·exact .inl h
 ·rintro ⟨⟨_,_,h⟩ |⟨d,h1,_,h2⟩,rfl⟩
  ·omega
  ·have:=An.rkle P h2
   have:=(P.up h1.1 h1.2).2.2
   omega
theorem Par.want_now {i o:Nat} (ho:rk o=i) (hf:gk (aD ls on) pts o=true):li ls on pts par rk i o=jU ls on pts par o:=by
 refine yj fun b hb=>?_
 rw [An.top]
 constructor
 ·rintro (⟨h,_⟩ |⟨d,h1,_,h2⟩)
  ·exact .inl h
  ·exact .inr ⟨d,h1,h2⟩
 ·rintro (h |⟨d,h1,h2⟩)
  ·exact .inl ⟨h,hf,by omega⟩
  ·exact .inr ⟨d,h1,by have:=(P.up h1.1 h1.2).2.2;omega,h2⟩
theorem Par.want_up {i o c:Nat} (hinj: ∀a b,gk (aD ls on) pts a=true→gk (aD ls on) pts b=true→rk a=rk b→a=b) (ho:rk o=i) (u:Up ls on par o c):li ls on pts par rk i c=li ls on pts par rk (i+1) c+jU ls on pts par o:=by
 have hrk:=(P.up u.1 u.2).2.2
 refine Ft (fun b hb=>?_) (fun b hb=>?_)
 ·constructor
  ·rintro (⟨_,_,h⟩ |⟨d,h1,h2,h3⟩)
   ·omega
   ·by_cases e:rk d=i
    ·rw [hinj o d (Up.fed P u) (Up.fed P h1) (by omega)];exact .inr h3
    ·exact .inl (.inr ⟨d,h1,by omega,h3⟩)
  ·rintro ((⟨_,_,h⟩ |⟨d,h1,h2,h3⟩) |h)
   ·omega
   ·exact .inr ⟨d,h1,by omega,h3⟩
   ·exact .inr ⟨o,u,by omega,h⟩
 ·rintro ⟨⟨_,_,h⟩ |⟨d,h1,h2,h3⟩,h4⟩
  ·omega
  ·have hne:d≠o:=fun e=>by subst e;omega
   rcases An.chain h3 h4 with h |h
   ·have:=An.rkle P (An.proper h u hne)
    have:=(P.up h1.1 h1.2).2.2
    omega
   ·have:=An.rkle P (An.proper h h1 (Ne.symm hne))
    omega
theorem Par.want_else {i o c:Nat} (hinj: ∀a b,gk (aD ls on) pts a=true→gk (aD ls on) pts b=true→rk a=rk b→a=b) (ho:rk o=i) (hf:gk (aD ls on) pts o=true) (h1:c≠o) (h2: ¬Up ls on par o c):li ls on pts par rk i c=li ls on pts par rk (i+1) c:=by
 refine yj fun b hb=>?_
 constructor
 ·rintro (⟨h3,h4,h5⟩ |⟨d,h3,h4,h5⟩)
  ·refine .inl ⟨h3,h4,?_⟩
   by_cases e:rk c=i
   ·exact absurd (hinj c o h4 hf (by omega)) h1
   ·omega
  ·refine .inr ⟨d,h3,?_,h5⟩
   by_cases e:rk d=i
   ·rw [hinj d o (Up.fed P h3) hf (by omega)] at h3;exact absurd h3 h2
   ·omega
 ·rintro (⟨h3,h4,h5⟩ |⟨d,h3,h4,h5⟩)
  ·exact .inl ⟨h3,h4,by omega⟩
  ·exact .inr ⟨d,h3,by omega,h5⟩
end
def su (b:Int) (l:Ln):Bool:=yD l.1 0 (b-1)&&yD l.2.1 0 (b-1)&& !(l.1==l.2.1)&&yD l.2.2 1 999
def vQ (b:Int) (ls:List Ln):Bool:=yD b 1 8&&decide (ls.length≤10)&& !(List.range ls.length).any fun k=> !su b (ls.getD k (0,0,0))
def yy (p:Int×Int):Bool:=yD p.1 0 999&&yD p.2 0 999
def md (b:Int) (ls:List Ln) (pts:List (Int×Int)):Bool:=vQ b ls&&decide ((pts.length:Int)=b)&& !(List.range pts.length).any fun k=> !yy (pts.getD k (0,0))
def Po (b:Int) (ls:List Ln) (on:List Bool):Bool:=vQ b ls&&decide (on.length=ls.length)
def Gx (b:Int) (ls:List Ln) (on:List Bool) (pts:List (Int×Int)):Bool:=Po b ls on&&md b ls pts
def rE (b:Int) (ls:List Ln) (on:List Bool) (pts:List (Int×Int)):Bool:=Gx b ls on pts&&iV ls on pts
structure LnOk (b:Int) (l:Ln):Prop where
 a:0≤l.1∧l.1<b
 b:0≤l.2.1∧l.2.1<b
 ne:l.1≠l.2.1
 m:1≤l.2.2∧l.2.2≤999
structure NetOk (b:Int) (ls:List Ln):Prop where
 b0:1≤b
 b1:b≤8
 ll:ls.length≤10
 ln: ∀k,k<ls.length→LnOk b (ls.getD k (0,0,0))
theorem zn {b:Int} {l:Ln}:su b l=true↔LnOk b l:=by
 simp only [su,Bool.and_eq_true,oh,Bool.not_eq_true',beq_eq_false_iff_ne]
 constructor
 ·rintro ⟨⟨⟨h1,h2⟩,h3⟩,h4⟩;exact ⟨by omega,by omega,h3,h4⟩
 ·intro h;have:=h.a;have:=h.b;exact ⟨⟨⟨by omega,by omega⟩,h.ne⟩,h.m⟩
theorem xH {b:Int} {ls:List Ln}:vQ b ls=true↔NetOk b ls:=by
 unfold vQ
 rw [Bool.and_eq_true,DK,Bool.and_eq_true,oh,decide_eq_true_eq]
 constructor
 ·rintro ⟨⟨h1,h2⟩,h3⟩;exact ⟨h1.1,h1.2,h2,fun k hk=>zn.1 (by have:=h3 k hk;simpa using this)⟩
 ·intro h;exact ⟨⟨⟨h.b0,h.b1⟩,h.ll⟩,fun k hk=>by rw [zn.2 (h.ln k hk)];rfl⟩
structure BusOk (b:Int) (ls:List Ln) (pts:List (Int×Int)):Prop where
 net:NetOk b ls
 lp:(pts.length:Int)=b
 bs: ∀k,k<pts.length→(0≤(pts.getD k (0,0)).1∧(pts.getD k (0,0)).1≤999)∧(0≤(pts.getD k (0,0)).2∧(pts.getD k (0,0)).2≤999)
theorem pS {b:Int} {ls:List Ln} {pts:List (Int×Int)}:md b ls pts=true↔BusOk b ls pts:=by
 unfold md
 rw [Bool.and_eq_true,DK,Bool.and_eq_true,xH,decide_eq_true_eq]
 constructor
 ·rintro ⟨⟨h1,h2⟩,h3⟩;exact ⟨h1,h2,fun k hk=>by have:=h3 k hk;simpa [yy,oh] using this⟩
 ·intro h;exact ⟨⟨h.net,h.lp⟩,fun k hk=>by
   have h2:yy (pts.getD k (0,0))=true:=by unfold yy;rw [Bool.and_eq_true,oh,oh];exact h.bs k hk
   rw [h2];rfl⟩
theorem LZ {b:Int} {ls:List Ln} {pts:List (Int×Int)} (h:BusOk b ls pts) (on:List Bool): ∀e∈aD ls on,e.1<pts.length∧e.2<pts.length:=by
 intro e he
 obtain ⟨k,hk,_,rfl⟩:=tS.1 he
 have h1:=h.net.ln k hk
 have:=h.lp;have:=h1.a;have:=h1.b
 exact ⟨by unfold bK;dsimp only;omega,by unfold bK;dsimp only;omega⟩
theorem qf: ∀ {l m:List Int},l.Pairwise (· < ·)→m.Pairwise (· < ·)→(∀x,x∈l↔x∈m)→l=m
 | [],[],_,_,_=>rfl
 | [],y::m,_,_,h=>by have:=(h y).2 (by simp);simp at this
 |x::l,[],_,_,h=>by have:=(h x).1 (by simp);simp at this
 |x::l,y::m,hl,hm,h=>by
  rw [List.pairwise_cons] at hl hm
  have hxy:x=y:=by
   rcases List.mem_cons.1 ((h x).1 (by simp)) with h1 |h1
   ·exact h1
   ·rcases List.mem_cons.1 ((h y).2 (by simp)) with h2 |h2
    ·exact h2.symm
    ·have:=hm.1 x h1;have:=hl.1 y h2;omega
  subst hxy
  rw [qf hl.2 hm.2 fun z=>?_]
  constructor
  ·intro hz
   rcases List.mem_cons.1 ((h z).1 (by simp [hz])) with h1 |h1
   ·subst h1;have:=hl.1 z hz;omega
   ·exact h1
  ·intro hz
   rcases List.mem_cons.1 ((h z).2 (by simp [hz])) with h1 |h1
   ·subst h1;have:=hm.1 z hz;omega
   ·exact h1
def xw (a:Int) (l:List Int):List Int:=l.filter (fun x=>decide (x<a))++a::l.filter (fun x=>decide (a<x))
theorem xx {a:Int} {l:List Int} {x:Int}:x∈xw a l↔x=a∨x∈l:=by
 simp only [xw,List.mem_append,List.mem_cons,List.mem_filter,decide_eq_true_eq]
 constructor
 ·rintro (⟨h,_⟩ |h |⟨h,_⟩)
  ·exact .inr h
  ·exact .inl h
  ·exact .inr h
 ·rintro (h |h)
  ·exact .inr (.inl h)
  ·rcases Int.lt_trichotomy x a with h1 |h1 |h1
   ·exact .inl ⟨h,h1⟩
   ·exact .inr (.inl h1)
   ·exact .inr (.inr ⟨h,h1⟩)
theorem ra {a:Int} {l:List Int} (h:l.Pairwise (· < ·)):(xw a l).Pairwise (· < ·):=by
 unfold xw
 rw [List.pairwise_append,List.pairwise_cons]
 refine ⟨h.sublist List.filter_sublist,⟨fun x hx=>?_,h.sublist List.filter_sublist⟩,fun x hx y hy=>?_⟩
 ·have:=(List.mem_filter.1 hx).2;simpa using this
 ·have h1:x<a:=by have:=(List.mem_filter.1 hx).2;simpa using this
  rcases List.mem_cons.1 hy with rfl |hy
  ·exact h1
  ·have:a<y:=by have:=(List.mem_filter.1 hy).2;simpa using this
   omega
theorem yO {l:List Int} (h: ∀k,k+1<l.length→l.getD k 0<l.getD (k+1) 0):l.Pairwise (· < ·):=by
 rw [List.pairwise_iff_getElem]
 have key: ∀d i,i+d+1<l.length→l.getD i 0<l.getD (i+d+1) 0:=by
  intro d
  induction d with
  |zero=>intro i hi;exact h i hi
  |succ d ih=>
   intro i hi
   have h1:=ih i (by omega)
   have h2:=h (i+d+1) (by omega)
   have e:i+(d+1)+1=i+d+1+1:=by omega
   rw [e];omega
 intro i j hi hj hij
 have:=key (j-i-1) i (by omega)
 rw [show i+(j-i-1)+1=j by omega,ae hi,ae hj] at this
 exact this
theorem oI {l:List Int} (h:l.Pairwise (· < ·)) {k:Nat} (hk:k+1<l.length):l.getD k 0<l.getD (k+1) 0:=by
 rw [List.pairwise_iff_getElem] at h
 rw [ae (by omega),ae hk]
 exact h k (k+1) (by omega) hk (by omega)
@[ext] structure Wd where
 b:Int
 ls:List Ln
 pts:List (Int×Int)
 on:List Bool
 earth:List Bool
 pm:Pm
 br:List Int
def Wd.wk (w:Wd):Wk:=(w.on,w.earth,w.pm)
def Wd.put (w:Wd) (k:Wk):Wd:=⟨w.b,w.ls,w.pts,k.1,k.2.1,k.2.2,w.br⟩
def Wd.zero:Wd:=⟨0,[],[],[],[],[],[]⟩
theorem RX (w:Wd) (k:Wk):(w.put k).wk=k:=rfl
theorem Fb (w:Wd):w.put w.wk=w:=rfl
def tj (on:List Bool) (br:List Int) (k:Nat):Bool:=(decide (0≤br.getD k 0)&&decide (br.getD k 0<(on.length:Int)))&& !on.getD (br.getD k 0).toNat false&&(decide (k=0) ||decide (br.getD (k-1) 0<br.getD k 0))
def SK (on:List Bool) (br:List Int):Bool:= !(List.range br.length).any fun k=> !tj on br k
def wv (w:Wd):Bool:=md w.b w.ls w.pts&&jR w.on w.earth w.pm&&decide (w.on.length=w.ls.length)&&SK w.on w.br&&iV w.ls w.on w.pts
structure WdOk (w:Wd):Prop where
 bus:BusOk w.b w.ls w.pts
 work:WOk w.wk
 len:w.on.length=w.ls.length
 inn: ∀x∈w.br,(0≤x∧x<(w.on.length:Int))∧w.on.getD x.toNat false=false
 sor:w.br.Pairwise (· < ·)
 rad:iV w.ls w.on w.pts=true
theorem NJ {on:List Bool} {br:List Int}:SK on br=true↔(∀x∈br,(0≤x∧x<(on.length:Int))∧on.getD x.toNat false=false)∧br.Pairwise (· < ·):=by
 unfold SK
 rw [DK]
 constructor
 ·intro h
  have h1: ∀k,k<br.length→(0≤br.getD k 0∧br.getD k 0<(on.length:Int))∧on.getD (br.getD k 0).toNat false=false∧(k=0∨br.getD (k-1) 0<br.getD k 0):=by
   intro k hk
   have:=h k hk
   simpa only [tj,Bool.not_eq_false',Bool.and_eq_true,Bool.or_eq_true,decide_eq_true_eq,Bool.not_eq_true',and_assoc] using this
  refine ⟨fun x hx=>?_,yO fun k hk=>?_⟩
  ·obtain ⟨k,hk,rfl⟩:=List.mem_iff_getElem.1 hx
   have:=h1 k hk
   rw [ae hk] at this
   exact ⟨this.1,this.2.1⟩
  ·rcases (h1 (k+1) hk).2.2 with h2 |h2
   ·omega
   ·simpa using h2
 ·rintro ⟨h1,h2⟩ k hk
  have h3:=h1 (br.getD k 0) (by rw [ae hk];exact List.getElem_mem hk)
  have h4:k=0∨br.getD (k-1) 0<br.getD k 0:=by
   rcases Nat.eq_zero_or_pos k with h |h
   ·exact .inl h
   ·obtain ⟨j,rfl⟩: ∃j,k=j+1:=⟨k-1,by omega⟩
    exact .inr (oI h2 hk)
  have:tj on br k=true:=by simpa only [tj,Bool.and_eq_true,Bool.or_eq_true,decide_eq_true_eq,Bool.not_eq_true',and_assoc] using ⟨h3.1.1,h3.1.2,h3.2,h4⟩
  rw [this];rfl
theorem dc {w:Wd}:wv w=true↔WdOk w:=by
 unfold wv
 rw [Bool.and_eq_true,Bool.and_eq_true,Bool.and_eq_true,Bool.and_eq_true,pS,decide_eq_true_eq,NJ]
 constructor
 ·rintro ⟨⟨⟨⟨h1,h2⟩,h3⟩,h4,h5⟩,h6⟩;exact ⟨h1,wE.1 h2,h3,h4,h5,h6⟩
 ·intro h;exact ⟨⟨⟨⟨h.bus,wE.2 h.work⟩,h.len⟩,h.inn,h.sor⟩,h.rad⟩
def bw (w:Wd) (kd a who:Int):Wd×Bool:=
 if wv w=true then
  if 0≤a∧a<(w.on.length:Int) then
   if kd=6∧a∉w.br then ({w with on:=w.on.set a.toNat false,br:=xw a w.br},true)
   else if kd=7∧a∈w.br∧(who,a)∈w.pm then ({w with br:=w.br.filter fun x=>x !=a},true)
   else if kd=0∧a∈w.br then (w,false)
   else if (cU w.wk kd a who).2=true∧iV w.ls (cU w.wk kd a who).1.1 w.pts=true then (w.put (cU w.wk kd a who).1,true)
   else (w,false)
  else (w,false)
 else (.zero,false)
theorem RW {w:Wk} {kd a who:Int} (h:kd≠0): ∀k,(cg w kd a who).1.getD k false=true→w.1.getD k false=true:=by
 intro k hk
 unfold cg at hk
 rw [if_neg h] at hk
 split at hk
 ·by_cases e:a.toNat=k
  ·subst e
   rcases Nat.lt_or_ge a.toNat w.1.length with h1 |h1
   ·rw [oO h1] at hk;cases hk
   ·rw [QT (by simpa using h1)] at hk;cases hk
  ·rwa [dW e] at hk
 ·split at hk
  ·exact hk
  ·split at hk
   ·exact hk
   ·split at hk<;>exact hk
theorem GD (w:Wk) (kd a who:Int):(cg w kd a who).1.length=w.1.length:=(OU w kd a who).1
theorem wD {w:Wk} (hw:WOk w) {kd a who:Int}:(cU w kd a who).1.1.length=w.1.length∧(kd≠0→ ∀k,(cU w kd a who).1.1.getD k false=true→w.1.getD k false=true):=by
 rcases mT hw kd a who with ⟨h,_⟩ |⟨h,_⟩
 ·rw [h];exact ⟨GD _ _ _ _,fun h0=>RW h0⟩
 ·rw [h];exact ⟨rfl,fun _ k hk=>hk⟩
theorem FE {w:Wd} (h:WdOk w) {kd a who:Int} (h0:kd≠0):iV w.ls (cU w.wk kd a who).1.1 w.pts=true:=by
 have h1:=wD h.work (kd:=kd) (a:=a) (who:=who)
 exact xU (h1.1.trans h.len) h.len (h1.2 h0) h.rad
theorem Kb {w:Wd} (h:WdOk w) {k:Wk} (hk:WOk k) (hl:k.1.length=w.on.length) (hbr: ∀x∈w.br,k.1.getD x.toNat false=false) (hr:iV w.ls k.1 w.pts=true):WdOk (w.put k):=
 ⟨h.bus,hk,hl.trans h.len,fun x hx=>⟨by have:=(h.inn x hx).1;show 0≤x∧x<(k.1.length:Int);rw [hl];exact this,hbr x hx⟩,h.sor,hr⟩
theorem Nc {w:Wk} (h:WOk w) (kd a who:Int):WOk (cU w kd a who).1:=by
 rcases mT h kd a who with ⟨h1,_,_,h2⟩ |⟨h1,_⟩
 ·rw [h1];exact h2
 ·rw [h1];exact h
theorem wC {w:Wd} (h:WdOk w) (kd a who:Int):WdOk (bw w kd a who).1:=by
 unfold bw
 rw [if_pos (dc.2 h)]
 split
 ·rename_i ha
  split
  ·rename_i h6
   have hal:a.toNat<w.on.length:=by omega
   have hsub: ∀k,(w.on.set a.toNat false).getD k false=true→w.on.getD k false=true:=by
    intro k hk
    by_cases e:a.toNat=k
    ·subst e;rw [oO hal] at hk;cases hk
    ·rwa [dW e] at hk
   have hw:=h.work
   refine ⟨h.bus,⟨by simpa [Wd.wk] using hw.l0,by simpa [Wd.wk] using hw.l1,by simpa [Wd.wk] using hw.le,hw.lp,fun k hk=>hw.ne k (hsub k hk),fun p hp=>?_,hw.nd⟩,by simpa using h.len,fun x hx=>?_,ra h.sor,xU (by simpa using h.len) h.len hsub h.rad⟩
   ·have:=hw.pm p hp
    simpa [Wd.wk] using this
   ·dsimp only at hx ⊢
    rcases xx.1 hx with rfl |hx
    ·exact ⟨by simpa using ha,oO hal⟩
    ·have:=h.inn x hx
     refine ⟨by simpa using this.1,?_⟩
     cases hc:(w.on.set a.toNat false).getD x.toNat false
     ·rfl
     ·rw [hsub _ hc] at this;exact this.2
  ·split
   ·exact ⟨h.bus,h.work,h.len,fun x hx=>h.inn x (List.mem_filter.1 hx).1,h.sor.sublist List.filter_sublist,h.rad⟩
   ·split
    ·exact h
    ·rename_i h6 h7 h0
     split
     ·rename_i hr
      have h1:=wD h.work (kd:=kd) (a:=a) (who:=who)
      refine Kb h (Nc h.work kd a who) h1.1 (fun x hx=>?_) hr.2
      have hi:=h.inn x hx
      by_cases hk:kd=0
      ·subst hk
       have hne:a≠x:=fun e=>h0 ⟨rfl,e▸hx⟩
       rcases mT h.work 0 a who with ⟨g,_⟩ |⟨g,_⟩
       ·rw [g]
        show (w.on.set a.toNat true).getD x.toNat false=false
        rw [dW (by omega)];exact hi.2
       ·rw [g];exact hi.2
      ·cases hc:(cU w.wk kd a who).1.1.getD x.toNat false
       ·rfl
       ·have h2:=h1.2 hk _ hc
        rw [show w.wk.1=w.on from rfl] at h2
        rw [h2] at hi;exact hi.2
     ·exact h
 ·exact h
theorem Na (w:Wd) (h:wv w=true) (kd a who:Int):(bw w kd a who).1.b=w.b∧(bw w kd a who).1.ls=w.ls∧(bw w kd a who).1.pts=w.pts:=by
 unfold bw
 rw [if_pos h]
 repeat' split
 all_goals exact ⟨rfl,rfl,rfl⟩
theorem Ka {w:Wd} (h:WdOk w) {kd a who:Int} (hf:(bw w kd a who).2=false):(bw w kd a who).1=w:=by
 unfold bw at hf ⊢
 rw [if_pos (dc.2 h)] at hf ⊢
 split<;>rename_i ha
 ·rw [if_pos ha] at hf
  split<;>rename_i h6
  ·rw [if_pos h6] at hf;cases hf
  ·rw [if_neg h6] at hf
   split<;>rename_i h7
   ·rw [if_pos h7] at hf;cases hf
   ·rw [if_neg h7] at hf
    split<;>rename_i h0
    ·rfl
    ·rw [if_neg h0] at hf
     split<;>rename_i hr
     ·rw [if_pos hr] at hf;cases hf
     ·rfl
 ·rfl
abbrev Dd:=Int×Int×Int
def bq (s:Int×Wd) (d:Dd):Int×Wd:=if (bw s.2 d.1 d.2.1 d.2.2).2=true then (s.1+1,(bw s.2 d.1 d.2.1 d.2.2).1) else s
theorem rV {s:Int×Wd} (h:WdOk s.2) (d:Dd):WdOk (bq s d).2:=by
 unfold bq
 split
 ·exact wC h _ _ _
 ·exact h
theorem gT (l:List Dd): ∀ {s:Int×Wd},WdOk s.2→WdOk (l.foldl bq s).2:=by
 induction l with
 |nil=>intro s h;exact h
 |cons d l ih=>intro s h;exact ih (rV h d)
def uj (w:Wd) (l:List Dd):Int×Wd:=if wv w=true then l.foldl bq (0,w) else (0,.zero)
theorem FC {w:Wd} (h:WdOk w) (l:List Dd):WdOk (uj w l).2:=by
 unfold uj;rw [if_pos (dc.2 h)];exact gT l h
theorem uk (l:List Dd) (hl: ∀d∈l,d.1≠0∧d.1≠6∧d.1≠7): ∀(c:Int) (w:Wd),WdOk w→l.foldl bq (c,w)=((l.foldl nH (c,w.wk)).1,w.put (l.foldl nH (c,w.wk)).2):=by
 induction l with
 |nil=>intro c w h;rfl
 |cons d l ih=>
  intro c w h
  have hd:=hl d (by simp)
  have e0:bw w d.1 d.2.1 d.2.2=(w.put (cU w.wk d.1 d.2.1 d.2.2).1,(cU w.wk d.1 d.2.1 d.2.2).2):=by
   unfold bw
   rcases mT h.work d.1 d.2.1 d.2.2 with ⟨g,g2,_⟩ |⟨g,g2⟩
   ·have hr:=FE h hd.1 (a:=d.2.1) (who:=d.2.2)
    have g3:0≤d.2.1∧d.2.1<(w.on.length:Int):=g2
    rw [if_pos (dc.2 h),if_pos g3,if_neg (fun g=>hd.2.1 g.1),if_neg (fun g=>hd.2.2 g.1),if_neg (fun g=>hd.1 g.1),if_pos ⟨by rw [g],hr⟩,g]
   ·have hn: ¬((cU w.wk d.1 d.2.1 d.2.2).2=true∧iV w.ls (cU w.wk d.1 d.2.1 d.2.2).1.1 w.pts=true):=by rw [g];simp
    rw [if_pos (dc.2 h)]
    split
    ·rw [g];simp [hd.1,hd.2.1,hd.2.2,Fb]
    ·rw [g,Fb]
  have e:bq (c,w) d=((nH (c,w.wk) d).1,w.put (nH (c,w.wk) d).2):=by
   unfold bq nH
   dsimp only
   rw [e0]
   dsimp only
   split
   ·rfl
   ·rfl
  have hok:=rV (s:=(c,w)) h d
  rw [List.foldl_cons,List.foldl_cons,e]
  rw [e] at hok
  rw [ih (fun x hx=>hl x (by simp [hx])) _ _ hok,RX]
  rfl
theorem tN {σ Out:Type} (L:Nat→σ→Option Out) (R:Nat→σ→Prop) (n:Nat) (sd:σ→Option Out) (hn:n≤1099511627776)
 (hstep: ∀k fuel s,k<n→R k s→ ∃s',R (k+1) s'∧L (fuel+1) s=L fuel s') (hend: ∀fuel s,R n s→L (fuel+1) s=sd s) (s:σ) (h0:R 0 s): ∃s',R n s'∧L ao s=sd s':=by
 have go: ∀j k fuel s,k+j=n→j<fuel→R k s→ ∃s',R n s'∧L fuel s=sd s':=by
  intro j
  induction j with
  |zero=>
   intro k fuel s hk hf hr
   obtain ⟨f,rfl⟩: ∃f,fuel=f+1:=⟨fuel-1,by omega⟩
   obtain rfl:k=n:=by omega
   exact ⟨s,hr,hend f s hr⟩
  |succ j ih=>
   intro k fuel s hk hf hr
   obtain ⟨f,rfl⟩: ∃f,fuel=f+1:=⟨fuel-1,by omega⟩
   obtain ⟨s',h1,h2⟩:=hstep k f s (by omega) hr
   rw [h2]
   exact ih (k+1) f s' (by omega) (by omega) h1
 exact go n 0 ao s (by omega) (mG hn) h0
theorem Jr {σ Out:Type} (L:Nat→σ→Option Out) (R:Nat→σ→Prop) (n:Nat) (P:Nat→Bool) (fv out:Option Out) (hn:n≤1099511627776)
 (hstep: ∀k fuel s,k<n→R k s→(P k=true∧L (fuel+1) s=fv)∨(P k=false∧ ∃s',R (k+1) s'∧L (fuel+1) s=L fuel s')) (hend: ∀fuel s,R n s→L (fuel+1) s=out) (s:σ) (h0:R 0 s):
 L ao s=bif (List.range n).any P then fv else out:=by
 have go: ∀j k fuel s,k+j=n→j<fuel→R k s→L fuel s=bif (List.range' k j).any P then fv else out:=by
  intro j
  induction j with
  |zero=>
   intro k fuel s hk hf hr
   obtain ⟨f,rfl⟩: ∃f,fuel=f+1:=⟨fuel-1,by omega⟩
   obtain rfl:k=n:=by omega
   simpa using hend f s hr
  |succ j ih=>
   intro k fuel s hk hf hr
   obtain ⟨f,rfl⟩: ∃f,fuel=f+1:=⟨fuel-1,by omega⟩
   rw [List.range'_succ,List.any_cons]
   rcases hstep k f s (by omega) hr with ⟨h1,h2⟩ |⟨h1,s',h2,h3⟩
   ·rw [h1,h2];rfl
   ·rw [h1,h3,ih (k+1) f s' (by omega) (by omega) h2];rfl
 rw [go n 0 ao s (by omega) (mG hn) h0,List.range_eq_range']
theorem XM (b:Int):(am b 1 ||am 8 b)= !yD b 1 8:=by rw [Bool.eq_iff_iff];simp [am,yD]<;>omega
theorem UZ (n:Nat):am 10 (n:Int)= !decide (n≤10):=by rw [Bool.eq_iff_iff];simp [am];omega
theorem HY (a b:Nat):((a:Int)==(b:Int))=decide (a=b):=by rw [Bool.eq_iff_iff];simp<;>omega
theorem Oy (b:Int) (l:Ln):su b l=((bb 0 l.1&&am l.1 b)&&(bb 0 l.2.1&&am l.2.1 b)&& !(l.1==l.2.1)&&(!am l.2.2 1&& !am 999 l.2.2)):=by
 rw [Bool.eq_iff_iff];simp [su,yD,bb,am]<;>omega
theorem Rh (b:Int) (ls:List Ln):aC b ls=some (vQ b ls):=by
 unfold aC vQ
 rw [XM,UZ]
 cases h1:yD b 1 8
 ·rfl
 by_cases hl:ls.length≤10
 ·have h:=cc (bJ b ls) (fun k=>(k:Int)) ls.length (fun k=> !su b (ls.getD k (0,0,0))) (some (.inr false)) (some (.inl ())) (by omega) (fun k fuel hk=>?_) (fun fuel=>?_)
  ·rw [show bJ b ls ao 0=_ from h,decide_eq_true hl]
   cases (List.range ls.length).any fun k=> !su b (ls.getD k (0,0,0))<;>rfl
  ·rw [gj,cd]
   simp only [aK hk,ah hk,aa,cond_true,Int.toNat_natCast,ai (by omega:k<4611686018427387904),hZ,Option.bind_some]
   generalize ls.getD k (0,0,0)=l
   rw [Oy]
   cases bb 0 l.1&&am l.1 b<;>cases bb 0 l.2.1&&am l.2.1 b<;>cases l.1==l.2.1<;>cases am l.2.2 1<;>cases am 999 l.2.2<;>rfl
  ·rw [gj,cd];simp only [av,cond_false]
 ·rw [decide_eq_false hl];rfl
theorem Vs (b:Int) (ls:List Ln):gN b ls=some (vQ b ls):=by
 unfold gN vQ aw
 rw [UZ,lw]
 cases h1:bb 1 b&&bb b 8
 ·rfl
 by_cases hl:ls.length≤10
 ·have hb:1≤b∧b≤8:=by simpa [bb] using h1
  have w1:ak (b-1)=b-1:=aW (by omega) (by omega)
  have h:=cc (dR b ls) (fun k=>(k:Int)) ls.length (fun k=> !su b (ls.getD k (0,0,0))) (some (.inr false)) (some (.inl ())) (by omega) (fun k fuel hk=>?_) (fun fuel=>?_)
  ·rw [show dR b ls ao 0=_ from h,decide_eq_true hl]
   cases (List.range ls.length).any fun k=> !su b (ls.getD k (0,0,0))<;>rfl
  ·rw [nc,fO]
   simp only [aK hk,ah hk,aa,cond_true,Int.toNat_natCast,ai (by omega:k<4611686018427387904),aw,Option.bind_some,w1]
   generalize ls.getD k (0,0,0)=l
   unfold su
   rw [lw,lw,lw]
   cases bb 0 l.1&&bb l.1 (b-1)<;>cases bb 0 l.2.1&&bb l.2.1 (b-1)<;>cases l.1==l.2.1<;>cases bb 1 l.2.2&&bb l.2.2 999<;>rfl
  ·rw [nc,fO];simp only [av,cond_false]
 ·rw [decide_eq_false hl];rfl
section
variable (b:Int) (ls:List Ln) (pts:List (Int×Int)) (hp:pts.length≤1048576)
include hp
theorem Lo:eH b ls pts=some (md b ls pts):=by
 unfold eH md
 rw [Rh,Option.bind_some]
 have e:((pts.length:Int) !=b)= !decide ((pts.length:Int)=b):=by rw [Bool.eq_iff_iff];simp
 rw [e]
 have h:=cc (cH pts) (fun k=>(k:Int)) pts.length (fun k=> !yy (pts.getD k (0,0))) (some (.inr false)) (some (.inl ())) (by omega) (fun k fuel hk=>?_) (fun fuel=>?_)
 ·rw [show cH pts ao 0=_ from h]
  cases vQ b ls<;>cases decide ((pts.length:Int)=b)<;>cases (List.range pts.length).any fun k=> !yy (pts.getD k (0,0))<;>rfl
 ·rw [lP,dY]
  simp only [aK hk,ah hk,aa,cond_true,Int.toNat_natCast,ai (by omega:k<4611686018427387904),ic,Option.bind_some]
  generalize pts.getD k (0,0)=p
  unfold yy
  rw [lw,lw]
  cases bb 0 p.1&&bb p.1 999<;>cases bb 0 p.2&&bb p.2 999<;>rfl
 ·rw [lP,dY];simp only [av,cond_false]
theorem MF:fe b ls pts=some (md b ls pts):=by
 unfold fe md
 rw [Vs]
 have e:((pts.length:Int)==b)=decide ((pts.length:Int)=b):=by rw [Bool.eq_iff_iff];simp
 rw [e]
 have h:=cc (cM pts) (fun k=>(k:Int)) pts.length (fun k=> !yy (pts.getD k (0,0))) (some (.inr false)) (some (.inl ())) (by omega) (fun k fuel hk=>?_) (fun fuel=>?_)
 ·rw [show cM pts ao 0=_ from h]
  cases vQ b ls<;>cases decide ((pts.length:Int)=b)<;>cases (List.range pts.length).any fun k=> !yy (pts.getD k (0,0))<;>rfl
 ·rw [lV,ei]
  simp only [aK hk,ah hk,aa,cond_true,Int.toNat_natCast,ai (by omega:k<4611686018427387904),aw,Option.bind_some,Bool.or_true]
  generalize pts.getD k (0,0)=p
  unfold yy
  rw [lw,lw]
  cases bb 0 p.1&&bb p.1 999<;>cases bb 0 p.2&&bb p.2 999<;>rfl
 ·rw [lV,ei];simp only [av,cond_false]
omit hp in
theorem Rj (on:List Bool):ia b ls on=some (Po b ls on):=by
 unfold ia Po;rw [Rh,HY];rfl
omit hp in
theorem Dh (on:List Bool):bZ b ls on=some (Po b ls on):=by
 unfold bZ Po;rw [Vs,HY];rfl
theorem Oj (on:List Bool):cY b ls on pts=some (Gx b ls on pts):=by
 unfold cY Gx
 rw [Rj,Lo b ls pts hp]
 cases Po b ls on<;>cases md b ls pts<;>rfl
theorem Xd (on:List Bool):oC b ls on pts=some (Gx b ls on pts):=by
 unfold oC Gx
 rw [Dh,MF b ls pts hp]
 cases Po b ls on<;>cases md b ls pts<;>rfl
end
structure StOk (b:Int) (ls:List Ln) (on:List Bool):Prop where
 net:NetOk b ls
 len:on.length=ls.length
theorem wn {b:Int} {ls:List Ln} {on:List Bool}:Po b ls on=true↔StOk b ls on:=by
 unfold Po
 rw [Bool.and_eq_true,xH,decide_eq_true_eq]
 exact ⟨fun h=>⟨h.1,h.2⟩,fun h=>⟨h.1,h.2⟩⟩
theorem jC {b:Int} {ls:List Ln} {on:List Bool} {pts:List (Int×Int)}:Gx b ls on pts=true↔StOk b ls on∧BusOk b ls pts:=by
 unfold Gx;rw [Bool.and_eq_true,wn,pS]
def zl (u:List Nat):List Int:=u.map fun (n:Nat)=>(n:Int)
theorem gH (u:List Nat):(zl u).length=u.length:=by simp [zl]
theorem vd (u:List Nat) (k:Nat):(zl u).getD k 0=((u.getD k 0:Nat):Int):=by
 unfold zl
 rcases Nat.lt_or_ge k u.length with h |h
 ·simp [List.getD,h]
 ·simp [List.getD,List.getElem?_eq_none h]
theorem Ni (u:List Nat) (k v:Nat):(zl u).set k (v:Int)=zl (u.set k v):=by simp [zl,List.map_set]
structure UR (u:List Nat) (B:Nat) (f:Nat→Nat):Prop where
 len:u.length=B
 dn:Dn u
 rot: ∀c,c<B→Rot u c (f c)
theorem UR.le {u:List Nat} {B:Nat} {f:Nat→Nat} (h:UR u B f) {c:Nat} (hc:c<B):f c≤c:=by
 obtain ⟨r,h1,h2⟩:=Rot.ex h.dn c (by rw [h.len];exact hc)
 rw [(h.rot c hc).uniq h1];exact h2
theorem QM {u0:List Nat} {B:Nat} {f:Nat→Nat} (h0:u0.length=B): ∀(c fuel:Nat) (u:List Nat),c<fuel→UR u B f→c<B→ ∃v,fb (zl u0) fuel (zl u,(c:Int))=some (((f c:Nat):Int),zl v)∧UR v B f:=by
 intro c
 induction c using Nat.strongRecOn with
 |ind c ih=>
  intro fuel u hf hu hc
  obtain ⟨g,rfl⟩: ∃g,fuel=g+1:=⟨fuel-1,by omega⟩
  rw [qU,gU]
  have hx: ∀d,d<B→aI (d:Int) (zl u0).length=true:=fun d hd=>by rw [gH,h0];exact ah hd
  simp only [hx c hc,aa,Int.toNat_natCast,vd]
  by_cases hr:u.getD c 0=c
  ·have e:(((u.getD c 0:Nat):Int) !=(c:Int))=false:=by rw [hr];simp
   rw [e,(hu.rot c hc).fix hr]
   exact ⟨u,rfl,hu⟩
  ·have e:(((u.getD c 0:Nat):Int) !=(c:Int))=true:=by simp only [bne_iff_ne,ne_eq];omega
   have h1:=hu.dn c (by rw [hu.len];exact hc)
   have h2:=hu.dn (u.getD c 0) (by rw [hu.len];omega)
   simp only [e,cond_true,hx _ (show u.getD c 0<B by omega),aa,Int.toNat_natCast,vd]
   have h3:(zl u).set c ((u.getD (u.getD c 0) 0:Nat):Int)=zl (u.set c (u.getD (u.getD c 0) 0)):=Ni _ _ _
   rw [h3,vd,kV (by rw [hu.len];exact hc),if_pos rfl]
   have hcl:c<u.length:=by rw [hu.len];exact hc
   have hv:UR (u.set c (u.getD (u.getD c 0) 0)) B f:=⟨by rw [List.length_set];exact hu.len,hu.dn.halve hcl,fun d hd=>Rot.halve hu.dn hcl d _ (by rw [hu.len];exact hd) (hu.rot d hd)⟩
   obtain ⟨v,i1,i2⟩:=ih (u.getD (u.getD c 0) 0) (by omega) g _ (by omega) hv (by omega)
   have hf2:f (u.getD (u.getD c 0) 0)=f c:=(hu.rot _ (by omega)).uniq ((hu.rot c hc).next.next)
   rw [hf2] at i1
   exact ⟨v,i1,i2⟩
theorem uK {u:List Nat} {B:Nat} {f:Nat→Nat} (h:UR u B f) (hB:B≤1099511627776) {c:Nat} (hc:c<B): ∃v,bd (zl u) (c:Int)=some (((f c:Nat):Int),zl v)∧UR v B f:=by
 obtain ⟨v,h1,h2⟩:=QM h.len c ao u (mG (by omega)) h hc
 refine ⟨v,?_,h2⟩
 unfold bd
 rw [h1];rfl
theorem UP {u:List Nat} {B:Nat} {f:Nat→Nat} (h:UR u B f) (hB:B≤1099511627776) {a c:Nat} (ha:a<B) (hc:c<B): ∃v,io (zl u) (a:Int) (c:Int)=some (decide (f a=f c),zl v)∧UR v B f:=by
 obtain ⟨v,h1,h2⟩:=uK h hB ha
 obtain ⟨x,h3,h4⟩:=uK h2 hB hc
 refine ⟨x,?_,h4⟩
 unfold io
 rw [h1,Option.bind_some,h3,Option.bind_some]
 have:(((f a:Nat):Int)==((f c:Nat):Int))=decide (f a=f c):=by rw [Bool.eq_iff_iff];simp;omega
 rw [this]
theorem PN {u:List Nat} {B:Nat} {f:Nat→Nat} (h:UR u B f) (hB:B≤1099511627776) {a c:Nat} (ha:a<B) (hc:c<B): ∃v,fc (zl u) (a:Int) (c:Int)=some (zl v)∧UR v B (mF f a c):=by
 obtain ⟨v,h1,h2⟩:=uK h hB ha
 obtain ⟨x,h3,h4⟩:=uK h2 hB hc
 have la:=h.le ha
 have lc:=h.le hc
 refine ⟨x.set (max (f a) (f c)) (min (f a) (f c)),?_,?_⟩
 ·unfold fc
  rw [h1,Option.bind_some,h3,Option.bind_some]
  have e1:max ((f a:Nat):Int) ((f c:Nat):Int)=((max (f a) (f c):Nat):Int):=by omega
  have e2:min ((f a:Nat):Int) ((f c:Nat):Int)=((min (f a) (f c):Nat):Int):=by omega
  have hx:aI ((max (f a) (f c):Nat):Int) (zl u).length=true:=by rw [gH,h.len];exact ah (by omega)
  rw [e1,e2,hx,aa,Int.toNat_natCast]
  exact congrArg some (Ni _ _ _)
 ·have hlen:=h4.len
  refine ⟨by rw [List.length_set];exact hlen,fun d hd=>?_,fun d hd=>Rot.join h4.dn (fun c hc=>h4.rot c (by omega)) (by omega) (by omega) (fun c hc=>h4.le (by omega)) d (by omega)⟩
  rw [List.length_set] at hd
  rw [kV (by omega)]
  split
  ·omega
  ·exact h4.dn d hd
theorem UL {B:Nat} (hB:B≤1099511627776):gM (B:Int)=some (zl (List.range B))∧UR (List.range B) B id:=by
 refine ⟨?_,by simp,fun b hb=>?_,fun c hc=>?_⟩
 ·unfold gM
  have hm:sY (B:Int)=true:=by simp [sY];omega
  rw [hm,aa,Int.toNat_natCast]
  have h:=ba (dQ (B:Int)) (fun k=>((List.range B).map (fun (i:Nat)=>if i<k then (i:Int) else 0),(k:Int))) B (some (zl (List.range B))) (by omega) (fun k fuel hk=>?_) (fun fuel=>?_)
  ·have e:(List.range B).map (fun (i:Nat)=>if i<0 then (i:Int) else 0)=List.replicate B (0:Int):=by
    apply List.ext_getElem (by simp)
    intro i h1 h2
    simp
   rw [e] at h
   rw [show dQ (B:Int) ao (List.replicate B (0:Int),0)=_ from h];rfl
  ·rw [na,fN]
   simp only [Int.toNat_natCast,aK hk,ah hk,cond_true,aa,ai (by omega:k<4611686018427387904)]
   congr 2
   apply List.ext_getElem (by simp)
   intro i h1 h2
   rw [List.getElem_set]
   simp only [List.getElem_map,List.getElem_range]
   split
   ·rename_i e;subst e;rw [if_pos (by omega)]
   ·by_cases hi:i<k
    ·rw [if_pos hi,if_pos (by omega)]
    ·rw [if_neg hi,if_neg (by omega)]
  ·rw [na,fN]
   simp only [Int.toNat_natCast,av,cond_false]
   congr 1
   unfold zl
   refine List.map_congr_left fun i hi=>?_
   rw [if_pos (by simpa using hi)]
 ·have hb:b<B:=by simpa using hb
  simp [List.getD,hb]
 ·exact .stop (by simp [List.getD,hc])
theorem uM {b:Int} {l:Ln} (h:LnOk b l):l.1=(((bK l).1:Nat):Int)∧l.2.1=(((bK l).2:Nat):Int)∧(bK l).1<b.toNat∧(bK l).2<b.toNat:=by
 have:=h.a;have:=h.b
 unfold bK
 dsimp only
 omega
section
variable {b:Int} {ls:List Ln} {on:List Bool} (h:StOk b ls on)
include h
theorem yu {k:Nat} (hk:k<ls.length):rB ((ls.zip on).take (k+1))=if on.getD k false then rB ((ls.zip on).take k)++ [bK (ls.getD k (0,0,0))] else rB ((ls.zip on).take k):=by
 have hl:=h.len
 have hz:k<(ls.zip on).length:=by simp;omega
 rw [EP hz,ae (by omega:k<on.length),ae hk]
 simp
theorem IR:rB ((ls.zip on).take ls.length)=aD ls on:=by
 have hl:=h.len
 unfold aD
 rw [List.take_of_length_le (by simp;omega)]
theorem WT:jx b ls on=some (FW ls on):=by
 have hb:=h.net.b0;have hb1:=h.net.b1;have hll:=h.net.ll;have hl:=h.len
 obtain ⟨B,rfl⟩: ∃B:Nat,b=(B:Int):=⟨b.toNat,by omega⟩
 obtain ⟨n1,n2⟩:=UL (B:=B) (by omega)
 unfold jx FW
 rw [n1,Option.bind_some]
 have hh:=Jr (gr ls on) (fun k s=> ∃u,s=(zl u,(k:Int))∧UR u B (aN (rB ((ls.zip on).take k)))) ls.length
  (fun k=>on.getD k false&&aN (rB ((ls.zip on).take k)) (bK (ls.getD k (0,0,0))).1==aN (rB ((ls.zip on).take k)) (bK (ls.getD k (0,0,0))).2) (some (.inr true)) (some (.inl ())) (by omega) ?_ ?_ (zl (List.range B),0) ⟨_,rfl,n2⟩
 ·rw [hh]
  cases (List.range ls.length).any _<;>rfl
 ·rintro k fuel s hk ⟨u,rfl,hu⟩
  rw [mY,fL]
  have hln:=uM (h.net.ln k hk)
  simp only [Int.toNat_natCast] at hln
  simp only [aK hk,ah hk,ah (show k<on.length by omega),aa,cond_true,Int.toNat_natCast,ai (by omega:k<4611686018427387904)]
  rw [hln.1,hln.2.1]
  cases ho:on.getD k false
  ·right
   refine ⟨rfl,(zl u,((k+1:Nat):Int)),⟨u,rfl,?_⟩,rfl⟩
   rw [yu h hk,ho];exact hu
  ·obtain ⟨v,s1,s2⟩:=UP hu (by omega) hln.2.2.1 hln.2.2.2
   simp only [cond_true,s1,Option.bind_some]
   by_cases he:aN (rB ((ls.zip on).take k)) (bK (ls.getD k (0,0,0))).1=aN (rB ((ls.zip on).take k)) (bK (ls.getD k (0,0,0))).2
   ·left
    rw [decide_eq_true he]
    exact ⟨by rw [he];simp,rfl⟩
   ·right
    obtain ⟨x,j1,j2⟩:=PN s2 (by omega) hln.2.2.1 hln.2.2.2
    rw [decide_eq_false he]
    simp only [cond_false,j1,Option.bind_some]
    refine ⟨by simpa using he,(zl x,((k+1:Nat):Int)),⟨x,rfl,?_⟩,rfl⟩
    rw [yu h hk,ho,if_pos rfl,rP];exact j2
 ·rintro fuel s ⟨u,rfl,hu⟩
  rw [mY,fL];simp only [av,cond_false]
end
def bl (B:Nat) (s:Nat→Bool):List Bool:=(List.range B).map s
theorem Kq (B:Nat) (s:Nat→Bool):(bl B s).length=B:=by simp [bl]
theorem FU {B c:Nat} {s:Nat→Bool} (h:c<B):(bl B s).getD c false=s c:=by simp [bl,List.getD,h]
theorem Ks {B a:Nat} {s:Nat→Bool} (h:a<B):(bl B s).set a true=bl B (fun c=>c==a ||s c):=by
 apply List.ext_getElem (by simp [bl])
 intro i h1 h2
 rw [List.getElem_set]
 simp only [bl,List.getElem_map,List.getElem_range]
 split
 ·rename_i e;subst e;simp
 ·rename_i e
  have:(i==a)=false:=by simpa using fun e2=>e e2.symm
  rw [this];rfl
theorem DQ {B:Nat} {s t:Nat→Bool} (h: ∀c,c<B→s c=t c):bl B s=bl B t:=List.map_congr_left fun c hc=>h c (by simpa using hc)
theorem GY (E:Ed) (e:Nat×Nat) (s:Nat→Bool):nG (E++ [e]) s=Gl (nG E s) e:=by unfold nG;rw [List.foldl_append];rfl
section
variable {B:Nat} {ls:List Ln} {on:List Bool} (h:StOk (B:Int) ls on)
include h
theorem JP (s:Nat→Bool):fo (B:Int) ls on ao (bl B s,0)=some (bl B (nG (aD ls on) s)):=by
 have hll:=h.net.ll;have hl:=h.len
 have hh:=ba (fo (B:Int) ls on) (fun k=>(bl B (nG (rB ((ls.zip on).take k)) s),(k:Int))) ls.length (some (bl B (nG (aD ls on) s))) (by omega) (fun k fuel hk=>?_) (fun fuel=>?_)
 ·exact hh
 ·rw [oe,gG]
  have hln:=uM (h.net.ln k hk)
  simp only [Int.toNat_natCast] at hln
  simp only [aK hk,ah hk,ah (show k<on.length by omega),aa,cond_true,Int.toNat_natCast,ai (by omega:k<4611686018427387904)]
  rw [hln.1,hln.2.1]
  rw [yu h hk]
  generalize bK (ls.getD k (0,0,0))=e at*
  simp only [ah hln.2.2.1,ah hln.2.2.2,Int.toNat_natCast,Bool.or_true,aa,Kq,FU hln.2.2.1,FU hln.2.2.2]
  cases ho:on.getD k false
  ·rfl
  ·rw [if_pos rfl,GY]
   generalize nG (rB ((ls.zip on).take k)) s=t
   unfold Gl
   rw [Bool.true_and]
   cases t e.1 ||t e.2
   ·rfl
   ·simp only [cond_true,Option.bind_some,if_true]
    rw [Ks hln.2.2.1,Ks hln.2.2.2]
    congr 2
    refine DQ fun c hc=>?_
    cases c==e.1<;>cases c==e.2<;>rfl
 ·rw [oe,gG]
  simp only [av,cond_false]
  rw [IR h]
theorem Sj {b:Nat} (hb:b<B):kS (B:Int) ls on (b:Int)=some (bl B (ca (aD ls on) (fun c=>c==b) B)):=by
 have h1:=h.net.b1
 unfold kS
 have hm:sY (B:Int)=true:=by simp [sY];omega
 rw [hm,aa,Int.toNat_natCast,ah hb,aa,Int.toNat_natCast]
 have e:(List.replicate B false).set b true=bl B (fun c=>c==b):=by
  apply List.ext_getElem (by simp [bl])
  intro i h1 h2
  rw [List.getElem_set]
  simp only [bl,List.getElem_map,List.getElem_range,List.getElem_replicate]
  split
  ·rename_i e;subst e;simp
  ·rename_i e;symm;simpa using fun e2=>e e2.symm
 have hh:=ba (fm (B:Int) ls on) (fun k=>(bl B (ca (aD ls on) (fun c=>c==b) k),(k:Int))) B (some (bl B (ca (aD ls on) (fun c=>c==b) B))) (by omega) (fun k fuel hk=>?_) (fun fuel=>?_)
 ·rw [e,show fm (B:Int) ls on ao (bl B (fun c=>c==b),0)=_ from hh];rfl
 ·rw [od,gF]
  simp only [aK hk,cond_true,JP h,Option.bind_some,ai (by omega:k<4611686018427387904)]
  rfl
 ·rw [od,gF];simp only [av,cond_false]
theorem Vu: ∀e∈aD ls on,e.1<B∧e.2<B:=by
 intro e he
 obtain ⟨k,hk,_,rfl⟩:=tS.1 he
 have:=uM (h.net.ln k hk)
 simp only [Int.toNat_natCast] at this
 exact ⟨this.2.2.1,this.2.2.2⟩
theorem Fw {b:Nat} (hb:b<B) (c:Nat):ca (aD ls on) (fun c=>c==b) B c=(aN (aD ls on) b==aN (aD ls on) c):=by
 rw [Bool.eq_iff_iff,JV (Vu h) hb,beq_iff_eq,kF]
def uS (E:Ed) (B b:Nat):List Nat:=(List.range B).filter fun c=>aN E b==aN E c
theorem MH {b:Nat} (hb:b<B):kO (B:Int) ls on (b:Int)=some (zl (uS (aD ls on) B b)):=by
 have h1:=h.net.b1
 unfold kO aw
 have w1:ak ((B:Int)-1)=(B:Int)-1:=aW (by omega) (by omega)
 have c1:(bb 0 (b:Int)&&bb (b:Int) ((B:Int)-1))=true:=by simp [bb];omega
 rw [Dh,wn.2 h,Option.bind_some,w1,c1]
 simp only [Bool.not_true,Bool.not_false,kf,Option.bind_some,Bool.or_self,cond_false,Sj h hb]
 have e:bl B (ca (aD ls on) (fun c=>c==b) B)=bl B (fun c=>aN (aD ls on) b==aN (aD ls on) c):=DQ fun c _=>Fw h hb c
 rw [e]
 have hh:=ba (ff (B:Int) (bl B (fun c=>aN (aD ls on) b==aN (aD ls on) c))) (fun k=>(zl ((List.range k).filter fun c=>aN (aD ls on) b==aN (aD ls on) c),(k:Int))) B (some (zl (uS (aD ls on) B b))) (by omega) (fun k fuel hk=>?_) (fun fuel=>?_)
 ·rw [show ff (B:Int) _ ao (([]:List Int),0)=_ from hh];rfl
 ·rw [oa,gB]
  have hl:(zl ((List.range k).filter fun c=>aN (aD ls on) b==aN (aD ls on) c)).length≤k:=by
   rw [gH];have:=List.length_filter_le (fun c=>aN (aD ls on) b==aN (aD ls on) c) (List.range k);simpa using this
  have ha: ∀x:Int,bp (zl ((List.range k).filter fun c=>aN (aD ls on) b==aN (aD ls on) c)).length [x].length=true:=fun x=>by simp [bp];omega
  simp only [aK hk,cond_true,Kq,ah hk,aa,Int.toNat_natCast,FU hk,ha,ai (by omega:k<4611686018427387904)]
  rw [List.range_succ,List.filter_append]
  cases hc:aN (aD ls on) b==aN (aD ls on) k
  ·simp [hc,List.filter_cons]
  ·simp [hc,List.filter_cons,zl]
 ·rw [oa,gB];simp only [av,cond_false];rfl
omit h in
theorem Pi (l:List Int) (x:Int) (hl:l.length≤1099511627776):fk l x=some (decide (x∈l)):=by
 unfold fk
 have hh:=cc (gO l x) (fun k=>(k:Int)) l.length (fun k=>l.getD k 0==x) (some (.inr true)) (some (.inl ())) hl (fun k fuel hk=>?_) (fun fuel=>?_)
 ·rw [show gO l x ao 0=_ from hh,DL l 0 (fun y=>y==x)]
  have:l.any (fun y=>y==x)=decide (x∈l):=by
   rw [Bool.eq_iff_iff,List.any_eq_true,decide_eq_true_eq]
   exact ⟨fun ⟨y,h1,h2⟩=>by rw [←(beq_iff_eq.1 h2)];exact h1,fun h=>⟨x,h,by simp⟩⟩
  rw [this]
  cases decide (x∈l)<;>rfl
 ·rw [qm,iT]
  simp only [aK hk,ah hk,aa,cond_true,Int.toNat_natCast,ai (by omega:k<4611686018427387904)]
 ·rw [qm,iT];simp only [av,cond_false]
omit h in
theorem Nh {l:List Nat} {c:Nat}:(c:Int)∈zl l↔c∈l:=by
 simp only [zl,List.mem_map]
 constructor
 ·rintro ⟨a,h1,h2⟩;have:a=c:=by omega
  subst this;exact h1
 ·intro h;exact ⟨c,h,rfl⟩
omit h in
theorem GE (E:Ed) (B b:Nat):(uS E B b).length≤B:=by
 unfold uS;have:=List.length_filter_le (fun c=>aN E b==aN E c) (List.range B);simpa using this
theorem Qh {a c:Nat} (ha:a<B) (hc:c<B):fg (B:Int) ls on (a:Int) (c:Int)=some (aN (aD ls on) a==aN (aD ls on) c):=by
 have h1:=h.net.b1
 unfold fg
 have hl:=GE (aD ls on) B a
 rw [MH h ha,Option.bind_some,Pi _ _ (by rw [gH];omega),Option.bind_some]
 have:decide ((c:Int)∈zl (uS (aD ls on) B a))=(aN (aD ls on) a==aN (aD ls on) c):=by
  rw [Bool.eq_iff_iff,decide_eq_true_eq,Nh]
  simp [uS,hc]
 rw [this]
def DW (ls:List Ln) (on:List Bool) (k:Nat):Bool:=on.getD k false&&aN (aD ls (on.set k false)) (bK (ls.getD k (0,0,0))).1==aN (aD ls (on.set k false)) (bK (ls.getD k (0,0,0))).2
theorem RJ (k:Nat):StOk (B:Int) ls (on.set k false):=⟨h.net,by rw [List.length_set];exact h.len⟩
theorem Xc:jy (B:Int) ls on=some (FX ls on):=by
 have hll:=h.net.ll;have hl:=h.len
 unfold jy kN
 have hh:=ba (cN (B:Int) ls on) (fun k=>(zl ((List.range k).filter (DW ls on)),(k:Int))) ls.length
  (some (zl ((List.range ls.length).filter (DW ls on)))) (by omega) (fun k fuel hk=>?_) (fun fuel=>?_)
 ·rw [show cN (B:Int) ls on ao (([]:List Int),0)=_ from hh]
  simp only [Option.bind_some,gH]
  congr 1
  show am 0 (((List.range ls.length).filter (DW ls on)).length:Int)=(List.range ls.length).any (DW ls on)
  rw [Bool.eq_iff_iff,am,decide_eq_true_eq,List.any_eq_true]
  constructor
  ·intro h1
   obtain ⟨k,hk⟩:=List.exists_mem_of_length_pos (show 0<((List.range ls.length).filter (DW ls on)).length by omega)
   obtain ⟨h2,h3⟩:=List.mem_filter.1 hk
   exact ⟨k,h2,h3⟩
  ·rintro ⟨k,h2,h3⟩
   have:=List.length_pos_of_mem (List.mem_filter.2 ⟨h2,h3⟩)
   omega
 ·rw [lW,ej]
  have hln:=uM (h.net.ln k hk)
  simp only [Int.toNat_natCast] at hln
  have hkn:k<on.length:=by omega
  have w1:ak ((on.length:Int)-1)=(on.length:Int)-1:=aW (by omega) (by omega)
  have c1:(bb 0 (k:Int)&&bb (k:Int) ((on.length:Int)-1))=true:=by simp [bb];omega
  have a1:bp ([]:List Bool).length on.length=true:=by simp [bp];omega
  have hl2:=List.length_filter_le (DW ls on) (List.range k)
  rw [List.length_range] at hl2
  have ha: ∀x:Int,bp (zl ((List.range k).filter (DW ls on))).length [x].length=true:=fun x=>by rw [gH];simp [bp];omega
  have hsw:ir (B:Int) ls on (k:Int) false=some (on.set k false,true):=by
   unfold ir gS aw
   rw [Dh,wn.2 h]
   simp only [Option.bind_some,cond_true,a1,aa,List.nil_append,w1,c1,ah hkn,Int.toNat_natCast]
  have hsame:=Qh (RJ h k) hln.2.2.1 hln.2.2.2
  rw [Dh,wn.2 h]
  simp only [aK hkn,kf,Option.bind_some,Bool.and_self,cond_true,hsw,ah hkn,ah hk,Bool.or_true,aa,Int.toNat_natCast,ha,ai (by omega:k<4611686018427387904)]
  rw [hln.1,hln.2.1,hsame,List.range_succ,List.filter_append]
  have hcy:DW ls on k=(on.getD k false&&aN (aD ls (on.set k false)) (bK (ls.getD k (0,0,0))).1==aN (aD ls (on.set k false)) (bK (ls.getD k (0,0,0))).2):=rfl
  rw [List.filter_cons,List.filter_nil,hcy]
  cases ho:on.getD k false
  ·simp [gb]
  ·cases hc:aN (aD ls (on.set k false)) (bK (ls.getD k (0,0,0))).1==aN (aD ls (on.set k false)) (bK (ls.getD k (0,0,0))).2
   ·simp [gb]
   ·simp [gb,zl]
 ·rw [lW,ej]
  have:am (ls.length:Int) (on.length:Int)=false:=by rw [hl];exact av
  simp only [this,qY,Option.bind_some,Bool.false_and,cond_false]
end
theorem Jq {σ Out:Type} (L:Nat→σ→Option Out) (R:Nat→σ→Prop) (n:Nat) (X:Prop) (fv:Option Out) (sd:σ→Option Out) (hn:n≤1099511627776)
 (hstep: ∀k fuel s,k<n→R k s→(X∧L (fuel+1) s=fv)∨(∃s',R (k+1) s'∧L (fuel+1) s=L fuel s')) (hend: ∀fuel s,R n s→L (fuel+1) s=sd s) (s:σ) (h0:R 0 s):
 (X∧L ao s=fv)∨ ∃s',R n s'∧L ao s=sd s':=by
 have go: ∀j k fuel s,k+j=n→j<fuel→R k s→(X∧L fuel s=fv)∨ ∃s',R n s'∧L fuel s=sd s':=by
  intro j
  induction j with
  |zero=>
   intro k fuel s hk hf hr
   obtain ⟨f,rfl⟩: ∃f,fuel=f+1:=⟨fuel-1,by omega⟩
   obtain rfl:k=n:=by omega
   exact .inr ⟨s,hr,hend f s hr⟩
  |succ j ih=>
   intro k fuel s hk hf hr
   obtain ⟨f,rfl⟩: ∃f,fuel=f+1:=⟨fuel-1,by omega⟩
   rcases hstep k f s (by omega) hr with h |⟨s',h1,h2⟩
   ·exact .inl h
   ·rw [h2];exact ih (k+1) f s' (by omega) (by omega) h1
 exact go n 0 ao s (by omega) (mG hn) h0
structure TI (B:Nat) (ls:List Ln) (on:List Bool) (pts:List (Int×Int)) (K:Nat) (feed parent:List Int) (ord:List Nat):Prop where
 lf:feed.length=B
 lp:parent.length=B
 nd:ord.Nodup
 lt: ∀b∈ord,b<B
 mem: ∀b,b<B→(b∈ord↔0≤feed.getD b 0)
 snd: ∀b∈ord,∃g,g<K∧bc pts g=true∧feed.getD b 0=(g:Int)∧Cn (aD ls on) g b
 own: ∀g,g<K→bc pts g=true→g∈ord∧parent.getD g 0= -1
 out: ∀b,b<B→b∉ord→parent.getD b 0= -1
 par: ∀b∈ord,(bc pts b=true∧b<K)∨ ∃j c,parent.getD b 0=((j:Nat):Int)∧Lk ls on j b c∧c∈ord∧ord.idxOf c<ord.idxOf b
theorem tH {l:List Nat} {a c:Nat} (h:a∈l):(l++ [c]).idxOf a=l.idxOf a:=by rw [List.idxOf_append,if_pos h]
theorem LA {l:List Nat} {c:Nat} (h:c∉l):(l++ [c]).idxOf c=l.length:=by
 rw [List.idxOf_append,if_neg h];simp
theorem rR: ∀(B:Nat) (l:List Nat),l.Nodup→(∀b∈l,b<B)→l.length≤B
 |0,l,_,h=>by
  cases l with
  |nil=>simp
  |cons x l=>have:=h x (by simp);omega
 |B+1,l,hn,h=>by
  by_cases hm:B∈l
  ·have h1:=rR B (l.erase B) (hn.erase B) (fun b hb=>by
    have h2:=(hn.mem_erase_iff).1 hb
    have:=h b h2.2
    have:=h2.1
    omega)
   rw [List.length_erase_of_mem hm] at h1
   omega
  ·have h1:=rR B l hn (fun b hb=>by
    have:=h b hb
    have:b≠B:=fun e=>hm (e▸hb)
    omega)
   omega
theorem xK {l:List Nat} {c:Nat} (h:l.Nodup) (hc:c∉l):(l++ [c]).Nodup:=by
 rw [List.nodup_append]
 exact ⟨h,by simp,fun a ha b hb=>by obtain rfl:b=c:=by simpa using hb
                                    exact fun e=>hc (e▸ha)⟩
section
variable {B:Nat} {ls:List Ln} {on:List Bool} {pts:List (Int×Int)} {K:Nat} {feed parent:List Int} {ord:List Nat}
theorem TI.add (T:TI B ls on pts K feed parent ord) {f b c j:Nat} (hf:f<K) (hff:bc pts f=true) (hb:b∈ord) (hfb:Cn (aD ls on) f b) (hl:Lk ls on j b c) (hc:c<B) (hn:c∉ord):TI B ls on pts K (feed.set c (f:Int)) (parent.set c (j:Int)) (ord++ [c]):=by
 have hcf:c<feed.length:=by rw [T.lf];exact hc
 have hcp:c<parent.length:=by rw [T.lp];exact hc
 have hne: ∀x∈ord,c≠x:=fun x hx e=>hn (e▸hx)
 refine ⟨by rw [List.length_set];exact T.lf,by rw [List.length_set];exact T.lp,xK T.nd hn,fun x hx=>?_,fun x hx=>?_,fun x hx=>?_,fun g hg hgf=>?_,fun x hx hxn=>?_,fun x hx=>?_⟩
 ·rcases List.mem_append.1 hx with hx |hx
  ·exact T.lt x hx
  ·obtain rfl:x=c:=by simpa using hx
   exact hc
 ·by_cases e:c=x
  ·subst e;rw [oO hcf];simp
  ·rw [dW e,←T.mem x hx];simp [Ne.symm e]
 ·rcases List.mem_append.1 hx with hx |hx
  ·rw [dW (hne x hx)];exact T.snd x hx
  ·obtain rfl:x=c:=by simpa using hx
   rw [oO hcf];exact ⟨f,hf,hff,rfl,hfb.trans hl.cn⟩
 ·have:=T.own g hg hgf
  rw [dW (hne g this.1)];exact ⟨by simp [this.1],this.2⟩
 ·have h1:x∉ord∧x≠c:=by simpa using hxn
  rw [dW (Ne.symm h1.2)];exact T.out x hx h1.1
 ·rcases List.mem_append.1 hx with hx |hx
  ·rw [dW (hne x hx)]
   rcases T.par x hx with h |⟨i,d,h1,h2,h3,h4⟩
   ·exact .inl h
   ·exact .inr ⟨i,d,h1,h2,by simp [h3],by rw [tH h3,tH hx];exact h4⟩
  ·obtain rfl:x=c:=by simpa using hx
   refine .inr ⟨j,b,oO hcp,?_,by simp [hb],?_⟩
   ·obtain ⟨h1,h2,h3⟩:=hl
    exact ⟨h1,h2,h3.symm⟩
   ·rw [tH hb,LA hn];exact List.idxOf_lt_length_iff.2 hb
theorem TI.start (T:TI B ls on pts K feed parent ord) (hK:K<B) (hff:bc pts K=true) (hn:K∉ord):TI B ls on pts (K+1) (feed.set K (K:Int)) parent (ord++ [K]):=by
 have hcf:K<feed.length:=by rw [T.lf];exact hK
 have hne: ∀x∈ord,K≠x:=fun x hx e=>hn (e▸hx)
 refine ⟨by rw [List.length_set];exact T.lf,T.lp,xK T.nd hn,fun x hx=>?_,fun x hx=>?_,fun x hx=>?_,fun g hg hgf=>?_,fun x hx hxn=>?_,fun x hx=>?_⟩
 ·rcases List.mem_append.1 hx with hx |hx
  ·exact T.lt x hx
  ·obtain rfl:x=K:=by simpa using hx
   exact hK
 ·by_cases e:K=x
  ·subst e;rw [oO hcf];simp
  ·rw [dW e,←T.mem x hx];simp [Ne.symm e]
 ·rcases List.mem_append.1 hx with hx |hx
  ·rw [dW (hne x hx)]
   obtain ⟨g,h1,h2⟩:=T.snd x hx
   exact ⟨g,by omega,h2⟩
  ·obtain rfl:x=K:=by simpa using hx
   rw [oO hcf];exact ⟨x,by omega,hff,rfl,.refl _⟩
 ·by_cases e:g=K
  ·subst e;exact ⟨by simp,T.out g hK hn⟩
  ·have:=T.own g (by omega) hgf
   exact ⟨by simp [this.1],this.2⟩
 ·have h1:x∉ord∧x≠K:=by simpa using hxn
  exact T.out x hx h1.1
 ·rcases List.mem_append.1 hx with hx |hx
  ·rcases T.par x hx with h |⟨i,d,h1,h2,h3,h4⟩
   ·exact .inl ⟨h.1,by omega⟩
   ·exact .inr ⟨i,d,h1,h2,by simp [h3],by rw [tH h3,tH hx];exact h4⟩
  ·obtain rfl:x=K:=by simpa using hx
   exact .inl ⟨hff,by omega⟩
theorem TI.skip (T:TI B ls on pts K feed parent ord) (hff:bc pts K=false):TI B ls on pts (K+1) feed parent ord:=by
 refine ⟨T.lf,T.lp,T.nd,T.lt,T.mem,fun x hx=>?_,fun g hg hgf=>?_,T.out,fun x hx=>?_⟩
 ·obtain ⟨g,h1,h2⟩:=T.snd x hx
  exact ⟨g,by omega,h2⟩
 ·have:g≠K:=fun e=>by rw [e,hff] at hgf;cases hgf
  exact T.own g (by omega) hgf
 ·rcases T.par x hx with h |h
  ·exact .inl ⟨h.1,by omega⟩
  ·exact .inr h
theorem TI.len (T:TI B ls on pts K feed parent ord):ord.length≤B:=by
 exact rR B ord T.nd T.lt
def Cl (ls:List Ln) (on:List Bool) (ord:List Nat) (m:Nat):Prop:= ∀i,i<m→ ∀j c,Lk ls on j (ord.getD i 0) c→c∈ord
theorem Cl.mem {m:Nat} (h:Cl ls on ord m) (hm:m=ord.length) {b c:Nat} (hb:b∈ord) (hc:Cn (aD ls on) b c):c∈ord:=by
 induction hc with
 |refl=>exact hb
 | @step c d _ e ih=>
  obtain ⟨i,hi,rfl⟩:=List.mem_iff_getElem.1 ih
  have hl: ∃j,Lk ls on j ord[i] d:=by
   rcases e with e |e
   ·obtain ⟨j,h1,h2,h3⟩:=tS.1 e
    exact ⟨j,h1,h2,.inl h3.symm⟩
   ·obtain ⟨j,h1,h2,h3⟩:=tS.1 e
    exact ⟨j,h1,h2,.inr h3.symm⟩
  obtain ⟨j,hl⟩:=hl
  exact h i (by omega) j d (by rw [ae hi];exact hl)
end
section
variable {B:Nat} {ls:List Ln} {on:List Bool} {pts:List (Int×Int)} (h:StOk (B:Int) ls on)
include h
theorem EU {k b:Nat} (hk:k<ls.length): ∃z,bV (ls.getD k (0,0,0)).1 (ls.getD k (0,0,0)).2.1 (ls.getD k (0,0,0)).2.2 (b:Int)=some z∧((z= -1∧ ∀c,¬Lk ls on k b c)∨ ∃c,z=((c:Nat):Int)∧c<B∧(on.getD k false=true→Lk ls on k b c)∧ ∀d,Lk ls on k b d→d=c):=by
 have hl:=h.net.ln k hk
 have hln:=uM hl
 simp only [Int.toNat_natCast] at hln
 have hne:=hl.ne
 unfold bV
 rw [hln.1,hln.2.1] at hne ⊢
 have key: ∀d,Lk ls on k b d→((bK (ls.getD k (0,0,0))).1=b∧(bK (ls.getD k (0,0,0))).2=d)∨((bK (ls.getD k (0,0,0))).1=d∧(bK (ls.getD k (0,0,0))).2=b):=by
  rintro d ⟨_,_,h3⟩
  rcases h3 with h3 |h3<;>rw [h3]<;>simp
 by_cases e1:b=(bK (ls.getD k (0,0,0))).1
 ·have:((b:Int)==(((bK (ls.getD k (0,0,0))).1:Nat):Int))=true:=by rw [beq_iff_eq,←e1]
  rw [this]
  refine ⟨_,rfl,.inr ⟨_,rfl,hln.2.2.2,fun ho=>⟨hk,ho,.inl (by rw [e1])⟩,fun d hd=>?_⟩⟩
  rcases key d hd with g |g
  ·exact g.2.symm
  ·omega
 ·have e1':((b:Int)==(((bK (ls.getD k (0,0,0))).1:Nat):Int))=false:=by rw [beq_eq_false_iff_ne];omega
  rw [e1',cond_false]
  by_cases e2:b=(bK (ls.getD k (0,0,0))).2
  ·have:((b:Int)==(((bK (ls.getD k (0,0,0))).2:Nat):Int))=true:=by rw [beq_iff_eq,←e2]
   rw [this]
   refine ⟨_,rfl,.inr ⟨_,rfl,hln.2.2.1,fun ho=>⟨hk,ho,.inr (by rw [e2])⟩,fun d hd=>?_⟩⟩
   rcases key d hd with g |g
   ·omega
   ·exact g.1.symm
  ·have e2':((b:Int)==(((bK (ls.getD k (0,0,0))).2:Nat):Int))=false:=by rw [beq_eq_false_iff_ne];omega
   rw [e2',cond_false]
   refine ⟨_,rfl,.inl ⟨rfl,fun d hd=>?_⟩⟩
   rcases key d hd with g |g<;>omega
omit h in
theorem Ng (l:List Nat) (c:Nat):zl l++ [(c:Int)]=zl (l++ [c]):=by simp [zl]
theorem Lv {F0 P0:List Int} (hF:F0.length=B) (hP:P0.length=B) {K f b from_:Nat} {feed parent:List Int} {ord:List Nat} (hf:f<K) (hff:bc pts f=true) (hb:ord.getD from_ 0=b) (hfr:from_<ord.length) (hfb:Cn (aD ls on) f b) (T:TI B ls on pts K feed parent ord):
 ∃feed' parent' t,cq ls F0 P0 on (f:Int) ((from_:Int),feed,parent,zl ord) ao (0,feed,parent,zl ord)=some (feed',parent',zl (ord++t))∧TI B ls on pts K feed' parent' (ord++t)∧(∀j c,Lk ls on j b c→c∈ord++t)∧ ∀x∈t,Cn (aD ls on) f x:=by
 have hll:=h.net.ll;have hl:=h.len;have hB:=h.net.b1
 have hbo:b∈ord:=by rw [←hb,ae hfr];exact List.getElem_mem hfr
 obtain ⟨s,⟨feed',parent',t,rfl,r1,r2,r3⟩,h2⟩:=tN (cq ls F0 P0 on (f:Int) ((from_:Int),feed,parent,zl ord))
  (fun k s=> ∃feed' parent' t,s=((k:Int),feed',parent',zl (ord++t))∧TI B ls on pts K feed' parent' (ord++t)∧(∀j,j<k→ ∀c,Lk ls on j b c→c∈ord++t)∧ ∀x∈t,Cn (aD ls on) f x) ls.length (fun s=>some (s.2.1,s.2.2.1,s.2.2.2)) (by omega) (by
   rintro k fuel s hk ⟨feed',parent',t,rfl,r1,r2,r3⟩
   rw [kZ,dF]
   obtain ⟨z,z1,z2⟩:=EU h (b:=b) hk
   have hget:(zl ord).getD (from_:Int).toNat 0=(b:Int):=by rw [Int.toNat_natCast,vd,hb]
   simp only [aK hk,ah hk,ah (show k<on.length by omega),aa,cond_true,Int.toNat_natCast,ai (by omega:k<4611686018427387904),vd,hb,z1,Option.bind_some,hF,hP]
   have hlen:=r1.len
   rcases z2 with ⟨rfl,z3⟩ |⟨c,rfl,hcB,z3,z4⟩
   ·have:bb 0 (-1)=false:=rfl
    simp only [this,Bool.and_false,Bool.false_and,Bool.not_false,Bool.true_or,aa,cond_false,Option.bind_some]
    refine ⟨_,⟨feed',parent',t,rfl,r1,fun j hj c hc=>?_,r3⟩,rfl⟩
    by_cases e:j=k
    ·subst e;exact absurd hc (z3 c)
    ·exact r2 j (by omega) c hc
   ·have hge:bb 0 (c:Int)=true:=by simp [bb]
    simp only [hge,ah hcB,Bool.and_true,Bool.or_true,aa,Int.toNat_natCast]
    by_cases hc:on.getD k false=true∧c∉ord++t
    ·have hcf:am (feed'.getD c 0) 0=true:=by
      have: ¬0≤feed'.getD c 0:=fun g=>hc.2 ((r1.mem c hcB).2 g)
      simp only [am,decide_eq_true_eq];omega
     have ha:bp (zl (ord++t)).length ([(c:Int)]:List Int).length=true:=by rw [gH];simp [bp];simp at hlen;omega
     simp only [hc.1,hcf,Bool.and_self,cond_true,ha,aa,Option.bind_some]
     rw [Ng,List.append_assoc]
     have hlk:=z3 hc.1
     refine ⟨_,⟨_,_,t++ [c],rfl,?_,fun j hj d hd=>?_,fun x hx=>?_⟩,rfl⟩
     ·rw [←List.append_assoc]
      exact r1.add hf hff (by simp [hbo]) hfb hlk hcB hc.2
     ·by_cases e:j=k
      ·subst e;rw [z4 d hd];simp
      ·have:=r2 j (by omega) d hd
       rw [←List.append_assoc];exact List.mem_append_left _ this
     ·rcases List.mem_append.1 hx with hx |hx
      ·exact r3 x hx
      ·obtain rfl:x=c:=by simpa using hx
       exact hfb.trans hlk.cn
    ·have hcf:(on.getD k false&&am (feed'.getD c 0) 0)=false:=by
      cases ho:on.getD k false
      ·rfl
      ·have hm:c∈ord++t:=Classical.byContradiction fun hn=>hc ⟨ho,hn⟩
       have:=(r1.mem c hcB).1 hm
       simp only [Bool.true_and,am,decide_eq_false_iff_not];omega
     simp only [hcf,cond_false,Option.bind_some]
     refine ⟨_,⟨feed',parent',t,rfl,r1,fun j hj d hd=>?_,r3⟩,rfl⟩
     by_cases e:j=k
     ·subst e
      rw [z4 d hd]
      exact Classical.byContradiction fun hn=>hc ⟨hd.2.1,hn⟩
     ·exact r2 j (by omega) d hd) (by
   rintro fuel s ⟨feed',parent',t,rfl,r1,r2,r3⟩
   rw [kZ,dF];simp only [av,cond_false]) (0,feed,parent,zl ord) ⟨feed,parent,[],by simp,by simpa using T,fun j hj=>absurd hj (Nat.not_lt_zero _),fun x hx=>by simp at hx⟩
 exact ⟨feed',parent',t,h2,r1,fun j c hc=>r2 j hc.1 c hc,r3⟩
theorem Lu {F0 P0:List Int} (hF:F0.length=B) (hP:P0.length=B) {K f n0:Nat} (hf:f<K) (hff:bc pts f=true): ∀(m from_ fuel:Nat) (feed parent:List Int) (ord:List Nat),B≤m+from_→m<fuel→n0≤from_→from_≤ord.length→(∀i,n0≤i→i<ord.length→Cn (aD ls on) f (ord.getD i 0))→Cl ls on ord from_→TI B ls on pts K feed parent ord→
 ∃feed' parent' ord',eh ls F0 P0 on (f:Int) fuel ((from_:Int),feed,parent,zl ord)=some (feed',parent',zl ord')∧TI B ls on pts K feed' parent' ord'∧Cl ls on ord' ord'.length∧ ∀x∈ord,x∈ord':=by
 have hB:=h.net.b1
 intro m
 induction m with
 |zero=>
  intro from_ fuel feed parent ord h1 h2 h3 h4 h5 h6 T
  obtain ⟨g,rfl⟩: ∃g,fuel=g+1:=⟨fuel-1,by omega⟩
  have hlen:=T.len
  have e:from_=ord.length:=by omega
  rw [kY,dE]
  have:am (from_:Int) ((zl ord).length:Int)=false:=by rw [gH,e];exact av
  simp only [this,cond_false]
  exact ⟨feed,parent,ord,rfl,T,e▸h6,fun x hx=>hx⟩
 |succ m ih=>
  intro from_ fuel feed parent ord h1 h2 h3 h4 h5 h6 T
  obtain ⟨g,rfl⟩: ∃g,fuel=g+1:=⟨fuel-1,by omega⟩
  have hlen:=T.len
  rw [kY,dE]
  by_cases e:from_=ord.length
  ·have:am (from_:Int) ((zl ord).length:Int)=false:=by rw [gH,e];exact av
   simp only [this,cond_false]
   exact ⟨feed,parent,ord,rfl,T,e▸h6,fun x hx=>hx⟩
  ·have hlt:from_<ord.length:=by omega
   obtain ⟨feed',parent',t,r0,r1,r2,r3⟩:=Lv h hF hP hf hff rfl hlt (h5 from_ h3 hlt) T
   have hlen2:=r1.len
   simp only [gH,aK hlt,ah hlt,cond_true,aa,r0,Option.bind_some,ai (by omega:from_<4611686018427387904)]
   have hget: ∀i,i<ord.length→(ord++t).getD i 0=ord.getD i 0:=fun i hi=>by simp [List.getD,List.getElem?_append_left hi]
   obtain ⟨feed2,parent2,ord2,s1,s2,s3,s4⟩:=ih (from_+1) g feed' parent' (ord++t) (by omega) (by omega) (by omega) (by simp;omega) (fun i hi1 hi2=>by
    by_cases hi:i<ord.length
    ·rw [hget i hi];exact h5 i hi1 hi
    ·rw [ae hi2,List.getElem_append_right (by omega)]
     exact r3 _ (List.getElem_mem _)) (fun i hi j c hc=>by
    rw [hget i (by omega)] at hc
    by_cases e2:i=from_
    ·subst e2;exact r2 j c hc
    ·exact List.mem_append_left _ (h6 i (by omega) j c hc)) r1
   exact ⟨feed2,parent2,ord2,s1,s2,s3,fun x hx=>s4 x (by simp [hx])⟩
theorem Ol {K:Nat} {feed parent:List Int} {ord:List Nat} (hK:K<B) (hff:bc pts K=true) (hn:K∉ord) (hcl:Cl ls on ord ord.length) (T:TI B ls on pts K feed parent ord) (y:Int):
 ∃feed' parent' ord',gx y ls (feed.set K (K:Int)) parent (zl ord) on (K:Int)=some (y,feed',parent',zl ord')∧TI B ls on pts (K+1) feed' parent' ord'∧Cl ls on ord' ord'.length∧ ∀x∈ord++ [K],x∈ord':=by
 have hB:=h.net.b1
 have hlen:=T.len
 have T2:=T.start hK hff hn
 obtain ⟨feed',parent',ord',h1,h2,h3,h4⟩:=Lu h (F0:=feed.set K (K:Int)) (P0:=parent) T2.lf T2.lp (K:=K+1) (f:=K) (n0:=ord.length) (by omega) hff B ord.length ao (feed.set K (K:Int)) parent (ord++ [K]) (by omega) (mG (by omega)) (by omega) (by simp) (fun i hi1 hi2=>by
  have:i=ord.length:=by simp at hi2;omega
  subst this
  rw [ae hi2];simp;exact .refl _) (fun i hi j c hc=>by
  have:(ord++ [K]).getD i 0=ord.getD i 0:=by simp [List.getD,List.getElem?_append_left hi]
  rw [this] at hc
  exact List.mem_append_left _ (hcl i hi j c hc)) T2
 refine ⟨feed',parent',ord',?_,h2,h3,h4⟩
 unfold gx
 have ha:bp (zl ord).length ([(K:Int)]:List Int).length=true:=by rw [gH];simp [bp];omega
 rw [ha,aa,Ng,gH,h1];rfl
end
structure TreeOk (ls:List Ln) (on:List Bool) (pts:List (Int×Int)) (feed parent:List Int) (ord:List Nat):Prop where
 lf:feed.length=pts.length
 lp:parent.length=pts.length
 nd:ord.Nodup
 mem: ∀b,b∈ord↔b<pts.length∧gk (aD ls on) pts b=true
 fd: ∀b f,b<pts.length→(feed.getD b 0=((f:Nat):Int)↔bc pts f=true∧Cn (aD ls on) f b)
 par:Par ls on pts (fun b=>parent.getD b (-1)) (fun b=>ord.idxOf b)
theorem TI.tree {ls:List Ln} {on:List Bool} {pts:List (Int×Int)} {feed parent:List Int} {ord:List Nat} (T:TI pts.length ls on pts pts.length feed parent ord) (hcl:Cl ls on ord ord.length) (hnj: ∀f g,bc pts f=true→bc pts g=true→Cn (aD ls on) f g→f=g):TreeOk ls on pts feed parent ord:=by
 have hmem: ∀b,b∈ord↔b<pts.length∧gk (aD ls on) pts b=true:=by
  intro b
  constructor
  ·intro hb
   obtain ⟨g,h1,h2,_,h3⟩:=T.snd b hb
   exact ⟨T.lt b hb,kb.2 ⟨g,h2,h3⟩⟩
  ·rintro ⟨hb,hf⟩
   obtain ⟨f,h1,h2⟩:=kb.1 hf
   exact hcl.mem rfl (T.own f (nh h1) h1).1 h2
 have hd: ∀b,b<pts.length→parent.getD b (-1)=parent.getD b 0:=fun b hb=>by rw [ae (by rw [T.lp];exact hb),ae (by rw [T.lp];exact hb)]
 refine ⟨T.lf,T.lp,T.nd,hmem,fun b f hb=>?_,⟨fun b hb hf=>?_,fun b hb=>?_,fun b hb=>?_⟩⟩
 ·constructor
  ·intro e
   obtain ⟨g,h1,h2,h3,h4⟩:=T.snd b ((T.mem b hb).2 (by rw [e];omega))
   have:f=g:=by rw [e] at h3;omega
   subst this;exact ⟨h2,h4⟩
  ·rintro ⟨h1,h2⟩
   obtain ⟨g,g1,g2,g3,g4⟩:=T.snd b ((hmem b).2 ⟨hb,kb.2 ⟨f,h1,h2⟩⟩)
   rw [g3,hnj f g h1 g2 (h2.trans g4.symm)]
 ·rw [hd b hb]
  rcases T.par b ((hmem b).2 ⟨hb,hf⟩) with g |⟨j,c,g,_⟩
  ·exact .inl g.1
  ·exact .inr (by rw [g];omega)
 ·have hlt:=nh hb
  rw [hd b hlt,(T.own b hlt hb).2];omega
 ·have hlt:b<pts.length:=by
   rcases Nat.lt_or_ge b pts.length with h1 |h1
   ·exact h1
   ·rw [List.getD_eq_getElem?_getD,List.getElem?_eq_none (by rw [T.lp];exact h1)] at hb;simp at hb
  rw [hd b hlt] at hb ⊢
  have hbo:b∈ord:=Classical.byContradiction fun hn=>by rw [T.out b hlt hn] at hb;omega
  rcases T.par b hbo with g |⟨j,c,g1,g2,g3,g4⟩
  ·rw [(T.own b g.2 g.1).2] at hb;omega
  ·rw [g1]
   exact ⟨c,by simpa using g2,T.lt c g3,((hmem c).1 g3).2,g4⟩
theorem Uw {pts:List (Int×Int)} {b:Int} {ls:List Ln} (h:BusOk b ls pts) {k:Nat} (hk:k<pts.length):((pts.getD k (0,0)).1==0)= !bc pts k:=by
 have:=(h.bs k hk).1
 unfold bc
 rw [Bool.eq_iff_iff];simp only [beq_iff_eq,Bool.not_eq_true',decide_eq_false_iff_not];omega
theorem Ly (b:Int) (ls:List Ln) (on:List Bool) (pts:List (Int×Int)) (hp:pts.length≤1048576):
 ∃r,gQ b ls on pts=some r∧r.2.2.2.2.2=rE b ls on pts∧(rE b ls on pts=true→r.1=b∧r.2.1=true∧ ∃ord,r.2.2.2.2.1=zl ord∧TreeOk ls on pts r.2.2.1 r.2.2.2.1 ord):=by
 unfold gQ rE
 rw [Oj b ls pts hp,Option.bind_some]
 cases hv:Gx b ls on pts
 ·exact ⟨_,rfl,rfl,fun e=>by cases e⟩
 obtain ⟨h1,h2⟩:=jC.1 hv
 have hlp:=h2.lp
 subst hlp
 rw [WT h1]
 simp only [Bool.not_true,Bool.not_false,kf,Option.bind_some,Bool.false_or,Bool.true_and]
 unfold iV
 rw [←QA h1.len]
 cases hc:FW ls on
 case true=>exact ⟨_,rfl,rfl,fun e=>by cases e⟩
 have hB:=h1.net.b1
 have hm:sY (pts.length:Int)=true:=by simp [sY];omega
 simp only [cond_false,hm,aa,Int.toNat_natCast,Bool.not_false,Bool.true_and]
 have hl1:fX (pts.length:Int) ao (0,List.replicate pts.length 0,List.replicate pts.length 0)=some (List.replicate pts.length (-1),List.replicate pts.length (-1)):=by
  have hh:=ba (fX (pts.length:Int)) (fun k=>((k:Int),List.replicate k (-1)++List.replicate (pts.length-k) 0,List.replicate k (-1)++List.replicate (pts.length-k) 0)) pts.length (some (List.replicate pts.length (-1),List.replicate pts.length (-1))) (by omega) (fun k fuel hk=>?_) (fun fuel=>?_)
  ·simpa using hh
  ·rw [pq,ig]
   simp only [aK hk,Int.toNat_natCast,ah hk,cond_true,aa,ai (by omega:k<4611686018427387904)]
   have e:(List.replicate k (-1:Int)++List.replicate (pts.length-k) 0).set k (-1)=List.replicate (k+1) (-1)++List.replicate (pts.length-(k+1)) 0:=by
    rw [List.set_append_right _ _ (by simp),List.length_replicate,Nat.sub_self,show pts.length-k=(pts.length-(k+1))+1 by omega,List.replicate_succ,List.set_cons_zero,List.replicate_succ',List.append_assoc];rfl
   rw [e]
  ·rw [pq,ig]
   simp only [av,cond_false,Nat.sub_self,List.replicate_zero,List.append_nil]
 rw [hl1,Option.bind_some]
 have hget: ∀k,k<pts.length→(List.replicate pts.length (-1:Int)).getD k 0= -1:=fun k hk=>by simp [List.getD,hk]
 have hT0:TI pts.length ls on pts 0 (List.replicate pts.length (-1)) (List.replicate pts.length (-1)) []:=
  ⟨by simp,by simp,by simp,fun b hb=>by simp at hb,fun b hb=>by rw [hget b hb];simp,fun b hb=>by simp at hb,fun g hg=>absurd hg (Nat.not_lt_zero _),fun b hb _=>hget b hb,fun b hb=>by simp at hb⟩
 have hh:=Jq (iR ls on pts) (fun k s=> ∃feed parent ord,s=((k:Int),(pts.length:Int),feed,parent,zl ord)∧TI pts.length ls on pts k feed parent ord∧Cl ls on ord ord.length∧ ∀f g,f<k→g<k→bc pts f=true→bc pts g=true→Cn (aD ls on) f g→f=g) pts.length
  (Hd (aD ls on) pts=true) (some (Sum.inr (0,false,([]:List Int),([]:List Int),([]:List Int),false))) (fun s=>some (Sum.inl (s.2.1,s.2.2.1,s.2.2.2.1,s.2.2.2.2))) (by omega) ?_ ?_ (0,(pts.length:Int),List.replicate pts.length (-1),List.replicate pts.length (-1),([]:List Int)) ⟨_,_,[],rfl,hT0,fun i hi=>absurd hi (Nat.not_lt_zero _),fun f g hf=>absurd hf (Nat.not_lt_zero _)⟩
 ·rcases hh with ⟨x1,x2⟩ |⟨s,⟨feed,parent,ord,rfl,t1,t2,t3⟩,x2⟩
  ·rw [x2,x1]
   exact ⟨_,rfl,rfl,fun e=>by cases e⟩
  ·rw [x2]
   have hnj: ∀f g,bc pts f=true→bc pts g=true→Cn (aD ls on) f g→f=g:=fun f g hf hg=>t3 f g (nh hf) (nh hg) hf hg
   rw [yk.2 hnj]
   exact ⟨_,rfl,rfl,fun _=>⟨rfl,rfl,ord,rfl,t1.tree t2 hnj⟩⟩
 ·rintro k fuel s hk ⟨feed,parent,ord,rfl,t1,t2,t3⟩
  rw [pu,ii]
  simp only [aK hk,ah hk,cond_true,aa,Int.toNat_natCast,ai (by omega:k<4611686018427387904),Uw h2 hk]
  cases hf:bc pts k
  ·right
   simp only [Bool.not_false,cond_true,Option.bind_some,Sum.elim_inl]
   refine ⟨_,⟨feed,parent,ord,rfl,t1.skip hf,t2,fun f g hfk hgk hff hgf=>?_⟩,rfl⟩
   have e1:f≠k:=fun e=>by rw [e,hf] at hff;cases hff
   have e2:g≠k:=fun e=>by rw [e,hf] at hgf;cases hgf
   exact t3 f g (by omega) (by omega) hff hgf
  ·have hx:aI (k:Int) feed.length=true:=by rw [t1.lf];exact ah hk
   simp only [Bool.not_true,cond_false,hx,aa]
   by_cases hko:k∈ord
   ·left
    have h0:=(t1.mem k hk).1 hko
    have:bb 0 (feed.getD k 0)=true:=by simpa [bb] using h0
    simp only [this,cond_true,Option.bind_some,Sum.elim_inr]
    refine ⟨?_,trivial⟩
    obtain ⟨g,g1,g2,_,g4⟩:=t1.snd k hko
    cases htw:Hd (aD ls on) pts
    ·have:=yk.1 htw g k g2 hf g4;omega
    ·rfl
   ·right
    have h0: ¬0≤feed.getD k 0:=fun g=>hko ((t1.mem k hk).2 g)
    have:bb 0 (feed.getD k 0)=false:=by simp only [bb,decide_eq_false_iff_not];exact h0
    obtain ⟨feed',parent',ord',s1,s2,s3,s4⟩:=Ol h1 hk hf hko t2 t1 (pts.length:Int)
    simp only [this,cond_false,s1,Option.bind_some,Sum.elim_inl]
    refine ⟨_,⟨feed',parent',ord',rfl,s2,s3,fun f g hfk hgk hff hgf hcn=>?_⟩,rfl⟩
    have key: ∀a,a<k→bc pts a=true→ ¬Cn (aD ls on) a k:=fun a ha hfa hcn=>hko (t2.mem rfl (t1.own a ha hfa).1 hcn)
    by_cases e1:f=k
    ·by_cases e2:g=k
     ·omega
     ·exact absurd (e1▸hcn).symm (key g (by omega) hgf)
    ·by_cases e2:g=k
     ·exact absurd (e2▸hcn) (key f (by omega) hff)
     ·exact t3 f g (by omega) (by omega) hff hgf hcn
 ·rintro fuel s ⟨feed,parent,ord,rfl,t1,t2,t3⟩
  rw [pu,ii];simp only [av,cond_false]
theorem HM (b:Int) (ls:List Ln) (on:List Bool) (pts:List (Int×Int)) (hp:pts.length≤1048576):fw b ls on pts=some (rE b ls on pts):=by
 obtain ⟨r,h1,h2,_⟩:=Ly b ls on pts hp
 unfold fw
 rw [h1,Option.bind_some,h2]
theorem IE (b:Int) (ls:List Ln) (on:List Bool) (pts:List (Int×Int)) (hp:pts.length≤1048576):gR b ls on pts=some (rE b ls on pts):=by
 unfold gR rE
 rw [Xd b ls pts hp,Option.bind_some]
 cases hv:Gx b ls on pts
 ·rfl
 obtain ⟨h1,h2⟩:=jC.1 hv
 have hlp:=h2.lp
 subst hlp
 have hB:=h1.net.b1
 rw [Xc h1]
 simp only [Bool.not_true,Bool.not_false,kf,Option.bind_some,Bool.false_or,Bool.true_and]
 unfold iV
 cases hc:FX ls on
 case true=>rfl
 simp only [cond_false,Bool.not_false,Bool.true_and]
 have hh:=cc (fY (pts.length:Int) ls on pts) (fun k=>(k:Int)) pts.length (fun k=>(List.range k).any fun j=>bc pts k&&bc pts j&&aN (aD ls on) j==aN (aD ls on) k) (some (.inr false)) (some (.inl ())) (by omega) (fun k fuel hk=>?_) (fun fuel=>?_)
 ·rw [show fY (pts.length:Int) ls on pts ao 0=_ from hh]
  show _=some (!Hd (aD ls on) pts)
  unfold Hd
  cases (List.range pts.length).any _<;>rfl
 ·rw [pw,ip]
  have h3:=cc (fZ (pts.length:Int) ls on pts (k:Int)) (fun j=>(j:Int)) k (fun j=>bc pts k&&bc pts j&&aN (aD ls on) j==aN (aD ls on) k) (some (.inr false)) (some (.inl ())) (by omega) (fun j fuel hj=>?_) (fun fuel=>?_)
  ·simp only [aK hk,cond_true,ai (by omega:k<4611686018427387904)]
   rw [show fZ (pts.length:Int) ls on pts (k:Int) ao 0=_ from h3]
   cases (List.range k).any _<;>rfl
  ·rw [px,iq]
   have hj2:j<pts.length:=by omega
   simp only [aK hj,ah hk,ah hj2,cond_true,aa,Bool.or_true,Int.toNat_natCast,ai (by omega:j<4611686018427387904),Qh h1 hj2 hk]
   rw [show am 0 (pts.getD k (0,0)).1=bc pts k from rfl,show am 0 (pts.getD j (0,0)).1=bc pts j from rfl]
   cases bc pts k<;>cases bc pts j<;>cases aN (aD ls on) j==aN (aD ls on) k<;>rfl
  ·rw [px,iq];simp only [av,cond_false]
 ·rw [pw,ip];simp only [av,cond_false]
theorem vt {Out:Type} (L:Nat→(List Int×Int)→Option Out) (n:Nat) (p:Nat→Bool) (sd:List Int→Option Out) (hn:n≤1099511627775) (hstep: ∀k fuel (l:List Int),k<n→bp l.length ([(k:Int)]:List Int).length=true→L (fuel+1) (l,(k:Int))=L fuel (bif p k then l++ [(k:Int)] else l,((k+1:Nat):Int)))
 (hend: ∀fuel (l:List Int),L (fuel+1) (l,(n:Int))=sd l):L ao (([]:List Int),0)=sd (zl ((List.range n).filter p)):=by
 have hh:=ba L (fun k=>(zl ((List.range k).filter p),(k:Int))) n (sd (zl ((List.range n).filter p))) (by omega) (fun k fuel hk=>?_) (fun fuel=>hend fuel _)
 ·exact hh
 ·have hl:=List.length_filter_le p (List.range k)
  rw [List.length_range] at hl
  rw [hstep k fuel _ hk (by rw [gH];simp [bp];omega),List.range_succ,List.filter_append,List.filter_cons,List.filter_nil]
  congr 2
  cases p k<;>simp [zl]
def jg (E:Ed) (pts:List (Int×Int)) (f:Int×Int→Int) (k j:Nat):Int:=((List.range k).map fun c=>if aN E c=j then f (pts.getD c (0,0)) else 0).sum
theorem MO (E:Ed) (pts:List (Int×Int)) (f:Int×Int→Int) (j:Nat):jg E pts f 0 j=0:=rfl
theorem Dr (E:Ed) (pts:List (Int×Int)) (f:Int×Int→Int) (k j:Nat):jg E pts f (k+1) j=jg E pts f k j+(if aN E k=j then f (pts.getD k (0,0)) else 0):=by
 unfold jg
 rw [List.range_succ,List.map_append,List.sum_append];simp
theorem GX (E:Ed) (pts:List (Int×Int)) (f:Int×Int→Int) (b:Nat):oW E pts f b=jg E pts f pts.length (aN E b):=rfl
theorem qg (E:Ed) (pts:List (Int×Int)) (f:Int×Int→Int) (hf: ∀c,c<pts.length→0≤f (pts.getD c (0,0))∧f (pts.getD c (0,0))≤999) (j:Nat): ∀k,k≤pts.length→0≤jg E pts f k j∧jg E pts f k j≤999*k
 |0,_=>by rw [MO];omega
 |k+1,hk=>by
  have ih:=qg E pts f hf j k (by omega)
  have:=hf k (by omega)
  rw [Dr]
  split<;>omega
theorem QS (S:Nat→Int) {r:Nat} (hr:r<8):([S 0,S 1,S 2,S 3,S 4,S 5,S 6,S 7]:List Int).getD r 0=S r:=by
 match r,hr with
 |0,_=>rfl
 |1,_=>rfl
 |2,_=>rfl
 |3,_=>rfl
 |4,_=>rfl
 |5,_=>rfl
 |6,_=>rfl
 |7,_=>rfl
theorem sg {S T:Nat→Int} {r j:Nat} {z x y:Int} (hT:T j=S j+(if r=j then x else 0)) (hz:z=(j:Int)) (hy:y=S r+x):(bif ((r:Nat):Int)==z then y else S j)=T j:=by
 subst hz
 rw [hT,hy]
 by_cases h:r=j
 ·subst h;simp
 ·have:(((r:Nat):Int)==((j:Nat):Int))=false:=by rw [beq_eq_false_iff_ne];omega
  rw [this,if_neg h];simp
abbrev XA:=Int×Int×Int×Int×Int×Int×Int×Int×Int×Int×Int×Int×Int×Int×Int×Int
def MR (S T:Nat→Int):XA:=(S 0,S 1,S 2,S 3,S 4,S 5,S 6,S 7,T 0,T 1,T 2,T 3,T 4,T 5,T 6,T 7)
section
variable {b:Int} {ls:List Ln} {on:List Bool} (h:StOk b ls on)
include h
theorem Lz: ∃u,iH b ls on=some (zl u)∧UR u b.toNat (aN (aD ls on)):=by
 have hb:=h.net.b0;have hb1:=h.net.b1;have hll:=h.net.ll;have hl:=h.len
 obtain ⟨B,rfl⟩: ∃B:Nat,b=(B:Int):=⟨b.toNat,by omega⟩
 obtain ⟨n1,n2⟩:=UL (B:=B) (by omega)
 obtain ⟨s,⟨u,rfl,hu⟩,h2⟩:=tN (im ls on) (fun k s=> ∃u,s=(zl u,(k:Int))∧UR u B (aN (rB ((ls.zip on).take k)))) ls.length (fun s=>some s.1) (by omega) (by
  rintro k fuel s hk ⟨u,rfl,hu⟩
  rw [nZ,gy]
  have hln:=uM (h.net.ln k hk)
  simp only [Int.toNat_natCast] at hln
  simp only [aK hk,ah hk,ah (show k<on.length by omega),aa,cond_true,Int.toNat_natCast,ai (by omega:k<4611686018427387904)]
  rw [hln.1,hln.2.1]
  cases ho:on.getD k false
  ·refine ⟨_,⟨u,rfl,?_⟩,rfl⟩
   rw [yu h hk,ho];exact hu
  ·obtain ⟨x,j1,j2⟩:=PN hu (by omega) hln.2.2.1 hln.2.2.2
   simp only [cond_true,j1,Option.bind_some]
   refine ⟨_,⟨x,rfl,?_⟩,rfl⟩
   rw [yu h hk,ho,if_pos rfl,rP];exact j2) (by
  rintro fuel s ⟨u,rfl,hu⟩
  rw [nZ,gy];simp only [av,cond_false]) (zl (List.range B),0) ⟨_,rfl,n2⟩
 refine ⟨u,?_,?_⟩
 ·unfold iH
  rw [n1,Option.bind_some,h2];rfl
 ·rw [IR h] at hu
  simpa using hu
variable {pts:List (Int×Int)} (hB:BusOk b ls pts)
include hB
omit h in
theorem DO:pts.length≤8∧b.toNat=pts.length:=by have:=hB.net.b1;have:=hB.lp;omega
set_option maxHeartbeats 1000000 in
theorem PQ:jj b ls on pts=some (MR (jg (aD ls on) pts (·.1) pts.length) (jg (aD ls on) pts (·.2) pts.length)):=by
 obtain ⟨u,u1,u2⟩:=Lz h
 obtain ⟨b1,b2⟩:=DO hB
 rw [b2] at u2
 unfold jj
 rw [u1,Option.bind_some]
 have hf1: ∀c,c<pts.length→0≤(pts.getD c (0,0)).1∧(pts.getD c (0,0)).1≤999:=fun c hc=>(hB.bs c hc).1
 have hf2: ∀c,c<pts.length→0≤(pts.getD c (0,0)).2∧(pts.getD c (0,0)).2≤999:=fun c hc=>(hB.bs c hc).2
 obtain ⟨s,⟨v,rfl,hv⟩,h2⟩:=tN (fW pts) (fun k s=> ∃v,s=(zl v,(k:Int),MR (jg (aD ls on) pts (·.1) k) (jg (aD ls on) pts (·.2) k))∧UR v pts.length (aN (aD ls on))) pts.length (fun s=>some s.2.2) (by omega) (by
  rintro k fuel s hk ⟨v,rfl,hv⟩
  rw [pp,ie]
  obtain ⟨x,x1,x2⟩:=uK hv (by omega) hk
  have hr:aN (aD ls on) k<8:=by have:=hv.le hk;omega
  have k1:=qg (aD ls on) pts (·.1) hf1 (aN (aD ls on) k) k (by omega)
  have k2:=qg (aD ls on) pts (·.2) hf2 (aN (aD ls on) k) k (by omega)
  have p1:=hf1 k hk
  have p2:=hf2 k hk
  have w1:ak (jg (aD ls on) pts (·.1) k (aN (aD ls on) k)+(pts.getD k (0,0)).1)=jg (aD ls on) pts (·.1) k (aN (aD ls on) k)+(pts.getD k (0,0)).1:=aW (by omega) (by omega)
  have w2:ak (jg (aD ls on) pts (·.2) k (aN (aD ls on) k)+(pts.getD k (0,0)).2)=jg (aD ls on) pts (·.2) k (aN (aD ls on) k)+(pts.getD k (0,0)).2:=aW (by omega) (by omega)
  dsimp only [MR]
  simp only [aK hk,ah hk,aa,cond_true,Int.toNat_natCast,ai (by omega:k<4611686018427387904),x1,Option.bind_some,ah hr,QS _ hr,w1,w2]
  have s1:=fun j=>Dr (aD ls on) pts (·.1) k j
  have s2:=fun j=>Dr (aD ls on) pts (·.2) k j
  refine ⟨(zl x,((k+1:Nat):Int),MR (jg (aD ls on) pts (·.1) (k+1)) (jg (aD ls on) pts (·.2) (k+1))),⟨x,rfl,x2⟩,?_⟩
  dsimp only [MR]
  rw [sg (s1 0) (show (0:Int)=((0:Nat):Int) from rfl) rfl,sg (s1 1) (show (1:Int)=((1:Nat):Int) from rfl) rfl,sg (s1 2) (show (2:Int)=((2:Nat):Int) from rfl) rfl,sg (s1 3) (show (3:Int)=((3:Nat):Int) from rfl) rfl,
   sg (s1 4) (show (4:Int)=((4:Nat):Int) from rfl) rfl,sg (s1 5) (show (5:Int)=((5:Nat):Int) from rfl) rfl,sg (s1 6) (show (6:Int)=((6:Nat):Int) from rfl) rfl,sg (s1 7) (show (7:Int)=((7:Nat):Int) from rfl) rfl,
   sg (s2 0) (show (0:Int)=((0:Nat):Int) from rfl) rfl,sg (s2 1) (show (1:Int)=((1:Nat):Int) from rfl) rfl,sg (s2 2) (show (2:Int)=((2:Nat):Int) from rfl) rfl,sg (s2 3) (show (3:Int)=((3:Nat):Int) from rfl) rfl,
   sg (s2 4) (show (4:Int)=((4:Nat):Int) from rfl) rfl,sg (s2 5) (show (5:Int)=((5:Nat):Int) from rfl) rfl,sg (s2 6) (show (6:Int)=((6:Nat):Int) from rfl) rfl,sg (s2 7) (show (7:Int)=((7:Nat):Int) from rfl) rfl]) (by
  rintro fuel s ⟨v,rfl,hv⟩
  rw [pp,ie];simp only [av,cond_false]) (zl u,0,MR (fun _=>0) (fun _=>0)) ⟨u,rfl,u2⟩
 rw [show fW pts ao (zl u,0,0,0,0,0,0,0,0,0,0,0,0,0,0,0,0,0)=_ from h2]
 rfl
end
section
variable {ls:List Ln} {on:List Bool} {pts:List (Int×Int)} (h1:StOk (pts.length:Int) ls on) (h2:BusOk (pts.length:Int) ls pts)
include h1 h2
end
def uq (E:Ed) (pts:List (Int×Int)):List Nat:=(List.range pts.length).filter fun b=>am 0 (oW E pts (·.1) b)
theorem QX (b:Int) (ls:List Ln) (on:List Bool) (pts:List (Int×Int)) (hp:pts.length≤1048576):gZ b ls on pts=some (if Gx b ls on pts then zl (uq (aD ls on) pts) else []):=by
 unfold gZ
 rw [Oj b ls pts hp,Option.bind_some]
 cases hv:Gx b ls on pts
 ·rfl
 obtain ⟨h1,h2⟩:=jC.1 hv
 obtain ⟨b1,b2⟩:=DO h2
 obtain ⟨u,u1,u2⟩:=Lz h1
 rw [b2] at u2
 simp only [cond_true,u1,Option.bind_some,PQ h1 h2,if_true]
 obtain ⟨s,⟨v,rfl,hv⟩,hh⟩:=tN (eF pts (MR (jg (aD ls on) pts (·.1) pts.length) (jg (aD ls on) pts (·.2) pts.length))) (fun k s=> ∃v,s=(zl v,zl ((List.range k).filter fun b=>am 0 (oW (aD ls on) pts (·.1) b)),(k:Int))∧UR v pts.length (aN (aD ls on))) pts.length (fun s=>some s.2.1) (by omega) (by
  rintro k fuel s hk ⟨v,rfl,hv⟩
  rw [lO,dX]
  obtain ⟨x,x1,x2⟩:=uK hv (by omega) hk
  have hr:aN (aD ls on) k<8:=by have:=hv.le hk;omega
  have hl:=List.length_filter_le (fun b=>am 0 (oW (aD ls on) pts (·.1) b)) (List.range k)
  rw [List.length_range] at hl
  have ha:bp (zl ((List.range k).filter fun b=>am 0 (oW (aD ls on) pts (·.1) b))).length ([(k:Int)]:List Int).length=true:=by rw [gH];simp [bp];omega
  dsimp only [MR]
  simp only [aK hk,cond_true,Int.toNat_natCast,ai (by omega:k<4611686018427387904),x1,Option.bind_some,ah hr,aa,QS _ hr,ha]
  refine ⟨_,⟨x,rfl,x2⟩,?_⟩
  rw [List.range_succ,List.filter_append,List.filter_cons,List.filter_nil,GX]
  cases hc:am 0 (jg (aD ls on) pts (·.1) pts.length (aN (aD ls on) k))
  ·simp
  ·simp [zl]) (by
  rintro fuel s ⟨v,rfl,hv⟩
  rw [lO,dX];simp only [av,cond_false]) (zl u,([]:List Int),0) ⟨u,rfl,u2⟩
 rw [hh];rfl
section
variable {ls:List Ln} {on:List Bool} {pts:List (Int×Int)} (h1:StOk (pts.length:Int) ls on) (h2:BusOk (pts.length:Int) ls pts)
include h1 h2
end
section
variable (l:Pm) (a b:Int) (hn:l.length≤1099511627776)
include hn
theorem MG:ga l a b=some (Ke l (a,b)):=by
 unfold ga Ke
 have h:=sO (fj l a b) (fun k=>(k:Int)) l.length (fun k=>(l.getD k (0,0)).1==a&&(l.getD k (0,0)).2==b) (fun k=>some (.inr (k:Int))) (some (.inl ())) hn (fun k fuel hk=>by
  rw [ob,gD]
  simp only [aK hk,ah hk,aa,cond_true,Int.toNat_natCast,ai (by omega:k<4611686018427387904)]) (fun fuel=>by rw [ob,gD];simp only [av,cond_false])
 rw [show fj l a b ao 0=_ from h]
 cases (List.range l.length).find? (fun k=>(l.getD k (0,0)).1==a&&(l.getD k (0,0)).2==b)<;>rfl
theorem PJ:aG l a b=some (Ke l (a,b)):=by
 unfold aG Ke
 have h:=sO (aA l a b) (fun k=>(k:Int)) l.length (fun k=>(l.getD k (0,0)).1==a&&(l.getD k (0,0)).2==b) (fun k=>some (.inr (k:Int))) (some (.inl ())) hn (fun k fuel hk=>by
  rw [ce,aL]
  simp only [aK hk,ah hk,aa,cond_true,Int.toNat_natCast,ai (by omega:k<4611686018427387904)]
  rw [show (a==(l.getD k (0,0)).1)=((l.getD k (0,0)).1==a) from Bool.beq_comm ..,show (b==(l.getD k (0,0)).2)=((l.getD k (0,0)).2==b) from Bool.beq_comm ..]) (fun fuel=>by rw [ce,aL];simp only [av,cond_false])
 rw [show aA l a b ao 0=_ from h]
 cases (List.range l.length).find? (fun k=>(l.getD k (0,0)).1==a&&(l.getD k (0,0)).2==b)<;>rfl
theorem Ra:aq l a b=some (decide ((a,b)∈l)):=by
 unfold aq
 rw [PJ l a b hn,Option.bind_some,Cv]
end
section
variable (on earth:List Bool) (pm:Pm) (ho:on.length≤1048576) (hp:pm.length≤1048576) (hl:earth.length=on.length)
include ho hl
theorem XS:du on earth ao 0=bif (List.range on.length).any (fun k=>on.getD k false&&earth.getD k false) then some (.inr false) else some (.inl ()):=by
 have h:=cc (du on earth) (fun k=>(k:Int)) on.length (fun k=>on.getD k false&&earth.getD k false) (some (.inr false)) (some (.inl ())) (by omega) (fun k fuel hk=>?_) (fun fuel=>?_)
 ·exact h
 ·rw [my,fh]
  simp only [aK hk,ah hk,ah (show k<earth.length by omega),aa,cond_true,Int.toNat_natCast,Bool.or_true,ai (by omega:k<4611686018427387904)]
 ·rw [my,fh];simp only [av,cond_false]
theorem XK:dl on earth ao 0=bif (List.range on.length).any (fun k=>on.getD k false&&earth.getD k false) then some (.inr false) else some (.inl ()):=by
 have h:=cc (dl on earth) (fun k=>(k:Int)) on.length (fun k=>on.getD k false&&earth.getD k false) (some (.inr false)) (some (.inl ())) (by omega) (fun k fuel hk=>?_) (fun fuel=>?_)
 ·exact h
 ·rw [mq,eP]
  simp only [aK hk,ah hk,ah (show k<earth.length by omega),aa,cond_true,Int.toNat_natCast,Bool.or_true,ai (by omega:k<4611686018427387904)]
 ·rw [mq,eP];simp only [av,cond_false]
include hp
theorem XT:dw on earth pm ao 0=bif (List.range pm.length).any (fun k=> !xP on earth pm k) then some (.inr false) else some (.inl ()):=by
 have h:=cc (dw on earth pm) (fun k=>(k:Int)) pm.length (fun k=> !xP on earth pm k) (some (.inr false)) (some (.inl ())) (by omega) (fun k fuel hk=>?_) (fun fuel=>?_)
 ·exact h
 ·rw [mz,fi]
  simp only [aK hk,ah hk,aa,cond_true,Int.toNat_natCast,ai (by omega:k<4611686018427387904),MG pm _ _ (by omega),aw]
  have w1:ak ((on.length:Int)-1)=(on.length:Int)-1:=aW (by omega) (by omega)
  have hft:=KX hk
  rw [w1]
  unfold xP
  rw [lw]
  generalize pm.getD k (0,0)=p at*
  cases h1:(bb 0 p.1&&bb p.1 9)
  ·simp [gb]
  have e2:(bb 0 p.2&&bb p.2 ((on.length:Int)-1))=(decide (0≤p.2)&&decide (p.2<(on.length:Int))):=by rw [Bool.eq_iff_iff];simp [bb];omega
  rw [e2]
  cases h2:(decide (0≤p.2)&&decide (p.2<(on.length:Int)))
  ·simp [gb]
  have hx:aI p.2 earth.length=true:=by simp at h2;simp [aI];omega
  simp only [gb,Option.bind_some,Bool.not_true,Bool.not_false,cond_true,Bool.or_self,hx,Bool.or_true,aa,Bool.false_or,Bool.true_and]
  cases earth.getD p.2.toNat false
  ·simp
  ·simp [hft]
 ·rw [mz,fi];simp only [av,cond_false]
omit ho in
theorem XL:dm on earth pm ao 0=bif (List.range pm.length).any (fun k=> !xP on earth pm k) then some (.inr false) else some (.inl ()):=by
 have h:=cc (dm on earth pm) (fun k=>(k:Int)) pm.length (fun k=> !xP on earth pm k) (some (.inr false)) (some (.inl ())) (by omega) (fun k fuel hk=>?_) (fun fuel=>?_)
 ·exact h
 ·rw [mr,eQ]
  have hs:sU 0 (k:Int) pm.length=true:=decide_eq_true (by omega)
  have ht:ac pm 0 (k:Int)=pm.take k:=by simp [ac]
  simp only [aK hk,ah hk,aa,cond_true,Int.toNat_natCast,ai (by omega:k<4611686018427387904),hs,ht,Bool.or_true,Ra (pm.take k) _ _ (by simp;omega)]
  unfold xP
  rw [lw]
  generalize pm.getD k (0,0)=p
  rw [show ((p.1,p.2):Int×Int)=p from rfl]
  cases h1:(bb 0 p.1&&bb p.1 9)
  ·have:(am p.1 0 ||am 9 p.1)=true:=by simp [bb] at h1;simp [am];omega
   simp [gb,this]
  have e1:(am p.1 0 ||am 9 p.1)=false:=by simp [bb] at h1;simp [am];omega
  rw [e1]
  cases h2:(decide (0≤p.2)&&decide (p.2<(on.length:Int)))
  ·have:(am p.2 0 ||bb (on.length:Int) p.2)=true:=by simp at h2;simp [am,bb];omega
   simp only [Bool.false_or,this,Bool.not_true,Bool.true_or,Bool.not_false,aa,gb,cond_false,Option.bind_some,cond_true,Bool.and_false,Bool.false_and]
  have e2:(am p.2 0 ||bb (on.length:Int) p.2)=false:=by simp at h2;simp [am,bb];omega
  have hx:aI p.2 earth.length=true:=by simp at h2;simp [aI];omega
  simp only [Bool.false_or,e2,gb,Option.bind_some,Bool.not_true,Bool.not_false,cond_true,Bool.or_self,hx,Bool.or_true,aa,Bool.true_and]
  cases earth.getD p.2.toNat false<;>simp
 ·rw [mr,eQ];simp only [av,cond_false]
end
section
variable (on earth:List Bool) (pm:Pm) (ho:on.length≤1048576) (hp:pm.length≤1048576)
include ho hp
theorem Di:dN on earth pm=some (jR on earth pm):=by
 unfold dN aw jR
 rw [lw,Xr,Hm]
 cases h1:(bb 1 (on.length:Int)&&bb (on.length:Int) 10)
 ·simp
 by_cases h2:earth.length=on.length
 ·rw [show (earth.length==on.length)=true by simpa using h2,show (on.length==earth.length)=true by simpa using h2.symm]
  cases h3:decide (pm.length≤6)
  ·simp
  simp only [Option.bind_some,Bool.not_true,Bool.or_self,cond_false,XS on earth ho h2,XT on earth pm ho hp h2,Bool.true_and]
  cases (List.range on.length).any fun k=>on.getD k false&&earth.getD k false
  ·cases (List.range pm.length).any fun k=> !xP on earth pm k<;>rfl
  ·rfl
 ·rw [show (earth.length==on.length)=false by simpa using h2,show (on.length==earth.length)=false by simpa using fun e=>h2 e.symm]
  simp
theorem Gm:dL on earth pm=some (jR on earth pm):=by
 unfold dL jR
 rw [US,Xr,Hm]
 cases h1:am (on.length:Int) 1
 ·cases h4:am 10 (on.length:Int)
  ·by_cases h2:earth.length=on.length
   ·rw [show (earth.length==on.length)=true by simpa using h2]
    cases h3:decide (pm.length≤6)
    ·simp
    simp only [Option.bind_some,Bool.not_true,Bool.not_false,Bool.or_self,cond_false,XK on earth ho h2,XL on earth pm hp h2,Bool.true_and]
    cases (List.range on.length).any fun k=>on.getD k false&&earth.getD k false
    ·cases (List.range pm.length).any fun k=> !xP on earth pm k<;>rfl
    ·rfl
   ·rw [show (earth.length==on.length)=false by simpa using h2]
    simp
  ·simp
 ·simp
end
theorem Kv (on:List Bool) (br:List Int):tj on br 0=((decide (0≤br.getD 0 0)&&decide (br.getD 0 0<(on.length:Int)))&& !on.getD (br.getD 0 0).toNat false):=by
 unfold tj;simp
theorem Kw (on:List Bool) (br:List Int) (j:Nat):tj on br (j+1)=((decide (0≤br.getD (j+1) 0)&&decide (br.getD (j+1) 0<(on.length:Int)))&& !on.getD (br.getD (j+1) 0).toNat false&& !bb (br.getD (j+1) 0) (br.getD j 0)):=by
 unfold tj
 have:decide (br.getD j 0<br.getD (j+1) 0)= !bb (br.getD (j+1) 0) (br.getD j 0):=by rw [Bool.eq_iff_iff];simp [bb]
 simp only [Nat.add_sub_cancel,this]
 have e:decide (j+1=0)=false:=by simp
 rw [e,Bool.false_or]
section
variable (b:Int) (ls:List Ln) (pts:List (Int×Int)) (on earth:List Bool) (pm:Pm) (br:List Int) (hp:pts.length≤1048576) (ho:on.length≤1048576) (hm:pm.length≤1048576) (hb:br.length≤1048576)
include hb
theorem XF (hl:on.length=ls.length):cJ b ls on br ao 0=bif (List.range br.length).any (fun k=> !tj on br k) then some (.inr false) else some (.inl ()):=by
 have hh:=cc (cJ b ls on br) (fun k=>(k:Int)) br.length (fun k=> !tj on br k) (some (.inr false)) (some (.inl ())) (by omega) (fun k fuel hk=>?_) (fun fuel=>?_)
 ·exact hh
 ·rw [lR,ea]
  simp only [aK hk,ah hk,cond_true,aa,Int.toNat_natCast,aH,Option.bind_some,ai (by omega:k<4611686018427387904)]
  have e1:(bb 0 (br.getD k 0)&&am (br.getD k 0) (ls.length:Int))=(decide (0≤br.getD k 0)&&decide (br.getD k 0<(on.length:Int))):=by rw [hl];rfl
  rw [e1]
  have hx:(decide (0≤br.getD k 0)&&decide (br.getD k 0<(on.length:Int)))=true→aI (br.getD k 0) on.length=true:=by intro h;simp at h;simp [aI];omega
  rcases k with _ |j
  ·rw [Kv]
   have:am 0 ((0:Nat):Int)=false:=rfl
   simp only [this,Bool.and_false,Bool.not_false,Bool.true_or,aa,Bool.or_false]
   cases h1:decide (0≤br.getD 0 0)&&decide (br.getD 0 0<(on.length:Int))
   ·rfl
   ·rw [hx h1]
    cases on.getD (br.getD 0 0).toNat false<;>rfl
  ·rw [Kw]
   have e2:ak (((j+1:Nat):Int)-1)=(j:Int):=by rw [aW (by omega) (by omega)];omega
   have e3:am 0 ((j+1:Nat):Int)=true:=decide_eq_true (by omega)
   simp only [e2,e3,ah (show j<br.length by omega),Bool.or_true,aa,Bool.true_and,Int.toNat_natCast]
   cases h1:decide (0≤br.getD (j+1) 0)&&decide (br.getD (j+1) 0<(on.length:Int))
   ·rfl
   ·rw [hx h1]
    cases on.getD (br.getD (j+1) 0).toNat false<;>cases bb (br.getD (j+1) 0) (br.getD j 0)<;>rfl
 ·rw [lR,ea];simp only [av,cond_false]
include ho in
theorem XQ:cO on br ao 0=bif (List.range br.length).any (fun k=> !tj on br k) then some (.inr false) else some (.inl ()):=by
 have hh:=cc (cO on br) (fun k=>(k:Int)) br.length (fun k=> !tj on br k) (some (.inr false)) (some (.inl ())) (by omega) (fun k fuel hk=>?_) (fun fuel=>?_)
 ·exact hh
 ·rw [lX,ek]
  have w1:ak ((on.length:Int)-1)=(on.length:Int)-1:=aW (by omega) (by omega)
  simp only [aK hk,ah hk,cond_true,aa,Int.toNat_natCast,aw,Option.bind_some,ai (by omega:k<4611686018427387904),w1]
  have e1:(bb 0 (br.getD k 0)&&bb (br.getD k 0) ((on.length:Int)-1))=(decide (0≤br.getD k 0)&&decide (br.getD k 0<(on.length:Int))):=by rw [Bool.eq_iff_iff];simp [bb];omega
  rw [e1]
  have hx:(decide (0≤br.getD k 0)&&decide (br.getD k 0<(on.length:Int)))=true→aI (br.getD k 0) on.length=true:=by intro h;simp at h;simp [aI];omega
  rcases k with _ |j
  ·rw [Kv]
   have:am 0 ((0:Nat):Int)=false:=rfl
   simp only [this,Bool.and_false,Bool.not_false,Bool.true_or,aa,Bool.or_false,Bool.false_and]
   cases h1:decide (0≤br.getD 0 0)&&decide (br.getD 0 0<(on.length:Int))
   ·rfl
   ·rw [hx h1]
    cases on.getD (br.getD 0 0).toNat false<;>simp
  ·rw [Kw]
   have e2:ak (((j+1:Nat):Int)-1)=(j:Int):=by rw [aW (by omega) (by omega)];omega
   have e3:am 0 ((j+1:Nat):Int)=true:=decide_eq_true (by omega)
   simp only [e2,e3,ah hk,ah (show j<br.length by omega),Bool.or_true,aa,Bool.true_and,Int.toNat_natCast]
   cases h1:decide (0≤br.getD (j+1) 0)&&decide (br.getD (j+1) 0<(on.length:Int))
   ·rfl
   ·rw [hx h1]
    cases on.getD (br.getD (j+1) 0).toNat false<;>cases bb (br.getD (j+1) 0) (br.getD j 0)<;>rfl
 ·rw [lX,ek];simp only [av,cond_false]
include hp ho hm
theorem SC:aT b ls pts on earth pm br=some (wv ⟨b,ls,pts,on,earth,pm,br⟩):=by
 unfold aT wv SK
 rw [Lo b ls pts hp,Gm on earth pm ho hm]
 have e:((on.length:Int) !=(ls.length:Int))= !decide (on.length=ls.length):=by rw [Bool.eq_iff_iff];simp;omega
 rw [e]
 cases h1:md b ls pts
 ·rfl
 cases h2:jR on earth pm
 ·rfl
 by_cases h3:on.length=ls.length
 ·rw [decide_eq_true h3]
  simp only [Option.bind_some,Bool.not_true,Bool.not_false,kf,Bool.or_self,cond_false,XF b ls on br hb h3,HM b ls on pts hp]
  have hok:rE b ls on pts=iV ls on pts:=by
   have:=pS.1 h1
   unfold rE
   rw [jC.2 ⟨⟨this.net,h3⟩,this⟩];rfl
  rw [hok]
  cases (List.range br.length).any fun k=> !tj on br k<;>cases iV ls on pts<;>rfl
 ·rw [decide_eq_false h3];simp
theorem Xu:cX b ls pts on earth pm br=some (wv ⟨b,ls,pts,on,earth,pm,br⟩):=by
 unfold cX wv SK
 rw [MF b ls pts hp,Di on earth pm ho hm]
 have e:((on.length:Int) !=(ls.length:Int))= !decide (on.length=ls.length):=by rw [Bool.eq_iff_iff];simp;omega
 rw [e]
 cases h1:md b ls pts
 ·rfl
 cases h2:jR on earth pm
 ·rfl
 by_cases h3:on.length=ls.length
 ·rw [decide_eq_true h3]
  simp only [Option.bind_some,Bool.not_true,Bool.not_false,kf,Bool.or_self,cond_false,XQ on br ho hb,IE b ls on pts hp]
  have hok:rE b ls on pts=iV ls on pts:=by
   have:=pS.1 h1
   unfold rE
   rw [jC.2 ⟨⟨this.net,h3⟩,this⟩];rfl
  rw [hok]
  cases (List.range br.length).any fun k=> !tj on br k<;>cases iV ls on pts<;>rfl
 ·rw [decide_eq_false h3];simp
end
def xc (w:Wd):List Nat:=(List.range w.pts.length).filter fun k=>am 0 (w.pts.getD k (0,0)).2&& !am 0 (oW (aD w.ls w.on) w.pts (·.1) k)
theorem UH (l:List Int) (x:Int) (hl:l.length≤1099511627776): ∃z,dG l x=some z∧bb 0 z=decide (x∈l):=by
 unfold dG
 have h:=sO (bu l x) (fun k=>(k:Int)) l.length (fun k=>x==l.getD k 0) (fun k=>some (.inr (k:Int))) (some (.inl ())) hl (fun k fuel hk=>by
  rw [iW,bY]
  simp only [aK hk,ah hk,aa,cond_true,Int.toNat_natCast,ai (by omega:k<4611686018427387904)]) (fun fuel=>by rw [iW,bY];simp only [av,cond_false])
 rw [show bu l x ao 0=_ from h]
 cases hf:(List.range l.length).find? (fun k=>x==l.getD k 0) with
 |none=>
  refine ⟨_,rfl,?_⟩
  have:x∉l:=fun hx=>by
   obtain ⟨k,hk,rfl⟩:=List.mem_iff_getElem.1 hx
   have:=List.find?_eq_none.1 hf k (by simpa using hk)
   rw [ae hk] at this
   simp at this
  rw [decide_eq_false this];rfl
 |some k=>
  obtain ⟨h1,h2,_⟩:=List.find?_range_eq_some.1 hf
  have hk:k<l.length:=by simpa using h2
  refine ⟨_,rfl,?_⟩
  have:x∈l:=by
   rw [beq_iff_eq] at h1
   rw [h1,ae hk];exact List.getElem_mem hk
  rw [decide_eq_true this];simp [bb]
theorem UF (l:List Int) (x:Int) (hl:l.length≤1099511627776):cm l x=some (decide (x∈l)):=by
 obtain ⟨z,h1,h2⟩:=UH l x hl
 unfold cm
 rw [h1,Option.bind_some,h2]
theorem IS {E:Ed} {pts:List (Int×Int)} {k:Nat} (hk:k<pts.length):decide ((k:Int)∈zl (uq E pts))=am 0 (oW E pts (·.1) k):=by
 rw [Bool.eq_iff_iff,decide_eq_true_eq,Nh]
 simp [uq,hk]
section
variable (b:Int) (ls:List Ln) (pts:List (Int×Int)) (on earth:List Bool) (pm:Pm) (br:List Int) (hp:pts.length≤1048576) (ho:on.length≤1048576) (hm:pm.length≤1048576) (hb:br.length≤1048576)
include hp ho hm hb
theorem UB:dM b ls pts on earth pm br=some (if wv ⟨b,ls,pts,on,earth,pm,br⟩ then zl (xc ⟨b,ls,pts,on,earth,pm,br⟩) else []):=by
 unfold dM
 rw [SC b ls pts on earth pm br hp ho hm hb,Option.bind_some]
 cases hv:wv ⟨b,ls,pts,on,earth,pm,br⟩
 ·rfl
 have hw:=dc.1 hv
 have hok:Gx b ls on pts=true:=jC.2 ⟨⟨hw.bus.net,hw.len⟩,hw.bus⟩
 simp only [cond_true,QX b ls on pts hp,hok,if_true,Option.bind_some]
 have hal:(zl (uq (aD ls on) pts)).length≤1099511627776:=by
  rw [gH];unfold uq
  have:=List.length_filter_le (fun b=>am 0 (oW (aD ls on) pts (·.1) b)) (List.range pts.length)
  rw [List.length_range] at this;omega
 have hh:=vt (fG pts (zl (uq (aD ls on) pts))) pts.length (fun k=>am 0 (pts.getD k (0,0)).2&& !am 0 (oW (aD ls on) pts (·.1) k)) some (by omega) (fun k fuel l hk ha=>?_) (fun fuel l=>?_)
 ·rw [hh];rfl
 ·rw [mt,eS]
  simp only [aK hk,ah hk,aa,cond_true,Int.toNat_natCast,UF _ _ hal,IS hk,ha,ai (by omega:k<4611686018427387904)]
  cases am 0 (pts.getD k (0,0)).2
  ·rfl
  ·cases am 0 (oW (aD ls on) pts (·.1) k)<;>rfl
 ·rw [mt,eS];simp only [av,cond_false]
end
end Go.Proofs.YtjdlgannencchaaGreatDoor
