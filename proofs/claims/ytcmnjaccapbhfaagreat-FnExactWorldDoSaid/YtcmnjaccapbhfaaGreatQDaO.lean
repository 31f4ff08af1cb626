/- How the arguments of the laws are opened. -/
import Derived.Test.YtcmnjaccapbhfaaGreatQDaM
import Derived.Test.YtcmnjaccapbhfaaGreatQOpens
import Derived.ChangeSame
import Derived.ChangeMaps5
namespace Go.Proofs.YtcmnjaccapbhfaaGreat
open Go.ChangeShapes Go.WideShapes Go.ChangeAt Go.RowKit Go.Deep
set_option linter.unusedVariables false
set_option linter.unusedSimpArgs false
set_option maxRecDepth 100000
section
variable {H:Type} {enc:TypeId×Value → H} {w:World} {base:Nat} {spare:Nat → Bool} {held:Bool}
theorem tr3 {fuel:Nat} {cs:List Value} {x:DataW H×List MemPlace} (h:DataW.trod enc Tryz.prog w base spare held fuel 3 cs=some x) :
  ∃ (y0:Int),cs=[.int .i64 y0]∧inR y0:=by
 obtain ⟨n,rfl,_,hw⟩:=DataW.trod_int Tryz.underlying3 h
 exact ⟨n,rfl,Go.bounds_i64 hw⟩
theorem tr141 {fuel:Nat} {cs:List Value} {x:DataW H×List MemPlace} (h:DataW.trod enc Tryz.prog w base spare held fuel 141 cs=some x) :
  ∃ (y0:Int) (y1:Int) (y2:Int),cs=[.int .i64 y0,.int .i64 y1,.int .i64 y2]∧inR y0∧inR y1∧inR y2:=by
 obtain ⟨xs,n,_,rfl,hl,hlen,hf⟩:=DataW.trod_struct Tryz.underlying141 h
 have hc:Tryz.prog.cellsOf 141=3:=by kernel_rfl
 rw [hc] at hl
 have h0:DataW.trod enc Tryz.prog w base spare held n 3 ((cs.drop 0).take (Tryz.prog.cellsOf 3))=xs[0]?:=hf 0 _ rfl
 have c0:Tryz.prog.cellsOf 3=1:=by kernel_rfl
 obtain ⟨q0,hq0⟩ : ∃ q,xs[0]?=some q:=⟨_,List.getElem?_eq_getElem (by rw [hlen]; decide)⟩
 rw [hq0,c0] at h0
 obtain ⟨y0,e0,w0_0⟩:=tr3 h0
 have h1:DataW.trod enc Tryz.prog w base spare held n 3 ((cs.drop 1).take (Tryz.prog.cellsOf 3))=xs[1]?:=hf 1 _ rfl
 have c1:Tryz.prog.cellsOf 3=1:=by kernel_rfl
 obtain ⟨q1,hq1⟩ : ∃ q,xs[1]?=some q:=⟨_,List.getElem?_eq_getElem (by rw [hlen]; decide)⟩
 rw [hq1,c1] at h1
 obtain ⟨y1,e1,w1_0⟩:=tr3 h1
 have h2:DataW.trod enc Tryz.prog w base spare held n 3 ((cs.drop 2).take (Tryz.prog.cellsOf 3))=xs[2]?:=hf 2 _ rfl
 have c2:Tryz.prog.cellsOf 3=1:=by kernel_rfl
 obtain ⟨q2,hq2⟩ : ∃ q,xs[2]?=some q:=⟨_,List.getElem?_eq_getElem (by rw [hlen]; decide)⟩
 rw [hq2,c2] at h2
 obtain ⟨y2,e2,w2_0⟩:=tr3 h2
 match cs,hl with
 | [u0,u1,u2],_ =>
  simp at e0 e1 e2
  subst e0; subst e1; subst e2
  exact ⟨y0,y1,y2,rfl,w0_0,w1_0,w2_0⟩
theorem tr22 {fuel:Nat} {cs:List Value} {x:DataW H×List MemPlace} (h:DataW.trod enc Tryz.prog w base spare held fuel 22 cs=some x) :
  ∃ (A0:Option Addr) (y0:List (Int×Int×Int)) (k0:Nat),cs=[.slice A0 y0.length k0]∧Rc w 3 A0 y0.length k0 (y0.flatMap eLLine)∧y0.length ≤ maxLen∧(∀ z ∈ y0,inR z.1∧inR z.2.1∧inR z.2.2):=by
 obtain ⟨A,l,cap,e1,e2,e3,e4⟩:=open_list (fun b : {y:Int×Int×Int // inR y.1∧inR y.2.1∧inR y.2.2}=>eLLine b.1) (size:=3) (fun b=>eLLine_len b.1) (by decide) Tryz.underlying22 (by kernel_rfl) (fun fuel cs x hx=>by
  obtain ⟨z0,z1,z2,rfl,g0,g1,g2⟩:=tr141 hx
  exact ⟨⟨(z0,z1,z2),⟨g0,g1,g2⟩⟩,rfl⟩) h
 refine ⟨A,l.map (·.1),cap,by simpa using e1,⟨by simpa [List.flatMap_map] using e2,by simpa using e3⟩,by simpa using Nat.le_trans e3 e4,fun z hz=>?_⟩
 obtain ⟨q,_,rfl⟩:=List.mem_map.1 hz
 exact q.2
theorem tr24 {fuel:Nat} {cs:List Value} {x:DataW H×List MemPlace} (h:DataW.trod enc Tryz.prog w base spare held fuel 24 cs=some x) :
  ∃ (y0:Int) (A1:Option Addr) (y1:List (Int×Int×Int)) (k1:Nat),cs=[.int .i64 y0,.slice A1 y1.length k1]∧inR y0∧Rc w 3 A1 y1.length k1 (y1.flatMap eLLine)∧y1.length ≤ maxLen∧(∀ z ∈ y1,inR z.1∧inR z.2.1∧inR z.2.2):=by
 obtain ⟨xs,n,_,rfl,hl,hlen,hf⟩:=DataW.trod_struct Tryz.underlying24 h
 have hc:Tryz.prog.cellsOf 24=2:=by kernel_rfl
 rw [hc] at hl
 have h0:DataW.trod enc Tryz.prog w base spare held n 3 ((cs.drop 0).take (Tryz.prog.cellsOf 3))=xs[0]?:=hf 0 _ rfl
 have c0:Tryz.prog.cellsOf 3=1:=by kernel_rfl
 obtain ⟨q0,hq0⟩ : ∃ q,xs[0]?=some q:=⟨_,List.getElem?_eq_getElem (by rw [hlen]; decide)⟩
 rw [hq0,c0] at h0
 obtain ⟨y0,e0,w0_0⟩:=tr3 h0
 have h1:DataW.trod enc Tryz.prog w base spare held n 22 ((cs.drop 1).take (Tryz.prog.cellsOf 22))=xs[1]?:=hf 1 _ rfl
 have c1:Tryz.prog.cellsOf 22=1:=by kernel_rfl
 obtain ⟨q1,hq1⟩ : ∃ q,xs[1]?=some q:=⟨_,List.getElem?_eq_getElem (by rw [hlen]; decide)⟩
 rw [hq1,c1] at h1
 obtain ⟨A1,y1,k1,e1,w1_0,w1_1,w1_2⟩:=tr22 h1
 match cs,hl with
 | [u0,u1],_ =>
  simp at e0 e1
  subst e0; subst e1
  exact ⟨y0,A1,y1,k1,rfl,w0_0,w1_0,w1_1,w1_2⟩
theorem tr112 {fuel:Nat} {cs:List Value} {x:DataW H×List MemPlace} (h:DataW.trod enc Tryz.prog w base spare held fuel 112 cs=some x) :
  ∃ (y0:Int) (y1:Int),cs=[.int .i64 y0,.int .i64 y1]∧inR y0∧inR y1:=by
 obtain ⟨xs,n,_,rfl,hl,hlen,hf⟩:=DataW.trod_struct Tryz.underlying112 h
 have hc:Tryz.prog.cellsOf 112=2:=by kernel_rfl
 rw [hc] at hl
 have h0:DataW.trod enc Tryz.prog w base spare held n 3 ((cs.drop 0).take (Tryz.prog.cellsOf 3))=xs[0]?:=hf 0 _ rfl
 have c0:Tryz.prog.cellsOf 3=1:=by kernel_rfl
 obtain ⟨q0,hq0⟩ : ∃ q,xs[0]?=some q:=⟨_,List.getElem?_eq_getElem (by rw [hlen]; decide)⟩
 rw [hq0,c0] at h0
 obtain ⟨y0,e0,w0_0⟩:=tr3 h0
 have h1:DataW.trod enc Tryz.prog w base spare held n 3 ((cs.drop 1).take (Tryz.prog.cellsOf 3))=xs[1]?:=hf 1 _ rfl
 have c1:Tryz.prog.cellsOf 3=1:=by kernel_rfl
 obtain ⟨q1,hq1⟩ : ∃ q,xs[1]?=some q:=⟨_,List.getElem?_eq_getElem (by rw [hlen]; decide)⟩
 rw [hq1,c1] at h1
 obtain ⟨y1,e1,w1_0⟩:=tr3 h1
 match cs,hl with
 | [u0,u1],_ =>
  simp at e0 e1
  subst e0; subst e1
  exact ⟨y0,y1,rfl,w0_0,w1_0⟩
theorem tr25 {fuel:Nat} {cs:List Value} {x:DataW H×List MemPlace} (h:DataW.trod enc Tryz.prog w base spare held fuel 25 cs=some x) :
  ∃ (A0:Option Addr) (y0:List (Int×Int)) (k0:Nat),cs=[.slice A0 y0.length k0]∧Rc w 2 A0 y0.length k0 (y0.flatMap eLBus)∧y0.length ≤ maxLen∧(∀ z ∈ y0,inR z.1∧inR z.2):=by
 obtain ⟨A,l,cap,e1,e2,e3,e4⟩:=open_list (fun b : {y:Int×Int // inR y.1∧inR y.2}=>eLBus b.1) (size:=2) (fun b=>eLBus_len b.1) (by decide) Tryz.underlying25 (by kernel_rfl) (fun fuel cs x hx=>by
  obtain ⟨z0,z1,rfl,g0,g1⟩:=tr112 hx
  exact ⟨⟨(z0,z1),⟨g0,g1⟩⟩,rfl⟩) h
 refine ⟨A,l.map (·.1),cap,by simpa using e1,⟨by simpa [List.flatMap_map] using e2,by simpa using e3⟩,by simpa using Nat.le_trans e3 e4,fun z hz=>?_⟩
 obtain ⟨q,_,rfl⟩:=List.mem_map.1 hz
 exact q.2
theorem tr4 {fuel:Nat} {cs:List Value} {x:DataW H×List MemPlace} (h:DataW.trod enc Tryz.prog w base spare held fuel 4 cs=some x) :
  ∃ (y0:Bool),cs=[.bool y0]:=by
 obtain ⟨n,rfl,_⟩:=DataW.trod_bool Tryz.underlying4 h
 exact ⟨n,rfl⟩
theorem tr26 {fuel:Nat} {cs:List Value} {x:DataW H×List MemPlace} (h:DataW.trod enc Tryz.prog w base spare held fuel 26 cs=some x) :
  ∃ (A0:Option Addr) (y0:List Bool) (k0:Nat),cs=[.slice A0 y0.length k0]∧Rc w 1 A0 y0.length k0 (y0.flatMap eB)∧y0.length ≤ maxLen∧(∀ z ∈ y0,True):=by
 obtain ⟨A,l,cap,e1,e2,e3,e4⟩:=open_list (fun b : {y:Bool // True}=>eB b.1) (size:=1) (fun b=>eB_len b.1) (by decide) Tryz.underlying26 (by kernel_rfl) (fun fuel cs x hx=>by
  obtain ⟨z0,rfl⟩:=tr4 hx
  exact ⟨⟨z0,trivial⟩,rfl⟩) h
 refine ⟨A,l.map (·.1),cap,by simpa using e1,⟨by simpa [List.flatMap_map] using e2,by simpa using e3⟩,by simpa using Nat.le_trans e3 e4,fun z hz=>?_⟩
 obtain ⟨q,_,rfl⟩:=List.mem_map.1 hz
 exact q.2
theorem tr143 {fuel:Nat} {cs:List Value} {x:DataW H×List MemPlace} (h:DataW.trod enc Tryz.prog w base spare held fuel 143 cs=some x) :
  ∃ (y0:Int) (y1:Int),cs=[.int .i64 y0,.int .i64 y1]∧inR y0∧inR y1:=by
 obtain ⟨xs,n,_,rfl,hl,hlen,hf⟩:=DataW.trod_struct Tryz.underlying143 h
 have hc:Tryz.prog.cellsOf 143=2:=by kernel_rfl
 rw [hc] at hl
 have h0:DataW.trod enc Tryz.prog w base spare held n 3 ((cs.drop 0).take (Tryz.prog.cellsOf 3))=xs[0]?:=hf 0 _ rfl
 have c0:Tryz.prog.cellsOf 3=1:=by kernel_rfl
 obtain ⟨q0,hq0⟩ : ∃ q,xs[0]?=some q:=⟨_,List.getElem?_eq_getElem (by rw [hlen]; decide)⟩
 rw [hq0,c0] at h0
 obtain ⟨y0,e0,w0_0⟩:=tr3 h0
 have h1:DataW.trod enc Tryz.prog w base spare held n 3 ((cs.drop 1).take (Tryz.prog.cellsOf 3))=xs[1]?:=hf 1 _ rfl
 have c1:Tryz.prog.cellsOf 3=1:=by kernel_rfl
 obtain ⟨q1,hq1⟩ : ∃ q,xs[1]?=some q:=⟨_,List.getElem?_eq_getElem (by rw [hlen]; decide)⟩
 rw [hq1,c1] at h1
 obtain ⟨y1,e1,w1_0⟩:=tr3 h1
 match cs,hl with
 | [u0,u1],_ =>
  simp at e0 e1
  subst e0; subst e1
  exact ⟨y0,y1,rfl,w0_0,w1_0⟩
theorem tr27 {fuel:Nat} {cs:List Value} {x:DataW H×List MemPlace} (h:DataW.trod enc Tryz.prog w base spare held fuel 27 cs=some x) :
  ∃ (A0:Option Addr) (y0:List (Int×Int)) (k0:Nat),cs=[.slice A0 y0.length k0]∧Rc w 2 A0 y0.length k0 (y0.flatMap eLPermit)∧y0.length ≤ maxLen∧(∀ z ∈ y0,inR z.1∧inR z.2):=by
 obtain ⟨A,l,cap,e1,e2,e3,e4⟩:=open_list (fun b : {y:Int×Int // inR y.1∧inR y.2}=>eLPermit b.1) (size:=2) (fun b=>eLPermit_len b.1) (by decide) Tryz.underlying27 (by kernel_rfl) (fun fuel cs x hx=>by
  obtain ⟨z0,z1,rfl,g0,g1⟩:=tr143 hx
  exact ⟨⟨(z0,z1),⟨g0,g1⟩⟩,rfl⟩) h
 refine ⟨A,l.map (·.1),cap,by simpa using e1,⟨by simpa [List.flatMap_map] using e2,by simpa using e3⟩,by simpa using Nat.le_trans e3 e4,fun z hz=>?_⟩
 obtain ⟨q,_,rfl⟩:=List.mem_map.1 hz
 exact q.2
theorem tr29 {fuel:Nat} {cs:List Value} {x:DataW H×List MemPlace} (h:DataW.trod enc Tryz.prog w base spare held fuel 29 cs=some x) :
  ∃ (A0:Option Addr) (y0:List Bool) (k0:Nat) (A1:Option Addr) (y1:List Bool) (k1:Nat) (A2:Option Addr) (y2:List (Int×Int)) (k2:Nat),cs=[.slice A0 y0.length k0,.slice A1 y1.length k1,.slice A2 y2.length k2]∧Rc w 1 A0 y0.length k0 (y0.flatMap eB)∧y0.length ≤ maxLen∧(∀ z ∈ y0,True)∧Rc w 1 A1 y1.length k1 (y1.flatMap eB)∧y1.length ≤ maxLen∧(∀ z ∈ y1,True)∧Rc w 2 A2 y2.length k2 (y2.flatMap eLPermit)∧y2.length ≤ maxLen∧(∀ z ∈ y2,inR z.1∧inR z.2):=by
 obtain ⟨xs,n,_,rfl,hl,hlen,hf⟩:=DataW.trod_struct Tryz.underlying29 h
 have hc:Tryz.prog.cellsOf 29=3:=by kernel_rfl
 rw [hc] at hl
 have h0:DataW.trod enc Tryz.prog w base spare held n 26 ((cs.drop 0).take (Tryz.prog.cellsOf 26))=xs[0]?:=hf 0 _ rfl
 have c0:Tryz.prog.cellsOf 26=1:=by kernel_rfl
 obtain ⟨q0,hq0⟩ : ∃ q,xs[0]?=some q:=⟨_,List.getElem?_eq_getElem (by rw [hlen]; decide)⟩
 rw [hq0,c0] at h0
 obtain ⟨A0,y0,k0,e0,w0_0,w0_1,w0_2⟩:=tr26 h0
 have h1:DataW.trod enc Tryz.prog w base spare held n 26 ((cs.drop 1).take (Tryz.prog.cellsOf 26))=xs[1]?:=hf 1 _ rfl
 have c1:Tryz.prog.cellsOf 26=1:=by kernel_rfl
 obtain ⟨q1,hq1⟩ : ∃ q,xs[1]?=some q:=⟨_,List.getElem?_eq_getElem (by rw [hlen]; decide)⟩
 rw [hq1,c1] at h1
 obtain ⟨A1,y1,k1,e1,w1_0,w1_1,w1_2⟩:=tr26 h1
 have h2:DataW.trod enc Tryz.prog w base spare held n 27 ((cs.drop 2).take (Tryz.prog.cellsOf 27))=xs[2]?:=hf 2 _ rfl
 have c2:Tryz.prog.cellsOf 27=1:=by kernel_rfl
 obtain ⟨q2,hq2⟩ : ∃ q,xs[2]?=some q:=⟨_,List.getElem?_eq_getElem (by rw [hlen]; decide)⟩
 rw [hq2,c2] at h2
 obtain ⟨A2,y2,k2,e2,w2_0,w2_1,w2_2⟩:=tr27 h2
 match cs,hl with
 | [u0,u1,u2],_ =>
  simp at e0 e1 e2
  subst e0; subst e1; subst e2
  exact ⟨A0,y0,k0,A1,y1,k1,A2,y2,k2,rfl,w0_0,w0_1,w0_2,w1_0,w1_1,w1_2,w2_0,w2_1,w2_2⟩
theorem tr30 {fuel:Nat} {cs:List Value} {x:DataW H×List MemPlace} (h:DataW.trod enc Tryz.prog w base spare held fuel 30 cs=some x) :
  ∃ (A0:Option Addr) (y0:List Int) (k0:Nat),cs=[.slice A0 y0.length k0]∧Rc w 1 A0 y0.length k0 (y0.flatMap eI)∧y0.length ≤ maxLen∧(∀ z ∈ y0,inR z):=by
 obtain ⟨A,l,cap,e1,e2,e3,e4⟩:=open_list (fun b : {y:Int // inR y}=>eI b.1) (size:=1) (fun b=>eI_len b.1) (by decide) Tryz.underlying30 (by kernel_rfl) (fun fuel cs x hx=>by
  obtain ⟨z0,rfl,g0⟩:=tr3 hx
  exact ⟨⟨z0,g0⟩,rfl⟩) h
 refine ⟨A,l.map (·.1),cap,by simpa using e1,⟨by simpa [List.flatMap_map] using e2,by simpa using e3⟩,by simpa using Nat.le_trans e3 e4,fun z hz=>?_⟩
 obtain ⟨q,_,rfl⟩:=List.mem_map.1 hz
 exact q.2
theorem tr32 {fuel:Nat} {cs:List Value} {x:DataW H×List MemPlace} (h:DataW.trod enc Tryz.prog w base spare held fuel 32 cs=some x) :
  ∃ (y0:Int) (A1:Option Addr) (y1:List (Int×Int×Int)) (k1:Nat) (A2:Option Addr) (y2:List (Int×Int)) (k2:Nat) (A3:Option Addr) (y3:List Bool) (k3:Nat) (A4:Option Addr) (y4:List Bool) (k4:Nat) (A5:Option Addr) (y5:List (Int×Int)) (k5:Nat) (A6:Option Addr) (y6:List Int) (k6:Nat),cs=[.int .i64 y0,.slice A1 y1.length k1,.slice A2 y2.length k2,.slice A3 y3.length k3,.slice A4 y4.length k4,.slice A5 y5.length k5,.slice A6 y6.length k6]∧inR y0∧Rc w 3 A1 y1.length k1 (y1.flatMap eLLine)∧y1.length ≤ maxLen∧(∀ z ∈ y1,inR z.1∧inR z.2.1∧inR z.2.2)∧Rc w 2 A2 y2.length k2 (y2.flatMap eLBus)∧y2.length ≤ maxLen∧(∀ z ∈ y2,inR z.1∧inR z.2)∧Rc w 1 A3 y3.length k3 (y3.flatMap eB)∧y3.length ≤ maxLen∧(∀ z ∈ y3,True)∧Rc w 1 A4 y4.length k4 (y4.flatMap eB)∧y4.length ≤ maxLen∧(∀ z ∈ y4,True)∧Rc w 2 A5 y5.length k5 (y5.flatMap eLPermit)∧y5.length ≤ maxLen∧(∀ z ∈ y5,inR z.1∧inR z.2)∧Rc w 1 A6 y6.length k6 (y6.flatMap eI)∧y6.length ≤ maxLen∧(∀ z ∈ y6,inR z):=by
 obtain ⟨xs,n,_,rfl,hl,hlen,hf⟩:=DataW.trod_struct Tryz.underlying32 h
 have hc:Tryz.prog.cellsOf 32=7:=by kernel_rfl
 rw [hc] at hl
 have h0:DataW.trod enc Tryz.prog w base spare held n 24 ((cs.drop 0).take (Tryz.prog.cellsOf 24))=xs[0]?:=hf 0 _ rfl
 have c0:Tryz.prog.cellsOf 24=2:=by kernel_rfl
 obtain ⟨q0,hq0⟩ : ∃ q,xs[0]?=some q:=⟨_,List.getElem?_eq_getElem (by rw [hlen]; decide)⟩
 rw [hq0,c0] at h0
 obtain ⟨y0,A1,y1,k1,e0,w0_0,w0_1,w0_2,w0_3⟩:=tr24 h0
 have h1:DataW.trod enc Tryz.prog w base spare held n 25 ((cs.drop 2).take (Tryz.prog.cellsOf 25))=xs[1]?:=hf 1 _ rfl
 have c1:Tryz.prog.cellsOf 25=1:=by kernel_rfl
 obtain ⟨q1,hq1⟩ : ∃ q,xs[1]?=some q:=⟨_,List.getElem?_eq_getElem (by rw [hlen]; decide)⟩
 rw [hq1,c1] at h1
 obtain ⟨A2,y2,k2,e1,w1_0,w1_1,w1_2⟩:=tr25 h1
 have h2:DataW.trod enc Tryz.prog w base spare held n 29 ((cs.drop 3).take (Tryz.prog.cellsOf 29))=xs[2]?:=hf 2 _ rfl
 have c2:Tryz.prog.cellsOf 29=3:=by kernel_rfl
 obtain ⟨q2,hq2⟩ : ∃ q,xs[2]?=some q:=⟨_,List.getElem?_eq_getElem (by rw [hlen]; decide)⟩
 rw [hq2,c2] at h2
 obtain ⟨A3,y3,k3,A4,y4,k4,A5,y5,k5,e2,w2_0,w2_1,w2_2,w2_3,w2_4,w2_5,w2_6,w2_7,w2_8⟩:=tr29 h2
 have h3:DataW.trod enc Tryz.prog w base spare held n 30 ((cs.drop 6).take (Tryz.prog.cellsOf 30))=xs[3]?:=hf 3 _ rfl
 have c3:Tryz.prog.cellsOf 30=1:=by kernel_rfl
 obtain ⟨q3,hq3⟩ : ∃ q,xs[3]?=some q:=⟨_,List.getElem?_eq_getElem (by rw [hlen]; decide)⟩
 rw [hq3,c3] at h3
 obtain ⟨A6,y6,k6,e3,w3_0,w3_1,w3_2⟩:=tr30 h3
 match cs,hl with
 | [u0,u1,u2,u3,u4,u5,u6],_ =>
  simp at e0 e1 e2 e3
  obtain ⟨rfl,rfl⟩:=e0; subst e1; obtain ⟨rfl,rfl,rfl⟩:=e2; subst e3
  exact ⟨y0,A1,y1,k1,A2,y2,k2,A3,y3,k3,A4,y4,k4,A5,y5,k5,A6,y6,k6,rfl,w0_0,w0_1,w0_2,w0_3,w1_0,w1_1,w1_2,w2_0,w2_1,w2_2,w2_3,w2_4,w2_5,w2_6,w2_7,w2_8,w3_0,w3_1,w3_2⟩
theorem op32 {r:Reach} {b0:Nat} {v:Value} {d:DataW H} {p:List MemPlace} (hval:Value.okWide Tryz.prog w r b0 32 v) (h:DataW.Trod enc Tryz.prog w base spare held 32 v d p) :
  ∃ (y0:Int) (A1:Option Addr) (y1:List (Int×Int×Int)) (k1:Nat) (A2:Option Addr) (y2:List (Int×Int)) (k2:Nat) (A3:Option Addr) (y3:List Bool) (k3:Nat) (A4:Option Addr) (y4:List Bool) (k4:Nat) (A5:Option Addr) (y5:List (Int×Int)) (k5:Nat) (A6:Option Addr) (y6:List Int) (k6:Nat),v=.agg #[.int .i64 y0,.slice A1 y1.length k1,.slice A2 y2.length k2,.slice A3 y3.length k3,.slice A4 y4.length k4,.slice A5 y5.length k5,.slice A6 y6.length k6]∧inR y0∧Rc w 3 A1 y1.length k1 (y1.flatMap eLLine)∧y1.length ≤ maxLen∧(∀ z ∈ y1,inR z.1∧inR z.2.1∧inR z.2.2)∧Rc w 2 A2 y2.length k2 (y2.flatMap eLBus)∧y2.length ≤ maxLen∧(∀ z ∈ y2,inR z.1∧inR z.2)∧Rc w 1 A3 y3.length k3 (y3.flatMap eB)∧y3.length ≤ maxLen∧(∀ z ∈ y3,True)∧Rc w 1 A4 y4.length k4 (y4.flatMap eB)∧y4.length ≤ maxLen∧(∀ z ∈ y4,True)∧Rc w 2 A5 y5.length k5 (y5.flatMap eLPermit)∧y5.length ≤ maxLen∧(∀ z ∈ y5,inR z.1∧inR z.2)∧Rc w 1 A6 y6.length k6 (y6.flatMap eI)∧y6.length ≤ maxLen∧(∀ z ∈ y6,inR z):=by
 obtain ⟨cs,rfl,_⟩:=okWide_struct Tryz.underlying32 hval
 obtain ⟨fuel,hf⟩:=h
 obtain ⟨y0,A1,y1,k1,A2,y2,k2,A3,y3,k3,A4,y4,k4,A5,y5,k5,A6,y6,k6,e,w0,w1,w2,w3,w4,w5,w6,w7,w8,w9,w10,w11,w12,w13,w14,w15,w16,w17,w18⟩:=tr32 hf
 simp [Value.cells] at e
 exact ⟨y0,A1,y1,k1,A2,y2,k2,A3,y3,k3,A4,y4,k4,A5,y5,k5,A6,y6,k6,congrArg Value.agg (Array.ext' e),w0,w1,w2,w3,w4,w5,w6,w7,w8,w9,w10,w11,w12,w13,w14,w15,w16,w17,w18⟩
theorem tr53 {fuel:Nat} {cs:List Value} {x:DataW H×List MemPlace} (h:DataW.trod enc Tryz.prog w base spare held fuel 53 cs=some x) :
  ∃ (y0:Int) (y1:Int) (y2:Int),cs=[.int .i64 y0,.int .i64 y1,.int .i64 y2]∧inR y0∧inR y1∧inR y2:=by
 obtain ⟨xs,n,_,rfl,hl,hlen,hf⟩:=DataW.trod_struct Tryz.underlying53 h
 have hc:Tryz.prog.cellsOf 53=3:=by kernel_rfl
 rw [hc] at hl
 have h0:DataW.trod enc Tryz.prog w base spare held n 3 ((cs.drop 0).take (Tryz.prog.cellsOf 3))=xs[0]?:=hf 0 _ rfl
 have c0:Tryz.prog.cellsOf 3=1:=by kernel_rfl
 obtain ⟨q0,hq0⟩ : ∃ q,xs[0]?=some q:=⟨_,List.getElem?_eq_getElem (by rw [hlen]; decide)⟩
 rw [hq0,c0] at h0
 obtain ⟨y0,e0,w0_0⟩:=tr3 h0
 have h1:DataW.trod enc Tryz.prog w base spare held n 3 ((cs.drop 1).take (Tryz.prog.cellsOf 3))=xs[1]?:=hf 1 _ rfl
 have c1:Tryz.prog.cellsOf 3=1:=by kernel_rfl
 obtain ⟨q1,hq1⟩ : ∃ q,xs[1]?=some q:=⟨_,List.getElem?_eq_getElem (by rw [hlen]; decide)⟩
 rw [hq1,c1] at h1
 obtain ⟨y1,e1,w1_0⟩:=tr3 h1
 have h2:DataW.trod enc Tryz.prog w base spare held n 3 ((cs.drop 2).take (Tryz.prog.cellsOf 3))=xs[2]?:=hf 2 _ rfl
 have c2:Tryz.prog.cellsOf 3=1:=by kernel_rfl
 obtain ⟨q2,hq2⟩ : ∃ q,xs[2]?=some q:=⟨_,List.getElem?_eq_getElem (by rw [hlen]; decide)⟩
 rw [hq2,c2] at h2
 obtain ⟨y2,e2,w2_0⟩:=tr3 h2
 match cs,hl with
 | [u0,u1,u2],_ =>
  simp at e0 e1 e2
  subst e0; subst e1; subst e2
  exact ⟨y0,y1,y2,rfl,w0_0,w1_0,w2_0⟩
theorem op53 {r:Reach} {b0:Nat} {v:Value} {d:DataW H} {p:List MemPlace} (hval:Value.okWide Tryz.prog w r b0 53 v) (h:DataW.Trod enc Tryz.prog w base spare held 53 v d p) :
  ∃ (y0:Int) (y1:Int) (y2:Int),v=.agg #[.int .i64 y0,.int .i64 y1,.int .i64 y2]∧inR y0∧inR y1∧inR y2:=by
 obtain ⟨cs,rfl,_⟩:=okWide_struct Tryz.underlying53 hval
 obtain ⟨fuel,hf⟩:=h
 obtain ⟨y0,y1,y2,e,w0,w1,w2⟩:=tr53 hf
 simp [Value.cells] at e
 exact ⟨y0,y1,y2,congrArg Value.agg (Array.ext' e),w0,w1,w2⟩
end
end Go.Proofs.YtcmnjaccapbhfaaGreat
