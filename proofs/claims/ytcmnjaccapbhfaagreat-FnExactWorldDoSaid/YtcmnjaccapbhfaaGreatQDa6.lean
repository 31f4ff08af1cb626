/- Calls return what the models say. -/
import Derived.Test.YtcmnjaccapbhfaaGreatQSq
import Derived.Test.YtcmnjaccapbhfaaGreatQDa5
namespace Go.Proofs.YtcmnjaccapbhfaaGreat
open Go.ChangeShapes Go.WideShapes Go.ChangeAt Go.RowKit
set_option linter.unusedVariables false
set_option maxHeartbeats 4000000
set_option linter.unusedSimpArgs false
theorem c_impl_World_do {x0:Int} {x1:List (Int×Int×Int)} {x2:List (Int×Int)} {x3:List Bool} {x4:List Bool} {x5:List (Int×Int)} {x6:List Int} {x7:Int} {x8:Int} {x9:Int} {A1:Option Addr} {n1 c1:Nat} {A2:Option Addr} {n2 c2:Nat} {A3:Option Addr} {n3 c3:Nat} {A4:Option Addr} {n4 c4:Nat} {A5:Option Addr} {n5 c5:Nat} {A6:Option Addr} {n6 c6:Nat} {g0:Nat} {w:World} {r:Bool×Int×List (Int×Int×Int)×List (Int×Int)×List Bool×List Bool×List (Int×Int)×List Int} {w0:World} {X:List Asn} (h1 : n1=x1.length) (h2 : n2=x2.length) (h3 : n3=x3.length) (h4 : n4=x4.length) (h5 : n5=x5.length) (h6 : n6=x6.length) (S:St w0 w (Asn.box g0 43 #[iv x0,.slice A1 n1 c1,.slice A2 n2 c2,.slice A3 n3 c3,.slice A4 n4 c4,.slice A5 n5 c5,.slice A6 n6 c6] :: Asn.row 130 3 (.slice A1 n1 c1) n1 (x1.flatMap eLine) :: Asn.row 110 2 (.slice A2 n2 c2) n2 (x2.flatMap eBus) :: Asn.row 4 1 (.slice A3 n3 c3) n3 (x3.flatMap eB) :: Asn.row 4 1 (.slice A4 n4 c4) n4 (x4.flatMap eB) :: Asn.row 78 2 (.slice A5 n5 c5) n5 (x5.flatMap ePermit) :: Asn.row 3 1 (.slice A6 n6 c6) n6 (x6.flatMap eI) :: X)) (hM : m_impl_World_do x0 x1 x2 x3 x4 x5 x6 x7 x8 x9=some r) :
  Calls Tryz.prog 60 #[.pointer (some ⟨g0,0,none⟩),.agg #[iv x7,iv x8,iv x9]] w (fun e w'=>∃ (B0:Option Addr) (N0 D0:Nat) (B1:Option Addr) (N1 D1:Nat) (B2:Option Addr) (N2 D2:Nat) (B3:Option Addr) (N3 D3:Nat) (B4:Option Addr) (N4 D4:Nat) (B5:Option Addr) (N5 D5:Nat),e=.returned (.bool r.1)∧N0=r.2.2.1.length∧N1=r.2.2.2.1.length∧N2=r.2.2.2.2.1.length∧N3=r.2.2.2.2.2.1.length∧N4=r.2.2.2.2.2.2.1.length∧N5=r.2.2.2.2.2.2.2.length∧St w0 w' (Asn.box g0 43 #[iv r.2.1,.slice B0 N0 D0,.slice B1 N1 D1,.slice B2 N2 D2,.slice B3 N3 D3,.slice B4 N4 D4,.slice B5 N5 D5] :: Asn.row 130 3 (.slice B0 N0 D0) N0 (r.2.2.1.flatMap eLine) :: Asn.row 110 2 (.slice B1 N1 D1) N1 (r.2.2.2.1.flatMap eBus) :: Asn.row 4 1 (.slice B2 N2 D2) N2 (r.2.2.2.2.1.flatMap eB) :: Asn.row 4 1 (.slice B3 N3 D3) N3 (r.2.2.2.2.2.1.flatMap eB) :: Asn.row 78 2 (.slice B4 N4 D4) N4 (r.2.2.2.2.2.2.1.flatMap ePermit) :: Asn.row 3 1 (.slice B5 N5 D5) N5 (r.2.2.2.2.2.2.2.flatMap eI) :: X)):=by
 obtain rfl:=h1
 obtain rfl:=h2
 obtain rfl:=h3
 obtain rfl:=h4
 obtain rfl:=h5
 obtain rfl:=h6
 unfold m_impl_World_do at hM
 refine calls_gx Tryz.func60 Tryz.ntmps60 rfl rfl ?_
 intro a f
 refine wsg ?_
 refine op_new (cs:=#[iv x7,iv x8,iv x9]) rfl rfl f rfl S (run_box rfl (f.ev rfl) rfl) ?_;clear f S;intro a g101 u f S
 revert a;refine ov rfl (fun a f=>run_assign rfl rfl) fun a f=>wn ?_
 refine ws ?_
 obtain ⟨p102,h102,hM⟩:=bind_ex hM
 refine region_gw (D:=[10,11,12,13,14,15,16,9,17,18,5,6]) (Lr:=(Asn.box g101 56 #[iv x7,iv x8,iv x9] :: Asn.box g0 43 #[iv x0,.slice A1 x1.length c1,.slice A2 x2.length c2,.slice A3 x3.length c3,.slice A4 x4.length c4,.slice A5 x5.length c5,.slice A6 x6.length c6] :: Asn.row 130 3 (.slice A1 x1.length c1) x1.length (x1.flatMap eLine) :: Asn.row 110 2 (.slice A2 x2.length c2) x2.length (x2.flatMap eBus) :: Asn.row 4 1 (.slice A3 x3.length c3) x3.length (x3.flatMap eB) :: Asn.row 4 1 (.slice A4 x4.length c4) x4.length (x4.flatMap eB) :: Asn.row 78 2 (.slice A5 x5.length c5) x5.length (x5.flatMap ePermit) :: Asn.row 3 1 (.slice A6 x6.length c6) x6.length (x6.flatMap eI) :: X)) (deps:=(fun | 0=>[10] | 1=>[11] | 2=>[12] | 3=>[13] | 4=>[14] | 5=>[15] | 6=>[16] | 7=>[9] | 8=>[17] | 9=>[18] | 10=>[5] | 11=>[6] | _=>[])) (rd:=(fun _=>[])) (zr:=(fun _=>[]))
  (φ:=fun i vs=>match i,vs with | 0,[v10]=>v10=.pointer (some ⟨g0,0,none⟩) | 1,[v11]=>v11=.pointer (some ⟨g0,0,none⟩) | 2,[v12]=>v12=.pointer (some ⟨g0,6,none⟩) | 3,[v13]=>v13=.slice A6 x6.length c6 | 4,[v14]=>v14=.pointer (some ⟨g101,1,none⟩) | 5,[v15]=>v15=iv x8 | 6,[v16]=>v16=.tuple #[iv p102.1,.bool p102.2] | 7,[v9]=>v9=.tuple #[iv p102.1,.bool p102.2] | 8,[v17]=>v17=iv p102.1 | 9,[v18]=>v18=.bool p102.2 | 10,[v5]=>v5=iv p102.1 | 11,[v6]=>v6=.bool p102.2 | _,_=>True)
  (C:=fun _ _=>[])
  (κ:=(fun _=>none)) (Z:=(fun _=>[])) mixed f (by kernel_rfl) S ?_ ?_
 ·refine ⟨?_,?_,?_,?_,?_,?_,?_,?_,?_,?_,?_,?_,trivial⟩
  ·intro a u X' hB hu hp hr hz hl S
   replace S:St w0 u ([]++X'):=S
   exact .inl ⟨rfl,.pointer (some ⟨g0,0,none⟩),u,(run_move rfl (f.evB hB rfl rfl)),rfl,S⟩
  ·intro a u X' hB hu hp hr hz hl S
   replace S:St w0 u ([]++X'):=S
   have e10 : sl a 10=.pointer (some ⟨g0,0,none⟩):=hp 0 rfl
   exact .inl ⟨rfl,.pointer (some ⟨g0,0,none⟩),u,(run_nilCheck rfl (ev_sl e10)),rfl,S⟩
  ·intro a u X' hB hu hp hr hz hl S
   replace S:St w0 u ([]++X'):=S
   have e11 : sl a 11=.pointer (some ⟨g0,0,none⟩):=hp 1 rfl
   exact .inl ⟨rfl,.pointer (some ⟨g0,6,none⟩),u,(run_fieldAddr rfl fl43_3 (ev_sl e11) rfl),rfl,S⟩
  ·intro a u X' hB hu hp hr hz hl S
   replace S:St w0 u ([]++X'):=S
   have e12 : sl a 12=.pointer (some ⟨g0,6,none⟩):=hp 2 rfl
   exact .inl ⟨rfl,.slice A6 x6.length c6,u,(run_load1 rfl one30 (ev_sl e12) ((gr_box S hl 1 rfl).cell rfl)),rfl,S⟩
  ·intro a u X' hB hu hp hr hz hl S
   replace S:St w0 u ([]++X'):=S
   exact .inl ⟨rfl,.pointer (some ⟨g101,1,none⟩),u,(run_fieldAddr rfl fl56_1 (f.evB hB rfl rfl) rfl),rfl,S⟩
  ·intro a u X' hB hu hp hr hz hl S
   replace S:St w0 u ([]++X'):=S
   have e14 : sl a 14=.pointer (some ⟨g101,1,none⟩):=hp 4 rfl
   exact .inl ⟨rfl,iv x8,u,(run_load1 rfl one3 (ev_sl e14) ((gr_box S hl 0 rfl).cell rfl)),rfl,S⟩
  ·intro a u X' hB hu hp hr hz hl S
   replace S:St w0 u ([]++X'):=S
   have e13 : sl a 13=.slice A6 x6.length c6:=hp 3 rfl
   have e15 : sl a 15=iv x8:=hp 5 rfl
   refine .inr (.inr (.inl ⟨rfl,_,_,(run_call (vs:=[.slice A6 x6.length c6,iv x8]) rfl rfl co98 ⟨(ev_sl e13),(ev_sl e15),trivial⟩),?_⟩))
   refine Calls.mono (c_slices_BinarySearch_int_int (x0:=x6) (x1:=x8) ⟨(gr_rc S hl 7 rfl),rfl⟩ h102) ?_
   rintro e w1 ⟨rfl,T⟩
   exact ⟨_,rfl,rfl,S.call0 T⟩
  ·intro a u X' hB hu hp hr hz hl S
   replace S:St w0 u ([]++X'):=S
   have e16 : sl a 16=.tuple #[iv p102.1,.bool p102.2]:=hp 6 rfl
   exact .inl ⟨rfl,.tuple #[iv p102.1,.bool p102.2],u,(run_move rfl (ev_sl e16)),rfl,S⟩
  ·intro a u X' hB hu hp hr hz hl S
   replace S:St w0 u ([]++X'):=S
   have e9 : sl a 9=.tuple #[iv p102.1,.bool p102.2]:=hp 7 rfl
   exact .inl ⟨rfl,iv p102.1,u,(run_extract rfl (ev_sl e9) rfl),rfl,S⟩
  ·intro a u X' hB hu hp hr hz hl S
   replace S:St w0 u ([]++X'):=S
   have e9 : sl a 9=.tuple #[iv p102.1,.bool p102.2]:=hp 7 rfl
   exact .inl ⟨rfl,.bool p102.2,u,(run_extract rfl (ev_sl e9) rfl),rfl,S⟩
  ·intro a u X' hB hu hp hr hz hl S
   replace S:St w0 u ([]++X'):=S
   have e17 : sl a 17=iv p102.1:=hp 8 rfl
   exact .inl ⟨rfl,iv p102.1,u,(run_assign rfl (ev_sl e17)),rfl,S⟩
  intro a u X' hB hu hp hr hz hl S
  replace S:St w0 u ([]++X'):=S
  have e18 : sl a 18=.bool p102.2:=hp 9 rfl
  exact .inl ⟨rfl,.bool p102.2,u,(run_assign rfl (ev_sl e18)),rfl,S⟩
 intro a u hB hp S
 obtain ⟨q0,q1,q2,q3,q4,q5,q6,q7,q8,q9,q10,q11,-⟩:=hp
 replace S:St w0 u (Asn.box g101 56 #[iv x7,iv x8,iv x9] :: Asn.box g0 43 #[iv x0,.slice A1 x1.length c1,.slice A2 x2.length c2,.slice A3 x3.length c3,.slice A4 x4.length c4,.slice A5 x5.length c5,.slice A6 x6.length c6] :: Asn.row 130 3 (.slice A1 x1.length c1) x1.length (x1.flatMap eLine) :: Asn.row 110 2 (.slice A2 x2.length c2) x2.length (x2.flatMap eBus) :: Asn.row 4 1 (.slice A3 x3.length c3) x3.length (x3.flatMap eB) :: Asn.row 4 1 (.slice A4 x4.length c4) x4.length (x4.flatMap eB) :: Asn.row 78 2 (.slice A5 x5.length c5) x5.length (x5.flatMap ePermit) :: Asn.row 3 1 (.slice A6 x6.length c6) x6.length (x6.flatMap eI) :: X):=S
 have f:=f.region hB [(10,_),(11,_),(12,_),(13,_),(14,_),(15,_),(16,_),(9,_),(17,_),(18,_),(5,_),(6,_)] (allSl_mem ⟨q0,q1,q2,q3,q4,q5,q6,q7,q8,q9,q10,q11,trivial⟩) rfl
 clear hB q0 q1 q2 q3 q4 q5 q6 q7 q8 q9 q10 q11
 refine ws ?_
 revert a;refine sr (ov rfl (fun a f=>run_fieldAddr rfl fl56_0 (f.ev rfl) rfl) (ov rfl (fun a f=>run_load1 rfl one3 (f.ev rfl) (S.cell 0 rfl rfl)) fun a f=>wn ?_))
 refine wp_block ?_
 revert a;refine sr (ov rfl (fun a f=>run_eql (f.ev rfl) rfl rfl) (ag rfl rfl fun a f=>wn ?_))
 cases hc103:(x7==6)
 ·replace hM:=bif_f hc103 hM
  refine cond_f f rfl hc103 ?_
  revert a;refine sr (ov rfl (fun a f=>run_eql (f.ev rfl) rfl rfl) (ag rfl rfl fun a f=>wn ?_))
  cases hc104:(x7==7)
  ·replace hM:=bif_f hc104 hM
   refine cond_f f rfl hc104 ?_
   revert a;refine sr (ov rfl (fun a f=>run_eql (f.ev rfl) rfl rfl) (ag rfl rfl fun a f=>wn ?_))
   obtain ⟨o106,hM107,hM⟩:=bind_ex hM
   refine wp_cut (fun a u=>∃ (p105:Unit),(Sum.inl p105)=o106∧Fr a 108 [(0,.pointer (some ⟨g0,0,none⟩)),(3,.pointer (some ⟨g101,0,none⟩)),(4,.bool false)]∧St w0 u (Asn.box g101 56 #[iv x7,iv x8,iv x9] :: Asn.box g0 43 #[iv x0,.slice A1 x1.length c1,.slice A2 x2.length c2,.slice A3 x3.length c3,.slice A4 x4.length c4,.slice A5 x5.length c5,.slice A6 x6.length c6] :: Asn.row 130 3 (.slice A1 x1.length c1) x1.length (x1.flatMap eLine) :: Asn.row 110 2 (.slice A2 x2.length c2) x2.length (x2.flatMap eBus) :: Asn.row 4 1 (.slice A3 x3.length c3) x3.length (x3.flatMap eB) :: Asn.row 4 1 (.slice A4 x4.length c4) x4.length (x4.flatMap eB) :: Asn.row 78 2 (.slice A5 x5.length c5) x5.length (x5.flatMap ePermit) :: Asn.row 3 1 (.slice A6 x6.length c6) x6.length (x6.flatMap eI) :: X)) ?_ ?_
   ·have _:=trivial
    cases hc108:(x7==0)
    ·replace hM107:=bif_f hc108 hM107
     refine cond_f f rfl hc108 ?_
     refine wp_skip ?_
     obtain rfl:=Option.some.inj hM107
     exact ⟨(),rfl,f.keep _ ⟨rfl,rfl,rfl,trivial⟩,S.selT (M:=[.box g101 56 #[iv x7,iv x8,iv x9],.box g0 43 #[iv x0,.slice A1 x1.length c1,.slice A2 x2.length c2,.slice A3 x3.length c3,.slice A4 x4.length c4,.slice A5 x5.length c5,.slice A6 x6.length c6],.row 130 3 (.slice A1 x1.length c1) x1.length (x1.flatMap eLine),.row 110 2 (.slice A2 x2.length c2) x2.length (x2.flatMap eBus),.row 4 1 (.slice A3 x3.length c3) x3.length (x3.flatMap eB),.row 4 1 (.slice A4 x4.length c4) x4.length (x4.flatMap eB),.row 78 2 (.slice A5 x5.length c5) x5.length (x5.flatMap ePermit),.row 3 1 (.slice A6 x6.length c6) x6.length (x6.flatMap eI)]) 8 [0,1,2,3,4,5,6,7] rfl rfl rfl⟩
    replace hM107:=bif_t hc108 hM107
    refine cond_t f rfl hc108 ?_
    revert a;refine sr (mv rfl rfl fun a f=>wn ?_)
    cases hc109:(p102.2)
    ·replace hM107:=bif_f hc109 hM107
     refine cond_f f rfl hc109 ?_
     refine wp_skip ?_
     obtain rfl:=Option.some.inj hM107
     exact ⟨(),rfl,f.keep _ ⟨rfl,rfl,rfl,trivial⟩,S.selT (M:=[.box g101 56 #[iv x7,iv x8,iv x9],.box g0 43 #[iv x0,.slice A1 x1.length c1,.slice A2 x2.length c2,.slice A3 x3.length c3,.slice A4 x4.length c4,.slice A5 x5.length c5,.slice A6 x6.length c6],.row 130 3 (.slice A1 x1.length c1) x1.length (x1.flatMap eLine),.row 110 2 (.slice A2 x2.length c2) x2.length (x2.flatMap eBus),.row 4 1 (.slice A3 x3.length c3) x3.length (x3.flatMap eB),.row 4 1 (.slice A4 x4.length c4) x4.length (x4.flatMap eB),.row 78 2 (.slice A5 x5.length c5) x5.length (x5.flatMap ePermit),.row 3 1 (.slice A6 x6.length c6) x6.length (x6.flatMap eI)]) 8 [0,1,2,3,4,5,6,7] rfl rfl rfl⟩
    replace hM107:=bif_t hc109 hM107
    refine cond_t f rfl hc109 ?_
    revert a;refine sr (ov rfl (fun a f=>run_assign rfl rfl) fun a f=>wn ?_)
    refine wp_ret ?_
    repeat with_reducible first|apply tr|apply ir|apply nr
    refine ret1_gw (.inl rfl) f rfl (res_tmp (f.ev rfl)) ?_
    obtain rfl:=Option.some.inj hM107
    obtain rfl:=Option.some.inj hM
    exact ⟨A1,x1.length,c1,A2,x2.length,c2,A3,x3.length,c3,A4,x4.length,c4,A5,x5.length,c5,A6,x6.length,c6,rfl,rfl,rfl,rfl,rfl,rfl,rfl,S.selT (M:=[.box g0 43 #[iv x0,.slice A1 x1.length c1,.slice A2 x2.length c2,.slice A3 x3.length c3,.slice A4 x4.length c4,.slice A5 x5.length c5,.slice A6 x6.length c6],.row 130 3 (.slice A1 x1.length c1) x1.length (x1.flatMap eLine),.row 110 2 (.slice A2 x2.length c2) x2.length (x2.flatMap eBus),.row 4 1 (.slice A3 x3.length c3) x3.length (x3.flatMap eB),.row 4 1 (.slice A4 x4.length c4) x4.length (x4.flatMap eB),.row 78 2 (.slice A5 x5.length c5) x5.length (x5.flatMap ePermit),.row 3 1 (.slice A6 x6.length c6) x6.length (x6.flatMap eI)]) 8 [1,2,3,4,5,6,7] rfl rfl rfl⟩
   rintro a u ⟨p105,rfl,f,S⟩
   replace hM:=elim_l hM
   refine ws ?_
   obtain ⟨p110,h110,hM⟩:=bind_ex hM
   refine region_gw (D:=[77,78,79,80,81,82,76,83,84,7,8]) (Lr:=(Asn.box g101 56 #[iv x7,iv x8,iv x9] :: Asn.box g0 43 #[iv x0,.slice A1 x1.length c1,.slice A2 x2.length c2,.slice A3 x3.length c3,.slice A4 x4.length c4,.slice A5 x5.length c5,.slice A6 x6.length c6] :: Asn.row 130 3 (.slice A1 x1.length c1) x1.length (x1.flatMap eLine) :: Asn.row 110 2 (.slice A2 x2.length c2) x2.length (x2.flatMap eBus) :: Asn.row 4 1 (.slice A3 x3.length c3) x3.length (x3.flatMap eB) :: Asn.row 4 1 (.slice A4 x4.length c4) x4.length (x4.flatMap eB) :: Asn.row 78 2 (.slice A5 x5.length c5) x5.length (x5.flatMap ePermit) :: Asn.row 3 1 (.slice A6 x6.length c6) x6.length (x6.flatMap eI) :: X)) (deps:=(fun | 0=>[77] | 1=>[78] | 2=>[79] | 3=>[80] | 4=>[81] | 5=>[82] | 6=>[76,82] | 7=>[83,82] | 8=>[84] | 9=>[7] | 10=>[7,82] | 11=>[8] | _=>[])) (rd:=(fun _=>[])) (zr:=(fun _=>[]))
    (φ:=fun i vs=>match i,vs with | 0,[v77]=>v77=.pointer (some ⟨g0,0,none⟩) | 1,[v78]=>v78=.pointer (some ⟨g0,0,none⟩) | 2,[v79]=>v79=.pointer (some ⟨g0,3,none⟩) | 3,[v80]=>v80=.agg #[.slice A3 x3.length c3,.slice A4 x4.length c4,.slice A5 x5.length c5] | 4,[v81]=>v81=.agg #[iv x7,iv x8,iv x9] | 5,[v82]=>v82=.tuple #[.agg #[.slice (slA (vtup (vtup v82 0) 0)) p110.1.length (slC (vtup (vtup v82 0) 0)),.slice (slA (vtup (vtup v82 0) 1)) p110.2.1.length (slC (vtup (vtup v82 0) 1)),.slice (slA (vtup (vtup v82 0) 2)) p110.2.2.1.length (slC (vtup (vtup v82 0) 2))],.bool p110.2.2.2] | 6,[v76,v82]=>v76=.tuple #[.agg #[.slice (slA (vtup (vtup v82 0) 0)) p110.1.length (slC (vtup (vtup v82 0) 0)),.slice (slA (vtup (vtup v82 0) 1)) p110.2.1.length (slC (vtup (vtup v82 0) 1)),.slice (slA (vtup (vtup v82 0) 2)) p110.2.2.1.length (slC (vtup (vtup v82 0) 2))],.bool p110.2.2.2] | 7,[v83,v82]=>v83=.agg #[.slice (slA (vtup (vtup v82 0) 0)) p110.1.length (slC (vtup (vtup v82 0) 0)),.slice (slA (vtup (vtup v82 0) 1)) p110.2.1.length (slC (vtup (vtup v82 0) 1)),.slice (slA (vtup (vtup v82 0) 2)) p110.2.2.1.length (slC (vtup (vtup v82 0) 2))] | 8,[v84]=>v84=.bool p110.2.2.2 | 9,[v7]=>v7=.pointer (some ⟨ptB v7,0,none⟩) | 11,[v8]=>v8=.bool p110.2.2.2 | _,_=>True)
    (C:=fun i vs=>match i,vs with | 5,[v82]=>[.row 4 1 (.slice (slA (vtup (vtup v82 0) 0)) p110.1.length (slC (vtup (vtup v82 0) 0))) p110.1.length (p110.1.flatMap eB),.row 4 1 (.slice (slA (vtup (vtup v82 0) 1)) p110.2.1.length (slC (vtup (vtup v82 0) 1))) p110.2.1.length (p110.2.1.flatMap eB),.row 78 2 (.slice (slA (vtup (vtup v82 0) 2)) p110.2.2.1.length (slC (vtup (vtup v82 0) 2))) p110.2.2.1.length (p110.2.2.1.flatMap ePermit)] | 9,[v7]=>[.box (ptB v7) 41 #[.slice none 0 0,.slice none 0 0,.slice none 0 0]] | 10,[v7,v82]=>[.box (ptB v7) 41 #[.slice (slA (vtup (vtup v82 0) 0)) p110.1.length (slC (vtup (vtup v82 0) 0)),.slice (slA (vtup (vtup v82 0) 1)) p110.2.1.length (slC (vtup (vtup v82 0) 1)),.slice (slA (vtup (vtup v82 0) 2)) p110.2.2.1.length (slC (vtup (vtup v82 0) 2))]] | _,_=>[])
    (κ:=(fun | 9=>some 10 | _=>none)) (Z:=(fun _=>[])) mixed f (by kernel_rfl) S ?_ ?_
   ·refine ⟨?_,?_,?_,?_,?_,?_,?_,?_,?_,?_,?_,?_,trivial⟩
    ·intro a u X' hB hu hp hr hz hl S
     replace S:St w0 u ([]++X'):=S
     exact .inl ⟨rfl,.pointer (some ⟨g0,0,none⟩),u,(run_move rfl (f.evB hB rfl rfl)),rfl,S⟩
    ·intro a u X' hB hu hp hr hz hl S
     replace S:St w0 u ([]++X'):=S
     have e77 : sl a 77=.pointer (some ⟨g0,0,none⟩):=hp 0 rfl
     exact .inl ⟨rfl,.pointer (some ⟨g0,0,none⟩),u,(run_nilCheck rfl (ev_sl e77)),rfl,S⟩
    ·intro a u X' hB hu hp hr hz hl S
     replace S:St w0 u ([]++X'):=S
     have e78 : sl a 78=.pointer (some ⟨g0,0,none⟩):=hp 1 rfl
     exact .inl ⟨rfl,.pointer (some ⟨g0,3,none⟩),u,(run_fieldAddr rfl fl43_2 (ev_sl e78) rfl),rfl,S⟩
    ·intro a u X' hB hu hp hr hz hl S
     replace S:St w0 u ([]++X'):=S
     have e79 : sl a 79=.pointer (some ⟨g0,3,none⟩):=hp 2 rfl
     exact .inl ⟨rfl,.agg #[.slice A3 x3.length c3,.slice A4 x4.length c4,.slice A5 x5.length c5],u,(run_loadN rfl ag41 (ev_sl e79) rfl ((gr_box S hl 1 rfl).cells 3 #[.slice A3 x3.length c3,.slice A4 x4.length c4,.slice A5 x5.length c5] rfl)),rfl,S⟩
    ·intro a u X' hB hu hp hr hz hl S
     replace S:St w0 u ([]++X'):=S
     exact .inl ⟨rfl,.agg #[iv x7,iv x8,iv x9],u,(run_loadN rfl ag56 (f.evB hB rfl rfl) rfl ((gr_box S hl 0 rfl).cells 0 #[iv x7,iv x8,iv x9] rfl)),rfl,S⟩
    ·intro a u X' hB hu hp hr hz hl S
     replace S:St w0 u ([]++X'):=S
     have e80 : sl a 80=.agg #[.slice A3 x3.length c3,.slice A4 x4.length c4,.slice A5 x5.length c5]:=hp 3 rfl
     have e81 : sl a 81=.agg #[iv x7,iv x8,iv x9]:=hp 4 rfl
     refine .inr (.inr (.inl ⟨rfl,_,_,(run_call (vs:=[.agg #[.slice A3 x3.length c3,.slice A4 x4.length c4,.slice A5 x5.length c5],.agg #[iv x7,iv x8,iv x9]]) rfl rfl co102 ⟨(ev_sl e80),(ev_sl e81),trivial⟩),?_⟩))
     refine Calls.mono (c_impl_WorkDo (x0:=x3) (x1:=x4) (x2:=x5) (x3:=x7) (x4:=x8) (x5:=x9) ⟨(gr_rc S hl 4 rfl),rfl⟩ ⟨(gr_rc S hl 5 rfl),rfl⟩ ⟨(gr_rc S hl 6 rfl),rfl⟩ h110) ?_
     rintro e w1 ⟨B111,n112,d113,B114,n115,d116,B117,n118,d119,rfl,rfl,rfl,rfl,T⟩
     exact ⟨_,rfl,rfl,S.call3 T⟩
    ·intro a u X' hB hu hp hr hz hl S
     replace S:St w0 u ([]++X'):=S
     have e82 : sl a 82=.tuple #[.agg #[.slice (slA (vtup (vtup (sl a 82) 0) 0)) p110.1.length (slC (vtup (vtup (sl a 82) 0) 0)),.slice (slA (vtup (vtup (sl a 82) 0) 1)) p110.2.1.length (slC (vtup (vtup (sl a 82) 0) 1)),.slice (slA (vtup (vtup (sl a 82) 0) 2)) p110.2.2.1.length (slC (vtup (vtup (sl a 82) 0) 2))],.bool p110.2.2.2]:=hp 5 rfl
     exact .inl ⟨rfl,.tuple #[.agg #[.slice (slA (vtup (vtup (sl a 82) 0) 0)) p110.1.length (slC (vtup (vtup (sl a 82) 0) 0)),.slice (slA (vtup (vtup (sl a 82) 0) 1)) p110.2.1.length (slC (vtup (vtup (sl a 82) 0) 1)),.slice (slA (vtup (vtup (sl a 82) 0) 2)) p110.2.2.1.length (slC (vtup (vtup (sl a 82) 0) 2))],.bool p110.2.2.2],u,(run_move rfl (ev_sl e82)),rfl,S⟩
    ·intro a u X' hB hu hp hr hz hl S
     replace S:St w0 u ([]++X'):=S
     have e76 : sl a 76=.tuple #[.agg #[.slice (slA (vtup (vtup (sl a 82) 0) 0)) p110.1.length (slC (vtup (vtup (sl a 82) 0) 0)),.slice (slA (vtup (vtup (sl a 82) 0) 1)) p110.2.1.length (slC (vtup (vtup (sl a 82) 0) 1)),.slice (slA (vtup (vtup (sl a 82) 0) 2)) p110.2.2.1.length (slC (vtup (vtup (sl a 82) 0) 2))],.bool p110.2.2.2]:=hp 6 rfl
     exact .inl ⟨rfl,.agg #[.slice (slA (vtup (vtup (sl a 82) 0) 0)) p110.1.length (slC (vtup (vtup (sl a 82) 0) 0)),.slice (slA (vtup (vtup (sl a 82) 0) 1)) p110.2.1.length (slC (vtup (vtup (sl a 82) 0) 1)),.slice (slA (vtup (vtup (sl a 82) 0) 2)) p110.2.2.1.length (slC (vtup (vtup (sl a 82) 0) 2))],u,(run_extract rfl (ev_sl e76) rfl),rfl,S⟩
    ·intro a u X' hB hu hp hr hz hl S
     replace S:St w0 u ([]++X'):=S
     have e76 : sl a 76=.tuple #[.agg #[.slice (slA (vtup (vtup (sl a 82) 0) 0)) p110.1.length (slC (vtup (vtup (sl a 82) 0) 0)),.slice (slA (vtup (vtup (sl a 82) 0) 1)) p110.2.1.length (slC (vtup (vtup (sl a 82) 0) 1)),.slice (slA (vtup (vtup (sl a 82) 0) 2)) p110.2.2.1.length (slC (vtup (vtup (sl a 82) 0) 2))],.bool p110.2.2.2]:=hp 6 rfl
     exact .inl ⟨rfl,.bool p110.2.2.2,u,(run_extract rfl (ev_sl e76) rfl),rfl,S⟩
    ·intro a u X' hB hu hp hr hz hl S
     replace S:St w0 u ([]++X'):=S
     exact .inl ⟨rfl,_,_,(run_allocZ rfl zr41),rfl,S.alloc _ _⟩
    ·intro a u X' hB hu hp hr hz hl S
     replace S:St w0 u ([.box (ptB (sl a 7)) 41 #[.slice none 0 0,.slice none 0 0,.slice none 0 0]]++X'):=S
     have e7 : sl a 7=.pointer (some ⟨ptB (sl a 7),0,none⟩):=hp 9 rfl
     have e83 : sl a 83=.agg #[.slice (slA (vtup (vtup (sl a 82) 0) 0)) p110.1.length (slC (vtup (vtup (sl a 82) 0) 0)),.slice (slA (vtup (vtup (sl a 82) 0) 1)) p110.2.1.length (slC (vtup (vtup (sl a 82) 0) 1)),.slice (slA (vtup (vtup (sl a 82) 0) 2)) p110.2.2.1.length (slC (vtup (vtup (sl a 82) 0) 2))]:=hp 7 rfl
     exact .inr (.inl ⟨rfl,_,run_store (cs':=#[.slice (slA (vtup (vtup (sl a 82) 0) 0)) p110.1.length (slC (vtup (vtup (sl a 82) 0) 0)),.slice (slA (vtup (vtup (sl a 82) 0) 1)) p110.2.1.length (slC (vtup (vtup (sl a 82) 0) 1)),.slice (slA (vtup (vtup (sl a 82) 0) 2)) p110.2.2.1.length (slC (vtup (vtup (sl a 82) 0) 2))]) rfl sz41 (ev_sl e7) (ev_sl e83) rfl rfl rfl (S.free 0 rfl) rfl rfl,trivial,S.put 0 rfl (#[.slice (slA (vtup (vtup (sl a 82) 0) 0)) p110.1.length (slC (vtup (vtup (sl a 82) 0) 0)),.slice (slA (vtup (vtup (sl a 82) 0) 1)) p110.2.1.length (slC (vtup (vtup (sl a 82) 0) 1)),.slice (slA (vtup (vtup (sl a 82) 0) 2)) p110.2.2.1.length (slC (vtup (vtup (sl a 82) 0) 2))])⟩)
    intro a u X' hB hu hp hr hz hl S
    replace S:St w0 u ([]++X'):=S
    have e84 : sl a 84=.bool p110.2.2.2:=hp 8 rfl
    exact .inl ⟨rfl,.bool p110.2.2.2,u,(run_assign rfl (ev_sl e84)),rfl,S⟩
   intro a u hB hp S
   obtain ⟨q0,q1,q2,q3,q4,q5,q6,q7,q8,q9,q10,q11,-⟩:=hp
   replace S:St w0 u (Asn.row 4 1 (.slice (slA (vtup (vtup (sl a 82) 0) 0)) p110.1.length (slC (vtup (vtup (sl a 82) 0) 0))) p110.1.length (p110.1.flatMap eB) :: Asn.row 4 1 (.slice (slA (vtup (vtup (sl a 82) 0) 1)) p110.2.1.length (slC (vtup (vtup (sl a 82) 0) 1))) p110.2.1.length (p110.2.1.flatMap eB) :: Asn.row 78 2 (.slice (slA (vtup (vtup (sl a 82) 0) 2)) p110.2.2.1.length (slC (vtup (vtup (sl a 82) 0) 2))) p110.2.2.1.length (p110.2.2.1.flatMap ePermit) :: Asn.box (ptB (sl a 7)) 41 #[.slice (slA (vtup (vtup (sl a 82) 0) 0)) p110.1.length (slC (vtup (vtup (sl a 82) 0) 0)),.slice (slA (vtup (vtup (sl a 82) 0) 1)) p110.2.1.length (slC (vtup (vtup (sl a 82) 0) 1)),.slice (slA (vtup (vtup (sl a 82) 0) 2)) p110.2.2.1.length (slC (vtup (vtup (sl a 82) 0) 2))] :: Asn.box g101 56 #[iv x7,iv x8,iv x9] :: Asn.box g0 43 #[iv x0,.slice A1 x1.length c1,.slice A2 x2.length c2,.slice A3 x3.length c3,.slice A4 x4.length c4,.slice A5 x5.length c5,.slice A6 x6.length c6] :: Asn.row 130 3 (.slice A1 x1.length c1) x1.length (x1.flatMap eLine) :: Asn.row 110 2 (.slice A2 x2.length c2) x2.length (x2.flatMap eBus) :: Asn.row 4 1 (.slice A3 x3.length c3) x3.length (x3.flatMap eB) :: Asn.row 4 1 (.slice A4 x4.length c4) x4.length (x4.flatMap eB) :: Asn.row 78 2 (.slice A5 x5.length c5) x5.length (x5.flatMap ePermit) :: Asn.row 3 1 (.slice A6 x6.length c6) x6.length (x6.flatMap eI) :: X):=S
   have f:=f.region hB [(77,.pointer (some ⟨g0,0,none⟩)),(78,.pointer (some ⟨g0,0,none⟩)),(79,.pointer (some ⟨g0,3,none⟩)),(80,.agg #[.slice A3 x3.length c3,.slice A4 x4.length c4,.slice A5 x5.length c5]),(81,.agg #[iv x7,iv x8,iv x9]),(82,.tuple #[.agg #[.slice (slA (vtup (vtup (sl a 82) 0) 0)) p110.1.length (slC (vtup (vtup (sl a 82) 0) 0)),.slice (slA (vtup (vtup (sl a 82) 0) 1)) p110.2.1.length (slC (vtup (vtup (sl a 82) 0) 1)),.slice (slA (vtup (vtup (sl a 82) 0) 2)) p110.2.2.1.length (slC (vtup (vtup (sl a 82) 0) 2))],.bool p110.2.2.2]),(76,.tuple #[.agg #[.slice (slA (vtup (vtup (sl a 82) 0) 0)) p110.1.length (slC (vtup (vtup (sl a 82) 0) 0)),.slice (slA (vtup (vtup (sl a 82) 0) 1)) p110.2.1.length (slC (vtup (vtup (sl a 82) 0) 1)),.slice (slA (vtup (vtup (sl a 82) 0) 2)) p110.2.2.1.length (slC (vtup (vtup (sl a 82) 0) 2))],.bool p110.2.2.2]),(83,.agg #[.slice (slA (vtup (vtup (sl a 82) 0) 0)) p110.1.length (slC (vtup (vtup (sl a 82) 0) 0)),.slice (slA (vtup (vtup (sl a 82) 0) 1)) p110.2.1.length (slC (vtup (vtup (sl a 82) 0) 1)),.slice (slA (vtup (vtup (sl a 82) 0) 2)) p110.2.2.1.length (slC (vtup (vtup (sl a 82) 0) 2))]),(84,.bool p110.2.2.2),(7,.pointer (some ⟨ptB (sl a 7),0,none⟩)),(8,.bool p110.2.2.2)] (allSl_mem ⟨q0,q1,q2,q3,q4,q5,q6,q7,q8,q9,q11,trivial⟩) rfl
   clear hB q0 q1 q2 q3 q4 q5 q6 q7 q8 q9 q10 q11
   generalize slA (vtup (vtup (sl a 82) 0) 0)=B120 at *
   generalize slC (vtup (vtup (sl a 82) 0) 0)=d121 at *
   generalize slA (vtup (vtup (sl a 82) 0) 1)=B122 at *
   generalize slC (vtup (vtup (sl a 82) 0) 1)=d123 at *
   generalize slA (vtup (vtup (sl a 82) 0) 2)=B124 at *
   generalize slC (vtup (vtup (sl a 82) 0) 2)=d125 at *
   generalize ptB (sl a 7)=g126 at *
   revert a;refine sr (mv rfl rfl (ov rfl (fun a f=>run_loadN rfl ag41 (f.ev rfl) rfl ((S.free 3 rfl).cells 0 #[.slice B120 p110.1.length d121,.slice B122 p110.2.1.length d123,.slice B124 p110.2.2.1.length d125] rfl)) (ov rfl (fun a f=>run_nilCheck rfl (f.ev rfl)) (ov rfl (fun a f=>run_fieldAddr rfl fl43_2 (f.ev rfl) rfl) fun a f=>?_))))
   refine op_do rfl rfl (run_store (cs':=#[iv x0,.slice A1 x1.length c1,.slice A2 x2.length c2,.slice B120 p110.1.length d121,.slice B122 p110.2.1.length d123,.slice B124 p110.2.2.1.length d125,.slice A6 x6.length c6]) rfl sz41 (f.ev rfl) (f.ev rfl) rfl rfl rfl (S.free 5 rfl) rfl rfl) ?_;replace S:=S.put 5 rfl (#[iv x0,.slice A1 x1.length c1,.slice A2 x2.length c2,.slice B120 p110.1.length d121,.slice B122 p110.2.1.length d123,.slice B124 p110.2.2.1.length d125,.slice A6 x6.length c6])
   generalize World.setRow _ _ _=u at S ⊢
   refine wn ?_
   refine ws ?_
   obtain ⟨p127,h127,hM⟩:=bind_ex hM
   refine region_gw (D:=[89,90,91,92,93,94,95,96,97,98,99,100,101,102,103,104,105,106,107,4]) (Lr:=(Asn.row 4 1 (.slice B120 p110.1.length d121) p110.1.length (p110.1.flatMap eB) :: Asn.row 4 1 (.slice B122 p110.2.1.length d123) p110.2.1.length (p110.2.1.flatMap eB) :: Asn.row 78 2 (.slice B124 p110.2.2.1.length d125) p110.2.2.1.length (p110.2.2.1.flatMap ePermit) :: Asn.box g126 41 #[.slice B120 p110.1.length d121,.slice B122 p110.2.1.length d123,.slice B124 p110.2.2.1.length d125] :: Asn.box g101 56 #[iv x7,iv x8,iv x9] :: Asn.box g0 43 #[iv x0,.slice A1 x1.length c1,.slice A2 x2.length c2,.slice B120 p110.1.length d121,.slice B122 p110.2.1.length d123,.slice B124 p110.2.2.1.length d125,.slice A6 x6.length c6] :: Asn.row 130 3 (.slice A1 x1.length c1) x1.length (x1.flatMap eLine) :: Asn.row 110 2 (.slice A2 x2.length c2) x2.length (x2.flatMap eBus) :: Asn.row 4 1 (.slice A3 x3.length c3) x3.length (x3.flatMap eB) :: Asn.row 4 1 (.slice A4 x4.length c4) x4.length (x4.flatMap eB) :: Asn.row 78 2 (.slice A5 x5.length c5) x5.length (x5.flatMap ePermit) :: Asn.row 3 1 (.slice A6 x6.length c6) x6.length (x6.flatMap eI) :: X)) (deps:=(fun | 0=>[89] | 1=>[90] | 2=>[91] | 3=>[92] | 4=>[93] | 5=>[94] | 6=>[95] | 7=>[96] | 8=>[97] | 9=>[98] | 10=>[99] | 11=>[100] | 12=>[101] | 13=>[102] | 14=>[103] | 15=>[104] | 16=>[105] | 17=>[106] | 18=>[107] | 19=>[4] | _=>[])) (rd:=(fun _=>[])) (zr:=(fun _=>[]))
    (φ:=fun i vs=>match i,vs with | 0,[v89]=>v89=.bool p110.2.2.2 | 1,[v90]=>v90=.bool p110.2.2.2 | 2,[v91]=>v91=gv p110.2.2.2 (.pointer (some ⟨g101,0,none⟩)) | 3,[v92]=>v92=gv p110.2.2.2 (iv x7) | 4,[v93]=>v93=gv p110.2.2.2 (.bool (x7 != 0)) | 5,[v94]=>v94=gv p110.2.2.2 (.bool (x7 != 0)) | 6,[v95]=>v95=gv (p110.2.2.2&&(!(x7 != 0))) (.pointer (some ⟨g0,0,none⟩)) | 7,[v96]=>v96=gv (p110.2.2.2&&(!(x7 != 0))) (.pointer (some ⟨g0,0,none⟩)) | 8,[v97]=>v97=gv (p110.2.2.2&&(!(x7 != 0))) (.pointer (some ⟨g0,0,none⟩)) | 9,[v98]=>v98=gv (p110.2.2.2&&(!(x7 != 0))) (.agg #[iv x0,.slice A1 x1.length c1]) | 10,[v99]=>v99=gv (p110.2.2.2&&(!(x7 != 0))) (.pointer (some ⟨g126,0,none⟩)) | 11,[v100]=>v100=gv (p110.2.2.2&&(!(x7 != 0))) (.slice B120 p110.1.length d121) | 12,[v101]=>v101=gv (p110.2.2.2&&(!(x7 != 0))) (.pointer (some ⟨g0,0,none⟩)) | 13,[v102]=>v102=gv (p110.2.2.2&&(!(x7 != 0))) (.pointer (some ⟨g0,0,none⟩)) | 14,[v103]=>v103=gv (p110.2.2.2&&(!(x7 != 0))) (.pointer (some ⟨g0,2,none⟩)) | 15,[v104]=>v104=gv (p110.2.2.2&&(!(x7 != 0))) (.slice A2 x2.length c2) | 16,[v105]=>v105=gv (p110.2.2.2&&(!(x7 != 0))) (.bool p127) | 17,[v106]=>v106=gv p110.2.2.2 (.bool ((x7 != 0)||p127)) | 18,[v107]=>v107=.bool (p110.2.2.2&&((x7 != 0)||p127)) | 19,[v4]=>v4=.bool (p110.2.2.2&&((x7 != 0)||p127)) | _,_=>True)
    (C:=fun _ _=>[])
    (κ:=(fun _=>none)) (Z:=(fun _=>[])) mixed f (by kernel_rfl) S ?_ ?_
   ·refine ⟨?_,?_,?_,?_,?_,?_,?_,?_,?_,?_,?_,?_,?_,?_,?_,?_,?_,?_,?_,?_,trivial⟩
    ·intro a u X' hB hu hp hr hz hl S
     replace S:St w0 u ([]++X'):=S
     exact .inl ⟨rfl,.bool p110.2.2.2,u,(run_move rfl (f.evB hB rfl rfl)),rfl,S⟩
    ·intro a u X' hB hu hp hr hz hl S
     replace S:St w0 u ([]++X'):=S
     have e89 : sl a 89=.bool p110.2.2.2:=hp 0 rfl
     exact .inl ⟨rfl,.bool p110.2.2.2,u,(run_move rfl (ev_sl e89)),rfl,S⟩
    ·intro a u X' hB hu hp hr hz hl S
     replace S:St w0 u ([]++X'):=S
     have e90 : sl a 90=.bool p110.2.2.2:=hp 1 rfl
     exact gyt rfl rfl rfl e90 (fun hg=>⟨(gv_f hg).symm,S⟩) fun hg=>⟨.pointer (some ⟨g101,0,none⟩),u,(run_fieldAddr rfl fl56_0 (f.evB hB rfl rfl) rfl),(gv_t hg).symm,S⟩
    ·intro a u X' hB hu hp hr hz hl S
     replace S:St w0 u ([]++X'):=S
     have e90 : sl a 90=.bool p110.2.2.2:=hp 1 rfl
     have e91 : sl a 91=gv p110.2.2.2 (.pointer (some ⟨g101,0,none⟩)):=hp 2 rfl
     exact gyt rfl rfl rfl e90 (fun hg=>⟨(gv_f hg).symm,S⟩) fun hg=>⟨iv x7,u,(run_load1 rfl one3 ((ev_sl e91).trans (gv_t hg)) ((gr_box S hl 4 rfl).cell rfl)),(gv_t hg).symm,S⟩
    ·intro a u X' hB hu hp hr hz hl S
     replace S:St w0 u ([]++X'):=S
     have e90 : sl a 90=.bool p110.2.2.2:=hp 1 rfl
     have e92 : sl a 92=gv p110.2.2.2 (iv x7):=hp 3 rfl
     exact gyt rfl rfl rfl e90 (fun hg=>⟨(gv_f hg).symm,S⟩) fun hg=>⟨.bool (x7 != 0),u,(run_neq ((ev_sl e92).trans (gv_t hg)) (ev_const _ _) rfl),(gv_t hg).symm,S⟩
    ·intro a u X' hB hu hp hr hz hl S
     replace S:St w0 u ([]++X'):=S
     have e90 : sl a 90=.bool p110.2.2.2:=hp 1 rfl
     have e93 : sl a 93=gv p110.2.2.2 (.bool (x7 != 0)):=hp 4 rfl
     exact gyt rfl rfl rfl e90 (fun hg=>⟨(gv_f hg).symm,S⟩) fun hg=>⟨.bool (x7 != 0),u,(run_move rfl ((ev_sl e93).trans (gv_t hg))),(gv_t hg).symm,S⟩
    ·intro a u X' hB hu hp hr hz hl S
     replace S:St w0 u ([]++X'):=S
     have e94 : sl a 94=gv p110.2.2.2 (.bool (x7 != 0)):=hp 5 rfl
     rcases bb (p110.2.2.2&&(!(x7 != 0))) with hg | hg
     ·exact .inr (.inr (.inr ⟨gr_eg rfl (yfG (gr_yieldG rfl rfl e94)) hg,(gv_f hg).symm,S⟩))
     exact .inl ⟨gr_eg rfl (yfG (gr_yieldG rfl rfl e94)) hg,.pointer (some ⟨g0,0,none⟩),u,(run_move rfl (f.evB hB rfl rfl)),(gv_t hg).symm,S⟩
    ·intro a u X' hB hu hp hr hz hl S
     replace S:St w0 u ([]++X'):=S
     have e94 : sl a 94=gv p110.2.2.2 (.bool (x7 != 0)):=hp 5 rfl
     have e95 : sl a 95=gv (p110.2.2.2&&(!(x7 != 0))) (.pointer (some ⟨g0,0,none⟩)):=hp 6 rfl
     rcases bb (p110.2.2.2&&(!(x7 != 0))) with hg | hg
     ·exact .inr (.inr (.inr ⟨gr_eg rfl (yfG (gr_yieldG rfl rfl e94)) hg,(gv_f hg).symm,S⟩))
     exact .inl ⟨gr_eg rfl (yfG (gr_yieldG rfl rfl e94)) hg,.pointer (some ⟨g0,0,none⟩),u,(run_nilCheck rfl ((ev_sl e95).trans (gv_t hg))),(gv_t hg).symm,S⟩
    ·intro a u X' hB hu hp hr hz hl S
     replace S:St w0 u ([]++X'):=S
     have e94 : sl a 94=gv p110.2.2.2 (.bool (x7 != 0)):=hp 5 rfl
     have e96 : sl a 96=gv (p110.2.2.2&&(!(x7 != 0))) (.pointer (some ⟨g0,0,none⟩)):=hp 7 rfl
     rcases bb (p110.2.2.2&&(!(x7 != 0))) with hg | hg
     ·exact .inr (.inr (.inr ⟨gr_eg rfl (yfG (gr_yieldG rfl rfl e94)) hg,(gv_f hg).symm,S⟩))
     exact .inl ⟨gr_eg rfl (yfG (gr_yieldG rfl rfl e94)) hg,.pointer (some ⟨g0,0,none⟩),u,(run_fieldAddr rfl fl43_0 ((ev_sl e96).trans (gv_t hg)) rfl),(gv_t hg).symm,S⟩
    ·intro a u X' hB hu hp hr hz hl S
     replace S:St w0 u ([]++X'):=S
     have e94 : sl a 94=gv p110.2.2.2 (.bool (x7 != 0)):=hp 5 rfl
     have e97 : sl a 97=gv (p110.2.2.2&&(!(x7 != 0))) (.pointer (some ⟨g0,0,none⟩)):=hp 8 rfl
     rcases bb (p110.2.2.2&&(!(x7 != 0))) with hg | hg
     ·exact .inr (.inr (.inr ⟨gr_eg rfl (yfG (gr_yieldG rfl rfl e94)) hg,(gv_f hg).symm,S⟩))
     exact .inl ⟨gr_eg rfl (yfG (gr_yieldG rfl rfl e94)) hg,.agg #[iv x0,.slice A1 x1.length c1],u,(run_loadN rfl ag37 ((ev_sl e97).trans (gv_t hg)) rfl ((gr_box S hl 5 rfl).cells 0 #[iv x0,.slice A1 x1.length c1] rfl)),(gv_t hg).symm,S⟩
    ·intro a u X' hB hu hp hr hz hl S
     replace S:St w0 u ([]++X'):=S
     have e94 : sl a 94=gv p110.2.2.2 (.bool (x7 != 0)):=hp 5 rfl
     rcases bb (p110.2.2.2&&(!(x7 != 0))) with hg | hg
     ·exact .inr (.inr (.inr ⟨gr_eg rfl (yfG (gr_yieldG rfl rfl e94)) hg,(gv_f hg).symm,S⟩))
     exact .inl ⟨gr_eg rfl (yfG (gr_yieldG rfl rfl e94)) hg,.pointer (some ⟨g126,0,none⟩),u,(run_fieldAddr rfl fl41_0 (f.evB hB rfl rfl) rfl),(gv_t hg).symm,S⟩
    ·intro a u X' hB hu hp hr hz hl S
     replace S:St w0 u ([]++X'):=S
     have e94 : sl a 94=gv p110.2.2.2 (.bool (x7 != 0)):=hp 5 rfl
     have e99 : sl a 99=gv (p110.2.2.2&&(!(x7 != 0))) (.pointer (some ⟨g126,0,none⟩)):=hp 10 rfl
     rcases bb (p110.2.2.2&&(!(x7 != 0))) with hg | hg
     ·exact .inr (.inr (.inr ⟨gr_eg rfl (yfG (gr_yieldG rfl rfl e94)) hg,(gv_f hg).symm,S⟩))
     exact .inl ⟨gr_eg rfl (yfG (gr_yieldG rfl rfl e94)) hg,.slice B120 p110.1.length d121,u,(run_load1 rfl one26 ((ev_sl e99).trans (gv_t hg)) ((gr_box S hl 3 rfl).cell rfl)),(gv_t hg).symm,S⟩
    ·intro a u X' hB hu hp hr hz hl S
     replace S:St w0 u ([]++X'):=S
     have e94 : sl a 94=gv p110.2.2.2 (.bool (x7 != 0)):=hp 5 rfl
     rcases bb (p110.2.2.2&&(!(x7 != 0))) with hg | hg
     ·exact .inr (.inr (.inr ⟨gr_eg rfl (yfG (gr_yieldG rfl rfl e94)) hg,(gv_f hg).symm,S⟩))
     exact .inl ⟨gr_eg rfl (yfG (gr_yieldG rfl rfl e94)) hg,.pointer (some ⟨g0,0,none⟩),u,(run_move rfl (f.evB hB rfl rfl)),(gv_t hg).symm,S⟩
    ·intro a u X' hB hu hp hr hz hl S
     replace S:St w0 u ([]++X'):=S
     have e94 : sl a 94=gv p110.2.2.2 (.bool (x7 != 0)):=hp 5 rfl
     have e101 : sl a 101=gv (p110.2.2.2&&(!(x7 != 0))) (.pointer (some ⟨g0,0,none⟩)):=hp 12 rfl
     rcases bb (p110.2.2.2&&(!(x7 != 0))) with hg | hg
     ·exact .inr (.inr (.inr ⟨gr_eg rfl (yfG (gr_yieldG rfl rfl e94)) hg,(gv_f hg).symm,S⟩))
     exact .inl ⟨gr_eg rfl (yfG (gr_yieldG rfl rfl e94)) hg,.pointer (some ⟨g0,0,none⟩),u,(run_nilCheck rfl ((ev_sl e101).trans (gv_t hg))),(gv_t hg).symm,S⟩
    ·intro a u X' hB hu hp hr hz hl S
     replace S:St w0 u ([]++X'):=S
     have e94 : sl a 94=gv p110.2.2.2 (.bool (x7 != 0)):=hp 5 rfl
     have e102 : sl a 102=gv (p110.2.2.2&&(!(x7 != 0))) (.pointer (some ⟨g0,0,none⟩)):=hp 13 rfl
     rcases bb (p110.2.2.2&&(!(x7 != 0))) with hg | hg
     ·exact .inr (.inr (.inr ⟨gr_eg rfl (yfG (gr_yieldG rfl rfl e94)) hg,(gv_f hg).symm,S⟩))
     exact .inl ⟨gr_eg rfl (yfG (gr_yieldG rfl rfl e94)) hg,.pointer (some ⟨g0,2,none⟩),u,(run_fieldAddr rfl fl43_1 ((ev_sl e102).trans (gv_t hg)) rfl),(gv_t hg).symm,S⟩
    ·intro a u X' hB hu hp hr hz hl S
     replace S:St w0 u ([]++X'):=S
     have e94 : sl a 94=gv p110.2.2.2 (.bool (x7 != 0)):=hp 5 rfl
     have e103 : sl a 103=gv (p110.2.2.2&&(!(x7 != 0))) (.pointer (some ⟨g0,2,none⟩)):=hp 14 rfl
     rcases bb (p110.2.2.2&&(!(x7 != 0))) with hg | hg
     ·exact .inr (.inr (.inr ⟨gr_eg rfl (yfG (gr_yieldG rfl rfl e94)) hg,(gv_f hg).symm,S⟩))
     exact .inl ⟨gr_eg rfl (yfG (gr_yieldG rfl rfl e94)) hg,.slice A2 x2.length c2,u,(run_load1 rfl one38 ((ev_sl e103).trans (gv_t hg)) ((gr_box S hl 5 rfl).cell rfl)),(gv_t hg).symm,S⟩
    ·intro a u X' hB hu hp hr hz hl S
     replace S:St w0 u ([]++X'):=S
     have e94 : sl a 94=gv p110.2.2.2 (.bool (x7 != 0)):=hp 5 rfl
     have e98 : sl a 98=gv (p110.2.2.2&&(!(x7 != 0))) (.agg #[iv x0,.slice A1 x1.length c1]):=hp 9 rfl
     have e100 : sl a 100=gv (p110.2.2.2&&(!(x7 != 0))) (.slice B120 p110.1.length d121):=hp 11 rfl
     have e104 : sl a 104=gv (p110.2.2.2&&(!(x7 != 0))) (.slice A2 x2.length c2):=hp 15 rfl
     rcases bb (p110.2.2.2&&(!(x7 != 0))) with hg | hg
     ·exact .inr (.inr (.inr ⟨gr_eg rfl (yfG (gr_yieldG rfl rfl e94)) hg,(gv_f hg).symm,S⟩))
     refine .inr (.inr (.inl ⟨gr_eg rfl (yfG (gr_yieldG rfl rfl e94)) hg,_,_,(run_call (vs:=[.agg #[iv x0,.slice A1 x1.length c1],.slice B120 p110.1.length d121,.slice A2 x2.length c2]) rfl rfl co76 ⟨((ev_sl e98).trans (gv_t hg)),((ev_sl e100).trans (gv_t hg)),((ev_sl e104).trans (gv_t hg)),trivial⟩),?_⟩))
     refine Calls.mono (c_impl_Radial (x0:=x0) (x1:=x1) (x2:=p110.1) (x3:=x2) ⟨(gr_rc S hl 6 rfl),rfl⟩ ⟨(gr_rc S hl 0 rfl),rfl⟩ ⟨(gr_rc S hl 7 rfl),rfl⟩ (gb_t h127 hg)) ?_
     rintro e w1 ⟨rfl,T⟩
     exact ⟨_,rfl,(gv_t hg).symm,S.call0 T⟩
    ·intro a u X' hB hu hp hr hz hl S
     replace S:St w0 u ([]++X'):=S
     have e90 : sl a 90=.bool p110.2.2.2:=hp 1 rfl
     have e94 : sl a 94=gv p110.2.2.2 (.bool (x7 != 0)):=hp 5 rfl
     have e105 : sl a 105=gv (p110.2.2.2&&(!(x7 != 0))) (.bool p127):=hp 16 rfl
     exact gyt rfl rfl rfl e90 (fun hg=>⟨(gv_f hg).symm,S⟩) fun hg=>⟨.bool ((x7 != 0)||p127),u,(run_pick_or rfl ((ev_sl e94).trans (gv_t hg)) (ev_const _ _) (fun hp=>((ev_sl e105).trans (gv_t (and_i hg (not_t hp)))))),(gv_t hg).symm,S⟩
    ·intro a u X' hB hu hp hr hz hl S
     replace S:St w0 u ([]++X'):=S
     have e90 : sl a 90=.bool p110.2.2.2:=hp 1 rfl
     have e106 : sl a 106=gv p110.2.2.2 (.bool ((x7 != 0)||p127)):=hp 17 rfl
     exact .inl ⟨rfl,.bool (p110.2.2.2&&((x7 != 0)||p127)),u,(run_pick_and rfl (ev_sl e90) (fun hp=>((ev_sl e106).trans (gv_t hp))) (ev_const _ _)),rfl,S⟩
    intro a u X' hB hu hp hr hz hl S
    replace S:St w0 u ([]++X'):=S
    have e107 : sl a 107=.bool (p110.2.2.2&&((x7 != 0)||p127)):=hp 18 rfl
    exact .inl ⟨rfl,.bool (p110.2.2.2&&((x7 != 0)||p127)),u,(run_assign rfl (ev_sl e107)),rfl,S⟩
   intro a u hB hp S
   obtain ⟨q0,q1,q2,q3,q4,q5,q6,q7,q8,q9,q10,q11,q12,q13,q14,q15,q16,q17,q18,q19,-⟩:=hp
   replace S:St w0 u (Asn.row 4 1 (.slice B120 p110.1.length d121) p110.1.length (p110.1.flatMap eB) :: Asn.row 4 1 (.slice B122 p110.2.1.length d123) p110.2.1.length (p110.2.1.flatMap eB) :: Asn.row 78 2 (.slice B124 p110.2.2.1.length d125) p110.2.2.1.length (p110.2.2.1.flatMap ePermit) :: Asn.box g126 41 #[.slice B120 p110.1.length d121,.slice B122 p110.2.1.length d123,.slice B124 p110.2.2.1.length d125] :: Asn.box g101 56 #[iv x7,iv x8,iv x9] :: Asn.box g0 43 #[iv x0,.slice A1 x1.length c1,.slice A2 x2.length c2,.slice B120 p110.1.length d121,.slice B122 p110.2.1.length d123,.slice B124 p110.2.2.1.length d125,.slice A6 x6.length c6] :: Asn.row 130 3 (.slice A1 x1.length c1) x1.length (x1.flatMap eLine) :: Asn.row 110 2 (.slice A2 x2.length c2) x2.length (x2.flatMap eBus) :: Asn.row 4 1 (.slice A3 x3.length c3) x3.length (x3.flatMap eB) :: Asn.row 4 1 (.slice A4 x4.length c4) x4.length (x4.flatMap eB) :: Asn.row 78 2 (.slice A5 x5.length c5) x5.length (x5.flatMap ePermit) :: Asn.row 3 1 (.slice A6 x6.length c6) x6.length (x6.flatMap eI) :: X):=S
   have f:=f.region hB [(89,_),(90,_),(91,_),(92,_),(93,_),(94,_),(95,_),(96,_),(97,_),(98,_),(99,_),(100,_),(101,_),(102,_),(103,_),(104,_),(105,_),(106,_),(107,_),(4,_)] (allSl_mem ⟨q0,q1,q2,q3,q4,q5,q6,q7,q8,q9,q10,q11,q12,q13,q14,q15,q16,q17,q18,q19,trivial⟩) rfl
   clear hB q0 q1 q2 q3 q4 q5 q6 q7 q8 q9 q10 q11 q12 q13 q14 q15 q16 q17 q18 q19
   refine wp_ret ?_
   refine ret1_gw (.inl rfl) f rfl (res_tmp (f.ev rfl)) ?_
   obtain rfl:=Option.some.inj hM
   exact ⟨A1,x1.length,c1,A2,x2.length,c2,B120,p110.1.length,d121,B122,p110.2.1.length,d123,B124,p110.2.2.1.length,d125,A6,x6.length,c6,rfl,rfl,rfl,rfl,rfl,rfl,rfl,S.selT (M:=[.box g0 43 #[iv x0,.slice A1 x1.length c1,.slice A2 x2.length c2,.slice B120 p110.1.length d121,.slice B122 p110.2.1.length d123,.slice B124 p110.2.2.1.length d125,.slice A6 x6.length c6],.row 130 3 (.slice A1 x1.length c1) x1.length (x1.flatMap eLine),.row 110 2 (.slice A2 x2.length c2) x2.length (x2.flatMap eBus),.row 4 1 (.slice B120 p110.1.length d121) p110.1.length (p110.1.flatMap eB),.row 4 1 (.slice B122 p110.2.1.length d123) p110.2.1.length (p110.2.1.flatMap eB),.row 78 2 (.slice B124 p110.2.2.1.length d125) p110.2.2.1.length (p110.2.2.1.flatMap ePermit),.row 3 1 (.slice A6 x6.length c6) x6.length (x6.flatMap eI)]) 12 [5,6,7,0,1,2,11] rfl rfl rfl⟩
  replace hM:=bif_t hc104 hM
  refine cond_t f rfl hc104 ?_
  refine ws ?_
  refine ws ?_
  obtain ⟨p128,h128,hM⟩:=bind_ex hM
  refine region_gw (D:=[46,47,48,49,50,51,52,53,54,55,56,57,58,59,60,61]) (Lr:=(Asn.box g101 56 #[iv x7,iv x8,iv x9] :: Asn.box g0 43 #[iv x0,.slice A1 x1.length c1,.slice A2 x2.length c2,.slice A3 x3.length c3,.slice A4 x4.length c4,.slice A5 x5.length c5,.slice A6 x6.length c6] :: Asn.row 130 3 (.slice A1 x1.length c1) x1.length (x1.flatMap eLine) :: Asn.row 110 2 (.slice A2 x2.length c2) x2.length (x2.flatMap eBus) :: Asn.row 4 1 (.slice A3 x3.length c3) x3.length (x3.flatMap eB) :: Asn.row 4 1 (.slice A4 x4.length c4) x4.length (x4.flatMap eB) :: Asn.row 78 2 (.slice A5 x5.length c5) x5.length (x5.flatMap ePermit) :: Asn.row 3 1 (.slice A6 x6.length c6) x6.length (x6.flatMap eI) :: X)) (deps:=(fun | 0=>[46] | 1=>[47] | 2=>[48] | 3=>[49] | 4=>[50] | 5=>[51] | 6=>[52] | 7=>[53] | 8=>[54] | 9=>[55] | 10=>[56] | 11=>[57] | 12=>[58] | 13=>[59] | 14=>[60] | 15=>[61] | _=>[])) (rd:=(fun _=>[])) (zr:=(fun _=>[]))
   (φ:=fun i vs=>match i,vs with | 0,[v46]=>v46=.bool p102.2 | 1,[v47]=>v47=.bool (!p102.2) | 2,[v48]=>v48=.bool (!p102.2) | 3,[v49]=>v49=gv (!(!p102.2)) (.pointer (some ⟨g0,0,none⟩)) | 4,[v50]=>v50=gv (!(!p102.2)) (.pointer (some ⟨g0,0,none⟩)) | 5,[v51]=>v51=gv (!(!p102.2)) (.pointer (some ⟨g0,3,none⟩)) | 6,[v52]=>v52=gv (!(!p102.2)) (.pointer (some ⟨g0,5,none⟩)) | 7,[v53]=>v53=gv (!(!p102.2)) (.slice A5 x5.length c5) | 8,[v54]=>v54=gv (!(!p102.2)) (.pointer (some ⟨g101,2,none⟩)) | 9,[v55]=>v55=gv (!(!p102.2)) (iv x9) | 10,[v56]=>v56=gv (!(!p102.2)) (.pointer (some ⟨g101,1,none⟩)) | 11,[v57]=>v57=gv (!(!p102.2)) (iv x8) | 12,[v58]=>v58=gv (!(!p102.2)) (.agg #[iv x9,iv x8]) | 13,[v59]=>v59=gv (!(!p102.2)) (.bool p128) | 14,[v60]=>v60=gv (!(!p102.2)) (.bool (!p128)) | 15,[v61]=>v61=.bool ((!p102.2)||(!p128)) | _,_=>True)
   (C:=fun _ _=>[])
   (κ:=(fun _=>none)) (Z:=(fun _=>[])) mixed f (by kernel_rfl) S ?_ ?_
  ·refine ⟨?_,?_,?_,?_,?_,?_,?_,?_,?_,?_,?_,?_,?_,?_,?_,?_,trivial⟩
   ·intro a u X' hB hu hp hr hz hl S
    replace S:St w0 u ([]++X'):=S
    exact .inl ⟨rfl,.bool p102.2,u,(run_move rfl (f.evB hB rfl rfl)),rfl,S⟩
   ·intro a u X' hB hu hp hr hz hl S
    replace S:St w0 u ([]++X'):=S
    have e46 : sl a 46=.bool p102.2:=hp 0 rfl
    exact .inl ⟨rfl,.bool (!p102.2),u,(run_not rfl (ev_sl e46)),rfl,S⟩
   ·intro a u X' hB hu hp hr hz hl S
    replace S:St w0 u ([]++X'):=S
    have e47 : sl a 47=.bool (!p102.2):=hp 1 rfl
    exact .inl ⟨rfl,.bool (!p102.2),u,(run_move rfl (ev_sl e47)),rfl,S⟩
   ·intro a u X' hB hu hp hr hz hl S
    replace S:St w0 u ([]++X'):=S
    have e48 : sl a 48=.bool (!p102.2):=hp 2 rfl
    exact gyf rfl rfl rfl e48 (fun hg=>⟨(gv_f hg).symm,S⟩) fun hg=>⟨.pointer (some ⟨g0,0,none⟩),u,(run_move rfl (f.evB hB rfl rfl)),(gv_t hg).symm,S⟩
   ·intro a u X' hB hu hp hr hz hl S
    replace S:St w0 u ([]++X'):=S
    have e48 : sl a 48=.bool (!p102.2):=hp 2 rfl
    have e49 : sl a 49=gv (!(!p102.2)) (.pointer (some ⟨g0,0,none⟩)):=hp 3 rfl
    exact gyf rfl rfl rfl e48 (fun hg=>⟨(gv_f hg).symm,S⟩) fun hg=>⟨.pointer (some ⟨g0,0,none⟩),u,(run_nilCheck rfl ((ev_sl e49).trans (gv_t hg))),(gv_t hg).symm,S⟩
   ·intro a u X' hB hu hp hr hz hl S
    replace S:St w0 u ([]++X'):=S
    have e48 : sl a 48=.bool (!p102.2):=hp 2 rfl
    have e50 : sl a 50=gv (!(!p102.2)) (.pointer (some ⟨g0,0,none⟩)):=hp 4 rfl
    exact gyf rfl rfl rfl e48 (fun hg=>⟨(gv_f hg).symm,S⟩) fun hg=>⟨.pointer (some ⟨g0,3,none⟩),u,(run_fieldAddr rfl fl43_2 ((ev_sl e50).trans (gv_t hg)) rfl),(gv_t hg).symm,S⟩
   ·intro a u X' hB hu hp hr hz hl S
    replace S:St w0 u ([]++X'):=S
    have e48 : sl a 48=.bool (!p102.2):=hp 2 rfl
    have e51 : sl a 51=gv (!(!p102.2)) (.pointer (some ⟨g0,3,none⟩)):=hp 5 rfl
    exact gyf rfl rfl rfl e48 (fun hg=>⟨(gv_f hg).symm,S⟩) fun hg=>⟨.pointer (some ⟨g0,5,none⟩),u,(run_fieldAddr rfl fl41_2 ((ev_sl e51).trans (gv_t hg)) rfl),(gv_t hg).symm,S⟩
   ·intro a u X' hB hu hp hr hz hl S
    replace S:St w0 u ([]++X'):=S
    have e48 : sl a 48=.bool (!p102.2):=hp 2 rfl
    have e52 : sl a 52=gv (!(!p102.2)) (.pointer (some ⟨g0,5,none⟩)):=hp 6 rfl
    exact gyf rfl rfl rfl e48 (fun hg=>⟨(gv_f hg).symm,S⟩) fun hg=>⟨.slice A5 x5.length c5,u,(run_load1 rfl one39 ((ev_sl e52).trans (gv_t hg)) ((gr_box S hl 1 rfl).cell rfl)),(gv_t hg).symm,S⟩
   ·intro a u X' hB hu hp hr hz hl S
    replace S:St w0 u ([]++X'):=S
    have e48 : sl a 48=.bool (!p102.2):=hp 2 rfl
    exact gyf rfl rfl rfl e48 (fun hg=>⟨(gv_f hg).symm,S⟩) fun hg=>⟨.pointer (some ⟨g101,2,none⟩),u,(run_fieldAddr rfl fl56_2 (f.evB hB rfl rfl) rfl),(gv_t hg).symm,S⟩
   ·intro a u X' hB hu hp hr hz hl S
    replace S:St w0 u ([]++X'):=S
    have e48 : sl a 48=.bool (!p102.2):=hp 2 rfl
    have e54 : sl a 54=gv (!(!p102.2)) (.pointer (some ⟨g101,2,none⟩)):=hp 8 rfl
    exact gyf rfl rfl rfl e48 (fun hg=>⟨(gv_f hg).symm,S⟩) fun hg=>⟨iv x9,u,(run_load1 rfl one3 ((ev_sl e54).trans (gv_t hg)) ((gr_box S hl 0 rfl).cell rfl)),(gv_t hg).symm,S⟩
   ·intro a u X' hB hu hp hr hz hl S
    replace S:St w0 u ([]++X'):=S
    have e48 : sl a 48=.bool (!p102.2):=hp 2 rfl
    exact gyf rfl rfl rfl e48 (fun hg=>⟨(gv_f hg).symm,S⟩) fun hg=>⟨.pointer (some ⟨g101,1,none⟩),u,(run_fieldAddr rfl fl56_1 (f.evB hB rfl rfl) rfl),(gv_t hg).symm,S⟩
   ·intro a u X' hB hu hp hr hz hl S
    replace S:St w0 u ([]++X'):=S
    have e48 : sl a 48=.bool (!p102.2):=hp 2 rfl
    have e56 : sl a 56=gv (!(!p102.2)) (.pointer (some ⟨g101,1,none⟩)):=hp 10 rfl
    exact gyf rfl rfl rfl e48 (fun hg=>⟨(gv_f hg).symm,S⟩) fun hg=>⟨iv x8,u,(run_load1 rfl one3 ((ev_sl e56).trans (gv_t hg)) ((gr_box S hl 0 rfl).cell rfl)),(gv_t hg).symm,S⟩
   ·intro a u X' hB hu hp hr hz hl S
    replace S:St w0 u ([]++X'):=S
    have e48 : sl a 48=.bool (!p102.2):=hp 2 rfl
    have e55 : sl a 55=gv (!(!p102.2)) (iv x9):=hp 9 rfl
    have e57 : sl a 57=gv (!(!p102.2)) (iv x8):=hp 11 rfl
    exact gyf rfl rfl rfl e48 (fun hg=>⟨(gv_f hg).symm,S⟩) fun hg=>⟨.agg #[iv x9,iv x8],u,(run_build (vs:=[(0,iv x9),(1,iv x8)]) rfl ⟨⟨rfl,((ev_sl e55).trans (gv_t hg))⟩,⟨rfl,((ev_sl e57).trans (gv_t hg))⟩,trivial⟩ (bd78_0_1 rfl rfl)),(gv_t hg).symm,S⟩
   ·intro a u X' hB hu hp hr hz hl S
    replace S:St w0 u ([]++X'):=S
    have e48 : sl a 48=.bool (!p102.2):=hp 2 rfl
    have e53 : sl a 53=gv (!(!p102.2)) (.slice A5 x5.length c5):=hp 7 rfl
    have e58 : sl a 58=gv (!(!p102.2)) (.agg #[iv x9,iv x8]):=hp 12 rfl
    rcases bb (!(!p102.2)) with hg | hg
    ·exact .inr (.inr (.inr ⟨gr_eg rfl (yf (gr_yield rfl rfl e48)) hg,(gv_f hg).symm,S⟩))
    refine .inr (.inr (.inl ⟨gr_eg rfl (yf (gr_yield rfl rfl e48)) hg,_,_,(run_call (vs:=[.slice A5 x5.length c5,.agg #[iv x9,iv x8]]) rfl rfl co100 ⟨((ev_sl e53).trans (gv_t hg)),((ev_sl e58).trans (gv_t hg)),trivial⟩),?_⟩))
    refine Calls.mono (c_slices_Contains_impl_Permit_impl_Permit (x0:=x5) (x1:=x9) (x2:=x8) ⟨(gr_rc S hl 6 rfl),rfl⟩ (gb_t h128 hg)) ?_
    rintro e w1 ⟨rfl,T⟩
    exact ⟨_,rfl,(gv_t hg).symm,S.call0 T⟩
   ·intro a u X' hB hu hp hr hz hl S
    replace S:St w0 u ([]++X'):=S
    have e48 : sl a 48=.bool (!p102.2):=hp 2 rfl
    have e59 : sl a 59=gv (!(!p102.2)) (.bool p128):=hp 13 rfl
    exact gyf rfl rfl rfl e48 (fun hg=>⟨(gv_f hg).symm,S⟩) fun hg=>⟨.bool (!p128),u,(run_not rfl ((ev_sl e59).trans (gv_t hg))),(gv_t hg).symm,S⟩
   intro a u X' hB hu hp hr hz hl S
   replace S:St w0 u ([]++X'):=S
   have e48 : sl a 48=.bool (!p102.2):=hp 2 rfl
   have e60 : sl a 60=gv (!(!p102.2)) (.bool (!p128)):=hp 14 rfl
   exact .inl ⟨rfl,.bool ((!p102.2)||(!p128)),u,(run_pick_or rfl (ev_sl e48) (ev_const _ _) (fun hp=>((ev_sl e60).trans (gv_t (not_t hp))))),rfl,S⟩
  intro a u hB hp S
  obtain ⟨q0,q1,q2,q3,q4,q5,q6,q7,q8,q9,q10,q11,q12,q13,q14,q15,-⟩:=hp
  replace S:St w0 u (Asn.box g101 56 #[iv x7,iv x8,iv x9] :: Asn.box g0 43 #[iv x0,.slice A1 x1.length c1,.slice A2 x2.length c2,.slice A3 x3.length c3,.slice A4 x4.length c4,.slice A5 x5.length c5,.slice A6 x6.length c6] :: Asn.row 130 3 (.slice A1 x1.length c1) x1.length (x1.flatMap eLine) :: Asn.row 110 2 (.slice A2 x2.length c2) x2.length (x2.flatMap eBus) :: Asn.row 4 1 (.slice A3 x3.length c3) x3.length (x3.flatMap eB) :: Asn.row 4 1 (.slice A4 x4.length c4) x4.length (x4.flatMap eB) :: Asn.row 78 2 (.slice A5 x5.length c5) x5.length (x5.flatMap ePermit) :: Asn.row 3 1 (.slice A6 x6.length c6) x6.length (x6.flatMap eI) :: X):=S
  have f:=f.region hB [(46,_),(47,_),(48,_),(49,_),(50,_),(51,_),(52,_),(53,_),(54,_),(55,_),(56,_),(57,_),(58,_),(59,_),(60,_),(61,_)] (allSl_mem ⟨q0,q1,q2,q3,q4,q5,q6,q7,q8,q9,q10,q11,q12,q13,q14,q15,trivial⟩) rfl
  clear hB q0 q1 q2 q3 q4 q5 q6 q7 q8 q9 q10 q11 q12 q13 q14 q15
  cases hc129:((!p102.2)||(!p128))
  ·replace hM:=bif_f hc129 hM
   refine cond_f f rfl hc129 ?_
   refine wp_skip ?_
   revert a;refine sr (mv rfl rfl (mv rfl rfl (ov rfl (fun a f=>run_nilCheck rfl (f.ev rfl)) (ov rfl (fun a f=>run_fieldAddr rfl fl43_3 (f.ev rfl) rfl) (ov rfl (fun a f=>run_load1 rfl one30 (f.ev rfl) (S.cell 1 rfl rfl)) (mv rfl rfl (mv rfl rfl (ov rfl (fun a f=>run_add (z:=w64 (p102.1+1)) (f.ev rfl) rfl rfl rfl) fun a f=>?_))))))))
   obtain ⟨p130,h130,hM⟩:=bind_ex hM
   refine op_call rfl rfl f rfl (run_call (vs:=[_,_,_]) rfl rfl co101 ⟨(f.ev rfl),(f.ev rfl),(f.ev rfl),trivial⟩) (c_slices_Delete_int_int rfl (show St w0 _ (Asn.row 3 1 (.slice A6 x6.length c6) x6.length (x6.flatMap eI) :: Asn.box g101 56 #[iv x7,iv x8,iv x9] :: Asn.box g0 43 #[iv x0,.slice A1 x1.length c1,.slice A2 x2.length c2,.slice A3 x3.length c3,.slice A4 x4.length c4,.slice A5 x5.length c5,.slice A6 x6.length c6] :: Asn.row 130 3 (.slice A1 x1.length c1) x1.length (x1.flatMap eLine) :: Asn.row 110 2 (.slice A2 x2.length c2) x2.length (x2.flatMap eBus) :: Asn.row 4 1 (.slice A3 x3.length c3) x3.length (x3.flatMap eB) :: Asn.row 4 1 (.slice A4 x4.length c4) x4.length (x4.flatMap eB) :: Asn.row 78 2 (.slice A5 x5.length c5) x5.length (x5.flatMap ePermit) :: X) from S.selT (M:=[.row 3 1 (.slice A6 x6.length c6) x6.length (x6.flatMap eI),.box g101 56 #[iv x7,iv x8,iv x9],.box g0 43 #[iv x0,.slice A1 x1.length c1,.slice A2 x2.length c2,.slice A3 x3.length c3,.slice A4 x4.length c4,.slice A5 x5.length c5,.slice A6 x6.length c6],.row 130 3 (.slice A1 x1.length c1) x1.length (x1.flatMap eLine),.row 110 2 (.slice A2 x2.length c2) x2.length (x2.flatMap eBus),.row 4 1 (.slice A3 x3.length c3) x3.length (x3.flatMap eB),.row 4 1 (.slice A4 x4.length c4) x4.length (x4.flatMap eB),.row 78 2 (.slice A5 x5.length c5) x5.length (x5.flatMap ePermit)]) 8 [7,0,1,2,3,4,5,6] rfl rfl rfl) h130) ?_
   rintro e u ⟨B131,n132,d133,rfl,rfl,T⟩
   refine ⟨_,rfl,?_⟩
   clear f;intro a f
   clear S;have S:=T;clear T
   revert a;refine ov rfl (fun a f=>run_nilCheck rfl (f.ev rfl)) (ov rfl (fun a f=>run_fieldAddr rfl fl43_3 (f.ev rfl) rfl) fun a f=>?_)
   refine op_do rfl rfl (run_store (cs':=#[iv x0,.slice A1 x1.length c1,.slice A2 x2.length c2,.slice A3 x3.length c3,.slice A4 x4.length c4,.slice A5 x5.length c5,.slice B131 p130.length d133]) rfl sz30 (f.ev rfl) (f.ev rfl) rfl rfl rfl (S.free 2 rfl) rfl rfl) ?_;replace S:=S.put 2 rfl (#[iv x0,.slice A1 x1.length c1,.slice A2 x2.length c2,.slice A3 x3.length c3,.slice A4 x4.length c4,.slice A5 x5.length c5,.slice B131 p130.length d133])
   generalize World.setRow _ _ _=u at S ⊢
   refine wn ?_
   revert a;refine sr (ov rfl (fun a f=>run_assign rfl rfl) fun a f=>wn ?_)
   refine wp_ret ?_
   repeat with_reducible first|apply tr|apply ir|apply nr
   refine ret1_gw (.inl rfl) f rfl (res_tmp (f.ev rfl)) ?_
   obtain rfl:=Option.some.inj hM
   exact ⟨A1,x1.length,c1,A2,x2.length,c2,A3,x3.length,c3,A4,x4.length,c4,A5,x5.length,c5,B131,p130.length,d133,rfl,rfl,rfl,rfl,rfl,rfl,rfl,S.selT (M:=[.box g0 43 #[iv x0,.slice A1 x1.length c1,.slice A2 x2.length c2,.slice A3 x3.length c3,.slice A4 x4.length c4,.slice A5 x5.length c5,.slice B131 p130.length d133],.row 130 3 (.slice A1 x1.length c1) x1.length (x1.flatMap eLine),.row 110 2 (.slice A2 x2.length c2) x2.length (x2.flatMap eBus),.row 4 1 (.slice A3 x3.length c3) x3.length (x3.flatMap eB),.row 4 1 (.slice A4 x4.length c4) x4.length (x4.flatMap eB),.row 78 2 (.slice A5 x5.length c5) x5.length (x5.flatMap ePermit),.row 3 1 (.slice B131 p130.length d133) p130.length (p130.flatMap eI)]) 8 [2,3,4,5,6,7,0] rfl rfl rfl⟩
  replace hM:=bif_t hc129 hM
  refine cond_t f rfl hc129 ?_
  revert a;refine sr (ov rfl (fun a f=>run_assign rfl rfl) fun a f=>wn ?_)
  refine wp_ret ?_
  repeat with_reducible first|apply tr|apply ir|apply nr
  refine ret1_gw (.inl rfl) f rfl (res_tmp (f.ev rfl)) ?_
  obtain rfl:=Option.some.inj hM
  exact ⟨A1,x1.length,c1,A2,x2.length,c2,A3,x3.length,c3,A4,x4.length,c4,A5,x5.length,c5,A6,x6.length,c6,rfl,rfl,rfl,rfl,rfl,rfl,rfl,S.selT (M:=[.box g0 43 #[iv x0,.slice A1 x1.length c1,.slice A2 x2.length c2,.slice A3 x3.length c3,.slice A4 x4.length c4,.slice A5 x5.length c5,.slice A6 x6.length c6],.row 130 3 (.slice A1 x1.length c1) x1.length (x1.flatMap eLine),.row 110 2 (.slice A2 x2.length c2) x2.length (x2.flatMap eBus),.row 4 1 (.slice A3 x3.length c3) x3.length (x3.flatMap eB),.row 4 1 (.slice A4 x4.length c4) x4.length (x4.flatMap eB),.row 78 2 (.slice A5 x5.length c5) x5.length (x5.flatMap ePermit),.row 3 1 (.slice A6 x6.length c6) x6.length (x6.flatMap eI)]) 8 [1,2,3,4,5,6,7] rfl rfl rfl⟩
 replace hM:=bif_t hc103 hM
 refine cond_t f rfl hc103 ?_
 refine ws ?_
 revert a;refine sr (mv rfl rfl fun a f=>wn ?_)
 cases hc134:(p102.2)
 ·replace hM:=bif_f hc134 hM
  refine cond_f f rfl hc134 ?_
  refine wp_skip ?_
  refine ws ?_
  obtain ⟨p135,h135,hM⟩:=bind_ex hM
  refine region_gw (D:=[24,25,26,27,28,29,30,31,32,33,34,35]) (Lr:=(Asn.box g101 56 #[iv x7,iv x8,iv x9] :: Asn.row 130 3 (.slice A1 x1.length c1) x1.length (x1.flatMap eLine) :: Asn.row 110 2 (.slice A2 x2.length c2) x2.length (x2.flatMap eBus) :: Asn.row 4 1 (.slice A3 x3.length c3) x3.length (x3.flatMap eB) :: Asn.row 4 1 (.slice A4 x4.length c4) x4.length (x4.flatMap eB) :: Asn.row 78 2 (.slice A5 x5.length c5) x5.length (x5.flatMap ePermit) :: X)) (deps:=(fun | 0=>[24] | 1=>[25] | 2=>[26] | 3=>[27] | 4=>[28] | 5=>[29] | 6=>[30] | 7=>[31] | 8=>[32] | 9=>[33] | 10=>[34] | 11=>[35] | 12=>[35,33] | _=>[])) (rd:=(fun _=>[])) (zr:=(fun | 4=>[12] | _=>[]))
   (φ:=fun i vs=>match i,vs with | 0,[v24]=>v24=.pointer (some ⟨g0,0,none⟩) | 1,[v25]=>v25=.pointer (some ⟨g0,0,none⟩) | 2,[v26]=>v26=.pointer (some ⟨g0,0,none⟩) | 3,[v27]=>v27=.pointer (some ⟨g0,6,none⟩) | 4,[v28]=>v28=.slice A6 x6.length c6 | 5,[v29]=>v29=iv p102.1 | 6,[v30]=>v30=.pointer (some ⟨g101,1,none⟩) | 7,[v31]=>v31=iv x8 | 8,[v32]=>v32=.slice (slA v32) ((([x8]:List Int):List Int).length) ((([x8]:List Int):List Int).length) | 9,[v33]=>v33=.slice (slA v33) p135.length (slC v33) | 10,[v34]=>v34=.pointer (some ⟨g0,0,none⟩) | 11,[v35]=>v35=.pointer (some ⟨g0,6,none⟩) | _,_=>True)
   (C:=fun i vs=>match i,vs with | 8,[v32]=>[.row 3 1 (.slice (slA v32) ((([x8]:List Int):List Int).length) ((([x8]:List Int):List Int).length)) ((([x8]:List Int):List Int).length) (([x8]:List Int).flatMap eI)] | 9,[v33]=>[.row 3 1 (.slice (slA v33) p135.length (slC v33)) p135.length (p135.flatMap eI)] | 12,[v35,v33]=>[.box g0 43 #[iv x0,.slice A1 x1.length c1,.slice A2 x2.length c2,.slice A3 x3.length c3,.slice A4 x4.length c4,.slice A5 x5.length c5,.slice (slA v33) p135.length (slC v33)]] | _,_=>[])
   (κ:=(fun | 8=>some 9 | _=>none)) (Z:=(fun | 9=>[.row 3 1 (.slice A6 x6.length c6) x6.length (x6.flatMap eI)] | 12=>[.box g0 43 #[iv x0,.slice A1 x1.length c1,.slice A2 x2.length c2,.slice A3 x3.length c3,.slice A4 x4.length c4,.slice A5 x5.length c5,.slice A6 x6.length c6]] | _=>[])) mixed f (by kernel_rfl) (show St w0 _ (Asn.row 3 1 (.slice A6 x6.length c6) x6.length (x6.flatMap eI) :: Asn.box g0 43 #[iv x0,.slice A1 x1.length c1,.slice A2 x2.length c2,.slice A3 x3.length c3,.slice A4 x4.length c4,.slice A5 x5.length c5,.slice A6 x6.length c6] :: Asn.box g101 56 #[iv x7,iv x8,iv x9] :: Asn.row 130 3 (.slice A1 x1.length c1) x1.length (x1.flatMap eLine) :: Asn.row 110 2 (.slice A2 x2.length c2) x2.length (x2.flatMap eBus) :: Asn.row 4 1 (.slice A3 x3.length c3) x3.length (x3.flatMap eB) :: Asn.row 4 1 (.slice A4 x4.length c4) x4.length (x4.flatMap eB) :: Asn.row 78 2 (.slice A5 x5.length c5) x5.length (x5.flatMap ePermit) :: X) from S.selT (M:=[.row 3 1 (.slice A6 x6.length c6) x6.length (x6.flatMap eI),.box g0 43 #[iv x0,.slice A1 x1.length c1,.slice A2 x2.length c2,.slice A3 x3.length c3,.slice A4 x4.length c4,.slice A5 x5.length c5,.slice A6 x6.length c6],.box g101 56 #[iv x7,iv x8,iv x9],.row 130 3 (.slice A1 x1.length c1) x1.length (x1.flatMap eLine),.row 110 2 (.slice A2 x2.length c2) x2.length (x2.flatMap eBus),.row 4 1 (.slice A3 x3.length c3) x3.length (x3.flatMap eB),.row 4 1 (.slice A4 x4.length c4) x4.length (x4.flatMap eB),.row 78 2 (.slice A5 x5.length c5) x5.length (x5.flatMap ePermit)]) 8 [7,1,0,2,3,4,5,6] rfl rfl rfl) ?_ ?_
  ·refine ⟨?_,?_,?_,?_,?_,?_,?_,?_,?_,?_,?_,?_,?_,trivial⟩
   ·intro a u X' hB hu hp hr hz hl S
    replace S:St w0 u ([]++X'):=S
    exact .inl ⟨rfl,.pointer (some ⟨g0,0,none⟩),u,(run_move rfl (f.evB hB rfl rfl)),rfl,S⟩
   ·intro a u X' hB hu hp hr hz hl S
    replace S:St w0 u ([]++X'):=S
    exact .inl ⟨rfl,.pointer (some ⟨g0,0,none⟩),u,(run_move rfl (f.evB hB rfl rfl)),rfl,S⟩
   ·intro a u X' hB hu hp hr hz hl S
    replace S:St w0 u ([]++X'):=S
    have e25 : sl a 25=.pointer (some ⟨g0,0,none⟩):=hp 1 rfl
    exact .inl ⟨rfl,.pointer (some ⟨g0,0,none⟩),u,(run_nilCheck rfl (ev_sl e25)),rfl,S⟩
   ·intro a u X' hB hu hp hr hz hl S
    replace S:St w0 u ([]++X'):=S
    have e26 : sl a 26=.pointer (some ⟨g0,0,none⟩):=hp 2 rfl
    exact .inl ⟨rfl,.pointer (some ⟨g0,6,none⟩),u,(run_fieldAddr rfl fl43_3 (ev_sl e26) rfl),rfl,S⟩
   ·intro a u X' hB hu hp hr hz hl S
    replace S:St w0 u ([]++X'):=S
    have e27 : sl a 27=.pointer (some ⟨g0,6,none⟩):=hp 3 rfl
    exact .inl ⟨rfl,.slice A6 x6.length c6,u,(run_load1 rfl one30 (ev_sl e27) ((show Bk _ _ _ _ from S.mem (List.mem_append_right _ (hz 12 (List.mem_of_getElem? (i:=0) rfl) _ (List.mem_of_getElem? (i:=0) rfl)))).cell rfl)),rfl,S⟩
   ·intro a u X' hB hu hp hr hz hl S
    replace S:St w0 u ([]++X'):=S
    exact .inl ⟨rfl,iv p102.1,u,(run_move rfl (f.evB hB rfl rfl)),rfl,S⟩
   ·intro a u X' hB hu hp hr hz hl S
    replace S:St w0 u ([]++X'):=S
    exact .inl ⟨rfl,.pointer (some ⟨g101,1,none⟩),u,(run_fieldAddr rfl fl56_1 (f.evB hB rfl rfl) rfl),rfl,S⟩
   ·intro a u X' hB hu hp hr hz hl S
    replace S:St w0 u ([]++X'):=S
    have e30 : sl a 30=.pointer (some ⟨g101,1,none⟩):=hp 6 rfl
    exact .inl ⟨rfl,iv x8,u,(run_load1 rfl one3 (ev_sl e30) ((gr_box S hl 0 rfl).cell rfl)),rfl,S⟩
   ·intro a u X' hB hu hp hr hz hl S
    replace S:St w0 u ([]++X'):=S
    have e31 : sl a 31=iv x8:=hp 7 rfl
    exact .inl ⟨rfl,_,_,run_buildS (vs:=[(0,iv x8)]) rfl ⟨⟨rfl,(ev_sl e31)⟩,trivial⟩ (bs30_1_0 rfl),rfl,S.newrowL (e:=eI) (ls:=([x8]:List Int)) rfl eI_len (Nat.le_of_ble_eq_true rfl)⟩
   ·intro a u X' hB hu hp hr hz hl S
    replace S:St w0 u ([.row 3 1 (.slice A6 x6.length c6) x6.length (x6.flatMap eI),.row 3 1 (.slice (slA (sl a 32)) ((([x8]:List Int):List Int).length) ((([x8]:List Int):List Int).length)) ((([x8]:List Int):List Int).length) (([x8]:List Int).flatMap eI)]++X'):=S
    have e28 : sl a 28=.slice A6 x6.length c6:=hp 4 rfl
    have e29 : sl a 29=iv p102.1:=hp 5 rfl
    have e32 : sl a 32=.slice (slA (sl a 32)) ((([x8]:List Int):List Int).length) ((([x8]:List Int):List Int).length):=hp 8 rfl
    refine .inr (.inr (.inl ⟨rfl,_,_,(run_call (vs:=[.slice A6 x6.length c6,iv p102.1,.slice (slA (sl a 32)) ((([x8]:List Int):List Int).length) ((([x8]:List Int):List Int).length)]) rfl rfl co99 ⟨(ev_sl e28),(ev_sl e29),(ev_sl e32),trivial⟩),?_⟩))
    refine Calls.mono (c_slices_Insert_int_int (x0:=x6) (x1:=p102.1) (x2:=([x8]:List Int)) rfl rfl S h135) ?_
    rintro e w1 ⟨B142,n143,d144,rfl,rfl,T⟩
    exact ⟨_,rfl,rfl,T⟩
   ·intro a u X' hB hu hp hr hz hl S
    replace S:St w0 u ([]++X'):=S
    have e24 : sl a 24=.pointer (some ⟨g0,0,none⟩):=hp 0 rfl
    exact .inl ⟨rfl,.pointer (some ⟨g0,0,none⟩),u,(run_nilCheck rfl (ev_sl e24)),rfl,S⟩
   ·intro a u X' hB hu hp hr hz hl S
    replace S:St w0 u ([]++X'):=S
    have e34 : sl a 34=.pointer (some ⟨g0,0,none⟩):=hp 10 rfl
    exact .inl ⟨rfl,.pointer (some ⟨g0,6,none⟩),u,(run_fieldAddr rfl fl43_3 (ev_sl e34) rfl),rfl,S⟩
   intro a u X' hB hu hp hr hz hl S
   replace S:St w0 u ([.box g0 43 #[iv x0,.slice A1 x1.length c1,.slice A2 x2.length c2,.slice A3 x3.length c3,.slice A4 x4.length c4,.slice A5 x5.length c5,.slice A6 x6.length c6]]++X'):=S
   have e33 : sl a 33=.slice (slA (sl a 33)) p135.length (slC (sl a 33)):=hp 9 rfl
   have e35 : sl a 35=.pointer (some ⟨g0,6,none⟩):=hp 11 rfl
   exact .inr (.inl ⟨rfl,_,run_store (cs':=#[iv x0,.slice A1 x1.length c1,.slice A2 x2.length c2,.slice A3 x3.length c3,.slice A4 x4.length c4,.slice A5 x5.length c5,.slice (slA (sl a 33)) p135.length (slC (sl a 33))]) rfl sz30 (ev_sl e35) (ev_sl e33) rfl rfl rfl (S.free 0 rfl) rfl rfl,trivial,S.put 0 rfl (#[iv x0,.slice A1 x1.length c1,.slice A2 x2.length c2,.slice A3 x3.length c3,.slice A4 x4.length c4,.slice A5 x5.length c5,.slice (slA (sl a 33)) p135.length (slC (sl a 33))])⟩)
  intro a u hB hp S
  obtain ⟨q0,q1,q2,q3,q4,q5,q6,q7,q8,q9,q10,q11,q12,-⟩:=hp
  replace S:St w0 u (Asn.row 3 1 (.slice (slA (sl a 33)) p135.length (slC (sl a 33))) p135.length (p135.flatMap eI) :: Asn.box g0 43 #[iv x0,.slice A1 x1.length c1,.slice A2 x2.length c2,.slice A3 x3.length c3,.slice A4 x4.length c4,.slice A5 x5.length c5,.slice (slA (sl a 33)) p135.length (slC (sl a 33))] :: Asn.box g101 56 #[iv x7,iv x8,iv x9] :: Asn.row 130 3 (.slice A1 x1.length c1) x1.length (x1.flatMap eLine) :: Asn.row 110 2 (.slice A2 x2.length c2) x2.length (x2.flatMap eBus) :: Asn.row 4 1 (.slice A3 x3.length c3) x3.length (x3.flatMap eB) :: Asn.row 4 1 (.slice A4 x4.length c4) x4.length (x4.flatMap eB) :: Asn.row 78 2 (.slice A5 x5.length c5) x5.length (x5.flatMap ePermit) :: X):=S
  have f:=f.region hB [(24,.pointer (some ⟨g0,0,none⟩)),(25,.pointer (some ⟨g0,0,none⟩)),(26,.pointer (some ⟨g0,0,none⟩)),(27,.pointer (some ⟨g0,6,none⟩)),(28,.slice A6 x6.length c6),(29,iv p102.1),(30,.pointer (some ⟨g101,1,none⟩)),(31,iv x8),(32,.slice (slA (sl a 32)) ((([x8]:List Int):List Int).length) ((([x8]:List Int):List Int).length)),(33,.slice (slA (sl a 33)) p135.length (slC (sl a 33))),(34,.pointer (some ⟨g0,0,none⟩)),(35,.pointer (some ⟨g0,6,none⟩))] (allSl_mem ⟨q0,q1,q2,q3,q4,q5,q6,q7,q8,q9,q10,q11,trivial⟩) rfl
  clear hB q0 q1 q2 q3 q4 q5 q6 q7 q8 q9 q10 q11 q12
  generalize slA (sl a 32)=B145 at *
  generalize slA (sl a 33)=B146 at *
  generalize slC (sl a 33)=d147 at *
  refine ws ?_
  obtain ⟨hk148,hM⟩:=chk_ex hM
  replace hk148:=ixB_t hk148
  refine region_gw (D:=[36,37,38,39,40,41,42,43]) (Lr:=(Asn.row 3 1 (.slice B146 p135.length d147) p135.length (p135.flatMap eI) :: Asn.box g0 43 #[iv x0,.slice A1 x1.length c1,.slice A2 x2.length c2,.slice A3 x3.length c3,.slice A4 x4.length c4,.slice A5 x5.length c5,.slice B146 p135.length d147] :: Asn.box g101 56 #[iv x7,iv x8,iv x9] :: Asn.row 130 3 (.slice A1 x1.length c1) x1.length (x1.flatMap eLine) :: Asn.row 110 2 (.slice A2 x2.length c2) x2.length (x2.flatMap eBus) :: Asn.row 4 1 (.slice A4 x4.length c4) x4.length (x4.flatMap eB) :: Asn.row 78 2 (.slice A5 x5.length c5) x5.length (x5.flatMap ePermit) :: X)) (deps:=(fun | 0=>[36] | 1=>[37] | 2=>[38] | 3=>[39] | 4=>[40] | 5=>[41] | 6=>[42] | 7=>[43] | 8=>[43] | _=>[])) (rd:=(fun _=>[])) (zr:=(fun | 7=>[8] | _=>[]))
   (φ:=fun i vs=>match i,vs with | 0,[v36]=>v36=.pointer (some ⟨g0,0,none⟩) | 1,[v37]=>v37=.pointer (some ⟨g0,0,none⟩) | 2,[v38]=>v38=.pointer (some ⟨g0,3,none⟩) | 3,[v39]=>v39=.pointer (some ⟨g0,3,none⟩) | 4,[v40]=>v40=.slice A3 x3.length c3 | 5,[v41]=>v41=.pointer (some ⟨g101,1,none⟩) | 6,[v42]=>v42=iv x8 | 7,[v43]=>v43=.pointer (some ⟨adB A3,adO A3+x8.toNat*1,none⟩) | _,_=>True)
   (C:=fun i vs=>match i,vs with | 8,[v43]=>[.row 4 1 (.slice A3 x3.length c3) x3.length ((x3.set x8.toNat false).flatMap eB)] | _,_=>[])
   (κ:=(fun _=>none)) (Z:=(fun | 8=>[.row 4 1 (.slice A3 x3.length c3) x3.length (x3.flatMap eB)] | _=>[])) mixed f (by kernel_rfl) (show St w0 _ (Asn.row 4 1 (.slice A3 x3.length c3) x3.length (x3.flatMap eB) :: Asn.row 3 1 (.slice B146 p135.length d147) p135.length (p135.flatMap eI) :: Asn.box g0 43 #[iv x0,.slice A1 x1.length c1,.slice A2 x2.length c2,.slice A3 x3.length c3,.slice A4 x4.length c4,.slice A5 x5.length c5,.slice B146 p135.length d147] :: Asn.box g101 56 #[iv x7,iv x8,iv x9] :: Asn.row 130 3 (.slice A1 x1.length c1) x1.length (x1.flatMap eLine) :: Asn.row 110 2 (.slice A2 x2.length c2) x2.length (x2.flatMap eBus) :: Asn.row 4 1 (.slice A4 x4.length c4) x4.length (x4.flatMap eB) :: Asn.row 78 2 (.slice A5 x5.length c5) x5.length (x5.flatMap ePermit) :: X) from S.selT (M:=[.row 4 1 (.slice A3 x3.length c3) x3.length (x3.flatMap eB),.row 3 1 (.slice B146 p135.length d147) p135.length (p135.flatMap eI),.box g0 43 #[iv x0,.slice A1 x1.length c1,.slice A2 x2.length c2,.slice A3 x3.length c3,.slice A4 x4.length c4,.slice A5 x5.length c5,.slice B146 p135.length d147],.box g101 56 #[iv x7,iv x8,iv x9],.row 130 3 (.slice A1 x1.length c1) x1.length (x1.flatMap eLine),.row 110 2 (.slice A2 x2.length c2) x2.length (x2.flatMap eBus),.row 4 1 (.slice A4 x4.length c4) x4.length (x4.flatMap eB),.row 78 2 (.slice A5 x5.length c5) x5.length (x5.flatMap ePermit)]) 8 [5,0,1,2,3,4,6,7] rfl rfl rfl) ?_ ?_
  ·refine ⟨?_,?_,?_,?_,?_,?_,?_,?_,?_,trivial⟩
   ·intro a u X' hB hu hp hr hz hl S
    replace S:St w0 u ([]++X'):=S
    exact .inl ⟨rfl,.pointer (some ⟨g0,0,none⟩),u,(run_move rfl (f.evB hB rfl rfl)),rfl,S⟩
   ·intro a u X' hB hu hp hr hz hl S
    replace S:St w0 u ([]++X'):=S
    have e36 : sl a 36=.pointer (some ⟨g0,0,none⟩):=hp 0 rfl
    exact .inl ⟨rfl,.pointer (some ⟨g0,0,none⟩),u,(run_nilCheck rfl (ev_sl e36)),rfl,S⟩
   ·intro a u X' hB hu hp hr hz hl S
    replace S:St w0 u ([]++X'):=S
    have e37 : sl a 37=.pointer (some ⟨g0,0,none⟩):=hp 1 rfl
    exact .inl ⟨rfl,.pointer (some ⟨g0,3,none⟩),u,(run_fieldAddr rfl fl43_2 (ev_sl e37) rfl),rfl,S⟩
   ·intro a u X' hB hu hp hr hz hl S
    replace S:St w0 u ([]++X'):=S
    have e38 : sl a 38=.pointer (some ⟨g0,3,none⟩):=hp 2 rfl
    exact .inl ⟨rfl,.pointer (some ⟨g0,3,none⟩),u,(run_fieldAddr rfl fl41_0 (ev_sl e38) rfl),rfl,S⟩
   ·intro a u X' hB hu hp hr hz hl S
    replace S:St w0 u ([]++X'):=S
    have e39 : sl a 39=.pointer (some ⟨g0,3,none⟩):=hp 3 rfl
    exact .inl ⟨rfl,.slice A3 x3.length c3,u,(run_load1 rfl one26 (ev_sl e39) ((gr_box S hl 1 rfl).cell rfl)),rfl,S⟩
   ·intro a u X' hB hu hp hr hz hl S
    replace S:St w0 u ([]++X'):=S
    exact .inl ⟨rfl,.pointer (some ⟨g101,1,none⟩),u,(run_fieldAddr rfl fl56_1 (f.evB hB rfl rfl) rfl),rfl,S⟩
   ·intro a u X' hB hu hp hr hz hl S
    replace S:St w0 u ([]++X'):=S
    have e41 : sl a 41=.pointer (some ⟨g101,1,none⟩):=hp 5 rfl
    exact .inl ⟨rfl,iv x8,u,(run_load1 rfl one3 (ev_sl e41) ((gr_box S hl 2 rfl).cell rfl)),rfl,S⟩
   ·intro a u X' hB hu hp hr hz hl S
    replace S:St w0 u ([]++X'):=S
    have e40 : sl a 40=.slice A3 x3.length c3:=hp 4 rfl
    have e42 : sl a 42=iv x8:=hp 6 rfl
    exact .inl ⟨rfl,.pointer (some ⟨adB A3,adO A3+x8.toNat*1,none⟩),u,(run_indexAddr (b:=adB A3) (off:=adO A3) rfl Tryz.underlying26 sz4 ((ev_sl e40).trans (congrArg (fun A=>Value.slice A x3.length c3) ((own_rc (show Ow _ _ _ _ _ _ from S.mem (List.mem_append_right _ (hz 8 (List.mem_of_getElem? (i:=0) rfl) _ (List.mem_of_getElem? (i:=0) rfl))))).rd.ad (ix_pos hk148)))) (ev_sl e42) hk148.1 hk148.2 (k':=adO A3+x8.toNat*1) rfl),rfl,S⟩
   intro a u X' hB hu hp hr hz hl S
   replace S:St w0 u ([.row 4 1 (.slice A3 x3.length c3) x3.length (x3.flatMap eB)]++X'):=S
   have e43 : sl a 43=.pointer (some ⟨adB A3,adO A3+x8.toNat*1,none⟩):=hp 7 rfl
   obtain ⟨w',hrun,S'⟩:=run_storeElN (P:=Tryz.prog) (ρ:=a.eval) (y0:=false) (off:=0) S 4 (.tmp 43) (.const (.bool false)) (i:=0) sz4 (ev_sl e43) (ev_const _ _) rfl rfl rfl rfl rfl eB_len false (ix_ltn hk148 rfl) rfl rfl
   exact .inr (.inl ⟨rfl,w',hrun _ rfl,trivial,S'⟩)
  intro a u hB hp S
  obtain ⟨q0,q1,q2,q3,q4,q5,q6,q7,q8,-⟩:=hp
  replace S:St w0 u (Asn.row 4 1 (.slice A3 x3.length c3) x3.length ((x3.set x8.toNat false).flatMap eB) :: Asn.row 3 1 (.slice B146 p135.length d147) p135.length (p135.flatMap eI) :: Asn.box g0 43 #[iv x0,.slice A1 x1.length c1,.slice A2 x2.length c2,.slice A3 x3.length c3,.slice A4 x4.length c4,.slice A5 x5.length c5,.slice B146 p135.length d147] :: Asn.box g101 56 #[iv x7,iv x8,iv x9] :: Asn.row 130 3 (.slice A1 x1.length c1) x1.length (x1.flatMap eLine) :: Asn.row 110 2 (.slice A2 x2.length c2) x2.length (x2.flatMap eBus) :: Asn.row 4 1 (.slice A4 x4.length c4) x4.length (x4.flatMap eB) :: Asn.row 78 2 (.slice A5 x5.length c5) x5.length (x5.flatMap ePermit) :: X):=S
  have f:=f.region hB [(36,_),(37,_),(38,_),(39,_),(40,_),(41,_),(42,_),(43,_)] (allSl_mem ⟨q0,q1,q2,q3,q4,q5,q6,q7,trivial⟩) rfl
  clear hB q0 q1 q2 q3 q4 q5 q6 q7 q8
  revert a;refine sr (ov rfl (fun a f=>run_assign rfl rfl) fun a f=>wn ?_)
  refine wp_ret ?_
  repeat with_reducible first|apply tr|apply ir|apply nr
  refine ret1_gw (.inl rfl) f rfl (res_tmp (f.ev rfl)) ?_
  obtain rfl:=Option.some.inj hM
  exact ⟨A1,x1.length,c1,A2,x2.length,c2,A3,x3.length,c3,A4,x4.length,c4,A5,x5.length,c5,B146,p135.length,d147,rfl,rfl,rfl,(len_set rfl),rfl,rfl,rfl,S.selT (M:=[.box g0 43 #[iv x0,.slice A1 x1.length c1,.slice A2 x2.length c2,.slice A3 x3.length c3,.slice A4 x4.length c4,.slice A5 x5.length c5,.slice B146 p135.length d147],.row 130 3 (.slice A1 x1.length c1) x1.length (x1.flatMap eLine),.row 110 2 (.slice A2 x2.length c2) x2.length (x2.flatMap eBus),.row 4 1 (.slice A3 x3.length c3) x3.length ((x3.set x8.toNat false).flatMap eB),.row 4 1 (.slice A4 x4.length c4) x4.length (x4.flatMap eB),.row 78 2 (.slice A5 x5.length c5) x5.length (x5.flatMap ePermit),.row 3 1 (.slice B146 p135.length d147) p135.length (p135.flatMap eI)]) 8 [2,4,5,0,6,7,1] rfl rfl rfl⟩
 replace hM:=bif_t hc134 hM
 refine cond_t f rfl hc134 ?_
 revert a;refine sr (ov rfl (fun a f=>run_assign rfl rfl) fun a f=>wn ?_)
 refine wp_ret ?_
 repeat with_reducible first|apply tr|apply ir|apply nr
 refine ret1_gw (.inl rfl) f rfl (res_tmp (f.ev rfl)) ?_
 obtain rfl:=Option.some.inj hM
 exact ⟨A1,x1.length,c1,A2,x2.length,c2,A3,x3.length,c3,A4,x4.length,c4,A5,x5.length,c5,A6,x6.length,c6,rfl,rfl,rfl,rfl,rfl,rfl,rfl,S.selT (M:=[.box g0 43 #[iv x0,.slice A1 x1.length c1,.slice A2 x2.length c2,.slice A3 x3.length c3,.slice A4 x4.length c4,.slice A5 x5.length c5,.slice A6 x6.length c6],.row 130 3 (.slice A1 x1.length c1) x1.length (x1.flatMap eLine),.row 110 2 (.slice A2 x2.length c2) x2.length (x2.flatMap eBus),.row 4 1 (.slice A3 x3.length c3) x3.length (x3.flatMap eB),.row 4 1 (.slice A4 x4.length c4) x4.length (x4.flatMap eB),.row 78 2 (.slice A5 x5.length c5) x5.length (x5.flatMap ePermit),.row 3 1 (.slice A6 x6.length c6) x6.length (x6.flatMap eI)]) 8 [1,2,3,4,5,6,7] rfl rfl rfl⟩
theorem c_impl_WorldDo {x0:Int} {x1:List (Int×Int×Int)} {x2:List (Int×Int)} {x3:List Bool} {x4:List Bool} {x5:List (Int×Int)} {x6:List Int} {x7:Int} {x8:Int} {x9:Int} {A1:Option Addr} {n1 c1:Nat} {A2:Option Addr} {n2 c2:Nat} {A3:Option Addr} {n3 c3:Nat} {A4:Option Addr} {n4 c4:Nat} {A5:Option Addr} {n5 c5:Nat} {A6:Option Addr} {n6 c6:Nat} {w:World} {r:Int×List (Int×Int×Int)×List (Int×Int)×List Bool×List Bool×List (Int×Int)×List Int×Bool} (h1:Rt w 3 eLine A1 n1 c1 x1) (h2:Rt w 2 eBus A2 n2 c2 x2) (h3:Rt w 1 eB A3 n3 c3 x3) (h4:Rt w 1 eB A4 n4 c4 x4) (h5:Rt w 2 ePermit A5 n5 c5 x5) (h6:Rt w 1 eI A6 n6 c6 x6) (hM : m_impl_WorldDo x0 x1 x2 x3 x4 x5 x6 x7 x8 x9=some r) :
  Calls Tryz.prog 20 #[.agg #[iv x0,.slice A1 n1 c1,.slice A2 n2 c2,.slice A3 n3 c3,.slice A4 n4 c4,.slice A5 n5 c5,.slice A6 n6 c6],.agg #[iv x7,iv x8,iv x9]] w (fun e w'=>∃ (B0:Option Addr) (N0 D0:Nat) (B1:Option Addr) (N1 D1:Nat) (B2:Option Addr) (N2 D2:Nat) (B3:Option Addr) (N3 D3:Nat) (B4:Option Addr) (N4 D4:Nat) (B5:Option Addr) (N5 D5:Nat),e=.returned (.tuple #[.agg #[iv r.1,.slice B0 N0 D0,.slice B1 N1 D1,.slice B2 N2 D2,.slice B3 N3 D3,.slice B4 N4 D4,.slice B5 N5 D5],.bool r.2.2.2.2.2.2.2])∧N0=r.2.1.length∧N1=r.2.2.1.length∧N2=r.2.2.2.1.length∧N3=r.2.2.2.2.1.length∧N4=r.2.2.2.2.2.1.length∧N5=r.2.2.2.2.2.2.1.length∧St w w' [.row 130 3 (.slice B0 N0 D0) N0 (r.2.1.flatMap eLine),.row 110 2 (.slice B1 N1 D1) N1 (r.2.2.1.flatMap eBus),.row 4 1 (.slice B2 N2 D2) N2 (r.2.2.2.1.flatMap eB),.row 4 1 (.slice B3 N3 D3) N3 (r.2.2.2.2.1.flatMap eB),.row 78 2 (.slice B4 N4 D4) N4 (r.2.2.2.2.2.1.flatMap ePermit),.row 3 1 (.slice B5 N5 D5) N5 (r.2.2.2.2.2.2.1.flatMap eI)]):=by
 obtain rfl:=h1.len
 obtain rfl:=h2.len
 obtain rfl:=h3.len
 obtain rfl:=h4.len
 obtain rfl:=h5.len
 obtain rfl:=h6.len
 unfold m_impl_WorldDo at hM
 refine calls_gx Tryz.func20 Tryz.ntmps20 rfl rfl ?_
 intro a f
 have S:=St.nil w
 refine wsg ?_
 refine op_new (cs:=#[iv x0,.slice A1 x1.length c1,.slice A2 x2.length c2,.slice A3 x3.length c3,.slice A4 x4.length c4,.slice A5 x5.length c5,.slice A6 x6.length c6]) rfl rfl f rfl S (run_box rfl (f.ev rfl) rfl) ?_;clear f S;intro a g101 u f S
 refine op_new (cs:=#[iv x7,iv x8,iv x9]) rfl rfl f rfl S (run_box rfl (f.ev rfl) rfl) ?_;clear f S;intro a g102 u f S
 refine op_new (cs:=#[iv 0,.slice none 0 0,.slice none 0 0,.slice none 0 0,.slice none 0 0,.slice none 0 0,.slice none 0 0]) rfl rfl f rfl S (run_allocZ rfl zr43) ?_;clear f S;intro a g103 u f S
 revert a;refine ov rfl (fun a f=>run_assign rfl rfl) fun a f=>wn ?_
 refine ws ?_
 revert a;refine sr (ov rfl (fun a f=>run_loadN rfl ag43 (f.ev rfl) rfl ((S.free 2 rfl).cells 0 #[iv x0,.slice A1 x1.length c1,.slice A2 x2.length c2,.slice A3 x3.length c3,.slice A4 x4.length c4,.slice A5 x5.length c5,.slice A6 x6.length c6] rfl)) fun a f=>?_)
 obtain ⟨p104,h104,hM⟩:=bind_ex hM
 refine op_call rfl rfl f rfl (run_call (vs:=[_]) rfl rfl co35 ⟨(f.ev rfl),trivial⟩) (c_impl_WorldValid ⟨(S.rc0 h1.rc),rfl⟩ ⟨(S.rc0 h2.rc),rfl⟩ ⟨(S.rc0 h3.rc),rfl⟩ ⟨(S.rc0 h4.rc),rfl⟩ ⟨(S.rc0 h5.rc),rfl⟩ ⟨(S.rc0 h6.rc),rfl⟩ h104) ?_
 rintro e u ⟨rfl,T⟩
 refine ⟨_,rfl,?_⟩
 clear f;intro a f
 replace S:=S.call0 T;clear T
 revert a;refine ov rfl (fun a f=>run_not rfl (f.ev rfl)) fun a f=>wn ?_
 cases hc105:(p104)
 ·replace hM:=bif_f hc105 hM
  refine cond_t f rfl (not_t hc105) ?_
  revert a;refine sr (ov rfl (fun a f=>run_build (vs:=[]) rfl trivial (bd43 )) fun a f=>?_)
  refine op_do rfl rfl (run_store (cs':=#[iv 0,.slice none 0 0,.slice none 0 0,.slice none 0 0,.slice none 0 0,.slice none 0 0,.slice none 0 0]) rfl sz43 (f.ev rfl) (f.ev rfl) rfl rfl rfl (S.free 0 rfl) rfl rfl) ?_;replace S:=S.put 0 rfl (#[iv 0,.slice none 0 0,.slice none 0 0,.slice none 0 0,.slice none 0 0,.slice none 0 0,.slice none 0 0])
  generalize World.setRow _ _ _=u at S ⊢
  revert a;refine ov rfl (fun a f=>run_assign rfl rfl) fun a f=>wn ?_
  refine wp_ret ?_
  repeat with_reducible first|apply tr|apply ir|apply nr
  refine ret2_gw (.inl rfl) f rfl (res_cell (f.ev rfl) (res_loadN ag43 rfl (S.cells 0 rfl 0 #[iv 0,.slice none 0 0,.slice none 0 0,.slice none 0 0,.slice none 0 0,.slice none 0 0,.slice none 0 0] rfl))) (res_tmp (f.ev rfl)) ?_
  obtain rfl:=Option.some.inj hM
  replace S:=S.nilrow 130 3
  replace S:=S.nilrow 110 2
  replace S:=S.nilrow 4 1
  replace S:=S.nilrow 4 1
  replace S:=S.nilrow 78 2
  replace S:=S.nilrow 3 1
  exact ⟨none,0,0,none,0,0,none,0,0,none,0,0,none,0,0,none,0,0,rfl,rfl,rfl,rfl,rfl,rfl,rfl,S.sel [5,4,3,2,1,0] rfl rfl⟩
 replace hM:=bif_t hc105 hM
 refine cond_f f rfl (not_f hc105) ?_
 refine wp_skip ?_
 revert a;refine sr (ov rfl (fun a f=>run_loadN rfl ag43 (f.ev rfl) rfl ((S.free 2 rfl).cells 0 #[iv x0,.slice A1 x1.length c1,.slice A2 x2.length c2,.slice A3 x3.length c3,.slice A4 x4.length c4,.slice A5 x5.length c5,.slice A6 x6.length c6] rfl)) fun a f=>?_)
 obtain ⟨p106,h106,hM⟩:=bind_ex hM
 refine op_call rfl rfl f rfl (run_call (vs:=[_]) rfl rfl co58 ⟨(f.ev rfl),trivial⟩) (c_impl_World_clone ⟨(S.rc0 h1.rc),rfl⟩ ⟨(S.rc0 h2.rc),rfl⟩ ⟨(S.rc0 h3.rc),rfl⟩ ⟨(S.rc0 h4.rc),rfl⟩ ⟨(S.rc0 h5.rc),rfl⟩ ⟨(S.rc0 h6.rc),rfl⟩ h106) ?_
 rintro e u ⟨B107,n108,d109,B110,n111,d112,B113,n114,d115,B116,n117,d118,B119,n120,d121,B122,n123,d124,rfl,rfl,rfl,rfl,rfl,rfl,rfl,T⟩
 refine ⟨_,rfl,?_⟩
 clear f;intro a f
 replace S:=S.call6 T;clear T
 refine op_new (cs:=#[iv 0,.slice none 0 0,.slice none 0 0,.slice none 0 0,.slice none 0 0,.slice none 0 0,.slice none 0 0]) rfl rfl f rfl S (run_allocZ rfl zr43) ?_;clear f S;intro a g125 u f S
 refine op_do rfl rfl (run_store (cs':=#[iv p106.1,.slice B107 p106.2.1.length d109,.slice B110 p106.2.2.1.length d112,.slice B113 p106.2.2.2.1.length d115,.slice B116 p106.2.2.2.2.1.length d118,.slice B119 p106.2.2.2.2.2.1.length d121,.slice B122 p106.2.2.2.2.2.2.length d124]) rfl sz43 (f.ev rfl) (f.ev rfl) rfl rfl rfl (S.free 0 rfl) rfl rfl) ?_;replace S:=S.put 0 rfl (#[iv p106.1,.slice B107 p106.2.1.length d109,.slice B110 p106.2.2.1.length d112,.slice B113 p106.2.2.2.1.length d115,.slice B116 p106.2.2.2.2.1.length d118,.slice B119 p106.2.2.2.2.2.1.length d121,.slice B122 p106.2.2.2.2.2.2.length d124])
 generalize World.setRow _ _ _=u at S ⊢
 refine wn ?_
 refine ws ?_
 refine ws ?_
 obtain ⟨o127,hM140,hM⟩:=bind_ex hM
 refine wp_cut (fun a u=>∃ (p126:Bool×Int×List (Int×Int×Int)×List (Int×Int)×List Bool×List Bool×List (Int×Int)×List Int) (B128:Option Addr) (d129:Nat) (B130:Option Addr) (d131:Nat) (B132:Option Addr) (d133:Nat) (B134:Option Addr) (d135:Nat) (B136:Option Addr) (d137:Nat) (B138:Option Addr) (d139:Nat),p126=o127∧Fr a 27 [(2,.pointer (some ⟨g101,0,none⟩)),(4,.pointer (some ⟨g103,0,none⟩)),(5,.bool false),(6,.pointer (some ⟨g125,0,none⟩)),(23,.bool p126.1)]∧St w u [.box g125 43 #[iv p126.2.1,.slice B128 p126.2.2.1.length d129,.slice B130 p126.2.2.2.1.length d131,.slice B132 p126.2.2.2.2.1.length d133,.slice B134 p126.2.2.2.2.2.1.length d135,.slice B136 p126.2.2.2.2.2.2.1.length d137,.slice B138 p126.2.2.2.2.2.2.2.length d139],.box g103 43 #[iv 0,.slice none 0 0,.slice none 0 0,.slice none 0 0,.slice none 0 0,.slice none 0 0,.slice none 0 0],.box g101 43 #[iv x0,.slice A1 x1.length c1,.slice A2 x2.length c2,.slice A3 x3.length c3,.slice A4 x4.length c4,.slice A5 x5.length c5,.slice A6 x6.length c6],.row 130 3 (.slice B128 p126.2.2.1.length d129) p126.2.2.1.length (p126.2.2.1.flatMap eLine),.row 110 2 (.slice B130 p126.2.2.2.1.length d131) p126.2.2.2.1.length (p126.2.2.2.1.flatMap eBus),.row 4 1 (.slice B132 p126.2.2.2.2.1.length d133) p126.2.2.2.2.1.length (p126.2.2.2.2.1.flatMap eB),.row 4 1 (.slice B134 p126.2.2.2.2.2.1.length d135) p126.2.2.2.2.2.1.length (p126.2.2.2.2.2.1.flatMap eB),.row 78 2 (.slice B136 p126.2.2.2.2.2.2.1.length d137) p126.2.2.2.2.2.2.1.length (p126.2.2.2.2.2.2.1.flatMap ePermit),.row 3 1 (.slice B138 p126.2.2.2.2.2.2.2.length d139) p126.2.2.2.2.2.2.2.length (p126.2.2.2.2.2.2.2.flatMap eI)]) ?_ ?_
 ·have _:=trivial
  revert a;refine rl (ov rfl (fun a f=>run_fieldAddr rfl fl43_0 (f.ev rfl) rfl) (ov rfl (fun a f=>run_loadN rfl ag37 (f.ev rfl) rfl ((S.free 9 rfl).cells 0 #[iv x0,.slice A1 x1.length c1] rfl)) (ov rfl (fun a f=>run_fieldAddr rfl fl56_1 (f.ev rfl) rfl) (ov rfl (fun a f=>run_load1 rfl one3 (f.ev rfl) (S.cell 8 rfl rfl)) fun a f=>?_))))
  obtain ⟨p141,h141,hM140⟩:=bind_ex hM140
  refine op_call rfl rfl f rfl (run_call (vs:=[_,_]) rfl rfl co59 ⟨(f.ev rfl),(f.ev rfl),trivial⟩) (c_impl_Net_hasLine ⟨(S.rc0 h1.rc),rfl⟩ h141) ?_
  rintro e u ⟨rfl,T⟩
  refine ⟨_,rfl,?_⟩
  clear f;intro a f
  replace S:=S.call0 T;clear T
  revert a;refine ov rfl (fun a f=>run_not rfl (f.ev rfl)) (mv rfl rfl fun a f=>?_)
  revert a;refine gf rfl rfl rfl rfl (fun a f hg=>run_loadN rfl ag56 (f.ev rfl) rfl ((S.free 8 rfl).cells 0 #[iv x7,iv x8,iv x9] rfl)) fun a f=>?_
  cases hc142:(p141)
  ·replace hM140:=bif_f hc142 hM140
   refine op_skipped rfl ((gw_yield f rfl rfl rfl).trans (congrArg some (not_t hc142))) rfl rfl f rfl ?_;clear f;intro a f
   refine op_skipped rfl ((gw_yield f rfl rfl rfl).trans (congrArg some (not_t hc142))) rfl rfl f rfl ?_;clear f;intro a f
   revert a;refine ov rfl (fun a f=>run_pick_t rfl (f.ev rfl) (not_t hc142) rfl) fun a f=>wn ?_
   obtain rfl:=Option.some.inj hM140
   exact ⟨(true,p106.1,p106.2.1,p106.2.2.1,p106.2.2.2.1,p106.2.2.2.2.1,p106.2.2.2.2.2.1,p106.2.2.2.2.2.2),B107,d109,B110,d112,B113,d115,B116,d118,B119,d121,B122,d124,rfl,f.keep _ ⟨rfl,rfl,rfl,rfl,rfl,trivial⟩,S.sel [0,7,9,1,2,3,4,5,6] rfl rfl⟩
  replace hM140:=bif_t hc142 hM140
  refine op_guarded rfl ((gw_yield f rfl rfl rfl).trans (congrArg some (not_f hc142))) ?_
  obtain ⟨p143,h143,hM140⟩:=bind_ex hM140
  refine op_call rfl rfl f rfl (run_call (vs:=[_,_]) rfl rfl co60 ⟨(f.ev rfl),((f.ev rfl).trans (gv_t (not_t (not_f hc142)))),trivial⟩) (c_impl_World_do rfl rfl rfl rfl rfl rfl (show St w _ [.box g125 43 #[iv p106.1,.slice B107 p106.2.1.length d109,.slice B110 p106.2.2.1.length d112,.slice B113 p106.2.2.2.1.length d115,.slice B116 p106.2.2.2.2.1.length d118,.slice B119 p106.2.2.2.2.2.1.length d121,.slice B122 p106.2.2.2.2.2.2.length d124],.row 130 3 (.slice B107 p106.2.1.length d109) p106.2.1.length (p106.2.1.flatMap eLine),.row 110 2 (.slice B110 p106.2.2.1.length d112) p106.2.2.1.length (p106.2.2.1.flatMap eBus),.row 4 1 (.slice B113 p106.2.2.2.1.length d115) p106.2.2.2.1.length (p106.2.2.2.1.flatMap eB),.row 4 1 (.slice B116 p106.2.2.2.2.1.length d118) p106.2.2.2.2.1.length (p106.2.2.2.2.1.flatMap eB),.row 78 2 (.slice B119 p106.2.2.2.2.2.1.length d121) p106.2.2.2.2.2.1.length (p106.2.2.2.2.2.1.flatMap ePermit),.row 3 1 (.slice B122 p106.2.2.2.2.2.2.length d124) p106.2.2.2.2.2.2.length (p106.2.2.2.2.2.2.flatMap eI),.box g103 43 #[iv 0,.slice none 0 0,.slice none 0 0,.slice none 0 0,.slice none 0 0,.slice none 0 0,.slice none 0 0],.box g102 56 #[iv x7,iv x8,iv x9],.box g101 43 #[iv x0,.slice A1 x1.length c1,.slice A2 x2.length c2,.slice A3 x3.length c3,.slice A4 x4.length c4,.slice A5 x5.length c5,.slice A6 x6.length c6]] from S.sel [0,1,2,3,4,5,6,7,8,9] rfl rfl) h143) ?_
  rintro e u ⟨B144,n145,d146,B147,n148,d149,B150,n151,d152,B153,n154,d155,B156,n157,d158,B159,n160,d161,rfl,rfl,rfl,rfl,rfl,rfl,rfl,T⟩
  refine ⟨_,rfl,?_⟩
  clear f;intro a f
  clear S;have S:=T;clear T
  refine op_guarded rfl ((gw_yield f rfl rfl rfl).trans (congrArg some (not_f hc142))) ?_
  revert a;refine ov rfl (fun a f=>run_not rfl (f.ev rfl)) (ov rfl (fun a f=>run_pick_f rfl (f.ev rfl) (not_f hc142) (f.ev rfl)) fun a f=>wn ?_)
  obtain rfl:=Option.some.inj hM140
  exact ⟨(!p143.1,p143.2.1,p143.2.2.1,p143.2.2.2.1,p143.2.2.2.2.1,p143.2.2.2.2.2.1,p143.2.2.2.2.2.2.1,p143.2.2.2.2.2.2.2),B144,d146,B147,d149,B150,d152,B153,d155,B156,d158,B159,d161,rfl,f.keep _ ⟨rfl,rfl,rfl,rfl,rfl,trivial⟩,S.sel [0,7,9,1,2,3,4,5,6] rfl rfl⟩
 rintro a u ⟨p126,B128,d129,B130,d131,B132,d133,B134,d135,B136,d137,B138,d139,rfl,f,S⟩
 cases hc162:(p126.1)
 ·replace hM:=bif_f hc162 hM
  refine cond_f f rfl hc162 ?_
  refine wp_skip ?_
  revert a;refine sr (ov rfl (fun a f=>run_loadN rfl ag43 (f.ev rfl) rfl ((S.free 0 rfl).cells 0 #[iv p126.2.1,.slice B128 p126.2.2.1.length d129,.slice B130 p126.2.2.2.1.length d131,.slice B132 p126.2.2.2.2.1.length d133,.slice B134 p126.2.2.2.2.2.1.length d135,.slice B136 p126.2.2.2.2.2.2.1.length d137,.slice B138 p126.2.2.2.2.2.2.2.length d139] rfl)) fun a f=>?_)
  refine op_do rfl rfl (run_store (cs':=#[iv p126.2.1,.slice B128 p126.2.2.1.length d129,.slice B130 p126.2.2.2.1.length d131,.slice B132 p126.2.2.2.2.1.length d133,.slice B134 p126.2.2.2.2.2.1.length d135,.slice B136 p126.2.2.2.2.2.2.1.length d137,.slice B138 p126.2.2.2.2.2.2.2.length d139]) rfl sz43 (f.ev rfl) (f.ev rfl) rfl rfl rfl (S.free 1 rfl) rfl rfl) ?_;replace S:=S.put 1 rfl (#[iv p126.2.1,.slice B128 p126.2.2.1.length d129,.slice B130 p126.2.2.2.1.length d131,.slice B132 p126.2.2.2.2.1.length d133,.slice B134 p126.2.2.2.2.2.1.length d135,.slice B136 p126.2.2.2.2.2.2.1.length d137,.slice B138 p126.2.2.2.2.2.2.2.length d139])
  generalize World.setRow _ _ _=u at S ⊢
  revert a;refine ov rfl (fun a f=>run_assign rfl rfl) fun a f=>wn ?_
  refine wp_ret ?_
  refine ret2_gw (.inl rfl) f rfl (res_cell (f.ev rfl) (res_loadN ag43 rfl (S.cells 1 rfl 0 #[iv p126.2.1,.slice B128 p126.2.2.1.length d129,.slice B130 p126.2.2.2.1.length d131,.slice B132 p126.2.2.2.2.1.length d133,.slice B134 p126.2.2.2.2.2.1.length d135,.slice B136 p126.2.2.2.2.2.2.1.length d137,.slice B138 p126.2.2.2.2.2.2.2.length d139] rfl))) (res_tmp (f.ev rfl)) ?_
  obtain rfl:=Option.some.inj hM
  exact ⟨B128,p126.2.2.1.length,d129,B130,p126.2.2.2.1.length,d131,B132,p126.2.2.2.2.1.length,d133,B134,p126.2.2.2.2.2.1.length,d135,B136,p126.2.2.2.2.2.2.1.length,d137,B138,p126.2.2.2.2.2.2.2.length,d139,rfl,rfl,rfl,rfl,rfl,rfl,rfl,S.sel [3,4,5,6,7,8] rfl rfl⟩
 replace hM:=bif_t hc162 hM
 refine cond_t f rfl hc162 ?_
 revert a;refine sr (ov rfl (fun a f=>run_loadN rfl ag43 (f.ev rfl) rfl ((S.free 2 rfl).cells 0 #[iv x0,.slice A1 x1.length c1,.slice A2 x2.length c2,.slice A3 x3.length c3,.slice A4 x4.length c4,.slice A5 x5.length c5,.slice A6 x6.length c6] rfl)) fun a f=>?_)
 obtain ⟨p163,h163,hM⟩:=bind_ex hM
 refine op_call rfl rfl f rfl (run_call (vs:=[_]) rfl rfl co58 ⟨(f.ev rfl),trivial⟩) (c_impl_World_clone ⟨(S.rc0 h1.rc),rfl⟩ ⟨(S.rc0 h2.rc),rfl⟩ ⟨(S.rc0 h3.rc),rfl⟩ ⟨(S.rc0 h4.rc),rfl⟩ ⟨(S.rc0 h5.rc),rfl⟩ ⟨(S.rc0 h6.rc),rfl⟩ h163) ?_
 rintro e u ⟨B164,n165,d166,B167,n168,d169,B170,n171,d172,B173,n174,d175,B176,n177,d178,B179,n180,d181,rfl,rfl,rfl,rfl,rfl,rfl,rfl,T⟩
 refine ⟨_,rfl,?_⟩
 clear f;intro a f
 replace S:=S.call6 T;clear T
 refine op_do rfl rfl (run_store (cs':=#[iv p163.1,.slice B164 p163.2.1.length d166,.slice B167 p163.2.2.1.length d169,.slice B170 p163.2.2.2.1.length d172,.slice B173 p163.2.2.2.2.1.length d175,.slice B176 p163.2.2.2.2.2.1.length d178,.slice B179 p163.2.2.2.2.2.2.length d181]) rfl sz43 (f.ev rfl) (f.ev rfl) rfl rfl rfl (S.free 7 rfl) rfl rfl) ?_;replace S:=S.put 7 rfl (#[iv p163.1,.slice B164 p163.2.1.length d166,.slice B167 p163.2.2.1.length d169,.slice B170 p163.2.2.2.1.length d172,.slice B173 p163.2.2.2.2.1.length d175,.slice B176 p163.2.2.2.2.2.1.length d178,.slice B179 p163.2.2.2.2.2.2.length d181])
 generalize World.setRow _ _ _=u at S ⊢
 revert a;refine ov rfl (fun a f=>run_assign rfl rfl) fun a f=>wn ?_
 refine wp_ret ?_
 repeat with_reducible first|apply tr|apply ir|apply nr
 refine ret2_gw (.inl rfl) f rfl (res_cell (f.ev rfl) (res_loadN ag43 rfl (S.cells 7 rfl 0 #[iv p163.1,.slice B164 p163.2.1.length d166,.slice B167 p163.2.2.1.length d169,.slice B170 p163.2.2.2.1.length d172,.slice B173 p163.2.2.2.2.1.length d175,.slice B176 p163.2.2.2.2.2.1.length d178,.slice B179 p163.2.2.2.2.2.2.length d181] rfl))) (res_tmp (f.ev rfl)) ?_
 obtain rfl:=Option.some.inj hM
 exact ⟨B164,p163.2.1.length,d166,B167,p163.2.2.1.length,d169,B170,p163.2.2.2.1.length,d172,B173,p163.2.2.2.2.1.length,d175,B176,p163.2.2.2.2.2.1.length,d178,B179,p163.2.2.2.2.2.2.length,d181,rfl,rfl,rfl,rfl,rfl,rfl,rfl,S.sel [0,1,2,3,4,5] rfl rfl⟩
theorem c_laws_eqLine {x0:Int} {x1:Int} {x2:Int} {x3:Int} {x4:Int} {x5:Int} {w:World} {r:Bool}  (hM : m_laws_eqLine x0 x1 x2 x3 x4 x5=some r) :
  Calls Tryz.prog 112 #[.agg #[iv x0,iv x1,iv x2],.agg #[iv x3,iv x4,iv x5]] w (fun e w'=>e=.returned (.bool r)∧St w w' []):=by
 unfold m_laws_eqLine at hM
 refine calls_gx Tryz.func112 Tryz.ntmps112 rfl rfl ?_
 intro a f
 have S:=St.nil w
 refine wsg ?_
 refine op_new (cs:=#[iv x0,iv x1,iv x2]) rfl rfl f rfl S (run_box rfl (f.ev rfl) rfl) ?_;clear f S;intro a g101 u f S
 refine op_new (cs:=#[iv x3,iv x4,iv x5]) rfl rfl f rfl S (run_box rfl (f.ev rfl) rfl) ?_;clear f S;intro a g102 u f S
 revert a;refine ov rfl (fun a f=>run_assign rfl rfl) fun a f=>wn ?_
 refine ws ?_
 revert a;refine sr (ov rfl (fun a f=>run_fieldAddr rfl fl130_0 (f.ev rfl) rfl) (ov rfl (fun a f=>run_load1 rfl one3 (f.ev rfl) (S.cell 1 rfl rfl)) (ov rfl (fun a f=>run_fieldAddr rfl fl130_0 (f.ev rfl) rfl) (ov rfl (fun a f=>run_load1 rfl one3 (f.ev rfl) (S.cell 0 rfl rfl)) (ov rfl (fun a f=>run_neq (f.ev rfl) (f.ev rfl) rfl) fun a f=>wn ?_)))))
 cases hc103:(x0 != x3)
 ·replace hM:=bif_f hc103 hM
  refine cond_f f rfl hc103 ?_
  refine wp_skip ?_
  refine ws ?_
  revert a;refine sr (ov rfl (fun a f=>run_fieldAddr rfl fl130_1 (f.ev rfl) rfl) (ov rfl (fun a f=>run_load1 rfl one3 (f.ev rfl) (S.cell 1 rfl rfl)) (ov rfl (fun a f=>run_fieldAddr rfl fl130_1 (f.ev rfl) rfl) (ov rfl (fun a f=>run_load1 rfl one3 (f.ev rfl) (S.cell 0 rfl rfl)) (ov rfl (fun a f=>run_neq (f.ev rfl) (f.ev rfl) rfl) fun a f=>wn ?_)))))
  cases hc104:(x1 != x4)
  ·replace hM:=bif_f hc104 hM
   refine cond_f f rfl hc104 ?_
   refine wp_skip ?_
   refine ws ?_
   revert a;refine sr (ov rfl (fun a f=>run_fieldAddr rfl fl130_2 (f.ev rfl) rfl) (ov rfl (fun a f=>run_load1 rfl one3 (f.ev rfl) (S.cell 1 rfl rfl)) (ov rfl (fun a f=>run_fieldAddr rfl fl130_2 (f.ev rfl) rfl) (ov rfl (fun a f=>run_load1 rfl one3 (f.ev rfl) (S.cell 0 rfl rfl)) (ov rfl (fun a f=>run_neq (f.ev rfl) (f.ev rfl) rfl) fun a f=>wn ?_)))))
   cases hc105:(x2 != x5)
   ·replace hM:=bif_f hc105 hM
    refine cond_f f rfl hc105 ?_
    refine wp_skip ?_
    revert a;refine sr (ov rfl (fun a f=>run_assign rfl rfl) fun a f=>wn ?_)
    refine wp_ret ?_
    refine ret1_gw (.inl rfl) f rfl (res_tmp (f.ev rfl)) ?_
    obtain rfl:=Option.some.inj hM
    exact ⟨rfl,S.sel [] rfl rfl⟩
   replace hM:=bif_t hc105 hM
   refine cond_t f rfl hc105 ?_
   revert a;refine sr (ov rfl (fun a f=>run_assign rfl rfl) fun a f=>wn ?_)
   refine wp_ret ?_
   repeat with_reducible first|apply tr|apply ir|apply nr
   refine ret1_gw (.inl rfl) f rfl (res_tmp (f.ev rfl)) ?_
   obtain rfl:=Option.some.inj hM
   exact ⟨rfl,S.sel [] rfl rfl⟩
  replace hM:=bif_t hc104 hM
  refine cond_t f rfl hc104 ?_
  revert a;refine sr (ov rfl (fun a f=>run_assign rfl rfl) fun a f=>wn ?_)
  refine wp_ret ?_
  repeat with_reducible first|apply tr|apply ir|apply nr
  refine ret1_gw (.inl rfl) f rfl (res_tmp (f.ev rfl)) ?_
  obtain rfl:=Option.some.inj hM
  exact ⟨rfl,S.sel [] rfl rfl⟩
 replace hM:=bif_t hc103 hM
 refine cond_t f rfl hc103 ?_
 revert a;refine sr (ov rfl (fun a f=>run_assign rfl rfl) fun a f=>wn ?_)
 refine wp_ret ?_
 repeat with_reducible first|apply tr|apply ir|apply nr
 refine ret1_gw (.inl rfl) f rfl (res_tmp (f.ev rfl)) ?_
 obtain rfl:=Option.some.inj hM
 exact ⟨rfl,S.sel [] rfl rfl⟩
theorem c_laws_eqLineS {x0:List (Int×Int×Int)} {x1:List (Int×Int×Int)} {A0:Option Addr} {n0 c0:Nat} {A1:Option Addr} {n1 c1:Nat} {w:World} {r:Bool} (h0:Rt w 3 eLine A0 n0 c0 x0) (h1:Rt w 3 eLine A1 n1 c1 x1) (hM : m_laws_eqLineS x0 x1=some r) :
  Calls Tryz.prog 77 #[.slice A0 n0 c0,.slice A1 n1 c1] w (fun e w'=>e=.returned (.bool r)∧St w w' []):=by
 obtain rfl:=h0.len
 obtain rfl:=h1.len
 unfold m_laws_eqLineS at hM
 refine calls_gx Tryz.func77 Tryz.ntmps77 rfl rfl ?_
 intro a f
 have S:=St.nil w
 revert a;refine sr (ov rfl (fun a f=>run_assign rfl rfl) fun a f=>wn ?_)
 refine ws ?_
 revert a;refine sr (mv rfl rfl (ov rfl (fun a f=>run_lenL rfl rfl Tryz.underlying35 (f.ev rfl)) (mv rfl rfl (ov rfl (fun a f=>run_lenL rfl rfl Tryz.underlying35 (f.ev rfl)) (ov rfl (fun a f=>run_neq (f.ev rfl) (f.ev rfl) rfl) fun a f=>wn ?_)))))
 cases hc101:((x0.length:Int) != (x1.length:Int))
 ·replace hM:=bif_f hc101 hM
  refine cond_f f rfl hc101 ?_
  refine wp_skip ?_
  refine ws ?_
  revert a;refine sr (ov rfl (fun a f=>run_assign rfl rfl) fun a f=>wn ?_)
  obtain ⟨o103,hM104,hM⟩:=bind_ex hM
  refine wp_cut (fun a u=>∃ (p102:Unit),(Sum.inl p102)=o103∧Fr a 27 [(4,.bool false)]∧St w u []) ?_ ?_
  ·have _:=trivial
   refine wp_block ?_
   refine loop_gw (fun m a u=>∃ (p105:Int),m_laws_eqLineS_l1 x0 x1 m p105=some _∧Fr a 27 [(0,.slice A0 x0.length c0),(1,.slice A1 x1.length c1),(4,.bool false),(5,iv p105)]∧St w u []) FUEL ⟨0,hM104,f.keep _ ⟨rfl,rfl,rfl,rfl,trivial⟩,S.sel [] rfl rfl⟩ ?_
   clear f S hM104;rintro m a u ⟨p105,hM104,f,S⟩
   rcases m with _ | f1
   ·exact none_some hM104
   rw [m_laws_eqLineS_l1.eq_2] at hM104
   refine ws ?_
   revert a;refine sr (mv rfl rfl (mv rfl rfl (ov rfl (fun a f=>run_lenL rfl rfl Tryz.underlying35 (f.ev rfl)) (ov rfl (fun a f=>run_lss (f.ev rfl) (f.ev rfl) rfl) fun a f=>wn ?_))))
   cases hc106:(ltB p105 (x0.length:Int))
   ·replace hM104:=bif_f hc106 hM104
    refine cond_f f rfl hc106 ?_
    refine wp_exit ?_
    repeat with_reducible first|apply then_exit|apply in_hit|refine in_miss rfl ?_
    obtain rfl:=Option.some.inj hM104
    exact ⟨(),rfl,f.keep _ ⟨rfl,trivial⟩,S.sel [] rfl rfl⟩
   replace hM104:=bif_t hc106 hM104
   refine cond_t f rfl hc106 ?_
   refine wp_skip ?_
   refine ws ?_
   refine wp_block ?_
   refine ws ?_
   obtain ⟨hk107,hM104⟩:=chk_ex hM104
   replace hk107:=ixB_t hk107
   obtain ⟨hk108,hM104⟩:=chk_ex hM104
   replace hk108:=ixB_t hk108
   obtain ⟨p109,h109,hM104⟩:=bind_ex hM104
   refine region_gw (D:=[17,18,19,20,21,22,23,24,25,26]) (Lr:=[]) (deps:=(fun | 0=>[17] | 1=>[18] | 2=>[19] | 3=>[20] | 4=>[21] | 5=>[22] | 6=>[23] | 7=>[24] | 8=>[25] | 9=>[26] | _=>[])) (rd:=(fun _=>[])) (zr:=(fun _=>[]))
    (φ:=fun i vs=>match i,vs with | 0,[v17]=>v17=.slice A0 x0.length c0 | 1,[v18]=>v18=iv p105 | 2,[v19]=>v19=.pointer (some ⟨adB A0,adO A0+p105.toNat*3,none⟩) | 3,[v20]=>v20=.agg #[iv ((x0.getD p105.toNat (0,0,0)).1),iv ((x0.getD p105.toNat (0,0,0)).2.1),iv ((x0.getD p105.toNat (0,0,0)).2.2)] | 4,[v21]=>v21=.slice A1 x1.length c1 | 5,[v22]=>v22=iv p105 | 6,[v23]=>v23=.pointer (some ⟨adB A1,adO A1+p105.toNat*3,none⟩) | 7,[v24]=>v24=.agg #[iv ((x1.getD p105.toNat (0,0,0)).1),iv ((x1.getD p105.toNat (0,0,0)).2.1),iv ((x1.getD p105.toNat (0,0,0)).2.2)] | 8,[v25]=>v25=.bool p109 | 9,[v26]=>v26=.bool (!p109) | _,_=>True)
    (C:=fun _ _=>[])
    (κ:=(fun _=>none)) (Z:=(fun _=>[])) mixed f (by kernel_rfl) S ?_ ?_
   ·refine ⟨?_,?_,?_,?_,?_,?_,?_,?_,?_,?_,trivial⟩
    ·intro a u X hB hu p hr hz hl S
     exact .inl ⟨rfl,_,u,(run_move rfl (f.evB hB rfl rfl)),rfl,S⟩
    ·intro a u X hB hu p hr hz hl S
     exact .inl ⟨rfl,_,u,(run_move rfl (f.evB hB rfl rfl)),rfl,S⟩
    ·intro a u X hB hu p hr hz hl S
     exact .inl ⟨rfl,_,u,(run_ix rfl Tryz.underlying35 sz130 (ev_sl (p 0 rfl)) (S.rc0 h0.rc) (ev_sl (p 1 rfl)) hk107),rfl,S⟩
    ·intro a u X hB hu p hr hz hl S
     exact .inl ⟨rfl,_,u,(run_loadN (cs:=#[iv ((x0.getD p105.toNat (0,0,0)).1),iv ((x0.getD p105.toNat (0,0,0)).2.1),iv ((x0.getD p105.toNat (0,0,0)).2.2)]) rfl ag130 (ev_sl (p 2 rfl)) rfl (rd_elN (l:=x0) (S.rc0 h0.rc).rd rfl eLine_len (0,0,0) (ix_ltn hk107 rfl) rfl)),rfl,S⟩
    ·intro a u X hB hu p hr hz hl S
     exact .inl ⟨rfl,_,u,(run_move rfl (f.evB hB rfl rfl)),rfl,S⟩
    ·intro a u X hB hu p hr hz hl S
     exact .inl ⟨rfl,_,u,(run_move rfl (f.evB hB rfl rfl)),rfl,S⟩
    ·intro a u X hB hu p hr hz hl S
     exact .inl ⟨rfl,_,u,(run_ix rfl Tryz.underlying35 sz130 (ev_sl (p 4 rfl)) (S.rc0 h1.rc) (ev_sl (p 5 rfl)) hk108),rfl,S⟩
    ·intro a u X hB hu p hr hz hl S
     exact .inl ⟨rfl,_,u,(run_loadN (cs:=#[iv ((x1.getD p105.toNat (0,0,0)).1),iv ((x1.getD p105.toNat (0,0,0)).2.1),iv ((x1.getD p105.toNat (0,0,0)).2.2)]) rfl ag130 (ev_sl (p 6 rfl)) rfl (rd_elN (l:=x1) (S.rc0 h1.rc).rd rfl eLine_len (0,0,0) (ix_ltn hk108 rfl) rfl)),rfl,S⟩
    ·intro a u X hB hu p hr hz hl S
     refine .inr (.inr (.inl ⟨rfl,_,_,(run_call (vs:=[.agg #[iv ((x0.getD p105.toNat (0,0,0)).1),iv ((x0.getD p105.toNat (0,0,0)).2.1),iv ((x0.getD p105.toNat (0,0,0)).2.2)],.agg #[iv ((x1.getD p105.toNat (0,0,0)).1),iv ((x1.getD p105.toNat (0,0,0)).2.1),iv ((x1.getD p105.toNat (0,0,0)).2.2)]]) rfl rfl co112 ⟨(ev_sl (p 3 rfl)),(ev_sl (p 7 rfl)),trivial⟩),?_⟩))
     refine Calls.mono (c_laws_eqLine (x0:=(x0.getD p105.toNat (0,0,0)).1) (x1:=(x0.getD p105.toNat (0,0,0)).2.1) (x2:=(x0.getD p105.toNat (0,0,0)).2.2) (x3:=(x1.getD p105.toNat (0,0,0)).1) (x4:=(x1.getD p105.toNat (0,0,0)).2.1) (x5:=(x1.getD p105.toNat (0,0,0)).2.2)  h109) ?_
     rintro e w1 ⟨rfl,T⟩
     exact ⟨_,rfl,rfl,S.call0 T⟩
    intro a u X hB hu p hr hz hl S
    exact .inl ⟨rfl,_,u,(run_not rfl (ev_sl (p 8 rfl))),rfl,S⟩
   intro a u hB hp S
   obtain ⟨q0,q1,q2,q3,q4,q5,q6,q7,q8,q9,-⟩:=hp
   replace S:St w u []:=S
   have f:=f.region hB [(17,_),(18,_),(19,_),(20,_),(21,_),(22,_),(23,_),(24,_),(25,_),(26,_)] (allSl_mem ⟨q0,q1,q2,q3,q4,q5,q6,q7,q8,q9,trivial⟩) rfl
   clear hB q0 q1 q2 q3 q4 q5 q6 q7 q8 q9
   cases hc110:(p109)
   ·replace hM104:=bif_f hc110 hM104
    refine cond_t f rfl (not_t hc110) ?_
    revert a;refine sr (ov rfl (fun a f=>run_assign rfl rfl) fun a f=>wn ?_)
    refine wp_ret ?_
    repeat with_reducible first|apply tr|apply ir|apply nr
    refine ret1_gw (.inl rfl) f rfl (res_tmp (f.ev rfl)) ?_
    obtain rfl:=Option.some.inj hM104
    obtain rfl:=Option.some.inj hM
    exact ⟨rfl,S.sel [] rfl rfl⟩
   replace hM104:=bif_t hc110 hM104
   refine cond_f f rfl (not_f hc110) ?_
   refine wp_skip ?_
   revert a;refine rl (mv rfl rfl (ov rfl (fun a f=>run_add (z:=w64 (p105+1)) (f.ev rfl) rfl rfl rfl) (ag rfl rfl fun a f=>wn ?_)))
   exact ⟨f1,Nat.lt_succ_self _,w64 (p105+1),hM104,f.keep _ ⟨rfl,rfl,rfl,rfl,trivial⟩,S.sel [] rfl rfl⟩
  rintro a u ⟨p102,rfl,f,S⟩
  replace hM:=elim_l hM
  revert a;refine sr (ov rfl (fun a f=>run_assign rfl rfl) fun a f=>wn ?_)
  refine wp_ret ?_
  refine ret1_gw (.inl rfl) f rfl (res_tmp (f.ev rfl)) ?_
  obtain rfl:=Option.some.inj hM
  exact ⟨rfl,S.sel [] rfl rfl⟩
 replace hM:=bif_t hc101 hM
 refine cond_t f rfl hc101 ?_
 revert a;refine sr (ov rfl (fun a f=>run_assign rfl rfl) fun a f=>wn ?_)
 refine wp_ret ?_
 repeat with_reducible first|apply tr|apply ir|apply nr
 refine ret1_gw (.inl rfl) f rfl (res_tmp (f.ev rfl)) ?_
 obtain rfl:=Option.some.inj hM
 exact ⟨rfl,S.sel [] rfl rfl⟩
theorem c_laws_eqNet {x0:Int} {x1:List (Int×Int×Int)} {x2:Int} {x3:List (Int×Int×Int)} {A1:Option Addr} {n1 c1:Nat} {A3:Option Addr} {n3 c3:Nat} {w:World} {r:Bool} (h1:Rt w 3 eLine A1 n1 c1 x1) (h3:Rt w 3 eLine A3 n3 c3 x3) (hM : m_laws_eqNet x0 x1 x2 x3=some r) :
  Calls Tryz.prog 36 #[.agg #[iv x0,.slice A1 n1 c1],.agg #[iv x2,.slice A3 n3 c3]] w (fun e w'=>e=.returned (.bool r)∧St w w' []):=by
 obtain rfl:=h1.len
 obtain rfl:=h3.len
 unfold m_laws_eqNet at hM
 refine calls_gx Tryz.func36 Tryz.ntmps36 rfl rfl ?_
 intro a f
 have S:=St.nil w
 refine wsg ?_
 refine op_new (cs:=#[iv x0,.slice A1 x1.length c1]) rfl rfl f rfl S (run_box rfl (f.ev rfl) rfl) ?_;clear f S;intro a g101 u f S
 refine op_new (cs:=#[iv x2,.slice A3 x3.length c3]) rfl rfl f rfl S (run_box rfl (f.ev rfl) rfl) ?_;clear f S;intro a g102 u f S
 revert a;refine ov rfl (fun a f=>run_assign rfl rfl) fun a f=>wn ?_
 refine ws ?_
 revert a;refine sr (ov rfl (fun a f=>run_fieldAddr rfl fl37_0 (f.ev rfl) rfl) (ov rfl (fun a f=>run_load1 rfl one3 (f.ev rfl) (S.cell 1 rfl rfl)) (ov rfl (fun a f=>run_fieldAddr rfl fl37_0 (f.ev rfl) rfl) (ov rfl (fun a f=>run_load1 rfl one3 (f.ev rfl) (S.cell 0 rfl rfl)) (ov rfl (fun a f=>run_neq (f.ev rfl) (f.ev rfl) rfl) fun a f=>wn ?_)))))
 cases hc103:(x0 != x2)
 ·replace hM:=bif_f hc103 hM
  refine cond_f f rfl hc103 ?_
  refine wp_skip ?_
  refine ws ?_
  revert a;refine sr (ov rfl (fun a f=>run_fieldAddr rfl fl37_1 (f.ev rfl) rfl) (ov rfl (fun a f=>run_load1 rfl one35 (f.ev rfl) (S.cell 1 rfl rfl)) (ov rfl (fun a f=>run_fieldAddr rfl fl37_1 (f.ev rfl) rfl) (ov rfl (fun a f=>run_load1 rfl one35 (f.ev rfl) (S.cell 0 rfl rfl)) fun a f=>?_))))
  obtain ⟨p104,h104,hM⟩:=bind_ex hM
  refine op_call rfl rfl f rfl (run_call (vs:=[_,_]) rfl rfl co77 ⟨(f.ev rfl),(f.ev rfl),trivial⟩) (c_laws_eqLineS ⟨(S.rc0 h1.rc),rfl⟩ ⟨(S.rc0 h3.rc),rfl⟩ h104) ?_
  rintro e u ⟨rfl,T⟩
  refine ⟨_,rfl,?_⟩
  clear f;intro a f
  replace S:=S.call0 T;clear T
  revert a;refine ov rfl (fun a f=>run_not rfl (f.ev rfl)) fun a f=>wn ?_
  cases hc105:(p104)
  ·replace hM:=bif_f hc105 hM
   refine cond_t f rfl (not_t hc105) ?_
   revert a;refine sr (ov rfl (fun a f=>run_assign rfl rfl) fun a f=>wn ?_)
   refine wp_ret ?_
   repeat with_reducible first|apply tr|apply ir|apply nr
   refine ret1_gw (.inl rfl) f rfl (res_tmp (f.ev rfl)) ?_
   obtain rfl:=Option.some.inj hM
   exact ⟨rfl,S.sel [] rfl rfl⟩
  replace hM:=bif_t hc105 hM
  refine cond_f f rfl (not_f hc105) ?_
  refine wp_skip ?_
  revert a;refine sr (ov rfl (fun a f=>run_assign rfl rfl) fun a f=>wn ?_)
  refine wp_ret ?_
  refine ret1_gw (.inl rfl) f rfl (res_tmp (f.ev rfl)) ?_
  obtain rfl:=Option.some.inj hM
  exact ⟨rfl,S.sel [] rfl rfl⟩
 replace hM:=bif_t hc103 hM
 refine cond_t f rfl hc103 ?_
 revert a;refine sr (ov rfl (fun a f=>run_assign rfl rfl) fun a f=>wn ?_)
 refine wp_ret ?_
 repeat with_reducible first|apply tr|apply ir|apply nr
 refine ret1_gw (.inl rfl) f rfl (res_tmp (f.ev rfl)) ?_
 obtain rfl:=Option.some.inj hM
 exact ⟨rfl,S.sel [] rfl rfl⟩
theorem c_laws_eqBus {x0:Int} {x1:Int} {x2:Int} {x3:Int} {w:World} {r:Bool}  (hM : m_laws_eqBus x0 x1 x2 x3=some r) :
  Calls Tryz.prog 78 #[.agg #[iv x0,iv x1],.agg #[iv x2,iv x3]] w (fun e w'=>e=.returned (.bool r)∧St w w' []):=by
 unfold m_laws_eqBus at hM
 refine calls_gx Tryz.func78 Tryz.ntmps78 rfl rfl ?_
 intro a f
 have S:=St.nil w
 refine wsg ?_
 refine op_new (cs:=#[iv x0,iv x1]) rfl rfl f rfl S (run_box rfl (f.ev rfl) rfl) ?_;clear f S;intro a g101 u f S
 refine op_new (cs:=#[iv x2,iv x3]) rfl rfl f rfl S (run_box rfl (f.ev rfl) rfl) ?_;clear f S;intro a g102 u f S
 revert a;refine ov rfl (fun a f=>run_assign rfl rfl) fun a f=>wn ?_
 refine ws ?_
 revert a;refine sr (ov rfl (fun a f=>run_fieldAddr rfl fl110_0 (f.ev rfl) rfl) (ov rfl (fun a f=>run_load1 rfl one3 (f.ev rfl) (S.cell 1 rfl rfl)) (ov rfl (fun a f=>run_fieldAddr rfl fl110_0 (f.ev rfl) rfl) (ov rfl (fun a f=>run_load1 rfl one3 (f.ev rfl) (S.cell 0 rfl rfl)) (ov rfl (fun a f=>run_neq (f.ev rfl) (f.ev rfl) rfl) fun a f=>wn ?_)))))
 cases hc103:(x0 != x2)
 ·replace hM:=bif_f hc103 hM
  refine cond_f f rfl hc103 ?_
  refine wp_skip ?_
  refine ws ?_
  revert a;refine sr (ov rfl (fun a f=>run_fieldAddr rfl fl110_1 (f.ev rfl) rfl) (ov rfl (fun a f=>run_load1 rfl one3 (f.ev rfl) (S.cell 1 rfl rfl)) (ov rfl (fun a f=>run_fieldAddr rfl fl110_1 (f.ev rfl) rfl) (ov rfl (fun a f=>run_load1 rfl one3 (f.ev rfl) (S.cell 0 rfl rfl)) (ov rfl (fun a f=>run_neq (f.ev rfl) (f.ev rfl) rfl) fun a f=>wn ?_)))))
  cases hc104:(x1 != x3)
  ·replace hM:=bif_f hc104 hM
   refine cond_f f rfl hc104 ?_
   refine wp_skip ?_
   revert a;refine sr (ov rfl (fun a f=>run_assign rfl rfl) fun a f=>wn ?_)
   refine wp_ret ?_
   refine ret1_gw (.inl rfl) f rfl (res_tmp (f.ev rfl)) ?_
   obtain rfl:=Option.some.inj hM
   exact ⟨rfl,S.sel [] rfl rfl⟩
  replace hM:=bif_t hc104 hM
  refine cond_t f rfl hc104 ?_
  revert a;refine sr (ov rfl (fun a f=>run_assign rfl rfl) fun a f=>wn ?_)
  refine wp_ret ?_
  repeat with_reducible first|apply tr|apply ir|apply nr
  refine ret1_gw (.inl rfl) f rfl (res_tmp (f.ev rfl)) ?_
  obtain rfl:=Option.some.inj hM
  exact ⟨rfl,S.sel [] rfl rfl⟩
 replace hM:=bif_t hc103 hM
 refine cond_t f rfl hc103 ?_
 revert a;refine sr (ov rfl (fun a f=>run_assign rfl rfl) fun a f=>wn ?_)
 refine wp_ret ?_
 repeat with_reducible first|apply tr|apply ir|apply nr
 refine ret1_gw (.inl rfl) f rfl (res_tmp (f.ev rfl)) ?_
 obtain rfl:=Option.some.inj hM
 exact ⟨rfl,S.sel [] rfl rfl⟩
theorem c_laws_eqBusS {x0:List (Int×Int)} {x1:List (Int×Int)} {A0:Option Addr} {n0 c0:Nat} {A1:Option Addr} {n1 c1:Nat} {w:World} {r:Bool} (h0:Rt w 2 eBus A0 n0 c0 x0) (h1:Rt w 2 eBus A1 n1 c1 x1) (hM : m_laws_eqBusS x0 x1=some r) :
  Calls Tryz.prog 37 #[.slice A0 n0 c0,.slice A1 n1 c1] w (fun e w'=>e=.returned (.bool r)∧St w w' []):=by
 obtain rfl:=h0.len
 obtain rfl:=h1.len
 unfold m_laws_eqBusS at hM
 refine calls_gx Tryz.func37 Tryz.ntmps37 rfl rfl ?_
 intro a f
 have S:=St.nil w
 revert a;refine sr (ov rfl (fun a f=>run_assign rfl rfl) fun a f=>wn ?_)
 refine ws ?_
 revert a;refine sr (mv rfl rfl (ov rfl (fun a f=>run_lenL rfl rfl Tryz.underlying38 (f.ev rfl)) (mv rfl rfl (ov rfl (fun a f=>run_lenL rfl rfl Tryz.underlying38 (f.ev rfl)) (ov rfl (fun a f=>run_neq (f.ev rfl) (f.ev rfl) rfl) fun a f=>wn ?_)))))
 cases hc101:((x0.length:Int) != (x1.length:Int))
 ·replace hM:=bif_f hc101 hM
  refine cond_f f rfl hc101 ?_
  refine wp_skip ?_
  refine ws ?_
  revert a;refine sr (ov rfl (fun a f=>run_assign rfl rfl) fun a f=>wn ?_)
  obtain ⟨o103,hM104,hM⟩:=bind_ex hM
  refine wp_cut (fun a u=>∃ (p102:Unit),(Sum.inl p102)=o103∧Fr a 27 [(4,.bool false)]∧St w u []) ?_ ?_
  ·have _:=trivial
   refine wp_block ?_
   refine loop_gw (fun m a u=>∃ (p105:Int),m_laws_eqBusS_l1 x0 x1 m p105=some _∧Fr a 27 [(0,.slice A0 x0.length c0),(1,.slice A1 x1.length c1),(4,.bool false),(5,iv p105)]∧St w u []) FUEL ⟨0,hM104,f.keep _ ⟨rfl,rfl,rfl,rfl,trivial⟩,S.sel [] rfl rfl⟩ ?_
   clear f S hM104;rintro m a u ⟨p105,hM104,f,S⟩
   rcases m with _ | f1
   ·exact none_some hM104
   rw [m_laws_eqBusS_l1.eq_2] at hM104
   refine ws ?_
   revert a;refine sr (mv rfl rfl (mv rfl rfl (ov rfl (fun a f=>run_lenL rfl rfl Tryz.underlying38 (f.ev rfl)) (ov rfl (fun a f=>run_lss (f.ev rfl) (f.ev rfl) rfl) fun a f=>wn ?_))))
   cases hc106:(ltB p105 (x0.length:Int))
   ·replace hM104:=bif_f hc106 hM104
    refine cond_f f rfl hc106 ?_
    refine wp_exit ?_
    repeat with_reducible first|apply then_exit|apply in_hit|refine in_miss rfl ?_
    obtain rfl:=Option.some.inj hM104
    exact ⟨(),rfl,f.keep _ ⟨rfl,trivial⟩,S.sel [] rfl rfl⟩
   replace hM104:=bif_t hc106 hM104
   refine cond_t f rfl hc106 ?_
   refine wp_skip ?_
   refine ws ?_
   refine wp_block ?_
   refine ws ?_
   obtain ⟨hk107,hM104⟩:=chk_ex hM104
   replace hk107:=ixB_t hk107
   obtain ⟨hk108,hM104⟩:=chk_ex hM104
   replace hk108:=ixB_t hk108
   obtain ⟨p109,h109,hM104⟩:=bind_ex hM104
   refine region_gw (D:=[17,18,19,20,21,22,23,24,25,26]) (Lr:=[]) (deps:=(fun | 0=>[17] | 1=>[18] | 2=>[19] | 3=>[20] | 4=>[21] | 5=>[22] | 6=>[23] | 7=>[24] | 8=>[25] | 9=>[26] | _=>[])) (rd:=(fun _=>[])) (zr:=(fun _=>[]))
    (φ:=fun i vs=>match i,vs with | 0,[v17]=>v17=.slice A0 x0.length c0 | 1,[v18]=>v18=iv p105 | 2,[v19]=>v19=.pointer (some ⟨adB A0,adO A0+p105.toNat*2,none⟩) | 3,[v20]=>v20=.agg #[iv ((x0.getD p105.toNat (0,0)).1),iv ((x0.getD p105.toNat (0,0)).2)] | 4,[v21]=>v21=.slice A1 x1.length c1 | 5,[v22]=>v22=iv p105 | 6,[v23]=>v23=.pointer (some ⟨adB A1,adO A1+p105.toNat*2,none⟩) | 7,[v24]=>v24=.agg #[iv ((x1.getD p105.toNat (0,0)).1),iv ((x1.getD p105.toNat (0,0)).2)] | 8,[v25]=>v25=.bool p109 | 9,[v26]=>v26=.bool (!p109) | _,_=>True)
    (C:=fun _ _=>[])
    (κ:=(fun _=>none)) (Z:=(fun _=>[])) mixed f (by kernel_rfl) S ?_ ?_
   ·refine ⟨?_,?_,?_,?_,?_,?_,?_,?_,?_,?_,trivial⟩
    ·intro a u X hB hu p hr hz hl S
     exact .inl ⟨rfl,_,u,(run_move rfl (f.evB hB rfl rfl)),rfl,S⟩
    ·intro a u X hB hu p hr hz hl S
     exact .inl ⟨rfl,_,u,(run_move rfl (f.evB hB rfl rfl)),rfl,S⟩
    ·intro a u X hB hu p hr hz hl S
     exact .inl ⟨rfl,_,u,(run_ix rfl Tryz.underlying38 sz110 (ev_sl (p 0 rfl)) (S.rc0 h0.rc) (ev_sl (p 1 rfl)) hk107),rfl,S⟩
    ·intro a u X hB hu p hr hz hl S
     exact .inl ⟨rfl,_,u,(run_loadN (cs:=#[iv ((x0.getD p105.toNat (0,0)).1),iv ((x0.getD p105.toNat (0,0)).2)]) rfl ag110 (ev_sl (p 2 rfl)) rfl (rd_elN (l:=x0) (S.rc0 h0.rc).rd rfl eBus_len (0,0) (ix_ltn hk107 rfl) rfl)),rfl,S⟩
    ·intro a u X hB hu p hr hz hl S
     exact .inl ⟨rfl,_,u,(run_move rfl (f.evB hB rfl rfl)),rfl,S⟩
    ·intro a u X hB hu p hr hz hl S
     exact .inl ⟨rfl,_,u,(run_move rfl (f.evB hB rfl rfl)),rfl,S⟩
    ·intro a u X hB hu p hr hz hl S
     exact .inl ⟨rfl,_,u,(run_ix rfl Tryz.underlying38 sz110 (ev_sl (p 4 rfl)) (S.rc0 h1.rc) (ev_sl (p 5 rfl)) hk108),rfl,S⟩
    ·intro a u X hB hu p hr hz hl S
     exact .inl ⟨rfl,_,u,(run_loadN (cs:=#[iv ((x1.getD p105.toNat (0,0)).1),iv ((x1.getD p105.toNat (0,0)).2)]) rfl ag110 (ev_sl (p 6 rfl)) rfl (rd_elN (l:=x1) (S.rc0 h1.rc).rd rfl eBus_len (0,0) (ix_ltn hk108 rfl) rfl)),rfl,S⟩
    ·intro a u X hB hu p hr hz hl S
     refine .inr (.inr (.inl ⟨rfl,_,_,(run_call (vs:=[.agg #[iv ((x0.getD p105.toNat (0,0)).1),iv ((x0.getD p105.toNat (0,0)).2)],.agg #[iv ((x1.getD p105.toNat (0,0)).1),iv ((x1.getD p105.toNat (0,0)).2)]]) rfl rfl co78 ⟨(ev_sl (p 3 rfl)),(ev_sl (p 7 rfl)),trivial⟩),?_⟩))
     refine Calls.mono (c_laws_eqBus (x0:=(x0.getD p105.toNat (0,0)).1) (x1:=(x0.getD p105.toNat (0,0)).2) (x2:=(x1.getD p105.toNat (0,0)).1) (x3:=(x1.getD p105.toNat (0,0)).2)  h109) ?_
     rintro e w1 ⟨rfl,T⟩
     exact ⟨_,rfl,rfl,S.call0 T⟩
    intro a u X hB hu p hr hz hl S
    exact .inl ⟨rfl,_,u,(run_not rfl (ev_sl (p 8 rfl))),rfl,S⟩
   intro a u hB hp S
   obtain ⟨q0,q1,q2,q3,q4,q5,q6,q7,q8,q9,-⟩:=hp
   replace S:St w u []:=S
   have f:=f.region hB [(17,_),(18,_),(19,_),(20,_),(21,_),(22,_),(23,_),(24,_),(25,_),(26,_)] (allSl_mem ⟨q0,q1,q2,q3,q4,q5,q6,q7,q8,q9,trivial⟩) rfl
   clear hB q0 q1 q2 q3 q4 q5 q6 q7 q8 q9
   cases hc110:(p109)
   ·replace hM104:=bif_f hc110 hM104
    refine cond_t f rfl (not_t hc110) ?_
    revert a;refine sr (ov rfl (fun a f=>run_assign rfl rfl) fun a f=>wn ?_)
    refine wp_ret ?_
    repeat with_reducible first|apply tr|apply ir|apply nr
    refine ret1_gw (.inl rfl) f rfl (res_tmp (f.ev rfl)) ?_
    obtain rfl:=Option.some.inj hM104
    obtain rfl:=Option.some.inj hM
    exact ⟨rfl,S.sel [] rfl rfl⟩
   replace hM104:=bif_t hc110 hM104
   refine cond_f f rfl (not_f hc110) ?_
   refine wp_skip ?_
   revert a;refine rl (mv rfl rfl (ov rfl (fun a f=>run_add (z:=w64 (p105+1)) (f.ev rfl) rfl rfl rfl) (ag rfl rfl fun a f=>wn ?_)))
   exact ⟨f1,Nat.lt_succ_self _,w64 (p105+1),hM104,f.keep _ ⟨rfl,rfl,rfl,rfl,trivial⟩,S.sel [] rfl rfl⟩
  rintro a u ⟨p102,rfl,f,S⟩
  replace hM:=elim_l hM
  revert a;refine sr (ov rfl (fun a f=>run_assign rfl rfl) fun a f=>wn ?_)
  refine wp_ret ?_
  refine ret1_gw (.inl rfl) f rfl (res_tmp (f.ev rfl)) ?_
  obtain rfl:=Option.some.inj hM
  exact ⟨rfl,S.sel [] rfl rfl⟩
 replace hM:=bif_t hc101 hM
 refine cond_t f rfl hc101 ?_
 revert a;refine sr (ov rfl (fun a f=>run_assign rfl rfl) fun a f=>wn ?_)
 refine wp_ret ?_
 repeat with_reducible first|apply tr|apply ir|apply nr
 refine ret1_gw (.inl rfl) f rfl (res_tmp (f.ev rfl)) ?_
 obtain rfl:=Option.some.inj hM
 exact ⟨rfl,S.sel [] rfl rfl⟩
theorem c_laws_eqBoolS {x0:List Bool} {x1:List Bool} {A0:Option Addr} {n0 c0:Nat} {A1:Option Addr} {n1 c1:Nat} {w:World} {r:Bool} (h0:Rt w 1 eB A0 n0 c0 x0) (h1:Rt w 1 eB A1 n1 c1 x1) (hM : m_laws_eqBoolS x0 x1=some r) :
  Calls Tryz.prog 79 #[.slice A0 n0 c0,.slice A1 n1 c1] w (fun e w'=>e=.returned (.bool r)∧St w w' []):=by
 obtain rfl:=h0.len
 obtain rfl:=h1.len
 unfold m_laws_eqBoolS at hM
 refine calls_gx Tryz.func79 Tryz.ntmps79 rfl rfl ?_
 intro a f
 have S:=St.nil w
 revert a;refine sr (ov rfl (fun a f=>run_assign rfl rfl) fun a f=>wn ?_)
 refine ws ?_
 revert a;refine sr (mv rfl rfl (ov rfl (fun a f=>run_lenL rfl rfl Tryz.underlying26 (f.ev rfl)) (mv rfl rfl (ov rfl (fun a f=>run_lenL rfl rfl Tryz.underlying26 (f.ev rfl)) (ov rfl (fun a f=>run_neq (f.ev rfl) (f.ev rfl) rfl) fun a f=>wn ?_)))))
 cases hc101:((x0.length:Int) != (x1.length:Int))
 ·replace hM:=bif_f hc101 hM
  refine cond_f f rfl hc101 ?_
  refine wp_skip ?_
  refine ws ?_
  revert a;refine sr (ov rfl (fun a f=>run_assign rfl rfl) fun a f=>wn ?_)
  obtain ⟨o103,hM104,hM⟩:=bind_ex hM
  refine wp_cut (fun a u=>∃ (p102:Unit),(Sum.inl p102)=o103∧Fr a 26 [(4,.bool false)]∧St w u []) ?_ ?_
  ·have _:=trivial
   refine wp_block ?_
   refine loop_gw (fun m a u=>∃ (p105:Int),m_laws_eqBoolS_l1 x0 x1 m p105=some _∧Fr a 26 [(0,.slice A0 x0.length c0),(1,.slice A1 x1.length c1),(4,.bool false),(5,iv p105)]∧St w u []) FUEL ⟨0,hM104,f.keep _ ⟨rfl,rfl,rfl,rfl,trivial⟩,S.sel [] rfl rfl⟩ ?_
   clear f S hM104;rintro m a u ⟨p105,hM104,f,S⟩
   rcases m with _ | f1
   ·exact none_some hM104
   rw [m_laws_eqBoolS_l1.eq_2] at hM104
   refine ws ?_
   revert a;refine sr (mv rfl rfl (mv rfl rfl (ov rfl (fun a f=>run_lenL rfl rfl Tryz.underlying26 (f.ev rfl)) (ov rfl (fun a f=>run_lss (f.ev rfl) (f.ev rfl) rfl) fun a f=>wn ?_))))
   cases hc106:(ltB p105 (x0.length:Int))
   ·replace hM104:=bif_f hc106 hM104
    refine cond_f f rfl hc106 ?_
    refine wp_exit ?_
    repeat with_reducible first|apply then_exit|apply in_hit|refine in_miss rfl ?_
    obtain rfl:=Option.some.inj hM104
    exact ⟨(),rfl,f.keep _ ⟨rfl,trivial⟩,S.sel [] rfl rfl⟩
   replace hM104:=bif_t hc106 hM104
   refine cond_t f rfl hc106 ?_
   refine wp_skip ?_
   refine ws ?_
   refine wp_block ?_
   refine ws ?_
   obtain ⟨hk107,hM104⟩:=chk_ex hM104
   replace hk107:=ixB_t hk107
   obtain ⟨hk108,hM104⟩:=chk_ex hM104
   replace hk108:=ixB_t hk108
   refine region_gw (D:=[17,18,19,20,21,22,23,24,25]) (Lr:=[]) (deps:=(fun | 0=>[17] | 1=>[18] | 2=>[19] | 3=>[20] | 4=>[21] | 5=>[22] | 6=>[23] | 7=>[24] | 8=>[25] | _=>[])) (rd:=(fun _=>[])) (zr:=(fun _=>[]))
    (φ:=fun i vs=>match i,vs with | 0,[v17]=>v17=.slice A0 x0.length c0 | 1,[v18]=>v18=iv p105 | 2,[v19]=>v19=.pointer (some ⟨adB A0,adO A0+p105.toNat*1,none⟩) | 3,[v20]=>v20=.bool (x0.getD p105.toNat false) | 4,[v21]=>v21=.slice A1 x1.length c1 | 5,[v22]=>v22=iv p105 | 6,[v23]=>v23=.pointer (some ⟨adB A1,adO A1+p105.toNat*1,none⟩) | 7,[v24]=>v24=.bool (x1.getD p105.toNat false) | 8,[v25]=>v25=.bool ((x0.getD p105.toNat false) != (x1.getD p105.toNat false)) | _,_=>True)
    (C:=fun _ _=>[])
    (κ:=(fun _=>none)) (Z:=(fun _=>[])) mixed f (by kernel_rfl) S ?_ ?_
   ·refine ⟨?_,?_,?_,?_,?_,?_,?_,?_,?_,trivial⟩
    ·intro a u X hB hu p hr hz hl S
     exact .inl ⟨rfl,_,u,(run_move rfl (f.evB hB rfl rfl)),rfl,S⟩
    ·intro a u X hB hu p hr hz hl S
     exact .inl ⟨rfl,_,u,(run_move rfl (f.evB hB rfl rfl)),rfl,S⟩
    ·intro a u X hB hu p hr hz hl S
     exact .inl ⟨rfl,_,u,(run_ix rfl Tryz.underlying26 sz4 (ev_sl (p 0 rfl)) (S.rc0 h0.rc) (ev_sl (p 1 rfl)) hk107),rfl,S⟩
    ·intro a u X hB hu p hr hz hl S
     exact .inl ⟨rfl,_,u,(run_load1 rfl one4 (ev_sl (p 2 rfl)) (rd_el0 (l:=x0) (S.rc0 h0.rc).rd rfl eB_len false (ix_ltn hk107 rfl) rfl)),rfl,S⟩
    ·intro a u X hB hu p hr hz hl S
     exact .inl ⟨rfl,_,u,(run_move rfl (f.evB hB rfl rfl)),rfl,S⟩
    ·intro a u X hB hu p hr hz hl S
     exact .inl ⟨rfl,_,u,(run_move rfl (f.evB hB rfl rfl)),rfl,S⟩
    ·intro a u X hB hu p hr hz hl S
     exact .inl ⟨rfl,_,u,(run_ix rfl Tryz.underlying26 sz4 (ev_sl (p 4 rfl)) (S.rc0 h1.rc) (ev_sl (p 5 rfl)) hk108),rfl,S⟩
    ·intro a u X hB hu p hr hz hl S
     exact .inl ⟨rfl,_,u,(run_load1 rfl one4 (ev_sl (p 6 rfl)) (rd_el0 (l:=x1) (S.rc0 h1.rc).rd rfl eB_len false (ix_ltn hk108 rfl) rfl)),rfl,S⟩
    intro a u X hB hu p hr hz hl S
    exact .inl ⟨rfl,_,u,(run_neqB (ev_sl (p 3 rfl)) (ev_sl (p 7 rfl)) Tryz.underlying4 rfl),rfl,S⟩
   intro a u hB hp S
   obtain ⟨q0,q1,q2,q3,q4,q5,q6,q7,q8,-⟩:=hp
   replace S:St w u []:=S
   have f:=f.region hB [(17,_),(18,_),(19,_),(20,_),(21,_),(22,_),(23,_),(24,_),(25,_)] (allSl_mem ⟨q0,q1,q2,q3,q4,q5,q6,q7,q8,trivial⟩) rfl
   clear hB q0 q1 q2 q3 q4 q5 q6 q7 q8
   cases hc109:((x0.getD p105.toNat false) != (x1.getD p105.toNat false))
   ·replace hM104:=bif_f hc109 hM104
    refine cond_f f rfl hc109 ?_
    refine wp_skip ?_
    revert a;refine rl (mv rfl rfl (ov rfl (fun a f=>run_add (z:=w64 (p105+1)) (f.ev rfl) rfl rfl rfl) (ag rfl rfl fun a f=>wn ?_)))
    exact ⟨f1,Nat.lt_succ_self _,w64 (p105+1),hM104,f.keep _ ⟨rfl,rfl,rfl,rfl,trivial⟩,S.sel [] rfl rfl⟩
   replace hM104:=bif_t hc109 hM104
   refine cond_t f rfl hc109 ?_
   revert a;refine sr (ov rfl (fun a f=>run_assign rfl rfl) fun a f=>wn ?_)
   refine wp_ret ?_
   repeat with_reducible first|apply tr|apply ir|apply nr
   refine ret1_gw (.inl rfl) f rfl (res_tmp (f.ev rfl)) ?_
   obtain rfl:=Option.some.inj hM104
   obtain rfl:=Option.some.inj hM
   exact ⟨rfl,S.sel [] rfl rfl⟩
  rintro a u ⟨p102,rfl,f,S⟩
  replace hM:=elim_l hM
  revert a;refine sr (ov rfl (fun a f=>run_assign rfl rfl) fun a f=>wn ?_)
  refine wp_ret ?_
  refine ret1_gw (.inl rfl) f rfl (res_tmp (f.ev rfl)) ?_
  obtain rfl:=Option.some.inj hM
  exact ⟨rfl,S.sel [] rfl rfl⟩
 replace hM:=bif_t hc101 hM
 refine cond_t f rfl hc101 ?_
 revert a;refine sr (ov rfl (fun a f=>run_assign rfl rfl) fun a f=>wn ?_)
 refine wp_ret ?_
 repeat with_reducible first|apply tr|apply ir|apply nr
 refine ret1_gw (.inl rfl) f rfl (res_tmp (f.ev rfl)) ?_
 obtain rfl:=Option.some.inj hM
 exact ⟨rfl,S.sel [] rfl rfl⟩
theorem c_laws_eqPermit {x0:Int} {x1:Int} {x2:Int} {x3:Int} {w:World} {r:Bool}  (hM : m_laws_eqPermit x0 x1 x2 x3=some r) :
  Calls Tryz.prog 113 #[.agg #[iv x0,iv x1],.agg #[iv x2,iv x3]] w (fun e w'=>e=.returned (.bool r)∧St w w' []):=by
 unfold m_laws_eqPermit at hM
 refine calls_gx Tryz.func113 Tryz.ntmps113 rfl rfl ?_
 intro a f
 have S:=St.nil w
 refine wsg ?_
 refine op_new (cs:=#[iv x0,iv x1]) rfl rfl f rfl S (run_box rfl (f.ev rfl) rfl) ?_;clear f S;intro a g101 u f S
 refine op_new (cs:=#[iv x2,iv x3]) rfl rfl f rfl S (run_box rfl (f.ev rfl) rfl) ?_;clear f S;intro a g102 u f S
 revert a;refine ov rfl (fun a f=>run_assign rfl rfl) fun a f=>wn ?_
 refine ws ?_
 revert a;refine sr (ov rfl (fun a f=>run_fieldAddr rfl fl78_0 (f.ev rfl) rfl) (ov rfl (fun a f=>run_load1 rfl one3 (f.ev rfl) (S.cell 1 rfl rfl)) (ov rfl (fun a f=>run_fieldAddr rfl fl78_0 (f.ev rfl) rfl) (ov rfl (fun a f=>run_load1 rfl one3 (f.ev rfl) (S.cell 0 rfl rfl)) (ov rfl (fun a f=>run_neq (f.ev rfl) (f.ev rfl) rfl) fun a f=>wn ?_)))))
 cases hc103:(x0 != x2)
 ·replace hM:=bif_f hc103 hM
  refine cond_f f rfl hc103 ?_
  refine wp_skip ?_
  refine ws ?_
  revert a;refine sr (ov rfl (fun a f=>run_fieldAddr rfl fl78_1 (f.ev rfl) rfl) (ov rfl (fun a f=>run_load1 rfl one3 (f.ev rfl) (S.cell 1 rfl rfl)) (ov rfl (fun a f=>run_fieldAddr rfl fl78_1 (f.ev rfl) rfl) (ov rfl (fun a f=>run_load1 rfl one3 (f.ev rfl) (S.cell 0 rfl rfl)) (ov rfl (fun a f=>run_neq (f.ev rfl) (f.ev rfl) rfl) fun a f=>wn ?_)))))
  cases hc104:(x1 != x3)
  ·replace hM:=bif_f hc104 hM
   refine cond_f f rfl hc104 ?_
   refine wp_skip ?_
   revert a;refine sr (ov rfl (fun a f=>run_assign rfl rfl) fun a f=>wn ?_)
   refine wp_ret ?_
   refine ret1_gw (.inl rfl) f rfl (res_tmp (f.ev rfl)) ?_
   obtain rfl:=Option.some.inj hM
   exact ⟨rfl,S.sel [] rfl rfl⟩
  replace hM:=bif_t hc104 hM
  refine cond_t f rfl hc104 ?_
  revert a;refine sr (ov rfl (fun a f=>run_assign rfl rfl) fun a f=>wn ?_)
  refine wp_ret ?_
  repeat with_reducible first|apply tr|apply ir|apply nr
  refine ret1_gw (.inl rfl) f rfl (res_tmp (f.ev rfl)) ?_
  obtain rfl:=Option.some.inj hM
  exact ⟨rfl,S.sel [] rfl rfl⟩
 replace hM:=bif_t hc103 hM
 refine cond_t f rfl hc103 ?_
 revert a;refine sr (ov rfl (fun a f=>run_assign rfl rfl) fun a f=>wn ?_)
 refine wp_ret ?_
 repeat with_reducible first|apply tr|apply ir|apply nr
 refine ret1_gw (.inl rfl) f rfl (res_tmp (f.ev rfl)) ?_
 obtain rfl:=Option.some.inj hM
 exact ⟨rfl,S.sel [] rfl rfl⟩
theorem c_laws_eqPermitS {x0:List (Int×Int)} {x1:List (Int×Int)} {A0:Option Addr} {n0 c0:Nat} {A1:Option Addr} {n1 c1:Nat} {w:World} {r:Bool} (h0:Rt w 2 ePermit A0 n0 c0 x0) (h1:Rt w 2 ePermit A1 n1 c1 x1) (hM : m_laws_eqPermitS x0 x1=some r) :
  Calls Tryz.prog 80 #[.slice A0 n0 c0,.slice A1 n1 c1] w (fun e w'=>e=.returned (.bool r)∧St w w' []):=by
 obtain rfl:=h0.len
 obtain rfl:=h1.len
 unfold m_laws_eqPermitS at hM
 refine calls_gx Tryz.func80 Tryz.ntmps80 rfl rfl ?_
 intro a f
 have S:=St.nil w
 revert a;refine sr (ov rfl (fun a f=>run_assign rfl rfl) fun a f=>wn ?_)
 refine ws ?_
 revert a;refine sr (mv rfl rfl (ov rfl (fun a f=>run_lenL rfl rfl Tryz.underlying39 (f.ev rfl)) (mv rfl rfl (ov rfl (fun a f=>run_lenL rfl rfl Tryz.underlying39 (f.ev rfl)) (ov rfl (fun a f=>run_neq (f.ev rfl) (f.ev rfl) rfl) fun a f=>wn ?_)))))
 cases hc101:((x0.length:Int) != (x1.length:Int))
 ·replace hM:=bif_f hc101 hM
  refine cond_f f rfl hc101 ?_
  refine wp_skip ?_
  refine ws ?_
  revert a;refine sr (ov rfl (fun a f=>run_assign rfl rfl) fun a f=>wn ?_)
  obtain ⟨o103,hM104,hM⟩:=bind_ex hM
  refine wp_cut (fun a u=>∃ (p102:Unit),(Sum.inl p102)=o103∧Fr a 27 [(4,.bool false)]∧St w u []) ?_ ?_
  ·have _:=trivial
   refine wp_block ?_
   refine loop_gw (fun m a u=>∃ (p105:Int),m_laws_eqPermitS_l1 x0 x1 m p105=some _∧Fr a 27 [(0,.slice A0 x0.length c0),(1,.slice A1 x1.length c1),(4,.bool false),(5,iv p105)]∧St w u []) FUEL ⟨0,hM104,f.keep _ ⟨rfl,rfl,rfl,rfl,trivial⟩,S.sel [] rfl rfl⟩ ?_
   clear f S hM104;rintro m a u ⟨p105,hM104,f,S⟩
   rcases m with _ | f1
   ·exact none_some hM104
   rw [m_laws_eqPermitS_l1.eq_2] at hM104
   refine ws ?_
   revert a;refine sr (mv rfl rfl (mv rfl rfl (ov rfl (fun a f=>run_lenL rfl rfl Tryz.underlying39 (f.ev rfl)) (ov rfl (fun a f=>run_lss (f.ev rfl) (f.ev rfl) rfl) fun a f=>wn ?_))))
   cases hc106:(ltB p105 (x0.length:Int))
   ·replace hM104:=bif_f hc106 hM104
    refine cond_f f rfl hc106 ?_
    refine wp_exit ?_
    repeat with_reducible first|apply then_exit|apply in_hit|refine in_miss rfl ?_
    obtain rfl:=Option.some.inj hM104
    exact ⟨(),rfl,f.keep _ ⟨rfl,trivial⟩,S.sel [] rfl rfl⟩
   replace hM104:=bif_t hc106 hM104
   refine cond_t f rfl hc106 ?_
   refine wp_skip ?_
   refine ws ?_
   refine wp_block ?_
   refine ws ?_
   obtain ⟨hk107,hM104⟩:=chk_ex hM104
   replace hk107:=ixB_t hk107
   obtain ⟨hk108,hM104⟩:=chk_ex hM104
   replace hk108:=ixB_t hk108
   obtain ⟨p109,h109,hM104⟩:=bind_ex hM104
   refine region_gw (D:=[17,18,19,20,21,22,23,24,25,26]) (Lr:=[]) (deps:=(fun | 0=>[17] | 1=>[18] | 2=>[19] | 3=>[20] | 4=>[21] | 5=>[22] | 6=>[23] | 7=>[24] | 8=>[25] | 9=>[26] | _=>[])) (rd:=(fun _=>[])) (zr:=(fun _=>[]))
    (φ:=fun i vs=>match i,vs with | 0,[v17]=>v17=.slice A0 x0.length c0 | 1,[v18]=>v18=iv p105 | 2,[v19]=>v19=.pointer (some ⟨adB A0,adO A0+p105.toNat*2,none⟩) | 3,[v20]=>v20=.agg #[iv ((x0.getD p105.toNat (0,0)).1),iv ((x0.getD p105.toNat (0,0)).2)] | 4,[v21]=>v21=.slice A1 x1.length c1 | 5,[v22]=>v22=iv p105 | 6,[v23]=>v23=.pointer (some ⟨adB A1,adO A1+p105.toNat*2,none⟩) | 7,[v24]=>v24=.agg #[iv ((x1.getD p105.toNat (0,0)).1),iv ((x1.getD p105.toNat (0,0)).2)] | 8,[v25]=>v25=.bool p109 | 9,[v26]=>v26=.bool (!p109) | _,_=>True)
    (C:=fun _ _=>[])
    (κ:=(fun _=>none)) (Z:=(fun _=>[])) mixed f (by kernel_rfl) S ?_ ?_
   ·refine ⟨?_,?_,?_,?_,?_,?_,?_,?_,?_,?_,trivial⟩
    ·intro a u X hB hu p hr hz hl S
     exact .inl ⟨rfl,_,u,(run_move rfl (f.evB hB rfl rfl)),rfl,S⟩
    ·intro a u X hB hu p hr hz hl S
     exact .inl ⟨rfl,_,u,(run_move rfl (f.evB hB rfl rfl)),rfl,S⟩
    ·intro a u X hB hu p hr hz hl S
     exact .inl ⟨rfl,_,u,(run_ix rfl Tryz.underlying39 sz78 (ev_sl (p 0 rfl)) (S.rc0 h0.rc) (ev_sl (p 1 rfl)) hk107),rfl,S⟩
    ·intro a u X hB hu p hr hz hl S
     exact .inl ⟨rfl,_,u,(run_loadN (cs:=#[iv ((x0.getD p105.toNat (0,0)).1),iv ((x0.getD p105.toNat (0,0)).2)]) rfl ag78 (ev_sl (p 2 rfl)) rfl (rd_elN (l:=x0) (S.rc0 h0.rc).rd rfl ePermit_len (0,0) (ix_ltn hk107 rfl) rfl)),rfl,S⟩
    ·intro a u X hB hu p hr hz hl S
     exact .inl ⟨rfl,_,u,(run_move rfl (f.evB hB rfl rfl)),rfl,S⟩
    ·intro a u X hB hu p hr hz hl S
     exact .inl ⟨rfl,_,u,(run_move rfl (f.evB hB rfl rfl)),rfl,S⟩
    ·intro a u X hB hu p hr hz hl S
     exact .inl ⟨rfl,_,u,(run_ix rfl Tryz.underlying39 sz78 (ev_sl (p 4 rfl)) (S.rc0 h1.rc) (ev_sl (p 5 rfl)) hk108),rfl,S⟩
    ·intro a u X hB hu p hr hz hl S
     exact .inl ⟨rfl,_,u,(run_loadN (cs:=#[iv ((x1.getD p105.toNat (0,0)).1),iv ((x1.getD p105.toNat (0,0)).2)]) rfl ag78 (ev_sl (p 6 rfl)) rfl (rd_elN (l:=x1) (S.rc0 h1.rc).rd rfl ePermit_len (0,0) (ix_ltn hk108 rfl) rfl)),rfl,S⟩
    ·intro a u X hB hu p hr hz hl S
     refine .inr (.inr (.inl ⟨rfl,_,_,(run_call (vs:=[.agg #[iv ((x0.getD p105.toNat (0,0)).1),iv ((x0.getD p105.toNat (0,0)).2)],.agg #[iv ((x1.getD p105.toNat (0,0)).1),iv ((x1.getD p105.toNat (0,0)).2)]]) rfl rfl co113 ⟨(ev_sl (p 3 rfl)),(ev_sl (p 7 rfl)),trivial⟩),?_⟩))
     refine Calls.mono (c_laws_eqPermit (x0:=(x0.getD p105.toNat (0,0)).1) (x1:=(x0.getD p105.toNat (0,0)).2) (x2:=(x1.getD p105.toNat (0,0)).1) (x3:=(x1.getD p105.toNat (0,0)).2)  h109) ?_
     rintro e w1 ⟨rfl,T⟩
     exact ⟨_,rfl,rfl,S.call0 T⟩
    intro a u X hB hu p hr hz hl S
    exact .inl ⟨rfl,_,u,(run_not rfl (ev_sl (p 8 rfl))),rfl,S⟩
   intro a u hB hp S
   obtain ⟨q0,q1,q2,q3,q4,q5,q6,q7,q8,q9,-⟩:=hp
   replace S:St w u []:=S
   have f:=f.region hB [(17,_),(18,_),(19,_),(20,_),(21,_),(22,_),(23,_),(24,_),(25,_),(26,_)] (allSl_mem ⟨q0,q1,q2,q3,q4,q5,q6,q7,q8,q9,trivial⟩) rfl
   clear hB q0 q1 q2 q3 q4 q5 q6 q7 q8 q9
   cases hc110:(p109)
   ·replace hM104:=bif_f hc110 hM104
    refine cond_t f rfl (not_t hc110) ?_
    revert a;refine sr (ov rfl (fun a f=>run_assign rfl rfl) fun a f=>wn ?_)
    refine wp_ret ?_
    repeat with_reducible first|apply tr|apply ir|apply nr
    refine ret1_gw (.inl rfl) f rfl (res_tmp (f.ev rfl)) ?_
    obtain rfl:=Option.some.inj hM104
    obtain rfl:=Option.some.inj hM
    exact ⟨rfl,S.sel [] rfl rfl⟩
   replace hM104:=bif_t hc110 hM104
   refine cond_f f rfl (not_f hc110) ?_
   refine wp_skip ?_
   revert a;refine rl (mv rfl rfl (ov rfl (fun a f=>run_add (z:=w64 (p105+1)) (f.ev rfl) rfl rfl rfl) (ag rfl rfl fun a f=>wn ?_)))
   exact ⟨f1,Nat.lt_succ_self _,w64 (p105+1),hM104,f.keep _ ⟨rfl,rfl,rfl,rfl,trivial⟩,S.sel [] rfl rfl⟩
  rintro a u ⟨p102,rfl,f,S⟩
  replace hM:=elim_l hM
  revert a;refine sr (ov rfl (fun a f=>run_assign rfl rfl) fun a f=>wn ?_)
  refine wp_ret ?_
  refine ret1_gw (.inl rfl) f rfl (res_tmp (f.ev rfl)) ?_
  obtain rfl:=Option.some.inj hM
  exact ⟨rfl,S.sel [] rfl rfl⟩
 replace hM:=bif_t hc101 hM
 refine cond_t f rfl hc101 ?_
 revert a;refine sr (ov rfl (fun a f=>run_assign rfl rfl) fun a f=>wn ?_)
 refine wp_ret ?_
 repeat with_reducible first|apply tr|apply ir|apply nr
 refine ret1_gw (.inl rfl) f rfl (res_tmp (f.ev rfl)) ?_
 obtain rfl:=Option.some.inj hM
 exact ⟨rfl,S.sel [] rfl rfl⟩
theorem c_laws_eqWork {x0:List Bool} {x1:List Bool} {x2:List (Int×Int)} {x3:List Bool} {x4:List Bool} {x5:List (Int×Int)} {A0:Option Addr} {n0 c0:Nat} {A1:Option Addr} {n1 c1:Nat} {A2:Option Addr} {n2 c2:Nat} {A3:Option Addr} {n3 c3:Nat} {A4:Option Addr} {n4 c4:Nat} {A5:Option Addr} {n5 c5:Nat} {w:World} {r:Bool} (h0:Rt w 1 eB A0 n0 c0 x0) (h1:Rt w 1 eB A1 n1 c1 x1) (h2:Rt w 2 ePermit A2 n2 c2 x2) (h3:Rt w 1 eB A3 n3 c3 x3) (h4:Rt w 1 eB A4 n4 c4 x4) (h5:Rt w 2 ePermit A5 n5 c5 x5) (hM : m_laws_eqWork x0 x1 x2 x3 x4 x5=some r) :
  Calls Tryz.prog 38 #[.agg #[.slice A0 n0 c0,.slice A1 n1 c1,.slice A2 n2 c2],.agg #[.slice A3 n3 c3,.slice A4 n4 c4,.slice A5 n5 c5]] w (fun e w'=>e=.returned (.bool r)∧St w w' []):=by
 obtain rfl:=h0.len
 obtain rfl:=h1.len
 obtain rfl:=h2.len
 obtain rfl:=h3.len
 obtain rfl:=h4.len
 obtain rfl:=h5.len
 unfold m_laws_eqWork at hM
 refine calls_gx Tryz.func38 Tryz.ntmps38 rfl rfl ?_
 intro a f
 have S:=St.nil w
 refine wsg ?_
 refine op_new (cs:=#[.slice A0 x0.length c0,.slice A1 x1.length c1,.slice A2 x2.length c2]) rfl rfl f rfl S (run_box rfl (f.ev rfl) rfl) ?_;clear f S;intro a g101 u f S
 refine op_new (cs:=#[.slice A3 x3.length c3,.slice A4 x4.length c4,.slice A5 x5.length c5]) rfl rfl f rfl S (run_box rfl (f.ev rfl) rfl) ?_;clear f S;intro a g102 u f S
 revert a;refine ov rfl (fun a f=>run_assign rfl rfl) fun a f=>wn ?_
 refine ws ?_
 revert a;refine sr (ov rfl (fun a f=>run_fieldAddr rfl fl41_0 (f.ev rfl) rfl) (ov rfl (fun a f=>run_load1 rfl one26 (f.ev rfl) (S.cell 1 rfl rfl)) (ov rfl (fun a f=>run_fieldAddr rfl fl41_0 (f.ev rfl) rfl) (ov rfl (fun a f=>run_load1 rfl one26 (f.ev rfl) (S.cell 0 rfl rfl)) fun a f=>?_))))
 obtain ⟨p103,h103,hM⟩:=bind_ex hM
 refine op_call rfl rfl f rfl (run_call (vs:=[_,_]) rfl rfl co79 ⟨(f.ev rfl),(f.ev rfl),trivial⟩) (c_laws_eqBoolS ⟨(S.rc0 h0.rc),rfl⟩ ⟨(S.rc0 h3.rc),rfl⟩ h103) ?_
 rintro e u ⟨rfl,T⟩
 refine ⟨_,rfl,?_⟩
 clear f;intro a f
 replace S:=S.call0 T;clear T
 revert a;refine ov rfl (fun a f=>run_not rfl (f.ev rfl)) fun a f=>wn ?_
 cases hc104:(p103)
 ·replace hM:=bif_f hc104 hM
  refine cond_t f rfl (not_t hc104) ?_
  revert a;refine sr (ov rfl (fun a f=>run_assign rfl rfl) fun a f=>wn ?_)
  refine wp_ret ?_
  repeat with_reducible first|apply tr|apply ir|apply nr
  refine ret1_gw (.inl rfl) f rfl (res_tmp (f.ev rfl)) ?_
  obtain rfl:=Option.some.inj hM
  exact ⟨rfl,S.sel [] rfl rfl⟩
 replace hM:=bif_t hc104 hM
 refine cond_f f rfl (not_f hc104) ?_
 refine wp_skip ?_
 refine ws ?_
 revert a;refine sr (ov rfl (fun a f=>run_fieldAddr rfl fl41_1 (f.ev rfl) rfl) (ov rfl (fun a f=>run_load1 rfl one26 (f.ev rfl) (S.cell 1 rfl rfl)) (ov rfl (fun a f=>run_fieldAddr rfl fl41_1 (f.ev rfl) rfl) (ov rfl (fun a f=>run_load1 rfl one26 (f.ev rfl) (S.cell 0 rfl rfl)) fun a f=>?_))))
 obtain ⟨p105,h105,hM⟩:=bind_ex hM
 refine op_call rfl rfl f rfl (run_call (vs:=[_,_]) rfl rfl co79 ⟨(f.ev rfl),(f.ev rfl),trivial⟩) (c_laws_eqBoolS ⟨(S.rc0 h1.rc),rfl⟩ ⟨(S.rc0 h4.rc),rfl⟩ h105) ?_
 rintro e u ⟨rfl,T⟩
 refine ⟨_,rfl,?_⟩
 clear f;intro a f
 replace S:=S.call0 T;clear T
 revert a;refine ov rfl (fun a f=>run_not rfl (f.ev rfl)) fun a f=>wn ?_
 cases hc106:(p105)
 ·replace hM:=bif_f hc106 hM
  refine cond_t f rfl (not_t hc106) ?_
  revert a;refine sr (ov rfl (fun a f=>run_assign rfl rfl) fun a f=>wn ?_)
  refine wp_ret ?_
  repeat with_reducible first|apply tr|apply ir|apply nr
  refine ret1_gw (.inl rfl) f rfl (res_tmp (f.ev rfl)) ?_
  obtain rfl:=Option.some.inj hM
  exact ⟨rfl,S.sel [] rfl rfl⟩
 replace hM:=bif_t hc106 hM
 refine cond_f f rfl (not_f hc106) ?_
 refine wp_skip ?_
 refine ws ?_
 revert a;refine sr (ov rfl (fun a f=>run_fieldAddr rfl fl41_2 (f.ev rfl) rfl) (ov rfl (fun a f=>run_load1 rfl one39 (f.ev rfl) (S.cell 1 rfl rfl)) (ov rfl (fun a f=>run_fieldAddr rfl fl41_2 (f.ev rfl) rfl) (ov rfl (fun a f=>run_load1 rfl one39 (f.ev rfl) (S.cell 0 rfl rfl)) fun a f=>?_))))
 obtain ⟨p107,h107,hM⟩:=bind_ex hM
 refine op_call rfl rfl f rfl (run_call (vs:=[_,_]) rfl rfl co80 ⟨(f.ev rfl),(f.ev rfl),trivial⟩) (c_laws_eqPermitS ⟨(S.rc0 h2.rc),rfl⟩ ⟨(S.rc0 h5.rc),rfl⟩ h107) ?_
 rintro e u ⟨rfl,T⟩
 refine ⟨_,rfl,?_⟩
 clear f;intro a f
 replace S:=S.call0 T;clear T
 revert a;refine ov rfl (fun a f=>run_not rfl (f.ev rfl)) fun a f=>wn ?_
 cases hc108:(p107)
 ·replace hM:=bif_f hc108 hM
  refine cond_t f rfl (not_t hc108) ?_
  revert a;refine sr (ov rfl (fun a f=>run_assign rfl rfl) fun a f=>wn ?_)
  refine wp_ret ?_
  repeat with_reducible first|apply tr|apply ir|apply nr
  refine ret1_gw (.inl rfl) f rfl (res_tmp (f.ev rfl)) ?_
  obtain rfl:=Option.some.inj hM
  exact ⟨rfl,S.sel [] rfl rfl⟩
 replace hM:=bif_t hc108 hM
 refine cond_f f rfl (not_f hc108) ?_
 refine wp_skip ?_
 revert a;refine sr (ov rfl (fun a f=>run_assign rfl rfl) fun a f=>wn ?_)
 refine wp_ret ?_
 refine ret1_gw (.inl rfl) f rfl (res_tmp (f.ev rfl)) ?_
 obtain rfl:=Option.some.inj hM
 exact ⟨rfl,S.sel [] rfl rfl⟩
theorem c_laws_eqIntS {x0:List Int} {x1:List Int} {A0:Option Addr} {n0 c0:Nat} {A1:Option Addr} {n1 c1:Nat} {w:World} {r:Bool} (h0:Rt w 1 eI A0 n0 c0 x0) (h1:Rt w 1 eI A1 n1 c1 x1) (hM : m_laws_eqIntS x0 x1=some r) :
  Calls Tryz.prog 39 #[.slice A0 n0 c0,.slice A1 n1 c1] w (fun e w'=>e=.returned (.bool r)∧St w w' []):=by
 obtain rfl:=h0.len
 obtain rfl:=h1.len
 unfold m_laws_eqIntS at hM
 refine calls_gx Tryz.func39 Tryz.ntmps39 rfl rfl ?_
 intro a f
 have S:=St.nil w
 revert a;refine sr (ov rfl (fun a f=>run_assign rfl rfl) fun a f=>wn ?_)
 refine ws ?_
 revert a;refine sr (mv rfl rfl (ov rfl (fun a f=>run_lenL rfl rfl Tryz.underlying30 (f.ev rfl)) (mv rfl rfl (ov rfl (fun a f=>run_lenL rfl rfl Tryz.underlying30 (f.ev rfl)) (ov rfl (fun a f=>run_neq (f.ev rfl) (f.ev rfl) rfl) fun a f=>wn ?_)))))
 cases hc101:((x0.length:Int) != (x1.length:Int))
 ·replace hM:=bif_f hc101 hM
  refine cond_f f rfl hc101 ?_
  refine wp_skip ?_
  refine ws ?_
  revert a;refine sr (ov rfl (fun a f=>run_assign rfl rfl) fun a f=>wn ?_)
  obtain ⟨o103,hM104,hM⟩:=bind_ex hM
  refine wp_cut (fun a u=>∃ (p102:Unit),(Sum.inl p102)=o103∧Fr a 26 [(4,.bool false)]∧St w u []) ?_ ?_
  ·have _:=trivial
   refine wp_block ?_
   refine loop_gw (fun m a u=>∃ (p105:Int),m_laws_eqIntS_l1 x0 x1 m p105=some _∧Fr a 26 [(0,.slice A0 x0.length c0),(1,.slice A1 x1.length c1),(4,.bool false),(5,iv p105)]∧St w u []) FUEL ⟨0,hM104,f.keep _ ⟨rfl,rfl,rfl,rfl,trivial⟩,S.sel [] rfl rfl⟩ ?_
   clear f S hM104;rintro m a u ⟨p105,hM104,f,S⟩
   rcases m with _ | f1
   ·exact none_some hM104
   rw [m_laws_eqIntS_l1.eq_2] at hM104
   refine ws ?_
   revert a;refine sr (mv rfl rfl (mv rfl rfl (ov rfl (fun a f=>run_lenL rfl rfl Tryz.underlying30 (f.ev rfl)) (ov rfl (fun a f=>run_lss (f.ev rfl) (f.ev rfl) rfl) fun a f=>wn ?_))))
   cases hc106:(ltB p105 (x0.length:Int))
   ·replace hM104:=bif_f hc106 hM104
    refine cond_f f rfl hc106 ?_
    refine wp_exit ?_
    repeat with_reducible first|apply then_exit|apply in_hit|refine in_miss rfl ?_
    obtain rfl:=Option.some.inj hM104
    exact ⟨(),rfl,f.keep _ ⟨rfl,trivial⟩,S.sel [] rfl rfl⟩
   replace hM104:=bif_t hc106 hM104
   refine cond_t f rfl hc106 ?_
   refine wp_skip ?_
   refine ws ?_
   refine wp_block ?_
   refine ws ?_
   obtain ⟨hk107,hM104⟩:=chk_ex hM104
   replace hk107:=ixB_t hk107
   obtain ⟨hk108,hM104⟩:=chk_ex hM104
   replace hk108:=ixB_t hk108
   refine region_gw (D:=[17,18,19,20,21,22,23,24,25]) (Lr:=[]) (deps:=(fun | 0=>[17] | 1=>[18] | 2=>[19] | 3=>[20] | 4=>[21] | 5=>[22] | 6=>[23] | 7=>[24] | 8=>[25] | _=>[])) (rd:=(fun _=>[])) (zr:=(fun _=>[]))
    (φ:=fun i vs=>match i,vs with | 0,[v17]=>v17=.slice A0 x0.length c0 | 1,[v18]=>v18=iv p105 | 2,[v19]=>v19=.pointer (some ⟨adB A0,adO A0+p105.toNat*1,none⟩) | 3,[v20]=>v20=iv (x0.getD p105.toNat 0) | 4,[v21]=>v21=.slice A1 x1.length c1 | 5,[v22]=>v22=iv p105 | 6,[v23]=>v23=.pointer (some ⟨adB A1,adO A1+p105.toNat*1,none⟩) | 7,[v24]=>v24=iv (x1.getD p105.toNat 0) | 8,[v25]=>v25=.bool ((x0.getD p105.toNat 0) != (x1.getD p105.toNat 0)) | _,_=>True)
    (C:=fun _ _=>[])
    (κ:=(fun _=>none)) (Z:=(fun _=>[])) mixed f (by kernel_rfl) S ?_ ?_
   ·refine ⟨?_,?_,?_,?_,?_,?_,?_,?_,?_,trivial⟩
    ·intro a u X hB hu p hr hz hl S
     exact .inl ⟨rfl,_,u,(run_move rfl (f.evB hB rfl rfl)),rfl,S⟩
    ·intro a u X hB hu p hr hz hl S
     exact .inl ⟨rfl,_,u,(run_move rfl (f.evB hB rfl rfl)),rfl,S⟩
    ·intro a u X hB hu p hr hz hl S
     exact .inl ⟨rfl,_,u,(run_ix rfl Tryz.underlying30 sz3 (ev_sl (p 0 rfl)) (S.rc0 h0.rc) (ev_sl (p 1 rfl)) hk107),rfl,S⟩
    ·intro a u X hB hu p hr hz hl S
     exact .inl ⟨rfl,_,u,(run_load1 rfl one3 (ev_sl (p 2 rfl)) (rd_el0 (l:=x0) (S.rc0 h0.rc).rd rfl eI_len 0 (ix_ltn hk107 rfl) rfl)),rfl,S⟩
    ·intro a u X hB hu p hr hz hl S
     exact .inl ⟨rfl,_,u,(run_move rfl (f.evB hB rfl rfl)),rfl,S⟩
    ·intro a u X hB hu p hr hz hl S
     exact .inl ⟨rfl,_,u,(run_move rfl (f.evB hB rfl rfl)),rfl,S⟩
    ·intro a u X hB hu p hr hz hl S
     exact .inl ⟨rfl,_,u,(run_ix rfl Tryz.underlying30 sz3 (ev_sl (p 4 rfl)) (S.rc0 h1.rc) (ev_sl (p 5 rfl)) hk108),rfl,S⟩
    ·intro a u X hB hu p hr hz hl S
     exact .inl ⟨rfl,_,u,(run_load1 rfl one3 (ev_sl (p 6 rfl)) (rd_el0 (l:=x1) (S.rc0 h1.rc).rd rfl eI_len 0 (ix_ltn hk108 rfl) rfl)),rfl,S⟩
    intro a u X hB hu p hr hz hl S
    exact .inl ⟨rfl,_,u,(run_neq (ev_sl (p 3 rfl)) (ev_sl (p 7 rfl)) rfl),rfl,S⟩
   intro a u hB hp S
   obtain ⟨q0,q1,q2,q3,q4,q5,q6,q7,q8,-⟩:=hp
   replace S:St w u []:=S
   have f:=f.region hB [(17,_),(18,_),(19,_),(20,_),(21,_),(22,_),(23,_),(24,_),(25,_)] (allSl_mem ⟨q0,q1,q2,q3,q4,q5,q6,q7,q8,trivial⟩) rfl
   clear hB q0 q1 q2 q3 q4 q5 q6 q7 q8
   cases hc109:((x0.getD p105.toNat 0) != (x1.getD p105.toNat 0))
   ·replace hM104:=bif_f hc109 hM104
    refine cond_f f rfl hc109 ?_
    refine wp_skip ?_
    revert a;refine rl (mv rfl rfl (ov rfl (fun a f=>run_add (z:=w64 (p105+1)) (f.ev rfl) rfl rfl rfl) (ag rfl rfl fun a f=>wn ?_)))
    exact ⟨f1,Nat.lt_succ_self _,w64 (p105+1),hM104,f.keep _ ⟨rfl,rfl,rfl,rfl,trivial⟩,S.sel [] rfl rfl⟩
   replace hM104:=bif_t hc109 hM104
   refine cond_t f rfl hc109 ?_
   revert a;refine sr (ov rfl (fun a f=>run_assign rfl rfl) fun a f=>wn ?_)
   refine wp_ret ?_
   repeat with_reducible first|apply tr|apply ir|apply nr
   refine ret1_gw (.inl rfl) f rfl (res_tmp (f.ev rfl)) ?_
   obtain rfl:=Option.some.inj hM104
   obtain rfl:=Option.some.inj hM
   exact ⟨rfl,S.sel [] rfl rfl⟩
  rintro a u ⟨p102,rfl,f,S⟩
  replace hM:=elim_l hM
  revert a;refine sr (ov rfl (fun a f=>run_assign rfl rfl) fun a f=>wn ?_)
  refine wp_ret ?_
  refine ret1_gw (.inl rfl) f rfl (res_tmp (f.ev rfl)) ?_
  obtain rfl:=Option.some.inj hM
  exact ⟨rfl,S.sel [] rfl rfl⟩
 replace hM:=bif_t hc101 hM
 refine cond_t f rfl hc101 ?_
 revert a;refine sr (ov rfl (fun a f=>run_assign rfl rfl) fun a f=>wn ?_)
 refine wp_ret ?_
 repeat with_reducible first|apply tr|apply ir|apply nr
 refine ret1_gw (.inl rfl) f rfl (res_tmp (f.ev rfl)) ?_
 obtain rfl:=Option.some.inj hM
 exact ⟨rfl,S.sel [] rfl rfl⟩
theorem c_laws_eqWorld {x0:Int} {x1:List (Int×Int×Int)} {x2:List (Int×Int)} {x3:List Bool} {x4:List Bool} {x5:List (Int×Int)} {x6:List Int} {x7:Int} {x8:List (Int×Int×Int)} {x9:List (Int×Int)} {x10:List Bool} {x11:List Bool} {x12:List (Int×Int)} {x13:List Int} {A1:Option Addr} {n1 c1:Nat} {A2:Option Addr} {n2 c2:Nat} {A3:Option Addr} {n3 c3:Nat} {A4:Option Addr} {n4 c4:Nat} {A5:Option Addr} {n5 c5:Nat} {A6:Option Addr} {n6 c6:Nat} {A8:Option Addr} {n8 c8:Nat} {A9:Option Addr} {n9 c9:Nat} {A10:Option Addr} {n10 c10:Nat} {A11:Option Addr} {n11 c11:Nat} {A12:Option Addr} {n12 c12:Nat} {A13:Option Addr} {n13 c13:Nat} {w:World} {r:Bool} (h1:Rt w 3 eLine A1 n1 c1 x1) (h2:Rt w 2 eBus A2 n2 c2 x2) (h3:Rt w 1 eB A3 n3 c3 x3) (h4:Rt w 1 eB A4 n4 c4 x4) (h5:Rt w 2 ePermit A5 n5 c5 x5) (h6:Rt w 1 eI A6 n6 c6 x6) (h8:Rt w 3 eLine A8 n8 c8 x8) (h9:Rt w 2 eBus A9 n9 c9 x9) (h10:Rt w 1 eB A10 n10 c10 x10) (h11:Rt w 1 eB A11 n11 c11 x11) (h12:Rt w 2 ePermit A12 n12 c12 x12) (h13:Rt w 1 eI A13 n13 c13 x13) (hM : m_laws_eqWorld x0 x1 x2 x3 x4 x5 x6 x7 x8 x9 x10 x11 x12 x13=some r) :
  Calls Tryz.prog 11 #[.agg #[iv x0,.slice A1 n1 c1,.slice A2 n2 c2,.slice A3 n3 c3,.slice A4 n4 c4,.slice A5 n5 c5,.slice A6 n6 c6],.agg #[iv x7,.slice A8 n8 c8,.slice A9 n9 c9,.slice A10 n10 c10,.slice A11 n11 c11,.slice A12 n12 c12,.slice A13 n13 c13]] w (fun e w'=>e=.returned (.bool r)∧St w w' []):=by
 obtain rfl:=h1.len
 obtain rfl:=h2.len
 obtain rfl:=h3.len
 obtain rfl:=h4.len
 obtain rfl:=h5.len
 obtain rfl:=h6.len
 obtain rfl:=h8.len
 obtain rfl:=h9.len
 obtain rfl:=h10.len
 obtain rfl:=h11.len
 obtain rfl:=h12.len
 obtain rfl:=h13.len
 unfold m_laws_eqWorld at hM
 refine calls_gx Tryz.func11 Tryz.ntmps11 rfl rfl ?_
 intro a f
 have S:=St.nil w
 refine wsg ?_
 refine op_new (cs:=#[iv x0,.slice A1 x1.length c1,.slice A2 x2.length c2,.slice A3 x3.length c3,.slice A4 x4.length c4,.slice A5 x5.length c5,.slice A6 x6.length c6]) rfl rfl f rfl S (run_box rfl (f.ev rfl) rfl) ?_;clear f S;intro a g101 u f S
 refine op_new (cs:=#[iv x7,.slice A8 x8.length c8,.slice A9 x9.length c9,.slice A10 x10.length c10,.slice A11 x11.length c11,.slice A12 x12.length c12,.slice A13 x13.length c13]) rfl rfl f rfl S (run_box rfl (f.ev rfl) rfl) ?_;clear f S;intro a g102 u f S
 revert a;refine ov rfl (fun a f=>run_assign rfl rfl) fun a f=>wn ?_
 refine ws ?_
 revert a;refine sr (ov rfl (fun a f=>run_fieldAddr rfl fl43_0 (f.ev rfl) rfl) (ov rfl (fun a f=>run_loadN rfl ag37 (f.ev rfl) rfl ((S.free 1 rfl).cells 0 #[iv x0,.slice A1 x1.length c1] rfl)) (ov rfl (fun a f=>run_fieldAddr rfl fl43_0 (f.ev rfl) rfl) (ov rfl (fun a f=>run_loadN rfl ag37 (f.ev rfl) rfl ((S.free 0 rfl).cells 0 #[iv x7,.slice A8 x8.length c8] rfl)) fun a f=>?_))))
 obtain ⟨p103,h103,hM⟩:=bind_ex hM
 refine op_call rfl rfl f rfl (run_call (vs:=[_,_]) rfl rfl co36 ⟨(f.ev rfl),(f.ev rfl),trivial⟩) (c_laws_eqNet ⟨(S.rc0 h1.rc),rfl⟩ ⟨(S.rc0 h8.rc),rfl⟩ h103) ?_
 rintro e u ⟨rfl,T⟩
 refine ⟨_,rfl,?_⟩
 clear f;intro a f
 replace S:=S.call0 T;clear T
 revert a;refine ov rfl (fun a f=>run_not rfl (f.ev rfl)) fun a f=>wn ?_
 cases hc104:(p103)
 ·replace hM:=bif_f hc104 hM
  refine cond_t f rfl (not_t hc104) ?_
  revert a;refine sr (ov rfl (fun a f=>run_assign rfl rfl) fun a f=>wn ?_)
  refine wp_ret ?_
  repeat with_reducible first|apply tr|apply ir|apply nr
  refine ret1_gw (.inl rfl) f rfl (res_tmp (f.ev rfl)) ?_
  obtain rfl:=Option.some.inj hM
  exact ⟨rfl,S.sel [] rfl rfl⟩
 replace hM:=bif_t hc104 hM
 refine cond_f f rfl (not_f hc104) ?_
 refine wp_skip ?_
 refine ws ?_
 revert a;refine sr (ov rfl (fun a f=>run_fieldAddr rfl fl43_1 (f.ev rfl) rfl) (ov rfl (fun a f=>run_load1 rfl one38 (f.ev rfl) (S.cell 1 rfl rfl)) (ov rfl (fun a f=>run_fieldAddr rfl fl43_1 (f.ev rfl) rfl) (ov rfl (fun a f=>run_load1 rfl one38 (f.ev rfl) (S.cell 0 rfl rfl)) fun a f=>?_))))
 obtain ⟨p105,h105,hM⟩:=bind_ex hM
 refine op_call rfl rfl f rfl (run_call (vs:=[_,_]) rfl rfl co37 ⟨(f.ev rfl),(f.ev rfl),trivial⟩) (c_laws_eqBusS ⟨(S.rc0 h2.rc),rfl⟩ ⟨(S.rc0 h9.rc),rfl⟩ h105) ?_
 rintro e u ⟨rfl,T⟩
 refine ⟨_,rfl,?_⟩
 clear f;intro a f
 replace S:=S.call0 T;clear T
 revert a;refine ov rfl (fun a f=>run_not rfl (f.ev rfl)) fun a f=>wn ?_
 cases hc106:(p105)
 ·replace hM:=bif_f hc106 hM
  refine cond_t f rfl (not_t hc106) ?_
  revert a;refine sr (ov rfl (fun a f=>run_assign rfl rfl) fun a f=>wn ?_)
  refine wp_ret ?_
  repeat with_reducible first|apply tr|apply ir|apply nr
  refine ret1_gw (.inl rfl) f rfl (res_tmp (f.ev rfl)) ?_
  obtain rfl:=Option.some.inj hM
  exact ⟨rfl,S.sel [] rfl rfl⟩
 replace hM:=bif_t hc106 hM
 refine cond_f f rfl (not_f hc106) ?_
 refine wp_skip ?_
 refine ws ?_
 revert a;refine sr (ov rfl (fun a f=>run_fieldAddr rfl fl43_2 (f.ev rfl) rfl) (ov rfl (fun a f=>run_loadN rfl ag41 (f.ev rfl) rfl ((S.free 1 rfl).cells 3 #[.slice A3 x3.length c3,.slice A4 x4.length c4,.slice A5 x5.length c5] rfl)) (ov rfl (fun a f=>run_fieldAddr rfl fl43_2 (f.ev rfl) rfl) (ov rfl (fun a f=>run_loadN rfl ag41 (f.ev rfl) rfl ((S.free 0 rfl).cells 3 #[.slice A10 x10.length c10,.slice A11 x11.length c11,.slice A12 x12.length c12] rfl)) fun a f=>?_))))
 obtain ⟨p107,h107,hM⟩:=bind_ex hM
 refine op_call rfl rfl f rfl (run_call (vs:=[_,_]) rfl rfl co38 ⟨(f.ev rfl),(f.ev rfl),trivial⟩) (c_laws_eqWork ⟨(S.rc0 h3.rc),rfl⟩ ⟨(S.rc0 h4.rc),rfl⟩ ⟨(S.rc0 h5.rc),rfl⟩ ⟨(S.rc0 h10.rc),rfl⟩ ⟨(S.rc0 h11.rc),rfl⟩ ⟨(S.rc0 h12.rc),rfl⟩ h107) ?_
 rintro e u ⟨rfl,T⟩
 refine ⟨_,rfl,?_⟩
 clear f;intro a f
 replace S:=S.call0 T;clear T
 revert a;refine ov rfl (fun a f=>run_not rfl (f.ev rfl)) fun a f=>wn ?_
 cases hc108:(p107)
 ·replace hM:=bif_f hc108 hM
  refine cond_t f rfl (not_t hc108) ?_
  revert a;refine sr (ov rfl (fun a f=>run_assign rfl rfl) fun a f=>wn ?_)
  refine wp_ret ?_
  repeat with_reducible first|apply tr|apply ir|apply nr
  refine ret1_gw (.inl rfl) f rfl (res_tmp (f.ev rfl)) ?_
  obtain rfl:=Option.some.inj hM
  exact ⟨rfl,S.sel [] rfl rfl⟩
 replace hM:=bif_t hc108 hM
 refine cond_f f rfl (not_f hc108) ?_
 refine wp_skip ?_
 refine ws ?_
 revert a;refine sr (ov rfl (fun a f=>run_fieldAddr rfl fl43_3 (f.ev rfl) rfl) (ov rfl (fun a f=>run_load1 rfl one30 (f.ev rfl) (S.cell 1 rfl rfl)) (ov rfl (fun a f=>run_fieldAddr rfl fl43_3 (f.ev rfl) rfl) (ov rfl (fun a f=>run_load1 rfl one30 (f.ev rfl) (S.cell 0 rfl rfl)) fun a f=>?_))))
 obtain ⟨p109,h109,hM⟩:=bind_ex hM
 refine op_call rfl rfl f rfl (run_call (vs:=[_,_]) rfl rfl co39 ⟨(f.ev rfl),(f.ev rfl),trivial⟩) (c_laws_eqIntS ⟨(S.rc0 h6.rc),rfl⟩ ⟨(S.rc0 h13.rc),rfl⟩ h109) ?_
 rintro e u ⟨rfl,T⟩
 refine ⟨_,rfl,?_⟩
 clear f;intro a f
 replace S:=S.call0 T;clear T
 revert a;refine ov rfl (fun a f=>run_not rfl (f.ev rfl)) fun a f=>wn ?_
 cases hc110:(p109)
 ·replace hM:=bif_f hc110 hM
  refine cond_t f rfl (not_t hc110) ?_
  revert a;refine sr (ov rfl (fun a f=>run_assign rfl rfl) fun a f=>wn ?_)
  refine wp_ret ?_
  repeat with_reducible first|apply tr|apply ir|apply nr
  refine ret1_gw (.inl rfl) f rfl (res_tmp (f.ev rfl)) ?_
  obtain rfl:=Option.some.inj hM
  exact ⟨rfl,S.sel [] rfl rfl⟩
 replace hM:=bif_t hc110 hM
 refine cond_f f rfl (not_f hc110) ?_
 refine wp_skip ?_
 revert a;refine sr (ov rfl (fun a f=>run_assign rfl rfl) fun a f=>wn ?_)
 refine wp_ret ?_
 refine ret1_gw (.inl rfl) f rfl (res_tmp (f.ev rfl)) ?_
 obtain rfl:=Option.some.inj hM
 exact ⟨rfl,S.sel [] rfl rfl⟩
theorem c_laws_markLineS {x0:List (Int×Int×Int)} {x1:Int} {A0:Option Addr} {n0 c0:Nat} {w:World} {r:Int×List (Int×Int×Int)} {w0:World} {X:List Asn} (h0 : n0=x0.length) (S:St w0 w (Asn.row 130 3 (.slice A0 n0 c0) n0 (x0.flatMap eLine) :: X)) (hM : m_laws_markLineS x0 x1=some r) :
  Calls Tryz.prog 85 #[.slice A0 n0 c0,iv x1] w (fun e w'=>e=.returned (iv r.1)∧n0=r.2.length∧St w0 w' (Asn.row 130 3 (.slice A0 n0 c0) n0 (r.2.flatMap eLine) :: X)):=by
 obtain rfl:=h0
 unfold m_laws_markLineS at hM
 refine calls_gx Tryz.func85 Tryz.ntmps85 rfl rfl ?_
 intro a f
 revert a;refine sr (ov rfl (fun a f=>run_assign rfl rfl) fun a f=>wn ?_)
 refine ws ?_
 revert a;refine sr (ov rfl (fun a f=>run_assign rfl rfl) fun a f=>wn ?_)
 obtain ⟨o102,hM104,hM⟩:=bind_ex hM
 refine wp_cut (fun a u=>∃ (p101:Int×List (Int×Int×Int)),p101=o102∧x0.length=p101.2.length∧Fr a 34 [(1,iv p101.1),(4,iv 0)]∧St w0 u (Asn.row 130 3 (.slice A0 x0.length c0) x0.length (p101.2.flatMap eLine) :: X)) ?_ ?_
 ·have _:=trivial
  refine wp_block ?_
  refine loop_gw (fun m a u=>∃ (p105:List (Int×Int×Int)×Int×Int),m_laws_markLineS_l1 x0 m p105=some _∧x0.length=p105.1.length∧Fr a 34 [(0,.slice A0 x0.length c0),(1,iv p105.2.1),(4,iv 0),(5,iv p105.2.2)]∧St w0 u (Asn.row 130 3 (.slice A0 x0.length c0) x0.length (p105.1.flatMap eLine) :: X)) FUEL ⟨(x0,x1,0),hM104,rfl,f.keep _ ⟨rfl,rfl,rfl,rfl,trivial⟩,S.selT (M:=[.row 130 3 (.slice A0 x0.length c0) x0.length (x0.flatMap eLine)]) 1 [0] rfl rfl rfl⟩ ?_
  clear f S hM104;rintro m a u ⟨p105,hM104,hn106,f,S⟩
  rcases m with _ | f1
  ·exact none_some hM104
  rw [m_laws_markLineS_l1.eq_2] at hM104
  refine ws ?_
  revert a;refine sr (mv rfl rfl (mv rfl rfl (ov rfl (fun a f=>run_lenL rfl rfl Tryz.underlying35 (f.ev rfl)) (ov rfl (fun a f=>run_lss (f.ev rfl) (f.ev rfl) rfl) fun a f=>wn ?_))))
  cases hc107:(ltB p105.2.2 (x0.length:Int))
  ·replace hM104:=bif_f hc107 hM104
   refine cond_f f rfl hc107 ?_
   refine wp_exit ?_
   repeat with_reducible first|apply then_exit|apply in_hit|refine in_miss rfl ?_
   obtain rfl:=Option.some.inj hM104
   exact ⟨(p105.2.1,p105.1),rfl,hn106,f.keep _ ⟨rfl,rfl,trivial⟩,S.selT (M:=[.row 130 3 (.slice A0 x0.length c0) x0.length (p105.1.flatMap eLine)]) 1 [0] rfl rfl rfl⟩
  replace hM104:=bif_t hc107 hM104
  refine cond_t f rfl hc107 ?_
  refine wp_skip ?_
  refine ws ?_
  refine wp_block ?_
  revert a;refine sr (mv rfl rfl (mv rfl rfl (mv rfl rfl fun a f=>?_)))
  obtain ⟨hk108,hM104⟩:=chk_ex hM104
  replace hk108:=ixB_t hk108
  revert a;refine ov rfl (fun a f=>run_ix rfl Tryz.underlying35 sz130 (f.ev rfl) (S.rc 0 rfl) (f.ev rfl) hk108) (ov rfl (fun a f=>run_fieldAddr rfl fl130_0 (f.ev rfl) rfl) fun a f=>?_)
  obtain ⟨w',hrun,S'⟩:=run_storeElN (P:=Tryz.prog) (ρ:=a.eval) (y0:=(p105.2.1,(p105.1.getD p105.2.2.toNat (0,0,0)).2.1,(p105.1.getD p105.2.2.toNat (0,0,0)).2.2)) (off:=0) S 3 (.tmp 16) (.tmp 14) (i:=0) sz3 (f.ev rfl) (f.ev rfl) rfl rfl rfl rfl hn106 eLine_len (0,0,0) (ix_ltn hk108 hn106) rfl rfl
  refine op_do rfl rfl (hrun _ rfl) ?_;clear hrun S;have S:=S';clear S';generalize w'=u at S ⊢
  refine wn ?_
  revert a;refine sr (mv rfl rfl (ov rfl (fun a f=>run_add (z:=w64 (p105.2.1+1)) (f.ev rfl) rfl rfl rfl) (ag rfl rfl fun a f=>wn ?_)))
  revert a;refine sr (mv rfl rfl (mv rfl rfl (mv rfl rfl fun a f=>?_)))
  obtain ⟨hk109,hM104⟩:=chk_ex hM104
  replace hk109:=ixB_t hk109
  revert a;refine ov rfl (fun a f=>run_ix rfl Tryz.underlying35 sz130 (f.ev rfl) (S.rc 0 rfl) (f.ev rfl) hk109) (ov rfl (fun a f=>run_fieldAddr rfl fl130_1 (f.ev rfl) rfl) fun a f=>?_)
  obtain ⟨w',hrun,S'⟩:=run_storeEl2 (P:=Tryz.prog) (ρ:=a.eval) (l:=p105.1) (y0:=(p105.2.1,(p105.1.getD p105.2.2.toNat (0,0,0)).2.1,(p105.1.getD p105.2.2.toNat (0,0,0)).2.2)) (y1:=(p105.2.1,w64 (p105.2.1+1),(p105.1.getD p105.2.2.toNat (0,0,0)).2.2)) (off:=1) S 3 (.tmp 23) (.tmp 21) (i:=0) sz3 (f.ev rfl) (f.ev rfl) rfl rfl rfl rfl hn106 eLine_len (ix_ltn hk109 hn106) rfl rfl
  refine op_do rfl rfl (hrun _ rfl) ?_;clear hrun S;have S:=S';clear S';generalize w'=u at S ⊢
  refine wn ?_
  revert a;refine sr (mv rfl rfl (ov rfl (fun a f=>run_add (z:=w64 ((w64 (p105.2.1+1))+1)) (f.ev rfl) rfl rfl rfl) (ag rfl rfl fun a f=>wn ?_)))
  revert a;refine sr (mv rfl rfl (mv rfl rfl (mv rfl rfl fun a f=>?_)))
  obtain ⟨hk110,hM104⟩:=chk_ex hM104
  replace hk110:=ixB_t hk110
  revert a;refine ov rfl (fun a f=>run_ix rfl Tryz.underlying35 sz130 (f.ev rfl) (S.rc 0 rfl) (f.ev rfl) hk110) (ov rfl (fun a f=>run_fieldAddr rfl fl130_2 (f.ev rfl) rfl) fun a f=>?_)
  obtain ⟨w',hrun,S'⟩:=run_storeEl2 (P:=Tryz.prog) (ρ:=a.eval) (l:=p105.1) (y0:=(p105.2.1,w64 (p105.2.1+1),(p105.1.getD p105.2.2.toNat (0,0,0)).2.2)) (y1:=(p105.2.1,w64 (p105.2.1+1),w64 ((w64 (p105.2.1+1))+1))) (off:=2) S 3 (.tmp 30) (.tmp 28) (i:=0) sz3 (f.ev rfl) (f.ev rfl) rfl rfl rfl rfl hn106 eLine_len (ix_ltn hk110 hn106) rfl rfl
  refine op_do rfl rfl (hrun _ rfl) ?_;clear hrun S;have S:=S';clear S';generalize w'=u at S ⊢
  refine wn ?_
  revert a;refine rl (mv rfl rfl (ov rfl (fun a f=>run_add (z:=w64 ((w64 ((w64 (p105.2.1+1))+1))+1)) (f.ev rfl) rfl rfl rfl) (ag rfl rfl fun a f=>wn ?_)))
  revert a;refine rl (mv rfl rfl (ov rfl (fun a f=>run_add (z:=w64 (p105.2.2+1)) (f.ev rfl) rfl rfl rfl) (ag rfl rfl fun a f=>wn ?_)))
  exact ⟨f1,Nat.lt_succ_self _,(p105.1.set p105.2.2.toNat (p105.2.1,w64 (p105.2.1+1),w64 ((w64 (p105.2.1+1))+1)),w64 ((w64 ((w64 (p105.2.1+1))+1))+1),w64 (p105.2.2+1)),hM104,(len_set hn106),f.keep _ ⟨rfl,rfl,rfl,rfl,trivial⟩,S.selT (M:=[.row 130 3 (.slice A0 x0.length c0) x0.length ((p105.1.set p105.2.2.toNat (p105.2.1,w64 (p105.2.1+1),w64 ((w64 (p105.2.1+1))+1))).flatMap eLine)]) 1 [0] rfl rfl rfl⟩
 rintro a u ⟨p101,rfl,hn103,f,S⟩
 revert a;refine sr (mv rfl rfl (ag rfl rfl fun a f=>wn ?_))
 refine wp_ret ?_
 refine ret1_gw (.inl rfl) f rfl (res_tmp (f.ev rfl)) ?_
 obtain rfl:=Option.some.inj hM
 exact ⟨rfl,hn103,S.selT (M:=[.row 130 3 (.slice A0 x0.length c0) x0.length (p101.2.flatMap eLine)]) 1 [0] rfl rfl rfl⟩
theorem c_laws_markNet {x0:Int} {x1:List (Int×Int×Int)} {x2:Int} {A1:Option Addr} {n1 c1:Nat} {w:World} {r:Int×List (Int×Int×Int)} {w0:World} {X:List Asn} (h1 : n1=x1.length) (S:St w0 w (Asn.row 130 3 (.slice A1 n1 c1) n1 (x1.flatMap eLine) :: X)) (hM : m_laws_markNet x0 x1 x2=some r) :
  Calls Tryz.prog 47 #[.agg #[iv x0,.slice A1 n1 c1],iv x2] w (fun e w'=>e=.returned (iv r.1)∧n1=r.2.length∧St w0 w' (Asn.row 130 3 (.slice A1 n1 c1) n1 (r.2.flatMap eLine) :: X)):=by
 obtain rfl:=h1
 unfold m_laws_markNet at hM
 refine calls_gx Tryz.func47 Tryz.ntmps47 rfl rfl ?_
 intro a f
 refine wsg ?_
 refine op_new (cs:=#[iv x0,.slice A1 x1.length c1]) rfl rfl f rfl S (run_box rfl (f.ev rfl) rfl) ?_;clear f S;intro a g101 u f S
 revert a;refine ov rfl (fun a f=>run_assign rfl rfl) fun a f=>wn ?_
 revert a;refine sr (ov rfl (fun a f=>run_fieldAddr rfl fl37_1 (f.ev rfl) rfl) (ov rfl (fun a f=>run_load1 rfl one35 (f.ev rfl) (S.cell 0 rfl rfl)) (mv rfl rfl fun a f=>?_)))
 obtain ⟨p102,h102,hM⟩:=bind_ex hM
 refine op_call rfl rfl f rfl (run_call (vs:=[_,_]) rfl rfl co85 ⟨(f.ev rfl),(f.ev rfl),trivial⟩) (c_laws_markLineS rfl (show St w0 _ (Asn.row 130 3 (.slice A1 x1.length c1) x1.length (x1.flatMap eLine) :: Asn.box g101 37 #[iv x0,.slice A1 x1.length c1] :: X) from S.selT (M:=[.row 130 3 (.slice A1 x1.length c1) x1.length (x1.flatMap eLine),.box g101 37 #[iv x0,.slice A1 x1.length c1]]) 2 [1,0] rfl rfl rfl) h102) ?_
 rintro e u ⟨rfl,hn103,T⟩
 refine ⟨_,rfl,?_⟩
 clear f;intro a f
 clear S;have S:=T;clear T
 revert a;refine ag rfl rfl fun a f=>wn ?_
 revert a;refine sr (mv rfl rfl (ag rfl rfl fun a f=>wn ?_))
 refine wp_ret ?_
 refine ret1_gw (.inl rfl) f rfl (res_tmp (f.ev rfl)) ?_
 obtain rfl:=Option.some.inj hM
 exact ⟨rfl,hn103,S.selT (M:=[.row 130 3 (.slice A1 x1.length c1) x1.length (p102.2.flatMap eLine)]) 2 [0] rfl rfl rfl⟩
end Go.Proofs.YtcmnjaccapbhfaaGreat
