/- Calls return what the models say. -/
import Derived.Test.YtcmnjaccapbhfaaGreatQSq
import Derived.Test.YtcmnjaccapbhfaaGreatQDa3
namespace Go.Proofs.YtcmnjaccapbhfaaGreat
open Go.ChangeShapes Go.WideShapes Go.ChangeAt Go.RowKit
set_option linter.unusedVariables false
set_option maxHeartbeats 4000000
set_option linter.unusedSimpArgs false
theorem c_spec_HealDeeds {x0:Int} {x1:List (Int×Int×Int)} {x2:List (Int×Int)} {x3:List Bool} {x4:List Bool} {x5:List (Int×Int)} {x6:List Int} {A1:Option Addr} {n1 c1:Nat} {A2:Option Addr} {n2 c2:Nat} {A3:Option Addr} {n3 c3:Nat} {A4:Option Addr} {n4 c4:Nat} {A5:Option Addr} {n5 c5:Nat} {A6:Option Addr} {n6 c6:Nat} {w:World} {r:List (Int×Int×Int)} (h1:Rt w 3 eLine A1 n1 c1 x1) (h2:Rt w 2 eBus A2 n2 c2 x2) (h3:Rt w 1 eB A3 n3 c3 x3) (h4:Rt w 1 eB A4 n4 c4 x4) (h5:Rt w 2 ePermit A5 n5 c5 x5) (h6:Rt w 1 eI A6 n6 c6 x6) (hM : m_spec_HealDeeds x0 x1 x2 x3 x4 x5 x6=some r) :
  Calls Tryz.prog 12 #[.agg #[iv x0,.slice A1 n1 c1,.slice A2 n2 c2,.slice A3 n3 c3,.slice A4 n4 c4,.slice A5 n5 c5,.slice A6 n6 c6]] w (fun e w'=>∃ (B0:Option Addr) (N0 D0:Nat),e=.returned (.slice B0 N0 D0)∧N0=r.length∧St w w' [.row 56 3 (.slice B0 N0 D0) N0 (r.flatMap eWorkDeed)]):=by
 obtain rfl:=h1.len
 obtain rfl:=h2.len
 obtain rfl:=h3.len
 obtain rfl:=h4.len
 obtain rfl:=h5.len
 obtain rfl:=h6.len
 unfold m_spec_HealDeeds at hM
 refine calls_gx Tryz.func12 Tryz.ntmps12 rfl rfl ?_
 intro a f
 have S:=St.nil w
 refine wsg ?_
 refine op_new (cs:=#[iv x0,.slice A1 x1.length c1,.slice A2 x2.length c2,.slice A3 x3.length c3,.slice A4 x4.length c4,.slice A5 x5.length c5,.slice A6 x6.length c6]) rfl rfl f rfl S (run_box rfl (f.ev rfl) rfl) ?_;clear f S;intro a g101 u f S
 revert a;refine ov rfl (fun a f=>run_assign rfl rfl) fun a f=>wn ?_
 refine wsg ?_
 refine op_newrow (cs:=#[]) (size:=3) rfl rfl f rfl S (run_buildSlice0 rfl Tryz.underlying47 (congrArg Option.isSome sz56)) rfl (Nat.zero_le _) ?_;clear f S;intro a g102 u f S
 revert a;refine ag rfl rfl fun a f=>wn ?_
 refine ws ?_
 revert a;refine sr (ov rfl (fun a f=>run_loadN rfl ag43 (f.ev rfl) rfl ((S.free 1 rfl).cells 0 #[iv x0,.slice A1 x1.length c1,.slice A2 x2.length c2,.slice A3 x3.length c3,.slice A4 x4.length c4,.slice A5 x5.length c5,.slice A6 x6.length c6] rfl)) fun a f=>?_)
 obtain ⟨p103,h103,hM⟩:=bind_ex hM
 refine op_call rfl rfl f rfl (run_call (vs:=[_]) rfl rfl co30 ⟨(f.ev rfl),trivial⟩) (c_spec_WorldValid ⟨(S.rc0 h1.rc),rfl⟩ ⟨(S.rc0 h2.rc),rfl⟩ ⟨(S.rc0 h3.rc),rfl⟩ ⟨(S.rc0 h4.rc),rfl⟩ ⟨(S.rc0 h5.rc),rfl⟩ ⟨(S.rc0 h6.rc),rfl⟩ h103) ?_
 rintro e u ⟨rfl,T⟩
 refine ⟨_,rfl,?_⟩
 clear f;intro a f
 replace S:=S.call0 T;clear T
 revert a;refine ov rfl (fun a f=>run_not rfl (f.ev rfl)) fun a f=>wn ?_
 cases hc104:(p103)
 ·replace hM:=bif_f hc104 hM
  refine cond_t f rfl (not_t hc104) ?_
  revert a;refine sr (mv rfl rfl (ag rfl rfl fun a f=>wn ?_))
  refine wp_ret ?_
  repeat with_reducible first|apply tr|apply ir|apply nr
  refine ret1_gw (.inl rfl) f rfl (res_tmp (f.ev rfl)) ?_
  obtain rfl:=Option.some.inj hM
  exact ⟨(some ⟨g102,0,none⟩),0,0,rfl,rfl,S.sel [0] rfl rfl⟩
 replace hM:=bif_t hc104 hM
 refine cond_f f rfl (not_f hc104) ?_
 refine wp_skip ?_
 refine ws ?_
 revert a;refine sr (ov rfl (fun a f=>run_assign rfl rfl) fun a f=>wn ?_)
 obtain ⟨o106,hM109,hM⟩:=bind_ex hM
 refine wp_cut (fun a u=>∃ (p105:List (Int×Int×Int)) (B107:Option Addr) (d108:Nat),p105=o106∧Fr a 156 [(1,.pointer (some ⟨g101,0,none⟩)),(2,.slice none 0 0),(3,.slice B107 p105.length d108)]∧St w u [.box g101 43 #[iv x0,.slice A1 x1.length c1,.slice A2 x2.length c2,.slice A3 x3.length c3,.slice A4 x4.length c4,.slice A5 x5.length c5,.slice A6 x6.length c6],.row 56 3 (.slice B107 p105.length d108) p105.length (p105.flatMap eWorkDeed)]) ?_ ?_
 ·have _:=trivial
  refine wp_block ?_
  refine loop_gw (fun m a u=>∃ (p110:List (Int×Int×Int)×Int) (B111:Option Addr) (d112:Nat),m_spec_HealDeeds_l1 x5 m p110=some _∧Fr a 156 [(1,.pointer (some ⟨g101,0,none⟩)),(2,.slice none 0 0),(3,.slice B111 p110.1.length d112),(4,iv p110.2)]∧St w u [.box g101 43 #[iv x0,.slice A1 x1.length c1,.slice A2 x2.length c2,.slice A3 x3.length c3,.slice A4 x4.length c4,.slice A5 x5.length c5,.slice A6 x6.length c6],.row 56 3 (.slice B111 p110.1.length d112) p110.1.length (p110.1.flatMap eWorkDeed)]) FUEL ⟨(([]:List (Int×Int×Int)),0),(some ⟨g102,0,none⟩),0,hM109,f.keep _ ⟨rfl,rfl,rfl,rfl,trivial⟩,S.sel [1,0] rfl rfl⟩ ?_
  clear f S hM109;rintro m a u ⟨p110,B111,d112,hM109,f,S⟩
  rcases m with _ | f1
  ·exact none_some hM109
  rw [m_spec_HealDeeds_l1.eq_2] at hM109
  refine ws ?_
  revert a;refine sr (mv rfl rfl (ov rfl (fun a f=>run_fieldAddr rfl fl43_2 (f.ev rfl) rfl) (ov rfl (fun a f=>run_fieldAddr rfl fl41_2 (f.ev rfl) rfl) (ov rfl (fun a f=>run_load1 rfl one39 (f.ev rfl) (S.cell 0 rfl rfl)) (ov rfl (fun a f=>run_lenL rfl rfl Tryz.underlying39 (f.ev rfl)) (ov rfl (fun a f=>run_lss (f.ev rfl) (f.ev rfl) rfl) fun a f=>wn ?_))))))
  cases hc113:(ltB p110.2 (x5.length:Int))
  ·replace hM109:=bif_f hc113 hM109
   refine cond_f f rfl hc113 ?_
   refine wp_exit ?_
   repeat with_reducible first|apply then_exit|apply in_hit|refine in_miss rfl ?_
   obtain rfl:=Option.some.inj hM109
   exact ⟨p110.1,B111,d112,rfl,f.keep _ ⟨rfl,rfl,rfl,trivial⟩,S.sel [0,1] rfl rfl⟩
  replace hM109:=bif_t hc113 hM109
  refine cond_t f rfl hc113 ?_
  refine wp_skip ?_
  refine ws ?_
  refine wp_block ?_
  obtain ⟨hk114,hM109⟩:=chk_ex hM109
  replace hk114:=ixB_t hk114
  obtain ⟨hk115,hM109⟩:=chk_ex hM109
  replace hk115:=ixB_t hk115
  obtain ⟨hk116,hM109⟩:=chk_ex hM109
  replace hk116:=apB_t hk116
  refine region_gw (D:=[23,24,25,26,27,28,29,30,31,32,33,34,35,36,37,38,39,40,3]) (Lr:=[.box g101 43 #[iv x0,.slice A1 x1.length c1,.slice A2 x2.length c2,.slice A3 x3.length c3,.slice A4 x4.length c4,.slice A5 x5.length c5,.slice A6 x6.length c6]]) (deps:=(fun | 0=>[23] | 1=>[24] | 2=>[25] | 3=>[26] | 4=>[27] | 5=>[28] | 6=>[29] | 7=>[30] | 8=>[31] | 9=>[32] | 10=>[33] | 11=>[34] | 12=>[35] | 13=>[36] | 14=>[37] | 15=>[38] | 16=>[39] | 17=>[40] | 18=>[3,40] | _=>[])) (rd:=(fun | 17=>[16] | _=>[])) (zr:=(fun _=>[]))
   (φ:=fun i vs=>match i,vs with | 0,[v23]=>v23=.slice B111 p110.1.length d112 | 1,[v24]=>v24=.pointer (some ⟨g101,3,none⟩) | 2,[v25]=>v25=.pointer (some ⟨g101,5,none⟩) | 3,[v26]=>v26=.slice A5 x5.length c5 | 4,[v27]=>v27=iv p110.2 | 5,[v28]=>v28=.pointer (some ⟨adB A5,adO A5+p110.2.toNat*2,none⟩) | 6,[v29]=>v29=.pointer (some ⟨adB A5,adO A5+p110.2.toNat*2+1,none⟩) | 7,[v30]=>v30=iv ((x5.getD p110.2.toNat (0,0)).2) | 8,[v31]=>v31=.pointer (some ⟨g101,3,none⟩) | 9,[v32]=>v32=.pointer (some ⟨g101,5,none⟩) | 10,[v33]=>v33=.slice A5 x5.length c5 | 11,[v34]=>v34=iv p110.2 | 12,[v35]=>v35=.pointer (some ⟨adB A5,adO A5+p110.2.toNat*2,none⟩) | 13,[v36]=>v36=.pointer (some ⟨adB A5,adO A5+p110.2.toNat*2,none⟩) | 14,[v37]=>v37=iv ((x5.getD p110.2.toNat (0,0)).1) | 15,[v38]=>v38=.agg #[iv 5,iv ((x5.getD p110.2.toNat (0,0)).2),iv ((x5.getD p110.2.toNat (0,0)).1)] | 16,[v39]=>v39=.slice (slA v39) ((([(5,(x5.getD p110.2.toNat (0,0)).2,(x5.getD p110.2.toNat (0,0)).1)]:List (Int×Int×Int)):List (Int×Int×Int)).length) ((([(5,(x5.getD p110.2.toNat (0,0)).2,(x5.getD p110.2.toNat (0,0)).1)]:List (Int×Int×Int)):List (Int×Int×Int)).length) | 17,[v40]=>v40=.slice (slA v40) ((p110.1++([(5,(x5.getD p110.2.toNat (0,0)).2,(x5.getD p110.2.toNat (0,0)).1)]:List (Int×Int×Int))).length) (slC v40) | 18,[v3,v40]=>v3=.slice (slA v40) ((p110.1++([(5,(x5.getD p110.2.toNat (0,0)).2,(x5.getD p110.2.toNat (0,0)).1)]:List (Int×Int×Int))).length) (slC v40) | _,_=>True)
   (C:=fun i vs=>match i,vs with | 16,[v39]=>[.row 56 3 (.slice (slA v39) ((([(5,(x5.getD p110.2.toNat (0,0)).2,(x5.getD p110.2.toNat (0,0)).1)]:List (Int×Int×Int)):List (Int×Int×Int)).length) ((([(5,(x5.getD p110.2.toNat (0,0)).2,(x5.getD p110.2.toNat (0,0)).1)]:List (Int×Int×Int)):List (Int×Int×Int)).length)) ((([(5,(x5.getD p110.2.toNat (0,0)).2,(x5.getD p110.2.toNat (0,0)).1)]:List (Int×Int×Int)):List (Int×Int×Int)).length) (([(5,(x5.getD p110.2.toNat (0,0)).2,(x5.getD p110.2.toNat (0,0)).1)]:List (Int×Int×Int)).flatMap eWorkDeed)] | 17,[v40]=>[.row 56 3 (.slice (slA v40) ((p110.1++([(5,(x5.getD p110.2.toNat (0,0)).2,(x5.getD p110.2.toNat (0,0)).1)]:List (Int×Int×Int))).length) (slC v40)) ((p110.1++([(5,(x5.getD p110.2.toNat (0,0)).2,(x5.getD p110.2.toNat (0,0)).1)]:List (Int×Int×Int))).length) ((p110.1++([(5,(x5.getD p110.2.toNat (0,0)).2,(x5.getD p110.2.toNat (0,0)).1)]:List (Int×Int×Int))).flatMap eWorkDeed)] | _,_=>[])
   (κ:=(fun _=>none)) (Z:=(fun | 17=>[.row 56 3 (.slice B111 p110.1.length d112) p110.1.length (p110.1.flatMap eWorkDeed)] | _=>[])) mixed f (by kernel_rfl) (show St w _ [.row 56 3 (.slice B111 p110.1.length d112) p110.1.length (p110.1.flatMap eWorkDeed),.box g101 43 #[iv x0,.slice A1 x1.length c1,.slice A2 x2.length c2,.slice A3 x3.length c3,.slice A4 x4.length c4,.slice A5 x5.length c5,.slice A6 x6.length c6]] from S.sel [1,0] rfl rfl) ?_ ?_
  ·refine ⟨?_,?_,?_,?_,?_,?_,?_,?_,?_,?_,?_,?_,?_,?_,?_,?_,?_,?_,?_,trivial⟩
   ·intro a u X hB hu p hr hz hl S
    exact .inl ⟨rfl,_,u,(run_move rfl (f.evU (hu 18 3 rfl rfl) rfl)),rfl,S⟩
   ·intro a u X hB hu p hr hz hl S
    exact .inl ⟨rfl,_,u,(run_fieldAddr rfl fl43_2 (f.evB hB rfl rfl) rfl),rfl,S⟩
   ·intro a u X hB hu p hr hz hl S
    exact .inl ⟨rfl,_,u,(run_fieldAddr rfl fl41_2 (ev_sl (p 1 rfl)) rfl),rfl,S⟩
   ·intro a u X hB hu p hr hz hl S
    exact .inl ⟨rfl,_,u,(run_load1 rfl one39 (ev_sl (p 2 rfl)) ((gr_box S hl 0 rfl).cell rfl)),rfl,S⟩
   ·intro a u X hB hu p hr hz hl S
    exact .inl ⟨rfl,_,u,(run_move rfl (f.evB hB rfl rfl)),rfl,S⟩
   ·intro a u X hB hu p hr hz hl S
    exact .inl ⟨rfl,_,u,(run_ix rfl Tryz.underlying39 sz78 (ev_sl (p 3 rfl)) (S.rc0 h5.rc) (ev_sl (p 4 rfl)) hk114),rfl,S⟩
   ·intro a u X hB hu p hr hz hl S
    exact .inl ⟨rfl,_,u,(run_fieldAddr rfl fl78_1 (ev_sl (p 5 rfl)) rfl),rfl,S⟩
   ·intro a u X hB hu p hr hz hl S
    exact .inl ⟨rfl,_,u,(run_load1 rfl one3 (ev_sl (p 6 rfl)) (rd_el (l:=x5) (S.rc0 h5.rc).rd rfl ePermit_len (0,0) (ix_ltn hk114 rfl) rfl)),rfl,S⟩
   ·intro a u X hB hu p hr hz hl S
    exact .inl ⟨rfl,_,u,(run_fieldAddr rfl fl43_2 (f.evB hB rfl rfl) rfl),rfl,S⟩
   ·intro a u X hB hu p hr hz hl S
    exact .inl ⟨rfl,_,u,(run_fieldAddr rfl fl41_2 (ev_sl (p 8 rfl)) rfl),rfl,S⟩
   ·intro a u X hB hu p hr hz hl S
    exact .inl ⟨rfl,_,u,(run_load1 rfl one39 (ev_sl (p 9 rfl)) ((gr_box S hl 0 rfl).cell rfl)),rfl,S⟩
   ·intro a u X hB hu p hr hz hl S
    exact .inl ⟨rfl,_,u,(run_move rfl (f.evB hB rfl rfl)),rfl,S⟩
   ·intro a u X hB hu p hr hz hl S
    exact .inl ⟨rfl,_,u,(run_ix rfl Tryz.underlying39 sz78 (ev_sl (p 10 rfl)) (S.rc0 h5.rc) (ev_sl (p 11 rfl)) hk115),rfl,S⟩
   ·intro a u X hB hu p hr hz hl S
    exact .inl ⟨rfl,_,u,(run_fieldAddr rfl fl78_0 (ev_sl (p 12 rfl)) rfl),rfl,S⟩
   ·intro a u X hB hu p hr hz hl S
    exact .inl ⟨rfl,_,u,(run_load1 rfl one3 (ev_sl (p 13 rfl)) (rd_el0 (l:=x5) (S.rc0 h5.rc).rd rfl ePermit_len (0,0) (ix_ltn hk115 rfl) rfl)),rfl,S⟩
   ·intro a u X hB hu p hr hz hl S
    exact .inl ⟨rfl,_,u,(run_build (vs:=[(0,iv 5),(1,iv ((x5.getD p110.2.toNat (0,0)).2)),(2,iv ((x5.getD p110.2.toNat (0,0)).1))]) rfl ⟨⟨rfl,(ev_const _ _)⟩,⟨rfl,(ev_sl (p 7 rfl))⟩,⟨rfl,(ev_sl (p 14 rfl))⟩,trivial⟩ (bd56_0_1_2 rfl rfl rfl)),rfl,S⟩
   ·intro a u X hB hu p hr hz hl S
    exact .inl ⟨rfl,_,_,run_buildS (vs:=[(0,.agg #[iv 5,iv ((x5.getD p110.2.toNat (0,0)).2),iv ((x5.getD p110.2.toNat (0,0)).1)])]) rfl ⟨⟨rfl,(ev_sl (p 15 rfl))⟩,trivial⟩ (bs47_1_3 ),rfl,S.newrowL (e:=eWorkDeed) (ls:=([(5,(x5.getD p110.2.toNat (0,0)).2,(x5.getD p110.2.toNat (0,0)).1)]:List (Int×Int×Int))) rfl eWorkDeed_len (Nat.le_of_ble_eq_true rfl)⟩
   ·intro a u X hB hu p hr hz hl S
    replace S:St w u ([.row 56 3 (.slice B111 p110.1.length d112) p110.1.length (p110.1.flatMap eWorkDeed)]++X):=S
    obtain ⟨B,d,w',hrun,S'⟩:=S.appendL (i:=0) (P:=Tryz.prog) (ty:=47) (lx:=p110.1) (ly:=([(5,(x5.getD p110.2.toNat (0,0)).2,(x5.getD p110.2.toNat (0,0)).1)]:List (Int×Int×Int))) (c':=((([(5,(x5.getD p110.2.toNat (0,0)).2,(x5.getD p110.2.toNat (0,0)).1)]:List (Int×Int×Int)):List (Int×Int×Int)).length)) rfl rfl Tryz.underlying47 inf56 rfl (by decide) (own_rc (show Ow _ _ _ _ _ _ from S.mem (List.mem_append_right _ (hr 16 (List.mem_of_getElem? (i:=0) rfl) _ (List.mem_of_getElem? (i:=0) rfl))))).rd rfl eWorkDeed_one hk116 (by decide)
    exact .inl ⟨rfl,_,w',run_append rfl (ev_sl (p 0 rfl)) (ev_sl (p 16 rfl)) hrun,rfl,S'⟩
   intro a u X hB hu p hr hz hl S
   exact .inl ⟨rfl,_,u,(run_assign rfl (ev_sl (p 17 rfl))),rfl,S⟩
  intro a u hB hp S
  obtain ⟨q0,q1,q2,q3,q4,q5,q6,q7,q8,q9,q10,q11,q12,q13,q14,q15,q16,q17,q18,-⟩:=hp
  replace S:St w u [.row 56 3 (.slice (slA (sl a 39)) ((([(5,(x5.getD p110.2.toNat (0,0)).2,(x5.getD p110.2.toNat (0,0)).1)]:List (Int×Int×Int)):List (Int×Int×Int)).length) ((([(5,(x5.getD p110.2.toNat (0,0)).2,(x5.getD p110.2.toNat (0,0)).1)]:List (Int×Int×Int)):List (Int×Int×Int)).length)) ((([(5,(x5.getD p110.2.toNat (0,0)).2,(x5.getD p110.2.toNat (0,0)).1)]:List (Int×Int×Int)):List (Int×Int×Int)).length) (([(5,(x5.getD p110.2.toNat (0,0)).2,(x5.getD p110.2.toNat (0,0)).1)]:List (Int×Int×Int)).flatMap eWorkDeed),.row 56 3 (.slice (slA (sl a 40)) ((p110.1++([(5,(x5.getD p110.2.toNat (0,0)).2,(x5.getD p110.2.toNat (0,0)).1)]:List (Int×Int×Int))).length) (slC (sl a 40))) ((p110.1++([(5,(x5.getD p110.2.toNat (0,0)).2,(x5.getD p110.2.toNat (0,0)).1)]:List (Int×Int×Int))).length) ((p110.1++([(5,(x5.getD p110.2.toNat (0,0)).2,(x5.getD p110.2.toNat (0,0)).1)]:List (Int×Int×Int))).flatMap eWorkDeed),.box g101 43 #[iv x0,.slice A1 x1.length c1,.slice A2 x2.length c2,.slice A3 x3.length c3,.slice A4 x4.length c4,.slice A5 x5.length c5,.slice A6 x6.length c6]]:=S
  have f:=f.region hB [(23,.slice B111 p110.1.length d112),(24,.pointer (some ⟨g101,3,none⟩)),(25,.pointer (some ⟨g101,5,none⟩)),(26,.slice A5 x5.length c5),(27,iv p110.2),(28,.pointer (some ⟨adB A5,adO A5+p110.2.toNat*2,none⟩)),(29,.pointer (some ⟨adB A5,adO A5+p110.2.toNat*2+1,none⟩)),(30,iv ((x5.getD p110.2.toNat (0,0)).2)),(31,.pointer (some ⟨g101,3,none⟩)),(32,.pointer (some ⟨g101,5,none⟩)),(33,.slice A5 x5.length c5),(34,iv p110.2),(35,.pointer (some ⟨adB A5,adO A5+p110.2.toNat*2,none⟩)),(36,.pointer (some ⟨adB A5,adO A5+p110.2.toNat*2,none⟩)),(37,iv ((x5.getD p110.2.toNat (0,0)).1)),(38,.agg #[iv 5,iv ((x5.getD p110.2.toNat (0,0)).2),iv ((x5.getD p110.2.toNat (0,0)).1)]),(39,.slice (slA (sl a 39)) ((([(5,(x5.getD p110.2.toNat (0,0)).2,(x5.getD p110.2.toNat (0,0)).1)]:List (Int×Int×Int)):List (Int×Int×Int)).length) ((([(5,(x5.getD p110.2.toNat (0,0)).2,(x5.getD p110.2.toNat (0,0)).1)]:List (Int×Int×Int)):List (Int×Int×Int)).length)),(40,.slice (slA (sl a 40)) ((p110.1++([(5,(x5.getD p110.2.toNat (0,0)).2,(x5.getD p110.2.toNat (0,0)).1)]:List (Int×Int×Int))).length) (slC (sl a 40))),(3,.slice (slA (sl a 40)) ((p110.1++([(5,(x5.getD p110.2.toNat (0,0)).2,(x5.getD p110.2.toNat (0,0)).1)]:List (Int×Int×Int))).length) (slC (sl a 40)))] (allSl_mem ⟨q0,q1,q2,q3,q4,q5,q6,q7,q8,q9,q10,q11,q12,q13,q14,q15,q16,q17,q18,trivial⟩) rfl
  clear hB q0 q1 q2 q3 q4 q5 q6 q7 q8 q9 q10 q11 q12 q13 q14 q15 q16 q17 q18
  generalize slA (sl a 39)=B117 at *
  generalize slA (sl a 40)=B118 at *
  generalize slC (sl a 40)=d119 at *
  revert a;refine rl (mv rfl rfl (ov rfl (fun a f=>run_add (z:=w64 (p110.2+1)) (f.ev rfl) rfl rfl rfl) (ag rfl rfl fun a f=>wn ?_)))
  exact ⟨f1,Nat.lt_succ_self _,(p110.1++([(5,(x5.getD p110.2.toNat (0,0)).2,(x5.getD p110.2.toNat (0,0)).1)]:List (Int×Int×Int)),w64 (p110.2+1)),B118,d119,hM109,f.keep _ ⟨rfl,rfl,rfl,rfl,trivial⟩,S.sel [2,1] rfl rfl⟩
 rintro a u ⟨p105,B107,d108,rfl,f,S⟩
 refine ws ?_
 revert a;refine sr (ov rfl (fun a f=>run_assign rfl rfl) fun a f=>wn ?_)
 obtain ⟨o121,hM124,hM⟩:=bind_ex hM
 refine wp_cut (fun a u=>∃ (p120:List (Int×Int×Int)) (B122:Option Addr) (d123:Nat),p120=o121∧Fr a 156 [(1,.pointer (some ⟨g101,0,none⟩)),(2,.slice none 0 0),(3,.slice B122 p120.length d123)]∧St w u [.box g101 43 #[iv x0,.slice A1 x1.length c1,.slice A2 x2.length c2,.slice A3 x3.length c3,.slice A4 x4.length c4,.slice A5 x5.length c5,.slice A6 x6.length c6],.row 56 3 (.slice B122 p120.length d123) p120.length (p120.flatMap eWorkDeed)]) ?_ ?_
 ·have _:=trivial
  refine wp_block ?_
  refine loop_gw (fun m a u=>∃ (p125:List (Int×Int×Int)×Int) (B126:Option Addr) (d127:Nat),m_spec_HealDeeds_l2 x4 x6 m p125=some _∧Fr a 156 [(1,.pointer (some ⟨g101,0,none⟩)),(2,.slice none 0 0),(3,.slice B126 p125.1.length d127),(5,iv p125.2)]∧St w u [.box g101 43 #[iv x0,.slice A1 x1.length c1,.slice A2 x2.length c2,.slice A3 x3.length c3,.slice A4 x4.length c4,.slice A5 x5.length c5,.slice A6 x6.length c6],.row 56 3 (.slice B126 p125.1.length d127) p125.1.length (p125.1.flatMap eWorkDeed)]) FUEL ⟨(p105,0),B107,d108,hM124,f.keep _ ⟨rfl,rfl,rfl,rfl,trivial⟩,S.sel [0,1] rfl rfl⟩ ?_
  clear f S hM124;rintro m a u ⟨p125,B126,d127,hM124,f,S⟩
  rcases m with _ | f2
  ·exact none_some hM124
  rw [m_spec_HealDeeds_l2.eq_2] at hM124
  refine ws ?_
  revert a;refine sr (mv rfl rfl (ov rfl (fun a f=>run_fieldAddr rfl fl43_3 (f.ev rfl) rfl) (ov rfl (fun a f=>run_load1 rfl one30 (f.ev rfl) (S.cell 0 rfl rfl)) (ov rfl (fun a f=>run_lenL rfl rfl Tryz.underlying30 (f.ev rfl)) (ov rfl (fun a f=>run_lss (f.ev rfl) (f.ev rfl) rfl) fun a f=>wn ?_)))))
  cases hc128:(ltB p125.2 (x6.length:Int))
  ·replace hM124:=bif_f hc128 hM124
   refine cond_f f rfl hc128 ?_
   refine wp_exit ?_
   repeat with_reducible first|apply then_exit|apply in_hit|refine in_miss rfl ?_
   obtain rfl:=Option.some.inj hM124
   exact ⟨p125.1,B126,d127,rfl,f.keep _ ⟨rfl,rfl,rfl,trivial⟩,S.sel [0,1] rfl rfl⟩
  replace hM124:=bif_t hc128 hM124
  refine cond_t f rfl hc128 ?_
  refine wp_skip ?_
  refine ws ?_
  refine wp_block ?_
  refine ws ?_
  refine ws ?_
  obtain ⟨hk129,hM124⟩:=chk_ex hM124
  replace hk129:=ixB_t hk129
  obtain ⟨hk130,hM124⟩:=chk_ex hM124
  replace hk130:=ixB_t hk130
  refine region_gw (D:=[48,49,50,51,52,53,54,55,56,57,58]) (Lr:=[.box g101 43 #[iv x0,.slice A1 x1.length c1,.slice A2 x2.length c2,.slice A3 x3.length c3,.slice A4 x4.length c4,.slice A5 x5.length c5,.slice A6 x6.length c6],.row 56 3 (.slice B126 p125.1.length d127) p125.1.length (p125.1.flatMap eWorkDeed)]) (deps:=(fun | 0=>[48] | 1=>[49] | 2=>[50] | 3=>[51] | 4=>[52] | 5=>[53] | 6=>[54] | 7=>[55] | 8=>[56] | 9=>[57] | 10=>[58] | _=>[])) (rd:=(fun _=>[])) (zr:=(fun _=>[]))
   (φ:=fun i vs=>match i,vs with | 0,[v48]=>v48=.pointer (some ⟨g101,3,none⟩) | 1,[v49]=>v49=.pointer (some ⟨g101,4,none⟩) | 2,[v50]=>v50=.slice A4 x4.length c4 | 3,[v51]=>v51=.pointer (some ⟨g101,6,none⟩) | 4,[v52]=>v52=.slice A6 x6.length c6 | 5,[v53]=>v53=iv p125.2 | 6,[v54]=>v54=.pointer (some ⟨adB A6,adO A6+p125.2.toNat*1,none⟩) | 7,[v55]=>v55=iv (x6.getD p125.2.toNat 0) | 8,[v56]=>v56=.pointer (some ⟨adB A4,adO A4+((x6.getD p125.2.toNat 0).toNat)*1,none⟩) | 9,[v57]=>v57=.bool (x4.getD ((x6.getD p125.2.toNat 0).toNat) false) | 10,[v58]=>v58=.bool (!(x4.getD ((x6.getD p125.2.toNat 0).toNat) false)) | _,_=>True)
   (C:=fun _ _=>[])
   (κ:=(fun _=>none)) (Z:=(fun _=>[])) mixed f (by kernel_rfl) S ?_ ?_
  ·refine ⟨?_,?_,?_,?_,?_,?_,?_,?_,?_,?_,?_,trivial⟩
   ·intro a u X hB hu p hr hz hl S
    exact .inl ⟨rfl,_,u,(run_fieldAddr rfl fl43_2 (f.evB hB rfl rfl) rfl),rfl,S⟩
   ·intro a u X hB hu p hr hz hl S
    exact .inl ⟨rfl,_,u,(run_fieldAddr rfl fl41_1 (ev_sl (p 0 rfl)) rfl),rfl,S⟩
   ·intro a u X hB hu p hr hz hl S
    exact .inl ⟨rfl,_,u,(run_load1 rfl one26 (ev_sl (p 1 rfl)) ((gr_box S hl 0 rfl).cell rfl)),rfl,S⟩
   ·intro a u X hB hu p hr hz hl S
    exact .inl ⟨rfl,_,u,(run_fieldAddr rfl fl43_3 (f.evB hB rfl rfl) rfl),rfl,S⟩
   ·intro a u X hB hu p hr hz hl S
    exact .inl ⟨rfl,_,u,(run_load1 rfl one30 (ev_sl (p 3 rfl)) ((gr_box S hl 0 rfl).cell rfl)),rfl,S⟩
   ·intro a u X hB hu p hr hz hl S
    exact .inl ⟨rfl,_,u,(run_move rfl (f.evB hB rfl rfl)),rfl,S⟩
   ·intro a u X hB hu p hr hz hl S
    exact .inl ⟨rfl,_,u,(run_ix rfl Tryz.underlying30 sz3 (ev_sl (p 4 rfl)) (S.rc0 h6.rc) (ev_sl (p 5 rfl)) hk129),rfl,S⟩
   ·intro a u X hB hu p hr hz hl S
    exact .inl ⟨rfl,_,u,(run_load1 rfl one3 (ev_sl (p 6 rfl)) (rd_el0 (l:=x6) (S.rc0 h6.rc).rd rfl eI_len 0 (ix_ltn hk129 rfl) rfl)),rfl,S⟩
   ·intro a u X hB hu p hr hz hl S
    exact .inl ⟨rfl,_,u,(run_ix rfl Tryz.underlying26 sz4 (ev_sl (p 2 rfl)) (S.rc0 h4.rc) (ev_sl (p 7 rfl)) hk130),rfl,S⟩
   ·intro a u X hB hu p hr hz hl S
    exact .inl ⟨rfl,_,u,(run_load1 rfl one4 (ev_sl (p 8 rfl)) (rd_el0 (l:=x4) (S.rc0 h4.rc).rd rfl eB_len false (ix_ltn hk130 rfl) rfl)),rfl,S⟩
   intro a u X hB hu p hr hz hl S
   exact .inl ⟨rfl,_,u,(run_not rfl (ev_sl (p 9 rfl))),rfl,S⟩
  intro a u hB hp S
  obtain ⟨q0,q1,q2,q3,q4,q5,q6,q7,q8,q9,q10,-⟩:=hp
  replace S:St w u [.box g101 43 #[iv x0,.slice A1 x1.length c1,.slice A2 x2.length c2,.slice A3 x3.length c3,.slice A4 x4.length c4,.slice A5 x5.length c5,.slice A6 x6.length c6],.row 56 3 (.slice B126 p125.1.length d127) p125.1.length (p125.1.flatMap eWorkDeed)]:=S
  have f:=f.region hB [(48,_),(49,_),(50,_),(51,_),(52,_),(53,_),(54,_),(55,_),(56,_),(57,_),(58,_)] (allSl_mem ⟨q0,q1,q2,q3,q4,q5,q6,q7,q8,q9,q10,trivial⟩) rfl
  clear hB q0 q1 q2 q3 q4 q5 q6 q7 q8 q9 q10
  obtain ⟨o132,hM135,hM124⟩:=bind_ex hM124
  refine wp_cut (fun a u=>∃ (p131:List (Int×Int×Int)) (B133:Option Addr) (d134:Nat),p131=o132∧Fr a 156 [(1,.pointer (some ⟨g101,0,none⟩)),(2,.slice none 0 0),(3,.slice B133 p131.length d134),(5,iv p125.2)]∧St w u [.box g101 43 #[iv x0,.slice A1 x1.length c1,.slice A2 x2.length c2,.slice A3 x3.length c3,.slice A4 x4.length c4,.slice A5 x5.length c5,.slice A6 x6.length c6],.row 56 3 (.slice B133 p131.length d134) p131.length (p131.flatMap eWorkDeed)]) ?_ ?_
  ·have _:=trivial
   cases hc136:(x4.getD ((x6.getD p125.2.toNat 0).toNat) false)
   ·replace hM135:=bif_f hc136 hM135
    refine cond_t f rfl (not_t hc136) ?_
    revert a;refine rl (mv rfl rfl (ov rfl (fun a f=>run_fieldAddr rfl fl43_3 (f.ev rfl) rfl) (ov rfl (fun a f=>run_load1 rfl one30 (f.ev rfl) (S.cell 0 rfl rfl)) (mv rfl rfl fun a f=>?_))))
    obtain ⟨hk137,hM135⟩:=chk_ex hM135
    replace hk137:=ixB_t hk137
    revert a;refine ov rfl (fun a f=>run_ix rfl Tryz.underlying30 sz3 (f.ev rfl) (S.rc0 h6.rc) (f.ev rfl) hk137) (ov rfl (fun a f=>run_load1 rfl one3 (f.ev rfl) (rd_el0 (l:=x6) (S.rc0 h6.rc).rd rfl eI_len 0 (ix_ltn hk137 rfl) rfl)) (ov rfl (fun a f=>run_build (vs:=[(0,iv 2),(1,iv (x6.getD p125.2.toNat 0))]) rfl ⟨⟨rfl,rfl⟩,⟨rfl,(f.ev rfl)⟩,trivial⟩ (bd56_0_1 rfl rfl)) fun a f=>?_))
    refine op_newrowL (ls:=(([(2,(x6.getD p125.2.toNat 0),0)]:List (Int×Int×Int)):List (Int×Int×Int))) (e:=eWorkDeed) rfl rfl f rfl S (run_buildS (vs:=[(0,.agg #[iv 2,iv (x6.getD p125.2.toNat 0),iv 0])]) rfl ⟨⟨rfl,(f.ev rfl)⟩,trivial⟩ (bs47_1_3 )) rfl eWorkDeed_len (Nat.le_of_ble_eq_true rfl) ?_;clear f S;intro a g138 u f S
    obtain ⟨hk141,hM135⟩:=chk_ex hM135
    replace hk141:=apB_t hk141
    refine op_appendL (lx:=p125.1) (ly:=([(2,(x6.getD p125.2.toNat 0),0)]:List (Int×Int×Int))) rfl rfl f rfl S rfl (f.ev rfl) (f.ev rfl) (i:=2) rfl rfl Tryz.underlying47 inf56 rfl (by decide) (S.rc 0 rfl).rd rfl eWorkDeed_one hk141 (by decide) ?_;clear f S;intro a B139 d140 u f S
    revert a;refine ag rfl rfl fun a f=>wn ?_
    obtain rfl:=Option.some.inj hM135
    exact ⟨p125.1++([(2,(x6.getD p125.2.toNat 0),0)]:List (Int×Int×Int)),B139,d140,rfl,f.keep _ ⟨rfl,rfl,rfl,rfl,trivial⟩,S.sel [1,2] rfl rfl⟩
   replace hM135:=bif_t hc136 hM135
   refine cond_f f rfl (not_f hc136) ?_
   refine wp_skip ?_
   obtain rfl:=Option.some.inj hM135
   exact ⟨p125.1,B126,d127,rfl,f.keep _ ⟨rfl,rfl,rfl,rfl,trivial⟩,S.sel [0,1] rfl rfl⟩
  rintro a u ⟨p131,B133,d134,rfl,f,S⟩
  obtain ⟨hk142,hM124⟩:=chk_ex hM124
  replace hk142:=ixB_t hk142
  obtain ⟨hk143,hM124⟩:=chk_ex hM124
  replace hk143:=ixB_t hk143
  obtain ⟨hk144,hM124⟩:=chk_ex hM124
  replace hk144:=ixB_t hk144
  obtain ⟨hk145,hM124⟩:=chk_ex hM124
  replace hk145:=apB_t hk145
  refine region_gw (D:=[68,69,70,71,72,73,74,75,76,77,78,79,80,81,82,83,84,85,86,87,88,3]) (Lr:=[.box g101 43 #[iv x0,.slice A1 x1.length c1,.slice A2 x2.length c2,.slice A3 x3.length c3,.slice A4 x4.length c4,.slice A5 x5.length c5,.slice A6 x6.length c6]]) (deps:=(fun | 0=>[68] | 1=>[69] | 2=>[70] | 3=>[71] | 4=>[72] | 5=>[73] | 6=>[74] | 7=>[75] | 8=>[76] | 9=>[77] | 10=>[78] | 11=>[79] | 12=>[80] | 13=>[81] | 14=>[82] | 15=>[83] | 16=>[84] | 17=>[85] | 18=>[86] | 19=>[87] | 20=>[88] | 21=>[3,88] | _=>[])) (rd:=(fun | 20=>[19] | _=>[])) (zr:=(fun _=>[]))
   (φ:=fun i vs=>match i,vs with | 0,[v68]=>v68=.slice B133 p131.length d134 | 1,[v69]=>v69=.pointer (some ⟨g101,6,none⟩) | 2,[v70]=>v70=.slice A6 x6.length c6 | 3,[v71]=>v71=iv p125.2 | 4,[v72]=>v72=.pointer (some ⟨adB A6,adO A6+p125.2.toNat*1,none⟩) | 5,[v73]=>v73=iv (x6.getD p125.2.toNat 0) | 6,[v74]=>v74=.agg #[iv 4,iv (x6.getD p125.2.toNat 0),iv 0] | 7,[v75]=>v75=.pointer (some ⟨g101,6,none⟩) | 8,[v76]=>v76=.slice A6 x6.length c6 | 9,[v77]=>v77=iv p125.2 | 10,[v78]=>v78=.pointer (some ⟨adB A6,adO A6+p125.2.toNat*1,none⟩) | 11,[v79]=>v79=iv (x6.getD p125.2.toNat 0) | 12,[v80]=>v80=.agg #[iv 7,iv (x6.getD p125.2.toNat 0),iv 0] | 13,[v81]=>v81=.pointer (some ⟨g101,6,none⟩) | 14,[v82]=>v82=.slice A6 x6.length c6 | 15,[v83]=>v83=iv p125.2 | 16,[v84]=>v84=.pointer (some ⟨adB A6,adO A6+p125.2.toNat*1,none⟩) | 17,[v85]=>v85=iv (x6.getD p125.2.toNat 0) | 18,[v86]=>v86=.agg #[iv 5,iv (x6.getD p125.2.toNat 0),iv 0] | 19,[v87]=>v87=.slice (slA v87) ((([(4,(x6.getD p125.2.toNat 0),0),(7,(x6.getD p125.2.toNat 0),0),(5,(x6.getD p125.2.toNat 0),0)]:List (Int×Int×Int)):List (Int×Int×Int)).length) ((([(4,(x6.getD p125.2.toNat 0),0),(7,(x6.getD p125.2.toNat 0),0),(5,(x6.getD p125.2.toNat 0),0)]:List (Int×Int×Int)):List (Int×Int×Int)).length) | 20,[v88]=>v88=.slice (slA v88) ((p131++([(4,(x6.getD p125.2.toNat 0),0),(7,(x6.getD p125.2.toNat 0),0),(5,(x6.getD p125.2.toNat 0),0)]:List (Int×Int×Int))).length) (slC v88) | 21,[v3,v88]=>v3=.slice (slA v88) ((p131++([(4,(x6.getD p125.2.toNat 0),0),(7,(x6.getD p125.2.toNat 0),0),(5,(x6.getD p125.2.toNat 0),0)]:List (Int×Int×Int))).length) (slC v88) | _,_=>True)
   (C:=fun i vs=>match i,vs with | 19,[v87]=>[.row 56 3 (.slice (slA v87) ((([(4,(x6.getD p125.2.toNat 0),0),(7,(x6.getD p125.2.toNat 0),0),(5,(x6.getD p125.2.toNat 0),0)]:List (Int×Int×Int)):List (Int×Int×Int)).length) ((([(4,(x6.getD p125.2.toNat 0),0),(7,(x6.getD p125.2.toNat 0),0),(5,(x6.getD p125.2.toNat 0),0)]:List (Int×Int×Int)):List (Int×Int×Int)).length)) ((([(4,(x6.getD p125.2.toNat 0),0),(7,(x6.getD p125.2.toNat 0),0),(5,(x6.getD p125.2.toNat 0),0)]:List (Int×Int×Int)):List (Int×Int×Int)).length) (([(4,(x6.getD p125.2.toNat 0),0),(7,(x6.getD p125.2.toNat 0),0),(5,(x6.getD p125.2.toNat 0),0)]:List (Int×Int×Int)).flatMap eWorkDeed)] | 20,[v88]=>[.row 56 3 (.slice (slA v88) ((p131++([(4,(x6.getD p125.2.toNat 0),0),(7,(x6.getD p125.2.toNat 0),0),(5,(x6.getD p125.2.toNat 0),0)]:List (Int×Int×Int))).length) (slC v88)) ((p131++([(4,(x6.getD p125.2.toNat 0),0),(7,(x6.getD p125.2.toNat 0),0),(5,(x6.getD p125.2.toNat 0),0)]:List (Int×Int×Int))).length) ((p131++([(4,(x6.getD p125.2.toNat 0),0),(7,(x6.getD p125.2.toNat 0),0),(5,(x6.getD p125.2.toNat 0),0)]:List (Int×Int×Int))).flatMap eWorkDeed)] | _,_=>[])
   (κ:=(fun _=>none)) (Z:=(fun | 20=>[.row 56 3 (.slice B133 p131.length d134) p131.length (p131.flatMap eWorkDeed)] | _=>[])) mixed f (by kernel_rfl) (show St w _ [.row 56 3 (.slice B133 p131.length d134) p131.length (p131.flatMap eWorkDeed),.box g101 43 #[iv x0,.slice A1 x1.length c1,.slice A2 x2.length c2,.slice A3 x3.length c3,.slice A4 x4.length c4,.slice A5 x5.length c5,.slice A6 x6.length c6]] from S.sel [1,0] rfl rfl) ?_ ?_
  ·refine ⟨?_,?_,?_,?_,?_,?_,?_,?_,?_,?_,?_,?_,?_,?_,?_,?_,?_,?_,?_,?_,?_,?_,trivial⟩
   ·intro a u X hB hu p hr hz hl S
    exact .inl ⟨rfl,_,u,(run_move rfl (f.evU (hu 21 3 rfl rfl) rfl)),rfl,S⟩
   ·intro a u X hB hu p hr hz hl S
    exact .inl ⟨rfl,_,u,(run_fieldAddr rfl fl43_3 (f.evB hB rfl rfl) rfl),rfl,S⟩
   ·intro a u X hB hu p hr hz hl S
    exact .inl ⟨rfl,_,u,(run_load1 rfl one30 (ev_sl (p 1 rfl)) ((gr_box S hl 0 rfl).cell rfl)),rfl,S⟩
   ·intro a u X hB hu p hr hz hl S
    exact .inl ⟨rfl,_,u,(run_move rfl (f.evB hB rfl rfl)),rfl,S⟩
   ·intro a u X hB hu p hr hz hl S
    exact .inl ⟨rfl,_,u,(run_ix rfl Tryz.underlying30 sz3 (ev_sl (p 2 rfl)) (S.rc0 h6.rc) (ev_sl (p 3 rfl)) hk142),rfl,S⟩
   ·intro a u X hB hu p hr hz hl S
    exact .inl ⟨rfl,_,u,(run_load1 rfl one3 (ev_sl (p 4 rfl)) (rd_el0 (l:=x6) (S.rc0 h6.rc).rd rfl eI_len 0 (ix_ltn hk142 rfl) rfl)),rfl,S⟩
   ·intro a u X hB hu p hr hz hl S
    exact .inl ⟨rfl,_,u,(run_build (vs:=[(0,iv 4),(1,iv (x6.getD p125.2.toNat 0))]) rfl ⟨⟨rfl,(ev_const _ _)⟩,⟨rfl,(ev_sl (p 5 rfl))⟩,trivial⟩ (bd56_0_1 rfl rfl)),rfl,S⟩
   ·intro a u X hB hu p hr hz hl S
    exact .inl ⟨rfl,_,u,(run_fieldAddr rfl fl43_3 (f.evB hB rfl rfl) rfl),rfl,S⟩
   ·intro a u X hB hu p hr hz hl S
    exact .inl ⟨rfl,_,u,(run_load1 rfl one30 (ev_sl (p 7 rfl)) ((gr_box S hl 0 rfl).cell rfl)),rfl,S⟩
   ·intro a u X hB hu p hr hz hl S
    exact .inl ⟨rfl,_,u,(run_move rfl (f.evB hB rfl rfl)),rfl,S⟩
   ·intro a u X hB hu p hr hz hl S
    exact .inl ⟨rfl,_,u,(run_ix rfl Tryz.underlying30 sz3 (ev_sl (p 8 rfl)) (S.rc0 h6.rc) (ev_sl (p 9 rfl)) hk143),rfl,S⟩
   ·intro a u X hB hu p hr hz hl S
    exact .inl ⟨rfl,_,u,(run_load1 rfl one3 (ev_sl (p 10 rfl)) (rd_el0 (l:=x6) (S.rc0 h6.rc).rd rfl eI_len 0 (ix_ltn hk143 rfl) rfl)),rfl,S⟩
   ·intro a u X hB hu p hr hz hl S
    exact .inl ⟨rfl,_,u,(run_build (vs:=[(0,iv 7),(1,iv (x6.getD p125.2.toNat 0))]) rfl ⟨⟨rfl,(ev_const _ _)⟩,⟨rfl,(ev_sl (p 11 rfl))⟩,trivial⟩ (bd56_0_1 rfl rfl)),rfl,S⟩
   ·intro a u X hB hu p hr hz hl S
    exact .inl ⟨rfl,_,u,(run_fieldAddr rfl fl43_3 (f.evB hB rfl rfl) rfl),rfl,S⟩
   ·intro a u X hB hu p hr hz hl S
    exact .inl ⟨rfl,_,u,(run_load1 rfl one30 (ev_sl (p 13 rfl)) ((gr_box S hl 0 rfl).cell rfl)),rfl,S⟩
   ·intro a u X hB hu p hr hz hl S
    exact .inl ⟨rfl,_,u,(run_move rfl (f.evB hB rfl rfl)),rfl,S⟩
   ·intro a u X hB hu p hr hz hl S
    exact .inl ⟨rfl,_,u,(run_ix rfl Tryz.underlying30 sz3 (ev_sl (p 14 rfl)) (S.rc0 h6.rc) (ev_sl (p 15 rfl)) hk144),rfl,S⟩
   ·intro a u X hB hu p hr hz hl S
    exact .inl ⟨rfl,_,u,(run_load1 rfl one3 (ev_sl (p 16 rfl)) (rd_el0 (l:=x6) (S.rc0 h6.rc).rd rfl eI_len 0 (ix_ltn hk144 rfl) rfl)),rfl,S⟩
   ·intro a u X hB hu p hr hz hl S
    exact .inl ⟨rfl,_,u,(run_build (vs:=[(0,iv 5),(1,iv (x6.getD p125.2.toNat 0))]) rfl ⟨⟨rfl,(ev_const _ _)⟩,⟨rfl,(ev_sl (p 17 rfl))⟩,trivial⟩ (bd56_0_1 rfl rfl)),rfl,S⟩
   ·intro a u X hB hu p hr hz hl S
    exact .inl ⟨rfl,_,_,run_buildS (vs:=[(0,.agg #[iv 4,iv (x6.getD p125.2.toNat 0),iv 0]),(1,.agg #[iv 7,iv (x6.getD p125.2.toNat 0),iv 0]),(2,.agg #[iv 5,iv (x6.getD p125.2.toNat 0),iv 0])]) rfl ⟨⟨rfl,(ev_sl (p 6 rfl))⟩,⟨rfl,(ev_sl (p 12 rfl))⟩,⟨rfl,(ev_sl (p 18 rfl))⟩,trivial⟩ (bs47_3_3_3_3 ),rfl,S.newrowL (e:=eWorkDeed) (ls:=([(4,(x6.getD p125.2.toNat 0),0),(7,(x6.getD p125.2.toNat 0),0),(5,(x6.getD p125.2.toNat 0),0)]:List (Int×Int×Int))) rfl eWorkDeed_len (Nat.le_of_ble_eq_true rfl)⟩
   ·intro a u X hB hu p hr hz hl S
    replace S:St w u ([.row 56 3 (.slice B133 p131.length d134) p131.length (p131.flatMap eWorkDeed)]++X):=S
    obtain ⟨B,d,w',hrun,S'⟩:=S.appendL (i:=0) (P:=Tryz.prog) (ty:=47) (lx:=p131) (ly:=([(4,(x6.getD p125.2.toNat 0),0),(7,(x6.getD p125.2.toNat 0),0),(5,(x6.getD p125.2.toNat 0),0)]:List (Int×Int×Int))) (c':=((([(4,(x6.getD p125.2.toNat 0),0),(7,(x6.getD p125.2.toNat 0),0),(5,(x6.getD p125.2.toNat 0),0)]:List (Int×Int×Int)):List (Int×Int×Int)).length)) rfl rfl Tryz.underlying47 inf56 rfl (by decide) (own_rc (show Ow _ _ _ _ _ _ from S.mem (List.mem_append_right _ (hr 19 (List.mem_of_getElem? (i:=0) rfl) _ (List.mem_of_getElem? (i:=0) rfl))))).rd rfl eWorkDeed_one hk145 (by decide)
    exact .inl ⟨rfl,_,w',run_append rfl (ev_sl (p 0 rfl)) (ev_sl (p 19 rfl)) hrun,rfl,S'⟩
   intro a u X hB hu p hr hz hl S
   exact .inl ⟨rfl,_,u,(run_assign rfl (ev_sl (p 20 rfl))),rfl,S⟩
  intro a u hB hp S
  obtain ⟨q0,q1,q2,q3,q4,q5,q6,q7,q8,q9,q10,q11,q12,q13,q14,q15,q16,q17,q18,q19,q20,q21,-⟩:=hp
  replace S:St w u [.row 56 3 (.slice (slA (sl a 87)) ((([(4,(x6.getD p125.2.toNat 0),0),(7,(x6.getD p125.2.toNat 0),0),(5,(x6.getD p125.2.toNat 0),0)]:List (Int×Int×Int)):List (Int×Int×Int)).length) ((([(4,(x6.getD p125.2.toNat 0),0),(7,(x6.getD p125.2.toNat 0),0),(5,(x6.getD p125.2.toNat 0),0)]:List (Int×Int×Int)):List (Int×Int×Int)).length)) ((([(4,(x6.getD p125.2.toNat 0),0),(7,(x6.getD p125.2.toNat 0),0),(5,(x6.getD p125.2.toNat 0),0)]:List (Int×Int×Int)):List (Int×Int×Int)).length) (([(4,(x6.getD p125.2.toNat 0),0),(7,(x6.getD p125.2.toNat 0),0),(5,(x6.getD p125.2.toNat 0),0)]:List (Int×Int×Int)).flatMap eWorkDeed),.row 56 3 (.slice (slA (sl a 88)) ((p131++([(4,(x6.getD p125.2.toNat 0),0),(7,(x6.getD p125.2.toNat 0),0),(5,(x6.getD p125.2.toNat 0),0)]:List (Int×Int×Int))).length) (slC (sl a 88))) ((p131++([(4,(x6.getD p125.2.toNat 0),0),(7,(x6.getD p125.2.toNat 0),0),(5,(x6.getD p125.2.toNat 0),0)]:List (Int×Int×Int))).length) ((p131++([(4,(x6.getD p125.2.toNat 0),0),(7,(x6.getD p125.2.toNat 0),0),(5,(x6.getD p125.2.toNat 0),0)]:List (Int×Int×Int))).flatMap eWorkDeed),.box g101 43 #[iv x0,.slice A1 x1.length c1,.slice A2 x2.length c2,.slice A3 x3.length c3,.slice A4 x4.length c4,.slice A5 x5.length c5,.slice A6 x6.length c6]]:=S
  have f:=f.region hB [(68,.slice B133 p131.length d134),(69,.pointer (some ⟨g101,6,none⟩)),(70,.slice A6 x6.length c6),(71,iv p125.2),(72,.pointer (some ⟨adB A6,adO A6+p125.2.toNat*1,none⟩)),(73,iv (x6.getD p125.2.toNat 0)),(74,.agg #[iv 4,iv (x6.getD p125.2.toNat 0),iv 0]),(75,.pointer (some ⟨g101,6,none⟩)),(76,.slice A6 x6.length c6),(77,iv p125.2),(78,.pointer (some ⟨adB A6,adO A6+p125.2.toNat*1,none⟩)),(79,iv (x6.getD p125.2.toNat 0)),(80,.agg #[iv 7,iv (x6.getD p125.2.toNat 0),iv 0]),(81,.pointer (some ⟨g101,6,none⟩)),(82,.slice A6 x6.length c6),(83,iv p125.2),(84,.pointer (some ⟨adB A6,adO A6+p125.2.toNat*1,none⟩)),(85,iv (x6.getD p125.2.toNat 0)),(86,.agg #[iv 5,iv (x6.getD p125.2.toNat 0),iv 0]),(87,.slice (slA (sl a 87)) ((([(4,(x6.getD p125.2.toNat 0),0),(7,(x6.getD p125.2.toNat 0),0),(5,(x6.getD p125.2.toNat 0),0)]:List (Int×Int×Int)):List (Int×Int×Int)).length) ((([(4,(x6.getD p125.2.toNat 0),0),(7,(x6.getD p125.2.toNat 0),0),(5,(x6.getD p125.2.toNat 0),0)]:List (Int×Int×Int)):List (Int×Int×Int)).length)),(88,.slice (slA (sl a 88)) ((p131++([(4,(x6.getD p125.2.toNat 0),0),(7,(x6.getD p125.2.toNat 0),0),(5,(x6.getD p125.2.toNat 0),0)]:List (Int×Int×Int))).length) (slC (sl a 88))),(3,.slice (slA (sl a 88)) ((p131++([(4,(x6.getD p125.2.toNat 0),0),(7,(x6.getD p125.2.toNat 0),0),(5,(x6.getD p125.2.toNat 0),0)]:List (Int×Int×Int))).length) (slC (sl a 88)))] (allSl_mem ⟨q0,q1,q2,q3,q4,q5,q6,q7,q8,q9,q10,q11,q12,q13,q14,q15,q16,q17,q18,q19,q20,q21,trivial⟩) rfl
  clear hB q0 q1 q2 q3 q4 q5 q6 q7 q8 q9 q10 q11 q12 q13 q14 q15 q16 q17 q18 q19 q20 q21
  generalize slA (sl a 87)=B146 at *
  generalize slA (sl a 88)=B147 at *
  generalize slC (sl a 88)=d148 at *
  revert a;refine rl (mv rfl rfl (ov rfl (fun a f=>run_add (z:=w64 (p125.2+1)) (f.ev rfl) rfl rfl rfl) (ag rfl rfl fun a f=>wn ?_)))
  exact ⟨f2,Nat.lt_succ_self _,(p131++([(4,(x6.getD p125.2.toNat 0),0),(7,(x6.getD p125.2.toNat 0),0),(5,(x6.getD p125.2.toNat 0),0)]:List (Int×Int×Int)),w64 (p125.2+1)),B147,d148,hM124,f.keep _ ⟨rfl,rfl,rfl,rfl,trivial⟩,S.sel [2,1] rfl rfl⟩
 rintro a u ⟨p120,B122,d123,rfl,f,S⟩
 refine ws ?_
 revert a;refine sr (ov rfl (fun a f=>run_assign rfl rfl) fun a f=>wn ?_)
 obtain ⟨o150,hM153,hM⟩:=bind_ex hM
 refine wp_cut (fun a u=>∃ (p149:List (Int×Int×Int)) (B151:Option Addr) (d152:Nat),p149=o150∧Fr a 156 [(1,.pointer (some ⟨g101,0,none⟩)),(2,.slice none 0 0),(3,.slice B151 p149.length d152)]∧St w u [.box g101 43 #[iv x0,.slice A1 x1.length c1,.slice A2 x2.length c2,.slice A3 x3.length c3,.slice A4 x4.length c4,.slice A5 x5.length c5,.slice A6 x6.length c6],.row 56 3 (.slice B151 p149.length d152) p149.length (p149.flatMap eWorkDeed)]) ?_ ?_
 ·have _:=trivial
  refine wp_block ?_
  refine loop_gw (fun m a u=>∃ (p154:List (Int×Int×Int)×Int) (B155:Option Addr) (d156:Nat),m_spec_HealDeeds_l3 x3 x4 x6 m p154=some _∧Fr a 156 [(1,.pointer (some ⟨g101,0,none⟩)),(2,.slice none 0 0),(3,.slice B155 p154.1.length d156),(6,iv p154.2)]∧St w u [.box g101 43 #[iv x0,.slice A1 x1.length c1,.slice A2 x2.length c2,.slice A3 x3.length c3,.slice A4 x4.length c4,.slice A5 x5.length c5,.slice A6 x6.length c6],.row 56 3 (.slice B155 p154.1.length d156) p154.1.length (p154.1.flatMap eWorkDeed)]) FUEL ⟨(p120,0),B122,d123,hM153,f.keep _ ⟨rfl,rfl,rfl,rfl,trivial⟩,S.sel [0,1] rfl rfl⟩ ?_
  clear f S hM153;rintro m a u ⟨p154,B155,d156,hM153,f,S⟩
  rcases m with _ | f3
  ·exact none_some hM153
  rw [m_spec_HealDeeds_l3.eq_2] at hM153
  refine ws ?_
  revert a;refine sr (mv rfl rfl (ov rfl (fun a f=>run_fieldAddr rfl fl43_2 (f.ev rfl) rfl) (ov rfl (fun a f=>run_fieldAddr rfl fl41_0 (f.ev rfl) rfl) (ov rfl (fun a f=>run_load1 rfl one26 (f.ev rfl) (S.cell 0 rfl rfl)) (ov rfl (fun a f=>run_lenL rfl rfl Tryz.underlying26 (f.ev rfl)) (ov rfl (fun a f=>run_lss (f.ev rfl) (f.ev rfl) rfl) fun a f=>wn ?_))))))
  cases hc157:(ltB p154.2 (x3.length:Int))
  ·replace hM153:=bif_f hc157 hM153
   refine cond_f f rfl hc157 ?_
   refine wp_exit ?_
   repeat with_reducible first|apply then_exit|apply in_hit|refine in_miss rfl ?_
   obtain rfl:=Option.some.inj hM153
   exact ⟨p154.1,B155,d156,rfl,f.keep _ ⟨rfl,rfl,rfl,trivial⟩,S.sel [0,1] rfl rfl⟩
  replace hM153:=bif_t hc157 hM153
  refine cond_t f rfl hc157 ?_
  refine wp_skip ?_
  refine ws ?_
  refine wp_block ?_
  revert a;refine sr (ov rfl (fun a f=>run_fieldAddr rfl fl43_2 (f.ev rfl) rfl) (ov rfl (fun a f=>run_fieldAddr rfl fl41_1 (f.ev rfl) rfl) (ov rfl (fun a f=>run_load1 rfl one26 (f.ev rfl) (S.cell 0 rfl rfl)) (mv rfl rfl fun a f=>?_))))
  obtain ⟨hk158,hM153⟩:=chk_ex hM153
  replace hk158:=ixB_t hk158
  revert a;refine ov rfl (fun a f=>run_ix rfl Tryz.underlying26 sz4 (f.ev rfl) (S.rc0 h4.rc) (f.ev rfl) hk158) (ov rfl (fun a f=>run_load1 rfl one4 (f.ev rfl) (rd_el0 (l:=x4) (S.rc0 h4.rc).rd rfl eB_len false (ix_ltn hk158 rfl) rfl)) (mv rfl rfl fun a f=>?_))
  revert a;refine gf rfl rfl rfl rfl (fun a f hg=>run_fieldAddr rfl fl43_3 (f.ev rfl) rfl) (gf rfl rfl rfl rfl (fun a f hg=>run_load1 rfl one30 ((f.ev rfl).trans (gv_t hg)) (S.cell 0 rfl rfl)) (gf rfl rfl rfl rfl (fun a f hg=>run_move rfl (f.ev rfl)) fun a f=>?_))
  obtain ⟨p159,h159,hM153⟩:=bind_ex hM153
  refine op_gcall (v:=.bool p159) rfl rfl f rfl S (yf (gw_yield f rfl rfl rfl)) (fun hg=>(run_call (vs:=[.slice A6 x6.length c6,iv p154.2]) rfl rfl co40 ⟨((f.ev rfl).trans (gv_t hg)),((f.ev rfl).trans (gv_t hg)),trivial⟩)) (fun hg=>c_spec_l1Has (x0:=x6) (x1:=p154.2) ⟨(S.rc0 h6.rc),rfl⟩ (gb_t h159 hg)) ?_;clear f S;intro a u f S
  revert a;refine ov rfl (fun a f=>run_pick_or rfl (f.ev rfl) rfl (fun hp=>((f.ev rfl).trans (gv_t (not_t hp))))) fun a f=>wn ?_
  obtain ⟨o161,hM164,hM153⟩:=bind_ex hM153
  refine wp_cut (fun a u=>∃ (p160:List (Int×Int×Int)) (B162:Option Addr) (d163:Nat),p160=o161∧Fr a 156 [(1,.pointer (some ⟨g101,0,none⟩)),(2,.slice none 0 0),(3,.slice B162 p160.length d163),(6,iv p154.2)]∧St w u [.box g101 43 #[iv x0,.slice A1 x1.length c1,.slice A2 x2.length c2,.slice A3 x3.length c3,.slice A4 x4.length c4,.slice A5 x5.length c5,.slice A6 x6.length c6],.row 56 3 (.slice B162 p160.length d163) p160.length (p160.flatMap eWorkDeed)]) ?_ ?_
  ·have _:=trivial
   cases hc165:((x4.getD p154.2.toNat false)||p159)
   ·replace hM164:=bif_f hc165 hM164
    refine cond_f f rfl hc165 ?_
    refine wp_skip ?_
    obtain rfl:=Option.some.inj hM164
    exact ⟨p154.1,B155,d156,rfl,f.keep _ ⟨rfl,rfl,rfl,rfl,trivial⟩,S.sel [0,1] rfl rfl⟩
   replace hM164:=bif_t hc165 hM164
   refine cond_t f rfl hc165 ?_
   revert a;refine rl (mv rfl rfl (mv rfl rfl (ov rfl (fun a f=>run_build (vs:=[(0,iv 3),(1,iv p154.2)]) rfl ⟨⟨rfl,rfl⟩,⟨rfl,(f.ev rfl)⟩,trivial⟩ (bd56_0_1 rfl rfl)) fun a f=>?_)))
   refine op_newrowL (ls:=(([(3,p154.2,0)]:List (Int×Int×Int)):List (Int×Int×Int))) (e:=eWorkDeed) rfl rfl f rfl S (run_buildS (vs:=[(0,.agg #[iv 3,iv p154.2,iv 0])]) rfl ⟨⟨rfl,(f.ev rfl)⟩,trivial⟩ (bs47_1_3 )) rfl eWorkDeed_len (Nat.le_of_ble_eq_true rfl) ?_;clear f S;intro a g166 u f S
   obtain ⟨hk169,hM164⟩:=chk_ex hM164
   replace hk169:=apB_t hk169
   refine op_appendL (lx:=p154.1) (ly:=([(3,p154.2,0)]:List (Int×Int×Int))) rfl rfl f rfl S rfl (f.ev rfl) (f.ev rfl) (i:=2) rfl rfl Tryz.underlying47 inf56 rfl (by decide) (S.rc 0 rfl).rd rfl eWorkDeed_one hk169 (by decide) ?_;clear f S;intro a B167 d168 u f S
   revert a;refine ag rfl rfl fun a f=>wn ?_
   obtain rfl:=Option.some.inj hM164
   exact ⟨p154.1++([(3,p154.2,0)]:List (Int×Int×Int)),B167,d168,rfl,f.keep _ ⟨rfl,rfl,rfl,rfl,trivial⟩,S.sel [1,2] rfl rfl⟩
  rintro a u ⟨p160,B162,d163,rfl,f,S⟩
  revert a;refine rl (mv rfl rfl (ov rfl (fun a f=>run_add (z:=w64 (p154.2+1)) (f.ev rfl) rfl rfl rfl) (ag rfl rfl fun a f=>wn ?_)))
  exact ⟨f3,Nat.lt_succ_self _,(p160,w64 (p154.2+1)),B162,d163,hM153,f.keep _ ⟨rfl,rfl,rfl,rfl,trivial⟩,S.sel [0,1] rfl rfl⟩
 rintro a u ⟨p149,B151,d152,rfl,f,S⟩
 revert a;refine sr (ov rfl (fun a f=>run_fieldAddr rfl fl43_0 (f.ev rfl) rfl) (ov rfl (fun a f=>run_loadN rfl ag37 (f.ev rfl) rfl ((S.free 0 rfl).cells 0 #[iv x0,.slice A1 x1.length c1] rfl)) (ov rfl (fun a f=>run_fieldAddr rfl fl43_2 (f.ev rfl) rfl) (ov rfl (fun a f=>run_fieldAddr rfl fl41_0 (f.ev rfl) rfl) (ov rfl (fun a f=>run_load1 rfl one26 (f.ev rfl) (S.cell 0 rfl rfl)) (ov rfl (fun a f=>run_fieldAddr rfl fl43_1 (f.ev rfl) rfl) (ov rfl (fun a f=>run_load1 rfl one38 (f.ev rfl) (S.cell 0 rfl rfl)) fun a f=>?_)))))))
 refine op_newrow (cs:=#[]) (size:=1) rfl rfl f rfl S (run_buildSlice0 rfl Tryz.underlying30 (congrArg Option.isSome sz3)) rfl (Nat.zero_le _) ?_;clear f S;intro a g170 u f S
 obtain ⟨p171,h171,hM⟩:=bind_ex hM
 refine op_call rfl rfl f rfl (run_call (vs:=[_,_,_,_]) rfl rfl co41 ⟨(f.ev rfl),(f.ev rfl),(f.ev rfl),(f.ev rfl),trivial⟩) (c_spec_RestoreOrder ⟨(S.rc0 h1.rc),rfl⟩ ⟨(S.rc0 h3.rc),rfl⟩ ⟨(S.rc0 h2.rc),rfl⟩ ⟨(S.rc 0 rfl),rfl⟩ h171) ?_
 rintro e u ⟨B172,n173,d174,rfl,rfl,T⟩
 refine ⟨_,rfl,?_⟩
 clear f;intro a f
 replace S:=S.call1 T;clear T
 revert a;refine mv rfl rfl (ov rfl (fun a f=>run_extract rfl (f.ev rfl) rfl) (ov rfl (fun a f=>run_extract rfl (f.ev rfl) rfl) (ag rfl rfl (ag rfl rfl fun a f=>wn ?_))))
 refine ws ?_
 revert a;refine sr (ov rfl (fun a f=>run_assign rfl rfl) fun a f=>wn ?_)
 obtain ⟨o176,hM179,hM⟩:=bind_ex hM
 refine wp_cut (fun a u=>∃ (p175:List (Int×Int×Int)) (B177:Option Addr) (d178:Nat),p175=o176∧Fr a 156 [(2,.slice none 0 0),(3,.slice B177 p175.length d178)]∧St w u [.row 56 3 (.slice B177 p175.length d178) p175.length (p175.flatMap eWorkDeed)]) ?_ ?_
 ·have _:=trivial
  refine wp_block ?_
  refine loop_gw (fun m a u=>∃ (p180:List (Int×Int×Int)×Int) (B181:Option Addr) (d182:Nat),m_spec_HealDeeds_l4 p171 m p180=some _∧Fr a 156 [(2,.slice none 0 0),(3,.slice B181 p180.1.length d182),(7,.slice B172 p171.1.length d174),(9,iv p180.2)]∧St w u [.row 56 3 (.slice B181 p180.1.length d182) p180.1.length (p180.1.flatMap eWorkDeed),.row 84 2 (.slice B172 p171.1.length d174) p171.1.length (p171.1.flatMap eStep)]) FUEL ⟨(p149,0),B151,d152,hM179,f.keep _ ⟨rfl,rfl,rfl,rfl,trivial⟩,S.sel [3,0] rfl rfl⟩ ?_
  clear f S hM179;rintro m a u ⟨p180,B181,d182,hM179,f,S⟩
  rcases m with _ | f4
  ·exact none_some hM179
  rw [m_spec_HealDeeds_l4.eq_2] at hM179
  refine ws ?_
  revert a;refine sr (mv rfl rfl (mv rfl rfl (ov rfl (fun a f=>run_lenL rfl rfl Tryz.underlying80 (f.ev rfl)) (ov rfl (fun a f=>run_lss (f.ev rfl) (f.ev rfl) rfl) fun a f=>wn ?_))))
  cases hc183:(ltB p180.2 (p171.1.length:Int))
  ·replace hM179:=bif_f hc183 hM179
   refine cond_f f rfl hc183 ?_
   refine wp_exit ?_
   repeat with_reducible first|apply then_exit|apply in_hit|refine in_miss rfl ?_
   obtain rfl:=Option.some.inj hM179
   exact ⟨p180.1,B181,d182,rfl,f.keep _ ⟨rfl,rfl,trivial⟩,S.sel [0] rfl rfl⟩
  replace hM179:=bif_t hc183 hM179
  refine cond_t f rfl hc183 ?_
  refine wp_skip ?_
  refine ws ?_
  refine wp_block ?_
  revert a;refine sr (mv rfl rfl (mv rfl rfl fun a f=>?_))
  obtain ⟨hk184,hM179⟩:=chk_ex hM179
  replace hk184:=ixB_t hk184
  revert a;refine ov rfl (fun a f=>run_ix rfl Tryz.underlying80 sz84 (f.ev rfl) (S.rc 1 rfl) (f.ev rfl) hk184) (ov rfl (fun a f=>run_fieldAddr rfl fl84_1 (f.ev rfl) rfl) (ov rfl (fun a f=>run_load1 rfl one4 (f.ev rfl) (rd_el (l:=p171.1) (S.rc 1 rfl).rd rfl eStep_len (0,false) (ix_ltn hk184 rfl) rfl)) fun a f=>wn ?_))
  obtain ⟨o186,hM189,hM179⟩:=bind_ex hM179
  refine wp_cut (fun a u=>∃ (p185:List (Int×Int×Int)) (B187:Option Addr) (d188:Nat),p185=o186∧Fr a 156 [(2,.slice none 0 0),(3,.slice B187 p185.length d188),(7,.slice B172 p171.1.length d174),(9,iv p180.2)]∧St w u [.row 56 3 (.slice B187 p185.length d188) p185.length (p185.flatMap eWorkDeed),.row 84 2 (.slice B172 p171.1.length d174) p171.1.length (p171.1.flatMap eStep)]) ?_ ?_
  ·have _:=trivial
   cases hc190:((p171.1.getD p180.2.toNat (0,false)).2)
   ·replace hM189:=bif_f hc190 hM189
    refine cond_f f rfl hc190 ?_
    revert a;refine rl (mv rfl rfl (mv rfl rfl (mv rfl rfl fun a f=>?_)))
    obtain ⟨hk191,hM189⟩:=chk_ex hM189
    replace hk191:=ixB_t hk191
    revert a;refine ov rfl (fun a f=>run_ix rfl Tryz.underlying80 sz84 (f.ev rfl) (S.rc 1 rfl) (f.ev rfl) hk191) (ov rfl (fun a f=>run_fieldAddr rfl fl84_0 (f.ev rfl) rfl) (ov rfl (fun a f=>run_load1 rfl one3 (f.ev rfl) (rd_el0 (l:=p171.1) (S.rc 1 rfl).rd rfl eStep_len (0,false) (ix_ltn hk191 rfl) rfl)) (ov rfl (fun a f=>run_build (vs:=[(0,iv 1),(1,iv ((p171.1.getD p180.2.toNat (0,false)).1))]) rfl ⟨⟨rfl,rfl⟩,⟨rfl,(f.ev rfl)⟩,trivial⟩ (bd56_0_1 rfl rfl)) fun a f=>?_)))
    refine op_newrowL (ls:=(([(1,(p171.1.getD p180.2.toNat (0,false)).1,0)]:List (Int×Int×Int)):List (Int×Int×Int))) (e:=eWorkDeed) rfl rfl f rfl S (run_buildS (vs:=[(0,.agg #[iv 1,iv ((p171.1.getD p180.2.toNat (0,false)).1),iv 0])]) rfl ⟨⟨rfl,(f.ev rfl)⟩,trivial⟩ (bs47_1_3 )) rfl eWorkDeed_len (Nat.le_of_ble_eq_true rfl) ?_;clear f S;intro a g192 u f S
    obtain ⟨hk195,hM189⟩:=chk_ex hM189
    replace hk195:=apB_t hk195
    refine op_appendL (lx:=p180.1) (ly:=([(1,(p171.1.getD p180.2.toNat (0,false)).1,0)]:List (Int×Int×Int))) rfl rfl f rfl S rfl (f.ev rfl) (f.ev rfl) (i:=1) rfl rfl Tryz.underlying47 inf56 rfl (by decide) (S.rc 0 rfl).rd rfl eWorkDeed_one hk195 (by decide) ?_;clear f S;intro a B193 d194 u f S
    revert a;refine ag rfl rfl fun a f=>wn ?_
    obtain rfl:=Option.some.inj hM189
    exact ⟨p180.1++([(1,(p171.1.getD p180.2.toNat (0,false)).1,0)]:List (Int×Int×Int)),B193,d194,rfl,f.keep _ ⟨rfl,rfl,rfl,rfl,trivial⟩,S.sel [1,2] rfl rfl⟩
   replace hM189:=bif_t hc190 hM189
   refine cond_t f rfl hc190 ?_
   revert a;refine rl (mv rfl rfl (mv rfl rfl (mv rfl rfl fun a f=>?_)))
   obtain ⟨hk196,hM189⟩:=chk_ex hM189
   replace hk196:=ixB_t hk196
   revert a;refine ov rfl (fun a f=>run_ix rfl Tryz.underlying80 sz84 (f.ev rfl) (S.rc 1 rfl) (f.ev rfl) hk196) (ov rfl (fun a f=>run_fieldAddr rfl fl84_0 (f.ev rfl) rfl) (ov rfl (fun a f=>run_load1 rfl one3 (f.ev rfl) (rd_el0 (l:=p171.1) (S.rc 1 rfl).rd rfl eStep_len (0,false) (ix_ltn hk196 rfl) rfl)) (ov rfl (fun a f=>run_build (vs:=[(0,iv 0),(1,iv ((p171.1.getD p180.2.toNat (0,false)).1))]) rfl ⟨⟨rfl,rfl⟩,⟨rfl,(f.ev rfl)⟩,trivial⟩ (bd56_0_1 rfl rfl)) fun a f=>?_)))
   refine op_newrowL (ls:=(([(0,(p171.1.getD p180.2.toNat (0,false)).1,0)]:List (Int×Int×Int)):List (Int×Int×Int))) (e:=eWorkDeed) rfl rfl f rfl S (run_buildS (vs:=[(0,.agg #[iv 0,iv ((p171.1.getD p180.2.toNat (0,false)).1),iv 0])]) rfl ⟨⟨rfl,(f.ev rfl)⟩,trivial⟩ (bs47_1_3 )) rfl eWorkDeed_len (Nat.le_of_ble_eq_true rfl) ?_;clear f S;intro a g197 u f S
   obtain ⟨hk200,hM189⟩:=chk_ex hM189
   replace hk200:=apB_t hk200
   refine op_appendL (lx:=p180.1) (ly:=([(0,(p171.1.getD p180.2.toNat (0,false)).1,0)]:List (Int×Int×Int))) rfl rfl f rfl S rfl (f.ev rfl) (f.ev rfl) (i:=1) rfl rfl Tryz.underlying47 inf56 rfl (by decide) (S.rc 0 rfl).rd rfl eWorkDeed_one hk200 (by decide) ?_;clear f S;intro a B198 d199 u f S
   revert a;refine ag rfl rfl fun a f=>wn ?_
   obtain rfl:=Option.some.inj hM189
   exact ⟨p180.1++([(0,(p171.1.getD p180.2.toNat (0,false)).1,0)]:List (Int×Int×Int)),B198,d199,rfl,f.keep _ ⟨rfl,rfl,rfl,rfl,trivial⟩,S.sel [1,2] rfl rfl⟩
  rintro a u ⟨p185,B187,d188,rfl,f,S⟩
  revert a;refine rl (mv rfl rfl (ov rfl (fun a f=>run_add (z:=w64 (p180.2+1)) (f.ev rfl) rfl rfl rfl) (ag rfl rfl fun a f=>wn ?_)))
  exact ⟨f4,Nat.lt_succ_self _,(p185,w64 (p180.2+1)),B187,d188,hM179,f.keep _ ⟨rfl,rfl,rfl,rfl,trivial⟩,S.sel [0,1] rfl rfl⟩
 rintro a u ⟨p175,B177,d178,rfl,f,S⟩
 revert a;refine sr (mv rfl rfl (ag rfl rfl fun a f=>wn ?_))
 refine wp_ret ?_
 refine ret1_gw (.inl rfl) f rfl (res_tmp (f.ev rfl)) ?_
 obtain rfl:=Option.some.inj hM
 exact ⟨B177,p175.length,d178,rfl,rfl,S.sel [0] rfl rfl⟩
theorem c_impl_Net_hasBus {x0:Int} {x1:List (Int×Int×Int)} {x2:Int} {A1:Option Addr} {n1 c1:Nat} {w:World} {r:Bool} (h1:Rt w 3 eLine A1 n1 c1 x1) (hM : m_impl_Net_hasBus x0 x1 x2=some r) :
  Calls Tryz.prog 136 #[.agg #[iv x0,.slice A1 n1 c1],iv x2] w (fun e w'=>e=.returned (.bool r)∧St w w' []):=by
 obtain rfl:=h1.len
 unfold m_impl_Net_hasBus at hM
 refine calls_gx Tryz.func136 Tryz.ntmps136 rfl rfl ?_
 intro a f
 have S:=St.nil w
 refine wsg ?_
 refine op_new (cs:=#[iv x0,.slice A1 x1.length c1]) rfl rfl f rfl S (run_box rfl (f.ev rfl) rfl) ?_;clear f S;intro a g101 u f S
 revert a;refine ov rfl (fun a f=>run_assign rfl rfl) fun a f=>wn ?_
 revert a;refine sr (mv rfl rfl (ov rfl (fun a f=>run_geq (f.ev rfl) rfl rfl) (mv rfl rfl fun a f=>?_)))
 revert a;refine gt rfl rfl rfl rfl (fun a f hg=>run_move rfl (f.ev rfl)) (gt rfl rfl rfl rfl (fun a f hg=>run_fieldAddr rfl fl37_0 (f.ev rfl) rfl) (gt rfl rfl rfl rfl (fun a f hg=>run_load1 rfl one3 ((f.ev rfl).trans (gv_t hg)) (S.cell 0 rfl rfl)) (gt rfl rfl rfl rfl (fun a f hg=>run_lss ((f.ev rfl).trans (gv_t hg)) ((f.ev rfl).trans (gv_t hg)) rfl) fun a f=>?_)))
 revert a;refine ov rfl (fun a f=>run_pick_and rfl (f.ev rfl) (fun hp=>((f.ev rfl).trans (gv_t hp))) rfl) (ag rfl rfl fun a f=>wn ?_)
 refine wp_ret ?_
 refine ret1_gw (.inl rfl) f rfl (res_tmp (f.ev rfl)) ?_
 obtain rfl:=Option.some.inj hM
 exact ⟨rfl,S.sel [] rfl rfl⟩
theorem c_impl_NetValid {x0:Int} {x1:List (Int×Int×Int)} {A1:Option Addr} {n1 c1:Nat} {w:World} {r:Bool} (h1:Rt w 3 eLine A1 n1 c1 x1) (hM : m_impl_NetValid x0 x1=some r) :
  Calls Tryz.prog 109 #[.agg #[iv x0,.slice A1 n1 c1]] w (fun e w'=>e=.returned (.bool r)∧St w w' []):=by
 obtain rfl:=h1.len
 unfold m_impl_NetValid at hM
 refine calls_gx Tryz.func109 Tryz.ntmps109 rfl rfl ?_
 intro a f
 have S:=St.nil w
 refine wsg ?_
 refine op_new (cs:=#[iv x0,.slice A1 x1.length c1]) rfl rfl f rfl S (run_box rfl (f.ev rfl) rfl) ?_;clear f S;intro a g101 u f S
 revert a;refine ov rfl (fun a f=>run_assign rfl rfl) fun a f=>wn ?_
 refine ws ?_
 revert a;refine sr (ov rfl (fun a f=>run_fieldAddr rfl fl37_0 (f.ev rfl) rfl) (ov rfl (fun a f=>run_load1 rfl one3 (f.ev rfl) (S.cell 0 rfl rfl)) (ov rfl (fun a f=>run_lss (f.ev rfl) rfl rfl) (mv rfl rfl fun a f=>?_))))
 revert a;refine gf rfl rfl rfl rfl (fun a f hg=>run_fieldAddr rfl fl37_0 (f.ev rfl) rfl) (gf rfl rfl rfl rfl (fun a f hg=>run_load1 rfl one3 ((f.ev rfl).trans (gv_t hg)) (S.cell 0 rfl rfl)) (gf rfl rfl rfl rfl (fun a f hg=>run_gtr ((f.ev rfl).trans (gv_t hg)) rfl rfl) fun a f=>?_))
 revert a;refine ov rfl (fun a f=>run_pick_or rfl (f.ev rfl) rfl (fun hp=>((f.ev rfl).trans (gv_t (not_t hp))))) (mv rfl rfl fun a f=>?_)
 revert a;refine gf rfl rfl rfl rfl (fun a f hg=>run_fieldAddr rfl fl37_1 (f.ev rfl) rfl) (gf rfl rfl rfl rfl (fun a f hg=>run_load1 rfl one35 ((f.ev rfl).trans (gv_t hg)) (S.cell 0 rfl rfl)) (gf rfl rfl rfl rfl (fun a f hg=>run_lenL rfl rfl Tryz.underlying35 ((f.ev rfl).trans (gv_t hg))) (gf rfl rfl rfl rfl (fun a f hg=>run_gtr ((f.ev rfl).trans (gv_t hg)) rfl rfl) (ov rfl (fun a f=>run_pick_or rfl (f.ev rfl) rfl (fun hp=>((f.ev rfl).trans (gv_t (not_t hp))))) fun a f=>wn ?_))))
 cases hc102:(((ltB x0 1)||(ltB 8 x0))||(ltB 10 (x1.length:Int)))
 ·replace hM:=bif_f hc102 hM
  refine cond_f f rfl hc102 ?_
  refine wp_skip ?_
  refine ws ?_
  revert a;refine sr (ov rfl (fun a f=>run_fieldAddr rfl fl37_1 (f.ev rfl) rfl) (ov rfl (fun a f=>run_load1 rfl one35 (f.ev rfl) (S.cell 0 rfl rfl)) (ov rfl (fun a f=>run_lenL rfl rfl Tryz.underlying35 (f.ev rfl)) (ov rfl (fun a f=>run_move rfl rfl) fun a f=>wn ?_))))
  obtain ⟨o104,hM105,hM⟩:=bind_ex hM
  refine wp_cut (fun a u=>∃ (p103:Unit),(Sum.inl p103)=o104∧Fr a 56 [(2,.bool false)]∧St w u []) ?_ ?_
  ·have _:=trivial
   refine wp_block ?_
   refine loop_gw (fun m a u=>∃ (p106:Int),m_impl_NetValid_l1 x0 x1 m p106=some _∧Fr a 56 [(1,.pointer (some ⟨g101,0,none⟩)),(2,.bool false),(20,.slice A1 x1.length c1),(21,iv (x1.length:Int)),(22,iv p106)]∧St w u [.box g101 37 #[iv x0,.slice A1 x1.length c1]]) FUEL ⟨0,hM105,f.keep _ ⟨rfl,rfl,rfl,rfl,rfl,trivial⟩,S.sel [0] rfl rfl⟩ ?_
   clear f S hM105;rintro m a u ⟨p106,hM105,f,S⟩
   rcases m with _ | f1
   ·exact none_some hM105
   rw [m_impl_NetValid_l1.eq_2] at hM105
   revert a;refine sr (ov rfl (fun a f=>run_lss (f.ev rfl) (f.ev rfl) rfl) fun a f=>wn ?_)
   refine ws ?_
   cases hc107:(ltB p106 (x1.length:Int))
   ·replace hM105:=bif_f hc107 hM105
    refine cond_f f rfl hc107 ?_
    refine wp_exit ?_
    repeat with_reducible first|apply then_exit|apply in_hit|refine in_miss rfl ?_
    obtain rfl:=Option.some.inj hM105
    exact ⟨(),rfl,f.keep _ ⟨rfl,trivial⟩,S.sel [] rfl rfl⟩
   replace hM105:=bif_t hc107 hM105
   refine cond_t f rfl hc107 ?_
   refine wp_skip ?_
   refine ws ?_
   refine wp_block ?_
   refine wsg ?_
   obtain ⟨hk108,hM105⟩:=chk_ex hM105
   replace hk108:=ixB_t hk108
   revert a;refine ov rfl (fun a f=>run_ix rfl Tryz.underlying35 sz130 (f.ev rfl) (S.rc0 h1.rc) (f.ev rfl) hk108) (ov rfl (fun a f=>run_loadN (cs:=#[iv ((x1.getD p106.toNat (0,0,0)).1),iv ((x1.getD p106.toNat (0,0,0)).2.1),iv ((x1.getD p106.toNat (0,0,0)).2.2)]) rfl ag130 (f.ev rfl) rfl (rd_elN (l:=x1) (S.rc0 h1.rc).rd rfl eLine_len (0,0,0) (ix_ltn hk108 rfl) rfl)) fun a f=>?_)
   refine op_new (cs:=#[iv 0,iv 0,iv 0]) rfl rfl f rfl S (run_allocZ rfl zr130) ?_;clear f S;intro a g109 u f S
   refine op_do rfl rfl (run_store (cs':=#[iv ((x1.getD p106.toNat (0,0,0)).1),iv ((x1.getD p106.toNat (0,0,0)).2.1),iv ((x1.getD p106.toNat (0,0,0)).2.2)]) rfl sz130 (f.ev rfl) (f.ev rfl) rfl rfl rfl (S.free 0 rfl) rfl rfl) ?_;replace S:=S.put 0 rfl (#[iv ((x1.getD p106.toNat (0,0,0)).1),iv ((x1.getD p106.toNat (0,0,0)).2.1),iv ((x1.getD p106.toNat (0,0,0)).2.2)])
   generalize World.setRow _ _ _=u at S ⊢
   refine wn ?_
   revert a;refine sr (ov rfl (fun a f=>run_loadN rfl ag37 (f.ev rfl) rfl ((S.free 1 rfl).cells 0 #[iv x0,.slice A1 x1.length c1] rfl)) (ov rfl (fun a f=>run_fieldAddr rfl fl130_0 (f.ev rfl) rfl) (ov rfl (fun a f=>run_load1 rfl one3 (f.ev rfl) (S.cell 0 rfl rfl)) fun a f=>?_)))
   obtain ⟨p110,h110,hM105⟩:=bind_ex hM105
   refine op_call rfl rfl f rfl (run_call (vs:=[_,_]) rfl rfl co136 ⟨(f.ev rfl),(f.ev rfl),trivial⟩) (c_impl_Net_hasBus ⟨(S.rc0 h1.rc),rfl⟩ h110) ?_
   rintro e u ⟨rfl,T⟩
   refine ⟨_,rfl,?_⟩
   clear f;intro a f
   replace S:=S.call0 T;clear T
   revert a;refine ov rfl (fun a f=>run_not rfl (f.ev rfl)) (mv rfl rfl fun a f=>?_)
   revert a;refine gf rfl rfl rfl rfl (fun a f hg=>run_loadN rfl ag37 (f.ev rfl) rfl ((S.free 1 rfl).cells 0 #[iv x0,.slice A1 x1.length c1] rfl)) (gf rfl rfl rfl rfl (fun a f hg=>run_fieldAddr rfl fl130_1 (f.ev rfl) rfl) (gf rfl rfl rfl rfl (fun a f hg=>run_load1 rfl one3 ((f.ev rfl).trans (gv_t hg)) (S.cell 0 rfl rfl)) fun a f=>?_))
   obtain ⟨p111,h111,hM105⟩:=bind_ex hM105
   refine op_gcall (v:=.bool p111) rfl rfl f rfl S (yf (gw_yield f rfl rfl rfl)) (fun hg=>(run_call (vs:=[.agg #[iv x0,.slice A1 x1.length c1],iv ((x1.getD p106.toNat (0,0,0)).2.1)]) rfl rfl co136 ⟨((f.ev rfl).trans (gv_t hg)),((f.ev rfl).trans (gv_t hg)),trivial⟩)) (fun hg=>c_impl_Net_hasBus (x0:=x0) (x1:=x1) (x2:=(x1.getD p106.toNat (0,0,0)).2.1) ⟨(S.rc0 h1.rc),rfl⟩ (gb_t h111 hg)) ?_;clear f S;intro a u f S
   revert a;refine gf rfl rfl rfl rfl (fun a f hg=>run_not rfl ((f.ev rfl).trans (gv_t hg))) fun a f=>?_
   revert a;refine ov rfl (fun a f=>run_pick_or rfl (f.ev rfl) rfl (fun hp=>((f.ev rfl).trans (gv_t (not_t hp))))) (mv rfl rfl fun a f=>?_)
   revert a;refine gf rfl rfl rfl rfl (fun a f hg=>run_fieldAddr rfl fl130_0 (f.ev rfl) rfl) (gf rfl rfl rfl rfl (fun a f hg=>run_load1 rfl one3 ((f.ev rfl).trans (gv_t hg)) (S.cell 0 rfl rfl)) (gf rfl rfl rfl rfl (fun a f hg=>run_fieldAddr rfl fl130_1 (f.ev rfl) rfl) (gf rfl rfl rfl rfl (fun a f hg=>run_load1 rfl one3 ((f.ev rfl).trans (gv_t hg)) (S.cell 0 rfl rfl)) (gf rfl rfl rfl rfl (fun a f hg=>run_eql ((f.ev rfl).trans (gv_t hg)) ((f.ev rfl).trans (gv_t hg)) rfl) fun a f=>?_))))
   revert a;refine ov rfl (fun a f=>run_pick_or rfl (f.ev rfl) rfl (fun hp=>((f.ev rfl).trans (gv_t (not_t hp))))) (mv rfl rfl fun a f=>?_)
   revert a;refine gf rfl rfl rfl rfl (fun a f hg=>run_fieldAddr rfl fl130_2 (f.ev rfl) rfl) (gf rfl rfl rfl rfl (fun a f hg=>run_load1 rfl one3 ((f.ev rfl).trans (gv_t hg)) (S.cell 0 rfl rfl)) (gf rfl rfl rfl rfl (fun a f hg=>run_lss ((f.ev rfl).trans (gv_t hg)) rfl rfl) fun a f=>?_))
   revert a;refine ov rfl (fun a f=>run_pick_or rfl (f.ev rfl) rfl (fun hp=>((f.ev rfl).trans (gv_t (not_t hp))))) (mv rfl rfl fun a f=>?_)
   revert a;refine gf rfl rfl rfl rfl (fun a f hg=>run_fieldAddr rfl fl130_2 (f.ev rfl) rfl) (gf rfl rfl rfl rfl (fun a f hg=>run_load1 rfl one3 ((f.ev rfl).trans (gv_t hg)) (S.cell 0 rfl rfl)) (gf rfl rfl rfl rfl (fun a f hg=>run_gtr ((f.ev rfl).trans (gv_t hg)) rfl rfl) (ov rfl (fun a f=>run_pick_or rfl (f.ev rfl) rfl (fun hp=>((f.ev rfl).trans (gv_t (not_t hp))))) fun a f=>wn ?_)))
   cases hc112:(((((!p110)||(!p111))||(((x1.getD p106.toNat (0,0,0)).1)==((x1.getD p106.toNat (0,0,0)).2.1)))||(ltB ((x1.getD p106.toNat (0,0,0)).2.2) 1))||(ltB 999 ((x1.getD p106.toNat (0,0,0)).2.2)))
   ·replace hM105:=bif_f hc112 hM105
    refine cond_f f rfl hc112 ?_
    refine wp_skip ?_
    revert a;refine rl (ov rfl (fun a f=>run_add (z:=w64 (p106+1)) (f.ev rfl) rfl rfl rfl) (mv rfl rfl fun a f=>wn ?_))
    exact ⟨f1,Nat.lt_succ_self _,w64 (p106+1),hM105,f.keep _ ⟨rfl,rfl,rfl,rfl,rfl,trivial⟩,S.sel [1] rfl rfl⟩
   replace hM105:=bif_t hc112 hM105
   refine cond_t f rfl hc112 ?_
   revert a;refine sr (ov rfl (fun a f=>run_assign rfl rfl) fun a f=>wn ?_)
   refine wp_ret ?_
   repeat with_reducible first|apply tr|apply ir|apply nr
   refine ret1_gw (.inl rfl) f rfl (res_tmp (f.ev rfl)) ?_
   obtain rfl:=Option.some.inj hM105
   obtain rfl:=Option.some.inj hM
   exact ⟨rfl,S.sel [] rfl rfl⟩
  rintro a u ⟨p103,rfl,f,S⟩
  replace hM:=elim_l hM
  revert a;refine sr (ov rfl (fun a f=>run_assign rfl rfl) fun a f=>wn ?_)
  refine wp_ret ?_
  refine ret1_gw (.inl rfl) f rfl (res_tmp (f.ev rfl)) ?_
  obtain rfl:=Option.some.inj hM
  exact ⟨rfl,S.sel [] rfl rfl⟩
 replace hM:=bif_t hc102 hM
 refine cond_t f rfl hc102 ?_
 revert a;refine sr (ov rfl (fun a f=>run_assign rfl rfl) fun a f=>wn ?_)
 refine wp_ret ?_
 repeat with_reducible first|apply tr|apply ir|apply nr
 refine ret1_gw (.inl rfl) f rfl (res_tmp (f.ev rfl)) ?_
 obtain rfl:=Option.some.inj hM
 exact ⟨rfl,S.sel [] rfl rfl⟩
theorem c_impl_powerValid {x0:Int} {w:World} {r:Bool}  (hM : m_impl_powerValid x0=some r) :
  Calls Tryz.prog 110 #[iv x0] w (fun e w'=>e=.returned (.bool r)∧St w w' []):=by
 unfold m_impl_powerValid at hM
 refine calls_gx Tryz.func110 Tryz.ntmps110 rfl rfl ?_
 intro a f
 have S:=St.nil w
 revert a;refine sr (ov rfl (fun a f=>run_assign rfl rfl) fun a f=>wn ?_)
 revert a;refine sr (mv rfl rfl (ov rfl (fun a f=>run_geq (f.ev rfl) rfl rfl) (mv rfl rfl fun a f=>?_)))
 revert a;refine gt rfl rfl rfl rfl (fun a f hg=>run_move rfl (f.ev rfl)) (gt rfl rfl rfl rfl (fun a f hg=>run_leq ((f.ev rfl).trans (gv_t hg)) rfl rfl) fun a f=>?_)
 revert a;refine ov rfl (fun a f=>run_pick_and rfl (f.ev rfl) (fun hp=>((f.ev rfl).trans (gv_t hp))) rfl) (ag rfl rfl fun a f=>wn ?_)
 refine wp_ret ?_
 refine ret1_gw (.inl rfl) f rfl (res_tmp (f.ev rfl)) ?_
 obtain rfl:=Option.some.inj hM
 exact ⟨rfl,S.sel [] rfl rfl⟩
theorem c_impl_BusesValid {x0:Int} {x1:List (Int×Int×Int)} {x2:List (Int×Int)} {A1:Option Addr} {n1 c1:Nat} {A2:Option Addr} {n2 c2:Nat} {w:World} {r:Bool} (h1:Rt w 3 eLine A1 n1 c1 x1) (h2:Rt w 2 eBus A2 n2 c2 x2) (hM : m_impl_BusesValid x0 x1 x2=some r) :
  Calls Tryz.prog 74 #[.agg #[iv x0,.slice A1 n1 c1],.slice A2 n2 c2] w (fun e w'=>e=.returned (.bool r)∧St w w' []):=by
 obtain rfl:=h1.len
 obtain rfl:=h2.len
 unfold m_impl_BusesValid at hM
 refine calls_gx Tryz.func74 Tryz.ntmps74 rfl rfl ?_
 intro a f
 have S:=St.nil w
 refine wsg ?_
 refine op_new (cs:=#[iv x0,.slice A1 x1.length c1]) rfl rfl f rfl S (run_box rfl (f.ev rfl) rfl) ?_;clear f S;intro a g101 u f S
 revert a;refine ov rfl (fun a f=>run_assign rfl rfl) fun a f=>wn ?_
 refine ws ?_
 revert a;refine sr (ov rfl (fun a f=>run_loadN rfl ag37 (f.ev rfl) rfl ((S.free 0 rfl).cells 0 #[iv x0,.slice A1 x1.length c1] rfl)) fun a f=>?_)
 obtain ⟨p102,h102,hM⟩:=bind_ex hM
 refine op_call rfl rfl f rfl (run_call (vs:=[_]) rfl rfl co109 ⟨(f.ev rfl),trivial⟩) (c_impl_NetValid ⟨(S.rc0 h1.rc),rfl⟩ h102) ?_
 rintro e u ⟨rfl,T⟩
 refine ⟨_,rfl,?_⟩
 clear f;intro a f
 replace S:=S.call0 T;clear T
 revert a;refine ov rfl (fun a f=>run_not rfl (f.ev rfl)) (mv rfl rfl fun a f=>?_)
 revert a;refine gf rfl rfl rfl rfl (fun a f hg=>run_move rfl (f.ev rfl)) (gf rfl rfl rfl rfl (fun a f hg=>run_lenL rfl rfl Tryz.underlying38 ((f.ev rfl).trans (gv_t hg))) (gf rfl rfl rfl rfl (fun a f hg=>run_fieldAddr rfl fl37_0 (f.ev rfl) rfl) (gf rfl rfl rfl rfl (fun a f hg=>run_load1 rfl one3 ((f.ev rfl).trans (gv_t hg)) (S.cell 0 rfl rfl)) (gf rfl rfl rfl rfl (fun a f hg=>run_neq ((f.ev rfl).trans (gv_t hg)) ((f.ev rfl).trans (gv_t hg)) rfl) (ov rfl (fun a f=>run_pick_or rfl (f.ev rfl) rfl (fun hp=>((f.ev rfl).trans (gv_t (not_t hp))))) fun a f=>wn ?_)))))
 cases hc103:((!p102)||((x2.length:Int) != x0))
 ·replace hM:=bif_f hc103 hM
  refine cond_f f rfl hc103 ?_
  refine wp_skip ?_
  refine ws ?_
  revert a;refine sr (mv rfl rfl (ov rfl (fun a f=>run_lenL rfl rfl Tryz.underlying38 (f.ev rfl)) (ov rfl (fun a f=>run_move rfl rfl) fun a f=>wn ?_)))
  obtain ⟨o105,hM106,hM⟩:=bind_ex hM
  refine wp_cut (fun a u=>∃ (p104:Unit),(Sum.inl p104)=o105∧Fr a 34 [(4,.bool false)]∧St w u []) ?_ ?_
  ·have _:=trivial
   refine wp_block ?_
   refine loop_gw (fun m a u=>∃ (p107:Int),m_impl_BusesValid_l1 x2 m p107=some _∧Fr a 34 [(4,.bool false),(17,.slice A2 x2.length c2),(18,iv (x2.length:Int)),(19,iv p107)]∧St w u []) FUEL ⟨0,hM106,f.keep _ ⟨rfl,rfl,rfl,rfl,trivial⟩,S.sel [] rfl rfl⟩ ?_
   clear f S hM106;rintro m a u ⟨p107,hM106,f,S⟩
   rcases m with _ | f1
   ·exact none_some hM106
   rw [m_impl_BusesValid_l1.eq_2] at hM106
   revert a;refine sr (ov rfl (fun a f=>run_lss (f.ev rfl) (f.ev rfl) rfl) fun a f=>wn ?_)
   refine ws ?_
   cases hc108:(ltB p107 (x2.length:Int))
   ·replace hM106:=bif_f hc108 hM106
    refine cond_f f rfl hc108 ?_
    refine wp_exit ?_
    repeat with_reducible first|apply then_exit|apply in_hit|refine in_miss rfl ?_
    obtain rfl:=Option.some.inj hM106
    exact ⟨(),rfl,f.keep _ ⟨rfl,trivial⟩,S.sel [] rfl rfl⟩
   replace hM106:=bif_t hc108 hM106
   refine cond_t f rfl hc108 ?_
   refine wp_skip ?_
   refine ws ?_
   refine wp_block ?_
   refine wsg ?_
   obtain ⟨hk109,hM106⟩:=chk_ex hM106
   replace hk109:=ixB_t hk109
   revert a;refine ov rfl (fun a f=>run_ix rfl Tryz.underlying38 sz110 (f.ev rfl) (S.rc0 h2.rc) (f.ev rfl) hk109) (ov rfl (fun a f=>run_loadN (cs:=#[iv ((x2.getD p107.toNat (0,0)).1),iv ((x2.getD p107.toNat (0,0)).2)]) rfl ag110 (f.ev rfl) rfl (rd_elN (l:=x2) (S.rc0 h2.rc).rd rfl eBus_len (0,0) (ix_ltn hk109 rfl) rfl)) fun a f=>?_)
   refine op_new (cs:=#[iv 0,iv 0]) rfl rfl f rfl S (run_allocZ rfl zr110) ?_;clear f S;intro a g110 u f S
   refine op_do rfl rfl (run_store (cs':=#[iv ((x2.getD p107.toNat (0,0)).1),iv ((x2.getD p107.toNat (0,0)).2)]) rfl sz110 (f.ev rfl) (f.ev rfl) rfl rfl rfl (S.free 0 rfl) rfl rfl) ?_;replace S:=S.put 0 rfl (#[iv ((x2.getD p107.toNat (0,0)).1),iv ((x2.getD p107.toNat (0,0)).2)])
   generalize World.setRow _ _ _=u at S ⊢
   refine wn ?_
   revert a;refine sr (ov rfl (fun a f=>run_fieldAddr rfl fl110_0 (f.ev rfl) rfl) (ov rfl (fun a f=>run_load1 rfl one3 (f.ev rfl) (S.cell 0 rfl rfl)) fun a f=>?_))
   obtain ⟨p111,h111,hM106⟩:=bind_ex hM106
   refine op_call rfl rfl f rfl (run_call (vs:=[_]) rfl rfl co110 ⟨(f.ev rfl),trivial⟩) (c_impl_powerValid  h111) ?_
   rintro e u ⟨rfl,T⟩
   refine ⟨_,rfl,?_⟩
   clear f;intro a f
   replace S:=S.call0 T;clear T
   revert a;refine ov rfl (fun a f=>run_not rfl (f.ev rfl)) (mv rfl rfl fun a f=>?_)
   revert a;refine gf rfl rfl rfl rfl (fun a f hg=>run_fieldAddr rfl fl110_1 (f.ev rfl) rfl) (gf rfl rfl rfl rfl (fun a f hg=>run_load1 rfl one3 ((f.ev rfl).trans (gv_t hg)) (S.cell 0 rfl rfl)) fun a f=>?_)
   obtain ⟨p112,h112,hM106⟩:=bind_ex hM106
   refine op_gcall (v:=.bool p112) rfl rfl f rfl S (yf (gw_yield f rfl rfl rfl)) (fun hg=>(run_call (vs:=[iv ((x2.getD p107.toNat (0,0)).2)]) rfl rfl co110 ⟨((f.ev rfl).trans (gv_t hg)),trivial⟩)) (fun hg=>c_impl_powerValid (x0:=(x2.getD p107.toNat (0,0)).2)  (gb_t h112 hg)) ?_;clear f S;intro a u f S
   revert a;refine gf rfl rfl rfl rfl (fun a f hg=>run_not rfl ((f.ev rfl).trans (gv_t hg))) (ov rfl (fun a f=>run_pick_or rfl (f.ev rfl) rfl (fun hp=>((f.ev rfl).trans (gv_t (not_t hp))))) fun a f=>wn ?_)
   cases hc113:((!p111)||(!p112))
   ·replace hM106:=bif_f hc113 hM106
    refine cond_f f rfl hc113 ?_
    refine wp_skip ?_
    revert a;refine rl (ov rfl (fun a f=>run_add (z:=w64 (p107+1)) (f.ev rfl) rfl rfl rfl) (mv rfl rfl fun a f=>wn ?_))
    exact ⟨f1,Nat.lt_succ_self _,w64 (p107+1),hM106,f.keep _ ⟨rfl,rfl,rfl,rfl,trivial⟩,S.sel [] rfl rfl⟩
   replace hM106:=bif_t hc113 hM106
   refine cond_t f rfl hc113 ?_
   revert a;refine sr (ov rfl (fun a f=>run_assign rfl rfl) fun a f=>wn ?_)
   refine wp_ret ?_
   repeat with_reducible first|apply tr|apply ir|apply nr
   refine ret1_gw (.inl rfl) f rfl (res_tmp (f.ev rfl)) ?_
   obtain rfl:=Option.some.inj hM106
   obtain rfl:=Option.some.inj hM
   exact ⟨rfl,S.sel [] rfl rfl⟩
  rintro a u ⟨p104,rfl,f,S⟩
  replace hM:=elim_l hM
  revert a;refine sr (ov rfl (fun a f=>run_assign rfl rfl) fun a f=>wn ?_)
  refine wp_ret ?_
  refine ret1_gw (.inl rfl) f rfl (res_tmp (f.ev rfl)) ?_
  obtain rfl:=Option.some.inj hM
  exact ⟨rfl,S.sel [] rfl rfl⟩
 replace hM:=bif_t hc103 hM
 refine cond_t f rfl hc103 ?_
 revert a;refine sr (ov rfl (fun a f=>run_assign rfl rfl) fun a f=>wn ?_)
 refine wp_ret ?_
 repeat with_reducible first|apply tr|apply ir|apply nr
 refine ret1_gw (.inl rfl) f rfl (res_tmp (f.ev rfl)) ?_
 obtain rfl:=Option.some.inj hM
 exact ⟨rfl,S.sel [] rfl rfl⟩
theorem c_slices_Index_impl_Permit_impl_Permit {x0:List (Int×Int)} {x1:Int} {x2:Int} {A0:Option Addr} {n0 c0:Nat} {w:World} {r:Int} (h0:Rt w 2 ePermit A0 n0 c0 x0) (hM : m_slices_Index_impl_Permit_impl_Permit x0 x1 x2=some r) :
  Calls Tryz.prog 133 #[.slice A0 n0 c0,.agg #[iv x1,iv x2]] w (fun e w'=>e=.returned (iv r)∧St w w' []):=by
 obtain rfl:=h0.len
 unfold m_slices_Index_impl_Permit_impl_Permit at hM
 refine calls_gx Tryz.func133 Tryz.ntmps133 rfl rfl ?_
 intro a f
 have S:=St.nil w
 refine wsg ?_
 refine op_new (cs:=#[iv x1,iv x2]) rfl rfl f rfl S (run_box rfl (f.ev rfl) rfl) ?_;clear f S;intro a g101 u f S
 revert a;refine ov rfl (fun a f=>run_assign rfl rfl) fun a f=>wn ?_
 refine ws ?_
 revert a;refine sr (mv rfl rfl (ov rfl (fun a f=>run_lenL rfl rfl Tryz.underlying39 (f.ev rfl)) (ov rfl (fun a f=>run_move rfl rfl) fun a f=>wn ?_)))
 obtain ⟨o103,hM104,hM⟩:=bind_ex hM
 refine wp_cut (fun a u=>∃ (p102:Unit),(Sum.inl p102)=o103∧Fr a 19 [(4,iv 0)]∧St w u []) ?_ ?_
 ·have _:=trivial
  refine wp_block ?_
  refine loop_gw (fun m a u=>∃ (p105:Int),m_slices_Index_impl_Permit_impl_Permit_l1 x0 x1 x2 m p105=some _∧Fr a 19 [(0,.slice A0 x0.length c0),(3,.pointer (some ⟨g101,0,none⟩)),(4,iv 0),(7,iv (x0.length:Int)),(8,iv p105)]∧St w u [.box g101 78 #[iv x1,iv x2]]) FUEL ⟨0,hM104,f.keep _ ⟨rfl,rfl,rfl,rfl,rfl,trivial⟩,S.sel [0] rfl rfl⟩ ?_
  clear f S hM104;rintro m a u ⟨p105,hM104,f,S⟩
  rcases m with _ | f1
  ·exact none_some hM104
  rw [m_slices_Index_impl_Permit_impl_Permit_l1.eq_2] at hM104
  revert a;refine sr (ov rfl (fun a f=>run_lss (f.ev rfl) (f.ev rfl) rfl) fun a f=>wn ?_)
  refine ws ?_
  cases hc106:(ltB p105 (x0.length:Int))
  ·replace hM104:=bif_f hc106 hM104
   refine cond_f f rfl hc106 ?_
   refine wp_exit ?_
   repeat with_reducible first|apply then_exit|apply in_hit|refine in_miss rfl ?_
   obtain rfl:=Option.some.inj hM104
   exact ⟨(),rfl,f.keep _ ⟨rfl,trivial⟩,S.sel [] rfl rfl⟩
  replace hM104:=bif_t hc106 hM104
  refine cond_t f rfl hc106 ?_
  refine wp_skip ?_
  refine ws ?_
  refine wp_block ?_
  revert a;refine sr (mv rfl rfl (ag rfl rfl fun a f=>wn ?_))
  refine ws ?_
  obtain ⟨hk107,hM104⟩:=chk_ex hM104
  replace hk107:=ixB_t hk107
  refine region_gw (D:=[11,12,13,14,15,16]) (Lr:=[.box g101 78 #[iv x1,iv x2]]) (deps:=(fun | 0=>[11] | 1=>[12] | 2=>[13] | 3=>[14] | 4=>[15] | 5=>[16] | _=>[])) (rd:=(fun _=>[])) (zr:=(fun _=>[]))
   (φ:=fun i vs=>match i,vs with | 0,[v11]=>v11=.agg #[iv x1,iv x2] | 1,[v12]=>v12=.slice A0 x0.length c0 | 2,[v13]=>v13=iv p105 | 3,[v14]=>v14=.pointer (some ⟨adB A0,adO A0+p105.toNat*2,none⟩) | 4,[v15]=>v15=.agg #[iv ((x0.getD p105.toNat (0,0)).1),iv ((x0.getD p105.toNat (0,0)).2)] | 5,[v16]=>v16=.bool ((x1==((x0.getD p105.toNat (0,0)).1))&&(x2==((x0.getD p105.toNat (0,0)).2))) | _,_=>True)
   (C:=fun _ _=>[])
   (κ:=(fun _=>none)) (Z:=(fun _=>[])) mixed f (by kernel_rfl) S ?_ ?_
  ·refine ⟨?_,?_,?_,?_,?_,?_,trivial⟩
   ·intro a u X hB hu p hr hz hl S
    exact .inl ⟨rfl,_,u,(run_loadN rfl ag78 (f.evB hB rfl rfl) rfl ((gr_box S hl 0 rfl).cells 0 #[iv x1,iv x2] rfl)),rfl,S⟩
   ·intro a u X hB hu p hr hz hl S
    exact .inl ⟨rfl,_,u,(run_move rfl (f.evB hB rfl rfl)),rfl,S⟩
   ·intro a u X hB hu p hr hz hl S
    exact .inl ⟨rfl,_,u,(run_move rfl (f.evB hB rfl rfl)),rfl,S⟩
   ·intro a u X hB hu p hr hz hl S
    exact .inl ⟨rfl,_,u,(run_ix rfl Tryz.underlying39 sz78 (ev_sl (p 1 rfl)) (S.rc0 h0.rc) (ev_sl (p 2 rfl)) hk107),rfl,S⟩
   ·intro a u X hB hu p hr hz hl S
    exact .inl ⟨rfl,_,u,(run_loadN (cs:=#[iv ((x0.getD p105.toNat (0,0)).1),iv ((x0.getD p105.toNat (0,0)).2)]) rfl ag78 (ev_sl (p 3 rfl)) rfl (rd_elN (l:=x0) (S.rc0 h0.rc).rd rfl ePermit_len (0,0) (ix_ltn hk107 rfl) rfl)),rfl,S⟩
   intro a u X hB hu p hr hz hl S
   exact .inl ⟨rfl,_,u,(run_eqlA (ev_sl (p 0 rfl)) (ev_sl (p 4 rfl)) rfl eg78 eq78),rfl,S⟩
  intro a u hB hp S
  obtain ⟨q0,q1,q2,q3,q4,q5,-⟩:=hp
  replace S:St w u [.box g101 78 #[iv x1,iv x2]]:=S
  have f:=f.region hB [(11,_),(12,_),(13,_),(14,_),(15,_),(16,_)] (allSl_mem ⟨q0,q1,q2,q3,q4,q5,trivial⟩) rfl
  clear hB q0 q1 q2 q3 q4 q5
  cases hc108:((x1==((x0.getD p105.toNat (0,0)).1))&&(x2==((x0.getD p105.toNat (0,0)).2)))
  ·replace hM104:=bif_f hc108 hM104
   refine cond_f f rfl hc108 ?_
   refine wp_skip ?_
   revert a;refine rl (ov rfl (fun a f=>run_add (z:=w64 (p105+1)) (f.ev rfl) rfl rfl rfl) (mv rfl rfl fun a f=>wn ?_))
   exact ⟨f1,Nat.lt_succ_self _,w64 (p105+1),hM104,f.keep _ ⟨rfl,rfl,rfl,rfl,rfl,trivial⟩,S.sel [0] rfl rfl⟩
  replace hM104:=bif_t hc108 hM104
  refine cond_t f rfl hc108 ?_
  revert a;refine sr (mv rfl rfl (ag rfl rfl fun a f=>wn ?_))
  refine wp_ret ?_
  repeat with_reducible first|apply tr|apply ir|apply nr
  refine ret1_gw (.inl rfl) f rfl (res_tmp (f.ev rfl)) ?_
  obtain rfl:=Option.some.inj hM104
  obtain rfl:=Option.some.inj hM
  exact ⟨rfl,S.sel [] rfl rfl⟩
 rintro a u ⟨p102,rfl,f,S⟩
 replace hM:=elim_l hM
 revert a;refine sr (ov rfl (fun a f=>run_assign rfl rfl) fun a f=>wn ?_)
 refine wp_ret ?_
 refine ret1_gw (.inl rfl) f rfl (res_tmp (f.ev rfl)) ?_
 obtain rfl:=Option.some.inj hM
 exact ⟨rfl,S.sel [] rfl rfl⟩
theorem c_slices_Contains_impl_Permit_impl_Permit {x0:List (Int×Int)} {x1:Int} {x2:Int} {A0:Option Addr} {n0 c0:Nat} {w:World} {r:Bool} (h0:Rt w 2 ePermit A0 n0 c0 x0) (hM : m_slices_Contains_impl_Permit_impl_Permit x0 x1 x2=some r) :
  Calls Tryz.prog 100 #[.slice A0 n0 c0,.agg #[iv x1,iv x2]] w (fun e w'=>e=.returned (.bool r)∧St w w' []):=by
 obtain rfl:=h0.len
 unfold m_slices_Contains_impl_Permit_impl_Permit at hM
 refine calls_gx Tryz.func100 Tryz.ntmps100 rfl rfl ?_
 intro a f
 have S:=St.nil w
 refine wsg ?_
 refine op_new (cs:=#[iv x1,iv x2]) rfl rfl f rfl S (run_box rfl (f.ev rfl) rfl) ?_;clear f S;intro a g101 u f S
 revert a;refine ov rfl (fun a f=>run_assign rfl rfl) fun a f=>wn ?_
 revert a;refine sr (mv rfl rfl (ov rfl (fun a f=>run_loadN rfl ag78 (f.ev rfl) rfl ((S.free 0 rfl).cells 0 #[iv x1,iv x2] rfl)) fun a f=>?_))
 obtain ⟨p102,h102,hM⟩:=bind_ex hM
 refine op_call rfl rfl f rfl (run_call (vs:=[_,_]) rfl rfl co133 ⟨(f.ev rfl),(f.ev rfl),trivial⟩) (c_slices_Index_impl_Permit_impl_Permit ⟨(S.rc0 h0.rc),rfl⟩ h102) ?_
 rintro e u ⟨rfl,T⟩
 refine ⟨_,rfl,?_⟩
 clear f;intro a f
 replace S:=S.call0 T;clear T
 revert a;refine ov rfl (fun a f=>run_geq (f.ev rfl) rfl rfl) (ag rfl rfl fun a f=>wn ?_)
 refine wp_ret ?_
 refine ret1_gw (.inl rfl) f rfl (res_tmp (f.ev rfl)) ?_
 obtain rfl:=Option.some.inj hM
 exact ⟨rfl,S.sel [] rfl rfl⟩
theorem c_impl_WorkValid {x0:List Bool} {x1:List Bool} {x2:List (Int×Int)} {A0:Option Addr} {n0 c0:Nat} {A1:Option Addr} {n1 c1:Nat} {A2:Option Addr} {n2 c2:Nat} {w:World} {r:Bool} (h0:Rt w 1 eB A0 n0 c0 x0) (h1:Rt w 1 eB A1 n1 c1 x1) (h2:Rt w 2 ePermit A2 n2 c2 x2) (hM : m_impl_WorkValid x0 x1 x2=some r) :
  Calls Tryz.prog 75 #[.agg #[.slice A0 n0 c0,.slice A1 n1 c1,.slice A2 n2 c2]] w (fun e w'=>e=.returned (.bool r)∧St w w' []):=by
 obtain rfl:=h0.len
 obtain rfl:=h1.len
 obtain rfl:=h2.len
 unfold m_impl_WorkValid at hM
 refine calls_gx Tryz.func75 Tryz.ntmps75 rfl rfl ?_
 intro a f
 have S:=St.nil w
 refine wsg ?_
 refine op_new (cs:=#[.slice A0 x0.length c0,.slice A1 x1.length c1,.slice A2 x2.length c2]) rfl rfl f rfl S (run_box rfl (f.ev rfl) rfl) ?_;clear f S;intro a g101 u f S
 revert a;refine ov rfl (fun a f=>run_assign rfl rfl) fun a f=>wn ?_
 refine ws ?_
 revert a;refine sr (ov rfl (fun a f=>run_fieldAddr rfl fl41_0 (f.ev rfl) rfl) (ov rfl (fun a f=>run_load1 rfl one26 (f.ev rfl) (S.cell 0 rfl rfl)) (ov rfl (fun a f=>run_lenL rfl rfl Tryz.underlying26 (f.ev rfl)) (ov rfl (fun a f=>run_lss (f.ev rfl) rfl rfl) (mv rfl rfl fun a f=>?_)))))
 revert a;refine gf rfl rfl rfl rfl (fun a f hg=>run_fieldAddr rfl fl41_0 (f.ev rfl) rfl) (gf rfl rfl rfl rfl (fun a f hg=>run_load1 rfl one26 ((f.ev rfl).trans (gv_t hg)) (S.cell 0 rfl rfl)) (gf rfl rfl rfl rfl (fun a f hg=>run_lenL rfl rfl Tryz.underlying26 ((f.ev rfl).trans (gv_t hg))) (gf rfl rfl rfl rfl (fun a f hg=>run_gtr ((f.ev rfl).trans (gv_t hg)) rfl rfl) fun a f=>?_)))
 revert a;refine ov rfl (fun a f=>run_pick_or rfl (f.ev rfl) rfl (fun hp=>((f.ev rfl).trans (gv_t (not_t hp))))) (mv rfl rfl fun a f=>?_)
 revert a;refine gf rfl rfl rfl rfl (fun a f hg=>run_fieldAddr rfl fl41_1 (f.ev rfl) rfl) (gf rfl rfl rfl rfl (fun a f hg=>run_load1 rfl one26 ((f.ev rfl).trans (gv_t hg)) (S.cell 0 rfl rfl)) (gf rfl rfl rfl rfl (fun a f hg=>run_lenL rfl rfl Tryz.underlying26 ((f.ev rfl).trans (gv_t hg))) (gf rfl rfl rfl rfl (fun a f hg=>run_fieldAddr rfl fl41_0 (f.ev rfl) rfl) (gf rfl rfl rfl rfl (fun a f hg=>run_load1 rfl one26 ((f.ev rfl).trans (gv_t hg)) (S.cell 0 rfl rfl)) (gf rfl rfl rfl rfl (fun a f hg=>run_lenL rfl rfl Tryz.underlying26 ((f.ev rfl).trans (gv_t hg))) (gf rfl rfl rfl rfl (fun a f hg=>run_neq ((f.ev rfl).trans (gv_t hg)) ((f.ev rfl).trans (gv_t hg)) rfl) fun a f=>?_))))))
 revert a;refine ov rfl (fun a f=>run_pick_or rfl (f.ev rfl) rfl (fun hp=>((f.ev rfl).trans (gv_t (not_t hp))))) (mv rfl rfl fun a f=>?_)
 revert a;refine gf rfl rfl rfl rfl (fun a f hg=>run_fieldAddr rfl fl41_2 (f.ev rfl) rfl) (gf rfl rfl rfl rfl (fun a f hg=>run_load1 rfl one39 ((f.ev rfl).trans (gv_t hg)) (S.cell 0 rfl rfl)) (gf rfl rfl rfl rfl (fun a f hg=>run_lenL rfl rfl Tryz.underlying39 ((f.ev rfl).trans (gv_t hg))) (gf rfl rfl rfl rfl (fun a f hg=>run_gtr ((f.ev rfl).trans (gv_t hg)) rfl rfl) (ov rfl (fun a f=>run_pick_or rfl (f.ev rfl) rfl (fun hp=>((f.ev rfl).trans (gv_t (not_t hp))))) fun a f=>wn ?_))))
 cases hc102:((((ltB (x0.length:Int) 1)||(ltB 10 (x0.length:Int)))||((x1.length:Int) != (x0.length:Int)))||(ltB 6 (x2.length:Int)))
 ·replace hM:=bif_f hc102 hM
  refine cond_f f rfl hc102 ?_
  refine wp_skip ?_
  refine ws ?_
  revert a;refine sr (ov rfl (fun a f=>run_fieldAddr rfl fl41_0 (f.ev rfl) rfl) (ov rfl (fun a f=>run_load1 rfl one26 (f.ev rfl) (S.cell 0 rfl rfl)) (ov rfl (fun a f=>run_lenL rfl rfl Tryz.underlying26 (f.ev rfl)) (ov rfl (fun a f=>run_move rfl rfl) fun a f=>wn ?_))))
  obtain ⟨o104,hM105,hM⟩:=bind_ex hM
  refine wp_cut (fun a u=>∃ (p103:Unit),(Sum.inl p103)=o104∧Fr a 97 [(1,.pointer (some ⟨g101,0,none⟩)),(2,.bool false)]∧St w u [.box g101 41 #[.slice A0 x0.length c0,.slice A1 x1.length c1,.slice A2 x2.length c2]]) ?_ ?_
  ·have _:=trivial
   refine wp_block ?_
   refine loop_gw (fun m a u=>∃ (p106:Int),m_impl_WorkValid_l1 x0 x1 m p106=some _∧Fr a 97 [(1,.pointer (some ⟨g101,0,none⟩)),(2,.bool false),(33,iv (x0.length:Int)),(34,iv p106)]∧St w u [.box g101 41 #[.slice A0 x0.length c0,.slice A1 x1.length c1,.slice A2 x2.length c2]]) FUEL ⟨0,hM105,f.keep _ ⟨rfl,rfl,rfl,rfl,trivial⟩,S.sel [0] rfl rfl⟩ ?_
   clear f S hM105;rintro m a u ⟨p106,hM105,f,S⟩
   rcases m with _ | f1
   ·exact none_some hM105
   rw [m_impl_WorkValid_l1.eq_2] at hM105
   revert a;refine sr (ov rfl (fun a f=>run_lss (f.ev rfl) (f.ev rfl) rfl) fun a f=>wn ?_)
   refine ws ?_
   cases hc107:(ltB p106 (x0.length:Int))
   ·replace hM105:=bif_f hc107 hM105
    refine cond_f f rfl hc107 ?_
    refine wp_exit ?_
    repeat with_reducible first|apply then_exit|apply in_hit|refine in_miss rfl ?_
    obtain rfl:=Option.some.inj hM105
    exact ⟨(),rfl,f.keep _ ⟨rfl,rfl,trivial⟩,S.sel [0] rfl rfl⟩
   replace hM105:=bif_t hc107 hM105
   refine cond_t f rfl hc107 ?_
   refine wp_skip ?_
   refine ws ?_
   refine wp_block ?_
   revert a;refine sr (mv rfl rfl (ag rfl rfl fun a f=>wn ?_))
   revert a;refine sr (ov rfl (fun a f=>run_fieldAddr rfl fl41_0 (f.ev rfl) rfl) (ov rfl (fun a f=>run_load1 rfl one26 (f.ev rfl) (S.cell 0 rfl rfl)) (mv rfl rfl fun a f=>?_)))
   obtain ⟨hk108,hM105⟩:=chk_ex hM105
   replace hk108:=ixB_t hk108
   revert a;refine ov rfl (fun a f=>run_ix rfl Tryz.underlying26 sz4 (f.ev rfl) (S.rc0 h0.rc) (f.ev rfl) hk108) (ov rfl (fun a f=>run_load1 rfl one4 (f.ev rfl) (rd_el0 (l:=x0) (S.rc0 h0.rc).rd rfl eB_len false (ix_ltn hk108 rfl) rfl)) (mv rfl rfl fun a f=>?_))
   revert a;refine gt rfl rfl rfl rfl (fun a f hg=>run_fieldAddr rfl fl41_1 (f.ev rfl) rfl) (gt rfl rfl rfl rfl (fun a f hg=>run_load1 rfl one26 ((f.ev rfl).trans (gv_t hg)) (S.cell 0 rfl rfl)) (gt rfl rfl rfl rfl (fun a f hg=>run_move rfl (f.ev rfl)) fun a f=>?_))
   obtain ⟨hk109,hM105⟩:=chk_ex hM105
   replace hk109:=fun hg=>ixB_t (imp_t hk109 hg)
   revert a;refine gt rfl rfl rfl rfl (fun a f hg=>run_ix rfl Tryz.underlying26 sz4 ((f.ev rfl).trans (gv_t hg)) (S.rc0 h1.rc) ((f.ev rfl).trans (gv_t hg)) (hk109 hg)) (gt rfl rfl rfl rfl (fun a f hg=>run_load1 rfl one4 ((f.ev rfl).trans (gv_t hg)) (rd_el0 (l:=x1) (S.rc0 h1.rc).rd rfl eB_len false (ix_ltn (hk109 hg) rfl) rfl)) (ov rfl (fun a f=>run_pick_and rfl (f.ev rfl) (fun hp=>((f.ev rfl).trans (gv_t hp))) rfl) fun a f=>wn ?_))
   cases hc110:((x0.getD p106.toNat false)&&(x1.getD p106.toNat false))
   ·replace hM105:=bif_f hc110 hM105
    refine cond_f f rfl hc110 ?_
    refine wp_skip ?_
    revert a;refine rl (ov rfl (fun a f=>run_add (z:=w64 (p106+1)) (f.ev rfl) rfl rfl rfl) (mv rfl rfl fun a f=>wn ?_))
    exact ⟨f1,Nat.lt_succ_self _,w64 (p106+1),hM105,f.keep _ ⟨rfl,rfl,rfl,rfl,trivial⟩,S.sel [0] rfl rfl⟩
   replace hM105:=bif_t hc110 hM105
   refine cond_t f rfl hc110 ?_
   revert a;refine sr (ov rfl (fun a f=>run_assign rfl rfl) fun a f=>wn ?_)
   refine wp_ret ?_
   repeat with_reducible first|apply tr|apply ir|apply nr
   refine ret1_gw (.inl rfl) f rfl (res_tmp (f.ev rfl)) ?_
   obtain rfl:=Option.some.inj hM105
   obtain rfl:=Option.some.inj hM
   exact ⟨rfl,S.sel [] rfl rfl⟩
  rintro a u ⟨p103,rfl,f,S⟩
  replace hM:=elim_l hM
  refine ws ?_
  revert a;refine sr (ov rfl (fun a f=>run_fieldAddr rfl fl41_2 (f.ev rfl) rfl) (ov rfl (fun a f=>run_load1 rfl one39 (f.ev rfl) (S.cell 0 rfl rfl)) (ov rfl (fun a f=>run_lenL rfl rfl Tryz.underlying39 (f.ev rfl)) (ov rfl (fun a f=>run_move rfl rfl) fun a f=>wn ?_))))
  obtain ⟨o112,hM113,hM⟩:=bind_ex hM
  refine wp_cut (fun a u=>∃ (p111:Unit),(Sum.inl p111)=o112∧Fr a 97 [(2,.bool false)]∧St w u []) ?_ ?_
  ·have _:=trivial
   refine wp_block ?_
   refine loop_gw (fun m a u=>∃ (p114:Int),m_impl_WorkValid_l2 x0 x1 x2 m p114=some _∧Fr a 97 [(1,.pointer (some ⟨g101,0,none⟩)),(2,.bool false),(51,.slice A2 x2.length c2),(52,iv (x2.length:Int)),(53,iv p114)]∧St w u [.box g101 41 #[.slice A0 x0.length c0,.slice A1 x1.length c1,.slice A2 x2.length c2]]) FUEL ⟨0,hM113,f.keep _ ⟨rfl,rfl,rfl,rfl,rfl,trivial⟩,S.sel [0] rfl rfl⟩ ?_
   clear f S hM113;rintro m a u ⟨p114,hM113,f,S⟩
   rcases m with _ | f2
   ·exact none_some hM113
   rw [m_impl_WorkValid_l2.eq_2] at hM113
   revert a;refine sr (ov rfl (fun a f=>run_lss (f.ev rfl) (f.ev rfl) rfl) fun a f=>wn ?_)
   refine ws ?_
   cases hc115:(ltB p114 (x2.length:Int))
   ·replace hM113:=bif_f hc115 hM113
    refine cond_f f rfl hc115 ?_
    refine wp_exit ?_
    repeat with_reducible first|apply then_exit|apply in_hit|refine in_miss rfl ?_
    obtain rfl:=Option.some.inj hM113
    exact ⟨(),rfl,f.keep _ ⟨rfl,trivial⟩,S.sel [] rfl rfl⟩
   replace hM113:=bif_t hc115 hM113
   refine cond_t f rfl hc115 ?_
   refine wp_skip ?_
   refine ws ?_
   refine wp_block ?_
   revert a;refine sr (mv rfl rfl fun a f=>?_)
   obtain ⟨hk116,hM113⟩:=chk_ex hM113
   replace hk116:=ixB_t hk116
   revert a;refine ov rfl (fun a f=>run_ix rfl Tryz.underlying39 sz78 (f.ev rfl) (S.rc0 h2.rc) (f.ev rfl) hk116) (ov rfl (fun a f=>run_loadN (cs:=#[iv ((x2.getD p114.toNat (0,0)).1),iv ((x2.getD p114.toNat (0,0)).2)]) rfl ag78 (f.ev rfl) rfl (rd_elN (l:=x2) (S.rc0 h2.rc).rd rfl ePermit_len (0,0) (ix_ltn hk116 rfl) rfl)) fun a f=>?_)
   refine op_new (cs:=#[iv 0,iv 0]) rfl rfl f rfl S (run_allocZ rfl zr78) ?_;clear f S;intro a g117 u f S
   revert a;refine ag rfl rfl fun a f=>?_
   refine op_do rfl rfl (run_store (cs':=#[iv ((x2.getD p114.toNat (0,0)).1),iv ((x2.getD p114.toNat (0,0)).2)]) rfl sz78 (f.ev rfl) (f.ev rfl) rfl rfl rfl (S.free 0 rfl) rfl rfl) ?_;replace S:=S.put 0 rfl (#[iv ((x2.getD p114.toNat (0,0)).1),iv ((x2.getD p114.toNat (0,0)).2)])
   generalize World.setRow _ _ _=u at S ⊢
   refine wn ?_
   refine ws ?_
   obtain ⟨hk118,hM113⟩:=chk_ex hM113
   replace hk118:=fun hg=>ixB_t (imp_t hk118 hg)
   obtain ⟨hk119,hM113⟩:=chk_ex hM113
   replace hk119:=fun hg=>slB_t (imp_t hk119 hg)
   obtain ⟨p120,h120,hM113⟩:=bind_ex hM113
   refine region_gw (D:=[58,59,60,61,62,63,64,65,66,67,68,69,70,71,72,73,74,75,76,77,78,79,80,81,82,83,84,85,86,87,88,89,90,91,92,93,94,95]) (Lr:=[.box g117 78 #[iv ((x2.getD p114.toNat (0,0)).1),iv ((x2.getD p114.toNat (0,0)).2)],.box g101 41 #[.slice A0 x0.length c0,.slice A1 x1.length c1,.slice A2 x2.length c2]]) (deps:=(fun | 0=>[58] | 1=>[59] | 2=>[60] | 3=>[61] | 4=>[62] | 5=>[63] | 6=>[64] | 7=>[65] | 8=>[66] | 9=>[67] | 10=>[68] | 11=>[69] | 12=>[70] | 13=>[71] | 14=>[72] | 15=>[73] | 16=>[74] | 17=>[75] | 18=>[76] | 19=>[77] | 20=>[78] | 21=>[79] | 22=>[80] | 23=>[81] | 24=>[82] | 25=>[83] | 26=>[84] | 27=>[85] | 28=>[86] | 29=>[87] | 30=>[88] | 31=>[89] | 32=>[90] | 33=>[91] | 34=>[92] | 35=>[93] | 36=>[94] | 37=>[95] | _=>[])) (rd:=(fun _=>[])) (zr:=(fun _=>[]))
    (φ:=fun i vs=>match i,vs with | 0,[v58]=>v58=.pointer (some ⟨g117,0,none⟩) | 1,[v59]=>v59=iv ((x2.getD p114.toNat (0,0)).1) | 2,[v60]=>v60=.bool (ltB ((x2.getD p114.toNat (0,0)).1) 0) | 3,[v61]=>v61=.bool (ltB ((x2.getD p114.toNat (0,0)).1) 0) | 4,[v62]=>v62=gv (!(ltB ((x2.getD p114.toNat (0,0)).1) 0)) (.pointer (some ⟨g117,0,none⟩)) | 5,[v63]=>v63=gv (!(ltB ((x2.getD p114.toNat (0,0)).1) 0)) (iv ((x2.getD p114.toNat (0,0)).1)) | 6,[v64]=>v64=gv (!(ltB ((x2.getD p114.toNat (0,0)).1) 0)) (.bool (ltB 9 ((x2.getD p114.toNat (0,0)).1))) | 7,[v65]=>v65=.bool ((ltB ((x2.getD p114.toNat (0,0)).1) 0)||(ltB 9 ((x2.getD p114.toNat (0,0)).1))) | 8,[v66]=>v66=.bool ((ltB ((x2.getD p114.toNat (0,0)).1) 0)||(ltB 9 ((x2.getD p114.toNat (0,0)).1))) | 9,[v67]=>v67=gv (!((ltB ((x2.getD p114.toNat (0,0)).1) 0)||(ltB 9 ((x2.getD p114.toNat (0,0)).1)))) (.pointer (some ⟨g117,1,none⟩)) | 10,[v68]=>v68=gv (!((ltB ((x2.getD p114.toNat (0,0)).1) 0)||(ltB 9 ((x2.getD p114.toNat (0,0)).1)))) (iv ((x2.getD p114.toNat (0,0)).2)) | 11,[v69]=>v69=gv (!((ltB ((x2.getD p114.toNat (0,0)).1) 0)||(ltB 9 ((x2.getD p114.toNat (0,0)).1)))) (.bool (ltB ((x2.getD p114.toNat (0,0)).2) 0)) | 12,[v70]=>v70=.bool (((ltB ((x2.getD p114.toNat (0,0)).1) 0)||(ltB 9 ((x2.getD p114.toNat (0,0)).1)))||(ltB ((x2.getD p114.toNat (0,0)).2) 0)) | 13,[v71]=>v71=.bool (((ltB ((x2.getD p114.toNat (0,0)).1) 0)||(ltB 9 ((x2.getD p114.toNat (0,0)).1)))||(ltB ((x2.getD p114.toNat (0,0)).2) 0)) | 14,[v72]=>v72=gv (!(((ltB ((x2.getD p114.toNat (0,0)).1) 0)||(ltB 9 ((x2.getD p114.toNat (0,0)).1)))||(ltB ((x2.getD p114.toNat (0,0)).2) 0))) (.pointer (some ⟨g117,1,none⟩)) | 15,[v73]=>v73=gv (!(((ltB ((x2.getD p114.toNat (0,0)).1) 0)||(ltB 9 ((x2.getD p114.toNat (0,0)).1)))||(ltB ((x2.getD p114.toNat (0,0)).2) 0))) (iv ((x2.getD p114.toNat (0,0)).2)) | 16,[v74]=>v74=gv (!(((ltB ((x2.getD p114.toNat (0,0)).1) 0)||(ltB 9 ((x2.getD p114.toNat (0,0)).1)))||(ltB ((x2.getD p114.toNat (0,0)).2) 0))) (.pointer (some ⟨g101,0,none⟩)) | 17,[v75]=>v75=gv (!(((ltB ((x2.getD p114.toNat (0,0)).1) 0)||(ltB 9 ((x2.getD p114.toNat (0,0)).1)))||(ltB ((x2.getD p114.toNat (0,0)).2) 0))) (.slice A0 x0.length c0) | 18,[v76]=>v76=gv (!(((ltB ((x2.getD p114.toNat (0,0)).1) 0)||(ltB 9 ((x2.getD p114.toNat (0,0)).1)))||(ltB ((x2.getD p114.toNat (0,0)).2) 0))) (iv (x0.length:Int)) | 19,[v77]=>v77=gv (!(((ltB ((x2.getD p114.toNat (0,0)).1) 0)||(ltB 9 ((x2.getD p114.toNat (0,0)).1)))||(ltB ((x2.getD p114.toNat (0,0)).2) 0))) (.bool (leB (x0.length:Int) ((x2.getD p114.toNat (0,0)).2))) | 20,[v78]=>v78=.bool ((((ltB ((x2.getD p114.toNat (0,0)).1) 0)||(ltB 9 ((x2.getD p114.toNat (0,0)).1)))||(ltB ((x2.getD p114.toNat (0,0)).2) 0))||(leB (x0.length:Int) ((x2.getD p114.toNat (0,0)).2))) | 21,[v79]=>v79=.bool ((((ltB ((x2.getD p114.toNat (0,0)).1) 0)||(ltB 9 ((x2.getD p114.toNat (0,0)).1)))||(ltB ((x2.getD p114.toNat (0,0)).2) 0))||(leB (x0.length:Int) ((x2.getD p114.toNat (0,0)).2))) | 22,[v80]=>v80=gv (!((((ltB ((x2.getD p114.toNat (0,0)).1) 0)||(ltB 9 ((x2.getD p114.toNat (0,0)).1)))||(ltB ((x2.getD p114.toNat (0,0)).2) 0))||(leB (x0.length:Int) ((x2.getD p114.toNat (0,0)).2)))) (.pointer (some ⟨g101,1,none⟩)) | 23,[v81]=>v81=gv (!((((ltB ((x2.getD p114.toNat (0,0)).1) 0)||(ltB 9 ((x2.getD p114.toNat (0,0)).1)))||(ltB ((x2.getD p114.toNat (0,0)).2) 0))||(leB (x0.length:Int) ((x2.getD p114.toNat (0,0)).2)))) (.slice A1 x1.length c1) | 24,[v82]=>v82=gv (!((((ltB ((x2.getD p114.toNat (0,0)).1) 0)||(ltB 9 ((x2.getD p114.toNat (0,0)).1)))||(ltB ((x2.getD p114.toNat (0,0)).2) 0))||(leB (x0.length:Int) ((x2.getD p114.toNat (0,0)).2)))) (.pointer (some ⟨g117,1,none⟩)) | 25,[v83]=>v83=gv (!((((ltB ((x2.getD p114.toNat (0,0)).1) 0)||(ltB 9 ((x2.getD p114.toNat (0,0)).1)))||(ltB ((x2.getD p114.toNat (0,0)).2) 0))||(leB (x0.length:Int) ((x2.getD p114.toNat (0,0)).2)))) (iv ((x2.getD p114.toNat (0,0)).2)) | 26,[v84]=>v84=gv (!((((ltB ((x2.getD p114.toNat (0,0)).1) 0)||(ltB 9 ((x2.getD p114.toNat (0,0)).1)))||(ltB ((x2.getD p114.toNat (0,0)).2) 0))||(leB (x0.length:Int) ((x2.getD p114.toNat (0,0)).2)))) (.pointer (some ⟨adB A1,adO A1+(((x2.getD p114.toNat (0,0)).2).toNat)*1,none⟩)) | 27,[v85]=>v85=gv (!((((ltB ((x2.getD p114.toNat (0,0)).1) 0)||(ltB 9 ((x2.getD p114.toNat (0,0)).1)))||(ltB ((x2.getD p114.toNat (0,0)).2) 0))||(leB (x0.length:Int) ((x2.getD p114.toNat (0,0)).2)))) (.bool (x1.getD (((x2.getD p114.toNat (0,0)).2).toNat) false)) | 28,[v86]=>v86=gv (!((((ltB ((x2.getD p114.toNat (0,0)).1) 0)||(ltB 9 ((x2.getD p114.toNat (0,0)).1)))||(ltB ((x2.getD p114.toNat (0,0)).2) 0))||(leB (x0.length:Int) ((x2.getD p114.toNat (0,0)).2)))) (.bool (!(x1.getD (((x2.getD p114.toNat (0,0)).2).toNat) false))) | 29,[v87]=>v87=.bool (((((ltB ((x2.getD p114.toNat (0,0)).1) 0)||(ltB 9 ((x2.getD p114.toNat (0,0)).1)))||(ltB ((x2.getD p114.toNat (0,0)).2) 0))||(leB (x0.length:Int) ((x2.getD p114.toNat (0,0)).2)))||(!(x1.getD (((x2.getD p114.toNat (0,0)).2).toNat) false))) | 30,[v88]=>v88=.bool (((((ltB ((x2.getD p114.toNat (0,0)).1) 0)||(ltB 9 ((x2.getD p114.toNat (0,0)).1)))||(ltB ((x2.getD p114.toNat (0,0)).2) 0))||(leB (x0.length:Int) ((x2.getD p114.toNat (0,0)).2)))||(!(x1.getD (((x2.getD p114.toNat (0,0)).2).toNat) false))) | 31,[v89]=>v89=gv (!(((((ltB ((x2.getD p114.toNat (0,0)).1) 0)||(ltB 9 ((x2.getD p114.toNat (0,0)).1)))||(ltB ((x2.getD p114.toNat (0,0)).2) 0))||(leB (x0.length:Int) ((x2.getD p114.toNat (0,0)).2)))||(!(x1.getD (((x2.getD p114.toNat (0,0)).2).toNat) false)))) (.pointer (some ⟨g101,2,none⟩)) | 32,[v90]=>v90=gv (!(((((ltB ((x2.getD p114.toNat (0,0)).1) 0)||(ltB 9 ((x2.getD p114.toNat (0,0)).1)))||(ltB ((x2.getD p114.toNat (0,0)).2) 0))||(leB (x0.length:Int) ((x2.getD p114.toNat (0,0)).2)))||(!(x1.getD (((x2.getD p114.toNat (0,0)).2).toNat) false)))) (.slice A2 x2.length c2) | 33,[v91]=>v91=gv (!(((((ltB ((x2.getD p114.toNat (0,0)).1) 0)||(ltB 9 ((x2.getD p114.toNat (0,0)).1)))||(ltB ((x2.getD p114.toNat (0,0)).2) 0))||(leB (x0.length:Int) ((x2.getD p114.toNat (0,0)).2)))||(!(x1.getD (((x2.getD p114.toNat (0,0)).2).toNat) false)))) (iv p114) | 34,[v92]=>v92=gv (!(((((ltB ((x2.getD p114.toNat (0,0)).1) 0)||(ltB 9 ((x2.getD p114.toNat (0,0)).1)))||(ltB ((x2.getD p114.toNat (0,0)).2) 0))||(leB (x0.length:Int) ((x2.getD p114.toNat (0,0)).2)))||(!(x1.getD (((x2.getD p114.toNat (0,0)).2).toNat) false)))) (.slice (subA c2 ((0:Int).toNat) 2 A2) ((subL x2 0 p114).length) (c2-(0:Int).toNat)) | 35,[v93]=>v93=gv (!(((((ltB ((x2.getD p114.toNat (0,0)).1) 0)||(ltB 9 ((x2.getD p114.toNat (0,0)).1)))||(ltB ((x2.getD p114.toNat (0,0)).2) 0))||(leB (x0.length:Int) ((x2.getD p114.toNat (0,0)).2)))||(!(x1.getD (((x2.getD p114.toNat (0,0)).2).toNat) false)))) (.agg #[iv ((x2.getD p114.toNat (0,0)).1),iv ((x2.getD p114.toNat (0,0)).2)]) | 36,[v94]=>v94=gv (!(((((ltB ((x2.getD p114.toNat (0,0)).1) 0)||(ltB 9 ((x2.getD p114.toNat (0,0)).1)))||(ltB ((x2.getD p114.toNat (0,0)).2) 0))||(leB (x0.length:Int) ((x2.getD p114.toNat (0,0)).2)))||(!(x1.getD (((x2.getD p114.toNat (0,0)).2).toNat) false)))) (.bool p120) | 37,[v95]=>v95=.bool ((((((ltB ((x2.getD p114.toNat (0,0)).1) 0)||(ltB 9 ((x2.getD p114.toNat (0,0)).1)))||(ltB ((x2.getD p114.toNat (0,0)).2) 0))||(leB (x0.length:Int) ((x2.getD p114.toNat (0,0)).2)))||(!(x1.getD (((x2.getD p114.toNat (0,0)).2).toNat) false)))||p120) | _,_=>True)
    (C:=fun _ _=>[])
    (κ:=(fun _=>none)) (Z:=(fun _=>[])) mixed f (by kernel_rfl) S ?_ ?_
   ·refine ⟨?_,?_,?_,?_,?_,?_,?_,?_,?_,?_,?_,?_,?_,?_,?_,?_,?_,?_,?_,?_,?_,?_,?_,?_,?_,?_,?_,?_,?_,?_,?_,?_,?_,?_,?_,?_,?_,?_,trivial⟩
    ·intro a u X hB hu p hr hz hl S
     exact .inl ⟨rfl,_,u,(run_fieldAddr rfl fl78_0 (f.evB hB rfl rfl) rfl),rfl,S⟩
    ·intro a u X hB hu p hr hz hl S
     exact .inl ⟨rfl,_,u,(run_load1 rfl one3 (ev_sl (p 0 rfl)) ((gr_box S hl 0 rfl).cell rfl)),rfl,S⟩
    ·intro a u X hB hu p hr hz hl S
     exact .inl ⟨rfl,_,u,(run_lss (ev_sl (p 1 rfl)) (ev_const _ _) rfl),rfl,S⟩
    ·intro a u X hB hu p hr hz hl S
     exact .inl ⟨rfl,_,u,(run_move rfl (ev_sl (p 2 rfl))),rfl,S⟩
    ·intro a u X hB hu p hr hz hl S
     exact gyf rfl rfl rfl (p 3 rfl) (fun hg=>⟨(gv_f hg).symm,S⟩) fun hg=>⟨_,u,(run_fieldAddr rfl fl78_0 (f.evB hB rfl rfl) rfl),(gv_t hg).symm,S⟩
    ·intro a u X hB hu p hr hz hl S
     exact gyf rfl rfl rfl (p 3 rfl) (fun hg=>⟨(gv_f hg).symm,S⟩) fun hg=>⟨_,u,(run_load1 rfl one3 ((ev_sl (p 4 rfl)).trans (gv_t hg)) ((gr_box S hl 0 rfl).cell rfl)),(gv_t hg).symm,S⟩
    ·intro a u X hB hu p hr hz hl S
     exact gyf rfl rfl rfl (p 3 rfl) (fun hg=>⟨(gv_f hg).symm,S⟩) fun hg=>⟨_,u,(run_gtr ((ev_sl (p 5 rfl)).trans (gv_t hg)) (ev_const _ _) rfl),(gv_t hg).symm,S⟩
    ·intro a u X hB hu p hr hz hl S
     exact .inl ⟨rfl,_,u,(run_pick_or rfl (ev_sl (p 3 rfl)) (ev_const _ _) (fun hp=>((ev_sl (p 6 rfl)).trans (gv_t (not_t hp))))),rfl,S⟩
    ·intro a u X hB hu p hr hz hl S
     exact .inl ⟨rfl,_,u,(run_move rfl (ev_sl (p 7 rfl))),rfl,S⟩
    ·intro a u X hB hu p hr hz hl S
     exact gyf rfl rfl rfl (p 8 rfl) (fun hg=>⟨(gv_f hg).symm,S⟩) fun hg=>⟨_,u,(run_fieldAddr rfl fl78_1 (f.evB hB rfl rfl) rfl),(gv_t hg).symm,S⟩
    ·intro a u X hB hu p hr hz hl S
     exact gyf rfl rfl rfl (p 8 rfl) (fun hg=>⟨(gv_f hg).symm,S⟩) fun hg=>⟨_,u,(run_load1 rfl one3 ((ev_sl (p 9 rfl)).trans (gv_t hg)) ((gr_box S hl 0 rfl).cell rfl)),(gv_t hg).symm,S⟩
    ·intro a u X hB hu p hr hz hl S
     exact gyf rfl rfl rfl (p 8 rfl) (fun hg=>⟨(gv_f hg).symm,S⟩) fun hg=>⟨_,u,(run_lss ((ev_sl (p 10 rfl)).trans (gv_t hg)) (ev_const _ _) rfl),(gv_t hg).symm,S⟩
    ·intro a u X hB hu p hr hz hl S
     exact .inl ⟨rfl,_,u,(run_pick_or rfl (ev_sl (p 8 rfl)) (ev_const _ _) (fun hp=>((ev_sl (p 11 rfl)).trans (gv_t (not_t hp))))),rfl,S⟩
    ·intro a u X hB hu p hr hz hl S
     exact .inl ⟨rfl,_,u,(run_move rfl (ev_sl (p 12 rfl))),rfl,S⟩
    ·intro a u X hB hu p hr hz hl S
     exact gyf rfl rfl rfl (p 13 rfl) (fun hg=>⟨(gv_f hg).symm,S⟩) fun hg=>⟨_,u,(run_fieldAddr rfl fl78_1 (f.evB hB rfl rfl) rfl),(gv_t hg).symm,S⟩
    ·intro a u X hB hu p hr hz hl S
     exact gyf rfl rfl rfl (p 13 rfl) (fun hg=>⟨(gv_f hg).symm,S⟩) fun hg=>⟨_,u,(run_load1 rfl one3 ((ev_sl (p 14 rfl)).trans (gv_t hg)) ((gr_box S hl 0 rfl).cell rfl)),(gv_t hg).symm,S⟩
    ·intro a u X hB hu p hr hz hl S
     exact gyf rfl rfl rfl (p 13 rfl) (fun hg=>⟨(gv_f hg).symm,S⟩) fun hg=>⟨_,u,(run_fieldAddr rfl fl41_0 (f.evB hB rfl rfl) rfl),(gv_t hg).symm,S⟩
    ·intro a u X hB hu p hr hz hl S
     exact gyf rfl rfl rfl (p 13 rfl) (fun hg=>⟨(gv_f hg).symm,S⟩) fun hg=>⟨_,u,(run_load1 rfl one26 ((ev_sl (p 16 rfl)).trans (gv_t hg)) ((gr_box S hl 1 rfl).cell rfl)),(gv_t hg).symm,S⟩
    ·intro a u X hB hu p hr hz hl S
     exact gyf rfl rfl rfl (p 13 rfl) (fun hg=>⟨(gv_f hg).symm,S⟩) fun hg=>⟨_,u,(run_lenL rfl rfl Tryz.underlying26 ((ev_sl (p 17 rfl)).trans (gv_t hg))),(gv_t hg).symm,S⟩
    ·intro a u X hB hu p hr hz hl S
     exact gyf rfl rfl rfl (p 13 rfl) (fun hg=>⟨(gv_f hg).symm,S⟩) fun hg=>⟨_,u,(run_geq ((ev_sl (p 15 rfl)).trans (gv_t hg)) ((ev_sl (p 18 rfl)).trans (gv_t hg)) rfl),(gv_t hg).symm,S⟩
    ·intro a u X hB hu p hr hz hl S
     exact .inl ⟨rfl,_,u,(run_pick_or rfl (ev_sl (p 13 rfl)) (ev_const _ _) (fun hp=>((ev_sl (p 19 rfl)).trans (gv_t (not_t hp))))),rfl,S⟩
    ·intro a u X hB hu p hr hz hl S
     exact .inl ⟨rfl,_,u,(run_move rfl (ev_sl (p 20 rfl))),rfl,S⟩
    ·intro a u X hB hu p hr hz hl S
     exact gyf rfl rfl rfl (p 21 rfl) (fun hg=>⟨(gv_f hg).symm,S⟩) fun hg=>⟨_,u,(run_fieldAddr rfl fl41_1 (f.evB hB rfl rfl) rfl),(gv_t hg).symm,S⟩
    ·intro a u X hB hu p hr hz hl S
     exact gyf rfl rfl rfl (p 21 rfl) (fun hg=>⟨(gv_f hg).symm,S⟩) fun hg=>⟨_,u,(run_load1 rfl one26 ((ev_sl (p 22 rfl)).trans (gv_t hg)) ((gr_box S hl 1 rfl).cell rfl)),(gv_t hg).symm,S⟩
    ·intro a u X hB hu p hr hz hl S
     exact gyf rfl rfl rfl (p 21 rfl) (fun hg=>⟨(gv_f hg).symm,S⟩) fun hg=>⟨_,u,(run_fieldAddr rfl fl78_1 (f.evB hB rfl rfl) rfl),(gv_t hg).symm,S⟩
    ·intro a u X hB hu p hr hz hl S
     exact gyf rfl rfl rfl (p 21 rfl) (fun hg=>⟨(gv_f hg).symm,S⟩) fun hg=>⟨_,u,(run_load1 rfl one3 ((ev_sl (p 24 rfl)).trans (gv_t hg)) ((gr_box S hl 0 rfl).cell rfl)),(gv_t hg).symm,S⟩
    ·intro a u X hB hu p hr hz hl S
     exact gyf rfl rfl rfl (p 21 rfl) (fun hg=>⟨(gv_f hg).symm,S⟩) fun hg=>⟨_,u,(run_indexAddr (b:=adB A1) (off:=adO A1) rfl Tryz.underlying26 sz4 (((ev_sl (p 23 rfl)).trans (gv_t hg)).trans (congrArg (fun A=>Value.slice A x1.length c1) ((S.rc0 h1.rc).rd.ad (ix_pos (hk118 hg))))) ((ev_sl (p 25 rfl)).trans (gv_t hg)) (hk118 hg).1 (hk118 hg).2 (k':=adO A1+(((x2.getD p114.toNat (0,0)).2).toNat)*1) rfl),(gv_t hg).symm,S⟩
    ·intro a u X hB hu p hr hz hl S
     exact gyf rfl rfl rfl (p 21 rfl) (fun hg=>⟨(gv_f hg).symm,S⟩) fun hg=>⟨_,u,(run_load1 rfl one4 ((ev_sl (p 26 rfl)).trans (gv_t hg)) (rd_el0 (l:=x1) (S.rc0 h1.rc).rd rfl eB_len false (ix_ltn (hk118 hg) rfl) rfl)),(gv_t hg).symm,S⟩
    ·intro a u X hB hu p hr hz hl S
     exact gyf rfl rfl rfl (p 21 rfl) (fun hg=>⟨(gv_f hg).symm,S⟩) fun hg=>⟨_,u,(run_not rfl ((ev_sl (p 27 rfl)).trans (gv_t hg))),(gv_t hg).symm,S⟩
    ·intro a u X hB hu p hr hz hl S
     exact .inl ⟨rfl,_,u,(run_pick_or rfl (ev_sl (p 21 rfl)) (ev_const _ _) (fun hp=>((ev_sl (p 28 rfl)).trans (gv_t (not_t hp))))),rfl,S⟩
    ·intro a u X hB hu p hr hz hl S
     exact .inl ⟨rfl,_,u,(run_move rfl (ev_sl (p 29 rfl))),rfl,S⟩
    ·intro a u X hB hu p hr hz hl S
     exact gyf rfl rfl rfl (p 30 rfl) (fun hg=>⟨(gv_f hg).symm,S⟩) fun hg=>⟨_,u,(run_fieldAddr rfl fl41_2 (f.evB hB rfl rfl) rfl),(gv_t hg).symm,S⟩
    ·intro a u X hB hu p hr hz hl S
     exact gyf rfl rfl rfl (p 30 rfl) (fun hg=>⟨(gv_f hg).symm,S⟩) fun hg=>⟨_,u,(run_load1 rfl one39 ((ev_sl (p 31 rfl)).trans (gv_t hg)) ((gr_box S hl 1 rfl).cell rfl)),(gv_t hg).symm,S⟩
    ·intro a u X hB hu p hr hz hl S
     exact gyf rfl rfl rfl (p 30 rfl) (fun hg=>⟨(gv_f hg).symm,S⟩) fun hg=>⟨_,u,(run_move rfl (f.evB hB rfl rfl)),(gv_t hg).symm,S⟩
    ·intro a u X hB hu p hr hz hl S
     exact gyf rfl rfl rfl (p 30 rfl) (fun hg=>⟨(gv_f hg).symm,S⟩) fun hg=>⟨_,u,(run_sliceH (l:=x2) rfl Tryz.underlying39 sz78 ((ev_sl (p 32 rfl)).trans (gv_t hg)) ((ev_sl (p 33 rfl)).trans (gv_t hg)) (hk119 hg) rfl (S.rc0 h2.rc).cap),(gv_t hg).symm,S⟩
    ·intro a u X hB hu p hr hz hl S
     exact gyf rfl rfl rfl (p 30 rfl) (fun hg=>⟨(gv_f hg).symm,S⟩) fun hg=>⟨_,u,(run_loadN rfl ag78 (f.evB hB rfl rfl) rfl ((gr_box S hl 0 rfl).cells 0 #[iv ((x2.getD p114.toNat (0,0)).1),iv ((x2.getD p114.toNat (0,0)).2)] rfl)),(gv_t hg).symm,S⟩
    ·intro a u X hB hu p hr hz hl S
     rcases bb (!(((((ltB ((x2.getD p114.toNat (0,0)).1) 0)||(ltB 9 ((x2.getD p114.toNat (0,0)).1)))||(ltB ((x2.getD p114.toNat (0,0)).2) 0))||(leB (x0.length:Int) ((x2.getD p114.toNat (0,0)).2)))||(!(x1.getD (((x2.getD p114.toNat (0,0)).2).toNat) false)))) with hg | hg
     ·exact .inr (.inr (.inr ⟨gr_eg rfl (yf (gr_yield rfl rfl (p 30 rfl))) hg,(gv_f hg).symm,S⟩))
     refine .inr (.inr (.inl ⟨gr_eg rfl (yf (gr_yield rfl rfl (p 30 rfl))) hg,_,_,(run_call (vs:=[.slice (subA c2 ((0:Int).toNat) 2 A2) ((subL x2 0 p114).length) (c2-(0:Int).toNat),.agg #[iv ((x2.getD p114.toNat (0,0)).1),iv ((x2.getD p114.toNat (0,0)).2)]]) rfl rfl co100 ⟨((ev_sl (p 34 rfl)).trans (gv_t hg)),((ev_sl (p 35 rfl)).trans (gv_t hg)),trivial⟩),?_⟩))
     refine Calls.mono (c_slices_Contains_impl_Permit_impl_Permit (x0:=subL x2 0 p114) (x1:=(x2.getD p114.toNat (0,0)).1) (x2:=(x2.getD p114.toNat (0,0)).2) ⟨(rc_sub ePermit_len (hk119 hg) rfl (S.rc0 h2.rc)),rfl⟩ (gb_t h120 hg)) ?_
     rintro e w1 ⟨rfl,T⟩
     exact ⟨_,rfl,(gv_t hg).symm,S.call0 T⟩
    intro a u X hB hu p hr hz hl S
    exact .inl ⟨rfl,_,u,(run_pick_or rfl (ev_sl (p 30 rfl)) (ev_const _ _) (fun hp=>((ev_sl (p 36 rfl)).trans (gv_t (not_t hp))))),rfl,S⟩
   intro a u hB hp S
   obtain ⟨q0,q1,q2,q3,q4,q5,q6,q7,q8,q9,q10,q11,q12,q13,q14,q15,q16,q17,q18,q19,q20,q21,q22,q23,q24,q25,q26,q27,q28,q29,q30,q31,q32,q33,q34,q35,q36,q37,-⟩:=hp
   replace S:St w u [.box g117 78 #[iv ((x2.getD p114.toNat (0,0)).1),iv ((x2.getD p114.toNat (0,0)).2)],.box g101 41 #[.slice A0 x0.length c0,.slice A1 x1.length c1,.slice A2 x2.length c2]]:=S
   have f:=f.region hB [(58,_),(59,_),(60,_),(61,_),(62,_),(63,_),(64,_),(65,_),(66,_),(67,_),(68,_),(69,_),(70,_),(71,_),(72,_),(73,_),(74,_),(75,_),(76,_),(77,_),(78,_),(79,_),(80,_),(81,_),(82,_),(83,_),(84,_),(85,_),(86,_),(87,_),(88,_),(89,_),(90,_),(91,_),(92,_),(93,_),(94,_),(95,_)] (allSl_mem ⟨q0,q1,q2,q3,q4,q5,q6,q7,q8,q9,q10,q11,q12,q13,q14,q15,q16,q17,q18,q19,q20,q21,q22,q23,q24,q25,q26,q27,q28,q29,q30,q31,q32,q33,q34,q35,q36,q37,trivial⟩) rfl
   clear hB q0 q1 q2 q3 q4 q5 q6 q7 q8 q9 q10 q11 q12 q13 q14 q15 q16 q17 q18 q19 q20 q21 q22 q23 q24 q25 q26 q27 q28 q29 q30 q31 q32 q33 q34 q35 q36 q37
   cases hc121:((((((ltB ((x2.getD p114.toNat (0,0)).1) 0)||(ltB 9 ((x2.getD p114.toNat (0,0)).1)))||(ltB ((x2.getD p114.toNat (0,0)).2) 0))||(leB (x0.length:Int) ((x2.getD p114.toNat (0,0)).2)))||(!(x1.getD (((x2.getD p114.toNat (0,0)).2).toNat) false)))||p120)
   ·replace hM113:=bif_f hc121 hM113
    refine cond_f f rfl hc121 ?_
    refine wp_skip ?_
    revert a;refine rl (ov rfl (fun a f=>run_add (z:=w64 (p114+1)) (f.ev rfl) rfl rfl rfl) (mv rfl rfl fun a f=>wn ?_))
    exact ⟨f2,Nat.lt_succ_self _,w64 (p114+1),hM113,f.keep _ ⟨rfl,rfl,rfl,rfl,rfl,trivial⟩,S.sel [1] rfl rfl⟩
   replace hM113:=bif_t hc121 hM113
   refine cond_t f rfl hc121 ?_
   revert a;refine sr (ov rfl (fun a f=>run_assign rfl rfl) fun a f=>wn ?_)
   refine wp_ret ?_
   repeat with_reducible first|apply tr|apply ir|apply nr
   refine ret1_gw (.inl rfl) f rfl (res_tmp (f.ev rfl)) ?_
   obtain rfl:=Option.some.inj hM113
   obtain rfl:=Option.some.inj hM
   exact ⟨rfl,S.sel [] rfl rfl⟩
  rintro a u ⟨p111,rfl,f,S⟩
  replace hM:=elim_l hM
  revert a;refine sr (ov rfl (fun a f=>run_assign rfl rfl) fun a f=>wn ?_)
  refine wp_ret ?_
  refine ret1_gw (.inl rfl) f rfl (res_tmp (f.ev rfl)) ?_
  obtain rfl:=Option.some.inj hM
  exact ⟨rfl,S.sel [] rfl rfl⟩
 replace hM:=bif_t hc102 hM
 refine cond_t f rfl hc102 ?_
 revert a;refine sr (ov rfl (fun a f=>run_assign rfl rfl) fun a f=>wn ?_)
 refine wp_ret ?_
 repeat with_reducible first|apply tr|apply ir|apply nr
 refine ret1_gw (.inl rfl) f rfl (res_tmp (f.ev rfl)) ?_
 obtain rfl:=Option.some.inj hM
 exact ⟨rfl,S.sel [] rfl rfl⟩
theorem c_impl_Net_hasLine {x0:Int} {x1:List (Int×Int×Int)} {x2:Int} {A1:Option Addr} {n1 c1:Nat} {w:World} {r:Bool} (h1:Rt w 3 eLine A1 n1 c1 x1) (hM : m_impl_Net_hasLine x0 x1 x2=some r) :
  Calls Tryz.prog 59 #[.agg #[iv x0,.slice A1 n1 c1],iv x2] w (fun e w'=>e=.returned (.bool r)∧St w w' []):=by
 obtain rfl:=h1.len
 unfold m_impl_Net_hasLine at hM
 refine calls_gx Tryz.func59 Tryz.ntmps59 rfl rfl ?_
 intro a f
 have S:=St.nil w
 refine wsg ?_
 refine op_new (cs:=#[iv x0,.slice A1 x1.length c1]) rfl rfl f rfl S (run_box rfl (f.ev rfl) rfl) ?_;clear f S;intro a g101 u f S
 revert a;refine ov rfl (fun a f=>run_assign rfl rfl) fun a f=>wn ?_
 revert a;refine sr (mv rfl rfl (ov rfl (fun a f=>run_geq (f.ev rfl) rfl rfl) (mv rfl rfl fun a f=>?_)))
 revert a;refine gt rfl rfl rfl rfl (fun a f hg=>run_move rfl (f.ev rfl)) (gt rfl rfl rfl rfl (fun a f hg=>run_fieldAddr rfl fl37_1 (f.ev rfl) rfl) (gt rfl rfl rfl rfl (fun a f hg=>run_load1 rfl one35 ((f.ev rfl).trans (gv_t hg)) (S.cell 0 rfl rfl)) (gt rfl rfl rfl rfl (fun a f hg=>run_lenL rfl rfl Tryz.underlying35 ((f.ev rfl).trans (gv_t hg))) (gt rfl rfl rfl rfl (fun a f hg=>run_lss ((f.ev rfl).trans (gv_t hg)) ((f.ev rfl).trans (gv_t hg)) rfl) fun a f=>?_))))
 revert a;refine ov rfl (fun a f=>run_pick_and rfl (f.ev rfl) (fun hp=>((f.ev rfl).trans (gv_t hp))) rfl) (ag rfl rfl fun a f=>wn ?_)
 refine wp_ret ?_
 refine ret1_gw (.inl rfl) f rfl (res_tmp (f.ev rfl)) ?_
 obtain rfl:=Option.some.inj hM
 exact ⟨rfl,S.sel [] rfl rfl⟩
theorem c_impl_StateValid {x0:Int} {x1:List (Int×Int×Int)} {x2:List Bool} {A1:Option Addr} {n1 c1:Nat} {A2:Option Addr} {n2 c2:Nat} {w:World} {r:Bool} (h1:Rt w 3 eLine A1 n1 c1 x1) (h2:Rt w 1 eB A2 n2 c2 x2) (hM : m_impl_StateValid x0 x1 x2=some r) :
  Calls Tryz.prog 142 #[.agg #[iv x0,.slice A1 n1 c1],.slice A2 n2 c2] w (fun e w'=>e=.returned (.bool r)∧St w w' []):=by
 obtain rfl:=h1.len
 obtain rfl:=h2.len
 unfold m_impl_StateValid at hM
 refine calls_gx Tryz.func142 Tryz.ntmps142 rfl rfl ?_
 intro a f
 have S:=St.nil w
 refine wsg ?_
 refine op_new (cs:=#[iv x0,.slice A1 x1.length c1]) rfl rfl f rfl S (run_box rfl (f.ev rfl) rfl) ?_;clear f S;intro a g101 u f S
 revert a;refine ov rfl (fun a f=>run_assign rfl rfl) fun a f=>wn ?_
 revert a;refine sr (ov rfl (fun a f=>run_loadN rfl ag37 (f.ev rfl) rfl ((S.free 0 rfl).cells 0 #[iv x0,.slice A1 x1.length c1] rfl)) fun a f=>?_)
 obtain ⟨p102,h102,hM⟩:=bind_ex hM
 refine op_call rfl rfl f rfl (run_call (vs:=[_]) rfl rfl co109 ⟨(f.ev rfl),trivial⟩) (c_impl_NetValid ⟨(S.rc0 h1.rc),rfl⟩ h102) ?_
 rintro e u ⟨rfl,T⟩
 refine ⟨_,rfl,?_⟩
 clear f;intro a f
 replace S:=S.call0 T;clear T
 revert a;refine mv rfl rfl (gt rfl rfl rfl rfl (fun a f hg=>run_move rfl (f.ev rfl)) (gt rfl rfl rfl rfl (fun a f hg=>run_lenL rfl rfl Tryz.underlying26 ((f.ev rfl).trans (gv_t hg))) (gt rfl rfl rfl rfl (fun a f hg=>run_fieldAddr rfl fl37_1 (f.ev rfl) rfl) (gt rfl rfl rfl rfl (fun a f hg=>run_load1 rfl one35 ((f.ev rfl).trans (gv_t hg)) (S.cell 0 rfl rfl)) (gt rfl rfl rfl rfl (fun a f hg=>run_lenL rfl rfl Tryz.underlying35 ((f.ev rfl).trans (gv_t hg))) (gt rfl rfl rfl rfl (fun a f hg=>run_eql ((f.ev rfl).trans (gv_t hg)) ((f.ev rfl).trans (gv_t hg)) rfl) fun a f=>?_))))))
 revert a;refine ov rfl (fun a f=>run_pick_and rfl (f.ev rfl) (fun hp=>((f.ev rfl).trans (gv_t hp))) rfl) (ag rfl rfl fun a f=>wn ?_)
 refine wp_ret ?_
 refine ret1_gw (.inl rfl) f rfl (res_tmp (f.ev rfl)) ?_
 obtain rfl:=Option.some.inj hM
 exact ⟨rfl,S.sel [] rfl rfl⟩
end Go.Proofs.YtcmnjaccapbhfaaGreat
