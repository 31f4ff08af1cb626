/- Calls return what the models say. -/
import Derived.Test.YtcmnjaccapbhfaaGreatQSq
import Derived.Test.YtcmnjaccapbhfaaGreatQDa2
namespace Go.Proofs.YtcmnjaccapbhfaaGreat
open Go.ChangeShapes Go.WideShapes Go.ChangeAt Go.RowKit
set_option linter.unusedVariables false
set_option maxHeartbeats 4000000
set_option linter.unusedSimpArgs false
theorem c_spec_l7Over {x0:Int} {x1:List (Int×Int×Int)} {x2:List Bool} {x3:List (Int×Int)} {A1:Option Addr} {n1 c1:Nat} {A2:Option Addr} {n2 c2:Nat} {A3:Option Addr} {n3 c3:Nat} {w:World} {r:List Int} (h1:Rt w 3 eLine A1 n1 c1 x1) (h2:Rt w 1 eB A2 n2 c2 x2) (h3:Rt w 2 eBus A3 n3 c3 x3) (hM : m_spec_l7Over x0 x1 x2 x3=some r) :
  Calls Tryz.prog 154 #[.agg #[iv x0,.slice A1 n1 c1],.slice A2 n2 c2,.slice A3 n3 c3] w (fun e w'=>∃ (B0:Option Addr) (N0 D0:Nat),e=.returned (.slice B0 N0 D0)∧N0=r.length∧St w w' [.row 3 1 (.slice B0 N0 D0) N0 (r.flatMap eI)]):=by
 obtain rfl:=h1.len
 obtain rfl:=h2.len
 obtain rfl:=h3.len
 unfold m_spec_l7Over at hM
 refine calls_gx Tryz.func154 Tryz.ntmps154 rfl rfl ?_
 intro a f
 have S:=St.nil w
 refine wsg ?_
 refine op_new (cs:=#[iv x0,.slice A1 x1.length c1]) rfl rfl f rfl S (run_box rfl (f.ev rfl) rfl) ?_;clear f S;intro a g101 u f S
 revert a;refine ov rfl (fun a f=>run_assign rfl rfl) fun a f=>wn ?_
 refine wsg ?_
 refine op_newrow (cs:=#[]) (size:=1) rfl rfl f rfl S (run_buildSlice0 rfl Tryz.underlying30 (congrArg Option.isSome sz3)) rfl (Nat.zero_le _) ?_;clear f S;intro a g102 u f S
 revert a;refine ag rfl rfl fun a f=>wn ?_
 revert a;refine sr (ov rfl (fun a f=>run_loadN rfl ag37 (f.ev rfl) rfl ((S.free 1 rfl).cells 0 #[iv x0,.slice A1 x1.length c1] rfl)) (mv rfl rfl (mv rfl rfl fun a f=>?_)))
 obtain ⟨p103,h103,hM⟩:=bind_ex hM
 refine op_call rfl rfl f rfl (run_call (vs:=[_,_,_]) rfl rfl co160 ⟨(f.ev rfl),(f.ev rfl),(f.ev rfl),trivial⟩) (c_spec_l7Flows ⟨(S.rc0 h1.rc),rfl⟩ ⟨(S.rc0 h2.rc),rfl⟩ ⟨(S.rc0 h3.rc),rfl⟩ h103) ?_
 rintro e u ⟨B104,n105,d106,rfl,rfl,T⟩
 refine ⟨_,rfl,?_⟩
 clear f;intro a f
 replace S:=S.call1 T;clear T
 revert a;refine ag rfl rfl fun a f=>wn ?_
 refine ws ?_
 revert a;refine sr (ov rfl (fun a f=>run_assign rfl rfl) fun a f=>wn ?_)
 obtain ⟨o108,hM111,hM⟩:=bind_ex hM
 refine wp_cut (fun a u=>∃ (p107:List Int) (B109:Option Addr) (d110:Nat),p107=o108∧Fr a 37 [(6,.slice none 0 0),(7,.slice B109 p107.length d110)]∧St w u [.row 3 1 (.slice B109 p107.length d110) p107.length (p107.flatMap eI)]) ?_ ?_
 ·have _:=trivial
  refine wp_block ?_
  refine loop_gw (fun m a u=>∃ (p112:List Int×Int) (B113:Option Addr) (d114:Nat),m_spec_l7Over_l1 x1 x2 p103 m p112=some _∧Fr a 37 [(1,.slice A2 x2.length c2),(3,.pointer (some ⟨g101,0,none⟩)),(6,.slice none 0 0),(7,.slice B113 p112.1.length d114),(8,.slice B104 p103.length d106),(9,iv p112.2)]∧St w u [.box g101 37 #[iv x0,.slice A1 x1.length c1],.row 3 1 (.slice B113 p112.1.length d114) p112.1.length (p112.1.flatMap eI),.row 3 1 (.slice B104 p103.length d106) p103.length (p103.flatMap eI)]) FUEL ⟨(([]:List Int),0),(some ⟨g102,0,none⟩),0,hM111,f.keep _ ⟨rfl,rfl,rfl,rfl,rfl,rfl,trivial⟩,S.sel [2,1,0] rfl rfl⟩ ?_
  clear f S hM111;rintro m a u ⟨p112,B113,d114,hM111,f,S⟩
  rcases m with _ | f1
  ·exact none_some hM111
  rw [m_spec_l7Over_l1.eq_2] at hM111
  refine ws ?_
  revert a;refine sr (mv rfl rfl (mv rfl rfl (ov rfl (fun a f=>run_lenL rfl rfl Tryz.underlying26 (f.ev rfl)) (ov rfl (fun a f=>run_lss (f.ev rfl) (f.ev rfl) rfl) fun a f=>wn ?_))))
  cases hc115:(ltB p112.2 (x2.length:Int))
  ·replace hM111:=bif_f hc115 hM111
   refine cond_f f rfl hc115 ?_
   refine wp_exit ?_
   repeat with_reducible first|apply then_exit|apply in_hit|refine in_miss rfl ?_
   obtain rfl:=Option.some.inj hM111
   exact ⟨p112.1,B113,d114,rfl,f.keep _ ⟨rfl,rfl,trivial⟩,S.sel [1] rfl rfl⟩
  replace hM111:=bif_t hc115 hM111
  refine cond_t f rfl hc115 ?_
  refine wp_skip ?_
  refine ws ?_
  refine wp_block ?_
  refine ws ?_
  obtain ⟨hk116,hM111⟩:=chk_ex hM111
  replace hk116:=ixB_t hk116
  obtain ⟨hk117,hM111⟩:=chk_ex hM111
  replace hk117:=ixB_t hk117
  refine region_gw (D:=[21,22,23,24,25,26,27,28,29,30,31]) (Lr:=[.box g101 37 #[iv x0,.slice A1 x1.length c1],.row 3 1 (.slice B113 p112.1.length d114) p112.1.length (p112.1.flatMap eI),.row 3 1 (.slice B104 p103.length d106) p103.length (p103.flatMap eI)]) (deps:=(fun | 0=>[21] | 1=>[22] | 2=>[23] | 3=>[24] | 4=>[25] | 5=>[26] | 6=>[27] | 7=>[28] | 8=>[29] | 9=>[30] | 10=>[31] | _=>[])) (rd:=(fun _=>[])) (zr:=(fun _=>[]))
   (φ:=fun i vs=>match i,vs with | 0,[v21]=>v21=.slice B104 p103.length d106 | 1,[v22]=>v22=iv p112.2 | 2,[v23]=>v23=.pointer (some ⟨adB B104,adO B104+p112.2.toNat*1,none⟩) | 3,[v24]=>v24=iv (p103.getD p112.2.toNat 0) | 4,[v25]=>v25=.pointer (some ⟨g101,1,none⟩) | 5,[v26]=>v26=.slice A1 x1.length c1 | 6,[v27]=>v27=iv p112.2 | 7,[v28]=>v28=.pointer (some ⟨adB A1,adO A1+p112.2.toNat*3,none⟩) | 8,[v29]=>v29=.pointer (some ⟨adB A1,adO A1+p112.2.toNat*3+2,none⟩) | 9,[v30]=>v30=iv ((x1.getD p112.2.toNat (0,0,0)).2.2) | 10,[v31]=>v31=.bool (ltB ((x1.getD p112.2.toNat (0,0,0)).2.2) (p103.getD p112.2.toNat 0)) | _,_=>True)
   (C:=fun _ _=>[])
   (κ:=(fun _=>none)) (Z:=(fun _=>[])) mixed f (by kernel_rfl) S ?_ ?_
  ·refine ⟨?_,?_,?_,?_,?_,?_,?_,?_,?_,?_,?_,trivial⟩
   ·intro a u X hB hu p hr hz hl S
    exact .inl ⟨rfl,_,u,(run_move rfl (f.evB hB rfl rfl)),rfl,S⟩
   ·intro a u X hB hu p hr hz hl S
    exact .inl ⟨rfl,_,u,(run_move rfl (f.evB hB rfl rfl)),rfl,S⟩
   ·intro a u X hB hu p hr hz hl S
    exact .inl ⟨rfl,_,u,(run_indexAddr (b:=adB B104) (off:=adO B104) rfl Tryz.underlying30 sz3 ((ev_sl (p 0 rfl)).trans (congrArg (fun A=>Value.slice A p103.length d106) ((gr_rc S hl 2 rfl).rd.ad (ix_pos hk116)))) (ev_sl (p 1 rfl)) hk116.1 hk116.2 (k':=adO B104+p112.2.toNat*1) rfl),rfl,S⟩
   ·intro a u X hB hu p hr hz hl S
    exact .inl ⟨rfl,_,u,(run_load1 rfl one3 (ev_sl (p 2 rfl)) (rd_el0 (l:=p103) (gr_rc S hl 2 rfl).rd rfl eI_len 0 (ix_ltn hk116 rfl) rfl)),rfl,S⟩
   ·intro a u X hB hu p hr hz hl S
    exact .inl ⟨rfl,_,u,(run_fieldAddr rfl fl37_1 (f.evB hB rfl rfl) rfl),rfl,S⟩
   ·intro a u X hB hu p hr hz hl S
    exact .inl ⟨rfl,_,u,(run_load1 rfl one35 (ev_sl (p 4 rfl)) ((gr_box S hl 0 rfl).cell rfl)),rfl,S⟩
   ·intro a u X hB hu p hr hz hl S
    exact .inl ⟨rfl,_,u,(run_move rfl (f.evB hB rfl rfl)),rfl,S⟩
   ·intro a u X hB hu p hr hz hl S
    exact .inl ⟨rfl,_,u,(run_ix rfl Tryz.underlying35 sz130 (ev_sl (p 5 rfl)) (S.rc0 h1.rc) (ev_sl (p 6 rfl)) hk117),rfl,S⟩
   ·intro a u X hB hu p hr hz hl S
    exact .inl ⟨rfl,_,u,(run_fieldAddr rfl fl130_2 (ev_sl (p 7 rfl)) rfl),rfl,S⟩
   ·intro a u X hB hu p hr hz hl S
    exact .inl ⟨rfl,_,u,(run_load1 rfl one3 (ev_sl (p 8 rfl)) (rd_el (l:=x1) (S.rc0 h1.rc).rd rfl eLine_len (0,0,0) (ix_ltn hk117 rfl) rfl)),rfl,S⟩
   intro a u X hB hu p hr hz hl S
   exact .inl ⟨rfl,_,u,(run_gtr (ev_sl (p 3 rfl)) (ev_sl (p 9 rfl)) rfl),rfl,S⟩
  intro a u hB hp S
  obtain ⟨q0,q1,q2,q3,q4,q5,q6,q7,q8,q9,q10,-⟩:=hp
  replace S:St w u [.box g101 37 #[iv x0,.slice A1 x1.length c1],.row 3 1 (.slice B113 p112.1.length d114) p112.1.length (p112.1.flatMap eI),.row 3 1 (.slice B104 p103.length d106) p103.length (p103.flatMap eI)]:=S
  have f:=f.region hB [(21,_),(22,_),(23,_),(24,_),(25,_),(26,_),(27,_),(28,_),(29,_),(30,_),(31,_)] (allSl_mem ⟨q0,q1,q2,q3,q4,q5,q6,q7,q8,q9,q10,trivial⟩) rfl
  clear hB q0 q1 q2 q3 q4 q5 q6 q7 q8 q9 q10
  obtain ⟨o119,hM122,hM111⟩:=bind_ex hM111
  refine wp_cut (fun a u=>∃ (p118:List Int) (B120:Option Addr) (d121:Nat),p118=o119∧Fr a 37 [(1,.slice A2 x2.length c2),(3,.pointer (some ⟨g101,0,none⟩)),(6,.slice none 0 0),(7,.slice B120 p118.length d121),(8,.slice B104 p103.length d106),(9,iv p112.2)]∧St w u [.box g101 37 #[iv x0,.slice A1 x1.length c1],.row 3 1 (.slice B120 p118.length d121) p118.length (p118.flatMap eI),.row 3 1 (.slice B104 p103.length d106) p103.length (p103.flatMap eI)]) ?_ ?_
  ·have _:=trivial
   cases hc123:(ltB ((x1.getD p112.2.toNat (0,0,0)).2.2) (p103.getD p112.2.toNat 0))
   ·replace hM122:=bif_f hc123 hM122
    refine cond_f f rfl hc123 ?_
    refine wp_skip ?_
    obtain rfl:=Option.some.inj hM122
    exact ⟨p112.1,B113,d114,rfl,f.keep _ ⟨rfl,rfl,rfl,rfl,rfl,rfl,trivial⟩,S.sel [0,1,2] rfl rfl⟩
   replace hM122:=bif_t hc123 hM122
   refine cond_t f rfl hc123 ?_
   revert a;refine rl (mv rfl rfl (mv rfl rfl fun a f=>?_))
   refine op_newrowL (ls:=(([p112.2]:List Int):List Int)) (e:=eI) rfl rfl f rfl S (run_buildS (vs:=[(0,iv p112.2)]) rfl ⟨⟨rfl,(f.ev rfl)⟩,trivial⟩ (bs30_1_0 rfl)) rfl eI_len (Nat.le_of_ble_eq_true rfl) ?_;clear f S;intro a g124 u f S
   obtain ⟨hk127,hM122⟩:=chk_ex hM122
   replace hk127:=apB_t hk127
   refine op_appendL (lx:=p112.1) (ly:=([p112.2]:List Int)) rfl rfl f rfl S rfl (f.ev rfl) (f.ev rfl) (i:=2) rfl rfl Tryz.underlying30 inf3 rfl (by decide) (S.rc 0 rfl).rd rfl eI_one hk127 (by decide) ?_;clear f S;intro a B125 d126 u f S
   revert a;refine ag rfl rfl fun a f=>wn ?_
   obtain rfl:=Option.some.inj hM122
   exact ⟨p112.1++([p112.2]:List Int),B125,d126,rfl,f.keep _ ⟨rfl,rfl,rfl,rfl,rfl,rfl,trivial⟩,S.sel [1,2,3] rfl rfl⟩
  rintro a u ⟨p118,B120,d121,rfl,f,S⟩
  revert a;refine rl (mv rfl rfl (ov rfl (fun a f=>run_add (z:=w64 (p112.2+1)) (f.ev rfl) rfl rfl rfl) (ag rfl rfl fun a f=>wn ?_)))
  exact ⟨f1,Nat.lt_succ_self _,(p118,w64 (p112.2+1)),B120,d121,hM111,f.keep _ ⟨rfl,rfl,rfl,rfl,rfl,rfl,trivial⟩,S.sel [0,1,2] rfl rfl⟩
 rintro a u ⟨p107,B109,d110,rfl,f,S⟩
 revert a;refine sr (mv rfl rfl (ag rfl rfl fun a f=>wn ?_))
 refine wp_ret ?_
 refine ret1_gw (.inl rfl) f rfl (res_tmp (f.ev rfl)) ?_
 obtain rfl:=Option.some.inj hM
 exact ⟨B109,p107.length,d110,rfl,rfl,S.sel [0] rfl rfl⟩
theorem c_spec_l7Good {x0:Int} {x1:List (Int×Int×Int)} {x2:List Bool} {x3:List (Int×Int)} {A1:Option Addr} {n1 c1:Nat} {A2:Option Addr} {n2 c2:Nat} {A3:Option Addr} {n3 c3:Nat} {w:World} {r:Bool} (h1:Rt w 3 eLine A1 n1 c1 x1) (h2:Rt w 1 eB A2 n2 c2 x2) (h3:Rt w 2 eBus A3 n3 c3 x3) (hM : m_spec_l7Good x0 x1 x2 x3=some r) :
  Calls Tryz.prog 139 #[.agg #[iv x0,.slice A1 n1 c1],.slice A2 n2 c2,.slice A3 n3 c3] w (fun e w'=>e=.returned (.bool r)∧St w w' []):=by
 obtain rfl:=h1.len
 obtain rfl:=h2.len
 obtain rfl:=h3.len
 unfold m_spec_l7Good at hM
 refine calls_gx Tryz.func139 Tryz.ntmps139 rfl rfl ?_
 intro a f
 have S:=St.nil w
 refine wsg ?_
 refine op_new (cs:=#[iv x0,.slice A1 x1.length c1]) rfl rfl f rfl S (run_box rfl (f.ev rfl) rfl) ?_;clear f S;intro a g101 u f S
 revert a;refine ov rfl (fun a f=>run_assign rfl rfl) fun a f=>wn ?_
 refine ws ?_
 revert a;refine sr (ov rfl (fun a f=>run_assign rfl rfl) fun a f=>wn ?_)
 obtain ⟨o103,hM104,hM⟩:=bind_ex hM
 refine wp_cut (fun a u=>∃ (p102:Unit),(Sum.inl p102)=o103∧Fr a 39 [(1,.slice A2 x2.length c2),(2,.slice A3 x3.length c3),(3,.pointer (some ⟨g101,0,none⟩)),(6,.bool false)]∧St w u [.box g101 37 #[iv x0,.slice A1 x1.length c1]]) ?_ ?_
 ·have _:=trivial
  refine wp_block ?_
  refine loop_gw (fun m a u=>∃ (p105:Int),m_spec_l7Good_l1 x0 x1 x2 x3 m p105=some _∧Fr a 39 [(1,.slice A2 x2.length c2),(2,.slice A3 x3.length c3),(3,.pointer (some ⟨g101,0,none⟩)),(6,.bool false),(7,iv p105)]∧St w u [.box g101 37 #[iv x0,.slice A1 x1.length c1]]) FUEL ⟨0,hM104,f.keep _ ⟨rfl,rfl,rfl,rfl,rfl,trivial⟩,S.sel [0] rfl rfl⟩ ?_
  clear f S hM104;rintro m a u ⟨p105,hM104,f,S⟩
  rcases m with _ | f1
  ·exact none_some hM104
  rw [m_spec_l7Good_l1.eq_2] at hM104
  refine ws ?_
  revert a;refine sr (mv rfl rfl (ov rfl (fun a f=>run_fieldAddr rfl fl37_0 (f.ev rfl) rfl) (ov rfl (fun a f=>run_load1 rfl one3 (f.ev rfl) (S.cell 0 rfl rfl)) (ov rfl (fun a f=>run_lss (f.ev rfl) (f.ev rfl) rfl) fun a f=>wn ?_))))
  cases hc106:(ltB p105 x0)
  ·replace hM104:=bif_f hc106 hM104
   refine cond_f f rfl hc106 ?_
   refine wp_exit ?_
   repeat with_reducible first|apply then_exit|apply in_hit|refine in_miss rfl ?_
   obtain rfl:=Option.some.inj hM104
   exact ⟨(),rfl,f.keep _ ⟨rfl,rfl,rfl,rfl,trivial⟩,S.sel [0] rfl rfl⟩
  replace hM104:=bif_t hc106 hM104
  refine cond_t f rfl hc106 ?_
  refine wp_skip ?_
  refine ws ?_
  refine wp_block ?_
  refine ws ?_
  obtain ⟨hk107,hM104⟩:=chk_ex hM104
  replace hk107:=ixB_t hk107
  obtain ⟨p108,h108,hM104⟩:=bind_ex hM104
  obtain ⟨hk109,hM104⟩:=chk_ex hM104
  replace hk109:=fun hg=>ixB_t (imp_t hk109 hg)
  refine region_gw (D:=[14,15,16,17,18,19,20,21,22,23,24,25,26,27,28,29,30,31,32]) (Lr:=[.box g101 37 #[iv x0,.slice A1 x1.length c1]]) (deps:=(fun | 0=>[14] | 1=>[15] | 2=>[16] | 3=>[17] | 4=>[18] | 5=>[19] | 6=>[20] | 7=>[21] | 8=>[22] | 9=>[23] | 10=>[24] | 11=>[25] | 12=>[26] | 13=>[27] | 14=>[28] | 15=>[29] | 16=>[30] | 17=>[31] | 18=>[32] | _=>[])) (rd:=(fun _=>[])) (zr:=(fun _=>[]))
   (φ:=fun i vs=>match i,vs with | 0,[v14]=>v14=.slice A3 x3.length c3 | 1,[v15]=>v15=iv p105 | 2,[v16]=>v16=.pointer (some ⟨adB A3,adO A3+p105.toNat*2,none⟩) | 3,[v17]=>v17=.pointer (some ⟨adB A3,adO A3+p105.toNat*2,none⟩) | 4,[v18]=>v18=iv ((x3.getD p105.toNat (0,0)).1) | 5,[v19]=>v19=.bool (ltB 0 ((x3.getD p105.toNat (0,0)).1)) | 6,[v20]=>v20=.bool (ltB 0 ((x3.getD p105.toNat (0,0)).1)) | 7,[v21]=>v21=gv (ltB 0 ((x3.getD p105.toNat (0,0)).1)) (.agg #[iv x0,.slice A1 x1.length c1]) | 8,[v22]=>v22=gv (ltB 0 ((x3.getD p105.toNat (0,0)).1)) (.slice A2 x2.length c2) | 9,[v23]=>v23=gv (ltB 0 ((x3.getD p105.toNat (0,0)).1)) (.slice A3 x3.length c3) | 10,[v24]=>v24=gv (ltB 0 ((x3.getD p105.toNat (0,0)).1)) (iv p105) | 11,[v25]=>v25=gv (ltB 0 ((x3.getD p105.toNat (0,0)).1)) (iv p108) | 12,[v26]=>v26=gv (ltB 0 ((x3.getD p105.toNat (0,0)).1)) (.slice A3 x3.length c3) | 13,[v27]=>v27=gv (ltB 0 ((x3.getD p105.toNat (0,0)).1)) (iv p105) | 14,[v28]=>v28=gv (ltB 0 ((x3.getD p105.toNat (0,0)).1)) (.pointer (some ⟨adB A3,adO A3+p105.toNat*2,none⟩)) | 15,[v29]=>v29=gv (ltB 0 ((x3.getD p105.toNat (0,0)).1)) (.pointer (some ⟨adB A3,adO A3+p105.toNat*2,none⟩)) | 16,[v30]=>v30=gv (ltB 0 ((x3.getD p105.toNat (0,0)).1)) (iv ((x3.getD p105.toNat (0,0)).1)) | 17,[v31]=>v31=gv (ltB 0 ((x3.getD p105.toNat (0,0)).1)) (.bool (ltB ((x3.getD p105.toNat (0,0)).1) p108)) | 18,[v32]=>v32=.bool ((ltB 0 ((x3.getD p105.toNat (0,0)).1))&&(ltB ((x3.getD p105.toNat (0,0)).1) p108)) | _,_=>True)
   (C:=fun _ _=>[])
   (κ:=(fun _=>none)) (Z:=(fun _=>[])) mixed f (by kernel_rfl) S ?_ ?_
  ·refine ⟨?_,?_,?_,?_,?_,?_,?_,?_,?_,?_,?_,?_,?_,?_,?_,?_,?_,?_,?_,trivial⟩
   ·intro a u X hB hu p hr hz hl S
    exact .inl ⟨rfl,_,u,(run_move rfl (f.evB hB rfl rfl)),rfl,S⟩
   ·intro a u X hB hu p hr hz hl S
    exact .inl ⟨rfl,_,u,(run_move rfl (f.evB hB rfl rfl)),rfl,S⟩
   ·intro a u X hB hu p hr hz hl S
    exact .inl ⟨rfl,_,u,(run_ix rfl Tryz.underlying38 sz110 (ev_sl (p 0 rfl)) (S.rc0 h3.rc) (ev_sl (p 1 rfl)) hk107),rfl,S⟩
   ·intro a u X hB hu p hr hz hl S
    exact .inl ⟨rfl,_,u,(run_fieldAddr rfl fl110_0 (ev_sl (p 2 rfl)) rfl),rfl,S⟩
   ·intro a u X hB hu p hr hz hl S
    exact .inl ⟨rfl,_,u,(run_load1 rfl one3 (ev_sl (p 3 rfl)) (rd_el0 (l:=x3) (S.rc0 h3.rc).rd rfl eBus_len (0,0) (ix_ltn hk107 rfl) rfl)),rfl,S⟩
   ·intro a u X hB hu p hr hz hl S
    exact .inl ⟨rfl,_,u,(run_gtr (ev_sl (p 4 rfl)) (ev_const _ _) rfl),rfl,S⟩
   ·intro a u X hB hu p hr hz hl S
    exact .inl ⟨rfl,_,u,(run_move rfl (ev_sl (p 5 rfl))),rfl,S⟩
   ·intro a u X hB hu p hr hz hl S
    exact gyt rfl rfl rfl (p 6 rfl) (fun hg=>⟨(gv_f hg).symm,S⟩) fun hg=>⟨_,u,(run_loadN rfl ag37 (f.evB hB rfl rfl) rfl ((gr_box S hl 0 rfl).cells 0 #[iv x0,.slice A1 x1.length c1] rfl)),(gv_t hg).symm,S⟩
   ·intro a u X hB hu p hr hz hl S
    exact gyt rfl rfl rfl (p 6 rfl) (fun hg=>⟨(gv_f hg).symm,S⟩) fun hg=>⟨_,u,(run_move rfl (f.evB hB rfl rfl)),(gv_t hg).symm,S⟩
   ·intro a u X hB hu p hr hz hl S
    exact gyt rfl rfl rfl (p 6 rfl) (fun hg=>⟨(gv_f hg).symm,S⟩) fun hg=>⟨_,u,(run_move rfl (f.evB hB rfl rfl)),(gv_t hg).symm,S⟩
   ·intro a u X hB hu p hr hz hl S
    exact gyt rfl rfl rfl (p 6 rfl) (fun hg=>⟨(gv_f hg).symm,S⟩) fun hg=>⟨_,u,(run_move rfl (f.evB hB rfl rfl)),(gv_t hg).symm,S⟩
   ·intro a u X hB hu p hr hz hl S
    rcases bb (ltB 0 ((x3.getD p105.toNat (0,0)).1)) with hg | hg
    ·exact .inr (.inr (.inr ⟨gr_eg rfl (yt (gr_yield rfl rfl (p 6 rfl))) hg,(gv_f hg).symm,S⟩))
    refine .inr (.inr (.inl ⟨gr_eg rfl (yt (gr_yield rfl rfl (p 6 rfl))) hg,_,_,(run_call (vs:=[.agg #[iv x0,.slice A1 x1.length c1],.slice A2 x2.length c2,.slice A3 x3.length c3,iv p105]) rfl rfl co141 ⟨((ev_sl (p 7 rfl)).trans (gv_t hg)),((ev_sl (p 8 rfl)).trans (gv_t hg)),((ev_sl (p 9 rfl)).trans (gv_t hg)),((ev_sl (p 10 rfl)).trans (gv_t hg)),trivial⟩),?_⟩))
    refine Calls.mono (c_spec_IslandLoad (x0:=x0) (x1:=x1) (x2:=x2) (x3:=x3) (x4:=p105) ⟨(S.rc0 h1.rc),rfl⟩ ⟨(S.rc0 h2.rc),rfl⟩ ⟨(S.rc0 h3.rc),rfl⟩ (gb_t h108 hg)) ?_
    rintro e w1 ⟨rfl,T⟩
    exact ⟨_,rfl,(gv_t hg).symm,S.call0 T⟩
   ·intro a u X hB hu p hr hz hl S
    exact gyt rfl rfl rfl (p 6 rfl) (fun hg=>⟨(gv_f hg).symm,S⟩) fun hg=>⟨_,u,(run_move rfl (f.evB hB rfl rfl)),(gv_t hg).symm,S⟩
   ·intro a u X hB hu p hr hz hl S
    exact gyt rfl rfl rfl (p 6 rfl) (fun hg=>⟨(gv_f hg).symm,S⟩) fun hg=>⟨_,u,(run_move rfl (f.evB hB rfl rfl)),(gv_t hg).symm,S⟩
   ·intro a u X hB hu p hr hz hl S
    exact gyt rfl rfl rfl (p 6 rfl) (fun hg=>⟨(gv_f hg).symm,S⟩) fun hg=>⟨_,u,(run_indexAddr (b:=adB A3) (off:=adO A3) rfl Tryz.underlying38 sz110 (((ev_sl (p 12 rfl)).trans (gv_t hg)).trans (congrArg (fun A=>Value.slice A x3.length c3) ((S.rc0 h3.rc).rd.ad (ix_pos (hk109 hg))))) ((ev_sl (p 13 rfl)).trans (gv_t hg)) (hk109 hg).1 (hk109 hg).2 (k':=adO A3+p105.toNat*2) rfl),(gv_t hg).symm,S⟩
   ·intro a u X hB hu p hr hz hl S
    exact gyt rfl rfl rfl (p 6 rfl) (fun hg=>⟨(gv_f hg).symm,S⟩) fun hg=>⟨_,u,(run_fieldAddr rfl fl110_0 ((ev_sl (p 14 rfl)).trans (gv_t hg)) rfl),(gv_t hg).symm,S⟩
   ·intro a u X hB hu p hr hz hl S
    exact gyt rfl rfl rfl (p 6 rfl) (fun hg=>⟨(gv_f hg).symm,S⟩) fun hg=>⟨_,u,(run_load1 rfl one3 ((ev_sl (p 15 rfl)).trans (gv_t hg)) (rd_el0 (l:=x3) (S.rc0 h3.rc).rd rfl eBus_len (0,0) (ix_ltn (hk109 hg) rfl) rfl)),(gv_t hg).symm,S⟩
   ·intro a u X hB hu p hr hz hl S
    exact gyt rfl rfl rfl (p 6 rfl) (fun hg=>⟨(gv_f hg).symm,S⟩) fun hg=>⟨_,u,(run_gtr ((ev_sl (p 11 rfl)).trans (gv_t hg)) ((ev_sl (p 16 rfl)).trans (gv_t hg)) rfl),(gv_t hg).symm,S⟩
   intro a u X hB hu p hr hz hl S
   exact .inl ⟨rfl,_,u,(run_pick_and rfl (ev_sl (p 6 rfl)) (fun hp=>((ev_sl (p 17 rfl)).trans (gv_t hp))) (ev_const _ _)),rfl,S⟩
  intro a u hB hp S
  obtain ⟨q0,q1,q2,q3,q4,q5,q6,q7,q8,q9,q10,q11,q12,q13,q14,q15,q16,q17,q18,-⟩:=hp
  replace S:St w u [.box g101 37 #[iv x0,.slice A1 x1.length c1]]:=S
  have f:=f.region hB [(14,_),(15,_),(16,_),(17,_),(18,_),(19,_),(20,_),(21,_),(22,_),(23,_),(24,_),(25,_),(26,_),(27,_),(28,_),(29,_),(30,_),(31,_),(32,_)] (allSl_mem ⟨q0,q1,q2,q3,q4,q5,q6,q7,q8,q9,q10,q11,q12,q13,q14,q15,q16,q17,q18,trivial⟩) rfl
  clear hB q0 q1 q2 q3 q4 q5 q6 q7 q8 q9 q10 q11 q12 q13 q14 q15 q16 q17 q18
  cases hc110:((ltB 0 ((x3.getD p105.toNat (0,0)).1))&&(ltB ((x3.getD p105.toNat (0,0)).1) p108))
  ·replace hM104:=bif_f hc110 hM104
   refine cond_f f rfl hc110 ?_
   refine wp_skip ?_
   revert a;refine rl (mv rfl rfl (ov rfl (fun a f=>run_add (z:=w64 (p105+1)) (f.ev rfl) rfl rfl rfl) (ag rfl rfl fun a f=>wn ?_)))
   exact ⟨f1,Nat.lt_succ_self _,w64 (p105+1),hM104,f.keep _ ⟨rfl,rfl,rfl,rfl,rfl,trivial⟩,S.sel [0] rfl rfl⟩
  replace hM104:=bif_t hc110 hM104
  refine cond_t f rfl hc110 ?_
  revert a;refine sr (ov rfl (fun a f=>run_assign rfl rfl) fun a f=>wn ?_)
  refine wp_ret ?_
  repeat with_reducible first|apply tr|apply ir|apply nr
  refine ret1_gw (.inl rfl) f rfl (res_tmp (f.ev rfl)) ?_
  obtain rfl:=Option.some.inj hM104
  obtain rfl:=Option.some.inj hM
  exact ⟨rfl,S.sel [] rfl rfl⟩
 rintro a u ⟨p102,rfl,f,S⟩
 replace hM:=elim_l hM
 revert a;refine sr (ov rfl (fun a f=>run_loadN rfl ag37 (f.ev rfl) rfl ((S.free 0 rfl).cells 0 #[iv x0,.slice A1 x1.length c1] rfl)) (mv rfl rfl (mv rfl rfl fun a f=>?_)))
 obtain ⟨p111,h111,hM⟩:=bind_ex hM
 refine op_call rfl rfl f rfl (run_call (vs:=[_,_,_]) rfl rfl co154 ⟨(f.ev rfl),(f.ev rfl),(f.ev rfl),trivial⟩) (c_spec_l7Over ⟨(S.rc0 h1.rc),rfl⟩ ⟨(S.rc0 h2.rc),rfl⟩ ⟨(S.rc0 h3.rc),rfl⟩ h111) ?_
 rintro e u ⟨B112,n113,d114,rfl,rfl,T⟩
 refine ⟨_,rfl,?_⟩
 clear f;intro a f
 replace S:=S.call1 T;clear T
 revert a;refine ov rfl (fun a f=>run_lenL rfl rfl Tryz.underlying30 (f.ev rfl)) (ov rfl (fun a f=>run_eql (f.ev rfl) rfl rfl) (ag rfl rfl fun a f=>wn ?_))
 refine wp_ret ?_
 refine ret1_gw (.inl rfl) f rfl (res_tmp (f.ev rfl)) ?_
 obtain rfl:=Option.some.inj hM
 exact ⟨rfl,S.sel [] rfl rfl⟩
theorem c_spec_NetGood {x0:Int} {x1:List (Int×Int×Int)} {x2:List Bool} {x3:List (Int×Int)} {A1:Option Addr} {n1 c1:Nat} {A2:Option Addr} {n2 c2:Nat} {A3:Option Addr} {n3 c3:Nat} {w:World} {r:Bool} (h1:Rt w 3 eLine A1 n1 c1 x1) (h2:Rt w 1 eB A2 n2 c2 x2) (h3:Rt w 2 eBus A3 n3 c3 x3) (hM : m_spec_NetGood x0 x1 x2 x3=some r) :
  Calls Tryz.prog 115 #[.agg #[iv x0,.slice A1 n1 c1],.slice A2 n2 c2,.slice A3 n3 c3] w (fun e w'=>e=.returned (.bool r)∧St w w' []):=by
 obtain rfl:=h1.len
 obtain rfl:=h2.len
 obtain rfl:=h3.len
 unfold m_spec_NetGood at hM
 refine calls_gx Tryz.func115 Tryz.ntmps115 rfl rfl ?_
 intro a f
 have S:=St.nil w
 refine wsg ?_
 refine op_new (cs:=#[iv x0,.slice A1 x1.length c1]) rfl rfl f rfl S (run_box rfl (f.ev rfl) rfl) ?_;clear f S;intro a g101 u f S
 revert a;refine ov rfl (fun a f=>run_assign rfl rfl) fun a f=>wn ?_
 revert a;refine sr (ov rfl (fun a f=>run_loadN rfl ag37 (f.ev rfl) rfl ((S.free 0 rfl).cells 0 #[iv x0,.slice A1 x1.length c1] rfl)) (mv rfl rfl (mv rfl rfl fun a f=>?_)))
 obtain ⟨p102,h102,hM⟩:=bind_ex hM
 refine op_call rfl rfl f rfl (run_call (vs:=[_,_,_]) rfl rfl co57 ⟨(f.ev rfl),(f.ev rfl),(f.ev rfl),trivial⟩) (c_spec_Radial ⟨(S.rc0 h1.rc),rfl⟩ ⟨(S.rc0 h2.rc),rfl⟩ ⟨(S.rc0 h3.rc),rfl⟩ h102) ?_
 rintro e u ⟨rfl,T⟩
 refine ⟨_,rfl,?_⟩
 clear f;intro a f
 replace S:=S.call0 T;clear T
 revert a;refine mv rfl rfl (gt rfl rfl rfl rfl (fun a f hg=>run_loadN rfl ag37 (f.ev rfl) rfl ((S.free 0 rfl).cells 0 #[iv x0,.slice A1 x1.length c1] rfl)) (gt rfl rfl rfl rfl (fun a f hg=>run_move rfl (f.ev rfl)) (gt rfl rfl rfl rfl (fun a f hg=>run_move rfl (f.ev rfl)) fun a f=>?_)))
 obtain ⟨p103,h103,hM⟩:=bind_ex hM
 refine op_gcall (v:=.bool p103) rfl rfl f rfl S (yt (gw_yield f rfl rfl rfl)) (fun hg=>(run_call (vs:=[.agg #[iv x0,.slice A1 x1.length c1],.slice A2 x2.length c2,.slice A3 x3.length c3]) rfl rfl co139 ⟨((f.ev rfl).trans (gv_t hg)),((f.ev rfl).trans (gv_t hg)),((f.ev rfl).trans (gv_t hg)),trivial⟩)) (fun hg=>c_spec_l7Good (x0:=x0) (x1:=x1) (x2:=x2) (x3:=x3) ⟨(S.rc0 h1.rc),rfl⟩ ⟨(S.rc0 h2.rc),rfl⟩ ⟨(S.rc0 h3.rc),rfl⟩ (gb_t h103 hg)) ?_;clear f S;intro a u f S
 revert a;refine ov rfl (fun a f=>run_pick_and rfl (f.ev rfl) (fun hp=>((f.ev rfl).trans (gv_t hp))) rfl) (ag rfl rfl fun a f=>wn ?_)
 refine wp_ret ?_
 refine ret1_gw (.inl rfl) f rfl (res_tmp (f.ev rfl)) ?_
 obtain rfl:=Option.some.inj hM
 exact ⟨rfl,S.sel [] rfl rfl⟩
theorem c_spec_IslandFeed {x0:Int} {x1:List (Int×Int×Int)} {x2:List Bool} {x3:List (Int×Int)} {x4:Int} {A1:Option Addr} {n1 c1:Nat} {A2:Option Addr} {n2 c2:Nat} {A3:Option Addr} {n3 c3:Nat} {w:World} {r:Int} (h1:Rt w 3 eLine A1 n1 c1 x1) (h2:Rt w 1 eB A2 n2 c2 x2) (h3:Rt w 2 eBus A3 n3 c3 x3) (hM : m_spec_IslandFeed x0 x1 x2 x3 x4=some r) :
  Calls Tryz.prog 140 #[.agg #[iv x0,.slice A1 n1 c1],.slice A2 n2 c2,.slice A3 n3 c3,iv x4] w (fun e w'=>e=.returned (iv r)∧St w w' []):=by
 obtain rfl:=h1.len
 obtain rfl:=h2.len
 obtain rfl:=h3.len
 unfold m_spec_IslandFeed at hM
 refine calls_gx Tryz.func140 Tryz.ntmps140 rfl rfl ?_
 intro a f
 have S:=St.nil w
 refine wsg ?_
 refine op_new (cs:=#[iv x0,.slice A1 x1.length c1]) rfl rfl f rfl S (run_box rfl (f.ev rfl) rfl) ?_;clear f S;intro a g101 u f S
 revert a;refine ov rfl (fun a f=>run_assign rfl rfl) fun a f=>wn ?_
 refine ws ?_
 revert a;refine sr (ov rfl (fun a f=>run_loadN rfl ag37 (f.ev rfl) rfl ((S.free 0 rfl).cells 0 #[iv x0,.slice A1 x1.length c1] rfl)) (mv rfl rfl (mv rfl rfl fun a f=>?_)))
 obtain ⟨p102,h102,hM⟩:=bind_ex hM
 refine op_call rfl rfl f rfl (run_call (vs:=[_,_,_]) rfl rfl co91 ⟨(f.ev rfl),(f.ev rfl),(f.ev rfl),trivial⟩) (c_spec_l5Ok ⟨(S.rc0 h1.rc),rfl⟩ ⟨(S.rc0 h2.rc),rfl⟩ ⟨(S.rc0 h3.rc),rfl⟩ h102) ?_
 rintro e u ⟨rfl,T⟩
 refine ⟨_,rfl,?_⟩
 clear f;intro a f
 replace S:=S.call0 T;clear T
 revert a;refine ov rfl (fun a f=>run_not rfl (f.ev rfl)) (mv rfl rfl fun a f=>?_)
 revert a;refine gf rfl rfl rfl rfl (fun a f hg=>run_move rfl (f.ev rfl)) (gf rfl rfl rfl rfl (fun a f hg=>run_fieldAddr rfl fl37_0 (f.ev rfl) rfl) (gf rfl rfl rfl rfl (fun a f hg=>run_load1 rfl one3 ((f.ev rfl).trans (gv_t hg)) (S.cell 0 rfl rfl)) (gf rfl rfl rfl rfl (fun a f hg=>run_sub (z:=w64 (x0-1)) ((f.ev rfl).trans (gv_t hg)) rfl rfl rfl) fun a f=>?_)))
 obtain ⟨p103,h103,hM⟩:=bind_ex hM
 refine op_gcall (v:=.bool p103) rfl rfl f rfl S (yf (gw_yield f rfl rfl rfl)) (fun hg=>(run_call (vs:=[iv x4,iv 0,iv (w64 (x0-1))]) rfl rfl co51 ⟨((f.ev rfl).trans (gv_t hg)),rfl,((f.ev rfl).trans (gv_t hg)),trivial⟩)) (fun hg=>c_spec_l1In (x0:=x4) (x1:=0) (x2:=w64 (x0-1))  (gb_t h103 hg)) ?_;clear f S;intro a u f S
 revert a;refine gf rfl rfl rfl rfl (fun a f hg=>run_not rfl ((f.ev rfl).trans (gv_t hg))) (ov rfl (fun a f=>run_pick_or rfl (f.ev rfl) rfl (fun hp=>((f.ev rfl).trans (gv_t (not_t hp))))) fun a f=>wn ?_)
 cases hc104:((!p102)||(!p103))
 ·replace hM:=bif_f hc104 hM
  refine cond_f f rfl hc104 ?_
  refine wp_skip ?_
  revert a;refine sr (ov rfl (fun a f=>run_assign rfl rfl) fun a f=>wn ?_)
  revert a;refine sr (ov rfl (fun a f=>run_loadN rfl ag37 (f.ev rfl) rfl ((S.free 0 rfl).cells 0 #[iv x0,.slice A1 x1.length c1] rfl)) (mv rfl rfl (mv rfl rfl fun a f=>?_)))
  obtain ⟨p105,h105,hM⟩:=bind_ex hM
  refine op_call rfl rfl f rfl (run_call (vs:=[_,_,_]) rfl rfl co127 ⟨(f.ev rfl),(f.ev rfl),(f.ev rfl),trivial⟩) (c_spec_Reached ⟨(S.rc0 h1.rc),rfl⟩ ⟨(S.rc0 h2.rc),rfl⟩ h105) ?_
  rintro e u ⟨B106,n107,d108,rfl,rfl,T⟩
  refine ⟨_,rfl,?_⟩
  clear f;intro a f
  replace S:=S.call1 T;clear T
  revert a;refine ag rfl rfl fun a f=>wn ?_
  refine ws ?_
  revert a;refine sr (ov rfl (fun a f=>run_assign rfl rfl) fun a f=>wn ?_)
  obtain ⟨o110,hM111,hM⟩:=bind_ex hM
  refine wp_cut (fun a u=>∃ (p109:Int),p109=o110∧Fr a 46 [(8,iv 0),(9,iv p109)]∧St w u []) ?_ ?_
  ·have _:=trivial
   refine wp_block ?_
   refine loop_gw (fun m a u=>∃ (p112:Int×Int),m_spec_IslandFeed_l1 x3 p105 m p112=some _∧Fr a 46 [(2,.slice A3 x3.length c3),(8,iv 0),(9,iv p112.1),(10,.slice B106 p105.length d108),(11,iv p112.2)]∧St w u [.row 3 1 (.slice B106 p105.length d108) p105.length (p105.flatMap eI)]) FUEL ⟨(0,0),hM111,f.keep _ ⟨rfl,rfl,rfl,rfl,rfl,trivial⟩,S.sel [0] rfl rfl⟩ ?_
   clear f S hM111;rintro m a u ⟨p112,hM111,f,S⟩
   rcases m with _ | f1
   ·exact none_some hM111
   rw [m_spec_IslandFeed_l1.eq_2] at hM111
   refine ws ?_
   revert a;refine sr (mv rfl rfl (mv rfl rfl (ov rfl (fun a f=>run_lenL rfl rfl Tryz.underlying30 (f.ev rfl)) (ov rfl (fun a f=>run_lss (f.ev rfl) (f.ev rfl) rfl) fun a f=>wn ?_))))
   cases hc113:(ltB p112.2 (p105.length:Int))
   ·replace hM111:=bif_f hc113 hM111
    refine cond_f f rfl hc113 ?_
    refine wp_exit ?_
    repeat with_reducible first|apply then_exit|apply in_hit|refine in_miss rfl ?_
    obtain rfl:=Option.some.inj hM111
    exact ⟨p112.1,rfl,f.keep _ ⟨rfl,rfl,trivial⟩,S.sel [] rfl rfl⟩
   replace hM111:=bif_t hc113 hM111
   refine cond_t f rfl hc113 ?_
   refine wp_skip ?_
   refine ws ?_
   refine wp_block ?_
   revert a;refine rl (mv rfl rfl (mv rfl rfl (mv rfl rfl (mv rfl rfl fun a f=>?_))))
   obtain ⟨hk114,hM111⟩:=chk_ex hM111
   replace hk114:=ixB_t hk114
   revert a;refine ov rfl (fun a f=>run_ix rfl Tryz.underlying30 sz3 (f.ev rfl) (S.rc 0 rfl) (f.ev rfl) hk114) (ov rfl (fun a f=>run_load1 rfl one3 (f.ev rfl) (rd_el0 (l:=p105) (S.rc 0 rfl).rd rfl eI_len 0 (ix_ltn hk114 rfl) rfl)) fun a f=>?_)
   obtain ⟨hk115,hM111⟩:=chk_ex hM111
   replace hk115:=ixB_t hk115
   revert a;refine ov rfl (fun a f=>run_ix rfl Tryz.underlying38 sz110 (f.ev rfl) (S.rc0 h3.rc) (f.ev rfl) hk115) (ov rfl (fun a f=>run_fieldAddr rfl fl110_0 (f.ev rfl) rfl) (ov rfl (fun a f=>run_load1 rfl one3 (f.ev rfl) (rd_el0 (l:=x3) (S.rc0 h3.rc).rd rfl eBus_len (0,0) (ix_ltn hk115 rfl) rfl)) (ov rfl (fun a f=>run_add (z:=w64 (p112.1+((x3.getD ((p105.getD p112.2.toNat 0).toNat) (0,0)).1))) (f.ev rfl) (f.ev rfl) rfl rfl) (ag rfl rfl fun a f=>wn ?_))))
   revert a;refine rl (mv rfl rfl (ov rfl (fun a f=>run_add (z:=w64 (p112.2+1)) (f.ev rfl) rfl rfl rfl) (ag rfl rfl fun a f=>wn ?_)))
   exact ⟨f1,Nat.lt_succ_self _,(w64 (p112.1+((x3.getD ((p105.getD p112.2.toNat 0).toNat) (0,0)).1)),w64 (p112.2+1)),hM111,f.keep _ ⟨rfl,rfl,rfl,rfl,rfl,trivial⟩,S.sel [0] rfl rfl⟩
  rintro a u ⟨p109,rfl,f,S⟩
  revert a;refine sr (mv rfl rfl (ag rfl rfl fun a f=>wn ?_))
  refine wp_ret ?_
  refine ret1_gw (.inl rfl) f rfl (res_tmp (f.ev rfl)) ?_
  obtain rfl:=Option.some.inj hM
  exact ⟨rfl,S.sel [] rfl rfl⟩
 replace hM:=bif_t hc104 hM
 refine cond_t f rfl hc104 ?_
 revert a;refine sr (ov rfl (fun a f=>run_assign rfl rfl) fun a f=>wn ?_)
 refine wp_ret ?_
 repeat with_reducible first|apply tr|apply ir|apply nr
 refine ret1_gw (.inl rfl) f rfl (res_tmp (f.ev rfl)) ?_
 obtain rfl:=Option.some.inj hM
 exact ⟨rfl,S.sel [] rfl rfl⟩
theorem c_spec_ServedLoad {x0:Int} {x1:List (Int×Int×Int)} {x2:List Bool} {x3:List (Int×Int)} {A1:Option Addr} {n1 c1:Nat} {A2:Option Addr} {n2 c2:Nat} {A3:Option Addr} {n3 c3:Nat} {w:World} {r:Int} (h1:Rt w 3 eLine A1 n1 c1 x1) (h2:Rt w 1 eB A2 n2 c2 x2) (h3:Rt w 2 eBus A3 n3 c3 x3) (hM : m_spec_ServedLoad x0 x1 x2 x3=some r) :
  Calls Tryz.prog 117 #[.agg #[iv x0,.slice A1 n1 c1],.slice A2 n2 c2,.slice A3 n3 c3] w (fun e w'=>e=.returned (iv r)∧St w w' []):=by
 obtain rfl:=h1.len
 obtain rfl:=h2.len
 obtain rfl:=h3.len
 unfold m_spec_ServedLoad at hM
 refine calls_gx Tryz.func117 Tryz.ntmps117 rfl rfl ?_
 intro a f
 have S:=St.nil w
 refine wsg ?_
 refine op_new (cs:=#[iv x0,.slice A1 x1.length c1]) rfl rfl f rfl S (run_box rfl (f.ev rfl) rfl) ?_;clear f S;intro a g101 u f S
 revert a;refine ov rfl (fun a f=>run_assign rfl rfl) fun a f=>wn ?_
 refine ws ?_
 revert a;refine sr (ov rfl (fun a f=>run_loadN rfl ag37 (f.ev rfl) rfl ((S.free 0 rfl).cells 0 #[iv x0,.slice A1 x1.length c1] rfl)) (mv rfl rfl (mv rfl rfl fun a f=>?_)))
 obtain ⟨p102,h102,hM⟩:=bind_ex hM
 refine op_call rfl rfl f rfl (run_call (vs:=[_,_,_]) rfl rfl co91 ⟨(f.ev rfl),(f.ev rfl),(f.ev rfl),trivial⟩) (c_spec_l5Ok ⟨(S.rc0 h1.rc),rfl⟩ ⟨(S.rc0 h2.rc),rfl⟩ ⟨(S.rc0 h3.rc),rfl⟩ h102) ?_
 rintro e u ⟨rfl,T⟩
 refine ⟨_,rfl,?_⟩
 clear f;intro a f
 replace S:=S.call0 T;clear T
 revert a;refine ov rfl (fun a f=>run_not rfl (f.ev rfl)) fun a f=>wn ?_
 cases hc103:(p102)
 ·replace hM:=bif_f hc103 hM
  refine cond_t f rfl (not_t hc103) ?_
  revert a;refine sr (ov rfl (fun a f=>run_assign rfl rfl) fun a f=>wn ?_)
  refine wp_ret ?_
  repeat with_reducible first|apply tr|apply ir|apply nr
  refine ret1_gw (.inl rfl) f rfl (res_tmp (f.ev rfl)) ?_
  obtain rfl:=Option.some.inj hM
  exact ⟨rfl,S.sel [] rfl rfl⟩
 replace hM:=bif_t hc103 hM
 refine cond_f f rfl (not_f hc103) ?_
 refine wp_skip ?_
 revert a;refine sr (ov rfl (fun a f=>run_assign rfl rfl) fun a f=>wn ?_)
 refine ws ?_
 revert a;refine sr (ov rfl (fun a f=>run_assign rfl rfl) fun a f=>wn ?_)
 obtain ⟨o105,hM106,hM⟩:=bind_ex hM
 refine wp_cut (fun a u=>∃ (p104:Int),p104=o105∧Fr a 39 [(6,iv 0),(7,iv p104)]∧St w u []) ?_ ?_
 ·have _:=trivial
  refine wp_block ?_
  refine loop_gw (fun m a u=>∃ (p107:Int×Int),m_spec_ServedLoad_l1 x0 x1 x2 x3 m p107=some _∧Fr a 39 [(1,.slice A2 x2.length c2),(2,.slice A3 x3.length c3),(3,.pointer (some ⟨g101,0,none⟩)),(6,iv 0),(7,iv p107.1),(8,iv p107.2)]∧St w u [.box g101 37 #[iv x0,.slice A1 x1.length c1]]) FUEL ⟨(0,0),hM106,f.keep _ ⟨rfl,rfl,rfl,rfl,rfl,rfl,trivial⟩,S.sel [0] rfl rfl⟩ ?_
  clear f S hM106;rintro m a u ⟨p107,hM106,f,S⟩
  rcases m with _ | f1
  ·exact none_some hM106
  rw [m_spec_ServedLoad_l1.eq_2] at hM106
  refine ws ?_
  revert a;refine sr (mv rfl rfl (ov rfl (fun a f=>run_fieldAddr rfl fl37_0 (f.ev rfl) rfl) (ov rfl (fun a f=>run_load1 rfl one3 (f.ev rfl) (S.cell 0 rfl rfl)) (ov rfl (fun a f=>run_lss (f.ev rfl) (f.ev rfl) rfl) fun a f=>wn ?_))))
  cases hc108:(ltB p107.2 x0)
  ·replace hM106:=bif_f hc108 hM106
   refine cond_f f rfl hc108 ?_
   refine wp_exit ?_
   repeat with_reducible first|apply then_exit|apply in_hit|refine in_miss rfl ?_
   obtain rfl:=Option.some.inj hM106
   exact ⟨p107.1,rfl,f.keep _ ⟨rfl,rfl,trivial⟩,S.sel [] rfl rfl⟩
  replace hM106:=bif_t hc108 hM106
  refine cond_t f rfl hc108 ?_
  refine wp_skip ?_
  refine ws ?_
  refine wp_block ?_
  refine ws ?_
  obtain ⟨p109,h109,hM106⟩:=bind_ex hM106
  obtain ⟨p110,h110,hM106⟩:=bind_ex hM106
  refine region_gw (D:=[20,21,22,23,24,25,26,27,28,29,30]) (Lr:=[.box g101 37 #[iv x0,.slice A1 x1.length c1]]) (deps:=(fun | 0=>[20] | 1=>[21] | 2=>[22] | 3=>[23] | 4=>[24] | 5=>[25] | 6=>[26] | 7=>[27] | 8=>[28] | 9=>[29] | 10=>[30] | _=>[])) (rd:=(fun _=>[])) (zr:=(fun _=>[]))
   (φ:=fun i vs=>match i,vs with | 0,[v20]=>v20=.agg #[iv x0,.slice A1 x1.length c1] | 1,[v21]=>v21=.slice A2 x2.length c2 | 2,[v22]=>v22=.slice A3 x3.length c3 | 3,[v23]=>v23=iv p107.2 | 4,[v24]=>v24=iv p109 | 5,[v25]=>v25=.agg #[iv x0,.slice A1 x1.length c1] | 6,[v26]=>v26=.slice A2 x2.length c2 | 7,[v27]=>v27=.slice A3 x3.length c3 | 8,[v28]=>v28=iv p107.2 | 9,[v29]=>v29=iv p110 | 10,[v30]=>v30=.bool (leB p110 p109) | _,_=>True)
   (C:=fun _ _=>[])
   (κ:=(fun _=>none)) (Z:=(fun _=>[])) mixed f (by kernel_rfl) S ?_ ?_
  ·refine ⟨?_,?_,?_,?_,?_,?_,?_,?_,?_,?_,?_,trivial⟩
   ·intro a u X hB hu p hr hz hl S
    exact .inl ⟨rfl,_,u,(run_loadN rfl ag37 (f.evB hB rfl rfl) rfl ((gr_box S hl 0 rfl).cells 0 #[iv x0,.slice A1 x1.length c1] rfl)),rfl,S⟩
   ·intro a u X hB hu p hr hz hl S
    exact .inl ⟨rfl,_,u,(run_move rfl (f.evB hB rfl rfl)),rfl,S⟩
   ·intro a u X hB hu p hr hz hl S
    exact .inl ⟨rfl,_,u,(run_move rfl (f.evB hB rfl rfl)),rfl,S⟩
   ·intro a u X hB hu p hr hz hl S
    exact .inl ⟨rfl,_,u,(run_move rfl (f.evB hB rfl rfl)),rfl,S⟩
   ·intro a u X hB hu p hr hz hl S
    refine .inr (.inr (.inl ⟨rfl,_,_,(run_call (vs:=[.agg #[iv x0,.slice A1 x1.length c1],.slice A2 x2.length c2,.slice A3 x3.length c3,iv p107.2]) rfl rfl co140 ⟨(ev_sl (p 0 rfl)),(ev_sl (p 1 rfl)),(ev_sl (p 2 rfl)),(ev_sl (p 3 rfl)),trivial⟩),?_⟩))
    refine Calls.mono (c_spec_IslandFeed (x0:=x0) (x1:=x1) (x2:=x2) (x3:=x3) (x4:=p107.2) ⟨(S.rc0 h1.rc),rfl⟩ ⟨(S.rc0 h2.rc),rfl⟩ ⟨(S.rc0 h3.rc),rfl⟩ h109) ?_
    rintro e w1 ⟨rfl,T⟩
    exact ⟨_,rfl,rfl,S.call0 T⟩
   ·intro a u X hB hu p hr hz hl S
    exact .inl ⟨rfl,_,u,(run_loadN rfl ag37 (f.evB hB rfl rfl) rfl ((gr_box S hl 0 rfl).cells 0 #[iv x0,.slice A1 x1.length c1] rfl)),rfl,S⟩
   ·intro a u X hB hu p hr hz hl S
    exact .inl ⟨rfl,_,u,(run_move rfl (f.evB hB rfl rfl)),rfl,S⟩
   ·intro a u X hB hu p hr hz hl S
    exact .inl ⟨rfl,_,u,(run_move rfl (f.evB hB rfl rfl)),rfl,S⟩
   ·intro a u X hB hu p hr hz hl S
    exact .inl ⟨rfl,_,u,(run_move rfl (f.evB hB rfl rfl)),rfl,S⟩
   ·intro a u X hB hu p hr hz hl S
    refine .inr (.inr (.inl ⟨rfl,_,_,(run_call (vs:=[.agg #[iv x0,.slice A1 x1.length c1],.slice A2 x2.length c2,.slice A3 x3.length c3,iv p107.2]) rfl rfl co141 ⟨(ev_sl (p 5 rfl)),(ev_sl (p 6 rfl)),(ev_sl (p 7 rfl)),(ev_sl (p 8 rfl)),trivial⟩),?_⟩))
    refine Calls.mono (c_spec_IslandLoad (x0:=x0) (x1:=x1) (x2:=x2) (x3:=x3) (x4:=p107.2) ⟨(S.rc0 h1.rc),rfl⟩ ⟨(S.rc0 h2.rc),rfl⟩ ⟨(S.rc0 h3.rc),rfl⟩ h110) ?_
    rintro e w1 ⟨rfl,T⟩
    exact ⟨_,rfl,rfl,S.call0 T⟩
   intro a u X hB hu p hr hz hl S
   exact .inl ⟨rfl,_,u,(run_geq (ev_sl (p 4 rfl)) (ev_sl (p 9 rfl)) rfl),rfl,S⟩
  intro a u hB hp S
  obtain ⟨q0,q1,q2,q3,q4,q5,q6,q7,q8,q9,q10,-⟩:=hp
  replace S:St w u [.box g101 37 #[iv x0,.slice A1 x1.length c1]]:=S
  have f:=f.region hB [(20,_),(21,_),(22,_),(23,_),(24,_),(25,_),(26,_),(27,_),(28,_),(29,_),(30,_)] (allSl_mem ⟨q0,q1,q2,q3,q4,q5,q6,q7,q8,q9,q10,trivial⟩) rfl
  clear hB q0 q1 q2 q3 q4 q5 q6 q7 q8 q9 q10
  obtain ⟨o112,hM113,hM106⟩:=bind_ex hM106
  refine wp_cut (fun a u=>∃ (p111:Int),p111=o112∧Fr a 39 [(1,.slice A2 x2.length c2),(2,.slice A3 x3.length c3),(3,.pointer (some ⟨g101,0,none⟩)),(6,iv 0),(7,iv p111),(8,iv p107.2)]∧St w u [.box g101 37 #[iv x0,.slice A1 x1.length c1]]) ?_ ?_
  ·have _:=trivial
   cases hc114:(leB p110 p109)
   ·replace hM113:=bif_f hc114 hM113
    refine cond_f f rfl hc114 ?_
    refine wp_skip ?_
    obtain rfl:=Option.some.inj hM113
    exact ⟨p107.1,rfl,f.keep _ ⟨rfl,rfl,rfl,rfl,rfl,rfl,trivial⟩,S.sel [0] rfl rfl⟩
   replace hM113:=bif_t hc114 hM113
   refine cond_t f rfl hc114 ?_
   revert a;refine rl (mv rfl rfl (mv rfl rfl (mv rfl rfl fun a f=>?_)))
   obtain ⟨hk115,hM113⟩:=chk_ex hM113
   replace hk115:=ixB_t hk115
   revert a;refine ov rfl (fun a f=>run_ix rfl Tryz.underlying38 sz110 (f.ev rfl) (S.rc0 h3.rc) (f.ev rfl) hk115) (ov rfl (fun a f=>run_fieldAddr rfl fl110_1 (f.ev rfl) rfl) (ov rfl (fun a f=>run_load1 rfl one3 (f.ev rfl) (rd_el (l:=x3) (S.rc0 h3.rc).rd rfl eBus_len (0,0) (ix_ltn hk115 rfl) rfl)) (ov rfl (fun a f=>run_add (z:=w64 (p107.1+((x3.getD p107.2.toNat (0,0)).2))) (f.ev rfl) (f.ev rfl) rfl rfl) (ag rfl rfl fun a f=>wn ?_))))
   obtain rfl:=Option.some.inj hM113
   exact ⟨w64 (p107.1+((x3.getD p107.2.toNat (0,0)).2)),rfl,f.keep _ ⟨rfl,rfl,rfl,rfl,rfl,rfl,trivial⟩,S.sel [0] rfl rfl⟩
  rintro a u ⟨p111,rfl,f,S⟩
  revert a;refine rl (mv rfl rfl (ov rfl (fun a f=>run_add (z:=w64 (p107.2+1)) (f.ev rfl) rfl rfl rfl) (ag rfl rfl fun a f=>wn ?_)))
  exact ⟨f1,Nat.lt_succ_self _,(p111,w64 (p107.2+1)),hM106,f.keep _ ⟨rfl,rfl,rfl,rfl,rfl,rfl,trivial⟩,S.sel [0] rfl rfl⟩
 rintro a u ⟨p104,rfl,f,S⟩
 revert a;refine sr (mv rfl rfl (ag rfl rfl fun a f=>wn ?_))
 refine wp_ret ?_
 refine ret1_gw (.inl rfl) f rfl (res_tmp (f.ev rfl)) ?_
 obtain rfl:=Option.some.inj hM
 exact ⟨rfl,S.sel [] rfl rfl⟩
theorem c_spec_Changes {x0:List Bool} {x1:List Bool} {A0:Option Addr} {n0 c0:Nat} {A1:Option Addr} {n1 c1:Nat} {w:World} {r:List Int} (h0:Rt w 1 eB A0 n0 c0 x0) (h1:Rt w 1 eB A1 n1 c1 x1) (hM : m_spec_Changes x0 x1=some r) :
  Calls Tryz.prog 118 #[.slice A0 n0 c0,.slice A1 n1 c1] w (fun e w'=>∃ (B0:Option Addr) (N0 D0:Nat),e=.returned (.slice B0 N0 D0)∧N0=r.length∧St w w' [.row 3 1 (.slice B0 N0 D0) N0 (r.flatMap eI)]):=by
 obtain rfl:=h0.len
 obtain rfl:=h1.len
 unfold m_spec_Changes at hM
 refine calls_gx Tryz.func118 Tryz.ntmps118 rfl rfl ?_
 intro a f
 have S:=St.nil w
 revert a;refine sr (ov rfl (fun a f=>run_assign rfl rfl) fun a f=>wn ?_)
 refine wsg ?_
 refine op_newrow (cs:=#[]) (size:=1) rfl rfl f rfl S (run_buildSlice0 rfl Tryz.underlying30 (congrArg Option.isSome sz3)) rfl (Nat.zero_le _) ?_;clear f S;intro a g101 u f S
 revert a;refine ag rfl rfl fun a f=>wn ?_
 refine ws ?_
 revert a;refine sr (ov rfl (fun a f=>run_assign rfl rfl) fun a f=>wn ?_)
 obtain ⟨o103,hM106,hM⟩:=bind_ex hM
 refine wp_cut (fun a u=>∃ (p102:List Int) (B104:Option Addr) (d105:Nat),p102=o103∧Fr a 35 [(4,.slice none 0 0),(5,.slice B104 p102.length d105)]∧St w u [.row 3 1 (.slice B104 p102.length d105) p102.length (p102.flatMap eI)]) ?_ ?_
 ·have _:=trivial
  refine wp_block ?_
  refine loop_gw (fun m a u=>∃ (p107:List Int×Int) (B108:Option Addr) (d109:Nat),m_spec_Changes_l1 x0 x1 m p107=some _∧Fr a 35 [(0,.slice A0 x0.length c0),(1,.slice A1 x1.length c1),(4,.slice none 0 0),(5,.slice B108 p107.1.length d109),(6,iv p107.2)]∧St w u [.row 3 1 (.slice B108 p107.1.length d109) p107.1.length (p107.1.flatMap eI)]) FUEL ⟨(([]:List Int),0),(some ⟨g101,0,none⟩),0,hM106,f.keep _ ⟨rfl,rfl,rfl,rfl,rfl,trivial⟩,S.sel [0] rfl rfl⟩ ?_
  clear f S hM106;rintro m a u ⟨p107,B108,d109,hM106,f,S⟩
  rcases m with _ | f1
  ·exact none_some hM106
  rw [m_spec_Changes_l1.eq_2] at hM106
  refine ws ?_
  revert a;refine sr (mv rfl rfl (mv rfl rfl (ov rfl (fun a f=>run_lenL rfl rfl Tryz.underlying26 (f.ev rfl)) (ov rfl (fun a f=>run_lss (f.ev rfl) (f.ev rfl) rfl) (mv rfl rfl fun a f=>?_)))))
  revert a;refine gt rfl rfl rfl rfl (fun a f hg=>run_move rfl (f.ev rfl)) (gt rfl rfl rfl rfl (fun a f hg=>run_lenL rfl rfl Tryz.underlying26 ((f.ev rfl).trans (gv_t hg))) (gt rfl rfl rfl rfl (fun a f hg=>run_move rfl (f.ev rfl)) (gt rfl rfl rfl rfl (fun a f hg=>run_lenL rfl rfl Tryz.underlying26 ((f.ev rfl).trans (gv_t hg))) (gt rfl rfl rfl rfl (fun a f hg=>run_eql ((f.ev rfl).trans (gv_t hg)) ((f.ev rfl).trans (gv_t hg)) rfl) (ov rfl (fun a f=>run_pick_and rfl (f.ev rfl) (fun hp=>((f.ev rfl).trans (gv_t hp))) rfl) fun a f=>wn ?_)))))
  cases hc110:((ltB p107.2 (x0.length:Int))&&((x0.length:Int)==(x1.length:Int)))
  ·replace hM106:=bif_f hc110 hM106
   refine cond_f f rfl hc110 ?_
   refine wp_exit ?_
   repeat with_reducible first|apply then_exit|apply in_hit|refine in_miss rfl ?_
   obtain rfl:=Option.some.inj hM106
   exact ⟨p107.1,B108,d109,rfl,f.keep _ ⟨rfl,rfl,trivial⟩,S.sel [0] rfl rfl⟩
  replace hM106:=bif_t hc110 hM106
  refine cond_t f rfl hc110 ?_
  refine wp_skip ?_
  refine ws ?_
  refine wp_block ?_
  refine ws ?_
  obtain ⟨hk111,hM106⟩:=chk_ex hM106
  replace hk111:=ixB_t hk111
  obtain ⟨hk112,hM106⟩:=chk_ex hM106
  replace hk112:=ixB_t hk112
  refine region_gw (D:=[21,22,23,24,25,26,27,28,29]) (Lr:=[.row 3 1 (.slice B108 p107.1.length d109) p107.1.length (p107.1.flatMap eI)]) (deps:=(fun | 0=>[21] | 1=>[22] | 2=>[23] | 3=>[24] | 4=>[25] | 5=>[26] | 6=>[27] | 7=>[28] | 8=>[29] | _=>[])) (rd:=(fun _=>[])) (zr:=(fun _=>[]))
   (φ:=fun i vs=>match i,vs with | 0,[v21]=>v21=.slice A0 x0.length c0 | 1,[v22]=>v22=iv p107.2 | 2,[v23]=>v23=.pointer (some ⟨adB A0,adO A0+p107.2.toNat*1,none⟩) | 3,[v24]=>v24=.bool (x0.getD p107.2.toNat false) | 4,[v25]=>v25=.slice A1 x1.length c1 | 5,[v26]=>v26=iv p107.2 | 6,[v27]=>v27=.pointer (some ⟨adB A1,adO A1+p107.2.toNat*1,none⟩) | 7,[v28]=>v28=.bool (x1.getD p107.2.toNat false) | 8,[v29]=>v29=.bool ((x0.getD p107.2.toNat false) != (x1.getD p107.2.toNat false)) | _,_=>True)
   (C:=fun _ _=>[])
   (κ:=(fun _=>none)) (Z:=(fun _=>[])) mixed f (by kernel_rfl) S ?_ ?_
  ·refine ⟨?_,?_,?_,?_,?_,?_,?_,?_,?_,trivial⟩
   ·intro a u X hB hu p hr hz hl S
    exact .inl ⟨rfl,_,u,(run_move rfl (f.evB hB rfl rfl)),rfl,S⟩
   ·intro a u X hB hu p hr hz hl S
    exact .inl ⟨rfl,_,u,(run_move rfl (f.evB hB rfl rfl)),rfl,S⟩
   ·intro a u X hB hu p hr hz hl S
    exact .inl ⟨rfl,_,u,(run_ix rfl Tryz.underlying26 sz4 (ev_sl (p 0 rfl)) (S.rc0 h0.rc) (ev_sl (p 1 rfl)) hk111),rfl,S⟩
   ·intro a u X hB hu p hr hz hl S
    exact .inl ⟨rfl,_,u,(run_load1 rfl one4 (ev_sl (p 2 rfl)) (rd_el0 (l:=x0) (S.rc0 h0.rc).rd rfl eB_len false (ix_ltn hk111 rfl) rfl)),rfl,S⟩
   ·intro a u X hB hu p hr hz hl S
    exact .inl ⟨rfl,_,u,(run_move rfl (f.evB hB rfl rfl)),rfl,S⟩
   ·intro a u X hB hu p hr hz hl S
    exact .inl ⟨rfl,_,u,(run_move rfl (f.evB hB rfl rfl)),rfl,S⟩
   ·intro a u X hB hu p hr hz hl S
    exact .inl ⟨rfl,_,u,(run_ix rfl Tryz.underlying26 sz4 (ev_sl (p 4 rfl)) (S.rc0 h1.rc) (ev_sl (p 5 rfl)) hk112),rfl,S⟩
   ·intro a u X hB hu p hr hz hl S
    exact .inl ⟨rfl,_,u,(run_load1 rfl one4 (ev_sl (p 6 rfl)) (rd_el0 (l:=x1) (S.rc0 h1.rc).rd rfl eB_len false (ix_ltn hk112 rfl) rfl)),rfl,S⟩
   intro a u X hB hu p hr hz hl S
   exact .inl ⟨rfl,_,u,(run_neqB (ev_sl (p 3 rfl)) (ev_sl (p 7 rfl)) Tryz.underlying4 rfl),rfl,S⟩
  intro a u hB hp S
  obtain ⟨q0,q1,q2,q3,q4,q5,q6,q7,q8,-⟩:=hp
  replace S:St w u [.row 3 1 (.slice B108 p107.1.length d109) p107.1.length (p107.1.flatMap eI)]:=S
  have f:=f.region hB [(21,_),(22,_),(23,_),(24,_),(25,_),(26,_),(27,_),(28,_),(29,_)] (allSl_mem ⟨q0,q1,q2,q3,q4,q5,q6,q7,q8,trivial⟩) rfl
  clear hB q0 q1 q2 q3 q4 q5 q6 q7 q8
  obtain ⟨o114,hM117,hM106⟩:=bind_ex hM106
  refine wp_cut (fun a u=>∃ (p113:List Int) (B115:Option Addr) (d116:Nat),p113=o114∧Fr a 35 [(0,.slice A0 x0.length c0),(1,.slice A1 x1.length c1),(4,.slice none 0 0),(5,.slice B115 p113.length d116),(6,iv p107.2)]∧St w u [.row 3 1 (.slice B115 p113.length d116) p113.length (p113.flatMap eI)]) ?_ ?_
  ·have _:=trivial
   cases hc118:((x0.getD p107.2.toNat false) != (x1.getD p107.2.toNat false))
   ·replace hM117:=bif_f hc118 hM117
    refine cond_f f rfl hc118 ?_
    refine wp_skip ?_
    obtain rfl:=Option.some.inj hM117
    exact ⟨p107.1,B108,d109,rfl,f.keep _ ⟨rfl,rfl,rfl,rfl,rfl,trivial⟩,S.sel [0] rfl rfl⟩
   replace hM117:=bif_t hc118 hM117
   refine cond_t f rfl hc118 ?_
   revert a;refine rl (mv rfl rfl (mv rfl rfl fun a f=>?_))
   refine op_newrowL (ls:=(([p107.2]:List Int):List Int)) (e:=eI) rfl rfl f rfl S (run_buildS (vs:=[(0,iv p107.2)]) rfl ⟨⟨rfl,(f.ev rfl)⟩,trivial⟩ (bs30_1_0 rfl)) rfl eI_len (Nat.le_of_ble_eq_true rfl) ?_;clear f S;intro a g119 u f S
   obtain ⟨hk122,hM117⟩:=chk_ex hM117
   replace hk122:=apB_t hk122
   refine op_appendL (lx:=p107.1) (ly:=([p107.2]:List Int)) rfl rfl f rfl S rfl (f.ev rfl) (f.ev rfl) (i:=1) rfl rfl Tryz.underlying30 inf3 rfl (by decide) (S.rc 0 rfl).rd rfl eI_one hk122 (by decide) ?_;clear f S;intro a B120 d121 u f S
   revert a;refine ag rfl rfl fun a f=>wn ?_
   obtain rfl:=Option.some.inj hM117
   exact ⟨p107.1++([p107.2]:List Int),B120,d121,rfl,f.keep _ ⟨rfl,rfl,rfl,rfl,rfl,trivial⟩,S.sel [1] rfl rfl⟩
  rintro a u ⟨p113,B115,d116,rfl,f,S⟩
  revert a;refine rl (mv rfl rfl (ov rfl (fun a f=>run_add (z:=w64 (p107.2+1)) (f.ev rfl) rfl rfl rfl) (ag rfl rfl fun a f=>wn ?_)))
  exact ⟨f1,Nat.lt_succ_self _,(p113,w64 (p107.2+1)),B115,d116,hM106,f.keep _ ⟨rfl,rfl,rfl,rfl,rfl,trivial⟩,S.sel [0] rfl rfl⟩
 rintro a u ⟨p102,B104,d105,rfl,f,S⟩
 revert a;refine sr (mv rfl rfl (ag rfl rfl fun a f=>wn ?_))
 refine wp_ret ?_
 refine ret1_gw (.inl rfl) f rfl (res_tmp (f.ev rfl)) ?_
 obtain rfl:=Option.some.inj hM
 exact ⟨B104,p102.length,d105,rfl,rfl,S.sel [0] rfl rfl⟩
theorem c_spec_l14Better {x0:Int} {x1:Int} {x2:Int} {x3:Int} {w:World} {r:Bool}  (hM : m_spec_l14Better x0 x1 x2 x3=some r) :
  Calls Tryz.prog 116 #[iv x0,iv x1,iv x2,iv x3] w (fun e w'=>e=.returned (.bool r)∧St w w' []):=by
 unfold m_spec_l14Better at hM
 refine calls_gx Tryz.func116 Tryz.ntmps116 rfl rfl ?_
 intro a f
 have S:=St.nil w
 revert a;refine sr (ov rfl (fun a f=>run_assign rfl rfl) fun a f=>wn ?_)
 revert a;refine sr (mv rfl rfl (mv rfl rfl (ov rfl (fun a f=>run_gtr (f.ev rfl) (f.ev rfl) rfl) (mv rfl rfl fun a f=>?_))))
 revert a;refine gf rfl rfl rfl rfl (fun a f hg=>run_move rfl (f.ev rfl)) (gf rfl rfl rfl rfl (fun a f hg=>run_move rfl (f.ev rfl)) (gf rfl rfl rfl rfl (fun a f hg=>run_eql ((f.ev rfl).trans (gv_t hg)) ((f.ev rfl).trans (gv_t hg)) rfl) (gf rfl rfl rfl rfl (fun a f hg=>run_move rfl ((f.ev rfl).trans (gv_t hg))) fun a f=>?_)))
 refine op_gv (v:=iv x1) rfl rfl f rfl (ytG (gw_yieldG f rfl rfl rfl)) (fun hg=>(run_move rfl (f.ev rfl))) ?_;clear f;intro a f
 refine op_gv (v:=iv x3) rfl rfl f rfl (ytG (gw_yieldG f rfl rfl rfl)) (fun hg=>(run_move rfl (f.ev rfl))) ?_;clear f;intro a f
 refine op_gv (v:=.bool (ltB x1 x3)) rfl rfl f rfl (ytG (gw_yieldG f rfl rfl rfl)) (fun hg=>(run_lss ((f.ev rfl).trans (gv_t hg)) ((f.ev rfl).trans (gv_t hg)) rfl)) ?_;clear f;intro a f
 revert a;refine gf rfl rfl rfl rfl (fun a f hg=>run_pick_and rfl ((f.ev rfl).trans (gv_t hg)) (fun hp=>((f.ev rfl).trans (gv_t (and_i hg hp)))) rfl) fun a f=>?_
 revert a;refine ov rfl (fun a f=>run_pick_or rfl (f.ev rfl) rfl (fun hp=>((f.ev rfl).trans (gv_t (not_t hp))))) (ag rfl rfl fun a f=>wn ?_)
 refine wp_ret ?_
 refine ret1_gw (.inl rfl) f rfl (res_tmp (f.ev rfl)) ?_
 obtain rfl:=Option.some.inj hM
 exact ⟨rfl,S.sel [] rfl rfl⟩
theorem c_spec_BestState {x0:Int} {x1:List (Int×Int×Int)} {x2:List Bool} {x3:List (Int×Int)} {x4:List Int} {A1:Option Addr} {n1 c1:Nat} {A2:Option Addr} {n2 c2:Nat} {A3:Option Addr} {n3 c3:Nat} {A4:Option Addr} {n4 c4:Nat} {w:World} {r:List Bool×Bool} (h1:Rt w 3 eLine A1 n1 c1 x1) (h2:Rt w 1 eB A2 n2 c2 x2) (h3:Rt w 2 eBus A3 n3 c3 x3) (h4:Rt w 1 eI A4 n4 c4 x4) (hM : m_spec_BestState x0 x1 x2 x3 x4=some r) :
  Calls Tryz.prog 81 #[.agg #[iv x0,.slice A1 n1 c1],.slice A2 n2 c2,.slice A3 n3 c3,.slice A4 n4 c4] w (fun e w'=>∃ (B0:Option Addr) (N0 D0:Nat),e=.returned (.tuple #[.slice B0 N0 D0,.bool r.2])∧N0=r.1.length∧St w w' [.row 4 1 (.slice B0 N0 D0) N0 (r.1.flatMap eB)]):=by
 obtain rfl:=h1.len
 obtain rfl:=h2.len
 obtain rfl:=h3.len
 obtain rfl:=h4.len
 unfold m_spec_BestState at hM
 refine calls_gx Tryz.func81 Tryz.ntmps81 rfl rfl ?_
 intro a f
 have S:=St.nil w
 refine wsg ?_
 refine op_new (cs:=#[iv x0,.slice A1 x1.length c1]) rfl rfl f rfl S (run_box rfl (f.ev rfl) rfl) ?_;clear f S;intro a g101 u f S
 revert a;refine ov rfl (fun a f=>run_assign rfl rfl) (ov rfl (fun a f=>run_assign rfl rfl) fun a f=>wn ?_)
 refine wsg ?_
 refine op_newrow (cs:=#[]) (size:=1) rfl rfl f rfl S (run_buildSlice0 rfl Tryz.underlying26 (congrArg Option.isSome sz4)) rfl (Nat.zero_le _) ?_;clear f S;intro a g102 u f S
 revert a;refine ag rfl rfl fun a f=>wn ?_
 refine ws ?_
 revert a;refine sr (ov rfl (fun a f=>run_loadN rfl ag37 (f.ev rfl) rfl ((S.free 1 rfl).cells 0 #[iv x0,.slice A1 x1.length c1] rfl)) (mv rfl rfl (mv rfl rfl fun a f=>?_)))
 obtain ⟨p103,h103,hM⟩:=bind_ex hM
 refine op_call rfl rfl f rfl (run_call (vs:=[_,_,_]) rfl rfl co91 ⟨(f.ev rfl),(f.ev rfl),(f.ev rfl),trivial⟩) (c_spec_l5Ok ⟨(S.rc0 h1.rc),rfl⟩ ⟨(S.rc0 h2.rc),rfl⟩ ⟨(S.rc0 h3.rc),rfl⟩ h103) ?_
 rintro e u ⟨rfl,T⟩
 refine ⟨_,rfl,?_⟩
 clear f;intro a f
 replace S:=S.call0 T;clear T
 revert a;refine ov rfl (fun a f=>run_not rfl (f.ev rfl)) fun a f=>wn ?_
 cases hc104:(p103)
 ·replace hM:=bif_f hc104 hM
  refine cond_t f rfl (not_t hc104) ?_
  revert a;refine sr (mv rfl rfl (ag rfl rfl (ov rfl (fun a f=>run_assign rfl rfl) fun a f=>wn ?_)))
  refine wp_ret ?_
  repeat with_reducible first|apply tr|apply ir|apply nr
  refine ret2_gw (.inl rfl) f rfl (res_tmp (f.ev rfl)) (res_tmp (f.ev rfl)) ?_
  obtain rfl:=Option.some.inj hM
  exact ⟨(some ⟨g102,0,none⟩),0,0,rfl,rfl,S.sel [0] rfl rfl⟩
 replace hM:=bif_t hc104 hM
 refine cond_f f rfl (not_f hc104) ?_
 refine wp_skip ?_
 revert a;refine sr (ov rfl (fun a f=>run_assign rfl rfl) fun a f=>wn ?_)
 revert a;refine sr (ov rfl (fun a f=>run_assign rfl rfl) fun a f=>wn ?_)
 refine ws ?_
 revert a;refine sr (ov rfl (fun a f=>run_assign rfl rfl) fun a f=>wn ?_)
 obtain ⟨o106,hM109,hM⟩:=bind_ex hM
 refine wp_cut (fun a u=>∃ (p105:List Bool×Int) (B107:Option Addr) (d108:Nat),p105=o106∧Fr a 99 [(8,.slice none 0 0),(9,.bool false),(10,.slice B107 p105.1.length d108),(11,iv p105.2)]∧St w u [.row 4 1 (.slice B107 p105.1.length d108) p105.1.length (p105.1.flatMap eB)]) ?_ ?_
 ·have _:=trivial
  refine wp_block ?_
  refine loop_gw (fun m a u=>∃ (p110:List Bool×Int×Int×Int) (B111:Option Addr) (d112:Nat),m_spec_BestState_l1 x0 x1 x2 x3 x4 m p110=some _∧Fr a 99 [(1,.slice A2 x2.length c2),(2,.slice A3 x3.length c3),(3,.slice A4 x4.length c4),(4,.pointer (some ⟨g101,0,none⟩)),(8,.slice none 0 0),(9,.bool false),(10,.slice B111 p110.1.length d112),(11,iv p110.2.1),(12,iv p110.2.2.1),(13,iv p110.2.2.2)]∧St w u [.box g101 37 #[iv x0,.slice A1 x1.length c1],.row 4 1 (.slice B111 p110.1.length d112) p110.1.length (p110.1.flatMap eB)]) FUEL ⟨(([]:List Bool),-1,0,0),(some ⟨g102,0,none⟩),0,hM109,f.keep _ ⟨rfl,rfl,rfl,rfl,rfl,rfl,rfl,rfl,rfl,rfl,trivial⟩,S.sel [1,0] rfl rfl⟩ ?_
  clear f S hM109;rintro m a u ⟨p110,B111,d112,hM109,f,S⟩
  rcases m with _ | f1
  ·exact none_some hM109
  rw [m_spec_BestState_l1.eq_2] at hM109
  refine ws ?_
  revert a;refine sr (mv rfl rfl (mv rfl rfl (ov rfl (fun a f=>run_lenL rfl rfl Tryz.underlying26 (f.ev rfl)) fun a f=>?_)))
  obtain ⟨hk113,hM109⟩:=chk_ex hM109
  replace hk113:=nnB_t hk113
  revert a;refine ov rfl (fun a f=>run_shl rfl (f.ev rfl) rfl hk113) (ov rfl (fun a f=>run_lss (f.ev rfl) (f.ev rfl) rfl) fun a f=>wn ?_)
  cases hc114:(ltB p110.2.2.2 (bitsShl .i64 1 (x2.length:Int)))
  ·replace hM109:=bif_f hc114 hM109
   refine cond_f f rfl hc114 ?_
   refine wp_exit ?_
   repeat with_reducible first|apply then_exit|apply in_hit|refine in_miss rfl ?_
   obtain rfl:=Option.some.inj hM109
   exact ⟨(p110.1,p110.2.1),B111,d112,rfl,f.keep _ ⟨rfl,rfl,rfl,rfl,trivial⟩,S.sel [1] rfl rfl⟩
  replace hM109:=bif_t hc114 hM109
  refine cond_t f rfl hc114 ?_
  refine wp_skip ?_
  refine ws ?_
  refine wp_block ?_
  revert a;refine sr (mv rfl rfl (mv rfl rfl (ov rfl (fun a f=>run_lenL rfl rfl Tryz.underlying26 (f.ev rfl)) fun a f=>?_)))
  obtain ⟨p115,h115,hM109⟩:=bind_ex hM109
  refine op_call rfl rfl f rfl (run_call (vs:=[_,_]) rfl rfl co114 ⟨(f.ev rfl),(f.ev rfl),trivial⟩) (c_spec_StateOf  h115) ?_
  rintro e u ⟨B116,n117,d118,rfl,rfl,T⟩
  refine ⟨_,rfl,?_⟩
  clear f;intro a f
  replace S:=S.call1 T;clear T
  revert a;refine mv rfl rfl (ov rfl (fun a f=>run_extract rfl (f.ev rfl) rfl) (ov rfl (fun a f=>run_extract rfl (f.ev rfl) rfl) (ag rfl rfl (ag rfl rfl fun a f=>wn ?_))))
  revert a;refine sr (ov rfl (fun a f=>run_assign rfl rfl) fun a f=>wn ?_)
  refine ws ?_
  revert a;refine sr (ov rfl (fun a f=>run_assign rfl rfl) fun a f=>wn ?_)
  obtain ⟨o120,hM121,hM109⟩:=bind_ex hM109
  refine wp_cut (fun a u=>∃ (p119:Bool),p119=o120∧Fr a 99 [(1,.slice A2 x2.length c2),(2,.slice A3 x3.length c3),(3,.slice A4 x4.length c4),(4,.pointer (some ⟨g101,0,none⟩)),(8,.slice none 0 0),(9,.bool false),(10,.slice B111 p110.1.length d112),(11,iv p110.2.1),(12,iv p110.2.2.1),(13,iv p110.2.2.2),(14,.slice B116 p115.1.length d118),(16,.bool p119)]∧St w u [.box g101 37 #[iv x0,.slice A1 x1.length c1],.row 4 1 (.slice B111 p110.1.length d112) p110.1.length (p110.1.flatMap eB),.row 4 1 (.slice B116 p115.1.length d118) p115.1.length (p115.1.flatMap eB)]) ?_ ?_
  ·have _:=trivial
   refine wp_block ?_
   refine loop_gw (fun m a u=>∃ (p122:Bool×Int),m_spec_BestState_l2 x2 x4 p115 m p122=some _∧Fr a 99 [(1,.slice A2 x2.length c2),(2,.slice A3 x3.length c3),(3,.slice A4 x4.length c4),(4,.pointer (some ⟨g101,0,none⟩)),(8,.slice none 0 0),(9,.bool false),(10,.slice B111 p110.1.length d112),(11,iv p110.2.1),(12,iv p110.2.2.1),(13,iv p110.2.2.2),(14,.slice B116 p115.1.length d118),(16,.bool p122.1),(17,iv p122.2)]∧St w u [.box g101 37 #[iv x0,.slice A1 x1.length c1],.row 4 1 (.slice B111 p110.1.length d112) p110.1.length (p110.1.flatMap eB),.row 4 1 (.slice B116 p115.1.length d118) p115.1.length (p115.1.flatMap eB)]) FUEL ⟨(true,0),hM121,f.keep _ ⟨rfl,rfl,rfl,rfl,rfl,rfl,rfl,rfl,rfl,rfl,rfl,rfl,rfl,trivial⟩,S.sel [1,2,0] rfl rfl⟩ ?_
   clear f S hM121;rintro m a u ⟨p122,hM121,f,S⟩
   rcases m with _ | f2
   ·exact none_some hM121
   rw [m_spec_BestState_l2.eq_2] at hM121
   refine ws ?_
   revert a;refine sr (mv rfl rfl (mv rfl rfl (ov rfl (fun a f=>run_lenL rfl rfl Tryz.underlying30 (f.ev rfl)) (ov rfl (fun a f=>run_lss (f.ev rfl) (f.ev rfl) rfl) fun a f=>wn ?_))))
   cases hc123:(ltB p122.2 (x4.length:Int))
   ·replace hM121:=bif_f hc123 hM121
    refine cond_f f rfl hc123 ?_
    refine wp_exit ?_
    repeat with_reducible first|apply then_exit|apply in_hit|refine in_miss rfl ?_
    obtain rfl:=Option.some.inj hM121
    exact ⟨p122.1,rfl,f.keep _ ⟨rfl,rfl,rfl,rfl,rfl,rfl,rfl,rfl,rfl,rfl,rfl,rfl,trivial⟩,S.sel [0,1,2] rfl rfl⟩
   replace hM121:=bif_t hc123 hM121
   refine cond_t f rfl hc123 ?_
   refine wp_skip ?_
   refine ws ?_
   refine wp_block ?_
   revert a;refine rl (mv rfl rfl (mv rfl rfl fun a f=>?_))
   revert a;refine gt rfl rfl rfl rfl (fun a f hg=>run_move rfl (f.ev rfl)) (gt rfl rfl rfl rfl (fun a f hg=>run_move rfl (f.ev rfl)) fun a f=>?_)
   obtain ⟨hk124,hM121⟩:=chk_ex hM121
   replace hk124:=fun hg=>ixB_t (imp_t hk124 hg)
   revert a;refine gt rfl rfl rfl rfl (fun a f hg=>run_ix rfl Tryz.underlying30 sz3 ((f.ev rfl).trans (gv_t hg)) (S.rc0 h4.rc) ((f.ev rfl).trans (gv_t hg)) (hk124 hg)) (gt rfl rfl rfl rfl (fun a f hg=>run_load1 rfl one3 ((f.ev rfl).trans (gv_t hg)) (rd_el0 (l:=x4) (S.rc0 h4.rc).rd rfl eI_len 0 (ix_ltn (hk124 hg) rfl) rfl)) (gt rfl rfl rfl rfl (fun a f hg=>run_move rfl (f.ev rfl)) (gt rfl rfl rfl rfl (fun a f hg=>run_lenL rfl rfl Tryz.underlying26 ((f.ev rfl).trans (gv_t hg))) (gt rfl rfl rfl rfl (fun a f hg=>run_sub (z:=w64 ((x2.length:Int)-1)) ((f.ev rfl).trans (gv_t hg)) rfl rfl rfl) fun a f=>?_))))
   obtain ⟨p125,h125,hM121⟩:=bind_ex hM121
   refine op_gcall (v:=.bool p125) rfl rfl f rfl S (yt (gw_yield f rfl rfl rfl)) (fun hg=>(run_call (vs:=[iv (x4.getD p122.2.toNat 0),iv 0,iv (w64 ((x2.length:Int)-1))]) rfl rfl co51 ⟨((f.ev rfl).trans (gv_t hg)),rfl,((f.ev rfl).trans (gv_t hg)),trivial⟩)) (fun hg=>c_spec_l1In (x0:=(x4.getD p122.2.toNat 0)) (x1:=0) (x2:=w64 ((x2.length:Int)-1))  (gb_t h125 hg)) ?_;clear f S;intro a u f S
   revert a;refine gt rfl rfl rfl rfl (fun a f hg=>run_not rfl ((f.ev rfl).trans (gv_t hg))) (gt rfl rfl rfl rfl (fun a f hg=>run_move rfl ((f.ev rfl).trans (gv_t hg))) fun a f=>?_)
   refine op_gv (v:=.slice B116 p115.1.length d118) rfl rfl f rfl (yfG (gw_yieldG f rfl rfl rfl)) (fun hg=>(run_move rfl (f.ev rfl))) ?_;clear f;intro a f
   refine op_gv (v:=.slice A4 x4.length c4) rfl rfl f rfl (yfG (gw_yieldG f rfl rfl rfl)) (fun hg=>(run_move rfl (f.ev rfl))) ?_;clear f;intro a f
   refine op_gv (v:=iv p122.2) rfl rfl f rfl (yfG (gw_yieldG f rfl rfl rfl)) (fun hg=>(run_move rfl (f.ev rfl))) ?_;clear f;intro a f
   obtain ⟨hk126,hM121⟩:=chk_ex hM121
   replace hk126:=fun hg=>ixB_t (imp_t hk126 hg)
   refine op_gv (v:=.pointer (some ⟨adB A4,adO A4+p122.2.toNat*1,none⟩)) rfl rfl f rfl (yfG (gw_yieldG f rfl rfl rfl)) (fun hg=>(run_ix rfl Tryz.underlying30 sz3 ((f.ev rfl).trans (gv_t hg)) (S.rc0 h4.rc) ((f.ev rfl).trans (gv_t hg)) (hk126 hg))) ?_;clear f;intro a f
   refine op_gv (v:=iv (x4.getD p122.2.toNat 0)) rfl rfl f rfl (yfG (gw_yieldG f rfl rfl rfl)) (fun hg=>(run_load1 rfl one3 ((f.ev rfl).trans (gv_t hg)) (rd_el0 (l:=x4) (S.rc0 h4.rc).rd rfl eI_len 0 (ix_ltn (hk126 hg) rfl) rfl))) ?_;clear f;intro a f
   obtain ⟨hk127,hM121⟩:=chk_ex hM121
   replace hk127:=fun hg=>ixB_t (imp_t hk127 hg)
   refine op_gv (v:=.pointer (some ⟨adB B116,adO B116+((x4.getD p122.2.toNat 0).toNat)*1,none⟩)) rfl rfl f rfl (yfG (gw_yieldG f rfl rfl rfl)) (fun hg=>(run_ix rfl Tryz.underlying26 sz4 ((f.ev rfl).trans (gv_t hg)) (S.rc 2 rfl) ((f.ev rfl).trans (gv_t hg)) (hk127 hg))) ?_;clear f;intro a f
   refine op_gv (v:=.bool (p115.1.getD ((x4.getD p122.2.toNat 0).toNat) false)) rfl rfl f rfl (yfG (gw_yieldG f rfl rfl rfl)) (fun hg=>(run_load1 rfl one4 ((f.ev rfl).trans (gv_t hg)) (rd_el0 (l:=p115.1) (S.rc 2 rfl).rd rfl eB_len false (ix_ltn (hk127 hg) rfl) rfl))) ?_;clear f;intro a f
   refine op_gv (v:=.bool (!(p115.1.getD ((x4.getD p122.2.toNat 0).toNat) false))) rfl rfl f rfl (yfG (gw_yieldG f rfl rfl rfl)) (fun hg=>(run_not rfl ((f.ev rfl).trans (gv_t hg)))) ?_;clear f;intro a f
   revert a;refine gt rfl rfl rfl rfl (fun a f hg=>run_pick_or rfl ((f.ev rfl).trans (gv_t hg)) rfl (fun hp=>((f.ev rfl).trans (gv_t (and_i hg (not_t hp)))))) fun a f=>?_
   revert a;refine ov rfl (fun a f=>run_pick_and rfl (f.ev rfl) (fun hp=>((f.ev rfl).trans (gv_t hp))) rfl) (ag rfl rfl fun a f=>wn ?_)
   revert a;refine rl (mv rfl rfl (ov rfl (fun a f=>run_add (z:=w64 (p122.2+1)) (f.ev rfl) rfl rfl rfl) (ag rfl rfl fun a f=>wn ?_)))
   exact ⟨f2,Nat.lt_succ_self _,(p122.1&&((!p125)||(!(p115.1.getD ((x4.getD p122.2.toNat 0).toNat) false))),w64 (p122.2+1)),hM121,f.keep _ ⟨rfl,rfl,rfl,rfl,rfl,rfl,rfl,rfl,rfl,rfl,rfl,rfl,rfl,trivial⟩,S.sel [0,1,2] rfl rfl⟩
  rintro a u ⟨p119,rfl,f,S⟩
  refine ws ?_
  obtain ⟨o129,hM130,hM109⟩:=bind_ex hM109
  refine wp_cut (fun a u=>∃ (p128:Bool),p128=o129∧Fr a 99 [(1,.slice A2 x2.length c2),(2,.slice A3 x3.length c3),(3,.slice A4 x4.length c4),(4,.pointer (some ⟨g101,0,none⟩)),(8,.slice none 0 0),(9,.bool false),(10,.slice B111 p110.1.length d112),(11,iv p110.2.1),(12,iv p110.2.2.1),(13,iv p110.2.2.2),(14,.slice B116 p115.1.length d118),(86,.bool p128)]∧St w u [.box g101 37 #[iv x0,.slice A1 x1.length c1],.row 4 1 (.slice B111 p110.1.length d112) p110.1.length (p110.1.flatMap eB),.row 4 1 (.slice B116 p115.1.length d118) p115.1.length (p115.1.flatMap eB)]) ?_ ?_
  ·have _:=trivial
   revert a;refine rl (mv rfl rfl (mv rfl rfl fun a f=>?_))
   revert a;refine gt rfl rfl rfl rfl (fun a f hg=>run_loadN rfl ag37 (f.ev rfl) rfl ((S.free 0 rfl).cells 0 #[iv x0,.slice A1 x1.length c1] rfl)) (gt rfl rfl rfl rfl (fun a f hg=>run_move rfl (f.ev rfl)) (gt rfl rfl rfl rfl (fun a f hg=>run_move rfl (f.ev rfl)) fun a f=>?_))
   obtain ⟨p131,h131,hM130⟩:=bind_ex hM130
   refine op_gcall (v:=.bool p131) rfl rfl f rfl S (yt (gw_yield f rfl rfl rfl)) (fun hg=>(run_call (vs:=[.agg #[iv x0,.slice A1 x1.length c1],.slice B116 p115.1.length d118,.slice A3 x3.length c3]) rfl rfl co115 ⟨((f.ev rfl).trans (gv_t hg)),((f.ev rfl).trans (gv_t hg)),((f.ev rfl).trans (gv_t hg)),trivial⟩)) (fun hg=>c_spec_NetGood (x0:=x0) (x1:=x1) (x2:=p115.1) (x3:=x3) ⟨(S.rc0 h1.rc),rfl⟩ ⟨(S.rc 2 rfl),rfl⟩ ⟨(S.rc0 h3.rc),rfl⟩ (gb_t h131 hg)) ?_;clear f S;intro a u f S
   revert a;refine ov rfl (fun a f=>run_pick_and rfl (f.ev rfl) (fun hp=>((f.ev rfl).trans (gv_t hp))) rfl) (mv rfl rfl fun a f=>?_)
   revert a;refine gt rfl rfl rfl rfl (fun a f hg=>run_loadN rfl ag37 (f.ev rfl) rfl ((S.free 0 rfl).cells 0 #[iv x0,.slice A1 x1.length c1] rfl)) (gt rfl rfl rfl rfl (fun a f hg=>run_move rfl (f.ev rfl)) (gt rfl rfl rfl rfl (fun a f hg=>run_move rfl (f.ev rfl)) fun a f=>?_))
   obtain ⟨p132,h132,hM130⟩:=bind_ex hM130
   refine op_gcall (v:=iv p132) rfl rfl f rfl S (yt (gw_yield f rfl rfl rfl)) (fun hg=>(run_call (vs:=[.agg #[iv x0,.slice A1 x1.length c1],.slice B116 p115.1.length d118,.slice A3 x3.length c3]) rfl rfl co117 ⟨((f.ev rfl).trans (gv_t hg)),((f.ev rfl).trans (gv_t hg)),((f.ev rfl).trans (gv_t hg)),trivial⟩)) (fun hg=>c_spec_ServedLoad (x0:=x0) (x1:=x1) (x2:=p115.1) (x3:=x3) ⟨(S.rc0 h1.rc),rfl⟩ ⟨(S.rc 2 rfl),rfl⟩ ⟨(S.rc0 h3.rc),rfl⟩ (gb_t h132 hg)) ?_;clear f S;intro a u f S
   revert a;refine gt rfl rfl rfl rfl (fun a f hg=>run_move rfl (f.ev rfl)) (gt rfl rfl rfl rfl (fun a f hg=>run_move rfl (f.ev rfl)) fun a f=>?_)
   cases hc133:(p119&&p131)
   ·replace hM130:=bif_f hc133 hM130
    refine op_skipped rfl ((gw_yield f rfl rfl rfl).trans (congrArg some hc133)) rfl rfl f rfl ?_;clear f;intro a f
    refine op_skipped rfl ((gw_yield f rfl rfl rfl).trans (congrArg some hc133)) rfl rfl f rfl ?_;clear f;intro a f
    refine op_skipped rfl ((gw_yield f rfl rfl rfl).trans (congrArg some hc133)) rfl rfl f rfl ?_;clear f;intro a f
    refine op_skipped rfl ((gw_yield f rfl rfl rfl).trans (congrArg some hc133)) rfl rfl f rfl ?_;clear f;intro a f
    refine op_skipped rfl ((gw_yield f rfl rfl rfl).trans (congrArg some hc133)) rfl rfl f rfl ?_;clear f;intro a f
    revert a;refine ov rfl (fun a f=>run_pick_f rfl (f.ev rfl) hc133 rfl) fun a f=>wn ?_
    obtain rfl:=Option.some.inj hM130
    exact ⟨false,rfl,f.keep _ ⟨rfl,rfl,rfl,rfl,rfl,rfl,rfl,rfl,rfl,rfl,rfl,rfl,trivial⟩,S.sel [0,1,2] rfl rfl⟩
   replace hM130:=bif_t hc133 hM130
   refine op_guarded rfl ((gw_yield f rfl rfl rfl).trans (congrArg some hc133)) ?_
   obtain ⟨p134,h134,hM130⟩:=bind_ex hM130
   refine op_call rfl rfl f rfl (run_call (vs:=[_,_]) rfl rfl co118 ⟨((f.ev rfl).trans (gv_t hc133)),((f.ev rfl).trans (gv_t hc133)),trivial⟩) (c_spec_Changes ⟨(S.rc0 h2.rc),rfl⟩ ⟨(S.rc 2 rfl),rfl⟩ h134) ?_
   rintro e u ⟨B135,n136,d137,rfl,rfl,T⟩
   refine ⟨_,rfl,?_⟩
   clear f;intro a f
   replace S:=S.call1 T;clear T
   refine op_guarded rfl ((gw_yield f rfl rfl rfl).trans (congrArg some hc133)) ?_
   revert a;refine ov rfl (fun a f=>run_lenL rfl rfl Tryz.underlying30 (f.ev rfl)) fun a f=>?_
   refine op_guarded rfl ((gw_yield f rfl rfl rfl).trans (congrArg some hc133)) ?_
   revert a;refine mv rfl rfl fun a f=>?_
   refine op_guarded rfl ((gw_yield f rfl rfl rfl).trans (congrArg some hc133)) ?_
   revert a;refine mv rfl rfl fun a f=>?_
   refine op_guarded rfl ((gw_yield f rfl rfl rfl).trans (congrArg some hc133)) ?_
   obtain ⟨p138,h138,hM130⟩:=bind_ex hM130
   refine op_call rfl rfl f rfl (run_call (vs:=[_,_,_,_]) rfl rfl co116 ⟨((f.ev rfl).trans (gv_t hc133)),(f.ev rfl),(f.ev rfl),(f.ev rfl),trivial⟩) (c_spec_l14Better  h138) ?_
   rintro e u ⟨rfl,T⟩
   refine ⟨_,rfl,?_⟩
   clear f;intro a f
   replace S:=S.call0 T;clear T
   revert a;refine ov rfl (fun a f=>run_pick_t rfl (f.ev rfl) hc133 (f.ev rfl)) fun a f=>wn ?_
   obtain rfl:=Option.some.inj hM130
   exact ⟨p138,rfl,f.keep _ ⟨rfl,rfl,rfl,rfl,rfl,rfl,rfl,rfl,rfl,rfl,rfl,rfl,trivial⟩,S.sel [1,2,3] rfl rfl⟩
  rintro a u ⟨p128,rfl,f,S⟩
  obtain ⟨o140,hM143,hM109⟩:=bind_ex hM109
  refine wp_cut (fun a u=>∃ (p139:List Bool×Int×Int) (B141:Option Addr) (d142:Nat),p139=o140∧Fr a 99 [(1,.slice A2 x2.length c2),(2,.slice A3 x3.length c3),(3,.slice A4 x4.length c4),(4,.pointer (some ⟨g101,0,none⟩)),(8,.slice none 0 0),(9,.bool false),(10,.slice B141 p139.1.length d142),(11,iv p139.2.1),(12,iv p139.2.2),(13,iv p110.2.2.2)]∧St w u [.box g101 37 #[iv x0,.slice A1 x1.length c1],.row 4 1 (.slice B141 p139.1.length d142) p139.1.length (p139.1.flatMap eB)]) ?_ ?_
  ·have _:=trivial
   cases hc144:(p128)
   ·replace hM143:=bif_f hc144 hM143
    refine cond_f f rfl hc144 ?_
    refine wp_skip ?_
    obtain rfl:=Option.some.inj hM143
    exact ⟨(p110.1,p110.2.1,p110.2.2.1),B111,d112,rfl,f.keep _ ⟨rfl,rfl,rfl,rfl,rfl,rfl,rfl,rfl,rfl,rfl,trivial⟩,S.sel [0,1] rfl rfl⟩
   replace hM143:=bif_t hc144 hM143
   refine cond_t f rfl hc144 ?_
   revert a;refine sr (ov rfl (fun a f=>run_loadN rfl ag37 (f.ev rfl) rfl ((S.free 0 rfl).cells 0 #[iv x0,.slice A1 x1.length c1] rfl)) (mv rfl rfl (mv rfl rfl fun a f=>?_)))
   obtain ⟨p145,h145,hM143⟩:=bind_ex hM143
   refine op_call rfl rfl f rfl (run_call (vs:=[_,_,_]) rfl rfl co117 ⟨(f.ev rfl),(f.ev rfl),(f.ev rfl),trivial⟩) (c_spec_ServedLoad ⟨(S.rc0 h1.rc),rfl⟩ ⟨(S.rc 2 rfl),rfl⟩ ⟨(S.rc0 h3.rc),rfl⟩ h145) ?_
   rintro e u ⟨rfl,T⟩
   refine ⟨_,rfl,?_⟩
   clear f;intro a f
   replace S:=S.call0 T;clear T
   revert a;refine ag rfl rfl fun a f=>wn ?_
   revert a;refine sr (mv rfl rfl (mv rfl rfl fun a f=>?_))
   obtain ⟨p146,h146,hM143⟩:=bind_ex hM143
   refine op_call rfl rfl f rfl (run_call (vs:=[_,_]) rfl rfl co118 ⟨(f.ev rfl),(f.ev rfl),trivial⟩) (c_spec_Changes ⟨(S.rc0 h2.rc),rfl⟩ ⟨(S.rc 2 rfl),rfl⟩ h146) ?_
   rintro e u ⟨B147,n148,d149,rfl,rfl,T⟩
   refine ⟨_,rfl,?_⟩
   clear f;intro a f
   replace S:=S.call1 T;clear T
   revert a;refine ov rfl (fun a f=>run_lenL rfl rfl Tryz.underlying30 (f.ev rfl)) (ag rfl rfl fun a f=>wn ?_)
   revert a;refine rl (mv rfl rfl (ag rfl rfl fun a f=>wn ?_))
   obtain rfl:=Option.some.inj hM143
   exact ⟨(p115.1,p145,(p146.length:Int)),B116,d118,rfl,f.keep _ ⟨rfl,rfl,rfl,rfl,rfl,rfl,rfl,rfl,rfl,rfl,trivial⟩,S.sel [1,3] rfl rfl⟩
  rintro a u ⟨p139,B141,d142,rfl,f,S⟩
  revert a;refine rl (mv rfl rfl (ov rfl (fun a f=>run_add (z:=w64 (p110.2.2.2+1)) (f.ev rfl) rfl rfl rfl) (ag rfl rfl fun a f=>wn ?_)))
  exact ⟨f1,Nat.lt_succ_self _,(p139.1,p139.2.1,p139.2.2,w64 (p110.2.2.2+1)),B141,d142,hM109,f.keep _ ⟨rfl,rfl,rfl,rfl,rfl,rfl,rfl,rfl,rfl,rfl,trivial⟩,S.sel [0,1] rfl rfl⟩
 rintro a u ⟨p105,B107,d108,rfl,f,S⟩
 revert a;refine sr (mv rfl rfl (mv rfl rfl (ov rfl (fun a f=>run_geq (f.ev rfl) rfl rfl) (ag rfl rfl (ag rfl rfl fun a f=>wn ?_)))))
 refine wp_ret ?_
 refine ret2_gw (.inl rfl) f rfl (res_tmp (f.ev rfl)) (res_tmp (f.ev rfl)) ?_
 obtain rfl:=Option.some.inj hM
 exact ⟨B107,p105.1.length,d108,rfl,rfl,S.sel [0] rfl rfl⟩
theorem c_spec_OrderTo {x0:List Bool} {x1:List Bool} {A0:Option Addr} {n0 c0:Nat} {A1:Option Addr} {n1 c1:Nat} {w:World} {r:List (Int×Bool)} (h0:Rt w 1 eB A0 n0 c0 x0) (h1:Rt w 1 eB A1 n1 c1 x1) (hM : m_spec_OrderTo x0 x1=some r) :
  Calls Tryz.prog 82 #[.slice A0 n0 c0,.slice A1 n1 c1] w (fun e w'=>∃ (B0:Option Addr) (N0 D0:Nat),e=.returned (.slice B0 N0 D0)∧N0=r.length∧St w w' [.row 84 2 (.slice B0 N0 D0) N0 (r.flatMap eStep)]):=by
 obtain rfl:=h0.len
 obtain rfl:=h1.len
 unfold m_spec_OrderTo at hM
 refine calls_gx Tryz.func82 Tryz.ntmps82 rfl rfl ?_
 intro a f
 have S:=St.nil w
 revert a;refine sr (ov rfl (fun a f=>run_assign rfl rfl) fun a f=>wn ?_)
 refine wsg ?_
 refine op_newrow (cs:=#[]) (size:=2) rfl rfl f rfl S (run_buildSlice0 rfl Tryz.underlying80 (congrArg Option.isSome sz84)) rfl (Nat.zero_le _) ?_;clear f S;intro a g101 u f S
 revert a;refine ag rfl rfl fun a f=>wn ?_
 revert a;refine sr (mv rfl rfl (mv rfl rfl fun a f=>?_))
 obtain ⟨p102,h102,hM⟩:=bind_ex hM
 refine op_call rfl rfl f rfl (run_call (vs:=[_,_]) rfl rfl co118 ⟨(f.ev rfl),(f.ev rfl),trivial⟩) (c_spec_Changes ⟨(S.rc0 h0.rc),rfl⟩ ⟨(S.rc0 h1.rc),rfl⟩ h102) ?_
 rintro e u ⟨B103,n104,d105,rfl,rfl,T⟩
 refine ⟨_,rfl,?_⟩
 clear f;intro a f
 replace S:=S.call1 T;clear T
 revert a;refine ag rfl rfl fun a f=>wn ?_
 refine ws ?_
 revert a;refine sr (mv rfl rfl (ov rfl (fun a f=>run_lenL rfl rfl Tryz.underlying26 (f.ev rfl)) (ov rfl (fun a f=>run_gtr (f.ev rfl) rfl rfl) fun a f=>wn ?_)))
 cases hc106:(ltB 10 (x0.length:Int))
 ·replace hM:=bif_f hc106 hM
  refine cond_f f rfl hc106 ?_
  refine wp_skip ?_
  refine ws ?_
  revert a;refine sr (ov rfl (fun a f=>run_assign rfl rfl) fun a f=>wn ?_)
  obtain ⟨o108,hM111,hM⟩:=bind_ex hM
  refine wp_cut (fun a u=>∃ (p107:List (Int×Bool)) (B109:Option Addr) (d110:Nat),p107=o108∧Fr a 60 [(1,.slice A1 x1.length c1),(4,.slice none 0 0),(5,.slice B109 p107.length d110),(6,.slice B103 p102.length d105)]∧St w u [.row 84 2 (.slice B109 p107.length d110) p107.length (p107.flatMap eStep),.row 3 1 (.slice B103 p102.length d105) p102.length (p102.flatMap eI)]) ?_ ?_
  ·have _:=trivial
   refine wp_block ?_
   refine loop_gw (fun m a u=>∃ (p112:List (Int×Bool)×Int) (B113:Option Addr) (d114:Nat),m_spec_OrderTo_l1 x0 p102 m p112=some _∧Fr a 60 [(0,.slice A0 x0.length c0),(1,.slice A1 x1.length c1),(4,.slice none 0 0),(5,.slice B113 p112.1.length d114),(6,.slice B103 p102.length d105),(7,iv p112.2)]∧St w u [.row 84 2 (.slice B113 p112.1.length d114) p112.1.length (p112.1.flatMap eStep),.row 3 1 (.slice B103 p102.length d105) p102.length (p102.flatMap eI)]) FUEL ⟨(([]:List (Int×Bool)),0),(some ⟨g101,0,none⟩),0,hM111,f.keep _ ⟨rfl,rfl,rfl,rfl,rfl,rfl,trivial⟩,S.sel [1,0] rfl rfl⟩ ?_
   clear f S hM111;rintro m a u ⟨p112,B113,d114,hM111,f,S⟩
   rcases m with _ | f1
   ·exact none_some hM111
   rw [m_spec_OrderTo_l1.eq_2] at hM111
   refine ws ?_
   revert a;refine sr (mv rfl rfl (mv rfl rfl (ov rfl (fun a f=>run_lenL rfl rfl Tryz.underlying30 (f.ev rfl)) (ov rfl (fun a f=>run_lss (f.ev rfl) (f.ev rfl) rfl) fun a f=>wn ?_))))
   cases hc115:(ltB p112.2 (p102.length:Int))
   ·replace hM111:=bif_f hc115 hM111
    refine cond_f f rfl hc115 ?_
    refine wp_exit ?_
    repeat with_reducible first|apply then_exit|apply in_hit|refine in_miss rfl ?_
    obtain rfl:=Option.some.inj hM111
    exact ⟨p112.1,B113,d114,rfl,f.keep _ ⟨rfl,rfl,rfl,rfl,trivial⟩,S.sel [0,1] rfl rfl⟩
   replace hM111:=bif_t hc115 hM111
   refine cond_t f rfl hc115 ?_
   refine wp_skip ?_
   refine ws ?_
   refine wp_block ?_
   revert a;refine sr (mv rfl rfl (mv rfl rfl (mv rfl rfl fun a f=>?_)))
   obtain ⟨hk116,hM111⟩:=chk_ex hM111
   replace hk116:=ixB_t hk116
   revert a;refine ov rfl (fun a f=>run_ix rfl Tryz.underlying30 sz3 (f.ev rfl) (S.rc 1 rfl) (f.ev rfl) hk116) (ov rfl (fun a f=>run_load1 rfl one3 (f.ev rfl) (rd_el0 (l:=p102) (S.rc 1 rfl).rd rfl eI_len 0 (ix_ltn hk116 rfl) rfl)) fun a f=>?_)
   obtain ⟨hk117,hM111⟩:=chk_ex hM111
   replace hk117:=ixB_t hk117
   revert a;refine ov rfl (fun a f=>run_ix rfl Tryz.underlying26 sz4 (f.ev rfl) (S.rc0 h0.rc) (f.ev rfl) hk117) (ov rfl (fun a f=>run_load1 rfl one4 (f.ev rfl) (rd_el0 (l:=x0) (S.rc0 h0.rc).rd rfl eB_len false (ix_ltn hk117 rfl) rfl)) fun a f=>wn ?_)
   obtain ⟨o119,hM122,hM111⟩:=bind_ex hM111
   refine wp_cut (fun a u=>∃ (p118:List (Int×Bool)) (B120:Option Addr) (d121:Nat),p118=o119∧Fr a 60 [(0,.slice A0 x0.length c0),(1,.slice A1 x1.length c1),(4,.slice none 0 0),(5,.slice B120 p118.length d121),(6,.slice B103 p102.length d105),(7,iv p112.2)]∧St w u [.row 84 2 (.slice B120 p118.length d121) p118.length (p118.flatMap eStep),.row 3 1 (.slice B103 p102.length d105) p102.length (p102.flatMap eI)]) ?_ ?_
   ·have _:=trivial
    cases hc123:(x0.getD ((p102.getD p112.2.toNat 0).toNat) false)
    ·replace hM122:=bif_f hc123 hM122
     refine cond_f f rfl hc123 ?_
     refine wp_skip ?_
     obtain rfl:=Option.some.inj hM122
     exact ⟨p112.1,B113,d114,rfl,f.keep _ ⟨rfl,rfl,rfl,rfl,rfl,rfl,trivial⟩,S.sel [0,1] rfl rfl⟩
    replace hM122:=bif_t hc123 hM122
    refine cond_t f rfl hc123 ?_
    revert a;refine rl (mv rfl rfl (mv rfl rfl (mv rfl rfl fun a f=>?_)))
    obtain ⟨hk124,hM122⟩:=chk_ex hM122
    replace hk124:=ixB_t hk124
    revert a;refine ov rfl (fun a f=>run_ix rfl Tryz.underlying30 sz3 (f.ev rfl) (S.rc 1 rfl) (f.ev rfl) hk124) (ov rfl (fun a f=>run_load1 rfl one3 (f.ev rfl) (rd_el0 (l:=p102) (S.rc 1 rfl).rd rfl eI_len 0 (ix_ltn hk124 rfl) rfl)) (ov rfl (fun a f=>run_build (vs:=[(0,iv (p102.getD p112.2.toNat 0))]) rfl ⟨⟨rfl,(f.ev rfl)⟩,trivial⟩ (bd84_0 rfl)) fun a f=>?_))
    refine op_newrowL (ls:=(([((p102.getD p112.2.toNat 0),false)]:List (Int×Bool)):List (Int×Bool))) (e:=eStep) rfl rfl f rfl S (run_buildS (vs:=[(0,.agg #[iv (p102.getD p112.2.toNat 0),.bool false])]) rfl ⟨⟨rfl,(f.ev rfl)⟩,trivial⟩ (bs80_1_2 )) rfl eStep_len (Nat.le_of_ble_eq_true rfl) ?_;clear f S;intro a g125 u f S
    obtain ⟨hk128,hM122⟩:=chk_ex hM122
    replace hk128:=apB_t hk128
    refine op_appendL (lx:=p112.1) (ly:=([((p102.getD p112.2.toNat 0),false)]:List (Int×Bool))) rfl rfl f rfl S rfl (f.ev rfl) (f.ev rfl) (i:=1) rfl rfl Tryz.underlying80 inf84 rfl (by decide) (S.rc 0 rfl).rd rfl eStep_one hk128 (by decide) ?_;clear f S;intro a B126 d127 u f S
    revert a;refine ag rfl rfl fun a f=>wn ?_
    obtain rfl:=Option.some.inj hM122
    exact ⟨p112.1++([((p102.getD p112.2.toNat 0),false)]:List (Int×Bool)),B126,d127,rfl,f.keep _ ⟨rfl,rfl,rfl,rfl,rfl,rfl,trivial⟩,S.sel [1,2] rfl rfl⟩
   rintro a u ⟨p118,B120,d121,rfl,f,S⟩
   revert a;refine rl (mv rfl rfl (ov rfl (fun a f=>run_add (z:=w64 (p112.2+1)) (f.ev rfl) rfl rfl rfl) (ag rfl rfl fun a f=>wn ?_)))
   exact ⟨f1,Nat.lt_succ_self _,(p118,w64 (p112.2+1)),B120,d121,hM111,f.keep _ ⟨rfl,rfl,rfl,rfl,rfl,rfl,trivial⟩,S.sel [0,1] rfl rfl⟩
  rintro a u ⟨p107,B109,d110,rfl,f,S⟩
  refine ws ?_
  revert a;refine sr (ov rfl (fun a f=>run_assign rfl rfl) fun a f=>wn ?_)
  obtain ⟨o130,hM133,hM⟩:=bind_ex hM
  refine wp_cut (fun a u=>∃ (p129:List (Int×Bool)) (B131:Option Addr) (d132:Nat),p129=o130∧Fr a 60 [(4,.slice none 0 0),(5,.slice B131 p129.length d132)]∧St w u [.row 84 2 (.slice B131 p129.length d132) p129.length (p129.flatMap eStep)]) ?_ ?_
  ·have _:=trivial
   refine wp_block ?_
   refine loop_gw (fun m a u=>∃ (p134:List (Int×Bool)×Int) (B135:Option Addr) (d136:Nat),m_spec_OrderTo_l2 x1 p102 m p134=some _∧Fr a 60 [(1,.slice A1 x1.length c1),(4,.slice none 0 0),(5,.slice B135 p134.1.length d136),(6,.slice B103 p102.length d105),(8,iv p134.2)]∧St w u [.row 84 2 (.slice B135 p134.1.length d136) p134.1.length (p134.1.flatMap eStep),.row 3 1 (.slice B103 p102.length d105) p102.length (p102.flatMap eI)]) FUEL ⟨(p107,0),B109,d110,hM133,f.keep _ ⟨rfl,rfl,rfl,rfl,rfl,trivial⟩,S.sel [0,1] rfl rfl⟩ ?_
   clear f S hM133;rintro m a u ⟨p134,B135,d136,hM133,f,S⟩
   rcases m with _ | f2
   ·exact none_some hM133
   rw [m_spec_OrderTo_l2.eq_2] at hM133
   refine ws ?_
   revert a;refine sr (mv rfl rfl (mv rfl rfl (ov rfl (fun a f=>run_lenL rfl rfl Tryz.underlying30 (f.ev rfl)) (ov rfl (fun a f=>run_lss (f.ev rfl) (f.ev rfl) rfl) fun a f=>wn ?_))))
   cases hc137:(ltB p134.2 (p102.length:Int))
   ·replace hM133:=bif_f hc137 hM133
    refine cond_f f rfl hc137 ?_
    refine wp_exit ?_
    repeat with_reducible first|apply then_exit|apply in_hit|refine in_miss rfl ?_
    obtain rfl:=Option.some.inj hM133
    exact ⟨p134.1,B135,d136,rfl,f.keep _ ⟨rfl,rfl,trivial⟩,S.sel [0] rfl rfl⟩
   replace hM133:=bif_t hc137 hM133
   refine cond_t f rfl hc137 ?_
   refine wp_skip ?_
   refine ws ?_
   refine wp_block ?_
   revert a;refine sr (mv rfl rfl (mv rfl rfl (mv rfl rfl fun a f=>?_)))
   obtain ⟨hk138,hM133⟩:=chk_ex hM133
   replace hk138:=ixB_t hk138
   revert a;refine ov rfl (fun a f=>run_ix rfl Tryz.underlying30 sz3 (f.ev rfl) (S.rc 1 rfl) (f.ev rfl) hk138) (ov rfl (fun a f=>run_load1 rfl one3 (f.ev rfl) (rd_el0 (l:=p102) (S.rc 1 rfl).rd rfl eI_len 0 (ix_ltn hk138 rfl) rfl)) fun a f=>?_)
   obtain ⟨hk139,hM133⟩:=chk_ex hM133
   replace hk139:=ixB_t hk139
   revert a;refine ov rfl (fun a f=>run_ix rfl Tryz.underlying26 sz4 (f.ev rfl) (S.rc0 h1.rc) (f.ev rfl) hk139) (ov rfl (fun a f=>run_load1 rfl one4 (f.ev rfl) (rd_el0 (l:=x1) (S.rc0 h1.rc).rd rfl eB_len false (ix_ltn hk139 rfl) rfl)) fun a f=>wn ?_)
   obtain ⟨o141,hM144,hM133⟩:=bind_ex hM133
   refine wp_cut (fun a u=>∃ (p140:List (Int×Bool)) (B142:Option Addr) (d143:Nat),p140=o141∧Fr a 60 [(1,.slice A1 x1.length c1),(4,.slice none 0 0),(5,.slice B142 p140.length d143),(6,.slice B103 p102.length d105),(8,iv p134.2)]∧St w u [.row 84 2 (.slice B142 p140.length d143) p140.length (p140.flatMap eStep),.row 3 1 (.slice B103 p102.length d105) p102.length (p102.flatMap eI)]) ?_ ?_
   ·have _:=trivial
    cases hc145:(x1.getD ((p102.getD p134.2.toNat 0).toNat) false)
    ·replace hM144:=bif_f hc145 hM144
     refine cond_f f rfl hc145 ?_
     refine wp_skip ?_
     obtain rfl:=Option.some.inj hM144
     exact ⟨p134.1,B135,d136,rfl,f.keep _ ⟨rfl,rfl,rfl,rfl,rfl,trivial⟩,S.sel [0,1] rfl rfl⟩
    replace hM144:=bif_t hc145 hM144
    refine cond_t f rfl hc145 ?_
    revert a;refine rl (mv rfl rfl (mv rfl rfl (mv rfl rfl fun a f=>?_)))
    obtain ⟨hk146,hM144⟩:=chk_ex hM144
    replace hk146:=ixB_t hk146
    revert a;refine ov rfl (fun a f=>run_ix rfl Tryz.underlying30 sz3 (f.ev rfl) (S.rc 1 rfl) (f.ev rfl) hk146) (ov rfl (fun a f=>run_load1 rfl one3 (f.ev rfl) (rd_el0 (l:=p102) (S.rc 1 rfl).rd rfl eI_len 0 (ix_ltn hk146 rfl) rfl)) (ov rfl (fun a f=>run_build (vs:=[(0,iv (p102.getD p134.2.toNat 0)),(1,.bool true)]) rfl ⟨⟨rfl,(f.ev rfl)⟩,⟨rfl,rfl⟩,trivial⟩ (bd84_0_1 rfl rfl)) fun a f=>?_))
    refine op_newrowL (ls:=(([((p102.getD p134.2.toNat 0),true)]:List (Int×Bool)):List (Int×Bool))) (e:=eStep) rfl rfl f rfl S (run_buildS (vs:=[(0,.agg #[iv (p102.getD p134.2.toNat 0),.bool true])]) rfl ⟨⟨rfl,(f.ev rfl)⟩,trivial⟩ (bs80_1_2 )) rfl eStep_len (Nat.le_of_ble_eq_true rfl) ?_;clear f S;intro a g147 u f S
    obtain ⟨hk150,hM144⟩:=chk_ex hM144
    replace hk150:=apB_t hk150
    refine op_appendL (lx:=p134.1) (ly:=([((p102.getD p134.2.toNat 0),true)]:List (Int×Bool))) rfl rfl f rfl S rfl (f.ev rfl) (f.ev rfl) (i:=1) rfl rfl Tryz.underlying80 inf84 rfl (by decide) (S.rc 0 rfl).rd rfl eStep_one hk150 (by decide) ?_;clear f S;intro a B148 d149 u f S
    revert a;refine ag rfl rfl fun a f=>wn ?_
    obtain rfl:=Option.some.inj hM144
    exact ⟨p134.1++([((p102.getD p134.2.toNat 0),true)]:List (Int×Bool)),B148,d149,rfl,f.keep _ ⟨rfl,rfl,rfl,rfl,rfl,trivial⟩,S.sel [1,2] rfl rfl⟩
   rintro a u ⟨p140,B142,d143,rfl,f,S⟩
   revert a;refine rl (mv rfl rfl (ov rfl (fun a f=>run_add (z:=w64 (p134.2+1)) (f.ev rfl) rfl rfl rfl) (ag rfl rfl fun a f=>wn ?_)))
   exact ⟨f2,Nat.lt_succ_self _,(p140,w64 (p134.2+1)),B142,d143,hM133,f.keep _ ⟨rfl,rfl,rfl,rfl,rfl,trivial⟩,S.sel [0,1] rfl rfl⟩
  rintro a u ⟨p129,B131,d132,rfl,f,S⟩
  revert a;refine sr (mv rfl rfl (ag rfl rfl fun a f=>wn ?_))
  refine wp_ret ?_
  refine ret1_gw (.inl rfl) f rfl (res_tmp (f.ev rfl)) ?_
  obtain rfl:=Option.some.inj hM
  exact ⟨B131,p129.length,d132,rfl,rfl,S.sel [0] rfl rfl⟩
 replace hM:=bif_t hc106 hM
 refine cond_t f rfl hc106 ?_
 revert a;refine sr (mv rfl rfl (ag rfl rfl fun a f=>wn ?_))
 refine wp_ret ?_
 repeat with_reducible first|apply tr|apply ir|apply nr
 refine ret1_gw (.inl rfl) f rfl (res_tmp (f.ev rfl)) ?_
 obtain rfl:=Option.some.inj hM
 exact ⟨(some ⟨g101,0,none⟩),0,0,rfl,rfl,S.sel [1] rfl rfl⟩
theorem c_spec_RestoreOrder {x0:Int} {x1:List (Int×Int×Int)} {x2:List Bool} {x3:List (Int×Int)} {x4:List Int} {A1:Option Addr} {n1 c1:Nat} {A2:Option Addr} {n2 c2:Nat} {A3:Option Addr} {n3 c3:Nat} {A4:Option Addr} {n4 c4:Nat} {w:World} {r:List (Int×Bool)×Bool} (h1:Rt w 3 eLine A1 n1 c1 x1) (h2:Rt w 1 eB A2 n2 c2 x2) (h3:Rt w 2 eBus A3 n3 c3 x3) (h4:Rt w 1 eI A4 n4 c4 x4) (hM : m_spec_RestoreOrder x0 x1 x2 x3 x4=some r) :
  Calls Tryz.prog 41 #[.agg #[iv x0,.slice A1 n1 c1],.slice A2 n2 c2,.slice A3 n3 c3,.slice A4 n4 c4] w (fun e w'=>∃ (B0:Option Addr) (N0 D0:Nat),e=.returned (.tuple #[.slice B0 N0 D0,.bool r.2])∧N0=r.1.length∧St w w' [.row 84 2 (.slice B0 N0 D0) N0 (r.1.flatMap eStep)]):=by
 obtain rfl:=h1.len
 obtain rfl:=h2.len
 obtain rfl:=h3.len
 obtain rfl:=h4.len
 unfold m_spec_RestoreOrder at hM
 refine calls_gx Tryz.func41 Tryz.ntmps41 rfl rfl ?_
 intro a f
 have S:=St.nil w
 refine wsg ?_
 refine op_new (cs:=#[iv x0,.slice A1 x1.length c1]) rfl rfl f rfl S (run_box rfl (f.ev rfl) rfl) ?_;clear f S;intro a g101 u f S
 revert a;refine ov rfl (fun a f=>run_assign rfl rfl) (ov rfl (fun a f=>run_assign rfl rfl) fun a f=>wn ?_)
 revert a;refine sr (ov rfl (fun a f=>run_loadN rfl ag37 (f.ev rfl) rfl ((S.free 0 rfl).cells 0 #[iv x0,.slice A1 x1.length c1] rfl)) (mv rfl rfl (mv rfl rfl (mv rfl rfl fun a f=>?_))))
 obtain ⟨p102,h102,hM⟩:=bind_ex hM
 refine op_call rfl rfl f rfl (run_call (vs:=[_,_,_,_]) rfl rfl co81 ⟨(f.ev rfl),(f.ev rfl),(f.ev rfl),(f.ev rfl),trivial⟩) (c_spec_BestState ⟨(S.rc0 h1.rc),rfl⟩ ⟨(S.rc0 h2.rc),rfl⟩ ⟨(S.rc0 h3.rc),rfl⟩ ⟨(S.rc0 h4.rc),rfl⟩ h102) ?_
 rintro e u ⟨B103,n104,d105,rfl,rfl,T⟩
 refine ⟨_,rfl,?_⟩
 clear f;intro a f
 replace S:=S.call1 T;clear T
 revert a;refine mv rfl rfl (ov rfl (fun a f=>run_extract rfl (f.ev rfl) rfl) (ov rfl (fun a f=>run_extract rfl (f.ev rfl) rfl) (ag rfl rfl (ag rfl rfl fun a f=>wn ?_))))
 refine ws ?_
 revert a;refine sr (mv rfl rfl (ov rfl (fun a f=>run_not rfl (f.ev rfl)) fun a f=>wn ?_))
 cases hc106:(p102.2)
 ·replace hM:=bif_f hc106 hM
  refine cond_t f rfl (not_t hc106) ?_
  refine wsg ?_
  refine op_newrow (cs:=#[]) (size:=2) rfl rfl f rfl S (run_buildSlice0 rfl Tryz.underlying80 (congrArg Option.isSome sz84)) rfl (Nat.zero_le _) ?_;clear f S;intro a g107 u f S
  revert a;refine ag rfl rfl (ov rfl (fun a f=>run_assign rfl rfl) fun a f=>wn ?_)
  refine wp_ret ?_
  repeat with_reducible first|apply tr|apply ir|apply nr
  refine ret2_gw (.inl rfl) f rfl (res_tmp (f.ev rfl)) (res_tmp (f.ev rfl)) ?_
  obtain rfl:=Option.some.inj hM
  exact ⟨(some ⟨g107,0,none⟩),0,0,rfl,rfl,S.sel [0] rfl rfl⟩
 replace hM:=bif_t hc106 hM
 refine cond_f f rfl (not_f hc106) ?_
 refine wp_skip ?_
 revert a;refine sr (mv rfl rfl (mv rfl rfl fun a f=>?_))
 obtain ⟨p108,h108,hM⟩:=bind_ex hM
 refine op_call rfl rfl f rfl (run_call (vs:=[_,_]) rfl rfl co82 ⟨(f.ev rfl),(f.ev rfl),trivial⟩) (c_spec_OrderTo ⟨(S.rc0 h2.rc),rfl⟩ ⟨(S.rc 0 rfl),rfl⟩ h108) ?_
 rintro e u ⟨B109,n110,d111,rfl,rfl,T⟩
 refine ⟨_,rfl,?_⟩
 clear f;intro a f
 replace S:=S.call1 T;clear T
 revert a;refine ag rfl rfl (ov rfl (fun a f=>run_assign rfl rfl) fun a f=>wn ?_)
 refine wp_ret ?_
 refine ret2_gw (.inl rfl) f rfl (res_tmp (f.ev rfl)) (res_tmp (f.ev rfl)) ?_
 obtain rfl:=Option.some.inj hM
 exact ⟨B109,p108.length,d111,rfl,rfl,S.sel [0] rfl rfl⟩
end Go.Proofs.YtcmnjaccapbhfaaGreat
