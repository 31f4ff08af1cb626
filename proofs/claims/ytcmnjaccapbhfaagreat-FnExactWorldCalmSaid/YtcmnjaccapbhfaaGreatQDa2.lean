/- Calls return what the models say. -/
import Derived.Test.YtcmnjaccapbhfaaGreatQSq
import Derived.Test.YtcmnjaccapbhfaaGreatQDa1
namespace Go.Proofs.YtcmnjaccapbhfaaGreat
open Go.ChangeShapes Go.WideShapes Go.ChangeAt Go.RowKit
set_option linter.unusedVariables false
set_option maxHeartbeats 4000000
set_option linter.unusedSimpArgs false
theorem c_spec_SameIsland {x0:Int} {x1:List (Int×Int×Int)} {x2:List Bool} {x3:Int} {x4:Int} {A1:Option Addr} {n1 c1:Nat} {A2:Option Addr} {n2 c2:Nat} {w:World} {r:Bool} (h1:Rt w 3 eLine A1 n1 c1 x1) (h2:Rt w 1 eB A2 n2 c2 x2) (hM : m_spec_SameIsland x0 x1 x2 x3 x4=some r) :
  Calls Tryz.prog 93 #[.agg #[iv x0,.slice A1 n1 c1],.slice A2 n2 c2,iv x3,iv x4] w (fun e w'=>e=.returned (.bool r)∧St w w' []):=by
 obtain rfl:=h1.len
 obtain rfl:=h2.len
 unfold m_spec_SameIsland at hM
 refine calls_gx Tryz.func93 Tryz.ntmps93 rfl rfl ?_
 intro a f
 have S:=St.nil w
 refine wsg ?_
 refine op_new (cs:=#[iv x0,.slice A1 x1.length c1]) rfl rfl f rfl S (run_box rfl (f.ev rfl) rfl) ?_;clear f S;intro a g101 u f S
 revert a;refine ov rfl (fun a f=>run_assign rfl rfl) fun a f=>wn ?_
 revert a;refine sr (ov rfl (fun a f=>run_loadN rfl ag37 (f.ev rfl) rfl ((S.free 0 rfl).cells 0 #[iv x0,.slice A1 x1.length c1] rfl)) (mv rfl rfl (mv rfl rfl fun a f=>?_)))
 obtain ⟨p102,h102,hM⟩:=bind_ex hM
 refine op_call rfl rfl f rfl (run_call (vs:=[_,_,_]) rfl rfl co127 ⟨(f.ev rfl),(f.ev rfl),(f.ev rfl),trivial⟩) (c_spec_Reached ⟨(S.rc0 h1.rc),rfl⟩ ⟨(S.rc0 h2.rc),rfl⟩ h102) ?_
 rintro e u ⟨B103,n104,d105,rfl,rfl,T⟩
 refine ⟨_,rfl,?_⟩
 clear f;intro a f
 replace S:=S.call1 T;clear T
 revert a;refine mv rfl rfl fun a f=>?_
 obtain ⟨p106,h106,hM⟩:=bind_ex hM
 refine op_call rfl rfl f rfl (run_call (vs:=[_,_]) rfl rfl co40 ⟨(f.ev rfl),(f.ev rfl),trivial⟩) (c_spec_l1Has ⟨(S.rc 0 rfl),rfl⟩ h106) ?_
 rintro e u ⟨rfl,T⟩
 refine ⟨_,rfl,?_⟩
 clear f;intro a f
 replace S:=S.call0 T;clear T
 revert a;refine ag rfl rfl fun a f=>wn ?_
 refine wp_ret ?_
 refine ret1_gw (.inl rfl) f rfl (res_tmp (f.ev rfl)) ?_
 obtain rfl:=Option.some.inj hM
 exact ⟨rfl,S.sel [] rfl rfl⟩
theorem c_spec_CycleLines {x0:Int} {x1:List (Int×Int×Int)} {x2:List Bool} {A1:Option Addr} {n1 c1:Nat} {A2:Option Addr} {n2 c2:Nat} {w:World} {r:List Int} (h1:Rt w 3 eLine A1 n1 c1 x1) (h2:Rt w 1 eB A2 n2 c2 x2) (hM : m_spec_CycleLines x0 x1 x2=some r) :
  Calls Tryz.prog 126 #[.agg #[iv x0,.slice A1 n1 c1],.slice A2 n2 c2] w (fun e w'=>∃ (B0:Option Addr) (N0 D0:Nat),e=.returned (.slice B0 N0 D0)∧N0=r.length∧St w w' [.row 3 1 (.slice B0 N0 D0) N0 (r.flatMap eI)]):=by
 obtain rfl:=h1.len
 obtain rfl:=h2.len
 unfold m_spec_CycleLines at hM
 refine calls_gx Tryz.func126 Tryz.ntmps126 rfl rfl ?_
 intro a f
 have S:=St.nil w
 refine wsg ?_
 refine op_new (cs:=#[iv x0,.slice A1 x1.length c1]) rfl rfl f rfl S (run_box rfl (f.ev rfl) rfl) ?_;clear f S;intro a g101 u f S
 revert a;refine ov rfl (fun a f=>run_assign rfl rfl) fun a f=>wn ?_
 refine wsg ?_
 refine op_newrow (cs:=#[]) (size:=1) rfl rfl f rfl S (run_buildSlice0 rfl Tryz.underlying30 (congrArg Option.isSome sz3)) rfl (Nat.zero_le _) ?_;clear f S;intro a g102 u f S
 revert a;refine ag rfl rfl fun a f=>wn ?_
 refine ws ?_
 revert a;refine sr (ov rfl (fun a f=>run_assign rfl rfl) fun a f=>wn ?_)
 obtain ⟨o104,hM107,hM⟩:=bind_ex hM
 refine wp_cut (fun a u=>∃ (p103:List Int) (B105:Option Addr) (d106:Nat),p103=o104∧Fr a 54 [(4,.slice none 0 0),(5,.slice B105 p103.length d106)]∧St w u [.row 3 1 (.slice B105 p103.length d106) p103.length (p103.flatMap eI)]) ?_ ?_
 ·have _:=trivial
  refine wp_block ?_
  refine loop_gw (fun m a u=>∃ (p108:List Int×Int) (B109:Option Addr) (d110:Nat),m_spec_CycleLines_l1 x0 x1 x2 m p108=some _∧Fr a 54 [(1,.slice A2 x2.length c2),(2,.pointer (some ⟨g101,0,none⟩)),(4,.slice none 0 0),(5,.slice B109 p108.1.length d110),(6,iv p108.2)]∧St w u [.box g101 37 #[iv x0,.slice A1 x1.length c1],.row 3 1 (.slice B109 p108.1.length d110) p108.1.length (p108.1.flatMap eI)]) FUEL ⟨(([]:List Int),0),(some ⟨g102,0,none⟩),0,hM107,f.keep _ ⟨rfl,rfl,rfl,rfl,rfl,trivial⟩,S.sel [1,0] rfl rfl⟩ ?_
  clear f S hM107;rintro m a u ⟨p108,B109,d110,hM107,f,S⟩
  rcases m with _ | f1
  ·exact none_some hM107
  rw [m_spec_CycleLines_l1.eq_2] at hM107
  refine ws ?_
  revert a;refine sr (mv rfl rfl (mv rfl rfl (ov rfl (fun a f=>run_lenL rfl rfl Tryz.underlying26 (f.ev rfl)) (ov rfl (fun a f=>run_lss (f.ev rfl) (f.ev rfl) rfl) (mv rfl rfl fun a f=>?_)))))
  revert a;refine gt rfl rfl rfl rfl (fun a f hg=>run_loadN rfl ag37 (f.ev rfl) rfl ((S.free 0 rfl).cells 0 #[iv x0,.slice A1 x1.length c1] rfl)) (gt rfl rfl rfl rfl (fun a f hg=>run_move rfl (f.ev rfl)) fun a f=>?_)
  obtain ⟨p111,h111,hM107⟩:=bind_ex hM107
  refine op_gcall (v:=.bool p111) rfl rfl f rfl S (yt (gw_yield f rfl rfl rfl)) (fun hg=>(run_call (vs:=[.agg #[iv x0,.slice A1 x1.length c1],.slice A2 x2.length c2]) rfl rfl co125 ⟨((f.ev rfl).trans (gv_t hg)),((f.ev rfl).trans (gv_t hg)),trivial⟩)) (fun hg=>c_spec_StateValid (x0:=x0) (x1:=x1) (x2:=x2) ⟨(S.rc0 h1.rc),rfl⟩ ⟨(S.rc0 h2.rc),rfl⟩ (gb_t h111 hg)) ?_;clear f S;intro a u f S
  revert a;refine ov rfl (fun a f=>run_pick_and rfl (f.ev rfl) (fun hp=>((f.ev rfl).trans (gv_t hp))) rfl) fun a f=>wn ?_
  cases hc112:((ltB p108.2 (x2.length:Int))&&p111)
  ·replace hM107:=bif_f hc112 hM107
   refine cond_f f rfl hc112 ?_
   refine wp_exit ?_
   repeat with_reducible first|apply then_exit|apply in_hit|refine in_miss rfl ?_
   obtain rfl:=Option.some.inj hM107
   exact ⟨p108.1,B109,d110,rfl,f.keep _ ⟨rfl,rfl,trivial⟩,S.sel [1] rfl rfl⟩
  replace hM107:=bif_t hc112 hM107
  refine cond_t f rfl hc112 ?_
  refine wp_skip ?_
  refine ws ?_
  refine wp_block ?_
  revert a;refine sr (ov rfl (fun a f=>run_loadN rfl ag37 (f.ev rfl) rfl ((S.free 0 rfl).cells 0 #[iv x0,.slice A1 x1.length c1] rfl)) (mv rfl rfl (mv rfl rfl fun a f=>?_)))
  obtain ⟨p113,h113,hM107⟩:=bind_ex hM107
  refine op_call rfl rfl f rfl (run_call (vs:=[_,_,_,_]) rfl rfl co145 ⟨(f.ev rfl),(f.ev rfl),(f.ev rfl),rfl,trivial⟩) (c_spec_SwitchLine ⟨(S.rc0 h1.rc),rfl⟩ ⟨(S.rc0 h2.rc),rfl⟩ h113) ?_
  rintro e u ⟨B114,n115,d116,rfl,rfl,T⟩
  refine ⟨_,rfl,?_⟩
  clear f;intro a f
  replace S:=S.call1 T;clear T
  revert a;refine mv rfl rfl (ov rfl (fun a f=>run_extract rfl (f.ev rfl) rfl) (ov rfl (fun a f=>run_extract rfl (f.ev rfl) rfl) (ag rfl rfl (ag rfl rfl fun a f=>wn ?_))))
  refine ws ?_
  obtain ⟨hk117,hM107⟩:=chk_ex hM107
  replace hk117:=ixB_t hk117
  obtain ⟨hk118,hM107⟩:=chk_ex hM107
  replace hk118:=fun hg=>ixB_t (imp_t hk118 hg)
  obtain ⟨hk119,hM107⟩:=chk_ex hM107
  replace hk119:=fun hg=>ixB_t (imp_t hk119 hg)
  obtain ⟨p120,h120,hM107⟩:=bind_ex hM107
  refine region_gw (D:=[28,29,30,31,32,33,34,35,36,37,38,39,40,41,42,43,44,45,46,47,48]) (Lr:=[.row 4 1 (.slice B114 p113.1.length d116) p113.1.length (p113.1.flatMap eB),.box g101 37 #[iv x0,.slice A1 x1.length c1],.row 3 1 (.slice B109 p108.1.length d110) p108.1.length (p108.1.flatMap eI)]) (deps:=(fun | 0=>[28] | 1=>[29] | 2=>[30] | 3=>[31] | 4=>[32] | 5=>[33] | 6=>[34] | 7=>[35] | 8=>[36] | 9=>[37] | 10=>[38] | 11=>[39] | 12=>[40] | 13=>[41] | 14=>[42] | 15=>[43] | 16=>[44] | 17=>[45] | 18=>[46] | 19=>[47] | 20=>[48] | _=>[])) (rd:=(fun _=>[])) (zr:=(fun _=>[]))
   (φ:=fun i vs=>match i,vs with | 0,[v28]=>v28=.slice A2 x2.length c2 | 1,[v29]=>v29=iv p108.2 | 2,[v30]=>v30=.pointer (some ⟨adB A2,adO A2+p108.2.toNat*1,none⟩) | 3,[v31]=>v31=.bool (x2.getD p108.2.toNat false) | 4,[v32]=>v32=.bool (x2.getD p108.2.toNat false) | 5,[v33]=>v33=gv (x2.getD p108.2.toNat false) (.agg #[iv x0,.slice A1 x1.length c1]) | 6,[v34]=>v34=gv (x2.getD p108.2.toNat false) (.slice B114 p113.1.length d116) | 7,[v35]=>v35=gv (x2.getD p108.2.toNat false) (.pointer (some ⟨g101,1,none⟩)) | 8,[v36]=>v36=gv (x2.getD p108.2.toNat false) (.slice A1 x1.length c1) | 9,[v37]=>v37=gv (x2.getD p108.2.toNat false) (iv p108.2) | 10,[v38]=>v38=gv (x2.getD p108.2.toNat false) (.pointer (some ⟨adB A1,adO A1+p108.2.toNat*3,none⟩)) | 11,[v39]=>v39=gv (x2.getD p108.2.toNat false) (.pointer (some ⟨adB A1,adO A1+p108.2.toNat*3,none⟩)) | 12,[v40]=>v40=gv (x2.getD p108.2.toNat false) (iv ((x1.getD p108.2.toNat (0,0,0)).1)) | 13,[v41]=>v41=gv (x2.getD p108.2.toNat false) (.pointer (some ⟨g101,1,none⟩)) | 14,[v42]=>v42=gv (x2.getD p108.2.toNat false) (.slice A1 x1.length c1) | 15,[v43]=>v43=gv (x2.getD p108.2.toNat false) (iv p108.2) | 16,[v44]=>v44=gv (x2.getD p108.2.toNat false) (.pointer (some ⟨adB A1,adO A1+p108.2.toNat*3,none⟩)) | 17,[v45]=>v45=gv (x2.getD p108.2.toNat false) (.pointer (some ⟨adB A1,adO A1+p108.2.toNat*3+1,none⟩)) | 18,[v46]=>v46=gv (x2.getD p108.2.toNat false) (iv ((x1.getD p108.2.toNat (0,0,0)).2.1)) | 19,[v47]=>v47=gv (x2.getD p108.2.toNat false) (.bool p120) | 20,[v48]=>v48=.bool ((x2.getD p108.2.toNat false)&&p120) | _,_=>True)
   (C:=fun _ _=>[])
   (κ:=(fun _=>none)) (Z:=(fun _=>[])) mixed f (by kernel_rfl) S ?_ ?_
  ·refine ⟨?_,?_,?_,?_,?_,?_,?_,?_,?_,?_,?_,?_,?_,?_,?_,?_,?_,?_,?_,?_,?_,trivial⟩
   ·intro a u X hB hu p hr hz hl S
    exact .inl ⟨rfl,_,u,(run_move rfl (f.evB hB rfl rfl)),rfl,S⟩
   ·intro a u X hB hu p hr hz hl S
    exact .inl ⟨rfl,_,u,(run_move rfl (f.evB hB rfl rfl)),rfl,S⟩
   ·intro a u X hB hu p hr hz hl S
    exact .inl ⟨rfl,_,u,(run_ix rfl Tryz.underlying26 sz4 (ev_sl (p 0 rfl)) (S.rc0 h2.rc) (ev_sl (p 1 rfl)) hk117),rfl,S⟩
   ·intro a u X hB hu p hr hz hl S
    exact .inl ⟨rfl,_,u,(run_load1 rfl one4 (ev_sl (p 2 rfl)) (rd_el0 (l:=x2) (S.rc0 h2.rc).rd rfl eB_len false (ix_ltn hk117 rfl) rfl)),rfl,S⟩
   ·intro a u X hB hu p hr hz hl S
    exact .inl ⟨rfl,_,u,(run_move rfl (ev_sl (p 3 rfl))),rfl,S⟩
   ·intro a u X hB hu p hr hz hl S
    exact gyt rfl rfl rfl (p 4 rfl) (fun hg=>⟨(gv_f hg).symm,S⟩) fun hg=>⟨_,u,(run_loadN rfl ag37 (f.evB hB rfl rfl) rfl ((gr_box S hl 1 rfl).cells 0 #[iv x0,.slice A1 x1.length c1] rfl)),(gv_t hg).symm,S⟩
   ·intro a u X hB hu p hr hz hl S
    exact gyt rfl rfl rfl (p 4 rfl) (fun hg=>⟨(gv_f hg).symm,S⟩) fun hg=>⟨_,u,(run_move rfl (f.evB hB rfl rfl)),(gv_t hg).symm,S⟩
   ·intro a u X hB hu p hr hz hl S
    exact gyt rfl rfl rfl (p 4 rfl) (fun hg=>⟨(gv_f hg).symm,S⟩) fun hg=>⟨_,u,(run_fieldAddr rfl fl37_1 (f.evB hB rfl rfl) rfl),(gv_t hg).symm,S⟩
   ·intro a u X hB hu p hr hz hl S
    exact gyt rfl rfl rfl (p 4 rfl) (fun hg=>⟨(gv_f hg).symm,S⟩) fun hg=>⟨_,u,(run_load1 rfl one35 ((ev_sl (p 7 rfl)).trans (gv_t hg)) ((gr_box S hl 1 rfl).cell rfl)),(gv_t hg).symm,S⟩
   ·intro a u X hB hu p hr hz hl S
    exact gyt rfl rfl rfl (p 4 rfl) (fun hg=>⟨(gv_f hg).symm,S⟩) fun hg=>⟨_,u,(run_move rfl (f.evB hB rfl rfl)),(gv_t hg).symm,S⟩
   ·intro a u X hB hu p hr hz hl S
    exact gyt rfl rfl rfl (p 4 rfl) (fun hg=>⟨(gv_f hg).symm,S⟩) fun hg=>⟨_,u,(run_indexAddr (b:=adB A1) (off:=adO A1) rfl Tryz.underlying35 sz130 (((ev_sl (p 8 rfl)).trans (gv_t hg)).trans (congrArg (fun A=>Value.slice A x1.length c1) ((S.rc0 h1.rc).rd.ad (ix_pos (hk118 hg))))) ((ev_sl (p 9 rfl)).trans (gv_t hg)) (hk118 hg).1 (hk118 hg).2 (k':=adO A1+p108.2.toNat*3) rfl),(gv_t hg).symm,S⟩
   ·intro a u X hB hu p hr hz hl S
    exact gyt rfl rfl rfl (p 4 rfl) (fun hg=>⟨(gv_f hg).symm,S⟩) fun hg=>⟨_,u,(run_fieldAddr rfl fl130_0 ((ev_sl (p 10 rfl)).trans (gv_t hg)) rfl),(gv_t hg).symm,S⟩
   ·intro a u X hB hu p hr hz hl S
    exact gyt rfl rfl rfl (p 4 rfl) (fun hg=>⟨(gv_f hg).symm,S⟩) fun hg=>⟨_,u,(run_load1 rfl one3 ((ev_sl (p 11 rfl)).trans (gv_t hg)) (rd_el0 (l:=x1) (S.rc0 h1.rc).rd rfl eLine_len (0,0,0) (ix_ltn (hk118 hg) rfl) rfl)),(gv_t hg).symm,S⟩
   ·intro a u X hB hu p hr hz hl S
    exact gyt rfl rfl rfl (p 4 rfl) (fun hg=>⟨(gv_f hg).symm,S⟩) fun hg=>⟨_,u,(run_fieldAddr rfl fl37_1 (f.evB hB rfl rfl) rfl),(gv_t hg).symm,S⟩
   ·intro a u X hB hu p hr hz hl S
    exact gyt rfl rfl rfl (p 4 rfl) (fun hg=>⟨(gv_f hg).symm,S⟩) fun hg=>⟨_,u,(run_load1 rfl one35 ((ev_sl (p 13 rfl)).trans (gv_t hg)) ((gr_box S hl 1 rfl).cell rfl)),(gv_t hg).symm,S⟩
   ·intro a u X hB hu p hr hz hl S
    exact gyt rfl rfl rfl (p 4 rfl) (fun hg=>⟨(gv_f hg).symm,S⟩) fun hg=>⟨_,u,(run_move rfl (f.evB hB rfl rfl)),(gv_t hg).symm,S⟩
   ·intro a u X hB hu p hr hz hl S
    exact gyt rfl rfl rfl (p 4 rfl) (fun hg=>⟨(gv_f hg).symm,S⟩) fun hg=>⟨_,u,(run_indexAddr (b:=adB A1) (off:=adO A1) rfl Tryz.underlying35 sz130 (((ev_sl (p 14 rfl)).trans (gv_t hg)).trans (congrArg (fun A=>Value.slice A x1.length c1) ((S.rc0 h1.rc).rd.ad (ix_pos (hk119 hg))))) ((ev_sl (p 15 rfl)).trans (gv_t hg)) (hk119 hg).1 (hk119 hg).2 (k':=adO A1+p108.2.toNat*3) rfl),(gv_t hg).symm,S⟩
   ·intro a u X hB hu p hr hz hl S
    exact gyt rfl rfl rfl (p 4 rfl) (fun hg=>⟨(gv_f hg).symm,S⟩) fun hg=>⟨_,u,(run_fieldAddr rfl fl130_1 ((ev_sl (p 16 rfl)).trans (gv_t hg)) rfl),(gv_t hg).symm,S⟩
   ·intro a u X hB hu p hr hz hl S
    exact gyt rfl rfl rfl (p 4 rfl) (fun hg=>⟨(gv_f hg).symm,S⟩) fun hg=>⟨_,u,(run_load1 rfl one3 ((ev_sl (p 17 rfl)).trans (gv_t hg)) (rd_el (l:=x1) (S.rc0 h1.rc).rd rfl eLine_len (0,0,0) (ix_ltn (hk119 hg) rfl) rfl)),(gv_t hg).symm,S⟩
   ·intro a u X hB hu p hr hz hl S
    rcases bb (x2.getD p108.2.toNat false) with hg | hg
    ·exact .inr (.inr (.inr ⟨gr_eg rfl (yt (gr_yield rfl rfl (p 4 rfl))) hg,(gv_f hg).symm,S⟩))
    refine .inr (.inr (.inl ⟨gr_eg rfl (yt (gr_yield rfl rfl (p 4 rfl))) hg,_,_,(run_call (vs:=[.agg #[iv x0,.slice A1 x1.length c1],.slice B114 p113.1.length d116,iv ((x1.getD p108.2.toNat (0,0,0)).1),iv ((x1.getD p108.2.toNat (0,0,0)).2.1)]) rfl rfl co93 ⟨((ev_sl (p 5 rfl)).trans (gv_t hg)),((ev_sl (p 6 rfl)).trans (gv_t hg)),((ev_sl (p 12 rfl)).trans (gv_t hg)),((ev_sl (p 18 rfl)).trans (gv_t hg)),trivial⟩),?_⟩))
    refine Calls.mono (c_spec_SameIsland (x0:=x0) (x1:=x1) (x2:=p113.1) (x3:=(x1.getD p108.2.toNat (0,0,0)).1) (x4:=(x1.getD p108.2.toNat (0,0,0)).2.1) ⟨(S.rc0 h1.rc),rfl⟩ ⟨(gr_rc S hl 0 rfl),rfl⟩ (gb_t h120 hg)) ?_
    rintro e w1 ⟨rfl,T⟩
    exact ⟨_,rfl,(gv_t hg).symm,S.call0 T⟩
   intro a u X hB hu p hr hz hl S
   exact .inl ⟨rfl,_,u,(run_pick_and rfl (ev_sl (p 4 rfl)) (fun hp=>((ev_sl (p 19 rfl)).trans (gv_t hp))) (ev_const _ _)),rfl,S⟩
  intro a u hB hp S
  obtain ⟨q0,q1,q2,q3,q4,q5,q6,q7,q8,q9,q10,q11,q12,q13,q14,q15,q16,q17,q18,q19,q20,-⟩:=hp
  replace S:St w u [.row 4 1 (.slice B114 p113.1.length d116) p113.1.length (p113.1.flatMap eB),.box g101 37 #[iv x0,.slice A1 x1.length c1],.row 3 1 (.slice B109 p108.1.length d110) p108.1.length (p108.1.flatMap eI)]:=S
  have f:=f.region hB [(28,_),(29,_),(30,_),(31,_),(32,_),(33,_),(34,_),(35,_),(36,_),(37,_),(38,_),(39,_),(40,_),(41,_),(42,_),(43,_),(44,_),(45,_),(46,_),(47,_),(48,_)] (allSl_mem ⟨q0,q1,q2,q3,q4,q5,q6,q7,q8,q9,q10,q11,q12,q13,q14,q15,q16,q17,q18,q19,q20,trivial⟩) rfl
  clear hB q0 q1 q2 q3 q4 q5 q6 q7 q8 q9 q10 q11 q12 q13 q14 q15 q16 q17 q18 q19 q20
  obtain ⟨o122,hM125,hM107⟩:=bind_ex hM107
  refine wp_cut (fun a u=>∃ (p121:List Int) (B123:Option Addr) (d124:Nat),p121=o122∧Fr a 54 [(1,.slice A2 x2.length c2),(2,.pointer (some ⟨g101,0,none⟩)),(4,.slice none 0 0),(5,.slice B123 p121.length d124),(6,iv p108.2)]∧St w u [.box g101 37 #[iv x0,.slice A1 x1.length c1],.row 3 1 (.slice B123 p121.length d124) p121.length (p121.flatMap eI)]) ?_ ?_
  ·have _:=trivial
   cases hc126:((x2.getD p108.2.toNat false)&&p120)
   ·replace hM125:=bif_f hc126 hM125
    refine cond_f f rfl hc126 ?_
    refine wp_skip ?_
    obtain rfl:=Option.some.inj hM125
    exact ⟨p108.1,B109,d110,rfl,f.keep _ ⟨rfl,rfl,rfl,rfl,rfl,trivial⟩,S.sel [1,2] rfl rfl⟩
   replace hM125:=bif_t hc126 hM125
   refine cond_t f rfl hc126 ?_
   revert a;refine rl (mv rfl rfl (mv rfl rfl fun a f=>?_))
   refine op_newrowL (ls:=(([p108.2]:List Int):List Int)) (e:=eI) rfl rfl f rfl S (run_buildS (vs:=[(0,iv p108.2)]) rfl ⟨⟨rfl,(f.ev rfl)⟩,trivial⟩ (bs30_1_0 rfl)) rfl eI_len (Nat.le_of_ble_eq_true rfl) ?_;clear f S;intro a g127 u f S
   obtain ⟨hk130,hM125⟩:=chk_ex hM125
   replace hk130:=apB_t hk130
   refine op_appendL (lx:=p108.1) (ly:=([p108.2]:List Int)) rfl rfl f rfl S rfl (f.ev rfl) (f.ev rfl) (i:=3) rfl rfl Tryz.underlying30 inf3 rfl (by decide) (S.rc 0 rfl).rd rfl eI_one hk130 (by decide) ?_;clear f S;intro a B128 d129 u f S
   revert a;refine ag rfl rfl fun a f=>wn ?_
   obtain rfl:=Option.some.inj hM125
   exact ⟨p108.1++([p108.2]:List Int),B128,d129,rfl,f.keep _ ⟨rfl,rfl,rfl,rfl,rfl,trivial⟩,S.sel [2,3] rfl rfl⟩
  rintro a u ⟨p121,B123,d124,rfl,f,S⟩
  revert a;refine rl (mv rfl rfl (ov rfl (fun a f=>run_add (z:=w64 (p108.2+1)) (f.ev rfl) rfl rfl rfl) (ag rfl rfl fun a f=>wn ?_)))
  exact ⟨f1,Nat.lt_succ_self _,(p121,w64 (p108.2+1)),B123,d124,hM107,f.keep _ ⟨rfl,rfl,rfl,rfl,rfl,trivial⟩,S.sel [0,1] rfl rfl⟩
 rintro a u ⟨p103,B105,d106,rfl,f,S⟩
 revert a;refine sr (mv rfl rfl (ag rfl rfl fun a f=>wn ?_))
 refine wp_ret ?_
 refine ret1_gw (.inl rfl) f rfl (res_tmp (f.ev rfl)) ?_
 obtain rfl:=Option.some.inj hM
 exact ⟨B105,p103.length,d106,rfl,rfl,S.sel [0] rfl rfl⟩
theorem c_spec_HasCycle {x0:Int} {x1:List (Int×Int×Int)} {x2:List Bool} {A1:Option Addr} {n1 c1:Nat} {A2:Option Addr} {n2 c2:Nat} {w:World} {r:Bool} (h1:Rt w 3 eLine A1 n1 c1 x1) (h2:Rt w 1 eB A2 n2 c2 x2) (hM : m_spec_HasCycle x0 x1 x2=some r) :
  Calls Tryz.prog 92 #[.agg #[iv x0,.slice A1 n1 c1],.slice A2 n2 c2] w (fun e w'=>e=.returned (.bool r)∧St w w' []):=by
 obtain rfl:=h1.len
 obtain rfl:=h2.len
 unfold m_spec_HasCycle at hM
 refine calls_gx Tryz.func92 Tryz.ntmps92 rfl rfl ?_
 intro a f
 have S:=St.nil w
 refine wsg ?_
 refine op_new (cs:=#[iv x0,.slice A1 x1.length c1]) rfl rfl f rfl S (run_box rfl (f.ev rfl) rfl) ?_;clear f S;intro a g101 u f S
 revert a;refine ov rfl (fun a f=>run_assign rfl rfl) fun a f=>wn ?_
 revert a;refine sr (ov rfl (fun a f=>run_loadN rfl ag37 (f.ev rfl) rfl ((S.free 0 rfl).cells 0 #[iv x0,.slice A1 x1.length c1] rfl)) (mv rfl rfl fun a f=>?_))
 obtain ⟨p102,h102,hM⟩:=bind_ex hM
 refine op_call rfl rfl f rfl (run_call (vs:=[_,_]) rfl rfl co126 ⟨(f.ev rfl),(f.ev rfl),trivial⟩) (c_spec_CycleLines ⟨(S.rc0 h1.rc),rfl⟩ ⟨(S.rc0 h2.rc),rfl⟩ h102) ?_
 rintro e u ⟨B103,n104,d105,rfl,rfl,T⟩
 refine ⟨_,rfl,?_⟩
 clear f;intro a f
 replace S:=S.call1 T;clear T
 revert a;refine ov rfl (fun a f=>run_lenL rfl rfl Tryz.underlying30 (f.ev rfl)) (ov rfl (fun a f=>run_gtr (f.ev rfl) rfl rfl) (ag rfl rfl fun a f=>wn ?_))
 refine wp_ret ?_
 refine ret1_gw (.inl rfl) f rfl (res_tmp (f.ev rfl)) ?_
 obtain rfl:=Option.some.inj hM
 exact ⟨rfl,S.sel [] rfl rfl⟩
theorem c_spec_Radial {x0:Int} {x1:List (Int×Int×Int)} {x2:List Bool} {x3:List (Int×Int)} {A1:Option Addr} {n1 c1:Nat} {A2:Option Addr} {n2 c2:Nat} {A3:Option Addr} {n3 c3:Nat} {w:World} {r:Bool} (h1:Rt w 3 eLine A1 n1 c1 x1) (h2:Rt w 1 eB A2 n2 c2 x2) (h3:Rt w 2 eBus A3 n3 c3 x3) (hM : m_spec_Radial x0 x1 x2 x3=some r) :
  Calls Tryz.prog 57 #[.agg #[iv x0,.slice A1 n1 c1],.slice A2 n2 c2,.slice A3 n3 c3] w (fun e w'=>e=.returned (.bool r)∧St w w' []):=by
 obtain rfl:=h1.len
 obtain rfl:=h2.len
 obtain rfl:=h3.len
 unfold m_spec_Radial at hM
 refine calls_gx Tryz.func57 Tryz.ntmps57 rfl rfl ?_
 intro a f
 have S:=St.nil w
 refine wsg ?_
 refine op_new (cs:=#[iv x0,.slice A1 x1.length c1]) rfl rfl f rfl S (run_box rfl (f.ev rfl) rfl) ?_;clear f S;intro a g101 u f S
 revert a;refine ov rfl (fun a f=>run_assign rfl rfl) fun a f=>wn ?_
 refine ws ?_
 revert a;refine sr (ov rfl (fun a f=>run_loadN rfl ag37 (f.ev rfl) rfl ((S.free 0 rfl).cells 0 #[iv x0,.slice A1 x1.length c1] rfl)) (mv rfl rfl (mv rfl rfl fun a f=>?_)))
 obtain ⟨p102,h102,hM⟩:=bind_ex hM
 refine op_call rfl rfl f rfl (run_call (vs:=[_,_,_]) rfl rfl co91 ⟨(f.ev rfl),(f.ev rfl),(f.ev rfl),trivial⟩) (c_spec_l5Ok ⟨(S.rc0 h1.rc),rfl⟩ ⟨(S.rc0 h2.rc),rfl⟩ ⟨(S.rc0 h3.rc),rfl⟩ h102) ?_
 rintro e u ⟨rfl,T⟩
 refine ⟨_,rfl,?_⟩
 clear f;intro a f
 replace S:=S.call0 T;clear T
 revert a;refine ov rfl (fun a f=>run_not rfl (f.ev rfl)) (mv rfl rfl fun a f=>?_)
 revert a;refine gf rfl rfl rfl rfl (fun a f hg=>run_loadN rfl ag37 (f.ev rfl) rfl ((S.free 0 rfl).cells 0 #[iv x0,.slice A1 x1.length c1] rfl)) (gf rfl rfl rfl rfl (fun a f hg=>run_move rfl (f.ev rfl)) fun a f=>?_)
 obtain ⟨p103,h103,hM⟩:=bind_ex hM
 refine op_gcall (v:=.bool p103) rfl rfl f rfl S (yf (gw_yield f rfl rfl rfl)) (fun hg=>(run_call (vs:=[.agg #[iv x0,.slice A1 x1.length c1],.slice A2 x2.length c2]) rfl rfl co92 ⟨((f.ev rfl).trans (gv_t hg)),((f.ev rfl).trans (gv_t hg)),trivial⟩)) (fun hg=>c_spec_HasCycle (x0:=x0) (x1:=x1) (x2:=x2) ⟨(S.rc0 h1.rc),rfl⟩ ⟨(S.rc0 h2.rc),rfl⟩ (gb_t h103 hg)) ?_;clear f S;intro a u f S
 revert a;refine ov rfl (fun a f=>run_pick_or rfl (f.ev rfl) rfl (fun hp=>((f.ev rfl).trans (gv_t (not_t hp))))) fun a f=>wn ?_
 cases hc104:((!p102)||p103)
 ·replace hM:=bif_f hc104 hM
  refine cond_f f rfl hc104 ?_
  refine wp_skip ?_
  refine ws ?_
  revert a;refine sr (ov rfl (fun a f=>run_assign rfl rfl) fun a f=>wn ?_)
  obtain ⟨o106,hM107,hM⟩:=bind_ex hM
  refine wp_cut (fun a u=>∃ (p105:Unit),(Sum.inl p105)=o106∧Fr a 51 [(6,.bool false)]∧St w u []) ?_ ?_
  ·have _:=trivial
   refine wp_block ?_
   refine loop_gw (fun m a u=>∃ (p108:Int),m_spec_Radial_l1 x0 x1 x2 x3 m p108=some _∧Fr a 51 [(1,.slice A2 x2.length c2),(2,.slice A3 x3.length c3),(3,.pointer (some ⟨g101,0,none⟩)),(6,.bool false),(7,iv p108)]∧St w u [.box g101 37 #[iv x0,.slice A1 x1.length c1]]) FUEL ⟨0,hM107,f.keep _ ⟨rfl,rfl,rfl,rfl,rfl,trivial⟩,S.sel [0] rfl rfl⟩ ?_
   clear f S hM107;rintro m a u ⟨p108,hM107,f,S⟩
   rcases m with _ | f1
   ·exact none_some hM107
   rw [m_spec_Radial_l1.eq_2] at hM107
   refine ws ?_
   revert a;refine sr (mv rfl rfl (ov rfl (fun a f=>run_fieldAddr rfl fl37_0 (f.ev rfl) rfl) (ov rfl (fun a f=>run_load1 rfl one3 (f.ev rfl) (S.cell 0 rfl rfl)) (ov rfl (fun a f=>run_lss (f.ev rfl) (f.ev rfl) rfl) fun a f=>wn ?_))))
   cases hc109:(ltB p108 x0)
   ·replace hM107:=bif_f hc109 hM107
    refine cond_f f rfl hc109 ?_
    refine wp_exit ?_
    repeat with_reducible first|apply then_exit|apply in_hit|refine in_miss rfl ?_
    obtain rfl:=Option.some.inj hM107
    exact ⟨(),rfl,f.keep _ ⟨rfl,trivial⟩,S.sel [] rfl rfl⟩
   replace hM107:=bif_t hc109 hM107
   refine cond_t f rfl hc109 ?_
   refine wp_skip ?_
   refine ws ?_
   refine wp_block ?_
   revert a;refine sr (ov rfl (fun a f=>run_assign rfl rfl) fun a f=>wn ?_)
   obtain ⟨o111,hM112,hM107⟩:=bind_ex hM107
   refine wp_cut (fun a u=>∃ (p110:Unit),(Sum.inl p110)=o111∧Fr a 51 [(1,.slice A2 x2.length c2),(2,.slice A3 x3.length c3),(3,.pointer (some ⟨g101,0,none⟩)),(6,.bool false),(7,iv p108)]∧St w u [.box g101 37 #[iv x0,.slice A1 x1.length c1]]) ?_ ?_
   ·have _:=trivial
    refine wp_block ?_
    refine loop_gw (fun m a u=>∃ (p113:Int),m_spec_Radial_l2 x0 x1 x2 x3 p108 m p113=some _∧Fr a 51 [(1,.slice A2 x2.length c2),(2,.slice A3 x3.length c3),(3,.pointer (some ⟨g101,0,none⟩)),(6,.bool false),(7,iv p108),(8,iv p113)]∧St w u [.box g101 37 #[iv x0,.slice A1 x1.length c1]]) FUEL ⟨0,hM112,f.keep _ ⟨rfl,rfl,rfl,rfl,rfl,rfl,trivial⟩,S.sel [0] rfl rfl⟩ ?_
    clear f S hM112;rintro m a u ⟨p113,hM112,f,S⟩
    rcases m with _ | f2
    ·exact none_some hM112
    rw [m_spec_Radial_l2.eq_2] at hM112
    refine ws ?_
    revert a;refine sr (mv rfl rfl (mv rfl rfl (ov rfl (fun a f=>run_lss (f.ev rfl) (f.ev rfl) rfl) fun a f=>wn ?_)))
    cases hc114:(ltB p113 p108)
    ·replace hM112:=bif_f hc114 hM112
     refine cond_f f rfl hc114 ?_
     refine wp_exit ?_
     repeat with_reducible first|apply then_exit|apply in_hit|refine in_miss rfl ?_
     obtain rfl:=Option.some.inj hM112
     exact ⟨(),rfl,f.keep _ ⟨rfl,rfl,rfl,rfl,rfl,trivial⟩,S.sel [0] rfl rfl⟩
    replace hM112:=bif_t hc114 hM112
    refine cond_t f rfl hc114 ?_
    refine wp_skip ?_
    refine ws ?_
    refine wp_block ?_
    revert a;refine sr (mv rfl rfl (mv rfl rfl fun a f=>?_))
    obtain ⟨hk115,hM112⟩:=chk_ex hM112
    replace hk115:=ixB_t hk115
    revert a;refine ov rfl (fun a f=>run_ix rfl Tryz.underlying38 sz110 (f.ev rfl) (S.rc0 h3.rc) (f.ev rfl) hk115) (ov rfl (fun a f=>run_fieldAddr rfl fl110_0 (f.ev rfl) rfl) (ov rfl (fun a f=>run_load1 rfl one3 (f.ev rfl) (rd_el0 (l:=x3) (S.rc0 h3.rc).rd rfl eBus_len (0,0) (ix_ltn hk115 rfl) rfl)) (ov rfl (fun a f=>run_gtr (f.ev rfl) rfl rfl) (mv rfl rfl fun a f=>?_))))
    revert a;refine gt rfl rfl rfl rfl (fun a f hg=>run_move rfl (f.ev rfl)) (gt rfl rfl rfl rfl (fun a f hg=>run_move rfl (f.ev rfl)) fun a f=>?_)
    obtain ⟨hk116,hM112⟩:=chk_ex hM112
    replace hk116:=fun hg=>ixB_t (imp_t hk116 hg)
    revert a;refine gt rfl rfl rfl rfl (fun a f hg=>run_ix rfl Tryz.underlying38 sz110 ((f.ev rfl).trans (gv_t hg)) (S.rc0 h3.rc) ((f.ev rfl).trans (gv_t hg)) (hk116 hg)) (gt rfl rfl rfl rfl (fun a f hg=>run_fieldAddr rfl fl110_0 ((f.ev rfl).trans (gv_t hg)) rfl) (gt rfl rfl rfl rfl (fun a f hg=>run_load1 rfl one3 ((f.ev rfl).trans (gv_t hg)) (rd_el0 (l:=x3) (S.rc0 h3.rc).rd rfl eBus_len (0,0) (ix_ltn (hk116 hg) rfl) rfl)) (gt rfl rfl rfl rfl (fun a f hg=>run_gtr ((f.ev rfl).trans (gv_t hg)) rfl rfl) fun a f=>?_)))
    revert a;refine ov rfl (fun a f=>run_pick_and rfl (f.ev rfl) (fun hp=>((f.ev rfl).trans (gv_t hp))) rfl) (mv rfl rfl fun a f=>?_)
    revert a;refine gt rfl rfl rfl rfl (fun a f hg=>run_loadN rfl ag37 (f.ev rfl) rfl ((S.free 0 rfl).cells 0 #[iv x0,.slice A1 x1.length c1] rfl)) (gt rfl rfl rfl rfl (fun a f hg=>run_move rfl (f.ev rfl)) (gt rfl rfl rfl rfl (fun a f hg=>run_move rfl (f.ev rfl)) (gt rfl rfl rfl rfl (fun a f hg=>run_move rfl (f.ev rfl)) fun a f=>?_)))
    obtain ⟨p117,h117,hM112⟩:=bind_ex hM112
    refine op_gcall (v:=.bool p117) rfl rfl f rfl S (yt (gw_yield f rfl rfl rfl)) (fun hg=>(run_call (vs:=[.agg #[iv x0,.slice A1 x1.length c1],.slice A2 x2.length c2,iv p113,iv p108]) rfl rfl co93 ⟨((f.ev rfl).trans (gv_t hg)),((f.ev rfl).trans (gv_t hg)),((f.ev rfl).trans (gv_t hg)),((f.ev rfl).trans (gv_t hg)),trivial⟩)) (fun hg=>c_spec_SameIsland (x0:=x0) (x1:=x1) (x2:=x2) (x3:=p113) (x4:=p108) ⟨(S.rc0 h1.rc),rfl⟩ ⟨(S.rc0 h2.rc),rfl⟩ (gb_t h117 hg)) ?_;clear f S;intro a u f S
    revert a;refine ov rfl (fun a f=>run_pick_and rfl (f.ev rfl) (fun hp=>((f.ev rfl).trans (gv_t hp))) rfl) fun a f=>wn ?_
    cases hc118:(((ltB 0 ((x3.getD p108.toNat (0,0)).1))&&(ltB 0 ((x3.getD p113.toNat (0,0)).1)))&&p117)
    ·replace hM112:=bif_f hc118 hM112
     refine cond_f f rfl hc118 ?_
     refine wp_skip ?_
     revert a;refine rl (mv rfl rfl (ov rfl (fun a f=>run_add (z:=w64 (p113+1)) (f.ev rfl) rfl rfl rfl) (ag rfl rfl fun a f=>wn ?_)))
     exact ⟨f2,Nat.lt_succ_self _,w64 (p113+1),hM112,f.keep _ ⟨rfl,rfl,rfl,rfl,rfl,rfl,trivial⟩,S.sel [0] rfl rfl⟩
    replace hM112:=bif_t hc118 hM112
    refine cond_t f rfl hc118 ?_
    revert a;refine sr (ov rfl (fun a f=>run_assign rfl rfl) fun a f=>wn ?_)
    refine wp_ret ?_
    repeat with_reducible first|apply tr|apply ir|apply nr
    refine ret1_gw (.inl rfl) f rfl (res_tmp (f.ev rfl)) ?_
    obtain rfl:=Option.some.inj hM112
    obtain rfl:=Option.some.inj hM107
    obtain rfl:=Option.some.inj hM
    exact ⟨rfl,S.sel [] rfl rfl⟩
   rintro a u ⟨p110,rfl,f,S⟩
   replace hM107:=elim_l hM107
   revert a;refine rl (mv rfl rfl (ov rfl (fun a f=>run_add (z:=w64 (p108+1)) (f.ev rfl) rfl rfl rfl) (ag rfl rfl fun a f=>wn ?_)))
   exact ⟨f1,Nat.lt_succ_self _,w64 (p108+1),hM107,f.keep _ ⟨rfl,rfl,rfl,rfl,rfl,trivial⟩,S.sel [0] rfl rfl⟩
  rintro a u ⟨p105,rfl,f,S⟩
  replace hM:=elim_l hM
  revert a;refine sr (ov rfl (fun a f=>run_assign rfl rfl) fun a f=>wn ?_)
  refine wp_ret ?_
  refine ret1_gw (.inl rfl) f rfl (res_tmp (f.ev rfl)) ?_
  obtain rfl:=Option.some.inj hM
  exact ⟨rfl,S.sel [] rfl rfl⟩
 replace hM:=bif_t hc104 hM
 refine cond_t f rfl hc104 ?_
 revert a;refine sr (ov rfl (fun a f=>run_assign rfl rfl) fun a f=>wn ?_)
 refine wp_ret ?_
 repeat with_reducible first|apply tr|apply ir|apply nr
 refine ret1_gw (.inl rfl) f rfl (res_tmp (f.ev rfl)) ?_
 obtain rfl:=Option.some.inj hM
 exact ⟨rfl,S.sel [] rfl rfl⟩
theorem c_spec_WorldValid {x0:Int} {x1:List (Int×Int×Int)} {x2:List (Int×Int)} {x3:List Bool} {x4:List Bool} {x5:List (Int×Int)} {x6:List Int} {A1:Option Addr} {n1 c1:Nat} {A2:Option Addr} {n2 c2:Nat} {A3:Option Addr} {n3 c3:Nat} {A4:Option Addr} {n4 c4:Nat} {A5:Option Addr} {n5 c5:Nat} {A6:Option Addr} {n6 c6:Nat} {w:World} {r:Bool} (h1:Rt w 3 eLine A1 n1 c1 x1) (h2:Rt w 2 eBus A2 n2 c2 x2) (h3:Rt w 1 eB A3 n3 c3 x3) (h4:Rt w 1 eB A4 n4 c4 x4) (h5:Rt w 2 ePermit A5 n5 c5 x5) (h6:Rt w 1 eI A6 n6 c6 x6) (hM : m_spec_WorldValid x0 x1 x2 x3 x4 x5 x6=some r) :
  Calls Tryz.prog 30 #[.agg #[iv x0,.slice A1 n1 c1,.slice A2 n2 c2,.slice A3 n3 c3,.slice A4 n4 c4,.slice A5 n5 c5,.slice A6 n6 c6]] w (fun e w'=>e=.returned (.bool r)∧St w w' []):=by
 obtain rfl:=h1.len
 obtain rfl:=h2.len
 obtain rfl:=h3.len
 obtain rfl:=h4.len
 obtain rfl:=h5.len
 obtain rfl:=h6.len
 unfold m_spec_WorldValid at hM
 refine calls_gx Tryz.func30 Tryz.ntmps30 rfl rfl ?_
 intro a f
 have S:=St.nil w
 refine wsg ?_
 refine op_new (cs:=#[iv x0,.slice A1 x1.length c1,.slice A2 x2.length c2,.slice A3 x3.length c3,.slice A4 x4.length c4,.slice A5 x5.length c5,.slice A6 x6.length c6]) rfl rfl f rfl S (run_box rfl (f.ev rfl) rfl) ?_;clear f S;intro a g101 u f S
 revert a;refine ov rfl (fun a f=>run_assign rfl rfl) fun a f=>wn ?_
 refine ws ?_
 revert a;refine sr (ov rfl (fun a f=>run_fieldAddr rfl fl43_0 (f.ev rfl) rfl) (ov rfl (fun a f=>run_loadN rfl ag37 (f.ev rfl) rfl ((S.free 0 rfl).cells 0 #[iv x0,.slice A1 x1.length c1] rfl)) (ov rfl (fun a f=>run_fieldAddr rfl fl43_1 (f.ev rfl) rfl) (ov rfl (fun a f=>run_load1 rfl one38 (f.ev rfl) (S.cell 0 rfl rfl)) fun a f=>?_))))
 obtain ⟨p102,h102,hM⟩:=bind_ex hM
 refine op_call rfl rfl f rfl (run_call (vs:=[_,_]) rfl rfl co68 ⟨(f.ev rfl),(f.ev rfl),trivial⟩) (c_spec_BusesValid ⟨(S.rc0 h1.rc),rfl⟩ ⟨(S.rc0 h2.rc),rfl⟩ h102) ?_
 rintro e u ⟨rfl,T⟩
 refine ⟨_,rfl,?_⟩
 clear f;intro a f
 replace S:=S.call0 T;clear T
 revert a;refine ov rfl (fun a f=>run_not rfl (f.ev rfl)) (mv rfl rfl fun a f=>?_)
 revert a;refine gf rfl rfl rfl rfl (fun a f hg=>run_fieldAddr rfl fl43_2 (f.ev rfl) rfl) (gf rfl rfl rfl rfl (fun a f hg=>run_loadN rfl ag41 ((f.ev rfl).trans (gv_t hg)) rfl ((S.free 0 rfl).cells 3 #[.slice A3 x3.length c3,.slice A4 x4.length c4,.slice A5 x5.length c5] rfl)) fun a f=>?_)
 obtain ⟨p103,h103,hM⟩:=bind_ex hM
 refine op_gcall (v:=.bool p103) rfl rfl f rfl S (yf (gw_yield f rfl rfl rfl)) (fun hg=>(run_call (vs:=[.agg #[.slice A3 x3.length c3,.slice A4 x4.length c4,.slice A5 x5.length c5]]) rfl rfl co69 ⟨((f.ev rfl).trans (gv_t hg)),trivial⟩)) (fun hg=>c_spec_WorkValid (x0:=x3) (x1:=x4) (x2:=x5) ⟨(S.rc0 h3.rc),rfl⟩ ⟨(S.rc0 h4.rc),rfl⟩ ⟨(S.rc0 h5.rc),rfl⟩ (gb_t h103 hg)) ?_;clear f S;intro a u f S
 revert a;refine gf rfl rfl rfl rfl (fun a f hg=>run_not rfl ((f.ev rfl).trans (gv_t hg))) fun a f=>?_
 revert a;refine ov rfl (fun a f=>run_pick_or rfl (f.ev rfl) rfl (fun hp=>((f.ev rfl).trans (gv_t (not_t hp))))) (mv rfl rfl fun a f=>?_)
 revert a;refine gf rfl rfl rfl rfl (fun a f hg=>run_fieldAddr rfl fl43_2 (f.ev rfl) rfl) (gf rfl rfl rfl rfl (fun a f hg=>run_fieldAddr rfl fl41_0 ((f.ev rfl).trans (gv_t hg)) rfl) (gf rfl rfl rfl rfl (fun a f hg=>run_load1 rfl one26 ((f.ev rfl).trans (gv_t hg)) (S.cell 0 rfl rfl)) (gf rfl rfl rfl rfl (fun a f hg=>run_lenL rfl rfl Tryz.underlying26 ((f.ev rfl).trans (gv_t hg))) (gf rfl rfl rfl rfl (fun a f hg=>run_fieldAddr rfl fl43_0 (f.ev rfl) rfl) (gf rfl rfl rfl rfl (fun a f hg=>run_fieldAddr rfl fl37_1 ((f.ev rfl).trans (gv_t hg)) rfl) (gf rfl rfl rfl rfl (fun a f hg=>run_load1 rfl one35 ((f.ev rfl).trans (gv_t hg)) (S.cell 0 rfl rfl)) (gf rfl rfl rfl rfl (fun a f hg=>run_lenL rfl rfl Tryz.underlying35 ((f.ev rfl).trans (gv_t hg))) (gf rfl rfl rfl rfl (fun a f hg=>run_neq ((f.ev rfl).trans (gv_t hg)) ((f.ev rfl).trans (gv_t hg)) rfl) (ov rfl (fun a f=>run_pick_or rfl (f.ev rfl) rfl (fun hp=>((f.ev rfl).trans (gv_t (not_t hp))))) fun a f=>wn ?_)))))))))
 cases hc104:(((!p102)||(!p103))||((x3.length:Int) != (x1.length:Int)))
 ·replace hM:=bif_f hc104 hM
  refine cond_f f rfl hc104 ?_
  refine wp_skip ?_
  refine ws ?_
  revert a;refine sr (ov rfl (fun a f=>run_assign rfl rfl) fun a f=>wn ?_)
  obtain ⟨o106,hM107,hM⟩:=bind_ex hM
  refine wp_cut (fun a u=>∃ (p105:Unit),(Sum.inl p105)=o106∧Fr a 84 [(1,.pointer (some ⟨g101,0,none⟩)),(2,.bool false)]∧St w u [.box g101 43 #[iv x0,.slice A1 x1.length c1,.slice A2 x2.length c2,.slice A3 x3.length c3,.slice A4 x4.length c4,.slice A5 x5.length c5,.slice A6 x6.length c6]]) ?_ ?_
  ·have _:=trivial
   refine wp_block ?_
   refine loop_gw (fun m a u=>∃ (p108:Int),m_spec_WorldValid_l1 x3 x6 m p108=some _∧Fr a 84 [(1,.pointer (some ⟨g101,0,none⟩)),(2,.bool false),(3,iv p108)]∧St w u [.box g101 43 #[iv x0,.slice A1 x1.length c1,.slice A2 x2.length c2,.slice A3 x3.length c3,.slice A4 x4.length c4,.slice A5 x5.length c5,.slice A6 x6.length c6]]) FUEL ⟨0,hM107,f.keep _ ⟨rfl,rfl,rfl,trivial⟩,S.sel [0] rfl rfl⟩ ?_
   clear f S hM107;rintro m a u ⟨p108,hM107,f,S⟩
   rcases m with _ | f1
   ·exact none_some hM107
   rw [m_spec_WorldValid_l1.eq_2] at hM107
   refine ws ?_
   revert a;refine sr (mv rfl rfl (ov rfl (fun a f=>run_fieldAddr rfl fl43_3 (f.ev rfl) rfl) (ov rfl (fun a f=>run_load1 rfl one30 (f.ev rfl) (S.cell 0 rfl rfl)) (ov rfl (fun a f=>run_lenL rfl rfl Tryz.underlying30 (f.ev rfl)) (ov rfl (fun a f=>run_lss (f.ev rfl) (f.ev rfl) rfl) fun a f=>wn ?_)))))
   cases hc109:(ltB p108 (x6.length:Int))
   ·replace hM107:=bif_f hc109 hM107
    refine cond_f f rfl hc109 ?_
    refine wp_exit ?_
    repeat with_reducible first|apply then_exit|apply in_hit|refine in_miss rfl ?_
    obtain rfl:=Option.some.inj hM107
    exact ⟨(),rfl,f.keep _ ⟨rfl,rfl,trivial⟩,S.sel [0] rfl rfl⟩
   replace hM107:=bif_t hc109 hM107
   refine cond_t f rfl hc109 ?_
   refine wp_skip ?_
   refine ws ?_
   refine wp_block ?_
   refine ws ?_
   obtain ⟨hk110,hM107⟩:=chk_ex hM107
   replace hk110:=ixB_t hk110
   obtain ⟨p111,h111,hM107⟩:=bind_ex hM107
   obtain ⟨hk112,hM107⟩:=chk_ex hM107
   replace hk112:=fun hg=>ixB_t (imp_t hk112 hg)
   obtain ⟨hk113,hM107⟩:=chk_ex hM107
   replace hk113:=fun hg=>ixB_t (imp_t hk113 hg)
   obtain ⟨hk114,hM107⟩:=chk_ex hM107
   replace hk114:=fun hg=>ixB_t (imp_t hk114 hg)
   obtain ⟨hk115,hM107⟩:=chk_ex hM107
   replace hk115:=fun hg=>ixB_t (imp_t hk115 hg)
   refine region_gw (D:=[34,35,36,37,38,39,40,41,42,43,44,45,46,47,48,49,50,51,52,53,54,55,56,57,58,59,60,61,62,63,64,65,66,67,68,69,70,71,72,73,74,75]) (Lr:=[.box g101 43 #[iv x0,.slice A1 x1.length c1,.slice A2 x2.length c2,.slice A3 x3.length c3,.slice A4 x4.length c4,.slice A5 x5.length c5,.slice A6 x6.length c6]]) (deps:=(fun | 0=>[34] | 1=>[35] | 2=>[36] | 3=>[37] | 4=>[38] | 5=>[39] | 6=>[40] | 7=>[41] | 8=>[42] | 9=>[43] | 10=>[44] | 11=>[45] | 12=>[46] | 13=>[47] | 14=>[48] | 15=>[49] | 16=>[50] | 17=>[51] | 18=>[52] | 19=>[53] | 20=>[54] | 21=>[55] | 22=>[56] | 23=>[57] | 24=>[58] | 25=>[59] | 26=>[60] | 27=>[61] | 28=>[62] | 29=>[63] | 30=>[64] | 31=>[65] | 32=>[66] | 33=>[67] | 34=>[68] | 35=>[69] | 36=>[70] | 37=>[71] | 38=>[72] | 39=>[73] | 40=>[74] | 41=>[75] | _=>[])) (rd:=(fun _=>[])) (zr:=(fun _=>[]))
    (φ:=fun i vs=>match i,vs with | 0,[v34]=>v34=.pointer (some ⟨g101,6,none⟩) | 1,[v35]=>v35=.slice A6 x6.length c6 | 2,[v36]=>v36=iv p108 | 3,[v37]=>v37=.pointer (some ⟨adB A6,adO A6+p108.toNat*1,none⟩) | 4,[v38]=>v38=iv (x6.getD p108.toNat 0) | 5,[v39]=>v39=.pointer (some ⟨g101,3,none⟩) | 6,[v40]=>v40=.pointer (some ⟨g101,3,none⟩) | 7,[v41]=>v41=.slice A3 x3.length c3 | 8,[v42]=>v42=iv (x3.length:Int) | 9,[v43]=>v43=iv (w64 ((x3.length:Int)-1)) | 10,[v44]=>v44=.bool p111 | 11,[v45]=>v45=.bool (!p111) | 12,[v46]=>v46=.bool (!p111) | 13,[v47]=>v47=gv (!(!p111)) (iv p108) | 14,[v48]=>v48=gv (!(!p111)) (.bool (ltB 0 p108)) | 15,[v49]=>v49=gv (!(!p111)) (.bool (ltB 0 p108)) | 16,[v50]=>v50=gv ((!(!p111))&&(ltB 0 p108)) (.pointer (some ⟨g101,6,none⟩)) | 17,[v51]=>v51=gv ((!(!p111))&&(ltB 0 p108)) (.slice A6 x6.length c6) | 18,[v52]=>v52=gv ((!(!p111))&&(ltB 0 p108)) (iv p108) | 19,[v53]=>v53=gv ((!(!p111))&&(ltB 0 p108)) (iv (w64 (p108-1))) | 20,[v54]=>v54=gv ((!(!p111))&&(ltB 0 p108)) (.pointer (some ⟨adB A6,adO A6+((w64 (p108-1)).toNat)*1,none⟩)) | 21,[v55]=>v55=gv ((!(!p111))&&(ltB 0 p108)) (iv (x6.getD ((w64 (p108-1)).toNat) 0)) | 22,[v56]=>v56=gv ((!(!p111))&&(ltB 0 p108)) (.pointer (some ⟨g101,6,none⟩)) | 23,[v57]=>v57=gv ((!(!p111))&&(ltB 0 p108)) (.slice A6 x6.length c6) | 24,[v58]=>v58=gv ((!(!p111))&&(ltB 0 p108)) (iv p108) | 25,[v59]=>v59=gv ((!(!p111))&&(ltB 0 p108)) (.pointer (some ⟨adB A6,adO A6+p108.toNat*1,none⟩)) | 26,[v60]=>v60=gv ((!(!p111))&&(ltB 0 p108)) (iv (x6.getD p108.toNat 0)) | 27,[v61]=>v61=gv ((!(!p111))&&(ltB 0 p108)) (.bool (leB (x6.getD p108.toNat 0) (x6.getD ((w64 (p108-1)).toNat) 0))) | 28,[v62]=>v62=gv (!(!p111)) (.bool ((ltB 0 p108)&&(leB (x6.getD p108.toNat 0) (x6.getD ((w64 (p108-1)).toNat) 0)))) | 29,[v63]=>v63=.bool ((!p111)||((ltB 0 p108)&&(leB (x6.getD p108.toNat 0) (x6.getD ((w64 (p108-1)).toNat) 0)))) | 30,[v64]=>v64=.bool ((!p111)||((ltB 0 p108)&&(leB (x6.getD p108.toNat 0) (x6.getD ((w64 (p108-1)).toNat) 0)))) | 31,[v65]=>v65=gv (!((!p111)||((ltB 0 p108)&&(leB (x6.getD p108.toNat 0) (x6.getD ((w64 (p108-1)).toNat) 0))))) (.pointer (some ⟨g101,3,none⟩)) | 32,[v66]=>v66=gv (!((!p111)||((ltB 0 p108)&&(leB (x6.getD p108.toNat 0) (x6.getD ((w64 (p108-1)).toNat) 0))))) (.pointer (some ⟨g101,3,none⟩)) | 33,[v67]=>v67=gv (!((!p111)||((ltB 0 p108)&&(leB (x6.getD p108.toNat 0) (x6.getD ((w64 (p108-1)).toNat) 0))))) (.slice A3 x3.length c3) | 34,[v68]=>v68=gv (!((!p111)||((ltB 0 p108)&&(leB (x6.getD p108.toNat 0) (x6.getD ((w64 (p108-1)).toNat) 0))))) (.pointer (some ⟨g101,6,none⟩)) | 35,[v69]=>v69=gv (!((!p111)||((ltB 0 p108)&&(leB (x6.getD p108.toNat 0) (x6.getD ((w64 (p108-1)).toNat) 0))))) (.slice A6 x6.length c6) | 36,[v70]=>v70=gv (!((!p111)||((ltB 0 p108)&&(leB (x6.getD p108.toNat 0) (x6.getD ((w64 (p108-1)).toNat) 0))))) (iv p108) | 37,[v71]=>v71=gv (!((!p111)||((ltB 0 p108)&&(leB (x6.getD p108.toNat 0) (x6.getD ((w64 (p108-1)).toNat) 0))))) (.pointer (some ⟨adB A6,adO A6+p108.toNat*1,none⟩)) | 38,[v72]=>v72=gv (!((!p111)||((ltB 0 p108)&&(leB (x6.getD p108.toNat 0) (x6.getD ((w64 (p108-1)).toNat) 0))))) (iv (x6.getD p108.toNat 0)) | 39,[v73]=>v73=gv (!((!p111)||((ltB 0 p108)&&(leB (x6.getD p108.toNat 0) (x6.getD ((w64 (p108-1)).toNat) 0))))) (.pointer (some ⟨adB A3,adO A3+((x6.getD p108.toNat 0).toNat)*1,none⟩)) | 40,[v74]=>v74=gv (!((!p111)||((ltB 0 p108)&&(leB (x6.getD p108.toNat 0) (x6.getD ((w64 (p108-1)).toNat) 0))))) (.bool (x3.getD ((x6.getD p108.toNat 0).toNat) false)) | 41,[v75]=>v75=.bool (((!p111)||((ltB 0 p108)&&(leB (x6.getD p108.toNat 0) (x6.getD ((w64 (p108-1)).toNat) 0))))||(x3.getD ((x6.getD p108.toNat 0).toNat) false)) | _,_=>True)
    (C:=fun _ _=>[])
    (κ:=(fun _=>none)) (Z:=(fun _=>[])) mixed f (by kernel_rfl) S ?_ ?_
   ·refine ⟨?_,?_,?_,?_,?_,?_,?_,?_,?_,?_,?_,?_,?_,?_,?_,?_,?_,?_,?_,?_,?_,?_,?_,?_,?_,?_,?_,?_,?_,?_,?_,?_,?_,?_,?_,?_,?_,?_,?_,?_,?_,?_,trivial⟩
    ·intro a u X hB hu p hr hz hl S
     exact .inl ⟨rfl,_,u,(run_fieldAddr rfl fl43_3 (f.evB hB rfl rfl) rfl),rfl,S⟩
    ·intro a u X hB hu p hr hz hl S
     exact .inl ⟨rfl,_,u,(run_load1 rfl one30 (ev_sl (p 0 rfl)) ((gr_box S hl 0 rfl).cell rfl)),rfl,S⟩
    ·intro a u X hB hu p hr hz hl S
     exact .inl ⟨rfl,_,u,(run_move rfl (f.evB hB rfl rfl)),rfl,S⟩
    ·intro a u X hB hu p hr hz hl S
     exact .inl ⟨rfl,_,u,(run_ix rfl Tryz.underlying30 sz3 (ev_sl (p 1 rfl)) (S.rc0 h6.rc) (ev_sl (p 2 rfl)) hk110),rfl,S⟩
    ·intro a u X hB hu p hr hz hl S
     exact .inl ⟨rfl,_,u,(run_load1 rfl one3 (ev_sl (p 3 rfl)) (rd_el0 (l:=x6) (S.rc0 h6.rc).rd rfl eI_len 0 (ix_ltn hk110 rfl) rfl)),rfl,S⟩
    ·intro a u X hB hu p hr hz hl S
     exact .inl ⟨rfl,_,u,(run_fieldAddr rfl fl43_2 (f.evB hB rfl rfl) rfl),rfl,S⟩
    ·intro a u X hB hu p hr hz hl S
     exact .inl ⟨rfl,_,u,(run_fieldAddr rfl fl41_0 (ev_sl (p 5 rfl)) rfl),rfl,S⟩
    ·intro a u X hB hu p hr hz hl S
     exact .inl ⟨rfl,_,u,(run_load1 rfl one26 (ev_sl (p 6 rfl)) ((gr_box S hl 0 rfl).cell rfl)),rfl,S⟩
    ·intro a u X hB hu p hr hz hl S
     exact .inl ⟨rfl,_,u,(run_lenL rfl rfl Tryz.underlying26 (ev_sl (p 7 rfl))),rfl,S⟩
    ·intro a u X hB hu p hr hz hl S
     exact .inl ⟨rfl,_,u,(run_sub (z:=w64 ((x3.length:Int)-1)) (ev_sl (p 8 rfl)) (ev_const _ _) rfl rfl),rfl,S⟩
    ·intro a u X hB hu p hr hz hl S
     refine .inr (.inr (.inl ⟨rfl,_,_,(run_call (vs:=[iv (x6.getD p108.toNat 0),iv 0,iv (w64 ((x3.length:Int)-1))]) rfl rfl co51 ⟨(ev_sl (p 4 rfl)),(ev_const _ _),(ev_sl (p 9 rfl)),trivial⟩),?_⟩))
     refine Calls.mono (c_spec_l1In (x0:=(x6.getD p108.toNat 0)) (x1:=0) (x2:=w64 ((x3.length:Int)-1))  h111) ?_
     rintro e w1 ⟨rfl,T⟩
     exact ⟨_,rfl,rfl,S.call0 T⟩
    ·intro a u X hB hu p hr hz hl S
     exact .inl ⟨rfl,_,u,(run_not rfl (ev_sl (p 10 rfl))),rfl,S⟩
    ·intro a u X hB hu p hr hz hl S
     exact .inl ⟨rfl,_,u,(run_move rfl (ev_sl (p 11 rfl))),rfl,S⟩
    ·intro a u X hB hu p hr hz hl S
     exact gyf rfl rfl rfl (p 12 rfl) (fun hg=>⟨(gv_f hg).symm,S⟩) fun hg=>⟨_,u,(run_move rfl (f.evB hB rfl rfl)),(gv_t hg).symm,S⟩
    ·intro a u X hB hu p hr hz hl S
     exact gyf rfl rfl rfl (p 12 rfl) (fun hg=>⟨(gv_f hg).symm,S⟩) fun hg=>⟨_,u,(run_gtr ((ev_sl (p 13 rfl)).trans (gv_t hg)) (ev_const _ _) rfl),(gv_t hg).symm,S⟩
    ·intro a u X hB hu p hr hz hl S
     exact gyf rfl rfl rfl (p 12 rfl) (fun hg=>⟨(gv_f hg).symm,S⟩) fun hg=>⟨_,u,(run_move rfl ((ev_sl (p 14 rfl)).trans (gv_t hg))),(gv_t hg).symm,S⟩
    ·intro a u X hB hu p hr hz hl S
     rcases bb ((!(!p111))&&(ltB 0 p108)) with hg | hg
     ·exact .inr (.inr (.inr ⟨gr_eg rfl (ytG (gr_yieldG rfl rfl (p 15 rfl))) hg,(gv_f hg).symm,S⟩))
     exact .inl ⟨gr_eg rfl (ytG (gr_yieldG rfl rfl (p 15 rfl))) hg,_,u,(run_fieldAddr rfl fl43_3 (f.evB hB rfl rfl) rfl),(gv_t hg).symm,S⟩
    ·intro a u X hB hu p hr hz hl S
     rcases bb ((!(!p111))&&(ltB 0 p108)) with hg | hg
     ·exact .inr (.inr (.inr ⟨gr_eg rfl (ytG (gr_yieldG rfl rfl (p 15 rfl))) hg,(gv_f hg).symm,S⟩))
     exact .inl ⟨gr_eg rfl (ytG (gr_yieldG rfl rfl (p 15 rfl))) hg,_,u,(run_load1 rfl one30 ((ev_sl (p 16 rfl)).trans (gv_t hg)) ((gr_box S hl 0 rfl).cell rfl)),(gv_t hg).symm,S⟩
    ·intro a u X hB hu p hr hz hl S
     rcases bb ((!(!p111))&&(ltB 0 p108)) with hg | hg
     ·exact .inr (.inr (.inr ⟨gr_eg rfl (ytG (gr_yieldG rfl rfl (p 15 rfl))) hg,(gv_f hg).symm,S⟩))
     exact .inl ⟨gr_eg rfl (ytG (gr_yieldG rfl rfl (p 15 rfl))) hg,_,u,(run_move rfl (f.evB hB rfl rfl)),(gv_t hg).symm,S⟩
    ·intro a u X hB hu p hr hz hl S
     rcases bb ((!(!p111))&&(ltB 0 p108)) with hg | hg
     ·exact .inr (.inr (.inr ⟨gr_eg rfl (ytG (gr_yieldG rfl rfl (p 15 rfl))) hg,(gv_f hg).symm,S⟩))
     exact .inl ⟨gr_eg rfl (ytG (gr_yieldG rfl rfl (p 15 rfl))) hg,_,u,(run_sub (z:=w64 (p108-1)) ((ev_sl (p 18 rfl)).trans (gv_t hg)) (ev_const _ _) rfl rfl),(gv_t hg).symm,S⟩
    ·intro a u X hB hu p hr hz hl S
     rcases bb ((!(!p111))&&(ltB 0 p108)) with hg | hg
     ·exact .inr (.inr (.inr ⟨gr_eg rfl (ytG (gr_yieldG rfl rfl (p 15 rfl))) hg,(gv_f hg).symm,S⟩))
     exact .inl ⟨gr_eg rfl (ytG (gr_yieldG rfl rfl (p 15 rfl))) hg,_,u,(run_indexAddr (b:=adB A6) (off:=adO A6) rfl Tryz.underlying30 sz3 (((ev_sl (p 17 rfl)).trans (gv_t hg)).trans (congrArg (fun A=>Value.slice A x6.length c6) ((S.rc0 h6.rc).rd.ad (ix_pos (hk112 hg))))) ((ev_sl (p 19 rfl)).trans (gv_t hg)) (hk112 hg).1 (hk112 hg).2 (k':=adO A6+((w64 (p108-1)).toNat)*1) rfl),(gv_t hg).symm,S⟩
    ·intro a u X hB hu p hr hz hl S
     rcases bb ((!(!p111))&&(ltB 0 p108)) with hg | hg
     ·exact .inr (.inr (.inr ⟨gr_eg rfl (ytG (gr_yieldG rfl rfl (p 15 rfl))) hg,(gv_f hg).symm,S⟩))
     exact .inl ⟨gr_eg rfl (ytG (gr_yieldG rfl rfl (p 15 rfl))) hg,_,u,(run_load1 rfl one3 ((ev_sl (p 20 rfl)).trans (gv_t hg)) (rd_el0 (l:=x6) (S.rc0 h6.rc).rd rfl eI_len 0 (ix_ltn (hk112 hg) rfl) rfl)),(gv_t hg).symm,S⟩
    ·intro a u X hB hu p hr hz hl S
     rcases bb ((!(!p111))&&(ltB 0 p108)) with hg | hg
     ·exact .inr (.inr (.inr ⟨gr_eg rfl (ytG (gr_yieldG rfl rfl (p 15 rfl))) hg,(gv_f hg).symm,S⟩))
     exact .inl ⟨gr_eg rfl (ytG (gr_yieldG rfl rfl (p 15 rfl))) hg,_,u,(run_fieldAddr rfl fl43_3 (f.evB hB rfl rfl) rfl),(gv_t hg).symm,S⟩
    ·intro a u X hB hu p hr hz hl S
     rcases bb ((!(!p111))&&(ltB 0 p108)) with hg | hg
     ·exact .inr (.inr (.inr ⟨gr_eg rfl (ytG (gr_yieldG rfl rfl (p 15 rfl))) hg,(gv_f hg).symm,S⟩))
     exact .inl ⟨gr_eg rfl (ytG (gr_yieldG rfl rfl (p 15 rfl))) hg,_,u,(run_load1 rfl one30 ((ev_sl (p 22 rfl)).trans (gv_t hg)) ((gr_box S hl 0 rfl).cell rfl)),(gv_t hg).symm,S⟩
    ·intro a u X hB hu p hr hz hl S
     rcases bb ((!(!p111))&&(ltB 0 p108)) with hg | hg
     ·exact .inr (.inr (.inr ⟨gr_eg rfl (ytG (gr_yieldG rfl rfl (p 15 rfl))) hg,(gv_f hg).symm,S⟩))
     exact .inl ⟨gr_eg rfl (ytG (gr_yieldG rfl rfl (p 15 rfl))) hg,_,u,(run_move rfl (f.evB hB rfl rfl)),(gv_t hg).symm,S⟩
    ·intro a u X hB hu p hr hz hl S
     rcases bb ((!(!p111))&&(ltB 0 p108)) with hg | hg
     ·exact .inr (.inr (.inr ⟨gr_eg rfl (ytG (gr_yieldG rfl rfl (p 15 rfl))) hg,(gv_f hg).symm,S⟩))
     exact .inl ⟨gr_eg rfl (ytG (gr_yieldG rfl rfl (p 15 rfl))) hg,_,u,(run_indexAddr (b:=adB A6) (off:=adO A6) rfl Tryz.underlying30 sz3 (((ev_sl (p 23 rfl)).trans (gv_t hg)).trans (congrArg (fun A=>Value.slice A x6.length c6) ((S.rc0 h6.rc).rd.ad (ix_pos (hk113 hg))))) ((ev_sl (p 24 rfl)).trans (gv_t hg)) (hk113 hg).1 (hk113 hg).2 (k':=adO A6+p108.toNat*1) rfl),(gv_t hg).symm,S⟩
    ·intro a u X hB hu p hr hz hl S
     rcases bb ((!(!p111))&&(ltB 0 p108)) with hg | hg
     ·exact .inr (.inr (.inr ⟨gr_eg rfl (ytG (gr_yieldG rfl rfl (p 15 rfl))) hg,(gv_f hg).symm,S⟩))
     exact .inl ⟨gr_eg rfl (ytG (gr_yieldG rfl rfl (p 15 rfl))) hg,_,u,(run_load1 rfl one3 ((ev_sl (p 25 rfl)).trans (gv_t hg)) (rd_el0 (l:=x6) (S.rc0 h6.rc).rd rfl eI_len 0 (ix_ltn (hk113 hg) rfl) rfl)),(gv_t hg).symm,S⟩
    ·intro a u X hB hu p hr hz hl S
     rcases bb ((!(!p111))&&(ltB 0 p108)) with hg | hg
     ·exact .inr (.inr (.inr ⟨gr_eg rfl (ytG (gr_yieldG rfl rfl (p 15 rfl))) hg,(gv_f hg).symm,S⟩))
     exact .inl ⟨gr_eg rfl (ytG (gr_yieldG rfl rfl (p 15 rfl))) hg,_,u,(run_geq ((ev_sl (p 21 rfl)).trans (gv_t hg)) ((ev_sl (p 26 rfl)).trans (gv_t hg)) rfl),(gv_t hg).symm,S⟩
    ·intro a u X hB hu p hr hz hl S
     exact gyf rfl rfl rfl (p 12 rfl) (fun hg=>⟨(gv_f hg).symm,S⟩) fun hg=>⟨_,u,(run_pick_and rfl ((ev_sl (p 15 rfl)).trans (gv_t hg)) (fun hp=>((ev_sl (p 27 rfl)).trans (gv_t (and_i hg hp)))) (ev_const _ _)),(gv_t hg).symm,S⟩
    ·intro a u X hB hu p hr hz hl S
     exact .inl ⟨rfl,_,u,(run_pick_or rfl (ev_sl (p 12 rfl)) (ev_const _ _) (fun hp=>((ev_sl (p 28 rfl)).trans (gv_t (not_t hp))))),rfl,S⟩
    ·intro a u X hB hu p hr hz hl S
     exact .inl ⟨rfl,_,u,(run_move rfl (ev_sl (p 29 rfl))),rfl,S⟩
    ·intro a u X hB hu p hr hz hl S
     exact gyf rfl rfl rfl (p 30 rfl) (fun hg=>⟨(gv_f hg).symm,S⟩) fun hg=>⟨_,u,(run_fieldAddr rfl fl43_2 (f.evB hB rfl rfl) rfl),(gv_t hg).symm,S⟩
    ·intro a u X hB hu p hr hz hl S
     exact gyf rfl rfl rfl (p 30 rfl) (fun hg=>⟨(gv_f hg).symm,S⟩) fun hg=>⟨_,u,(run_fieldAddr rfl fl41_0 ((ev_sl (p 31 rfl)).trans (gv_t hg)) rfl),(gv_t hg).symm,S⟩
    ·intro a u X hB hu p hr hz hl S
     exact gyf rfl rfl rfl (p 30 rfl) (fun hg=>⟨(gv_f hg).symm,S⟩) fun hg=>⟨_,u,(run_load1 rfl one26 ((ev_sl (p 32 rfl)).trans (gv_t hg)) ((gr_box S hl 0 rfl).cell rfl)),(gv_t hg).symm,S⟩
    ·intro a u X hB hu p hr hz hl S
     exact gyf rfl rfl rfl (p 30 rfl) (fun hg=>⟨(gv_f hg).symm,S⟩) fun hg=>⟨_,u,(run_fieldAddr rfl fl43_3 (f.evB hB rfl rfl) rfl),(gv_t hg).symm,S⟩
    ·intro a u X hB hu p hr hz hl S
     exact gyf rfl rfl rfl (p 30 rfl) (fun hg=>⟨(gv_f hg).symm,S⟩) fun hg=>⟨_,u,(run_load1 rfl one30 ((ev_sl (p 34 rfl)).trans (gv_t hg)) ((gr_box S hl 0 rfl).cell rfl)),(gv_t hg).symm,S⟩
    ·intro a u X hB hu p hr hz hl S
     exact gyf rfl rfl rfl (p 30 rfl) (fun hg=>⟨(gv_f hg).symm,S⟩) fun hg=>⟨_,u,(run_move rfl (f.evB hB rfl rfl)),(gv_t hg).symm,S⟩
    ·intro a u X hB hu p hr hz hl S
     exact gyf rfl rfl rfl (p 30 rfl) (fun hg=>⟨(gv_f hg).symm,S⟩) fun hg=>⟨_,u,(run_indexAddr (b:=adB A6) (off:=adO A6) rfl Tryz.underlying30 sz3 (((ev_sl (p 35 rfl)).trans (gv_t hg)).trans (congrArg (fun A=>Value.slice A x6.length c6) ((S.rc0 h6.rc).rd.ad (ix_pos (hk114 hg))))) ((ev_sl (p 36 rfl)).trans (gv_t hg)) (hk114 hg).1 (hk114 hg).2 (k':=adO A6+p108.toNat*1) rfl),(gv_t hg).symm,S⟩
    ·intro a u X hB hu p hr hz hl S
     exact gyf rfl rfl rfl (p 30 rfl) (fun hg=>⟨(gv_f hg).symm,S⟩) fun hg=>⟨_,u,(run_load1 rfl one3 ((ev_sl (p 37 rfl)).trans (gv_t hg)) (rd_el0 (l:=x6) (S.rc0 h6.rc).rd rfl eI_len 0 (ix_ltn (hk114 hg) rfl) rfl)),(gv_t hg).symm,S⟩
    ·intro a u X hB hu p hr hz hl S
     exact gyf rfl rfl rfl (p 30 rfl) (fun hg=>⟨(gv_f hg).symm,S⟩) fun hg=>⟨_,u,(run_indexAddr (b:=adB A3) (off:=adO A3) rfl Tryz.underlying26 sz4 (((ev_sl (p 33 rfl)).trans (gv_t hg)).trans (congrArg (fun A=>Value.slice A x3.length c3) ((S.rc0 h3.rc).rd.ad (ix_pos (hk115 hg))))) ((ev_sl (p 38 rfl)).trans (gv_t hg)) (hk115 hg).1 (hk115 hg).2 (k':=adO A3+((x6.getD p108.toNat 0).toNat)*1) rfl),(gv_t hg).symm,S⟩
    ·intro a u X hB hu p hr hz hl S
     exact gyf rfl rfl rfl (p 30 rfl) (fun hg=>⟨(gv_f hg).symm,S⟩) fun hg=>⟨_,u,(run_load1 rfl one4 ((ev_sl (p 39 rfl)).trans (gv_t hg)) (rd_el0 (l:=x3) (S.rc0 h3.rc).rd rfl eB_len false (ix_ltn (hk115 hg) rfl) rfl)),(gv_t hg).symm,S⟩
    intro a u X hB hu p hr hz hl S
    exact .inl ⟨rfl,_,u,(run_pick_or rfl (ev_sl (p 30 rfl)) (ev_const _ _) (fun hp=>((ev_sl (p 40 rfl)).trans (gv_t (not_t hp))))),rfl,S⟩
   intro a u hB hp S
   obtain ⟨q0,q1,q2,q3,q4,q5,q6,q7,q8,q9,q10,q11,q12,q13,q14,q15,q16,q17,q18,q19,q20,q21,q22,q23,q24,q25,q26,q27,q28,q29,q30,q31,q32,q33,q34,q35,q36,q37,q38,q39,q40,q41,-⟩:=hp
   replace S:St w u [.box g101 43 #[iv x0,.slice A1 x1.length c1,.slice A2 x2.length c2,.slice A3 x3.length c3,.slice A4 x4.length c4,.slice A5 x5.length c5,.slice A6 x6.length c6]]:=S
   have f:=f.region hB [(34,_),(35,_),(36,_),(37,_),(38,_),(39,_),(40,_),(41,_),(42,_),(43,_),(44,_),(45,_),(46,_),(47,_),(48,_),(49,_),(50,_),(51,_),(52,_),(53,_),(54,_),(55,_),(56,_),(57,_),(58,_),(59,_),(60,_),(61,_),(62,_),(63,_),(64,_),(65,_),(66,_),(67,_),(68,_),(69,_),(70,_),(71,_),(72,_),(73,_),(74,_),(75,_)] (allSl_mem ⟨q0,q1,q2,q3,q4,q5,q6,q7,q8,q9,q10,q11,q12,q13,q14,q15,q16,q17,q18,q19,q20,q21,q22,q23,q24,q25,q26,q27,q28,q29,q30,q31,q32,q33,q34,q35,q36,q37,q38,q39,q40,q41,trivial⟩) rfl
   clear hB q0 q1 q2 q3 q4 q5 q6 q7 q8 q9 q10 q11 q12 q13 q14 q15 q16 q17 q18 q19 q20 q21 q22 q23 q24 q25 q26 q27 q28 q29 q30 q31 q32 q33 q34 q35 q36 q37 q38 q39 q40 q41
   cases hc116:(((!p111)||((ltB 0 p108)&&(leB (x6.getD p108.toNat 0) (x6.getD ((w64 (p108-1)).toNat) 0))))||(x3.getD ((x6.getD p108.toNat 0).toNat) false))
   ·replace hM107:=bif_f hc116 hM107
    refine cond_f f rfl hc116 ?_
    refine wp_skip ?_
    revert a;refine rl (mv rfl rfl (ov rfl (fun a f=>run_add (z:=w64 (p108+1)) (f.ev rfl) rfl rfl rfl) (ag rfl rfl fun a f=>wn ?_)))
    exact ⟨f1,Nat.lt_succ_self _,w64 (p108+1),hM107,f.keep _ ⟨rfl,rfl,rfl,trivial⟩,S.sel [0] rfl rfl⟩
   replace hM107:=bif_t hc116 hM107
   refine cond_t f rfl hc116 ?_
   revert a;refine sr (ov rfl (fun a f=>run_assign rfl rfl) fun a f=>wn ?_)
   refine wp_ret ?_
   repeat with_reducible first|apply tr|apply ir|apply nr
   refine ret1_gw (.inl rfl) f rfl (res_tmp (f.ev rfl)) ?_
   obtain rfl:=Option.some.inj hM107
   obtain rfl:=Option.some.inj hM
   exact ⟨rfl,S.sel [] rfl rfl⟩
  rintro a u ⟨p105,rfl,f,S⟩
  replace hM:=elim_l hM
  revert a;refine sr (ov rfl (fun a f=>run_fieldAddr rfl fl43_0 (f.ev rfl) rfl) (ov rfl (fun a f=>run_loadN rfl ag37 (f.ev rfl) rfl ((S.free 0 rfl).cells 0 #[iv x0,.slice A1 x1.length c1] rfl)) (ov rfl (fun a f=>run_fieldAddr rfl fl43_2 (f.ev rfl) rfl) (ov rfl (fun a f=>run_fieldAddr rfl fl41_0 (f.ev rfl) rfl) (ov rfl (fun a f=>run_load1 rfl one26 (f.ev rfl) (S.cell 0 rfl rfl)) (ov rfl (fun a f=>run_fieldAddr rfl fl43_1 (f.ev rfl) rfl) (ov rfl (fun a f=>run_load1 rfl one38 (f.ev rfl) (S.cell 0 rfl rfl)) fun a f=>?_)))))))
  obtain ⟨p117,h117,hM⟩:=bind_ex hM
  refine op_call rfl rfl f rfl (run_call (vs:=[_,_,_]) rfl rfl co57 ⟨(f.ev rfl),(f.ev rfl),(f.ev rfl),trivial⟩) (c_spec_Radial ⟨(S.rc0 h1.rc),rfl⟩ ⟨(S.rc0 h3.rc),rfl⟩ ⟨(S.rc0 h2.rc),rfl⟩ h117) ?_
  rintro e u ⟨rfl,T⟩
  refine ⟨_,rfl,?_⟩
  clear f;intro a f
  replace S:=S.call0 T;clear T
  revert a;refine ag rfl rfl fun a f=>wn ?_
  refine wp_ret ?_
  refine ret1_gw (.inl rfl) f rfl (res_tmp (f.ev rfl)) ?_
  obtain rfl:=Option.some.inj hM
  exact ⟨rfl,S.sel [] rfl rfl⟩
 replace hM:=bif_t hc104 hM
 refine cond_t f rfl hc104 ?_
 revert a;refine sr (ov rfl (fun a f=>run_assign rfl rfl) fun a f=>wn ?_)
 refine wp_ret ?_
 repeat with_reducible first|apply tr|apply ir|apply nr
 refine ret1_gw (.inl rfl) f rfl (res_tmp (f.ev rfl)) ?_
 obtain rfl:=Option.some.inj hM
 exact ⟨rfl,S.sel [] rfl rfl⟩
theorem c_spec_StateOf {x0:Int} {x1:Int} {w:World} {r:List Bool×Bool}  (hM : m_spec_StateOf x0 x1=some r) :
  Calls Tryz.prog 114 #[iv x0,iv x1] w (fun e w'=>∃ (B0:Option Addr) (N0 D0:Nat),e=.returned (.tuple #[.slice B0 N0 D0,.bool r.2])∧N0=r.1.length∧St w w' [.row 4 1 (.slice B0 N0 D0) N0 (r.1.flatMap eB)]):=by
 unfold m_spec_StateOf at hM
 refine calls_gx Tryz.func114 Tryz.ntmps114 rfl rfl ?_
 intro a f
 have S:=St.nil w
 revert a;refine sr (ov rfl (fun a f=>run_assign rfl rfl) (ov rfl (fun a f=>run_assign rfl rfl) fun a f=>wn ?_))
 refine wsg ?_
 refine op_newrow (cs:=#[]) (size:=1) rfl rfl f rfl S (run_buildSlice0 rfl Tryz.underlying26 (congrArg Option.isSome sz4)) rfl (Nat.zero_le _) ?_;clear f S;intro a g101 u f S
 revert a;refine ag rfl rfl fun a f=>wn ?_
 refine ws ?_
 revert a;refine sr (mv rfl rfl fun a f=>?_)
 obtain ⟨p102,h102,hM⟩:=bind_ex hM
 refine op_call rfl rfl f rfl (run_call (vs:=[_,_,_]) rfl rfl co51 ⟨(f.ev rfl),rfl,rfl,trivial⟩) (c_spec_l1In  h102) ?_
 rintro e u ⟨rfl,T⟩
 refine ⟨_,rfl,?_⟩
 clear f;intro a f
 replace S:=S.call0 T;clear T
 revert a;refine ov rfl (fun a f=>run_not rfl (f.ev rfl)) (mv rfl rfl fun a f=>?_)
 revert a;refine gf rfl rfl rfl rfl (fun a f hg=>run_move rfl (f.ev rfl)) (gf rfl rfl rfl rfl (fun a f hg=>run_move rfl (f.ev rfl)) fun a f=>?_)
 obtain ⟨hk103,hM⟩:=chk_ex hM
 replace hk103:=fun hg=>nnB_t (imp_t hk103 hg)
 revert a;refine gf rfl rfl rfl rfl (fun a f hg=>run_shl rfl ((f.ev rfl).trans (gv_t hg)) rfl (hk103 hg)) (gf rfl rfl rfl rfl (fun a f hg=>run_sub (z:=w64 ((bitsShl .i64 1 x1)-1)) ((f.ev rfl).trans (gv_t hg)) rfl rfl rfl) fun a f=>?_)
 obtain ⟨p104,h104,hM⟩:=bind_ex hM
 refine op_gcall (v:=.bool p104) rfl rfl f rfl S (yf (gw_yield f rfl rfl rfl)) (fun hg=>(run_call (vs:=[iv x0,iv 0,iv (w64 ((bitsShl .i64 1 x1)-1))]) rfl rfl co51 ⟨((f.ev rfl).trans (gv_t hg)),rfl,((f.ev rfl).trans (gv_t hg)),trivial⟩)) (fun hg=>c_spec_l1In (x0:=x0) (x1:=0) (x2:=w64 ((bitsShl .i64 1 x1)-1))  (gb_t h104 hg)) ?_;clear f S;intro a u f S
 revert a;refine gf rfl rfl rfl rfl (fun a f hg=>run_not rfl ((f.ev rfl).trans (gv_t hg))) (ov rfl (fun a f=>run_pick_or rfl (f.ev rfl) rfl (fun hp=>((f.ev rfl).trans (gv_t (not_t hp))))) fun a f=>wn ?_)
 cases hc105:((!p102)||(!p104))
 ·replace hM:=bif_f hc105 hM
  refine cond_f f rfl hc105 ?_
  refine wp_skip ?_
  refine ws ?_
  revert a;refine sr (ov rfl (fun a f=>run_assign rfl rfl) fun a f=>wn ?_)
  obtain ⟨o107,hM110,hM⟩:=bind_ex hM
  refine wp_cut (fun a u=>∃ (p106:List Bool) (B108:Option Addr) (d109:Nat),p106=o107∧Fr a 35 [(4,.slice none 0 0),(5,.bool false),(6,.slice B108 p106.length d109)]∧St w u [.row 4 1 (.slice B108 p106.length d109) p106.length (p106.flatMap eB)]) ?_ ?_
  ·have _:=trivial
   refine wp_block ?_
   refine loop_gw (fun m a u=>∃ (p111:Int×List Bool×Int) (B112:Option Addr) (d113:Nat),m_spec_StateOf_l1 x1 m p111=some _∧Fr a 35 [(0,iv p111.1),(1,iv x1),(4,.slice none 0 0),(5,.bool false),(6,.slice B112 p111.2.1.length d113),(7,iv p111.2.2)]∧St w u [.row 4 1 (.slice B112 p111.2.1.length d113) p111.2.1.length (p111.2.1.flatMap eB)]) FUEL ⟨(x0,([]:List Bool),0),(some ⟨g101,0,none⟩),0,hM110,f.keep _ ⟨rfl,rfl,rfl,rfl,rfl,rfl,trivial⟩,S.sel [0] rfl rfl⟩ ?_
   clear f S hM110;rintro m a u ⟨p111,B112,d113,hM110,f,S⟩
   rcases m with _ | f1
   ·exact none_some hM110
   rw [m_spec_StateOf_l1.eq_2] at hM110
   refine ws ?_
   revert a;refine sr (mv rfl rfl (mv rfl rfl (ov rfl (fun a f=>run_lss (f.ev rfl) (f.ev rfl) rfl) fun a f=>wn ?_)))
   cases hc114:(ltB p111.2.2 x1)
   ·replace hM110:=bif_f hc114 hM110
    refine cond_f f rfl hc114 ?_
    refine wp_exit ?_
    repeat with_reducible first|apply then_exit|apply in_hit|refine in_miss rfl ?_
    obtain rfl:=Option.some.inj hM110
    exact ⟨p111.2.1,B112,d113,rfl,f.keep _ ⟨rfl,rfl,rfl,trivial⟩,S.sel [0] rfl rfl⟩
   replace hM110:=bif_t hc114 hM110
   refine cond_t f rfl hc114 ?_
   refine wp_skip ?_
   refine ws ?_
   refine wp_block ?_
   revert a;refine sr (mv rfl rfl (mv rfl rfl (ov rfl (fun a f=>run_rem (z:=Int.tmod p111.1 2) (f.ev rfl) rfl rfl (by decide) rfl) (ov rfl (fun a f=>run_eql (f.ev rfl) rfl rfl) fun a f=>?_))))
   refine op_newrowL (ls:=(([(Int.tmod p111.1 2)==1]:List Bool):List Bool)) (e:=eB) rfl rfl f rfl S (run_buildS (vs:=[(0,.bool ((Int.tmod p111.1 2)==1))]) rfl ⟨⟨rfl,(f.ev rfl)⟩,trivial⟩ (bs26_1_0 rfl)) rfl eB_len (Nat.le_of_ble_eq_true rfl) ?_;clear f S;intro a g115 u f S
   obtain ⟨hk118,hM110⟩:=chk_ex hM110
   replace hk118:=apB_t hk118
   refine op_appendL (lx:=p111.2.1) (ly:=([(Int.tmod p111.1 2)==1]:List Bool)) rfl rfl f rfl S rfl (f.ev rfl) (f.ev rfl) (i:=1) rfl rfl Tryz.underlying26 inf4 rfl (by decide) (S.rc 0 rfl).rd rfl eB_one hk118 (by decide) ?_;clear f S;intro a B116 d117 u f S
   revert a;refine ag rfl rfl fun a f=>wn ?_
   revert a;refine rl (mv rfl rfl (ov rfl (fun a f=>run_quo (z:=w64 (Int.tdiv p111.1 2)) (f.ev rfl) rfl rfl (by decide) rfl) (ag rfl rfl fun a f=>wn ?_)))
   revert a;refine rl (mv rfl rfl (ov rfl (fun a f=>run_add (z:=w64 (p111.2.2+1)) (f.ev rfl) rfl rfl rfl) (ag rfl rfl fun a f=>wn ?_)))
   exact ⟨f1,Nat.lt_succ_self _,(w64 (Int.tdiv p111.1 2),p111.2.1++([(Int.tmod p111.1 2)==1]:List Bool),w64 (p111.2.2+1)),B116,d117,hM110,f.keep _ ⟨rfl,rfl,rfl,rfl,rfl,rfl,trivial⟩,S.sel [1] rfl rfl⟩
  rintro a u ⟨p106,B108,d109,rfl,f,S⟩
  revert a;refine sr (mv rfl rfl (ag rfl rfl (ov rfl (fun a f=>run_assign rfl rfl) fun a f=>wn ?_)))
  refine wp_ret ?_
  refine ret2_gw (.inl rfl) f rfl (res_tmp (f.ev rfl)) (res_tmp (f.ev rfl)) ?_
  obtain rfl:=Option.some.inj hM
  exact ⟨B108,p106.length,d109,rfl,rfl,S.sel [0] rfl rfl⟩
 replace hM:=bif_t hc105 hM
 refine cond_t f rfl hc105 ?_
 revert a;refine sr (mv rfl rfl (ag rfl rfl (ov rfl (fun a f=>run_assign rfl rfl) fun a f=>wn ?_)))
 refine wp_ret ?_
 repeat with_reducible first|apply tr|apply ir|apply nr
 refine ret2_gw (.inl rfl) f rfl (res_tmp (f.ev rfl)) (res_tmp (f.ev rfl)) ?_
 obtain rfl:=Option.some.inj hM
 exact ⟨(some ⟨g101,0,none⟩),0,0,rfl,rfl,S.sel [0] rfl rfl⟩
theorem c_spec_IslandLoad {x0:Int} {x1:List (Int×Int×Int)} {x2:List Bool} {x3:List (Int×Int)} {x4:Int} {A1:Option Addr} {n1 c1:Nat} {A2:Option Addr} {n2 c2:Nat} {A3:Option Addr} {n3 c3:Nat} {w:World} {r:Int} (h1:Rt w 3 eLine A1 n1 c1 x1) (h2:Rt w 1 eB A2 n2 c2 x2) (h3:Rt w 2 eBus A3 n3 c3 x3) (hM : m_spec_IslandLoad x0 x1 x2 x3 x4=some r) :
  Calls Tryz.prog 141 #[.agg #[iv x0,.slice A1 n1 c1],.slice A2 n2 c2,.slice A3 n3 c3,iv x4] w (fun e w'=>e=.returned (iv r)∧St w w' []):=by
 obtain rfl:=h1.len
 obtain rfl:=h2.len
 obtain rfl:=h3.len
 unfold m_spec_IslandLoad at hM
 refine calls_gx Tryz.func141 Tryz.ntmps141 rfl rfl ?_
 intro a f
 have S:=St.nil w
 refine wsg ?_
 refine op_new (cs:=#[iv x0,.slice A1 x1.length c1]) rfl rfl f rfl S (run_box rfl (f.ev rfl) rfl) ?_;clear f S;intro a g101 u f S
 revert a;refine ov rfl (fun a f=>run_assign rfl rfl) fun a f=>wn ?_
 refine ws ?_
 revert a;refine sr (ov rfl (fun a f=>run_loadN rfl ag37 (f.ev rfl) rfl ((S.free 0 rfl).cells 0 #[iv x0,.slice A1 x1.length c1] rfl)) (mv rfl rfl (mv rfl rfl fun a f=>?_)))
 obtain ⟨p102,h102,hM⟩:=bind_ex hM
 refine op_call rfl rfl f rfl (run_call (vs:=[_,_,_]) rfl rfl co91 ⟨(f.ev rfl),(f.ev rfl),(f.ev rfl),trivial⟩) (c_spec_l5Ok ⟨(S.rc0 h1.rc),rfl⟩ ⟨(S.rc0 h2.rc),rfl⟩ ⟨(S.rc0 h3.rc),rfl⟩ h102) ?_
 rintro e u ⟨rfl,T⟩
 refine ⟨_,rfl,?_⟩
 clear f;intro a f
 replace S:=S.call0 T;clear T
 revert a;refine ov rfl (fun a f=>run_not rfl (f.ev rfl)) (mv rfl rfl fun a f=>?_)
 revert a;refine gf rfl rfl rfl rfl (fun a f hg=>run_move rfl (f.ev rfl)) (gf rfl rfl rfl rfl (fun a f hg=>run_fieldAddr rfl fl37_0 (f.ev rfl) rfl) (gf rfl rfl rfl rfl (fun a f hg=>run_load1 rfl one3 ((f.ev rfl).trans (gv_t hg)) (S.cell 0 rfl rfl)) (gf rfl rfl rfl rfl (fun a f hg=>run_sub (z:=w64 (x0-1)) ((f.ev rfl).trans (gv_t hg)) rfl rfl rfl) fun a f=>?_)))
 obtain ⟨p103,h103,hM⟩:=bind_ex hM
 refine op_gcall (v:=.bool p103) rfl rfl f rfl S (yf (gw_yield f rfl rfl rfl)) (fun hg=>(run_call (vs:=[iv x4,iv 0,iv (w64 (x0-1))]) rfl rfl co51 ⟨((f.ev rfl).trans (gv_t hg)),rfl,((f.ev rfl).trans (gv_t hg)),trivial⟩)) (fun hg=>c_spec_l1In (x0:=x4) (x1:=0) (x2:=w64 (x0-1))  (gb_t h103 hg)) ?_;clear f S;intro a u f S
 revert a;refine gf rfl rfl rfl rfl (fun a f hg=>run_not rfl ((f.ev rfl).trans (gv_t hg))) (ov rfl (fun a f=>run_pick_or rfl (f.ev rfl) rfl (fun hp=>((f.ev rfl).trans (gv_t (not_t hp))))) fun a f=>wn ?_)
 cases hc104:((!p102)||(!p103))
 ·replace hM:=bif_f hc104 hM
  refine cond_f f rfl hc104 ?_
  refine wp_skip ?_
  revert a;refine sr (ov rfl (fun a f=>run_assign rfl rfl) fun a f=>wn ?_)
  revert a;refine sr (ov rfl (fun a f=>run_loadN rfl ag37 (f.ev rfl) rfl ((S.free 0 rfl).cells 0 #[iv x0,.slice A1 x1.length c1] rfl)) (mv rfl rfl (mv rfl rfl fun a f=>?_)))
  obtain ⟨p105,h105,hM⟩:=bind_ex hM
  refine op_call rfl rfl f rfl (run_call (vs:=[_,_,_]) rfl rfl co127 ⟨(f.ev rfl),(f.ev rfl),(f.ev rfl),trivial⟩) (c_spec_Reached ⟨(S.rc0 h1.rc),rfl⟩ ⟨(S.rc0 h2.rc),rfl⟩ h105) ?_
  rintro e u ⟨B106,n107,d108,rfl,rfl,T⟩
  refine ⟨_,rfl,?_⟩
  clear f;intro a f
  replace S:=S.call1 T;clear T
  revert a;refine ag rfl rfl fun a f=>wn ?_
  refine ws ?_
  revert a;refine sr (ov rfl (fun a f=>run_assign rfl rfl) fun a f=>wn ?_)
  obtain ⟨o110,hM111,hM⟩:=bind_ex hM
  refine wp_cut (fun a u=>∃ (p109:Int),p109=o110∧Fr a 46 [(8,iv 0),(9,iv p109)]∧St w u []) ?_ ?_
  ·have _:=trivial
   refine wp_block ?_
   refine loop_gw (fun m a u=>∃ (p112:Int×Int),m_spec_IslandLoad_l1 x3 p105 m p112=some _∧Fr a 46 [(2,.slice A3 x3.length c3),(8,iv 0),(9,iv p112.1),(10,.slice B106 p105.length d108),(11,iv p112.2)]∧St w u [.row 3 1 (.slice B106 p105.length d108) p105.length (p105.flatMap eI)]) FUEL ⟨(0,0),hM111,f.keep _ ⟨rfl,rfl,rfl,rfl,rfl,trivial⟩,S.sel [0] rfl rfl⟩ ?_
   clear f S hM111;rintro m a u ⟨p112,hM111,f,S⟩
   rcases m with _ | f1
   ·exact none_some hM111
   rw [m_spec_IslandLoad_l1.eq_2] at hM111
   refine ws ?_
   revert a;refine sr (mv rfl rfl (mv rfl rfl (ov rfl (fun a f=>run_lenL rfl rfl Tryz.underlying30 (f.ev rfl)) (ov rfl (fun a f=>run_lss (f.ev rfl) (f.ev rfl) rfl) fun a f=>wn ?_))))
   cases hc113:(ltB p112.2 (p105.length:Int))
   ·replace hM111:=bif_f hc113 hM111
    refine cond_f f rfl hc113 ?_
    refine wp_exit ?_
    repeat with_reducible first|apply then_exit|apply in_hit|refine in_miss rfl ?_
    obtain rfl:=Option.some.inj hM111
    exact ⟨p112.1,rfl,f.keep _ ⟨rfl,rfl,trivial⟩,S.sel [] rfl rfl⟩
   replace hM111:=bif_t hc113 hM111
   refine cond_t f rfl hc113 ?_
   refine wp_skip ?_
   refine ws ?_
   refine wp_block ?_
   revert a;refine rl (mv rfl rfl (mv rfl rfl (mv rfl rfl (mv rfl rfl fun a f=>?_))))
   obtain ⟨hk114,hM111⟩:=chk_ex hM111
   replace hk114:=ixB_t hk114
   revert a;refine ov rfl (fun a f=>run_ix rfl Tryz.underlying30 sz3 (f.ev rfl) (S.rc 0 rfl) (f.ev rfl) hk114) (ov rfl (fun a f=>run_load1 rfl one3 (f.ev rfl) (rd_el0 (l:=p105) (S.rc 0 rfl).rd rfl eI_len 0 (ix_ltn hk114 rfl) rfl)) fun a f=>?_)
   obtain ⟨hk115,hM111⟩:=chk_ex hM111
   replace hk115:=ixB_t hk115
   revert a;refine ov rfl (fun a f=>run_ix rfl Tryz.underlying38 sz110 (f.ev rfl) (S.rc0 h3.rc) (f.ev rfl) hk115) (ov rfl (fun a f=>run_fieldAddr rfl fl110_1 (f.ev rfl) rfl) (ov rfl (fun a f=>run_load1 rfl one3 (f.ev rfl) (rd_el (l:=x3) (S.rc0 h3.rc).rd rfl eBus_len (0,0) (ix_ltn hk115 rfl) rfl)) (ov rfl (fun a f=>run_add (z:=w64 (p112.1+((x3.getD ((p105.getD p112.2.toNat 0).toNat) (0,0)).2))) (f.ev rfl) (f.ev rfl) rfl rfl) (ag rfl rfl fun a f=>wn ?_))))
   revert a;refine rl (mv rfl rfl (ov rfl (fun a f=>run_add (z:=w64 (p112.2+1)) (f.ev rfl) rfl rfl rfl) (ag rfl rfl fun a f=>wn ?_)))
   exact ⟨f1,Nat.lt_succ_self _,(w64 (p112.1+((x3.getD ((p105.getD p112.2.toNat 0).toNat) (0,0)).2)),w64 (p112.2+1)),hM111,f.keep _ ⟨rfl,rfl,rfl,rfl,rfl,trivial⟩,S.sel [0] rfl rfl⟩
  rintro a u ⟨p109,rfl,f,S⟩
  revert a;refine sr (mv rfl rfl (ag rfl rfl fun a f=>wn ?_))
  refine wp_ret ?_
  refine ret1_gw (.inl rfl) f rfl (res_tmp (f.ev rfl)) ?_
  obtain rfl:=Option.some.inj hM
  exact ⟨rfl,S.sel [] rfl rfl⟩
 replace hM:=bif_t hc104 hM
 refine cond_t f rfl hc104 ?_
 revert a;refine sr (ov rfl (fun a f=>run_assign rfl rfl) fun a f=>wn ?_)
 refine wp_ret ?_
 repeat with_reducible first|apply tr|apply ir|apply nr
 refine ret1_gw (.inl rfl) f rfl (res_tmp (f.ev rfl)) ?_
 obtain rfl:=Option.some.inj hM
 exact ⟨rfl,S.sel [] rfl rfl⟩
theorem c_spec_l6Parents {x0:Int} {x1:List (Int×Int×Int)} {x2:List Bool} {x3:List (Int×Int)} {A1:Option Addr} {n1 c1:Nat} {A2:Option Addr} {n2 c2:Nat} {A3:Option Addr} {n3 c3:Nat} {w:World} {r:List Int} (h1:Rt w 3 eLine A1 n1 c1 x1) (h2:Rt w 1 eB A2 n2 c2 x2) (h3:Rt w 2 eBus A3 n3 c3 x3) (hM : m_spec_l6Parents x0 x1 x2 x3=some r) :
  Calls Tryz.prog 162 #[.agg #[iv x0,.slice A1 n1 c1],.slice A2 n2 c2,.slice A3 n3 c3] w (fun e w'=>∃ (B0:Option Addr) (N0 D0:Nat),e=.returned (.slice B0 N0 D0)∧N0=r.length∧St w w' [.row 3 1 (.slice B0 N0 D0) N0 (r.flatMap eI)]):=by
 obtain rfl:=h1.len
 obtain rfl:=h2.len
 obtain rfl:=h3.len
 unfold m_spec_l6Parents at hM
 refine calls_gx Tryz.func162 Tryz.ntmps162 rfl rfl ?_
 intro a f
 have S:=St.nil w
 refine wsg ?_
 refine op_new (cs:=#[iv x0,.slice A1 x1.length c1]) rfl rfl f rfl S (run_box rfl (f.ev rfl) rfl) ?_;clear f S;intro a g101 u f S
 revert a;refine ov rfl (fun a f=>run_assign rfl rfl) fun a f=>wn ?_
 refine wsg ?_
 refine op_newrow (cs:=#[]) (size:=1) rfl rfl f rfl S (run_buildSlice0 rfl Tryz.underlying30 (congrArg Option.isSome sz3)) rfl (Nat.zero_le _) ?_;clear f S;intro a g102 u f S
 revert a;refine ag rfl rfl fun a f=>wn ?_
 refine ws ?_
 revert a;refine sr (ov rfl (fun a f=>run_assign rfl rfl) fun a f=>wn ?_)
 obtain ⟨o104,hM107,hM⟩:=bind_ex hM
 refine wp_cut (fun a u=>∃ (p103:List Int) (B105:Option Addr) (d106:Nat),p103=o104∧Fr a 99 [(1,.slice A2 x2.length c2),(3,.pointer (some ⟨g101,0,none⟩)),(6,.slice none 0 0),(7,.slice B105 p103.length d106)]∧St w u [.box g101 37 #[iv x0,.slice A1 x1.length c1],.row 3 1 (.slice B105 p103.length d106) p103.length (p103.flatMap eI)]) ?_ ?_
 ·have _:=trivial
  refine wp_block ?_
  refine loop_gw (fun m a u=>∃ (p108:List Int×Int) (B109:Option Addr) (d110:Nat),m_spec_l6Parents_l1 x0 x3 m p108=some _∧Fr a 99 [(1,.slice A2 x2.length c2),(2,.slice A3 x3.length c3),(3,.pointer (some ⟨g101,0,none⟩)),(6,.slice none 0 0),(7,.slice B109 p108.1.length d110),(8,iv p108.2)]∧St w u [.box g101 37 #[iv x0,.slice A1 x1.length c1],.row 3 1 (.slice B109 p108.1.length d110) p108.1.length (p108.1.flatMap eI)]) FUEL ⟨(([]:List Int),0),(some ⟨g102,0,none⟩),0,hM107,f.keep _ ⟨rfl,rfl,rfl,rfl,rfl,rfl,trivial⟩,S.sel [1,0] rfl rfl⟩ ?_
  clear f S hM107;rintro m a u ⟨p108,B109,d110,hM107,f,S⟩
  rcases m with _ | f1
  ·exact none_some hM107
  rw [m_spec_l6Parents_l1.eq_2] at hM107
  refine ws ?_
  revert a;refine sr (mv rfl rfl (ov rfl (fun a f=>run_fieldAddr rfl fl37_0 (f.ev rfl) rfl) (ov rfl (fun a f=>run_load1 rfl one3 (f.ev rfl) (S.cell 0 rfl rfl)) (ov rfl (fun a f=>run_lss (f.ev rfl) (f.ev rfl) rfl) fun a f=>wn ?_))))
  cases hc111:(ltB p108.2 x0)
  ·replace hM107:=bif_f hc111 hM107
   refine cond_f f rfl hc111 ?_
   refine wp_exit ?_
   repeat with_reducible first|apply then_exit|apply in_hit|refine in_miss rfl ?_
   obtain rfl:=Option.some.inj hM107
   exact ⟨p108.1,B109,d110,rfl,f.keep _ ⟨rfl,rfl,rfl,rfl,trivial⟩,S.sel [0,1] rfl rfl⟩
  replace hM107:=bif_t hc111 hM107
  refine cond_t f rfl hc111 ?_
  refine wp_skip ?_
  refine ws ?_
  refine wp_block ?_
  revert a;refine sr (mv rfl rfl (mv rfl rfl fun a f=>?_))
  obtain ⟨hk112,hM107⟩:=chk_ex hM107
  replace hk112:=ixB_t hk112
  revert a;refine ov rfl (fun a f=>run_ix rfl Tryz.underlying38 sz110 (f.ev rfl) (S.rc0 h3.rc) (f.ev rfl) hk112) (ov rfl (fun a f=>run_fieldAddr rfl fl110_0 (f.ev rfl) rfl) (ov rfl (fun a f=>run_load1 rfl one3 (f.ev rfl) (rd_el0 (l:=x3) (S.rc0 h3.rc).rd rfl eBus_len (0,0) (ix_ltn hk112 rfl) rfl)) (ov rfl (fun a f=>run_gtr (f.ev rfl) rfl rfl) fun a f=>wn ?_)))
  obtain ⟨o114,hM117,hM107⟩:=bind_ex hM107
  refine wp_cut (fun a u=>∃ (p113:List Int) (B115:Option Addr) (d116:Nat),p113=o114∧Fr a 99 [(1,.slice A2 x2.length c2),(2,.slice A3 x3.length c3),(3,.pointer (some ⟨g101,0,none⟩)),(6,.slice none 0 0),(7,.slice B115 p113.length d116),(8,iv p108.2)]∧St w u [.box g101 37 #[iv x0,.slice A1 x1.length c1],.row 3 1 (.slice B115 p113.length d116) p113.length (p113.flatMap eI)]) ?_ ?_
  ·have _:=trivial
   cases hc118:(ltB 0 ((x3.getD p108.2.toNat (0,0)).1))
   ·replace hM117:=bif_f hc118 hM117
    refine cond_f f rfl hc118 ?_
    revert a;refine rl (mv rfl rfl fun a f=>?_)
    refine op_newrowL (ls:=(([-2]:List Int):List Int)) (e:=eI) rfl rfl f rfl S (run_buildS (vs:=[(0,iv (-2))]) rfl ⟨⟨rfl,rfl⟩,trivial⟩ (bs30_1_0 rfl)) rfl eI_len (Nat.le_of_ble_eq_true rfl) ?_;clear f S;intro a g119 u f S
    obtain ⟨hk122,hM117⟩:=chk_ex hM117
    replace hk122:=apB_t hk122
    refine op_appendL (lx:=p108.1) (ly:=([-2]:List Int)) rfl rfl f rfl S rfl (f.ev rfl) (f.ev rfl) (i:=2) rfl rfl Tryz.underlying30 inf3 rfl (by decide) (S.rc 0 rfl).rd rfl eI_one hk122 (by decide) ?_;clear f S;intro a B120 d121 u f S
    revert a;refine ag rfl rfl fun a f=>wn ?_
    obtain rfl:=Option.some.inj hM117
    exact ⟨p108.1++([-2]:List Int),B120,d121,rfl,f.keep _ ⟨rfl,rfl,rfl,rfl,rfl,rfl,trivial⟩,S.sel [1,2] rfl rfl⟩
   replace hM117:=bif_t hc118 hM117
   refine cond_t f rfl hc118 ?_
   revert a;refine rl (mv rfl rfl fun a f=>?_)
   refine op_newrowL (ls:=(([-1]:List Int):List Int)) (e:=eI) rfl rfl f rfl S (run_buildS (vs:=[(0,iv (-1))]) rfl ⟨⟨rfl,rfl⟩,trivial⟩ (bs30_1_0 rfl)) rfl eI_len (Nat.le_of_ble_eq_true rfl) ?_;clear f S;intro a g123 u f S
   obtain ⟨hk126,hM117⟩:=chk_ex hM117
   replace hk126:=apB_t hk126
   refine op_appendL (lx:=p108.1) (ly:=([-1]:List Int)) rfl rfl f rfl S rfl (f.ev rfl) (f.ev rfl) (i:=2) rfl rfl Tryz.underlying30 inf3 rfl (by decide) (S.rc 0 rfl).rd rfl eI_one hk126 (by decide) ?_;clear f S;intro a B124 d125 u f S
   revert a;refine ag rfl rfl fun a f=>wn ?_
   obtain rfl:=Option.some.inj hM117
   exact ⟨p108.1++([-1]:List Int),B124,d125,rfl,f.keep _ ⟨rfl,rfl,rfl,rfl,rfl,rfl,trivial⟩,S.sel [1,2] rfl rfl⟩
  rintro a u ⟨p113,B115,d116,rfl,f,S⟩
  revert a;refine rl (mv rfl rfl (ov rfl (fun a f=>run_add (z:=w64 (p108.2+1)) (f.ev rfl) rfl rfl rfl) (ag rfl rfl fun a f=>wn ?_)))
  exact ⟨f1,Nat.lt_succ_self _,(p113,w64 (p108.2+1)),B115,d116,hM107,f.keep _ ⟨rfl,rfl,rfl,rfl,rfl,rfl,trivial⟩,S.sel [0,1] rfl rfl⟩
 rintro a u ⟨p103,B105,d106,rfl,f,S⟩
 refine ws ?_
 revert a;refine sr (ov rfl (fun a f=>run_assign rfl rfl) fun a f=>wn ?_)
 obtain ⟨o128,hM130,hM⟩:=bind_ex hM
 refine wp_cut (fun a u=>∃ (p127:List Int),p127=o128∧p103.length=p127.length∧Fr a 99 [(6,.slice none 0 0),(7,.slice B105 p103.length d106)]∧St w u [.row 3 1 (.slice B105 p103.length d106) p103.length (p127.flatMap eI)]) ?_ ?_
 ·have _:=trivial
  refine wp_block ?_
  refine loop_gw (fun m a u=>∃ (p131:List Int×Int),m_spec_l6Parents_l2 x0 x1 x2 p103 m p131=some _∧p103.length=p131.1.length∧Fr a 99 [(1,.slice A2 x2.length c2),(3,.pointer (some ⟨g101,0,none⟩)),(6,.slice none 0 0),(7,.slice B105 p103.length d106),(9,iv p131.2)]∧St w u [.box g101 37 #[iv x0,.slice A1 x1.length c1],.row 3 1 (.slice B105 p103.length d106) p103.length (p131.1.flatMap eI)]) FUEL ⟨(p103,0),hM130,rfl,f.keep _ ⟨rfl,rfl,rfl,rfl,rfl,trivial⟩,S.sel [0,1] rfl rfl⟩ ?_
  clear f S hM130;rintro m a u ⟨p131,hM130,hn132,f,S⟩
  rcases m with _ | f2
  ·exact none_some hM130
  rw [m_spec_l6Parents_l2.eq_2] at hM130
  refine ws ?_
  revert a;refine sr (mv rfl rfl (ov rfl (fun a f=>run_fieldAddr rfl fl37_0 (f.ev rfl) rfl) (ov rfl (fun a f=>run_load1 rfl one3 (f.ev rfl) (S.cell 0 rfl rfl)) (ov rfl (fun a f=>run_lss (f.ev rfl) (f.ev rfl) rfl) fun a f=>wn ?_))))
  cases hc133:(ltB p131.2 x0)
  ·replace hM130:=bif_f hc133 hM130
   refine cond_f f rfl hc133 ?_
   refine wp_exit ?_
   repeat with_reducible first|apply then_exit|apply in_hit|refine in_miss rfl ?_
   obtain rfl:=Option.some.inj hM130
   exact ⟨p131.1,rfl,hn132,f.keep _ ⟨rfl,rfl,trivial⟩,S.sel [1] rfl rfl⟩
  replace hM130:=bif_t hc133 hM130
  refine cond_t f rfl hc133 ?_
  refine wp_skip ?_
  refine ws ?_
  refine wp_block ?_
  revert a;refine sr (ov rfl (fun a f=>run_assign rfl rfl) fun a f=>wn ?_)
  obtain ⟨o135,hM137,hM130⟩:=bind_ex hM130
  refine wp_cut (fun a u=>∃ (p134:List Int),p134=o135∧p103.length=p134.length∧Fr a 99 [(1,.slice A2 x2.length c2),(3,.pointer (some ⟨g101,0,none⟩)),(6,.slice none 0 0),(7,.slice B105 p103.length d106),(9,iv p131.2)]∧St w u [.box g101 37 #[iv x0,.slice A1 x1.length c1],.row 3 1 (.slice B105 p103.length d106) p103.length (p134.flatMap eI)]) ?_ ?_
  ·have _:=trivial
   refine wp_block ?_
   refine loop_gw (fun m a u=>∃ (p138:List Int×Int),m_spec_l6Parents_l3 x1 x2 p103 m p138=some _∧p103.length=p138.1.length∧Fr a 99 [(1,.slice A2 x2.length c2),(3,.pointer (some ⟨g101,0,none⟩)),(6,.slice none 0 0),(7,.slice B105 p103.length d106),(9,iv p131.2),(10,iv p138.2)]∧St w u [.box g101 37 #[iv x0,.slice A1 x1.length c1],.row 3 1 (.slice B105 p103.length d106) p103.length (p138.1.flatMap eI)]) FUEL ⟨(p131.1,0),hM137,hn132,f.keep _ ⟨rfl,rfl,rfl,rfl,rfl,rfl,trivial⟩,S.sel [0,1] rfl rfl⟩ ?_
   clear f S hM137;rintro m a u ⟨p138,hM137,hn139,f,S⟩
   rcases m with _ | f3
   ·exact none_some hM137
   rw [m_spec_l6Parents_l3.eq_2] at hM137
   refine ws ?_
   revert a;refine sr (mv rfl rfl (mv rfl rfl (ov rfl (fun a f=>run_lenL rfl rfl Tryz.underlying26 (f.ev rfl)) (ov rfl (fun a f=>run_lss (f.ev rfl) (f.ev rfl) rfl) fun a f=>wn ?_))))
   cases hc140:(ltB p138.2 (x2.length:Int))
   ·replace hM137:=bif_f hc140 hM137
    refine cond_f f rfl hc140 ?_
    refine wp_exit ?_
    repeat with_reducible first|apply then_exit|apply in_hit|refine in_miss rfl ?_
    obtain rfl:=Option.some.inj hM137
    exact ⟨p138.1,rfl,hn139,f.keep _ ⟨rfl,rfl,rfl,rfl,rfl,trivial⟩,S.sel [0,1] rfl rfl⟩
   replace hM137:=bif_t hc140 hM137
   refine cond_t f rfl hc140 ?_
   refine wp_skip ?_
   refine ws ?_
   refine wp_block ?_
   revert a;refine sr (ov rfl (fun a f=>run_fieldAddr rfl fl37_1 (f.ev rfl) rfl) (ov rfl (fun a f=>run_load1 rfl one35 (f.ev rfl) (S.cell 0 rfl rfl)) (mv rfl rfl fun a f=>?_)))
   obtain ⟨hk141,hM137⟩:=chk_ex hM137
   replace hk141:=ixB_t hk141
   revert a;refine ov rfl (fun a f=>run_ix rfl Tryz.underlying35 sz130 (f.ev rfl) (S.rc0 h1.rc) (f.ev rfl) hk141) (ov rfl (fun a f=>run_loadN (cs:=#[iv ((x1.getD p138.2.toNat (0,0,0)).1),iv ((x1.getD p138.2.toNat (0,0,0)).2.1),iv ((x1.getD p138.2.toNat (0,0,0)).2.2)]) rfl ag130 (f.ev rfl) rfl (rd_elN (l:=x1) (S.rc0 h1.rc).rd rfl eLine_len (0,0,0) (ix_ltn hk141 rfl) rfl)) fun a f=>?_)
   refine op_new (cs:=#[iv 0,iv 0,iv 0]) rfl rfl f rfl S (run_allocZ rfl zr130) ?_;clear f S;intro a g142 u f S
   refine op_do rfl rfl (run_store (cs':=#[iv ((x1.getD p138.2.toNat (0,0,0)).1),iv ((x1.getD p138.2.toNat (0,0,0)).2.1),iv ((x1.getD p138.2.toNat (0,0,0)).2.2)]) rfl sz130 (f.ev rfl) (f.ev rfl) rfl rfl rfl (S.free 0 rfl) rfl rfl) ?_;replace S:=S.put 0 rfl (#[iv ((x1.getD p138.2.toNat (0,0,0)).1),iv ((x1.getD p138.2.toNat (0,0,0)).2.1),iv ((x1.getD p138.2.toNat (0,0,0)).2.2)])
   generalize World.setRow _ _ _=u at S ⊢
   refine wn ?_
   refine ws ?_
   revert a;refine sr (mv rfl rfl (mv rfl rfl fun a f=>?_))
   obtain ⟨hk143,hM137⟩:=chk_ex hM137
   replace hk143:=ixB_t hk143
   revert a;refine ov rfl (fun a f=>run_ix rfl Tryz.underlying26 sz4 (f.ev rfl) (S.rc0 h2.rc) (f.ev rfl) hk143) (ov rfl (fun a f=>run_load1 rfl one4 (f.ev rfl) (rd_el0 (l:=x2) (S.rc0 h2.rc).rd rfl eB_len false (ix_ltn hk143 rfl) rfl)) (mv rfl rfl fun a f=>?_))
   revert a;refine gt rfl rfl rfl rfl (fun a f hg=>run_move rfl (f.ev rfl)) (gt rfl rfl rfl rfl (fun a f hg=>run_fieldAddr rfl fl130_0 (f.ev rfl) rfl) (gt rfl rfl rfl rfl (fun a f hg=>run_load1 rfl one3 ((f.ev rfl).trans (gv_t hg)) (S.cell 0 rfl rfl)) fun a f=>?_))
   obtain ⟨hk144,hM137⟩:=chk_ex hM137
   replace hk144:=fun hg=>ixB_t (imp_t hk144 hg)
   revert a;refine gt rfl rfl rfl rfl (fun a f hg=>run_ix rfl Tryz.underlying30 sz3 ((f.ev rfl).trans (gv_t hg)) (S.rc 2 rfl) ((f.ev rfl).trans (gv_t hg)) (hk144 hg)) (gt rfl rfl rfl rfl (fun a f hg=>run_load1 rfl one3 ((f.ev rfl).trans (gv_t hg)) (rd_el0 (l:=p138.1) (S.rc 2 rfl).rd hn139 eI_len 0 (ix_ltn (hk144 hg) hn139) rfl)) (gt rfl rfl rfl rfl (fun a f hg=>run_gtr ((f.ev rfl).trans (gv_t hg)) rfl rfl) fun a f=>?_))
   revert a;refine ov rfl (fun a f=>run_pick_and rfl (f.ev rfl) (fun hp=>((f.ev rfl).trans (gv_t hp))) rfl) (mv rfl rfl fun a f=>?_)
   revert a;refine gt rfl rfl rfl rfl (fun a f hg=>run_move rfl (f.ev rfl)) (gt rfl rfl rfl rfl (fun a f hg=>run_fieldAddr rfl fl130_1 (f.ev rfl) rfl) (gt rfl rfl rfl rfl (fun a f hg=>run_load1 rfl one3 ((f.ev rfl).trans (gv_t hg)) (S.cell 0 rfl rfl)) fun a f=>?_))
   obtain ⟨hk145,hM137⟩:=chk_ex hM137
   replace hk145:=fun hg=>ixB_t (imp_t hk145 hg)
   revert a;refine gt rfl rfl rfl rfl (fun a f hg=>run_ix rfl Tryz.underlying30 sz3 ((f.ev rfl).trans (gv_t hg)) (S.rc 2 rfl) ((f.ev rfl).trans (gv_t hg)) (hk145 hg)) (gt rfl rfl rfl rfl (fun a f hg=>run_load1 rfl one3 ((f.ev rfl).trans (gv_t hg)) (rd_el0 (l:=p138.1) (S.rc 2 rfl).rd hn139 eI_len 0 (ix_ltn (hk145 hg) hn139) rfl)) (gt rfl rfl rfl rfl (fun a f hg=>run_eql ((f.ev rfl).trans (gv_t hg)) rfl rfl) (ov rfl (fun a f=>run_pick_and rfl (f.ev rfl) (fun hp=>((f.ev rfl).trans (gv_t hp))) rfl) fun a f=>wn ?_)))
   obtain ⟨o147,hM149,hM137⟩:=bind_ex hM137
   refine wp_cut (fun a u=>∃ (p146:List Int),p146=o147∧p103.length=p146.length∧Fr a 99 [(1,.slice A2 x2.length c2),(3,.pointer (some ⟨g101,0,none⟩)),(6,.slice none 0 0),(7,.slice B105 p103.length d106),(9,iv p131.2),(10,iv p138.2),(11,.pointer (some ⟨g142,0,none⟩))]∧St w u [.box g142 130 #[iv ((x1.getD p138.2.toNat (0,0,0)).1),iv ((x1.getD p138.2.toNat (0,0,0)).2.1),iv ((x1.getD p138.2.toNat (0,0,0)).2.2)],.box g101 37 #[iv x0,.slice A1 x1.length c1],.row 3 1 (.slice B105 p103.length d106) p103.length (p146.flatMap eI)]) ?_ ?_
   ·have _:=trivial
    cases hc150:(((x2.getD p138.2.toNat false)&&(ltB (-2) (p138.1.getD (((x1.getD p138.2.toNat (0,0,0)).1).toNat) 0)))&&((p138.1.getD (((x1.getD p138.2.toNat (0,0,0)).2.1).toNat) 0)==(-2)))
    ·replace hM149:=bif_f hc150 hM149
     refine cond_f f rfl hc150 ?_
     refine wp_skip ?_
     obtain rfl:=Option.some.inj hM149
     exact ⟨p138.1,rfl,hn139,f.keep _ ⟨rfl,rfl,rfl,rfl,rfl,rfl,rfl,trivial⟩,S.sel [0,1,2] rfl rfl⟩
    replace hM149:=bif_t hc150 hM149
    refine cond_t f rfl hc150 ?_
    revert a;refine rl (mv rfl rfl (ov rfl (fun a f=>run_fieldAddr rfl fl130_1 (f.ev rfl) rfl) (ov rfl (fun a f=>run_load1 rfl one3 (f.ev rfl) (S.cell 0 rfl rfl)) (mv rfl rfl fun a f=>?_))))
    obtain ⟨hk151,hM149⟩:=chk_ex hM149
    replace hk151:=ixB_t hk151
    revert a;refine ov rfl (fun a f=>run_ix rfl Tryz.underlying30 sz3 (f.ev rfl) (S.rc 2 rfl) (f.ev rfl) hk151) fun a f=>?_
    obtain ⟨w',hrun,S'⟩:=run_storeElN (P:=Tryz.prog) (ρ:=a.eval) (y0:=p138.2) (off:=0) S 3 (.tmp 72) (.tmp 71) (i:=2) sz3 (f.ev rfl) (f.ev rfl) rfl rfl rfl rfl hn139 eI_len 0 (ix_ltn hk151 hn139) rfl rfl
    refine op_do rfl rfl (hrun _ rfl) ?_;clear hrun S;have S:=S';clear S';generalize w'=u at S ⊢
    refine wn ?_
    obtain rfl:=Option.some.inj hM149
    exact ⟨p138.1.set (((x1.getD p138.2.toNat (0,0,0)).2.1).toNat) p138.2,rfl,(len_set hn139),f.keep _ ⟨rfl,rfl,rfl,rfl,rfl,rfl,rfl,trivial⟩,S.sel [0,1,2] rfl rfl⟩
   rintro a u ⟨p146,rfl,hn148,f,S⟩
   revert a;refine sr (mv rfl rfl (mv rfl rfl fun a f=>?_))
   obtain ⟨hk152,hM137⟩:=chk_ex hM137
   replace hk152:=ixB_t hk152
   revert a;refine ov rfl (fun a f=>run_ix rfl Tryz.underlying26 sz4 (f.ev rfl) (S.rc0 h2.rc) (f.ev rfl) hk152) (ov rfl (fun a f=>run_load1 rfl one4 (f.ev rfl) (rd_el0 (l:=x2) (S.rc0 h2.rc).rd rfl eB_len false (ix_ltn hk152 rfl) rfl)) (mv rfl rfl fun a f=>?_))
   revert a;refine gt rfl rfl rfl rfl (fun a f hg=>run_move rfl (f.ev rfl)) (gt rfl rfl rfl rfl (fun a f hg=>run_fieldAddr rfl fl130_1 (f.ev rfl) rfl) (gt rfl rfl rfl rfl (fun a f hg=>run_load1 rfl one3 ((f.ev rfl).trans (gv_t hg)) (S.cell 0 rfl rfl)) fun a f=>?_))
   obtain ⟨hk153,hM137⟩:=chk_ex hM137
   replace hk153:=fun hg=>ixB_t (imp_t hk153 hg)
   revert a;refine gt rfl rfl rfl rfl (fun a f hg=>run_ix rfl Tryz.underlying30 sz3 ((f.ev rfl).trans (gv_t hg)) (S.rc 2 rfl) ((f.ev rfl).trans (gv_t hg)) (hk153 hg)) (gt rfl rfl rfl rfl (fun a f hg=>run_load1 rfl one3 ((f.ev rfl).trans (gv_t hg)) (rd_el0 (l:=p146) (S.rc 2 rfl).rd hn148 eI_len 0 (ix_ltn (hk153 hg) hn148) rfl)) (gt rfl rfl rfl rfl (fun a f hg=>run_gtr ((f.ev rfl).trans (gv_t hg)) rfl rfl) fun a f=>?_))
   revert a;refine ov rfl (fun a f=>run_pick_and rfl (f.ev rfl) (fun hp=>((f.ev rfl).trans (gv_t hp))) rfl) (mv rfl rfl fun a f=>?_)
   revert a;refine gt rfl rfl rfl rfl (fun a f hg=>run_move rfl (f.ev rfl)) (gt rfl rfl rfl rfl (fun a f hg=>run_fieldAddr rfl fl130_0 (f.ev rfl) rfl) (gt rfl rfl rfl rfl (fun a f hg=>run_load1 rfl one3 ((f.ev rfl).trans (gv_t hg)) (S.cell 0 rfl rfl)) fun a f=>?_))
   obtain ⟨hk154,hM137⟩:=chk_ex hM137
   replace hk154:=fun hg=>ixB_t (imp_t hk154 hg)
   revert a;refine gt rfl rfl rfl rfl (fun a f hg=>run_ix rfl Tryz.underlying30 sz3 ((f.ev rfl).trans (gv_t hg)) (S.rc 2 rfl) ((f.ev rfl).trans (gv_t hg)) (hk154 hg)) (gt rfl rfl rfl rfl (fun a f hg=>run_load1 rfl one3 ((f.ev rfl).trans (gv_t hg)) (rd_el0 (l:=p146) (S.rc 2 rfl).rd hn148 eI_len 0 (ix_ltn (hk154 hg) hn148) rfl)) (gt rfl rfl rfl rfl (fun a f hg=>run_eql ((f.ev rfl).trans (gv_t hg)) rfl rfl) (ov rfl (fun a f=>run_pick_and rfl (f.ev rfl) (fun hp=>((f.ev rfl).trans (gv_t hp))) rfl) fun a f=>wn ?_)))
   obtain ⟨o156,hM158,hM137⟩:=bind_ex hM137
   refine wp_cut (fun a u=>∃ (p155:List Int),p155=o156∧p103.length=p155.length∧Fr a 99 [(1,.slice A2 x2.length c2),(3,.pointer (some ⟨g101,0,none⟩)),(6,.slice none 0 0),(7,.slice B105 p103.length d106),(9,iv p131.2),(10,iv p138.2)]∧St w u [.box g101 37 #[iv x0,.slice A1 x1.length c1],.row 3 1 (.slice B105 p103.length d106) p103.length (p155.flatMap eI)]) ?_ ?_
   ·have _:=trivial
    cases hc159:(((x2.getD p138.2.toNat false)&&(ltB (-2) (p146.getD (((x1.getD p138.2.toNat (0,0,0)).2.1).toNat) 0)))&&((p146.getD (((x1.getD p138.2.toNat (0,0,0)).1).toNat) 0)==(-2)))
    ·replace hM158:=bif_f hc159 hM158
     refine cond_f f rfl hc159 ?_
     refine wp_skip ?_
     obtain rfl:=Option.some.inj hM158
     exact ⟨p146,rfl,hn148,f.keep _ ⟨rfl,rfl,rfl,rfl,rfl,rfl,trivial⟩,S.sel [1,2] rfl rfl⟩
    replace hM158:=bif_t hc159 hM158
    refine cond_t f rfl hc159 ?_
    revert a;refine rl (mv rfl rfl (ov rfl (fun a f=>run_fieldAddr rfl fl130_0 (f.ev rfl) rfl) (ov rfl (fun a f=>run_load1 rfl one3 (f.ev rfl) (S.cell 0 rfl rfl)) (mv rfl rfl fun a f=>?_))))
    obtain ⟨hk160,hM158⟩:=chk_ex hM158
    replace hk160:=ixB_t hk160
    revert a;refine ov rfl (fun a f=>run_ix rfl Tryz.underlying30 sz3 (f.ev rfl) (S.rc 2 rfl) (f.ev rfl) hk160) fun a f=>?_
    obtain ⟨w',hrun,S'⟩:=run_storeElN (P:=Tryz.prog) (ρ:=a.eval) (y0:=p138.2) (off:=0) S 3 (.tmp 97) (.tmp 96) (i:=2) sz3 (f.ev rfl) (f.ev rfl) rfl rfl rfl rfl hn148 eI_len 0 (ix_ltn hk160 hn148) rfl rfl
    refine op_do rfl rfl (hrun _ rfl) ?_;clear hrun S;have S:=S';clear S';generalize w'=u at S ⊢
    refine wn ?_
    obtain rfl:=Option.some.inj hM158
    exact ⟨p146.set (((x1.getD p138.2.toNat (0,0,0)).1).toNat) p138.2,rfl,(len_set hn148),f.keep _ ⟨rfl,rfl,rfl,rfl,rfl,rfl,trivial⟩,S.sel [1,2] rfl rfl⟩
   rintro a u ⟨p155,rfl,hn157,f,S⟩
   revert a;refine rl (mv rfl rfl (ov rfl (fun a f=>run_add (z:=w64 (p138.2+1)) (f.ev rfl) rfl rfl rfl) (ag rfl rfl fun a f=>wn ?_)))
   exact ⟨f3,Nat.lt_succ_self _,(p155,w64 (p138.2+1)),hM137,hn157,f.keep _ ⟨rfl,rfl,rfl,rfl,rfl,rfl,trivial⟩,S.sel [0,1] rfl rfl⟩
  rintro a u ⟨p134,rfl,hn136,f,S⟩
  revert a;refine rl (mv rfl rfl (ov rfl (fun a f=>run_add (z:=w64 (p131.2+1)) (f.ev rfl) rfl rfl rfl) (ag rfl rfl fun a f=>wn ?_)))
  exact ⟨f2,Nat.lt_succ_self _,(p134,w64 (p131.2+1)),hM130,hn136,f.keep _ ⟨rfl,rfl,rfl,rfl,rfl,trivial⟩,S.sel [0,1] rfl rfl⟩
 rintro a u ⟨p127,rfl,hn129,f,S⟩
 revert a;refine sr (mv rfl rfl (ag rfl rfl fun a f=>wn ?_))
 refine wp_ret ?_
 refine ret1_gw (.inl rfl) f rfl (res_tmp (f.ev rfl)) ?_
 obtain rfl:=Option.some.inj hM
 exact ⟨B105,p103.length,d106,rfl,hn129,S.sel [0] rfl rfl⟩
theorem c_spec_OtherEnd {x0:Int} {x1:List (Int×Int×Int)} {x2:Int} {x3:Int} {A1:Option Addr} {n1 c1:Nat} {w:World} {r:Int} (h1:Rt w 3 eLine A1 n1 c1 x1) (hM : m_spec_OtherEnd x0 x1 x2 x3=some r) :
  Calls Tryz.prog 164 #[.agg #[iv x0,.slice A1 n1 c1],iv x2,iv x3] w (fun e w'=>e=.returned (iv r)∧St w w' []):=by
 obtain rfl:=h1.len
 unfold m_spec_OtherEnd at hM
 refine calls_gx Tryz.func164 Tryz.ntmps164 rfl rfl ?_
 intro a f
 have S:=St.nil w
 refine wsg ?_
 refine op_new (cs:=#[iv x0,.slice A1 x1.length c1]) rfl rfl f rfl S (run_box rfl (f.ev rfl) rfl) ?_;clear f S;intro a g101 u f S
 revert a;refine ov rfl (fun a f=>run_assign rfl rfl) fun a f=>wn ?_
 refine ws ?_
 revert a;refine sr (ov rfl (fun a f=>run_loadN rfl ag37 (f.ev rfl) rfl ((S.free 0 rfl).cells 0 #[iv x0,.slice A1 x1.length c1] rfl)) fun a f=>?_)
 obtain ⟨p102,h102,hM⟩:=bind_ex hM
 refine op_call rfl rfl f rfl (run_call (vs:=[_]) rfl rfl co106 ⟨(f.ev rfl),trivial⟩) (c_spec_NetValid ⟨(S.rc0 h1.rc),rfl⟩ h102) ?_
 rintro e u ⟨rfl,T⟩
 refine ⟨_,rfl,?_⟩
 clear f;intro a f
 replace S:=S.call0 T;clear T
 revert a;refine ov rfl (fun a f=>run_not rfl (f.ev rfl)) (mv rfl rfl fun a f=>?_)
 revert a;refine gf rfl rfl rfl rfl (fun a f hg=>run_move rfl (f.ev rfl)) (gf rfl rfl rfl rfl (fun a f hg=>run_fieldAddr rfl fl37_1 (f.ev rfl) rfl) (gf rfl rfl rfl rfl (fun a f hg=>run_load1 rfl one35 ((f.ev rfl).trans (gv_t hg)) (S.cell 0 rfl rfl)) (gf rfl rfl rfl rfl (fun a f hg=>run_lenL rfl rfl Tryz.underlying35 ((f.ev rfl).trans (gv_t hg))) (gf rfl rfl rfl rfl (fun a f hg=>run_sub (z:=w64 ((x1.length:Int)-1)) ((f.ev rfl).trans (gv_t hg)) rfl rfl rfl) fun a f=>?_))))
 obtain ⟨p103,h103,hM⟩:=bind_ex hM
 refine op_gcall (v:=.bool p103) rfl rfl f rfl S (yf (gw_yield f rfl rfl rfl)) (fun hg=>(run_call (vs:=[iv x2,iv 0,iv (w64 ((x1.length:Int)-1))]) rfl rfl co51 ⟨((f.ev rfl).trans (gv_t hg)),rfl,((f.ev rfl).trans (gv_t hg)),trivial⟩)) (fun hg=>c_spec_l1In (x0:=x2) (x1:=0) (x2:=w64 ((x1.length:Int)-1))  (gb_t h103 hg)) ?_;clear f S;intro a u f S
 revert a;refine gf rfl rfl rfl rfl (fun a f hg=>run_not rfl ((f.ev rfl).trans (gv_t hg))) (ov rfl (fun a f=>run_pick_or rfl (f.ev rfl) rfl (fun hp=>((f.ev rfl).trans (gv_t (not_t hp))))) fun a f=>wn ?_)
 cases hc104:((!p102)||(!p103))
 ·replace hM:=bif_f hc104 hM
  refine cond_f f rfl hc104 ?_
  refine wp_skip ?_
  revert a;refine sr (ov rfl (fun a f=>run_fieldAddr rfl fl37_1 (f.ev rfl) rfl) (ov rfl (fun a f=>run_load1 rfl one35 (f.ev rfl) (S.cell 0 rfl rfl)) (mv rfl rfl fun a f=>?_)))
  obtain ⟨hk105,hM⟩:=chk_ex hM
  replace hk105:=ixB_t hk105
  revert a;refine ov rfl (fun a f=>run_ix rfl Tryz.underlying35 sz130 (f.ev rfl) (S.rc0 h1.rc) (f.ev rfl) hk105) (ov rfl (fun a f=>run_loadN (cs:=#[iv ((x1.getD x2.toNat (0,0,0)).1),iv ((x1.getD x2.toNat (0,0,0)).2.1),iv ((x1.getD x2.toNat (0,0,0)).2.2)]) rfl ag130 (f.ev rfl) rfl (rd_elN (l:=x1) (S.rc0 h1.rc).rd rfl eLine_len (0,0,0) (ix_ltn hk105 rfl) rfl)) fun a f=>?_)
  refine op_new (cs:=#[iv 0,iv 0,iv 0]) rfl rfl f rfl S (run_allocZ rfl zr130) ?_;clear f S;intro a g106 u f S
  refine op_do rfl rfl (run_store (cs':=#[iv ((x1.getD x2.toNat (0,0,0)).1),iv ((x1.getD x2.toNat (0,0,0)).2.1),iv ((x1.getD x2.toNat (0,0,0)).2.2)]) rfl sz130 (f.ev rfl) (f.ev rfl) rfl rfl rfl (S.free 0 rfl) rfl rfl) ?_;replace S:=S.put 0 rfl (#[iv ((x1.getD x2.toNat (0,0,0)).1),iv ((x1.getD x2.toNat (0,0,0)).2.1),iv ((x1.getD x2.toNat (0,0,0)).2.2)])
  generalize World.setRow _ _ _=u at S ⊢
  refine wn ?_
  refine ws ?_
  revert a;refine sr (ov rfl (fun a f=>run_fieldAddr rfl fl130_0 (f.ev rfl) rfl) (ov rfl (fun a f=>run_load1 rfl one3 (f.ev rfl) (S.cell 0 rfl rfl)) (mv rfl rfl (ov rfl (fun a f=>run_eql (f.ev rfl) (f.ev rfl) rfl) fun a f=>wn ?_))))
  cases hc107:(((x1.getD x2.toNat (0,0,0)).1)==x3)
  ·replace hM:=bif_f hc107 hM
   refine cond_f f rfl hc107 ?_
   refine wp_skip ?_
   refine ws ?_
   revert a;refine sr (ov rfl (fun a f=>run_fieldAddr rfl fl130_1 (f.ev rfl) rfl) (ov rfl (fun a f=>run_load1 rfl one3 (f.ev rfl) (S.cell 0 rfl rfl)) (mv rfl rfl (ov rfl (fun a f=>run_eql (f.ev rfl) (f.ev rfl) rfl) fun a f=>wn ?_))))
   cases hc108:(((x1.getD x2.toNat (0,0,0)).2.1)==x3)
   ·replace hM:=bif_f hc108 hM
    refine cond_f f rfl hc108 ?_
    refine wp_skip ?_
    revert a;refine sr (ov rfl (fun a f=>run_assign rfl rfl) fun a f=>wn ?_)
    refine wp_ret ?_
    refine ret1_gw (.inl rfl) f rfl (res_tmp (f.ev rfl)) ?_
    obtain rfl:=Option.some.inj hM
    exact ⟨rfl,S.sel [] rfl rfl⟩
   replace hM:=bif_t hc108 hM
   refine cond_t f rfl hc108 ?_
   revert a;refine sr (ov rfl (fun a f=>run_fieldAddr rfl fl130_0 (f.ev rfl) rfl) (ov rfl (fun a f=>run_load1 rfl one3 (f.ev rfl) (S.cell 0 rfl rfl)) (ag rfl rfl fun a f=>wn ?_)))
   refine wp_ret ?_
   repeat with_reducible first|apply tr|apply ir|apply nr
   refine ret1_gw (.inl rfl) f rfl (res_tmp (f.ev rfl)) ?_
   obtain rfl:=Option.some.inj hM
   exact ⟨rfl,S.sel [] rfl rfl⟩
  replace hM:=bif_t hc107 hM
  refine cond_t f rfl hc107 ?_
  revert a;refine sr (ov rfl (fun a f=>run_fieldAddr rfl fl130_1 (f.ev rfl) rfl) (ov rfl (fun a f=>run_load1 rfl one3 (f.ev rfl) (S.cell 0 rfl rfl)) (ag rfl rfl fun a f=>wn ?_)))
  refine wp_ret ?_
  repeat with_reducible first|apply tr|apply ir|apply nr
  refine ret1_gw (.inl rfl) f rfl (res_tmp (f.ev rfl)) ?_
  obtain rfl:=Option.some.inj hM
  exact ⟨rfl,S.sel [] rfl rfl⟩
 replace hM:=bif_t hc104 hM
 refine cond_t f rfl hc104 ?_
 revert a;refine sr (ov rfl (fun a f=>run_assign rfl rfl) fun a f=>wn ?_)
 refine wp_ret ?_
 repeat with_reducible first|apply tr|apply ir|apply nr
 refine ret1_gw (.inl rfl) f rfl (res_tmp (f.ev rfl)) ?_
 obtain rfl:=Option.some.inj hM
 exact ⟨rfl,S.sel [] rfl rfl⟩
theorem c_spec_l6Way {x0:Int} {x1:List (Int×Int×Int)} {x2:List Int} {x3:Int} {A1:Option Addr} {n1 c1:Nat} {A2:Option Addr} {n2 c2:Nat} {w:World} {r:List Int} (h1:Rt w 3 eLine A1 n1 c1 x1) (h2:Rt w 1 eI A2 n2 c2 x2) (hM : m_spec_l6Way x0 x1 x2 x3=some r) :
  Calls Tryz.prog 163 #[.agg #[iv x0,.slice A1 n1 c1],.slice A2 n2 c2,iv x3] w (fun e w'=>∃ (B0:Option Addr) (N0 D0:Nat),e=.returned (.slice B0 N0 D0)∧N0=r.length∧St w w' [.row 3 1 (.slice B0 N0 D0) N0 (r.flatMap eI)]):=by
 obtain rfl:=h1.len
 obtain rfl:=h2.len
 unfold m_spec_l6Way at hM
 refine calls_gx Tryz.func163 Tryz.ntmps163 rfl rfl ?_
 intro a f
 have S:=St.nil w
 refine wsg ?_
 refine op_new (cs:=#[iv x0,.slice A1 x1.length c1]) rfl rfl f rfl S (run_box rfl (f.ev rfl) rfl) ?_;clear f S;intro a g101 u f S
 revert a;refine ov rfl (fun a f=>run_assign rfl rfl) fun a f=>wn ?_
 refine wsg ?_
 refine op_newrow (cs:=#[]) (size:=1) rfl rfl f rfl S (run_buildSlice0 rfl Tryz.underlying30 (congrArg Option.isSome sz3)) rfl (Nat.zero_le _) ?_;clear f S;intro a g102 u f S
 revert a;refine ag rfl rfl fun a f=>wn ?_
 refine ws ?_
 obtain ⟨o104,hM107,hM⟩:=bind_ex hM
 refine wp_cut (fun a u=>∃ (p103:List Int) (B105:Option Addr) (d106:Nat),p103=o104∧Fr a 29 [(6,.slice none 0 0),(7,.slice B105 p103.length d106)]∧St w u [.row 3 1 (.slice B105 p103.length d106) p103.length (p103.flatMap eI)]) ?_ ?_
 ·have _:=trivial
  refine wp_block ?_
  refine loop_gw (fun m a u=>∃ (p108:Int×List Int) (B109:Option Addr) (d110:Nat),m_spec_l6Way_l1 x0 x1 x2 m p108=some _∧Fr a 29 [(1,.slice A2 x2.length c2),(2,iv p108.1),(3,.pointer (some ⟨g101,0,none⟩)),(6,.slice none 0 0),(7,.slice B109 p108.2.length d110)]∧St w u [.box g101 37 #[iv x0,.slice A1 x1.length c1],.row 3 1 (.slice B109 p108.2.length d110) p108.2.length (p108.2.flatMap eI)]) FUEL ⟨(x3,([]:List Int)),(some ⟨g102,0,none⟩),0,hM107,f.keep _ ⟨rfl,rfl,rfl,rfl,rfl,trivial⟩,S.sel [1,0] rfl rfl⟩ ?_
  clear f S hM107;rintro m a u ⟨p108,B109,d110,hM107,f,S⟩
  rcases m with _ | f1
  ·exact none_some hM107
  rw [m_spec_l6Way_l1.eq_2] at hM107
  refine ws ?_
  revert a;refine sr (mv rfl rfl (mv rfl rfl fun a f=>?_))
  obtain ⟨hk111,hM107⟩:=chk_ex hM107
  replace hk111:=ixB_t hk111
  revert a;refine ov rfl (fun a f=>run_ix rfl Tryz.underlying30 sz3 (f.ev rfl) (S.rc0 h2.rc) (f.ev rfl) hk111) (ov rfl (fun a f=>run_load1 rfl one3 (f.ev rfl) (rd_el0 (l:=x2) (S.rc0 h2.rc).rd rfl eI_len 0 (ix_ltn hk111 rfl) rfl)) (ov rfl (fun a f=>run_geq (f.ev rfl) rfl rfl) fun a f=>wn ?_))
  cases hc112:(leB 0 (x2.getD p108.1.toNat 0))
  ·replace hM107:=bif_f hc112 hM107
   refine cond_f f rfl hc112 ?_
   refine wp_exit ?_
   repeat with_reducible first|apply then_exit|apply in_hit|refine in_miss rfl ?_
   obtain rfl:=Option.some.inj hM107
   exact ⟨p108.2,B109,d110,rfl,f.keep _ ⟨rfl,rfl,trivial⟩,S.sel [1] rfl rfl⟩
  replace hM107:=bif_t hc112 hM107
  refine cond_t f rfl hc112 ?_
  refine wp_skip ?_
  refine wp_block ?_
  revert a;refine sr (mv rfl rfl (mv rfl rfl fun a f=>?_))
  obtain ⟨hk113,hM107⟩:=chk_ex hM107
  replace hk113:=ixB_t hk113
  revert a;refine ov rfl (fun a f=>run_ix rfl Tryz.underlying30 sz3 (f.ev rfl) (S.rc0 h2.rc) (f.ev rfl) hk113) (ov rfl (fun a f=>run_load1 rfl one3 (f.ev rfl) (rd_el0 (l:=x2) (S.rc0 h2.rc).rd rfl eI_len 0 (ix_ltn hk113 rfl) rfl)) fun a f=>?_)
  refine op_newrowL (ls:=(([(x2.getD p108.1.toNat 0)]:List Int):List Int)) (e:=eI) rfl rfl f rfl S (run_buildS (vs:=[(0,iv (x2.getD p108.1.toNat 0))]) rfl ⟨⟨rfl,(f.ev rfl)⟩,trivial⟩ (bs30_1_0 rfl)) rfl eI_len (Nat.le_of_ble_eq_true rfl) ?_;clear f S;intro a g114 u f S
  revert a;refine mv rfl rfl fun a f=>?_
  obtain ⟨hk117,hM107⟩:=chk_ex hM107
  replace hk117:=apB_t hk117
  refine op_appendL (lx:=([(x2.getD p108.1.toNat 0)]:List Int)) (ly:=p108.2) rfl rfl f rfl S rfl (f.ev rfl) (f.ev rfl) (i:=0) rfl rfl Tryz.underlying30 inf3 rfl (by decide) (S.rc 2 rfl).rd rfl eI_one hk117 (by decide) ?_;clear f S;intro a B115 d116 u f S
  revert a;refine ag rfl rfl fun a f=>wn ?_
  obtain ⟨hk118,hM107⟩:=chk_ex hM107
  replace hk118:=ixB_t hk118
  obtain ⟨p119,h119,hM107⟩:=bind_ex hM107
  refine region_gw (D:=[21,22,23,24,25,26,27,2]) (Lr:=[.row 3 1 (.slice B115 ((([(x2.getD p108.1.toNat 0)]:List Int)++p108.2).length) d116) ((([(x2.getD p108.1.toNat 0)]:List Int)++p108.2).length) ((([(x2.getD p108.1.toNat 0)]:List Int)++p108.2).flatMap eI),.box g101 37 #[iv x0,.slice A1 x1.length c1],.row 3 1 (.slice B109 p108.2.length d110) p108.2.length (p108.2.flatMap eI)]) (deps:=(fun | 0=>[21] | 1=>[22] | 2=>[23] | 3=>[24] | 4=>[25] | 5=>[26] | 6=>[27] | 7=>[2] | _=>[])) (rd:=(fun _=>[])) (zr:=(fun _=>[]))
   (φ:=fun i vs=>match i,vs with | 0,[v21]=>v21=.agg #[iv x0,.slice A1 x1.length c1] | 1,[v22]=>v22=.slice A2 x2.length c2 | 2,[v23]=>v23=iv p108.1 | 3,[v24]=>v24=.pointer (some ⟨adB A2,adO A2+p108.1.toNat*1,none⟩) | 4,[v25]=>v25=iv (x2.getD p108.1.toNat 0) | 5,[v26]=>v26=iv p108.1 | 6,[v27]=>v27=iv p119 | 7,[v2]=>v2=iv p119 | _,_=>True)
   (C:=fun _ _=>[])
   (κ:=(fun _=>none)) (Z:=(fun _=>[])) mixed f (by kernel_rfl) S ?_ ?_
  ·refine ⟨?_,?_,?_,?_,?_,?_,?_,?_,trivial⟩
   ·intro a u X hB hu p hr hz hl S
    exact .inl ⟨rfl,_,u,(run_loadN rfl ag37 (f.evB hB rfl rfl) rfl ((gr_box S hl 1 rfl).cells 0 #[iv x0,.slice A1 x1.length c1] rfl)),rfl,S⟩
   ·intro a u X hB hu p hr hz hl S
    exact .inl ⟨rfl,_,u,(run_move rfl (f.evB hB rfl rfl)),rfl,S⟩
   ·intro a u X hB hu p hr hz hl S
    exact .inl ⟨rfl,_,u,(run_move rfl (f.evU (hu 7 2 rfl rfl) rfl)),rfl,S⟩
   ·intro a u X hB hu p hr hz hl S
    exact .inl ⟨rfl,_,u,(run_ix rfl Tryz.underlying30 sz3 (ev_sl (p 1 rfl)) (S.rc0 h2.rc) (ev_sl (p 2 rfl)) hk118),rfl,S⟩
   ·intro a u X hB hu p hr hz hl S
    exact .inl ⟨rfl,_,u,(run_load1 rfl one3 (ev_sl (p 3 rfl)) (rd_el0 (l:=x2) (S.rc0 h2.rc).rd rfl eI_len 0 (ix_ltn hk118 rfl) rfl)),rfl,S⟩
   ·intro a u X hB hu p hr hz hl S
    exact .inl ⟨rfl,_,u,(run_move rfl (f.evU (hu 7 2 rfl rfl) rfl)),rfl,S⟩
   ·intro a u X hB hu p hr hz hl S
    refine .inr (.inr (.inl ⟨rfl,_,_,(run_call (vs:=[.agg #[iv x0,.slice A1 x1.length c1],iv (x2.getD p108.1.toNat 0),iv p108.1]) rfl rfl co164 ⟨(ev_sl (p 0 rfl)),(ev_sl (p 4 rfl)),(ev_sl (p 5 rfl)),trivial⟩),?_⟩))
    refine Calls.mono (c_spec_OtherEnd (x0:=x0) (x1:=x1) (x2:=(x2.getD p108.1.toNat 0)) (x3:=p108.1) ⟨(S.rc0 h1.rc),rfl⟩ h119) ?_
    rintro e w1 ⟨rfl,T⟩
    exact ⟨_,rfl,rfl,S.call0 T⟩
   intro a u X hB hu p hr hz hl S
   exact .inl ⟨rfl,_,u,(run_assign rfl (ev_sl (p 6 rfl))),rfl,S⟩
  intro a u hB hp S
  obtain ⟨q0,q1,q2,q3,q4,q5,q6,q7,-⟩:=hp
  replace S:St w u [.row 3 1 (.slice B115 ((([(x2.getD p108.1.toNat 0)]:List Int)++p108.2).length) d116) ((([(x2.getD p108.1.toNat 0)]:List Int)++p108.2).length) ((([(x2.getD p108.1.toNat 0)]:List Int)++p108.2).flatMap eI),.box g101 37 #[iv x0,.slice A1 x1.length c1],.row 3 1 (.slice B109 p108.2.length d110) p108.2.length (p108.2.flatMap eI)]:=S
  have f:=f.region hB [(21,_),(22,_),(23,_),(24,_),(25,_),(26,_),(27,_),(2,_)] (allSl_mem ⟨q0,q1,q2,q3,q4,q5,q6,q7,trivial⟩) rfl
  clear hB q0 q1 q2 q3 q4 q5 q6 q7
  exact ⟨f1,Nat.lt_succ_self _,(p119,([(x2.getD p108.1.toNat 0)]:List Int)++p108.2),B115,d116,hM107,f.keep _ ⟨rfl,rfl,rfl,rfl,rfl,trivial⟩,S.sel [1,0] rfl rfl⟩
 rintro a u ⟨p103,B105,d106,rfl,f,S⟩
 revert a;refine sr (mv rfl rfl (ag rfl rfl fun a f=>wn ?_))
 refine wp_ret ?_
 refine ret1_gw (.inl rfl) f rfl (res_tmp (f.ev rfl)) ?_
 obtain rfl:=Option.some.inj hM
 exact ⟨B105,p103.length,d106,rfl,rfl,S.sel [0] rfl rfl⟩
theorem c_spec_l7Flows {x0:Int} {x1:List (Int×Int×Int)} {x2:List Bool} {x3:List (Int×Int)} {A1:Option Addr} {n1 c1:Nat} {A2:Option Addr} {n2 c2:Nat} {A3:Option Addr} {n3 c3:Nat} {w:World} {r:List Int} (h1:Rt w 3 eLine A1 n1 c1 x1) (h2:Rt w 1 eB A2 n2 c2 x2) (h3:Rt w 2 eBus A3 n3 c3 x3) (hM : m_spec_l7Flows x0 x1 x2 x3=some r) :
  Calls Tryz.prog 160 #[.agg #[iv x0,.slice A1 n1 c1],.slice A2 n2 c2,.slice A3 n3 c3] w (fun e w'=>∃ (B0:Option Addr) (N0 D0:Nat),e=.returned (.slice B0 N0 D0)∧N0=r.length∧St w w' [.row 3 1 (.slice B0 N0 D0) N0 (r.flatMap eI)]):=by
 obtain rfl:=h1.len
 obtain rfl:=h2.len
 obtain rfl:=h3.len
 unfold m_spec_l7Flows at hM
 refine calls_gx Tryz.func160 Tryz.ntmps160 rfl rfl ?_
 intro a f
 have S:=St.nil w
 refine wsg ?_
 refine op_new (cs:=#[iv x0,.slice A1 x1.length c1]) rfl rfl f rfl S (run_box rfl (f.ev rfl) rfl) ?_;clear f S;intro a g101 u f S
 revert a;refine ov rfl (fun a f=>run_assign rfl rfl) fun a f=>wn ?_
 revert a;refine sr (mv rfl rfl (ov rfl (fun a f=>run_lenL rfl rfl Tryz.underlying26 (f.ev rfl)) fun a f=>?_))
 obtain ⟨hk103,hM⟩:=chk_ex hM
 replace hk103:=mkB_t hk103
 refine op_newrowL (m:=x2.length) (ls:=List.replicate x2.length 0) (e:=eI) rfl rfl f rfl S (run_makeL rfl (f.ev rfl) (f.ev rfl) Tryz.underlying30 inf3 eI_len rfl (by decide) hk103) List.length_replicate eI_len (by rw [List.length_replicate];omega) ?_;clear f S;intro a g102 u f S
 revert a;refine ag rfl rfl fun a f=>wn ?_
 revert a;refine sr (ov rfl (fun a f=>run_loadN rfl ag37 (f.ev rfl) rfl ((S.free 1 rfl).cells 0 #[iv x0,.slice A1 x1.length c1] rfl)) (mv rfl rfl (mv rfl rfl fun a f=>?_)))
 obtain ⟨p104,h104,hM⟩:=bind_ex hM
 refine op_call rfl rfl f rfl (run_call (vs:=[_,_,_]) rfl rfl co162 ⟨(f.ev rfl),(f.ev rfl),(f.ev rfl),trivial⟩) (c_spec_l6Parents ⟨(S.rc0 h1.rc),rfl⟩ ⟨(S.rc0 h2.rc),rfl⟩ ⟨(S.rc0 h3.rc),rfl⟩ h104) ?_
 rintro e u ⟨B105,n106,d107,rfl,rfl,T⟩
 refine ⟨_,rfl,?_⟩
 clear f;intro a f
 replace S:=S.call1 T;clear T
 revert a;refine ag rfl rfl fun a f=>wn ?_
 refine ws ?_
 revert a;refine sr (ov rfl (fun a f=>run_assign rfl rfl) fun a f=>wn ?_)
 obtain ⟨o109,hM111,hM⟩:=bind_ex hM
 refine wp_cut (fun a u=>∃ (p108:List Int),p108=o109∧x2.length=p108.length∧Fr a 55 [(6,.slice none 0 0),(7,.slice (some ⟨g102,0,none⟩) x2.length x2.length)]∧St w u [.row 3 1 (.slice (some ⟨g102,0,none⟩) x2.length x2.length) x2.length (p108.flatMap eI)]) ?_ ?_
 ·have _:=trivial
  refine wp_block ?_
  refine loop_gw (fun m a u=>∃ (p112:List Int×Int),m_spec_l7Flows_l1 x0 x1 p104 x2 x3 m p112=some _∧x2.length=p112.1.length∧Fr a 55 [(2,.slice A3 x3.length c3),(3,.pointer (some ⟨g101,0,none⟩)),(6,.slice none 0 0),(7,.slice (some ⟨g102,0,none⟩) x2.length x2.length),(8,.slice B105 p104.length d107),(9,iv p112.2)]∧St w u [.box g101 37 #[iv x0,.slice A1 x1.length c1],.row 3 1 (.slice (some ⟨g102,0,none⟩) x2.length x2.length) x2.length (p112.1.flatMap eI),.row 3 1 (.slice B105 p104.length d107) p104.length (p104.flatMap eI)]) FUEL ⟨(List.replicate x2.length 0,0),hM111,List.length_replicate.symm,f.keep _ ⟨rfl,rfl,rfl,rfl,rfl,rfl,trivial⟩,S.sel [2,1,0] rfl rfl⟩ ?_
  clear f S hM111;rintro m a u ⟨p112,hM111,hn113,f,S⟩
  rcases m with _ | f1
  ·exact none_some hM111
  rw [m_spec_l7Flows_l1.eq_2] at hM111
  refine ws ?_
  revert a;refine sr (mv rfl rfl (ov rfl (fun a f=>run_fieldAddr rfl fl37_0 (f.ev rfl) rfl) (ov rfl (fun a f=>run_load1 rfl one3 (f.ev rfl) (S.cell 0 rfl rfl)) (ov rfl (fun a f=>run_lss (f.ev rfl) (f.ev rfl) rfl) fun a f=>wn ?_))))
  cases hc114:(ltB p112.2 x0)
  ·replace hM111:=bif_f hc114 hM111
   refine cond_f f rfl hc114 ?_
   refine wp_exit ?_
   repeat with_reducible first|apply then_exit|apply in_hit|refine in_miss rfl ?_
   obtain rfl:=Option.some.inj hM111
   exact ⟨p112.1,rfl,hn113,f.keep _ ⟨rfl,rfl,trivial⟩,S.sel [1] rfl rfl⟩
  replace hM111:=bif_t hc114 hM111
  refine cond_t f rfl hc114 ?_
  refine wp_skip ?_
  refine ws ?_
  refine wp_block ?_
  revert a;refine sr (ov rfl (fun a f=>run_loadN rfl ag37 (f.ev rfl) rfl ((S.free 0 rfl).cells 0 #[iv x0,.slice A1 x1.length c1] rfl)) (mv rfl rfl (mv rfl rfl fun a f=>?_)))
  obtain ⟨p115,h115,hM111⟩:=bind_ex hM111
  refine op_call rfl rfl f rfl (run_call (vs:=[_,_,_]) rfl rfl co163 ⟨(f.ev rfl),(f.ev rfl),(f.ev rfl),trivial⟩) (c_spec_l6Way ⟨(S.rc0 h1.rc),rfl⟩ ⟨(S.rc 2 rfl),rfl⟩ h115) ?_
  rintro e u ⟨B116,n117,d118,rfl,rfl,T⟩
  refine ⟨_,rfl,?_⟩
  clear f;intro a f
  replace S:=S.call1 T;clear T
  revert a;refine ag rfl rfl fun a f=>wn ?_
  revert a;refine sr (ov rfl (fun a f=>run_assign rfl rfl) fun a f=>wn ?_)
  obtain ⟨o120,hM122,hM111⟩:=bind_ex hM111
  refine wp_cut (fun a u=>∃ (p119:List Int),p119=o120∧x2.length=p119.length∧Fr a 55 [(2,.slice A3 x3.length c3),(3,.pointer (some ⟨g101,0,none⟩)),(6,.slice none 0 0),(7,.slice (some ⟨g102,0,none⟩) x2.length x2.length),(8,.slice B105 p104.length d107),(9,iv p112.2)]∧St w u [.box g101 37 #[iv x0,.slice A1 x1.length c1],.row 3 1 (.slice (some ⟨g102,0,none⟩) x2.length x2.length) x2.length (p119.flatMap eI),.row 3 1 (.slice B105 p104.length d107) p104.length (p104.flatMap eI)]) ?_ ?_
  ·have _:=trivial
   refine wp_block ?_
   refine loop_gw (fun m a u=>∃ (p123:List Int×Int),m_spec_l7Flows_l2 x2 x3 p112 p115 m p123=some _∧x2.length=p123.1.length∧Fr a 55 [(2,.slice A3 x3.length c3),(3,.pointer (some ⟨g101,0,none⟩)),(6,.slice none 0 0),(7,.slice (some ⟨g102,0,none⟩) x2.length x2.length),(8,.slice B105 p104.length d107),(9,iv p112.2),(10,.slice B116 p115.length d118),(11,iv p123.2)]∧St w u [.box g101 37 #[iv x0,.slice A1 x1.length c1],.row 3 1 (.slice (some ⟨g102,0,none⟩) x2.length x2.length) x2.length (p123.1.flatMap eI),.row 3 1 (.slice B105 p104.length d107) p104.length (p104.flatMap eI),.row 3 1 (.slice B116 p115.length d118) p115.length (p115.flatMap eI)]) FUEL ⟨(p112.1,0),hM122,hn113,f.keep _ ⟨rfl,rfl,rfl,rfl,rfl,rfl,rfl,rfl,trivial⟩,S.sel [1,2,3,0] rfl rfl⟩ ?_
   clear f S hM122;rintro m a u ⟨p123,hM122,hn124,f,S⟩
   rcases m with _ | f2
   ·exact none_some hM122
   rw [m_spec_l7Flows_l2.eq_2] at hM122
   refine ws ?_
   revert a;refine sr (mv rfl rfl (mv rfl rfl (ov rfl (fun a f=>run_lenL rfl rfl Tryz.underlying30 (f.ev rfl)) (ov rfl (fun a f=>run_lss (f.ev rfl) (f.ev rfl) rfl) fun a f=>wn ?_))))
   cases hc125:(ltB p123.2 (p115.length:Int))
   ·replace hM122:=bif_f hc125 hM122
    refine cond_f f rfl hc125 ?_
    refine wp_exit ?_
    repeat with_reducible first|apply then_exit|apply in_hit|refine in_miss rfl ?_
    obtain rfl:=Option.some.inj hM122
    exact ⟨p123.1,rfl,hn124,f.keep _ ⟨rfl,rfl,rfl,rfl,rfl,rfl,trivial⟩,S.sel [0,1,2] rfl rfl⟩
   replace hM122:=bif_t hc125 hM122
   refine cond_t f rfl hc125 ?_
   refine wp_skip ?_
   refine ws ?_
   refine wp_block ?_
   obtain ⟨hk126,hM122⟩:=chk_ex hM122
   replace hk126:=ixB_t hk126
   obtain ⟨hk127,hM122⟩:=chk_ex hM122
   replace hk127:=ixB_t hk127
   obtain ⟨hk128,hM122⟩:=chk_ex hM122
   replace hk128:=ixB_t hk128
   obtain ⟨hk129,hM122⟩:=chk_ex hM122
   replace hk129:=ixB_t hk129
   obtain ⟨hk130,hM122⟩:=chk_ex hM122
   replace hk130:=ixB_t hk130
   refine region_gw (D:=[35,36,37,38,39,40,41,42,43,44,45,46,47,48,49,50,51,52,53]) (Lr:=[.box g101 37 #[iv x0,.slice A1 x1.length c1],.row 3 1 (.slice B105 p104.length d107) p104.length (p104.flatMap eI),.row 3 1 (.slice B116 p115.length d118) p115.length (p115.flatMap eI)]) (deps:=(fun | 0=>[35] | 1=>[36] | 2=>[37] | 3=>[38] | 4=>[39] | 5=>[40] | 6=>[41] | 7=>[42] | 8=>[43] | 9=>[44] | 10=>[45] | 11=>[46] | 12=>[47] | 13=>[48] | 14=>[49] | 15=>[50] | 16=>[51] | 17=>[52] | 18=>[53] | 19=>[53] | _=>[])) (rd:=(fun _=>[])) (zr:=(fun | 10=>[19] | 11=>[19] | 18=>[19] | _=>[]))
    (φ:=fun i vs=>match i,vs with | 0,[v35]=>v35=.slice (some ⟨g102,0,none⟩) x2.length x2.length | 1,[v36]=>v36=.slice B116 p115.length d118 | 2,[v37]=>v37=iv p123.2 | 3,[v38]=>v38=.pointer (some ⟨adB B116,adO B116+p123.2.toNat*1,none⟩) | 4,[v39]=>v39=iv (p115.getD p123.2.toNat 0) | 5,[v40]=>v40=.slice (some ⟨g102,0,none⟩) x2.length x2.length | 6,[v41]=>v41=.slice B116 p115.length d118 | 7,[v42]=>v42=iv p123.2 | 8,[v43]=>v43=.pointer (some ⟨adB B116,adO B116+p123.2.toNat*1,none⟩) | 9,[v44]=>v44=iv (p115.getD p123.2.toNat 0) | 10,[v45]=>v45=.pointer (some ⟨adB (some ⟨g102,0,none⟩),adO (some ⟨g102,0,none⟩)+((p115.getD p123.2.toNat 0).toNat)*1,none⟩) | 11,[v46]=>v46=iv (p123.1.getD ((p115.getD p123.2.toNat 0).toNat) 0) | 12,[v47]=>v47=.slice A3 x3.length c3 | 13,[v48]=>v48=iv p112.2 | 14,[v49]=>v49=.pointer (some ⟨adB A3,adO A3+p112.2.toNat*2,none⟩) | 15,[v50]=>v50=.pointer (some ⟨adB A3,adO A3+p112.2.toNat*2+1,none⟩) | 16,[v51]=>v51=iv ((x3.getD p112.2.toNat (0,0)).2) | 17,[v52]=>v52=iv (w64 ((p123.1.getD ((p115.getD p123.2.toNat 0).toNat) 0)+((x3.getD p112.2.toNat (0,0)).2))) | 18,[v53]=>v53=.pointer (some ⟨adB (some ⟨g102,0,none⟩),adO (some ⟨g102,0,none⟩)+((p115.getD p123.2.toNat 0).toNat)*1,none⟩) | _,_=>True)
    (C:=fun i vs=>match i,vs with | 19,[v53]=>[.row 3 1 (.slice (some ⟨g102,0,none⟩) x2.length x2.length) x2.length ((p123.1.set ((p115.getD p123.2.toNat 0).toNat) (w64 ((p123.1.getD ((p115.getD p123.2.toNat 0).toNat) 0)+((x3.getD p112.2.toNat (0,0)).2)))).flatMap eI)] | _,_=>[])
    (κ:=(fun _=>none)) (Z:=(fun | 19=>[.row 3 1 (.slice (some ⟨g102,0,none⟩) x2.length x2.length) x2.length (p123.1.flatMap eI)] | _=>[])) mixed f (by kernel_rfl) (show St w _ [.row 3 1 (.slice (some ⟨g102,0,none⟩) x2.length x2.length) x2.length (p123.1.flatMap eI),.box g101 37 #[iv x0,.slice A1 x1.length c1],.row 3 1 (.slice B105 p104.length d107) p104.length (p104.flatMap eI),.row 3 1 (.slice B116 p115.length d118) p115.length (p115.flatMap eI)] from S.sel [1,0,2,3] rfl rfl) ?_ ?_
   ·refine ⟨?_,?_,?_,?_,?_,?_,?_,?_,?_,?_,?_,?_,?_,?_,?_,?_,?_,?_,?_,?_,trivial⟩
    ·intro a u X hB hu p hr hz hl S
     exact .inl ⟨rfl,_,u,(run_move rfl (f.evB hB rfl rfl)),rfl,S⟩
    ·intro a u X hB hu p hr hz hl S
     exact .inl ⟨rfl,_,u,(run_move rfl (f.evB hB rfl rfl)),rfl,S⟩
    ·intro a u X hB hu p hr hz hl S
     exact .inl ⟨rfl,_,u,(run_move rfl (f.evB hB rfl rfl)),rfl,S⟩
    ·intro a u X hB hu p hr hz hl S
     exact .inl ⟨rfl,_,u,(run_indexAddr (b:=adB B116) (off:=adO B116) rfl Tryz.underlying30 sz3 ((ev_sl (p 1 rfl)).trans (congrArg (fun A=>Value.slice A p115.length d118) ((gr_rc S hl 2 rfl).rd.ad (ix_pos hk126)))) (ev_sl (p 2 rfl)) hk126.1 hk126.2 (k':=adO B116+p123.2.toNat*1) rfl),rfl,S⟩
    ·intro a u X hB hu p hr hz hl S
     exact .inl ⟨rfl,_,u,(run_load1 rfl one3 (ev_sl (p 3 rfl)) (rd_el0 (l:=p115) (gr_rc S hl 2 rfl).rd rfl eI_len 0 (ix_ltn hk126 rfl) rfl)),rfl,S⟩
    ·intro a u X hB hu p hr hz hl S
     exact .inl ⟨rfl,_,u,(run_move rfl (f.evB hB rfl rfl)),rfl,S⟩
    ·intro a u X hB hu p hr hz hl S
     exact .inl ⟨rfl,_,u,(run_move rfl (f.evB hB rfl rfl)),rfl,S⟩
    ·intro a u X hB hu p hr hz hl S
     exact .inl ⟨rfl,_,u,(run_move rfl (f.evB hB rfl rfl)),rfl,S⟩
    ·intro a u X hB hu p hr hz hl S
     exact .inl ⟨rfl,_,u,(run_indexAddr (b:=adB B116) (off:=adO B116) rfl Tryz.underlying30 sz3 ((ev_sl (p 6 rfl)).trans (congrArg (fun A=>Value.slice A p115.length d118) ((gr_rc S hl 2 rfl).rd.ad (ix_pos hk127)))) (ev_sl (p 7 rfl)) hk127.1 hk127.2 (k':=adO B116+p123.2.toNat*1) rfl),rfl,S⟩
    ·intro a u X hB hu p hr hz hl S
     exact .inl ⟨rfl,_,u,(run_load1 rfl one3 (ev_sl (p 8 rfl)) (rd_el0 (l:=p115) (gr_rc S hl 2 rfl).rd rfl eI_len 0 (ix_ltn hk127 rfl) rfl)),rfl,S⟩
    ·intro a u X hB hu p hr hz hl S
     exact .inl ⟨rfl,_,u,(run_indexAddr (b:=adB (some ⟨g102,0,none⟩)) (off:=adO (some ⟨g102,0,none⟩)) rfl Tryz.underlying30 sz3 ((ev_sl (p 5 rfl)).trans (congrArg (fun A=>Value.slice A x2.length x2.length) ((own_rc (show Ow _ _ _ _ _ _ from S.mem (List.mem_append_right _ (hz 19 (List.mem_of_getElem? (i:=0) rfl) _ (List.mem_of_getElem? (i:=0) rfl))))).rd.ad (ix_pos hk128)))) (ev_sl (p 9 rfl)) hk128.1 hk128.2 (k':=adO (some ⟨g102,0,none⟩)+((p115.getD p123.2.toNat 0).toNat)*1) rfl),rfl,S⟩
    ·intro a u X hB hu p hr hz hl S
     exact .inl ⟨rfl,_,u,(run_load1 rfl one3 (ev_sl (p 10 rfl)) (rd_el0 (l:=p123.1) (own_rc (show Ow _ _ _ _ _ _ from S.mem (List.mem_append_right _ (hz 19 (List.mem_of_getElem? (i:=0) rfl) _ (List.mem_of_getElem? (i:=0) rfl))))).rd hn124 eI_len 0 (ix_ltn hk128 hn124) rfl)),rfl,S⟩
    ·intro a u X hB hu p hr hz hl S
     exact .inl ⟨rfl,_,u,(run_move rfl (f.evB hB rfl rfl)),rfl,S⟩
    ·intro a u X hB hu p hr hz hl S
     exact .inl ⟨rfl,_,u,(run_move rfl (f.evB hB rfl rfl)),rfl,S⟩
    ·intro a u X hB hu p hr hz hl S
     exact .inl ⟨rfl,_,u,(run_ix rfl Tryz.underlying38 sz110 (ev_sl (p 12 rfl)) (S.rc0 h3.rc) (ev_sl (p 13 rfl)) hk129),rfl,S⟩
    ·intro a u X hB hu p hr hz hl S
     exact .inl ⟨rfl,_,u,(run_fieldAddr rfl fl110_1 (ev_sl (p 14 rfl)) rfl),rfl,S⟩
    ·intro a u X hB hu p hr hz hl S
     exact .inl ⟨rfl,_,u,(run_load1 rfl one3 (ev_sl (p 15 rfl)) (rd_el (l:=x3) (S.rc0 h3.rc).rd rfl eBus_len (0,0) (ix_ltn hk129 rfl) rfl)),rfl,S⟩
    ·intro a u X hB hu p hr hz hl S
     exact .inl ⟨rfl,_,u,(run_add (z:=w64 ((p123.1.getD ((p115.getD p123.2.toNat 0).toNat) 0)+((x3.getD p112.2.toNat (0,0)).2))) (ev_sl (p 11 rfl)) (ev_sl (p 16 rfl)) rfl rfl),rfl,S⟩
    ·intro a u X hB hu p hr hz hl S
     exact .inl ⟨rfl,_,u,(run_indexAddr (b:=adB (some ⟨g102,0,none⟩)) (off:=adO (some ⟨g102,0,none⟩)) rfl Tryz.underlying30 sz3 ((ev_sl (p 0 rfl)).trans (congrArg (fun A=>Value.slice A x2.length x2.length) ((own_rc (show Ow _ _ _ _ _ _ from S.mem (List.mem_append_right _ (hz 19 (List.mem_of_getElem? (i:=0) rfl) _ (List.mem_of_getElem? (i:=0) rfl))))).rd.ad (ix_pos hk130)))) (ev_sl (p 4 rfl)) hk130.1 hk130.2 (k':=adO (some ⟨g102,0,none⟩)+((p115.getD p123.2.toNat 0).toNat)*1) rfl),rfl,S⟩
    intro a u X hB hu p hr hz hl S
    replace S:St w u ([.row 3 1 (.slice (some ⟨g102,0,none⟩) x2.length x2.length) x2.length (p123.1.flatMap eI)]++X):=S
    obtain ⟨w',hrun,S'⟩:=run_storeElN (P:=Tryz.prog) (ρ:=a.eval) (y0:=w64 ((p123.1.getD ((p115.getD p123.2.toNat 0).toNat) 0)+((x3.getD p112.2.toNat (0,0)).2))) (off:=0) S 3 (.tmp 53) (.tmp 52) (i:=0) sz3 (ev_sl (p 18 rfl)) (ev_sl (p 17 rfl)) rfl rfl rfl rfl hn124 eI_len 0 (ix_ltn hk130 hn124) rfl rfl
    exact .inr (.inl ⟨rfl,w',hrun _ rfl,trivial,S'⟩)
   intro a u hB hp S
   obtain ⟨q0,q1,q2,q3,q4,q5,q6,q7,q8,q9,q10,q11,q12,q13,q14,q15,q16,q17,q18,q19,-⟩:=hp
   replace S:St w u [.row 3 1 (.slice (some ⟨g102,0,none⟩) x2.length x2.length) x2.length ((p123.1.set ((p115.getD p123.2.toNat 0).toNat) (w64 ((p123.1.getD ((p115.getD p123.2.toNat 0).toNat) 0)+((x3.getD p112.2.toNat (0,0)).2)))).flatMap eI),.box g101 37 #[iv x0,.slice A1 x1.length c1],.row 3 1 (.slice B105 p104.length d107) p104.length (p104.flatMap eI),.row 3 1 (.slice B116 p115.length d118) p115.length (p115.flatMap eI)]:=S
   have f:=f.region hB [(35,_),(36,_),(37,_),(38,_),(39,_),(40,_),(41,_),(42,_),(43,_),(44,_),(45,_),(46,_),(47,_),(48,_),(49,_),(50,_),(51,_),(52,_),(53,_)] (allSl_mem ⟨q0,q1,q2,q3,q4,q5,q6,q7,q8,q9,q10,q11,q12,q13,q14,q15,q16,q17,q18,trivial⟩) rfl
   clear hB q0 q1 q2 q3 q4 q5 q6 q7 q8 q9 q10 q11 q12 q13 q14 q15 q16 q17 q18 q19
   revert a;refine rl (mv rfl rfl (ov rfl (fun a f=>run_add (z:=w64 (p123.2+1)) (f.ev rfl) rfl rfl rfl) (ag rfl rfl fun a f=>wn ?_)))
   exact ⟨f2,Nat.lt_succ_self _,(p123.1.set ((p115.getD p123.2.toNat 0).toNat) (w64 ((p123.1.getD ((p115.getD p123.2.toNat 0).toNat) 0)+((x3.getD p112.2.toNat (0,0)).2))),w64 (p123.2+1)),hM122,(len_set hn124),f.keep _ ⟨rfl,rfl,rfl,rfl,rfl,rfl,rfl,rfl,trivial⟩,S.sel [1,0,2,3] rfl rfl⟩
  rintro a u ⟨p119,rfl,hn121,f,S⟩
  revert a;refine rl (mv rfl rfl (ov rfl (fun a f=>run_add (z:=w64 (p112.2+1)) (f.ev rfl) rfl rfl rfl) (ag rfl rfl fun a f=>wn ?_)))
  exact ⟨f1,Nat.lt_succ_self _,(p119,w64 (p112.2+1)),hM111,hn121,f.keep _ ⟨rfl,rfl,rfl,rfl,rfl,rfl,trivial⟩,S.sel [0,1,2] rfl rfl⟩
 rintro a u ⟨p108,rfl,hn110,f,S⟩
 revert a;refine sr (mv rfl rfl (ag rfl rfl fun a f=>wn ?_))
 refine wp_ret ?_
 refine ret1_gw (.inl rfl) f rfl (res_tmp (f.ev rfl)) ?_
 obtain rfl:=Option.some.inj hM
 exact ⟨(some ⟨g102,0,none⟩),x2.length,x2.length,rfl,hn110,S.sel [0] rfl rfl⟩
end Go.Proofs.YtcmnjaccapbhfaaGreat
