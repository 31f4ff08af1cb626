/- Calls return what the models say. -/
import Derived.Test.YtcmnjaccapbhfaaGreatQSq
import Derived.Test.YtcmnjaccapbhfaaGreatQDa1
namespace Go.Proofs.YtcmnjaccapbhfaaGreat
open Go.ChangeShapes Go.WideShapes Go.ChangeAt Go.RowKit
set_option linter.unusedVariables false
set_option maxHeartbeats 4000000
set_option linter.unusedSimpArgs false
theorem c_spec_l1Has {x0:List Int} {x1:Int} {A0:Option Addr} {n0 c0:Nat} {w:World} {r:Bool} (h0:Rt w 1 eI A0 n0 c0 x0) (hM : m_spec_l1Has x0 x1=some r) :
  Calls Tryz.prog 40 #[.slice A0 n0 c0,iv x1] w (fun e w'=>e=.returned (.bool r)∧St w w' []):=by
 obtain rfl:=h0.len
 unfold m_spec_l1Has at hM
 refine calls_gx Tryz.func40 Tryz.ntmps40 rfl rfl ?_
 intro a f
 have S:=St.nil w
 revert a;refine sr (ov rfl (fun a f=>run_assign rfl rfl) fun a f=>wn ?_)
 refine ws ?_
 revert a;refine sr (ov rfl (fun a f=>run_assign rfl rfl) fun a f=>wn ?_)
 obtain ⟨o102,hM103,hM⟩:=bind_ex hM
 refine wp_cut (fun a u=>∃ (p101:Unit),(Sum.inl p101)=o102∧Fr a 18 [(4,.bool false)]∧St w u []) ?_ ?_
 ·have _:=trivial
  refine wp_block ?_
  refine loop_gw (fun m a u=>∃ (p104:Int),m_spec_l1Has_l1 x0 x1 m p104=some _∧Fr a 18 [(0,.slice A0 x0.length c0),(1,iv x1),(4,.bool false),(5,iv p104)]∧St w u []) FUEL ⟨0,hM103,f.keep _ ⟨rfl,rfl,rfl,rfl,trivial⟩,S.sel [] rfl rfl⟩ ?_
  clear f S hM103;rintro m a u ⟨p104,hM103,f,S⟩
  rcases m with _ | f1
  ·exact none_some hM103
  rw [m_spec_l1Has_l1.eq_2] at hM103
  refine ws ?_
  revert a;refine sr (mv rfl rfl (mv rfl rfl (ov rfl (fun a f=>run_lenL rfl rfl Tryz.underlying30 (f.ev rfl)) (ov rfl (fun a f=>run_lss (f.ev rfl) (f.ev rfl) rfl) fun a f=>wn ?_))))
  cases hc105:(ltB p104 (x0.length:Int))
  ·replace hM103:=bif_f hc105 hM103
   refine cond_f f rfl hc105 ?_
   refine wp_exit ?_
   repeat with_reducible first|apply then_exit|apply in_hit|refine in_miss rfl ?_
   obtain rfl:=Option.some.inj hM103
   exact ⟨(),rfl,f.keep _ ⟨rfl,trivial⟩,S.sel [] rfl rfl⟩
  replace hM103:=bif_t hc105 hM103
  refine cond_t f rfl hc105 ?_
  refine wp_skip ?_
  refine ws ?_
  refine wp_block ?_
  revert a;refine sr (mv rfl rfl (mv rfl rfl fun a f=>?_))
  obtain ⟨hk106,hM103⟩:=chk_ex hM103
  replace hk106:=ixB_t hk106
  revert a;refine ov rfl (fun a f=>run_ix rfl Tryz.underlying30 sz3 (f.ev rfl) (S.rc0 h0.rc) (f.ev rfl) hk106) (ov rfl (fun a f=>run_load1 rfl one3 (f.ev rfl) (rd_el0 (l:=x0) (S.rc0 h0.rc).rd rfl eI_len 0 (ix_ltn hk106 rfl) rfl)) (mv rfl rfl (ov rfl (fun a f=>run_eql (f.ev rfl) (f.ev rfl) rfl) fun a f=>wn ?_)))
  cases hc107:((x0.getD p104.toNat 0)==x1)
  ·replace hM103:=bif_f hc107 hM103
   refine cond_f f rfl hc107 ?_
   refine wp_skip ?_
   revert a;refine rl (mv rfl rfl (ov rfl (fun a f=>run_add (z:=w64 (p104+1)) (f.ev rfl) rfl rfl rfl) (ag rfl rfl fun a f=>wn ?_)))
   exact ⟨f1,Nat.lt_succ_self _,w64 (p104+1),hM103,f.keep _ ⟨rfl,rfl,rfl,rfl,trivial⟩,S.sel [] rfl rfl⟩
  replace hM103:=bif_t hc107 hM103
  refine cond_t f rfl hc107 ?_
  revert a;refine sr (ov rfl (fun a f=>run_assign rfl rfl) fun a f=>wn ?_)
  refine wp_ret ?_
  repeat with_reducible first|apply tr|apply ir|apply nr
  refine ret1_gw (.inl rfl) f rfl (res_tmp (f.ev rfl)) ?_
  obtain rfl:=Option.some.inj hM103
  obtain rfl:=Option.some.inj hM
  exact ⟨rfl,S.sel [] rfl rfl⟩
 rintro a u ⟨p101,rfl,f,S⟩
 replace hM:=elim_l hM
 revert a;refine sr (ov rfl (fun a f=>run_assign rfl rfl) fun a f=>wn ?_)
 refine wp_ret ?_
 refine ret1_gw (.inl rfl) f rfl (res_tmp (f.ev rfl)) ?_
 obtain rfl:=Option.some.inj hM
 exact ⟨rfl,S.sel [] rfl rfl⟩
theorem c_spec_SameIsland {x0:Int} {x1:List (Int×Int×Int)} {x2:List Bool} {x3:Int} {x4:Int} {A1:Option Addr} {n1 c1:Nat} {A2:Option Addr} {n2 c2:Nat} {w:World} {r:Bool} (h1:Rt w 3 eLine A1 n1 c1 x1) (h2:Rt w 1 eB A2 n2 c2 x2) (hM : m_spec_SameIsland x0 x1 x2 x3 x4=some r) :
  Calls Tryz.prog 93 #[.agg #[iv x0,.slice A1 n1 c1],.slice A2 n2 c2,iv x3,iv x4] w (fun e w'=>e=.returned (.bool r)∧St w w' []):=by
 obtain rfl:=h1.len
 obtain rfl:=h2.len
 unfold m_spec_SameIsland at hM
 refine calls_gx Tryz.func93 Tryz.ntmps93 rfl rfl ?_
 intro a f
 have S:=St.nil w
 refine wsg ?_
 refine op_new (cs:=#[iv x0,.slice A1 x1.length c1]) rfl rfl f rfl S (run_box rfl (f.ev rfl) rfl) ?_;clear f S;intro a g101 u f S
 revert a;refine ov rfl (fun a f=>run_assign rfl rfl) fun a f=>wn ?_
 revert a;refine sr (ov rfl (fun a f=>run_loadN rfl ag37 (f.ev rfl) rfl ((S.free 0 rfl).cells 0 #[iv x0,.slice A1 x1.length c1] rfl)) (mv rfl rfl (mv rfl rfl fun a f=>?_)))
 obtain ⟨p102,h102,hM⟩:=bind_ex hM
 refine op_call rfl rfl f rfl (run_call (vs:=[_,_,_]) rfl rfl co127 ⟨(f.ev rfl),(f.ev rfl),(f.ev rfl),trivial⟩) (c_spec_Reached ⟨(S.rc0 h1.rc),rfl⟩ ⟨(S.rc0 h2.rc),rfl⟩ h102) ?_
 rintro e u ⟨B103,n104,d105,rfl,rfl,T⟩
 refine ⟨_,rfl,?_⟩
 clear f;intro a f
 replace S:=S.call1 T;clear T
 revert a;refine mv rfl rfl fun a f=>?_
 obtain ⟨p106,h106,hM⟩:=bind_ex hM
 refine op_call rfl rfl f rfl (run_call (vs:=[_,_]) rfl rfl co40 ⟨(f.ev rfl),(f.ev rfl),trivial⟩) (c_spec_l1Has ⟨(S.rc 0 rfl),rfl⟩ h106) ?_
 rintro e u ⟨rfl,T⟩
 refine ⟨_,rfl,?_⟩
 clear f;intro a f
 replace S:=S.call0 T;clear T
 revert a;refine ag rfl rfl fun a f=>wn ?_
 refine wp_ret ?_
 refine ret1_gw (.inl rfl) f rfl (res_tmp (f.ev rfl)) ?_
 obtain rfl:=Option.some.inj hM
 exact ⟨rfl,S.sel [] rfl rfl⟩
theorem c_spec_CycleLines {x0:Int} {x1:List (Int×Int×Int)} {x2:List Bool} {A1:Option Addr} {n1 c1:Nat} {A2:Option Addr} {n2 c2:Nat} {w:World} {r:List Int} (h1:Rt w 3 eLine A1 n1 c1 x1) (h2:Rt w 1 eB A2 n2 c2 x2) (hM : m_spec_CycleLines x0 x1 x2=some r) :
  Calls Tryz.prog 126 #[.agg #[iv x0,.slice A1 n1 c1],.slice A2 n2 c2] w (fun e w'=>∃ (B0:Option Addr) (N0 D0:Nat),e=.returned (.slice B0 N0 D0)∧N0=r.length∧St w w' [.row 3 1 (.slice B0 N0 D0) N0 (r.flatMap eI)]):=by
 obtain rfl:=h1.len
 obtain rfl:=h2.len
 unfold m_spec_CycleLines at hM
 refine calls_gx Tryz.func126 Tryz.ntmps126 rfl rfl ?_
 intro a f
 have S:=St.nil w
 refine wsg ?_
 refine op_new (cs:=#[iv x0,.slice A1 x1.length c1]) rfl rfl f rfl S (run_box rfl (f.ev rfl) rfl) ?_;clear f S;intro a g101 u f S
 revert a;refine ov rfl (fun a f=>run_assign rfl rfl) fun a f=>wn ?_
 refine wsg ?_
 refine op_newrow (cs:=#[]) (size:=1) rfl rfl f rfl S (run_buildSlice0 rfl Tryz.underlying30 (congrArg Option.isSome sz3)) rfl (Nat.zero_le _) ?_;clear f S;intro a g102 u f S
 revert a;refine ag rfl rfl fun a f=>wn ?_
 refine ws ?_
 revert a;refine sr (ov rfl (fun a f=>run_assign rfl rfl) fun a f=>wn ?_)
 obtain ⟨o104,hM107,hM⟩:=bind_ex hM
 refine wp_cut (fun a u=>∃ (p103:List Int) (B105:Option Addr) (d106:Nat),p103=o104∧Fr a 54 [(4,.slice none 0 0),(5,.slice B105 p103.length d106)]∧St w u [.row 3 1 (.slice B105 p103.length d106) p103.length (p103.flatMap eI)]) ?_ ?_
 ·have _:=trivial
  refine wp_block ?_
  refine loop_gw (fun m a u=>∃ (p108:List Int×Int) (B109:Option Addr) (d110:Nat),m_spec_CycleLines_l1 x0 x1 x2 m p108=some _∧Fr a 54 [(1,.slice A2 x2.length c2),(2,.pointer (some ⟨g101,0,none⟩)),(4,.slice none 0 0),(5,.slice B109 p108.1.length d110),(6,iv p108.2)]∧St w u [.box g101 37 #[iv x0,.slice A1 x1.length c1],.row 3 1 (.slice B109 p108.1.length d110) p108.1.length (p108.1.flatMap eI)]) FUEL ⟨(([]:List Int),0),(some ⟨g102,0,none⟩),0,hM107,f.keep _ ⟨rfl,rfl,rfl,rfl,rfl,trivial⟩,S.sel [1,0] rfl rfl⟩ ?_
  clear f S hM107;rintro m a u ⟨p108,B109,d110,hM107,f,S⟩
  rcases m with _ | f1
  ·exact none_some hM107
  rw [m_spec_CycleLines_l1.eq_2] at hM107
  refine ws ?_
  revert a;refine sr (mv rfl rfl (mv rfl rfl (ov rfl (fun a f=>run_lenL rfl rfl Tryz.underlying26 (f.ev rfl)) (ov rfl (fun a f=>run_lss (f.ev rfl) (f.ev rfl) rfl) (mv rfl rfl fun a f=>?_)))))
  revert a;refine gt rfl rfl rfl rfl (fun a f hg=>run_loadN rfl ag37 (f.ev rfl) rfl ((S.free 0 rfl).cells 0 #[iv x0,.slice A1 x1.length c1] rfl)) (gt rfl rfl rfl rfl (fun a f hg=>run_move rfl (f.ev rfl)) fun a f=>?_)
  obtain ⟨p111,h111,hM107⟩:=bind_ex hM107
  refine op_gcall (v:=.bool p111) rfl rfl f rfl S (yt (gw_yield f rfl rfl rfl)) (fun hg=>(run_call (vs:=[.agg #[iv x0,.slice A1 x1.length c1],.slice A2 x2.length c2]) rfl rfl co125 ⟨((f.ev rfl).trans (gv_t hg)),((f.ev rfl).trans (gv_t hg)),trivial⟩)) (fun hg=>c_spec_StateValid (x0:=x0) (x1:=x1) (x2:=x2) ⟨(S.rc0 h1.rc),rfl⟩ ⟨(S.rc0 h2.rc),rfl⟩ (gb_t h111 hg)) ?_;clear f S;intro a u f S
  revert a;refine ov rfl (fun a f=>run_pick_and rfl (f.ev rfl) (fun hp=>((f.ev rfl).trans (gv_t hp))) rfl) fun a f=>wn ?_
  cases hc112:((ltB p108.2 (x2.length:Int))&&p111)
  ·replace hM107:=bif_f hc112 hM107
   refine cond_f f rfl hc112 ?_
   refine wp_exit ?_
   repeat with_reducible first|apply then_exit|apply in_hit|refine in_miss rfl ?_
   obtain rfl:=Option.some.inj hM107
   exact ⟨p108.1,B109,d110,rfl,f.keep _ ⟨rfl,rfl,trivial⟩,S.sel [1] rfl rfl⟩
  replace hM107:=bif_t hc112 hM107
  refine cond_t f rfl hc112 ?_
  refine wp_skip ?_
  refine ws ?_
  refine wp_block ?_
  revert a;refine sr (ov rfl (fun a f=>run_loadN rfl ag37 (f.ev rfl) rfl ((S.free 0 rfl).cells 0 #[iv x0,.slice A1 x1.length c1] rfl)) (mv rfl rfl (mv rfl rfl fun a f=>?_)))
  obtain ⟨p113,h113,hM107⟩:=bind_ex hM107
  refine op_call rfl rfl f rfl (run_call (vs:=[_,_,_,_]) rfl rfl co145 ⟨(f.ev rfl),(f.ev rfl),(f.ev rfl),rfl,trivial⟩) (c_spec_SwitchLine ⟨(S.rc0 h1.rc),rfl⟩ ⟨(S.rc0 h2.rc),rfl⟩ h113) ?_
  rintro e u ⟨B114,n115,d116,rfl,rfl,T⟩
  refine ⟨_,rfl,?_⟩
  clear f;intro a f
  replace S:=S.call1 T;clear T
  revert a;refine mv rfl rfl (ov rfl (fun a f=>run_extract rfl (f.ev rfl) rfl) (ov rfl (fun a f=>run_extract rfl (f.ev rfl) rfl) (ag rfl rfl (ag rfl rfl fun a f=>wn ?_))))
  refine ws ?_
  obtain ⟨hk117,hM107⟩:=chk_ex hM107
  replace hk117:=ixB_t hk117
  obtain ⟨hk118,hM107⟩:=chk_ex hM107
  replace hk118:=fun hg=>ixB_t (imp_t hk118 hg)
  obtain ⟨hk119,hM107⟩:=chk_ex hM107
  replace hk119:=fun hg=>ixB_t (imp_t hk119 hg)
  obtain ⟨p120,h120,hM107⟩:=bind_ex hM107
  refine region_gw (D:=[28,29,30,31,32,33,34,35,36,37,38,39,40,41,42,43,44,45,46,47,48]) (Lr:=[.row 4 1 (.slice B114 p113.1.length d116) p113.1.length (p113.1.flatMap eB),.box g101 37 #[iv x0,.slice A1 x1.length c1],.row 3 1 (.slice B109 p108.1.length d110) p108.1.length (p108.1.flatMap eI)]) (deps:=(fun | 0=>[28] | 1=>[29] | 2=>[30] | 3=>[31] | 4=>[32] | 5=>[33] | 6=>[34] | 7=>[35] | 8=>[36] | 9=>[37] | 10=>[38] | 11=>[39] | 12=>[40] | 13=>[41] | 14=>[42] | 15=>[43] | 16=>[44] | 17=>[45] | 18=>[46] | 19=>[47] | 20=>[48] | _=>[])) (rd:=(fun _=>[])) (zr:=(fun _=>[]))
   (φ:=fun i vs=>match i,vs with | 0,[v28]=>v28=.slice A2 x2.length c2 | 1,[v29]=>v29=iv p108.2 | 2,[v30]=>v30=.pointer (some ⟨adB A2,adO A2+p108.2.toNat*1,none⟩) | 3,[v31]=>v31=.bool (x2.getD p108.2.toNat false) | 4,[v32]=>v32=.bool (x2.getD p108.2.toNat false) | 5,[v33]=>v33=gv (x2.getD p108.2.toNat false) (.agg #[iv x0,.slice A1 x1.length c1]) | 6,[v34]=>v34=gv (x2.getD p108.2.toNat false) (.slice B114 p113.1.length d116) | 7,[v35]=>v35=gv (x2.getD p108.2.toNat false) (.pointer (some ⟨g101,1,none⟩)) | 8,[v36]=>v36=gv (x2.getD p108.2.toNat false) (.slice A1 x1.length c1) | 9,[v37]=>v37=gv (x2.getD p108.2.toNat false) (iv p108.2) | 10,[v38]=>v38=gv (x2.getD p108.2.toNat false) (.pointer (some ⟨adB A1,adO A1+p108.2.toNat*3,none⟩)) | 11,[v39]=>v39=gv (x2.getD p108.2.toNat false) (.pointer (some ⟨adB A1,adO A1+p108.2.toNat*3,none⟩)) | 12,[v40]=>v40=gv (x2.getD p108.2.toNat false) (iv ((x1.getD p108.2.toNat (0,0,0)).1)) | 13,[v41]=>v41=gv (x2.getD p108.2.toNat false) (.pointer (some ⟨g101,1,none⟩)) | 14,[v42]=>v42=gv (x2.getD p108.2.toNat false) (.slice A1 x1.length c1) | 15,[v43]=>v43=gv (x2.getD p108.2.toNat false) (iv p108.2) | 16,[v44]=>v44=gv (x2.getD p108.2.toNat false) (.pointer (some ⟨adB A1,adO A1+p108.2.toNat*3,none⟩)) | 17,[v45]=>v45=gv (x2.getD p108.2.toNat false) (.pointer (some ⟨adB A1,adO A1+p108.2.toNat*3+1,none⟩)) | 18,[v46]=>v46=gv (x2.getD p108.2.toNat false) (iv ((x1.getD p108.2.toNat (0,0,0)).2.1)) | 19,[v47]=>v47=gv (x2.getD p108.2.toNat false) (.bool p120) | 20,[v48]=>v48=.bool ((x2.getD p108.2.toNat false)&&p120) | _,_=>True)
   (C:=fun _ _=>[])
   (κ:=(fun _=>none)) (Z:=(fun _=>[])) mixed f (by kernel_rfl) S ?_ ?_
  ·refine ⟨?_,?_,?_,?_,?_,?_,?_,?_,?_,?_,?_,?_,?_,?_,?_,?_,?_,?_,?_,?_,?_,trivial⟩
   ·intro a u X hB hu p hr hz hl S
    exact .inl ⟨rfl,_,u,(run_move rfl (f.evB hB rfl rfl)),rfl,S⟩
   ·intro a u X hB hu p hr hz hl S
    exact .inl ⟨rfl,_,u,(run_move rfl (f.evB hB rfl rfl)),rfl,S⟩
   ·intro a u X hB hu p hr hz hl S
    exact .inl ⟨rfl,_,u,(run_ix rfl Tryz.underlying26 sz4 (ev_sl (p 0 rfl)) (S.rc0 h2.rc) (ev_sl (p 1 rfl)) hk117),rfl,S⟩
   ·intro a u X hB hu p hr hz hl S
    exact .inl ⟨rfl,_,u,(run_load1 rfl one4 (ev_sl (p 2 rfl)) (rd_el0 (l:=x2) (S.rc0 h2.rc).rd rfl eB_len false (ix_ltn hk117 rfl) rfl)),rfl,S⟩
   ·intro a u X hB hu p hr hz hl S
    exact .inl ⟨rfl,_,u,(run_move rfl (ev_sl (p 3 rfl))),rfl,S⟩
   ·intro a u X hB hu p hr hz hl S
    exact gyt rfl rfl rfl (p 4 rfl) (fun hg=>⟨(gv_f hg).symm,S⟩) fun hg=>⟨_,u,(run_loadN rfl ag37 (f.evB hB rfl rfl) rfl ((gr_box S hl 1 rfl).cells 0 #[iv x0,.slice A1 x1.length c1] rfl)),(gv_t hg).symm,S⟩
   ·intro a u X hB hu p hr hz hl S
    exact gyt rfl rfl rfl (p 4 rfl) (fun hg=>⟨(gv_f hg).symm,S⟩) fun hg=>⟨_,u,(run_move rfl (f.evB hB rfl rfl)),(gv_t hg).symm,S⟩
   ·intro a u X hB hu p hr hz hl S
    exact gyt rfl rfl rfl (p 4 rfl) (fun hg=>⟨(gv_f hg).symm,S⟩) fun hg=>⟨_,u,(run_fieldAddr rfl fl37_1 (f.evB hB rfl rfl) rfl),(gv_t hg).symm,S⟩
   ·intro a u X hB hu p hr hz hl S
    exact gyt rfl rfl rfl (p 4 rfl) (fun hg=>⟨(gv_f hg).symm,S⟩) fun hg=>⟨_,u,(run_load1 rfl one35 ((ev_sl (p 7 rfl)).trans (gv_t hg)) ((gr_box S hl 1 rfl).cell rfl)),(gv_t hg).symm,S⟩
   ·intro a u X hB hu p hr hz hl S
    exact gyt rfl rfl rfl (p 4 rfl) (fun hg=>⟨(gv_f hg).symm,S⟩) fun hg=>⟨_,u,(run_move rfl (f.evB hB rfl rfl)),(gv_t hg).symm,S⟩
   ·intro a u X hB hu p hr hz hl S
    exact gyt rfl rfl rfl (p 4 rfl) (fun hg=>⟨(gv_f hg).symm,S⟩) fun hg=>⟨_,u,(run_indexAddr (b:=adB A1) (off:=adO A1) rfl Tryz.underlying35 sz130 (((ev_sl (p 8 rfl)).trans (gv_t hg)).trans (congrArg (fun A=>Value.slice A x1.length c1) ((S.rc0 h1.rc).rd.ad (ix_pos (hk118 hg))))) ((ev_sl (p 9 rfl)).trans (gv_t hg)) (hk118 hg).1 (hk118 hg).2 (k':=adO A1+p108.2.toNat*3) rfl),(gv_t hg).symm,S⟩
   ·intro a u X hB hu p hr hz hl S
    exact gyt rfl rfl rfl (p 4 rfl) (fun hg=>⟨(gv_f hg).symm,S⟩) fun hg=>⟨_,u,(run_fieldAddr rfl fl130_0 ((ev_sl (p 10 rfl)).trans (gv_t hg)) rfl),(gv_t hg).symm,S⟩
   ·intro a u X hB hu p hr hz hl S
    exact gyt rfl rfl rfl (p 4 rfl) (fun hg=>⟨(gv_f hg).symm,S⟩) fun hg=>⟨_,u,(run_load1 rfl one3 ((ev_sl (p 11 rfl)).trans (gv_t hg)) (rd_el0 (l:=x1) (S.rc0 h1.rc).rd rfl eLine_len (0,0,0) (ix_ltn (hk118 hg) rfl) rfl)),(gv_t hg).symm,S⟩
   ·intro a u X hB hu p hr hz hl S
    exact gyt rfl rfl rfl (p 4 rfl) (fun hg=>⟨(gv_f hg).symm,S⟩) fun hg=>⟨_,u,(run_fieldAddr rfl fl37_1 (f.evB hB rfl rfl) rfl),(gv_t hg).symm,S⟩
   ·intro a u X hB hu p hr hz hl S
    exact gyt rfl rfl rfl (p 4 rfl) (fun hg=>⟨(gv_f hg).symm,S⟩) fun hg=>⟨_,u,(run_load1 rfl one35 ((ev_sl (p 13 rfl)).trans (gv_t hg)) ((gr_box S hl 1 rfl).cell rfl)),(gv_t hg).symm,S⟩
   ·intro a u X hB hu p hr hz hl S
    exact gyt rfl rfl rfl (p 4 rfl) (fun hg=>⟨(gv_f hg).symm,S⟩) fun hg=>⟨_,u,(run_move rfl (f.evB hB rfl rfl)),(gv_t hg).symm,S⟩
   ·intro a u X hB hu p hr hz hl S
    exact gyt rfl rfl rfl (p 4 rfl) (fun hg=>⟨(gv_f hg).symm,S⟩) fun hg=>⟨_,u,(run_indexAddr (b:=adB A1) (off:=adO A1) rfl Tryz.underlying35 sz130 (((ev_sl (p 14 rfl)).trans (gv_t hg)).trans (congrArg (fun A=>Value.slice A x1.length c1) ((S.rc0 h1.rc).rd.ad (ix_pos (hk119 hg))))) ((ev_sl (p 15 rfl)).trans (gv_t hg)) (hk119 hg).1 (hk119 hg).2 (k':=adO A1+p108.2.toNat*3) rfl),(gv_t hg).symm,S⟩
   ·intro a u X hB hu p hr hz hl S
    exact gyt rfl rfl rfl (p 4 rfl) (fun hg=>⟨(gv_f hg).symm,S⟩) fun hg=>⟨_,u,(run_fieldAddr rfl fl130_1 ((ev_sl (p 16 rfl)).trans (gv_t hg)) rfl),(gv_t hg).symm,S⟩
   ·intro a u X hB hu p hr hz hl S
    exact gyt rfl rfl rfl (p 4 rfl) (fun hg=>⟨(gv_f hg).symm,S⟩) fun hg=>⟨_,u,(run_load1 rfl one3 ((ev_sl (p 17 rfl)).trans (gv_t hg)) (rd_el (l:=x1) (S.rc0 h1.rc).rd rfl eLine_len (0,0,0) (ix_ltn (hk119 hg) rfl) rfl)),(gv_t hg).symm,S⟩
   ·intro a u X hB hu p hr hz hl S
    rcases bb (x2.getD p108.2.toNat false) with hg | hg
    ·exact .inr (.inr (.inr ⟨gr_eg rfl (yt (gr_yield rfl rfl (p 4 rfl))) hg,(gv_f hg).symm,S⟩))
    refine .inr (.inr (.inl ⟨gr_eg rfl (yt (gr_yield rfl rfl (p 4 rfl))) hg,_,_,(run_call (vs:=[.agg #[iv x0,.slice A1 x1.length c1],.slice B114 p113.1.length d116,iv ((x1.getD p108.2.toNat (0,0,0)).1),iv ((x1.getD p108.2.toNat (0,0,0)).2.1)]) rfl rfl co93 ⟨((ev_sl (p 5 rfl)).trans (gv_t hg)),((ev_sl (p 6 rfl)).trans (gv_t hg)),((ev_sl (p 12 rfl)).trans (gv_t hg)),((ev_sl (p 18 rfl)).trans (gv_t hg)),trivial⟩),?_⟩))
    refine Calls.mono (c_spec_SameIsland (x0:=x0) (x1:=x1) (x2:=p113.1) (x3:=(x1.getD p108.2.toNat (0,0,0)).1) (x4:=(x1.getD p108.2.toNat (0,0,0)).2.1) ⟨(S.rc0 h1.rc),rfl⟩ ⟨(gr_rc S hl 0 rfl),rfl⟩ (gb_t h120 hg)) ?_
    rintro e w1 ⟨rfl,T⟩
    exact ⟨_,rfl,(gv_t hg).symm,S.call0 T⟩
   intro a u X hB hu p hr hz hl S
   exact .inl ⟨rfl,_,u,(run_pick_and rfl (ev_sl (p 4 rfl)) (fun hp=>((ev_sl (p 19 rfl)).trans (gv_t hp))) (ev_const _ _)),rfl,S⟩
  intro a u hB hp S
  obtain ⟨q0,q1,q2,q3,q4,q5,q6,q7,q8,q9,q10,q11,q12,q13,q14,q15,q16,q17,q18,q19,q20,-⟩:=hp
  replace S:St w u [.row 4 1 (.slice B114 p113.1.length d116) p113.1.length (p113.1.flatMap eB),.box g101 37 #[iv x0,.slice A1 x1.length c1],.row 3 1 (.slice B109 p108.1.length d110) p108.1.length (p108.1.flatMap eI)]:=S
  have f:=f.region hB [(28,_),(29,_),(30,_),(31,_),(32,_),(33,_),(34,_),(35,_),(36,_),(37,_),(38,_),(39,_),(40,_),(41,_),(42,_),(43,_),(44,_),(45,_),(46,_),(47,_),(48,_)] (allSl_mem ⟨q0,q1,q2,q3,q4,q5,q6,q7,q8,q9,q10,q11,q12,q13,q14,q15,q16,q17,q18,q19,q20,trivial⟩) rfl
  clear hB q0 q1 q2 q3 q4 q5 q6 q7 q8 q9 q10 q11 q12 q13 q14 q15 q16 q17 q18 q19 q20
  obtain ⟨o122,hM125,hM107⟩:=bind_ex hM107
  refine wp_cut (fun a u=>∃ (p121:List Int) (B123:Option Addr) (d124:Nat),p121=o122∧Fr a 54 [(1,.slice A2 x2.length c2),(2,.pointer (some ⟨g101,0,none⟩)),(4,.slice none 0 0),(5,.slice B123 p121.length d124),(6,iv p108.2)]∧St w u [.box g101 37 #[iv x0,.slice A1 x1.length c1],.row 3 1 (.slice B123 p121.length d124) p121.length (p121.flatMap eI)]) ?_ ?_
  ·have _:=trivial
   cases hc126:((x2.getD p108.2.toNat false)&&p120)
   ·replace hM125:=bif_f hc126 hM125
    refine cond_f f rfl hc126 ?_
    refine wp_skip ?_
    obtain rfl:=Option.some.inj hM125
    exact ⟨p108.1,B109,d110,rfl,f.keep _ ⟨rfl,rfl,rfl,rfl,rfl,trivial⟩,S.sel [1,2] rfl rfl⟩
   replace hM125:=bif_t hc126 hM125
   refine cond_t f rfl hc126 ?_
   revert a;refine rl (mv rfl rfl (mv rfl rfl fun a f=>?_))
   refine op_newrowL (ls:=(([p108.2]:List Int):List Int)) (e:=eI) rfl rfl f rfl S (run_buildS (vs:=[(0,iv p108.2)]) rfl ⟨⟨rfl,(f.ev rfl)⟩,trivial⟩ (bs30_1_0 rfl)) rfl eI_len (Nat.le_of_ble_eq_true rfl) ?_;clear f S;intro a g127 u f S
   obtain ⟨hk130,hM125⟩:=chk_ex hM125
   replace hk130:=apB_t hk130
   refine op_appendL (lx:=p108.1) (ly:=([p108.2]:List Int)) rfl rfl f rfl S rfl (f.ev rfl) (f.ev rfl) (i:=3) rfl rfl Tryz.underlying30 inf3 rfl (by decide) (S.rc 0 rfl).rd rfl eI_one hk130 (by decide) ?_;clear f S;intro a B128 d129 u f S
   revert a;refine ag rfl rfl fun a f=>wn ?_
   obtain rfl:=Option.some.inj hM125
   exact ⟨p108.1++([p108.2]:List Int),B128,d129,rfl,f.keep _ ⟨rfl,rfl,rfl,rfl,rfl,trivial⟩,S.sel [2,3] rfl rfl⟩
  rintro a u ⟨p121,B123,d124,rfl,f,S⟩
  revert a;refine rl (mv rfl rfl (ov rfl (fun a f=>run_add (z:=w64 (p108.2+1)) (f.ev rfl) rfl rfl rfl) (ag rfl rfl fun a f=>wn ?_)))
  exact ⟨f1,Nat.lt_succ_self _,(p121,w64 (p108.2+1)),B123,d124,hM107,f.keep _ ⟨rfl,rfl,rfl,rfl,rfl,trivial⟩,S.sel [0,1] rfl rfl⟩
 rintro a u ⟨p103,B105,d106,rfl,f,S⟩
 revert a;refine sr (mv rfl rfl (ag rfl rfl fun a f=>wn ?_))
 refine wp_ret ?_
 refine ret1_gw (.inl rfl) f rfl (res_tmp (f.ev rfl)) ?_
 obtain rfl:=Option.some.inj hM
 exact ⟨B105,p103.length,d106,rfl,rfl,S.sel [0] rfl rfl⟩
theorem c_spec_HasCycle {x0:Int} {x1:List (Int×Int×Int)} {x2:List Bool} {A1:Option Addr} {n1 c1:Nat} {A2:Option Addr} {n2 c2:Nat} {w:World} {r:Bool} (h1:Rt w 3 eLine A1 n1 c1 x1) (h2:Rt w 1 eB A2 n2 c2 x2) (hM : m_spec_HasCycle x0 x1 x2=some r) :
  Calls Tryz.prog 92 #[.agg #[iv x0,.slice A1 n1 c1],.slice A2 n2 c2] w (fun e w'=>e=.returned (.bool r)∧St w w' []):=by
 obtain rfl:=h1.len
 obtain rfl:=h2.len
 unfold m_spec_HasCycle at hM
 refine calls_gx Tryz.func92 Tryz.ntmps92 rfl rfl ?_
 intro a f
 have S:=St.nil w
 refine wsg ?_
 refine op_new (cs:=#[iv x0,.slice A1 x1.length c1]) rfl rfl f rfl S (run_box rfl (f.ev rfl) rfl) ?_;clear f S;intro a g101 u f S
 revert a;refine ov rfl (fun a f=>run_assign rfl rfl) fun a f=>wn ?_
 revert a;refine sr (ov rfl (fun a f=>run_loadN rfl ag37 (f.ev rfl) rfl ((S.free 0 rfl).cells 0 #[iv x0,.slice A1 x1.length c1] rfl)) (mv rfl rfl fun a f=>?_))
 obtain ⟨p102,h102,hM⟩:=bind_ex hM
 refine op_call rfl rfl f rfl (run_call (vs:=[_,_]) rfl rfl co126 ⟨(f.ev rfl),(f.ev rfl),trivial⟩) (c_spec_CycleLines ⟨(S.rc0 h1.rc),rfl⟩ ⟨(S.rc0 h2.rc),rfl⟩ h102) ?_
 rintro e u ⟨B103,n104,d105,rfl,rfl,T⟩
 refine ⟨_,rfl,?_⟩
 clear f;intro a f
 replace S:=S.call1 T;clear T
 revert a;refine ov rfl (fun a f=>run_lenL rfl rfl Tryz.underlying30 (f.ev rfl)) (ov rfl (fun a f=>run_gtr (f.ev rfl) rfl rfl) (ag rfl rfl fun a f=>wn ?_))
 refine wp_ret ?_
 refine ret1_gw (.inl rfl) f rfl (res_tmp (f.ev rfl)) ?_
 obtain rfl:=Option.some.inj hM
 exact ⟨rfl,S.sel [] rfl rfl⟩
theorem c_spec_Radial {x0:Int} {x1:List (Int×Int×Int)} {x2:List Bool} {x3:List (Int×Int)} {A1:Option Addr} {n1 c1:Nat} {A2:Option Addr} {n2 c2:Nat} {A3:Option Addr} {n3 c3:Nat} {w:World} {r:Bool} (h1:Rt w 3 eLine A1 n1 c1 x1) (h2:Rt w 1 eB A2 n2 c2 x2) (h3:Rt w 2 eBus A3 n3 c3 x3) (hM : m_spec_Radial x0 x1 x2 x3=some r) :
  Calls Tryz.prog 57 #[.agg #[iv x0,.slice A1 n1 c1],.slice A2 n2 c2,.slice A3 n3 c3] w (fun e w'=>e=.returned (.bool r)∧St w w' []):=by
 obtain rfl:=h1.len
 obtain rfl:=h2.len
 obtain rfl:=h3.len
 unfold m_spec_Radial at hM
 refine calls_gx Tryz.func57 Tryz.ntmps57 rfl rfl ?_
 intro a f
 have S:=St.nil w
 refine wsg ?_
 refine op_new (cs:=#[iv x0,.slice A1 x1.length c1]) rfl rfl f rfl S (run_box rfl (f.ev rfl) rfl) ?_;clear f S;intro a g101 u f S
 revert a;refine ov rfl (fun a f=>run_assign rfl rfl) fun a f=>wn ?_
 refine ws ?_
 revert a;refine sr (ov rfl (fun a f=>run_loadN rfl ag37 (f.ev rfl) rfl ((S.free 0 rfl).cells 0 #[iv x0,.slice A1 x1.length c1] rfl)) (mv rfl rfl (mv rfl rfl fun a f=>?_)))
 obtain ⟨p102,h102,hM⟩:=bind_ex hM
 refine op_call rfl rfl f rfl (run_call (vs:=[_,_,_]) rfl rfl co91 ⟨(f.ev rfl),(f.ev rfl),(f.ev rfl),trivial⟩) (c_spec_l5Ok ⟨(S.rc0 h1.rc),rfl⟩ ⟨(S.rc0 h2.rc),rfl⟩ ⟨(S.rc0 h3.rc),rfl⟩ h102) ?_
 rintro e u ⟨rfl,T⟩
 refine ⟨_,rfl,?_⟩
 clear f;intro a f
 replace S:=S.call0 T;clear T
 revert a;refine ov rfl (fun a f=>run_not rfl (f.ev rfl)) (mv rfl rfl fun a f=>?_)
 revert a;refine gf rfl rfl rfl rfl (fun a f hg=>run_loadN rfl ag37 (f.ev rfl) rfl ((S.free 0 rfl).cells 0 #[iv x0,.slice A1 x1.length c1] rfl)) (gf rfl rfl rfl rfl (fun a f hg=>run_move rfl (f.ev rfl)) fun a f=>?_)
 obtain ⟨p103,h103,hM⟩:=bind_ex hM
 refine op_gcall (v:=.bool p103) rfl rfl f rfl S (yf (gw_yield f rfl rfl rfl)) (fun hg=>(run_call (vs:=[.agg #[iv x0,.slice A1 x1.length c1],.slice A2 x2.length c2]) rfl rfl co92 ⟨((f.ev rfl).trans (gv_t hg)),((f.ev rfl).trans (gv_t hg)),trivial⟩)) (fun hg=>c_spec_HasCycle (x0:=x0) (x1:=x1) (x2:=x2) ⟨(S.rc0 h1.rc),rfl⟩ ⟨(S.rc0 h2.rc),rfl⟩ (gb_t h103 hg)) ?_;clear f S;intro a u f S
 revert a;refine ov rfl (fun a f=>run_pick_or rfl (f.ev rfl) rfl (fun hp=>((f.ev rfl).trans (gv_t (not_t hp))))) fun a f=>wn ?_
 cases hc104:((!p102)||p103)
 ·replace hM:=bif_f hc104 hM
  refine cond_f f rfl hc104 ?_
  refine wp_skip ?_
  refine ws ?_
  revert a;refine sr (ov rfl (fun a f=>run_assign rfl rfl) fun a f=>wn ?_)
  obtain ⟨o106,hM107,hM⟩:=bind_ex hM
  refine wp_cut (fun a u=>∃ (p105:Unit),(Sum.inl p105)=o106∧Fr a 51 [(6,.bool false)]∧St w u []) ?_ ?_
  ·have _:=trivial
   refine wp_block ?_
   refine loop_gw (fun m a u=>∃ (p108:Int),m_spec_Radial_l1 x0 x1 x2 x3 m p108=some _∧Fr a 51 [(1,.slice A2 x2.length c2),(2,.slice A3 x3.length c3),(3,.pointer (some ⟨g101,0,none⟩)),(6,.bool false),(7,iv p108)]∧St w u [.box g101 37 #[iv x0,.slice A1 x1.length c1]]) FUEL ⟨0,hM107,f.keep _ ⟨rfl,rfl,rfl,rfl,rfl,trivial⟩,S.sel [0] rfl rfl⟩ ?_
   clear f S hM107;rintro m a u ⟨p108,hM107,f,S⟩
   rcases m with _ | f1
   ·exact none_some hM107
   rw [m_spec_Radial_l1.eq_2] at hM107
   refine ws ?_
   revert a;refine sr (mv rfl rfl (ov rfl (fun a f=>run_fieldAddr rfl fl37_0 (f.ev rfl) rfl) (ov rfl (fun a f=>run_load1 rfl one3 (f.ev rfl) (S.cell 0 rfl rfl)) (ov rfl (fun a f=>run_lss (f.ev rfl) (f.ev rfl) rfl) fun a f=>wn ?_))))
   cases hc109:(ltB p108 x0)
   ·replace hM107:=bif_f hc109 hM107
    refine cond_f f rfl hc109 ?_
    refine wp_exit ?_
    repeat with_reducible first|apply then_exit|apply in_hit|refine in_miss rfl ?_
    obtain rfl:=Option.some.inj hM107
    exact ⟨(),rfl,f.keep _ ⟨rfl,trivial⟩,S.sel [] rfl rfl⟩
   replace hM107:=bif_t hc109 hM107
   refine cond_t f rfl hc109 ?_
   refine wp_skip ?_
   refine ws ?_
   refine wp_block ?_
   revert a;refine sr (ov rfl (fun a f=>run_assign rfl rfl) fun a f=>wn ?_)
   obtain ⟨o111,hM112,hM107⟩:=bind_ex hM107
   refine wp_cut (fun a u=>∃ (p110:Unit),(Sum.inl p110)=o111∧Fr a 51 [(1,.slice A2 x2.length c2),(2,.slice A3 x3.length c3),(3,.pointer (some ⟨g101,0,none⟩)),(6,.bool false),(7,iv p108)]∧St w u [.box g101 37 #[iv x0,.slice A1 x1.length c1]]) ?_ ?_
   ·have _:=trivial
    refine wp_block ?_
    refine loop_gw (fun m a u=>∃ (p113:Int),m_spec_Radial_l2 x0 x1 x2 x3 p108 m p113=some _∧Fr a 51 [(1,.slice A2 x2.length c2),(2,.slice A3 x3.length c3),(3,.pointer (some ⟨g101,0,none⟩)),(6,.bool false),(7,iv p108),(8,iv p113)]∧St w u [.box g101 37 #[iv x0,.slice A1 x1.length c1]]) FUEL ⟨0,hM112,f.keep _ ⟨rfl,rfl,rfl,rfl,rfl,rfl,trivial⟩,S.sel [0] rfl rfl⟩ ?_
    clear f S hM112;rintro m a u ⟨p113,hM112,f,S⟩
    rcases m with _ | f2
    ·exact none_some hM112
    rw [m_spec_Radial_l2.eq_2] at hM112
    refine ws ?_
    revert a;refine sr (mv rfl rfl (mv rfl rfl (ov rfl (fun a f=>run_lss (f.ev rfl) (f.ev rfl) rfl) fun a f=>wn ?_)))
    cases hc114:(ltB p113 p108)
    ·replace hM112:=bif_f hc114 hM112
     refine cond_f f rfl hc114 ?_
     refine wp_exit ?_
     repeat with_reducible first|apply then_exit|apply in_hit|refine in_miss rfl ?_
     obtain rfl:=Option.some.inj hM112
     exact ⟨(),rfl,f.keep _ ⟨rfl,rfl,rfl,rfl,rfl,trivial⟩,S.sel [0] rfl rfl⟩
    replace hM112:=bif_t hc114 hM112
    refine cond_t f rfl hc114 ?_
    refine wp_skip ?_
    refine ws ?_
    refine wp_block ?_
    revert a;refine sr (mv rfl rfl (mv rfl rfl fun a f=>?_))
    obtain ⟨hk115,hM112⟩:=chk_ex hM112
    replace hk115:=ixB_t hk115
    revert a;refine ov rfl (fun a f=>run_ix rfl Tryz.underlying38 sz110 (f.ev rfl) (S.rc0 h3.rc) (f.ev rfl) hk115) (ov rfl (fun a f=>run_fieldAddr rfl fl110_0 (f.ev rfl) rfl) (ov rfl (fun a f=>run_load1 rfl one3 (f.ev rfl) (rd_el0 (l:=x3) (S.rc0 h3.rc).rd rfl eBus_len (0,0) (ix_ltn hk115 rfl) rfl)) (ov rfl (fun a f=>run_gtr (f.ev rfl) rfl rfl) (mv rfl rfl fun a f=>?_))))
    revert a;refine gt rfl rfl rfl rfl (fun a f hg=>run_move rfl (f.ev rfl)) (gt rfl rfl rfl rfl (fun a f hg=>run_move rfl (f.ev rfl)) fun a f=>?_)
    obtain ⟨hk116,hM112⟩:=chk_ex hM112
    replace hk116:=fun hg=>ixB_t (imp_t hk116 hg)
    revert a;refine gt rfl rfl rfl rfl (fun a f hg=>run_ix rfl Tryz.underlying38 sz110 ((f.ev rfl).trans (gv_t hg)) (S.rc0 h3.rc) ((f.ev rfl).trans (gv_t hg)) (hk116 hg)) (gt rfl rfl rfl rfl (fun a f hg=>run_fieldAddr rfl fl110_0 ((f.ev rfl).trans (gv_t hg)) rfl) (gt rfl rfl rfl rfl (fun a f hg=>run_load1 rfl one3 ((f.ev rfl).trans (gv_t hg)) (rd_el0 (l:=x3) (S.rc0 h3.rc).rd rfl eBus_len (0,0) (ix_ltn (hk116 hg) rfl) rfl)) (gt rfl rfl rfl rfl (fun a f hg=>run_gtr ((f.ev rfl).trans (gv_t hg)) rfl rfl) fun a f=>?_)))
    revert a;refine ov rfl (fun a f=>run_pick_and rfl (f.ev rfl) (fun hp=>((f.ev rfl).trans (gv_t hp))) rfl) (mv rfl rfl fun a f=>?_)
    revert a;refine gt rfl rfl rfl rfl (fun a f hg=>run_loadN rfl ag37 (f.ev rfl) rfl ((S.free 0 rfl).cells 0 #[iv x0,.slice A1 x1.length c1] rfl)) (gt rfl rfl rfl rfl (fun a f hg=>run_move rfl (f.ev rfl)) (gt rfl rfl rfl rfl (fun a f hg=>run_move rfl (f.ev rfl)) (gt rfl rfl rfl rfl (fun a f hg=>run_move rfl (f.ev rfl)) fun a f=>?_)))
    obtain ⟨p117,h117,hM112⟩:=bind_ex hM112
    refine op_gcall (v:=.bool p117) rfl rfl f rfl S (yt (gw_yield f rfl rfl rfl)) (fun hg=>(run_call (vs:=[.agg #[iv x0,.slice A1 x1.length c1],.slice A2 x2.length c2,iv p113,iv p108]) rfl rfl co93 ⟨((f.ev rfl).trans (gv_t hg)),((f.ev rfl).trans (gv_t hg)),((f.ev rfl).trans (gv_t hg)),((f.ev rfl).trans (gv_t hg)),trivial⟩)) (fun hg=>c_spec_SameIsland (x0:=x0) (x1:=x1) (x2:=x2) (x3:=p113) (x4:=p108) ⟨(S.rc0 h1.rc),rfl⟩ ⟨(S.rc0 h2.rc),rfl⟩ (gb_t h117 hg)) ?_;clear f S;intro a u f S
    revert a;refine ov rfl (fun a f=>run_pick_and rfl (f.ev rfl) (fun hp=>((f.ev rfl).trans (gv_t hp))) rfl) fun a f=>wn ?_
    cases hc118:(((ltB 0 ((x3.getD p108.toNat (0,0)).1))&&(ltB 0 ((x3.getD p113.toNat (0,0)).1)))&&p117)
    ·replace hM112:=bif_f hc118 hM112
     refine cond_f f rfl hc118 ?_
     refine wp_skip ?_
     revert a;refine rl (mv rfl rfl (ov rfl (fun a f=>run_add (z:=w64 (p113+1)) (f.ev rfl) rfl rfl rfl) (ag rfl rfl fun a f=>wn ?_)))
     exact ⟨f2,Nat.lt_succ_self _,w64 (p113+1),hM112,f.keep _ ⟨rfl,rfl,rfl,rfl,rfl,rfl,trivial⟩,S.sel [0] rfl rfl⟩
    replace hM112:=bif_t hc118 hM112
    refine cond_t f rfl hc118 ?_
    revert a;refine sr (ov rfl (fun a f=>run_assign rfl rfl) fun a f=>wn ?_)
    refine wp_ret ?_
    repeat with_reducible first|apply tr|apply ir|apply nr
    refine ret1_gw (.inl rfl) f rfl (res_tmp (f.ev rfl)) ?_
    obtain rfl:=Option.some.inj hM112
    obtain rfl:=Option.some.inj hM107
    obtain rfl:=Option.some.inj hM
    exact ⟨rfl,S.sel [] rfl rfl⟩
   rintro a u ⟨p110,rfl,f,S⟩
   replace hM107:=elim_l hM107
   revert a;refine rl (mv rfl rfl (ov rfl (fun a f=>run_add (z:=w64 (p108+1)) (f.ev rfl) rfl rfl rfl) (ag rfl rfl fun a f=>wn ?_)))
   exact ⟨f1,Nat.lt_succ_self _,w64 (p108+1),hM107,f.keep _ ⟨rfl,rfl,rfl,rfl,rfl,trivial⟩,S.sel [0] rfl rfl⟩
  rintro a u ⟨p105,rfl,f,S⟩
  replace hM:=elim_l hM
  revert a;refine sr (ov rfl (fun a f=>run_assign rfl rfl) fun a f=>wn ?_)
  refine wp_ret ?_
  refine ret1_gw (.inl rfl) f rfl (res_tmp (f.ev rfl)) ?_
  obtain rfl:=Option.some.inj hM
  exact ⟨rfl,S.sel [] rfl rfl⟩
 replace hM:=bif_t hc104 hM
 refine cond_t f rfl hc104 ?_
 revert a;refine sr (ov rfl (fun a f=>run_assign rfl rfl) fun a f=>wn ?_)
 refine wp_ret ?_
 repeat with_reducible first|apply tr|apply ir|apply nr
 refine ret1_gw (.inl rfl) f rfl (res_tmp (f.ev rfl)) ?_
 obtain rfl:=Option.some.inj hM
 exact ⟨rfl,S.sel [] rfl rfl⟩
theorem c_spec_WorldValid {x0:Int} {x1:List (Int×Int×Int)} {x2:List (Int×Int)} {x3:List Bool} {x4:List Bool} {x5:List (Int×Int)} {x6:List Int} {A1:Option Addr} {n1 c1:Nat} {A2:Option Addr} {n2 c2:Nat} {A3:Option Addr} {n3 c3:Nat} {A4:Option Addr} {n4 c4:Nat} {A5:Option Addr} {n5 c5:Nat} {A6:Option Addr} {n6 c6:Nat} {w:World} {r:Bool} (h1:Rt w 3 eLine A1 n1 c1 x1) (h2:Rt w 2 eBus A2 n2 c2 x2) (h3:Rt w 1 eB A3 n3 c3 x3) (h4:Rt w 1 eB A4 n4 c4 x4) (h5:Rt w 2 ePermit A5 n5 c5 x5) (h6:Rt w 1 eI A6 n6 c6 x6) (hM : m_spec_WorldValid x0 x1 x2 x3 x4 x5 x6=some r) :
  Calls Tryz.prog 30 #[.agg #[iv x0,.slice A1 n1 c1,.slice A2 n2 c2,.slice A3 n3 c3,.slice A4 n4 c4,.slice A5 n5 c5,.slice A6 n6 c6]] w (fun e w'=>e=.returned (.bool r)∧St w w' []):=by
 obtain rfl:=h1.len
 obtain rfl:=h2.len
 obtain rfl:=h3.len
 obtain rfl:=h4.len
 obtain rfl:=h5.len
 obtain rfl:=h6.len
 unfold m_spec_WorldValid at hM
 refine calls_gx Tryz.func30 Tryz.ntmps30 rfl rfl ?_
 intro a f
 have S:=St.nil w
 refine wsg ?_
 refine op_new (cs:=#[iv x0,.slice A1 x1.length c1,.slice A2 x2.length c2,.slice A3 x3.length c3,.slice A4 x4.length c4,.slice A5 x5.length c5,.slice A6 x6.length c6]) rfl rfl f rfl S (run_box rfl (f.ev rfl) rfl) ?_;clear f S;intro a g101 u f S
 revert a;refine ov rfl (fun a f=>run_assign rfl rfl) fun a f=>wn ?_
 refine ws ?_
 revert a;refine sr (ov rfl (fun a f=>run_fieldAddr rfl fl43_0 (f.ev rfl) rfl) (ov rfl (fun a f=>run_loadN rfl ag37 (f.ev rfl) rfl ((S.free 0 rfl).cells 0 #[iv x0,.slice A1 x1.length c1] rfl)) (ov rfl (fun a f=>run_fieldAddr rfl fl43_1 (f.ev rfl) rfl) (ov rfl (fun a f=>run_load1 rfl one38 (f.ev rfl) (S.cell 0 rfl rfl)) fun a f=>?_))))
 obtain ⟨p102,h102,hM⟩:=bind_ex hM
 refine op_call rfl rfl f rfl (run_call (vs:=[_,_]) rfl rfl co68 ⟨(f.ev rfl),(f.ev rfl),trivial⟩) (c_spec_BusesValid ⟨(S.rc0 h1.rc),rfl⟩ ⟨(S.rc0 h2.rc),rfl⟩ h102) ?_
 rintro e u ⟨rfl,T⟩
 refine ⟨_,rfl,?_⟩
 clear f;intro a f
 replace S:=S.call0 T;clear T
 revert a;refine ov rfl (fun a f=>run_not rfl (f.ev rfl)) (mv rfl rfl fun a f=>?_)
 revert a;refine gf rfl rfl rfl rfl (fun a f hg=>run_fieldAddr rfl fl43_2 (f.ev rfl) rfl) (gf rfl rfl rfl rfl (fun a f hg=>run_loadN rfl ag41 ((f.ev rfl).trans (gv_t hg)) rfl ((S.free 0 rfl).cells 3 #[.slice A3 x3.length c3,.slice A4 x4.length c4,.slice A5 x5.length c5] rfl)) fun a f=>?_)
 obtain ⟨p103,h103,hM⟩:=bind_ex hM
 refine op_gcall (v:=.bool p103) rfl rfl f rfl S (yf (gw_yield f rfl rfl rfl)) (fun hg=>(run_call (vs:=[.agg #[.slice A3 x3.length c3,.slice A4 x4.length c4,.slice A5 x5.length c5]]) rfl rfl co69 ⟨((f.ev rfl).trans (gv_t hg)),trivial⟩)) (fun hg=>c_spec_WorkValid (x0:=x3) (x1:=x4) (x2:=x5) ⟨(S.rc0 h3.rc),rfl⟩ ⟨(S.rc0 h4.rc),rfl⟩ ⟨(S.rc0 h5.rc),rfl⟩ (gb_t h103 hg)) ?_;clear f S;intro a u f S
 revert a;refine gf rfl rfl rfl rfl (fun a f hg=>run_not rfl ((f.ev rfl).trans (gv_t hg))) fun a f=>?_
 revert a;refine ov rfl (fun a f=>run_pick_or rfl (f.ev rfl) rfl (fun hp=>((f.ev rfl).trans (gv_t (not_t hp))))) (mv rfl rfl fun a f=>?_)
 revert a;refine gf rfl rfl rfl rfl (fun a f hg=>run_fieldAddr rfl fl43_2 (f.ev rfl) rfl) (gf rfl rfl rfl rfl (fun a f hg=>run_fieldAddr rfl fl41_0 ((f.ev rfl).trans (gv_t hg)) rfl) (gf rfl rfl rfl rfl (fun a f hg=>run_load1 rfl one26 ((f.ev rfl).trans (gv_t hg)) (S.cell 0 rfl rfl)) (gf rfl rfl rfl rfl (fun a f hg=>run_lenL rfl rfl Tryz.underlying26 ((f.ev rfl).trans (gv_t hg))) (gf rfl rfl rfl rfl (fun a f hg=>run_fieldAddr rfl fl43_0 (f.ev rfl) rfl) (gf rfl rfl rfl rfl (fun a f hg=>run_fieldAddr rfl fl37_1 ((f.ev rfl).trans (gv_t hg)) rfl) (gf rfl rfl rfl rfl (fun a f hg=>run_load1 rfl one35 ((f.ev rfl).trans (gv_t hg)) (S.cell 0 rfl rfl)) (gf rfl rfl rfl rfl (fun a f hg=>run_lenL rfl rfl Tryz.underlying35 ((f.ev rfl).trans (gv_t hg))) (gf rfl rfl rfl rfl (fun a f hg=>run_neq ((f.ev rfl).trans (gv_t hg)) ((f.ev rfl).trans (gv_t hg)) rfl) (ov rfl (fun a f=>run_pick_or rfl (f.ev rfl) rfl (fun hp=>((f.ev rfl).trans (gv_t (not_t hp))))) fun a f=>wn ?_)))))))))
 cases hc104:(((!p102)||(!p103))||((x3.length:Int) != (x1.length:Int)))
 ·replace hM:=bif_f hc104 hM
  refine cond_f f rfl hc104 ?_
  refine wp_skip ?_
  refine ws ?_
  revert a;refine sr (ov rfl (fun a f=>run_assign rfl rfl) fun a f=>wn ?_)
  obtain ⟨o106,hM107,hM⟩:=bind_ex hM
  refine wp_cut (fun a u=>∃ (p105:Unit),(Sum.inl p105)=o106∧Fr a 84 [(1,.pointer (some ⟨g101,0,none⟩)),(2,.bool false)]∧St w u [.box g101 43 #[iv x0,.slice A1 x1.length c1,.slice A2 x2.length c2,.slice A3 x3.length c3,.slice A4 x4.length c4,.slice A5 x5.length c5,.slice A6 x6.length c6]]) ?_ ?_
  ·have _:=trivial
   refine wp_block ?_
   refine loop_gw (fun m a u=>∃ (p108:Int),m_spec_WorldValid_l1 x3 x6 m p108=some _∧Fr a 84 [(1,.pointer (some ⟨g101,0,none⟩)),(2,.bool false),(3,iv p108)]∧St w u [.box g101 43 #[iv x0,.slice A1 x1.length c1,.slice A2 x2.length c2,.slice A3 x3.length c3,.slice A4 x4.length c4,.slice A5 x5.length c5,.slice A6 x6.length c6]]) FUEL ⟨0,hM107,f.keep _ ⟨rfl,rfl,rfl,trivial⟩,S.sel [0] rfl rfl⟩ ?_
   clear f S hM107;rintro m a u ⟨p108,hM107,f,S⟩
   rcases m with _ | f1
   ·exact none_some hM107
   rw [m_spec_WorldValid_l1.eq_2] at hM107
   refine ws ?_
   revert a;refine sr (mv rfl rfl (ov rfl (fun a f=>run_fieldAddr rfl fl43_3 (f.ev rfl) rfl) (ov rfl (fun a f=>run_load1 rfl one30 (f.ev rfl) (S.cell 0 rfl rfl)) (ov rfl (fun a f=>run_lenL rfl rfl Tryz.underlying30 (f.ev rfl)) (ov rfl (fun a f=>run_lss (f.ev rfl) (f.ev rfl) rfl) fun a f=>wn ?_)))))
   cases hc109:(ltB p108 (x6.length:Int))
   ·replace hM107:=bif_f hc109 hM107
    refine cond_f f rfl hc109 ?_
    refine wp_exit ?_
    repeat with_reducible first|apply then_exit|apply in_hit|refine in_miss rfl ?_
    obtain rfl:=Option.some.inj hM107
    exact ⟨(),rfl,f.keep _ ⟨rfl,rfl,trivial⟩,S.sel [0] rfl rfl⟩
   replace hM107:=bif_t hc109 hM107
   refine cond_t f rfl hc109 ?_
   refine wp_skip ?_
   refine ws ?_
   refine wp_block ?_
   refine ws ?_
   obtain ⟨hk110,hM107⟩:=chk_ex hM107
   replace hk110:=ixB_t hk110
   obtain ⟨p111,h111,hM107⟩:=bind_ex hM107
   obtain ⟨hk112,hM107⟩:=chk_ex hM107
   replace hk112:=fun hg=>ixB_t (imp_t hk112 hg)
   obtain ⟨hk113,hM107⟩:=chk_ex hM107
   replace hk113:=fun hg=>ixB_t (imp_t hk113 hg)
   obtain ⟨hk114,hM107⟩:=chk_ex hM107
   replace hk114:=fun hg=>ixB_t (imp_t hk114 hg)
   obtain ⟨hk115,hM107⟩:=chk_ex hM107
   replace hk115:=fun hg=>ixB_t (imp_t hk115 hg)
   refine region_gw (D:=[34,35,36,37,38,39,40,41,42,43,44,45,46,47,48,49,50,51,52,53,54,55,56,57,58,59,60,61,62,63,64,65,66,67,68,69,70,71,72,73,74,75]) (Lr:=[.box g101 43 #[iv x0,.slice A1 x1.length c1,.slice A2 x2.length c2,.slice A3 x3.length c3,.slice A4 x4.length c4,.slice A5 x5.length c5,.slice A6 x6.length c6]]) (deps:=(fun | 0=>[34] | 1=>[35] | 2=>[36] | 3=>[37] | 4=>[38] | 5=>[39] | 6=>[40] | 7=>[41] | 8=>[42] | 9=>[43] | 10=>[44] | 11=>[45] | 12=>[46] | 13=>[47] | 14=>[48] | 15=>[49] | 16=>[50] | 17=>[51] | 18=>[52] | 19=>[53] | 20=>[54] | 21=>[55] | 22=>[56] | 23=>[57] | 24=>[58] | 25=>[59] | 26=>[60] | 27=>[61] | 28=>[62] | 29=>[63] | 30=>[64] | 31=>[65] | 32=>[66] | 33=>[67] | 34=>[68] | 35=>[69] | 36=>[70] | 37=>[71] | 38=>[72] | 39=>[73] | 40=>[74] | 41=>[75] | _=>[])) (rd:=(fun _=>[])) (zr:=(fun _=>[]))
    (φ:=fun i vs=>match i,vs with | 0,[v34]=>v34=.pointer (some ⟨g101,6,none⟩) | 1,[v35]=>v35=.slice A6 x6.length c6 | 2,[v36]=>v36=iv p108 | 3,[v37]=>v37=.pointer (some ⟨adB A6,adO A6+p108.toNat*1,none⟩) | 4,[v38]=>v38=iv (x6.getD p108.toNat 0) | 5,[v39]=>v39=.pointer (some ⟨g101,3,none⟩) | 6,[v40]=>v40=.pointer (some ⟨g101,3,none⟩) | 7,[v41]=>v41=.slice A3 x3.length c3 | 8,[v42]=>v42=iv (x3.length:Int) | 9,[v43]=>v43=iv (w64 ((x3.length:Int)-1)) | 10,[v44]=>v44=.bool p111 | 11,[v45]=>v45=.bool (!p111) | 12,[v46]=>v46=.bool (!p111) | 13,[v47]=>v47=gv (!(!p111)) (iv p108) | 14,[v48]=>v48=gv (!(!p111)) (.bool (ltB 0 p108)) | 15,[v49]=>v49=gv (!(!p111)) (.bool (ltB 0 p108)) | 16,[v50]=>v50=gv ((!(!p111))&&(ltB 0 p108)) (.pointer (some ⟨g101,6,none⟩)) | 17,[v51]=>v51=gv ((!(!p111))&&(ltB 0 p108)) (.slice A6 x6.length c6) | 18,[v52]=>v52=gv ((!(!p111))&&(ltB 0 p108)) (iv p108) | 19,[v53]=>v53=gv ((!(!p111))&&(ltB 0 p108)) (iv (w64 (p108-1))) | 20,[v54]=>v54=gv ((!(!p111))&&(ltB 0 p108)) (.pointer (some ⟨adB A6,adO A6+((w64 (p108-1)).toNat)*1,none⟩)) | 21,[v55]=>v55=gv ((!(!p111))&&(ltB 0 p108)) (iv (x6.getD ((w64 (p108-1)).toNat) 0)) | 22,[v56]=>v56=gv ((!(!p111))&&(ltB 0 p108)) (.pointer (some ⟨g101,6,none⟩)) | 23,[v57]=>v57=gv ((!(!p111))&&(ltB 0 p108)) (.slice A6 x6.length c6) | 24,[v58]=>v58=gv ((!(!p111))&&(ltB 0 p108)) (iv p108) | 25,[v59]=>v59=gv ((!(!p111))&&(ltB 0 p108)) (.pointer (some ⟨adB A6,adO A6+p108.toNat*1,none⟩)) | 26,[v60]=>v60=gv ((!(!p111))&&(ltB 0 p108)) (iv (x6.getD p108.toNat 0)) | 27,[v61]=>v61=gv ((!(!p111))&&(ltB 0 p108)) (.bool (leB (x6.getD p108.toNat 0) (x6.getD ((w64 (p108-1)).toNat) 0))) | 28,[v62]=>v62=gv (!(!p111)) (.bool ((ltB 0 p108)&&(leB (x6.getD p108.toNat 0) (x6.getD ((w64 (p108-1)).toNat) 0)))) | 29,[v63]=>v63=.bool ((!p111)||((ltB 0 p108)&&(leB (x6.getD p108.toNat 0) (x6.getD ((w64 (p108-1)).toNat) 0)))) | 30,[v64]=>v64=.bool ((!p111)||((ltB 0 p108)&&(leB (x6.getD p108.toNat 0) (x6.getD ((w64 (p108-1)).toNat) 0)))) | 31,[v65]=>v65=gv (!((!p111)||((ltB 0 p108)&&(leB (x6.getD p108.toNat 0) (x6.getD ((w64 (p108-1)).toNat) 0))))) (.pointer (some ⟨g101,3,none⟩)) | 32,[v66]=>v66=gv (!((!p111)||((ltB 0 p108)&&(leB (x6.getD p108.toNat 0) (x6.getD ((w64 (p108-1)).toNat) 0))))) (.pointer (some ⟨g101,3,none⟩)) | 33,[v67]=>v67=gv (!((!p111)||((ltB 0 p108)&&(leB (x6.getD p108.toNat 0) (x6.getD ((w64 (p108-1)).toNat) 0))))) (.slice A3 x3.length c3) | 34,[v68]=>v68=gv (!((!p111)||((ltB 0 p108)&&(leB (x6.getD p108.toNat 0) (x6.getD ((w64 (p108-1)).toNat) 0))))) (.pointer (some ⟨g101,6,none⟩)) | 35,[v69]=>v69=gv (!((!p111)||((ltB 0 p108)&&(leB (x6.getD p108.toNat 0) (x6.getD ((w64 (p108-1)).toNat) 0))))) (.slice A6 x6.length c6) | 36,[v70]=>v70=gv (!((!p111)||((ltB 0 p108)&&(leB (x6.getD p108.toNat 0) (x6.getD ((w64 (p108-1)).toNat) 0))))) (iv p108) | 37,[v71]=>v71=gv (!((!p111)||((ltB 0 p108)&&(leB (x6.getD p108.toNat 0) (x6.getD ((w64 (p108-1)).toNat) 0))))) (.pointer (some ⟨adB A6,adO A6+p108.toNat*1,none⟩)) | 38,[v72]=>v72=gv (!((!p111)||((ltB 0 p108)&&(leB (x6.getD p108.toNat 0) (x6.getD ((w64 (p108-1)).toNat) 0))))) (iv (x6.getD p108.toNat 0)) | 39,[v73]=>v73=gv (!((!p111)||((ltB 0 p108)&&(leB (x6.getD p108.toNat 0) (x6.getD ((w64 (p108-1)).toNat) 0))))) (.pointer (some ⟨adB A3,adO A3+((x6.getD p108.toNat 0).toNat)*1,none⟩)) | 40,[v74]=>v74=gv (!((!p111)||((ltB 0 p108)&&(leB (x6.getD p108.toNat 0) (x6.getD ((w64 (p108-1)).toNat) 0))))) (.bool (x3.getD ((x6.getD p108.toNat 0).toNat) false)) | 41,[v75]=>v75=.bool (((!p111)||((ltB 0 p108)&&(leB (x6.getD p108.toNat 0) (x6.getD ((w64 (p108-1)).toNat) 0))))||(x3.getD ((x6.getD p108.toNat 0).toNat) false)) | _,_=>True)
    (C:=fun _ _=>[])
    (κ:=(fun _=>none)) (Z:=(fun _=>[])) mixed f (by kernel_rfl) S ?_ ?_
   ·refine ⟨?_,?_,?_,?_,?_,?_,?_,?_,?_,?_,?_,?_,?_,?_,?_,?_,?_,?_,?_,?_,?_,?_,?_,?_,?_,?_,?_,?_,?_,?_,?_,?_,?_,?_,?_,?_,?_,?_,?_,?_,?_,?_,trivial⟩
    ·intro a u X hB hu p hr hz hl S
     exact .inl ⟨rfl,_,u,(run_fieldAddr rfl fl43_3 (f.evB hB rfl rfl) rfl),rfl,S⟩
    ·intro a u X hB hu p hr hz hl S
     exact .inl ⟨rfl,_,u,(run_load1 rfl one30 (ev_sl (p 0 rfl)) ((gr_box S hl 0 rfl).cell rfl)),rfl,S⟩
    ·intro a u X hB hu p hr hz hl S
     exact .inl ⟨rfl,_,u,(run_move rfl (f.evB hB rfl rfl)),rfl,S⟩
    ·intro a u X hB hu p hr hz hl S
     exact .inl ⟨rfl,_,u,(run_ix rfl Tryz.underlying30 sz3 (ev_sl (p 1 rfl)) (S.rc0 h6.rc) (ev_sl (p 2 rfl)) hk110),rfl,S⟩
    ·intro a u X hB hu p hr hz hl S
     exact .inl ⟨rfl,_,u,(run_load1 rfl one3 (ev_sl (p 3 rfl)) (rd_el0 (l:=x6) (S.rc0 h6.rc).rd rfl eI_len 0 (ix_ltn hk110 rfl) rfl)),rfl,S⟩
    ·intro a u X hB hu p hr hz hl S
     exact .inl ⟨rfl,_,u,(run_fieldAddr rfl fl43_2 (f.evB hB rfl rfl) rfl),rfl,S⟩
    ·intro a u X hB hu p hr hz hl S
     exact .inl ⟨rfl,_,u,(run_fieldAddr rfl fl41_0 (ev_sl (p 5 rfl)) rfl),rfl,S⟩
    ·intro a u X hB hu p hr hz hl S
     exact .inl ⟨rfl,_,u,(run_load1 rfl one26 (ev_sl (p 6 rfl)) ((gr_box S hl 0 rfl).cell rfl)),rfl,S⟩
    ·intro a u X hB hu p hr hz hl S
     exact .inl ⟨rfl,_,u,(run_lenL rfl rfl Tryz.underlying26 (ev_sl (p 7 rfl))),rfl,S⟩
    ·intro a u X hB hu p hr hz hl S
     exact .inl ⟨rfl,_,u,(run_sub (z:=w64 ((x3.length:Int)-1)) (ev_sl (p 8 rfl)) (ev_const _ _) rfl rfl),rfl,S⟩
    ·intro a u X hB hu p hr hz hl S
     refine .inr (.inr (.inl ⟨rfl,_,_,(run_call (vs:=[iv (x6.getD p108.toNat 0),iv 0,iv (w64 ((x3.length:Int)-1))]) rfl rfl co51 ⟨(ev_sl (p 4 rfl)),(ev_const _ _),(ev_sl (p 9 rfl)),trivial⟩),?_⟩))
     refine Calls.mono (c_spec_l1In (x0:=(x6.getD p108.toNat 0)) (x1:=0) (x2:=w64 ((x3.length:Int)-1))  h111) ?_
     rintro e w1 ⟨rfl,T⟩
     exact ⟨_,rfl,rfl,S.call0 T⟩
    ·intro a u X hB hu p hr hz hl S
     exact .inl ⟨rfl,_,u,(run_not rfl (ev_sl (p 10 rfl))),rfl,S⟩
    ·intro a u X hB hu p hr hz hl S
     exact .inl ⟨rfl,_,u,(run_move rfl (ev_sl (p 11 rfl))),rfl,S⟩
    ·intro a u X hB hu p hr hz hl S
     exact gyf rfl rfl rfl (p 12 rfl) (fun hg=>⟨(gv_f hg).symm,S⟩) fun hg=>⟨_,u,(run_move rfl (f.evB hB rfl rfl)),(gv_t hg).symm,S⟩
    ·intro a u X hB hu p hr hz hl S
     exact gyf rfl rfl rfl (p 12 rfl) (fun hg=>⟨(gv_f hg).symm,S⟩) fun hg=>⟨_,u,(run_gtr ((ev_sl (p 13 rfl)).trans (gv_t hg)) (ev_const _ _) rfl),(gv_t hg).symm,S⟩
    ·intro a u X hB hu p hr hz hl S
     exact gyf rfl rfl rfl (p 12 rfl) (fun hg=>⟨(gv_f hg).symm,S⟩) fun hg=>⟨_,u,(run_move rfl ((ev_sl (p 14 rfl)).trans (gv_t hg))),(gv_t hg).symm,S⟩
    ·intro a u X hB hu p hr hz hl S
     rcases bb ((!(!p111))&&(ltB 0 p108)) with hg | hg
     ·exact .inr (.inr (.inr ⟨gr_eg rfl (ytG (gr_yieldG rfl rfl (p 15 rfl))) hg,(gv_f hg).symm,S⟩))
     exact .inl ⟨gr_eg rfl (ytG (gr_yieldG rfl rfl (p 15 rfl))) hg,_,u,(run_fieldAddr rfl fl43_3 (f.evB hB rfl rfl) rfl),(gv_t hg).symm,S⟩
    ·intro a u X hB hu p hr hz hl S
     rcases bb ((!(!p111))&&(ltB 0 p108)) with hg | hg
     ·exact .inr (.inr (.inr ⟨gr_eg rfl (ytG (gr_yieldG rfl rfl (p 15 rfl))) hg,(gv_f hg).symm,S⟩))
     exact .inl ⟨gr_eg rfl (ytG (gr_yieldG rfl rfl (p 15 rfl))) hg,_,u,(run_load1 rfl one30 ((ev_sl (p 16 rfl)).trans (gv_t hg)) ((gr_box S hl 0 rfl).cell rfl)),(gv_t hg).symm,S⟩
    ·intro a u X hB hu p hr hz hl S
     rcases bb ((!(!p111))&&(ltB 0 p108)) with hg | hg
     ·exact .inr (.inr (.inr ⟨gr_eg rfl (ytG (gr_yieldG rfl rfl (p 15 rfl))) hg,(gv_f hg).symm,S⟩))
     exact .inl ⟨gr_eg rfl (ytG (gr_yieldG rfl rfl (p 15 rfl))) hg,_,u,(run_move rfl (f.evB hB rfl rfl)),(gv_t hg).symm,S⟩
    ·intro a u X hB hu p hr hz hl S
     rcases bb ((!(!p111))&&(ltB 0 p108)) with hg | hg
     ·exact .inr (.inr (.inr ⟨gr_eg rfl (ytG (gr_yieldG rfl rfl (p 15 rfl))) hg,(gv_f hg).symm,S⟩))
     exact .inl ⟨gr_eg rfl (ytG (gr_yieldG rfl rfl (p 15 rfl))) hg,_,u,(run_sub (z:=w64 (p108-1)) ((ev_sl (p 18 rfl)).trans (gv_t hg)) (ev_const _ _) rfl rfl),(gv_t hg).symm,S⟩
    ·intro a u X hB hu p hr hz hl S
     rcases bb ((!(!p111))&&(ltB 0 p108)) with hg | hg
     ·exact .inr (.inr (.inr ⟨gr_eg rfl (ytG (gr_yieldG rfl rfl (p 15 rfl))) hg,(gv_f hg).symm,S⟩))
     exact .inl ⟨gr_eg rfl (ytG (gr_yieldG rfl rfl (p 15 rfl))) hg,_,u,(run_indexAddr (b:=adB A6) (off:=adO A6) rfl Tryz.underlying30 sz3 (((ev_sl (p 17 rfl)).trans (gv_t hg)).trans (congrArg (fun A=>Value.slice A x6.length c6) ((S.rc0 h6.rc).rd.ad (ix_pos (hk112 hg))))) ((ev_sl (p 19 rfl)).trans (gv_t hg)) (hk112 hg).1 (hk112 hg).2 (k':=adO A6+((w64 (p108-1)).toNat)*1) rfl),(gv_t hg).symm,S⟩
    ·intro a u X hB hu p hr hz hl S
     rcases bb ((!(!p111))&&(ltB 0 p108)) with hg | hg
     ·exact .inr (.inr (.inr ⟨gr_eg rfl (ytG (gr_yieldG rfl rfl (p 15 rfl))) hg,(gv_f hg).symm,S⟩))
     exact .inl ⟨gr_eg rfl (ytG (gr_yieldG rfl rfl (p 15 rfl))) hg,_,u,(run_load1 rfl one3 ((ev_sl (p 20 rfl)).trans (gv_t hg)) (rd_el0 (l:=x6) (S.rc0 h6.rc).rd rfl eI_len 0 (ix_ltn (hk112 hg) rfl) rfl)),(gv_t hg).symm,S⟩
    ·intro a u X hB hu p hr hz hl S
     rcases bb ((!(!p111))&&(ltB 0 p108)) with hg | hg
     ·exact .inr (.inr (.inr ⟨gr_eg rfl (ytG (gr_yieldG rfl rfl (p 15 rfl))) hg,(gv_f hg).symm,S⟩))
     exact .inl ⟨gr_eg rfl (ytG (gr_yieldG rfl rfl (p 15 rfl))) hg,_,u,(run_fieldAddr rfl fl43_3 (f.evB hB rfl rfl) rfl),(gv_t hg).symm,S⟩
    ·intro a u X hB hu p hr hz hl S
     rcases bb ((!(!p111))&&(ltB 0 p108)) with hg | hg
     ·exact .inr (.inr (.inr ⟨gr_eg rfl (ytG (gr_yieldG rfl rfl (p 15 rfl))) hg,(gv_f hg).symm,S⟩))
     exact .inl ⟨gr_eg rfl (ytG (gr_yieldG rfl rfl (p 15 rfl))) hg,_,u,(run_load1 rfl one30 ((ev_sl (p 22 rfl)).trans (gv_t hg)) ((gr_box S hl 0 rfl).cell rfl)),(gv_t hg).symm,S⟩
    ·intro a u X hB hu p hr hz hl S
     rcases bb ((!(!p111))&&(ltB 0 p108)) with hg | hg
     ·exact .inr (.inr (.inr ⟨gr_eg rfl (ytG (gr_yieldG rfl rfl (p 15 rfl))) hg,(gv_f hg).symm,S⟩))
     exact .inl ⟨gr_eg rfl (ytG (gr_yieldG rfl rfl (p 15 rfl))) hg,_,u,(run_move rfl (f.evB hB rfl rfl)),(gv_t hg).symm,S⟩
    ·intro a u X hB hu p hr hz hl S
     rcases bb ((!(!p111))&&(ltB 0 p108)) with hg | hg
     ·exact .inr (.inr (.inr ⟨gr_eg rfl (ytG (gr_yieldG rfl rfl (p 15 rfl))) hg,(gv_f hg).symm,S⟩))
     exact .inl ⟨gr_eg rfl (ytG (gr_yieldG rfl rfl (p 15 rfl))) hg,_,u,(run_indexAddr (b:=adB A6) (off:=adO A6) rfl Tryz.underlying30 sz3 (((ev_sl (p 23 rfl)).trans (gv_t hg)).trans (congrArg (fun A=>Value.slice A x6.length c6) ((S.rc0 h6.rc).rd.ad (ix_pos (hk113 hg))))) ((ev_sl (p 24 rfl)).trans (gv_t hg)) (hk113 hg).1 (hk113 hg).2 (k':=adO A6+p108.toNat*1) rfl),(gv_t hg).symm,S⟩
    ·intro a u X hB hu p hr hz hl S
     rcases bb ((!(!p111))&&(ltB 0 p108)) with hg | hg
     ·exact .inr (.inr (.inr ⟨gr_eg rfl (ytG (gr_yieldG rfl rfl (p 15 rfl))) hg,(gv_f hg).symm,S⟩))
     exact .inl ⟨gr_eg rfl (ytG (gr_yieldG rfl rfl (p 15 rfl))) hg,_,u,(run_load1 rfl one3 ((ev_sl (p 25 rfl)).trans (gv_t hg)) (rd_el0 (l:=x6) (S.rc0 h6.rc).rd rfl eI_len 0 (ix_ltn (hk113 hg) rfl) rfl)),(gv_t hg).symm,S⟩
    ·intro a u X hB hu p hr hz hl S
     rcases bb ((!(!p111))&&(ltB 0 p108)) with hg | hg
     ·exact .inr (.inr (.inr ⟨gr_eg rfl (ytG (gr_yieldG rfl rfl (p 15 rfl))) hg,(gv_f hg).symm,S⟩))
     exact .inl ⟨gr_eg rfl (ytG (gr_yieldG rfl rfl (p 15 rfl))) hg,_,u,(run_geq ((ev_sl (p 21 rfl)).trans (gv_t hg)) ((ev_sl (p 26 rfl)).trans (gv_t hg)) rfl),(gv_t hg).symm,S⟩
    ·intro a u X hB hu p hr hz hl S
     exact gyf rfl rfl rfl (p 12 rfl) (fun hg=>⟨(gv_f hg).symm,S⟩) fun hg=>⟨_,u,(run_pick_and rfl ((ev_sl (p 15 rfl)).trans (gv_t hg)) (fun hp=>((ev_sl (p 27 rfl)).trans (gv_t (and_i hg hp)))) (ev_const _ _)),(gv_t hg).symm,S⟩
    ·intro a u X hB hu p hr hz hl S
     exact .inl ⟨rfl,_,u,(run_pick_or rfl (ev_sl (p 12 rfl)) (ev_const _ _) (fun hp=>((ev_sl (p 28 rfl)).trans (gv_t (not_t hp))))),rfl,S⟩
    ·intro a u X hB hu p hr hz hl S
     exact .inl ⟨rfl,_,u,(run_move rfl (ev_sl (p 29 rfl))),rfl,S⟩
    ·intro a u X hB hu p hr hz hl S
     exact gyf rfl rfl rfl (p 30 rfl) (fun hg=>⟨(gv_f hg).symm,S⟩) fun hg=>⟨_,u,(run_fieldAddr rfl fl43_2 (f.evB hB rfl rfl) rfl),(gv_t hg).symm,S⟩
    ·intro a u X hB hu p hr hz hl S
     exact gyf rfl rfl rfl (p 30 rfl) (fun hg=>⟨(gv_f hg).symm,S⟩) fun hg=>⟨_,u,(run_fieldAddr rfl fl41_0 ((ev_sl (p 31 rfl)).trans (gv_t hg)) rfl),(gv_t hg).symm,S⟩
    ·intro a u X hB hu p hr hz hl S
     exact gyf rfl rfl rfl (p 30 rfl) (fun hg=>⟨(gv_f hg).symm,S⟩) fun hg=>⟨_,u,(run_load1 rfl one26 ((ev_sl (p 32 rfl)).trans (gv_t hg)) ((gr_box S hl 0 rfl).cell rfl)),(gv_t hg).symm,S⟩
    ·intro a u X hB hu p hr hz hl S
     exact gyf rfl rfl rfl (p 30 rfl) (fun hg=>⟨(gv_f hg).symm,S⟩) fun hg=>⟨_,u,(run_fieldAddr rfl fl43_3 (f.evB hB rfl rfl) rfl),(gv_t hg).symm,S⟩
    ·intro a u X hB hu p hr hz hl S
     exact gyf rfl rfl rfl (p 30 rfl) (fun hg=>⟨(gv_f hg).symm,S⟩) fun hg=>⟨_,u,(run_load1 rfl one30 ((ev_sl (p 34 rfl)).trans (gv_t hg)) ((gr_box S hl 0 rfl).cell rfl)),(gv_t hg).symm,S⟩
    ·intro a u X hB hu p hr hz hl S
     exact gyf rfl rfl rfl (p 30 rfl) (fun hg=>⟨(gv_f hg).symm,S⟩) fun hg=>⟨_,u,(run_move rfl (f.evB hB rfl rfl)),(gv_t hg).symm,S⟩
    ·intro a u X hB hu p hr hz hl S
     exact gyf rfl rfl rfl (p 30 rfl) (fun hg=>⟨(gv_f hg).symm,S⟩) fun hg=>⟨_,u,(run_indexAddr (b:=adB A6) (off:=adO A6) rfl Tryz.underlying30 sz3 (((ev_sl (p 35 rfl)).trans (gv_t hg)).trans (congrArg (fun A=>Value.slice A x6.length c6) ((S.rc0 h6.rc).rd.ad (ix_pos (hk114 hg))))) ((ev_sl (p 36 rfl)).trans (gv_t hg)) (hk114 hg).1 (hk114 hg).2 (k':=adO A6+p108.toNat*1) rfl),(gv_t hg).symm,S⟩
    ·intro a u X hB hu p hr hz hl S
     exact gyf rfl rfl rfl (p 30 rfl) (fun hg=>⟨(gv_f hg).symm,S⟩) fun hg=>⟨_,u,(run_load1 rfl one3 ((ev_sl (p 37 rfl)).trans (gv_t hg)) (rd_el0 (l:=x6) (S.rc0 h6.rc).rd rfl eI_len 0 (ix_ltn (hk114 hg) rfl) rfl)),(gv_t hg).symm,S⟩
    ·intro a u X hB hu p hr hz hl S
     exact gyf rfl rfl rfl (p 30 rfl) (fun hg=>⟨(gv_f hg).symm,S⟩) fun hg=>⟨_,u,(run_indexAddr (b:=adB A3) (off:=adO A3) rfl Tryz.underlying26 sz4 (((ev_sl (p 33 rfl)).trans (gv_t hg)).trans (congrArg (fun A=>Value.slice A x3.length c3) ((S.rc0 h3.rc).rd.ad (ix_pos (hk115 hg))))) ((ev_sl (p 38 rfl)).trans (gv_t hg)) (hk115 hg).1 (hk115 hg).2 (k':=adO A3+((x6.getD p108.toNat 0).toNat)*1) rfl),(gv_t hg).symm,S⟩
    ·intro a u X hB hu p hr hz hl S
     exact gyf rfl rfl rfl (p 30 rfl) (fun hg=>⟨(gv_f hg).symm,S⟩) fun hg=>⟨_,u,(run_load1 rfl one4 ((ev_sl (p 39 rfl)).trans (gv_t hg)) (rd_el0 (l:=x3) (S.rc0 h3.rc).rd rfl eB_len false (ix_ltn (hk115 hg) rfl) rfl)),(gv_t hg).symm,S⟩
    intro a u X hB hu p hr hz hl S
    exact .inl ⟨rfl,_,u,(run_pick_or rfl (ev_sl (p 30 rfl)) (ev_const _ _) (fun hp=>((ev_sl (p 40 rfl)).trans (gv_t (not_t hp))))),rfl,S⟩
   intro a u hB hp S
   obtain ⟨q0,q1,q2,q3,q4,q5,q6,q7,q8,q9,q10,q11,q12,q13,q14,q15,q16,q17,q18,q19,q20,q21,q22,q23,q24,q25,q26,q27,q28,q29,q30,q31,q32,q33,q34,q35,q36,q37,q38,q39,q40,q41,-⟩:=hp
   replace S:St w u [.box g101 43 #[iv x0,.slice A1 x1.length c1,.slice A2 x2.length c2,.slice A3 x3.length c3,.slice A4 x4.length c4,.slice A5 x5.length c5,.slice A6 x6.length c6]]:=S
   have f:=f.region hB [(34,_),(35,_),(36,_),(37,_),(38,_),(39,_),(40,_),(41,_),(42,_),(43,_),(44,_),(45,_),(46,_),(47,_),(48,_),(49,_),(50,_),(51,_),(52,_),(53,_),(54,_),(55,_),(56,_),(57,_),(58,_),(59,_),(60,_),(61,_),(62,_),(63,_),(64,_),(65,_),(66,_),(67,_),(68,_),(69,_),(70,_),(71,_),(72,_),(73,_),(74,_),(75,_)] (allSl_mem ⟨q0,q1,q2,q3,q4,q5,q6,q7,q8,q9,q10,q11,q12,q13,q14,q15,q16,q17,q18,q19,q20,q21,q22,q23,q24,q25,q26,q27,q28,q29,q30,q31,q32,q33,q34,q35,q36,q37,q38,q39,q40,q41,trivial⟩) rfl
   clear hB q0 q1 q2 q3 q4 q5 q6 q7 q8 q9 q10 q11 q12 q13 q14 q15 q16 q17 q18 q19 q20 q21 q22 q23 q24 q25 q26 q27 q28 q29 q30 q31 q32 q33 q34 q35 q36 q37 q38 q39 q40 q41
   cases hc116:(((!p111)||((ltB 0 p108)&&(leB (x6.getD p108.toNat 0) (x6.getD ((w64 (p108-1)).toNat) 0))))||(x3.getD ((x6.getD p108.toNat 0).toNat) false))
   ·replace hM107:=bif_f hc116 hM107
    refine cond_f f rfl hc116 ?_
    refine wp_skip ?_
    revert a;refine rl (mv rfl rfl (ov rfl (fun a f=>run_add (z:=w64 (p108+1)) (f.ev rfl) rfl rfl rfl) (ag rfl rfl fun a f=>wn ?_)))
    exact ⟨f1,Nat.lt_succ_self _,w64 (p108+1),hM107,f.keep _ ⟨rfl,rfl,rfl,trivial⟩,S.sel [0] rfl rfl⟩
   replace hM107:=bif_t hc116 hM107
   refine cond_t f rfl hc116 ?_
   revert a;refine sr (ov rfl (fun a f=>run_assign rfl rfl) fun a f=>wn ?_)
   refine wp_ret ?_
   repeat with_reducible first|apply tr|apply ir|apply nr
   refine ret1_gw (.inl rfl) f rfl (res_tmp (f.ev rfl)) ?_
   obtain rfl:=Option.some.inj hM107
   obtain rfl:=Option.some.inj hM
   exact ⟨rfl,S.sel [] rfl rfl⟩
  rintro a u ⟨p105,rfl,f,S⟩
  replace hM:=elim_l hM
  revert a;refine sr (ov rfl (fun a f=>run_fieldAddr rfl fl43_0 (f.ev rfl) rfl) (ov rfl (fun a f=>run_loadN rfl ag37 (f.ev rfl) rfl ((S.free 0 rfl).cells 0 #[iv x0,.slice A1 x1.length c1] rfl)) (ov rfl (fun a f=>run_fieldAddr rfl fl43_2 (f.ev rfl) rfl) (ov rfl (fun a f=>run_fieldAddr rfl fl41_0 (f.ev rfl) rfl) (ov rfl (fun a f=>run_load1 rfl one26 (f.ev rfl) (S.cell 0 rfl rfl)) (ov rfl (fun a f=>run_fieldAddr rfl fl43_1 (f.ev rfl) rfl) (ov rfl (fun a f=>run_load1 rfl one38 (f.ev rfl) (S.cell 0 rfl rfl)) fun a f=>?_)))))))
  obtain ⟨p117,h117,hM⟩:=bind_ex hM
  refine op_call rfl rfl f rfl (run_call (vs:=[_,_,_]) rfl rfl co57 ⟨(f.ev rfl),(f.ev rfl),(f.ev rfl),trivial⟩) (c_spec_Radial ⟨(S.rc0 h1.rc),rfl⟩ ⟨(S.rc0 h3.rc),rfl⟩ ⟨(S.rc0 h2.rc),rfl⟩ h117) ?_
  rintro e u ⟨rfl,T⟩
  refine ⟨_,rfl,?_⟩
  clear f;intro a f
  replace S:=S.call0 T;clear T
  revert a;refine ag rfl rfl fun a f=>wn ?_
  refine wp_ret ?_
  refine ret1_gw (.inl rfl) f rfl (res_tmp (f.ev rfl)) ?_
  obtain rfl:=Option.some.inj hM
  exact ⟨rfl,S.sel [] rfl rfl⟩
 replace hM:=bif_t hc104 hM
 refine cond_t f rfl hc104 ?_
 revert a;refine sr (ov rfl (fun a f=>run_assign rfl rfl) fun a f=>wn ?_)
 refine wp_ret ?_
 repeat with_reducible first|apply tr|apply ir|apply nr
 refine ret1_gw (.inl rfl) f rfl (res_tmp (f.ev rfl)) ?_
 obtain rfl:=Option.some.inj hM
 exact ⟨rfl,S.sel [] rfl rfl⟩
theorem c_spec_l12Copy {x0 : List Bool} {x1 : List Bool} {x2 : List (Int × Int)} {A0 : Option Addr} {n0 c0 : Nat} {A1 : Option Addr} {n1 c1 : Nat} {A2 : Option Addr} {n2 c2 : Nat} {w : World} {r : List Bool × List Bool × List (Int × Int)} (h0 : Rt w 1 eB A0 n0 c0 x0) (h1 : Rt w 1 eB A1 n1 c1 x1) (h2 : Rt w 2 ePermit A2 n2 c2 x2) (hM : m_spec_l12Copy x0 x1 x2 = some r) :
    Calls Tryz.prog 88 #[.agg #[.slice A0 n0 c0, .slice A1 n1 c1, .slice A2 n2 c2]] w (fun e w' => ∃ (B0 : Option Addr) (N0 D0 : Nat) (B1 : Option Addr) (N1 D1 : Nat) (B2 : Option Addr) (N2 D2 : Nat), e = .returned (.agg #[.slice B0 N0 D0, .slice B1 N1 D1, .slice B2 N2 D2]) ∧ N0 = r.1.length ∧ N1 = r.2.1.length ∧ N2 = r.2.2.length ∧ St w w' [.row 4 1 (.slice B0 N0 D0) N0 (r.1.flatMap eB), .row 4 1 (.slice B1 N1 D1) N1 (r.2.1.flatMap eB), .row 78 2 (.slice B2 N2 D2) N2 (r.2.2.flatMap ePermit)]) := by
  obtain rfl := h0.len
  obtain rfl := h1.len
  obtain rfl := h2.len
  unfold m_spec_l12Copy at hM
  refine calls_gx Tryz.func88 Tryz.ntmps88 rfl rfl ?_
  intro a f
  have S := St.nil w
  refine wsg ?_
  refine op_new (cs := #[.slice A0 x0.length c0, .slice A1 x1.length c1, .slice A2 x2.length c2]) rfl rfl f rfl S (run_box rfl (f.ev rfl) rfl) ?_; clear f S; intro a g101 u f S
  refine op_new (cs := #[.slice none 0 0, .slice none 0 0, .slice none 0 0]) rfl rfl f rfl S (run_allocZ rfl zr41) ?_; clear f S; intro a g102 u f S
  refine wn ?_
  refine ws ?_
  obtain ⟨p103, h103, hM⟩ := bind_ex hM
  obtain ⟨p107, h107, hM⟩ := bind_ex hM
  obtain ⟨hk111, hM⟩ := chk_ex hM
  replace hk111 := apB_t hk111
  refine region_gw (D := [3, 4, 5, 6, 7, 8, 9, 10, 11, 12, 13]) (Lr := [.box g101 41 #[.slice A0 x0.length c0, .slice A1 x1.length c1, .slice A2 x2.length c2]]) (deps := (fun | 0 => [3] | 1 => [4] | 2 => [5] | 3 => [6] | 4 => [7] | 5 => [8] | 6 => [9] | 7 => [10] | 8 => [11] | 9 => [12] | 10 => [13, 5, 8, 12] | 11 => [2, 5, 8, 12] | _ => [])) (rd := (fun _ => [])) (zr := (fun _ => []))
    (φ := fun i vs => match i, vs with | 0, [v3] => v3 = .pointer (some ⟨g101, 0, none⟩) | 1, [v4] => v4 = .slice A0 x0.length c0 | 2, [v5] => v5 = .slice (slA v5) p103.length (slC v5) | 3, [v6] => v6 = .pointer (some ⟨g101, 1, none⟩) | 4, [v7] => v7 = .slice A1 x1.length c1 | 5, [v8] => v8 = .slice (slA v8) p107.length (slC v8) | 6, [v9] => v9 = .slice (slA v9) 0 0 | 7, [v10] => v10 = .pointer (some ⟨g101, 2, none⟩) | 8, [v11] => v11 = .slice A2 x2.length c2 | 9, [v12] => v12 = .slice (slA v12) (([] ++ x2).length) (slC v12) | 10, [v13, v5, v8, v12] => v13 = .agg #[.slice (slA v5) p103.length (slC v5), .slice (slA v8) p107.length (slC v8), .slice (slA v12) (([] ++ x2).length) (slC v12)] | _, _ => True)
    (C := fun i vs => match i, vs with | 2, [v5] => [.row 4 1 (.slice (slA v5) p103.length (slC v5)) p103.length (p103.flatMap eB)] | 5, [v8] => [.row 4 1 (.slice (slA v8) p107.length (slC v8)) p107.length (p107.flatMap eB)] | 6, [v9] => [.row 78 2 (.slice (slA v9) 0 0) 0 (([] : List (Int × Int)).flatMap ePermit)] | 9, [v12] => [.row 78 2 (.slice (slA v12) (([] ++ x2).length) (slC v12)) (([] ++ x2).length) (([] ++ x2).flatMap ePermit)] | 11, [v2, v5, v8, v12] => [.box g102 41 #[.slice (slA v5) p103.length (slC v5), .slice (slA v8) p107.length (slC v8), .slice (slA v12) (([] ++ x2).length) (slC v12)]] | _, _ => [])
    (κ := (fun | 6 => some 9 | _ => none)) (Z := (fun | 11 => [.box g102 41 #[.slice none 0 0, .slice none 0 0, .slice none 0 0]] | _ => [])) mixed f (by kernel_rfl) (show St w _ [.box g102 41 #[.slice none 0 0, .slice none 0 0, .slice none 0 0], .box g101 41 #[.slice A0 x0.length c0, .slice A1 x1.length c1, .slice A2 x2.length c2]] from S.sel [0, 1] rfl rfl) ?_ ?_
  · refine ⟨?_, ?_, ?_, ?_, ?_, ?_, ?_, ?_, ?_, ?_, ?_, ?_, trivial⟩
    · intro a u X hB hu p hr hz hl S
      exact .inl ⟨rfl, _, u, (run_fieldAddr rfl fl41_0 (f.evB hB rfl rfl) rfl), rfl, S⟩
    · intro a u X hB hu p hr hz hl S
      exact .inl ⟨rfl, _, u, (run_load1 rfl one26 (ev_sl (p 0 rfl)) ((gr_box S hl 0 rfl).cell rfl)), rfl, S⟩
    · intro a u X hB hu p hr hz hl S
      refine .inr (.inr (.inl ⟨rfl, _, _, (run_call (vs := [.slice A0 x0.length c0]) rfl rfl co124 ⟨(ev_sl (p 1 rfl)), trivial⟩), ?_⟩))
      refine Calls.mono (c_spec_l2Copy (x0 := x0) ⟨(S.rc0 h0.rc), rfl⟩ h103) ?_
      rintro e w1 ⟨B112, n113, d114, rfl, rfl, T⟩
      exact ⟨_, rfl, rfl, S.call1 T⟩
    · intro a u X hB hu p hr hz hl S
      exact .inl ⟨rfl, _, u, (run_fieldAddr rfl fl41_1 (f.evB hB rfl rfl) rfl), rfl, S⟩
    · intro a u X hB hu p hr hz hl S
      exact .inl ⟨rfl, _, u, (run_load1 rfl one26 (ev_sl (p 3 rfl)) ((gr_box S hl 0 rfl).cell rfl)), rfl, S⟩
    · intro a u X hB hu p hr hz hl S
      refine .inr (.inr (.inl ⟨rfl, _, _, (run_call (vs := [.slice A1 x1.length c1]) rfl rfl co124 ⟨(ev_sl (p 4 rfl)), trivial⟩), ?_⟩))
      refine Calls.mono (c_spec_l2Copy (x0 := x1) ⟨(S.rc0 h1.rc), rfl⟩ h107) ?_
      rintro e w1 ⟨B115, n116, d117, rfl, rfl, T⟩
      exact ⟨_, rfl, rfl, S.call1 T⟩
    · intro a u X hB hu p hr hz hl S
      exact .inl ⟨rfl, _, _, run_buildSlice0 rfl Tryz.underlying39 (congrArg Option.isSome sz78), rfl, S.newrow 78 2 0 #[] rfl (Nat.zero_le _)⟩
    · intro a u X hB hu p hr hz hl S
      exact .inl ⟨rfl, _, u, (run_fieldAddr rfl fl41_2 (f.evB hB rfl rfl) rfl), rfl, S⟩
    · intro a u X hB hu p hr hz hl S
      exact .inl ⟨rfl, _, u, (run_load1 rfl one39 (ev_sl (p 7 rfl)) ((gr_box S hl 0 rfl).cell rfl)), rfl, S⟩
    · intro a u X hB hu p hr hz hl S
      replace S : St w u ([.row 78 2 (.slice (slA (sl a 9)) 0 0) 0 (([] : List (Int × Int)).flatMap ePermit)] ++ X) := S
      obtain ⟨B, d, w', hrun, S'⟩ := S.appendL (i := 0) (P := Tryz.prog) (ty := 39) (lx := []) (ly := x2) (c' := c2) rfl rfl Tryz.underlying39 inf78 rfl (by decide) (S.rc0 h2.rc).rd rfl ePermit_one hk111 (by decide)
      exact .inl ⟨rfl, _, w', run_append rfl (ev_sl (p 6 rfl)) (ev_sl (p 8 rfl)) hrun, rfl, S'⟩
    · intro a u X hB hu p hr hz hl S
      have e5 : sl a 5 = .slice (slA (sl a 5)) p103.length (slC (sl a 5)) := p 2 rfl
      have e8 : sl a 8 = .slice (slA (sl a 8)) p107.length (slC (sl a 8)) := p 5 rfl
      have e12 : sl a 12 = .slice (slA (sl a 12)) (([] ++ x2).length) (slC (sl a 12)) := p 9 rfl
      exact .inl ⟨rfl, _, u, (run_build (vs := [(0, .slice (slA (sl a 5)) p103.length (slC (sl a 5))), (1, .slice (slA (sl a 8)) p107.length (slC (sl a 8))), (2, .slice (slA (sl a 12)) (([] ++ x2).length) (slC (sl a 12)))]) rfl ⟨⟨rfl, (ev_sl e5)⟩, ⟨rfl, (ev_sl e8)⟩, ⟨rfl, (ev_sl e12)⟩, trivial⟩ (bd41_0_1_2 rfl rfl rfl)), rfl, S⟩
    intro a u X hB hu p hr hz hl S
    replace S : St w u ([.box g102 41 #[.slice none 0 0, .slice none 0 0, .slice none 0 0]] ++ X) := S
    exact .inr (.inl ⟨rfl, _, run_store (cs' := #[.slice (slA (sl a 5)) p103.length (slC (sl a 5)), .slice (slA (sl a 8)) p107.length (slC (sl a 8)), .slice (slA (sl a 12)) (([] ++ x2).length) (slC (sl a 12))]) rfl sz41 (f.evB hB rfl rfl) (ev_sl (p 10 rfl)) rfl rfl rfl (S.free 0 rfl) rfl rfl, trivial, S.put 0 rfl (#[.slice (slA (sl a 5)) p103.length (slC (sl a 5)), .slice (slA (sl a 8)) p107.length (slC (sl a 8)), .slice (slA (sl a 12)) (([] ++ x2).length) (slC (sl a 12))])⟩)
  intro a u hB hp S
  obtain ⟨q0, q1, q2, q3, q4, q5, q6, q7, q8, q9, q10, q11, -⟩ := hp
  have e3 : sl a 3 = .pointer (some ⟨g101, 0, none⟩) := q0
  have e4 : sl a 4 = .slice A0 x0.length c0 := q1
  have e5 : sl a 5 = .slice (slA (sl a 5)) p103.length (slC (sl a 5)) := q2
  have e6 : sl a 6 = .pointer (some ⟨g101, 1, none⟩) := q3
  have e7 : sl a 7 = .slice A1 x1.length c1 := q4
  have e8 : sl a 8 = .slice (slA (sl a 8)) p107.length (slC (sl a 8)) := q5
  have e9 : sl a 9 = .slice (slA (sl a 9)) 0 0 := q6
  have e10 : sl a 10 = .pointer (some ⟨g101, 2, none⟩) := q7
  have e11 : sl a 11 = .slice A2 x2.length c2 := q8
  have e12 : sl a 12 = .slice (slA (sl a 12)) (([] ++ x2).length) (slC (sl a 12)) := q9
  have e13 : sl a 13 = .agg #[.slice (slA (sl a 5)) p103.length (slC (sl a 5)), .slice (slA (sl a 8)) p107.length (slC (sl a 8)), .slice (slA (sl a 12)) (([] ++ x2).length) (slC (sl a 12))] := q10
  replace S : St w u [.row 4 1 (.slice (slA (sl a 5)) p103.length (slC (sl a 5))) p103.length (p103.flatMap eB), .row 4 1 (.slice (slA (sl a 8)) p107.length (slC (sl a 8))) p107.length (p107.flatMap eB), .row 78 2 (.slice (slA (sl a 12)) (([] ++ x2).length) (slC (sl a 12))) (([] ++ x2).length) (([] ++ x2).flatMap ePermit), .box g102 41 #[.slice (slA (sl a 5)) p103.length (slC (sl a 5)), .slice (slA (sl a 8)) p107.length (slC (sl a 8)), .slice (slA (sl a 12)) (([] ++ x2).length) (slC (sl a 12))], .box g101 41 #[.slice A0 x0.length c0, .slice A1 x1.length c1, .slice A2 x2.length c2]] := S
  clear q0 q1 q2 q3 q4 q5 q6 q7 q8 q9 q10 q11
  generalize slA (sl a 5) = B118 at *
  generalize slC (sl a 5) = d119 at *
  generalize slA (sl a 8) = B120 at *
  generalize slC (sl a 8) = d121 at *
  generalize slA (sl a 9) = B122 at *
  generalize slA (sl a 12) = B123 at *
  generalize slC (sl a 12) = d124 at *
  have f := f.region hB [(3, .pointer (some ⟨g101, 0, none⟩)), (4, .slice A0 x0.length c0), (5, .slice B118 p103.length d119), (6, .pointer (some ⟨g101, 1, none⟩)), (7, .slice A1 x1.length c1), (8, .slice B120 p107.length d121), (9, .slice B122 0 0), (10, .pointer (some ⟨g101, 2, none⟩)), (11, .slice A2 x2.length c2), (12, .slice B123 (([] ++ x2).length) d124), (13, .agg #[.slice B118 p103.length d119, .slice B120 p107.length d121, .slice B123 (([] ++ x2).length) d124])] (allSl_mem ⟨e3, e4, e5, e6, e7, e8, e9, e10, e11, e12, e13, trivial⟩) rfl
  clear hB e3 e4 e5 e6 e7 e8 e9 e10 e11 e12 e13
  refine wp_ret ?_
  refine ret1_gw (.inl rfl) f rfl (res_cell (f.ev rfl) (res_loadN ag41 rfl (S.cells 3 rfl 0 #[.slice B118 p103.length d119, .slice B120 p107.length d121, .slice B123 (([] ++ x2).length) d124] rfl))) ?_
  obtain rfl := Option.some.inj hM
  exact ⟨B118, p103.length, d119, B120, p107.length, d121, B123, (([] ++ x2).length), d124, rfl, rfl, rfl, rfl, S.sel [0, 1, 2] rfl rfl⟩
theorem c_spec_l39Copy {x0 : Int} {x1 : List (Int × Int × Int)} {x2 : List (Int × Int)} {x3 : List Bool} {x4 : List Bool} {x5 : List (Int × Int)} {x6 : List Int} {A1 : Option Addr} {n1 c1 : Nat} {A2 : Option Addr} {n2 c2 : Nat} {A3 : Option Addr} {n3 c3 : Nat} {A4 : Option Addr} {n4 c4 : Nat} {A5 : Option Addr} {n5 c5 : Nat} {A6 : Option Addr} {n6 c6 : Nat} {w : World} {r : Int × List (Int × Int × Int) × List (Int × Int) × List Bool × List Bool × List (Int × Int) × List Int} (h1 : Rt w 3 eLine A1 n1 c1 x1) (h2 : Rt w 2 eBus A2 n2 c2 x2) (h3 : Rt w 1 eB A3 n3 c3 x3) (h4 : Rt w 1 eB A4 n4 c4 x4) (h5 : Rt w 2 ePermit A5 n5 c5 x5) (h6 : Rt w 1 eI A6 n6 c6 x6) (hM : m_spec_l39Copy x0 x1 x2 x3 x4 x5 x6 = some r) :
    Calls Tryz.prog 52 #[.agg #[iv x0, .slice A1 n1 c1, .slice A2 n2 c2, .slice A3 n3 c3, .slice A4 n4 c4, .slice A5 n5 c5, .slice A6 n6 c6]] w (fun e w' => ∃ (B0 : Option Addr) (N0 D0 : Nat) (B1 : Option Addr) (N1 D1 : Nat) (B2 : Option Addr) (N2 D2 : Nat) (B3 : Option Addr) (N3 D3 : Nat) (B4 : Option Addr) (N4 D4 : Nat) (B5 : Option Addr) (N5 D5 : Nat), e = .returned (.agg #[iv r.1, .slice B0 N0 D0, .slice B1 N1 D1, .slice B2 N2 D2, .slice B3 N3 D3, .slice B4 N4 D4, .slice B5 N5 D5]) ∧ N0 = r.2.1.length ∧ N1 = r.2.2.1.length ∧ N2 = r.2.2.2.1.length ∧ N3 = r.2.2.2.2.1.length ∧ N4 = r.2.2.2.2.2.1.length ∧ N5 = r.2.2.2.2.2.2.length ∧ St w w' [.row 130 3 (.slice B0 N0 D0) N0 (r.2.1.flatMap eLine), .row 110 2 (.slice B1 N1 D1) N1 (r.2.2.1.flatMap eBus), .row 4 1 (.slice B2 N2 D2) N2 (r.2.2.2.1.flatMap eB), .row 4 1 (.slice B3 N3 D3) N3 (r.2.2.2.2.1.flatMap eB), .row 78 2 (.slice B4 N4 D4) N4 (r.2.2.2.2.2.1.flatMap ePermit), .row 3 1 (.slice B5 N5 D5) N5 (r.2.2.2.2.2.2.flatMap eI)]) := by
  obtain rfl := h1.len
  obtain rfl := h2.len
  obtain rfl := h3.len
  obtain rfl := h4.len
  obtain rfl := h5.len
  obtain rfl := h6.len
  unfold m_spec_l39Copy at hM
  refine calls_gx Tryz.func52 Tryz.ntmps52 rfl rfl ?_
  intro a f
  have S := St.nil w
  refine wsg ?_
  refine op_new (cs := #[iv x0, .slice A1 x1.length c1, .slice A2 x2.length c2, .slice A3 x3.length c3, .slice A4 x4.length c4, .slice A5 x5.length c5, .slice A6 x6.length c6]) rfl rfl f rfl S (run_box rfl (f.ev rfl) rfl) ?_; clear f S; intro a g101 u f S
  refine op_new (cs := #[iv 0, .slice none 0 0, .slice none 0 0, .slice none 0 0, .slice none 0 0, .slice none 0 0, .slice none 0 0]) rfl rfl f rfl S (run_allocZ rfl zr43) ?_; clear f S; intro a g102 u f S
  refine wn ?_
  refine ws ?_
  obtain ⟨hk103, hM⟩ := chk_ex hM
  replace hk103 := apB_t hk103
  refine region_gw (D := [4, 5, 6, 7, 8, 9, 10, 11, 12, 3]) (Lr := [.box g102 43 #[iv 0, .slice none 0 0, .slice none 0 0, .slice none 0 0, .slice none 0 0, .slice none 0 0, .slice none 0 0], .box g101 43 #[iv x0, .slice A1 x1.length c1, .slice A2 x2.length c2, .slice A3 x3.length c3, .slice A4 x4.length c4, .slice A5 x5.length c5, .slice A6 x6.length c6]]) (deps := (fun | 0 => [4] | 1 => [5] | 2 => [6] | 3 => [7] | 4 => [8] | 5 => [9] | 6 => [10] | 7 => [11] | 8 => [12, 11] | 9 => [3] | 10 => [3, 11] | _ => [])) (rd := (fun _ => [])) (zr := (fun _ => []))
    (φ := fun i vs => match i, vs with | 0, [v4] => v4 = .pointer (some ⟨g101, 0, none⟩) | 1, [v5] => v5 = .pointer (some ⟨g101, 0, none⟩) | 2, [v6] => v6 = iv x0 | 3, [v7] => v7 = .slice (slA v7) 0 0 | 4, [v8] => v8 = .pointer (some ⟨g101, 0, none⟩) | 5, [v9] => v9 = .pointer (some ⟨g101, 1, none⟩) | 6, [v10] => v10 = .slice A1 x1.length c1 | 7, [v11] => v11 = .slice (slA v11) (([] ++ x1).length) (slC v11) | 8, [v12, v11] => v12 = .agg #[iv x0, .slice (slA v11) (([] ++ x1).length) (slC v11)] | 9, [v3] => v3 = .pointer (some ⟨ptB v3, 0, none⟩) | _, _ => True)
    (C := fun i vs => match i, vs with | 3, [v7] => [.row 130 3 (.slice (slA v7) 0 0) 0 (([] : List (Int × Int × Int)).flatMap eLine)] | 7, [v11] => [.row 130 3 (.slice (slA v11) (([] ++ x1).length) (slC v11)) (([] ++ x1).length) (([] ++ x1).flatMap eLine)] | 9, [v3] => [.box (ptB v3) 37 #[iv 0, .slice none 0 0]] | 10, [v3, v11] => [.box (ptB v3) 37 #[iv x0, .slice (slA v11) (([] ++ x1).length) (slC v11)]] | _, _ => [])
    (κ := (fun | 3 => some 7 | 9 => some 10 | _ => none)) (Z := (fun _ => [])) mixed f (by kernel_rfl) S ?_ ?_
  · refine ⟨?_, ?_, ?_, ?_, ?_, ?_, ?_, ?_, ?_, ?_, ?_, trivial⟩
    · intro a u X hB hu p hr hz hl S
      exact .inl ⟨rfl, _, u, (run_fieldAddr rfl fl43_0 (f.evB hB rfl rfl) rfl), rfl, S⟩
    · intro a u X hB hu p hr hz hl S
      exact .inl ⟨rfl, _, u, (run_fieldAddr rfl fl37_0 (ev_sl (p 0 rfl)) rfl), rfl, S⟩
    · intro a u X hB hu p hr hz hl S
      exact .inl ⟨rfl, _, u, (run_load1 rfl one3 (ev_sl (p 1 rfl)) ((gr_box S hl 1 rfl).cell rfl)), rfl, S⟩
    · intro a u X hB hu p hr hz hl S
      exact .inl ⟨rfl, _, _, run_buildSlice0 rfl Tryz.underlying35 (congrArg Option.isSome sz130), rfl, S.newrow 130 3 0 #[] rfl (Nat.zero_le _)⟩
    · intro a u X hB hu p hr hz hl S
      exact .inl ⟨rfl, _, u, (run_fieldAddr rfl fl43_0 (f.evB hB rfl rfl) rfl), rfl, S⟩
    · intro a u X hB hu p hr hz hl S
      exact .inl ⟨rfl, _, u, (run_fieldAddr rfl fl37_1 (ev_sl (p 4 rfl)) rfl), rfl, S⟩
    · intro a u X hB hu p hr hz hl S
      exact .inl ⟨rfl, _, u, (run_load1 rfl one35 (ev_sl (p 5 rfl)) ((gr_box S hl 1 rfl).cell rfl)), rfl, S⟩
    · intro a u X hB hu p hr hz hl S
      replace S : St w u ([.row 130 3 (.slice (slA (sl a 7)) 0 0) 0 (([] : List (Int × Int × Int)).flatMap eLine)] ++ X) := S
      obtain ⟨B, d, w', hrun, S'⟩ := S.appendL (i := 0) (P := Tryz.prog) (ty := 35) (lx := []) (ly := x1) (c' := c1) rfl rfl Tryz.underlying35 inf130 rfl (by decide) (S.rc0 h1.rc).rd rfl eLine_one hk103 (by decide)
      exact .inl ⟨rfl, _, w', run_append rfl (ev_sl (p 3 rfl)) (ev_sl (p 6 rfl)) hrun, rfl, S'⟩
    · intro a u X hB hu p hr hz hl S
      have e6 : sl a 6 = iv x0 := p 2 rfl
      have e11 : sl a 11 = .slice (slA (sl a 11)) (([] ++ x1).length) (slC (sl a 11)) := p 7 rfl
      exact .inl ⟨rfl, _, u, (run_build (vs := [(0, iv x0), (1, .slice (slA (sl a 11)) (([] ++ x1).length) (slC (sl a 11)))]) rfl ⟨⟨rfl, (ev_sl e6)⟩, ⟨rfl, (ev_sl e11)⟩, trivial⟩ (bd37_0_1 rfl rfl)), rfl, S⟩
    · intro a u X hB hu p hr hz hl S
      exact .inl ⟨rfl, _, _, (run_allocZ rfl zr37), rfl, S.alloc _ _⟩
    intro a u X hB hu p hr hz hl S
    replace S : St w u ([.box (ptB (sl a 3)) 37 #[iv 0, .slice none 0 0]] ++ X) := S
    exact .inr (.inl ⟨rfl, _, run_store (cs' := #[iv x0, .slice (slA (sl a 11)) (([] ++ x1).length) (slC (sl a 11))]) rfl sz37 (ev_sl (p 9 rfl)) (ev_sl (p 8 rfl)) rfl rfl rfl (S.free 0 rfl) rfl rfl, trivial, S.put 0 rfl (#[iv x0, .slice (slA (sl a 11)) (([] ++ x1).length) (slC (sl a 11))])⟩)
  intro a u hB hp S
  obtain ⟨q0, q1, q2, q3, q4, q5, q6, q7, q8, q9, q10, -⟩ := hp
  have e4 : sl a 4 = .pointer (some ⟨g101, 0, none⟩) := q0
  have e5 : sl a 5 = .pointer (some ⟨g101, 0, none⟩) := q1
  have e6 : sl a 6 = iv x0 := q2
  have e7 : sl a 7 = .slice (slA (sl a 7)) 0 0 := q3
  have e8 : sl a 8 = .pointer (some ⟨g101, 0, none⟩) := q4
  have e9 : sl a 9 = .pointer (some ⟨g101, 1, none⟩) := q5
  have e10 : sl a 10 = .slice A1 x1.length c1 := q6
  have e11 : sl a 11 = .slice (slA (sl a 11)) (([] ++ x1).length) (slC (sl a 11)) := q7
  have e12 : sl a 12 = .agg #[iv x0, .slice (slA (sl a 11)) (([] ++ x1).length) (slC (sl a 11))] := q8
  have e3 : sl a 3 = .pointer (some ⟨ptB (sl a 3), 0, none⟩) := q9
  replace S : St w u [.row 130 3 (.slice (slA (sl a 11)) (([] ++ x1).length) (slC (sl a 11))) (([] ++ x1).length) (([] ++ x1).flatMap eLine), .box (ptB (sl a 3)) 37 #[iv x0, .slice (slA (sl a 11)) (([] ++ x1).length) (slC (sl a 11))], .box g102 43 #[iv 0, .slice none 0 0, .slice none 0 0, .slice none 0 0, .slice none 0 0, .slice none 0 0, .slice none 0 0], .box g101 43 #[iv x0, .slice A1 x1.length c1, .slice A2 x2.length c2, .slice A3 x3.length c3, .slice A4 x4.length c4, .slice A5 x5.length c5, .slice A6 x6.length c6]] := S
  clear q0 q1 q2 q3 q4 q5 q6 q7 q8 q9 q10
  generalize slA (sl a 7) = B104 at *
  generalize slA (sl a 11) = B105 at *
  generalize slC (sl a 11) = d106 at *
  generalize ptB (sl a 3) = g107 at *
  have f := f.region hB [(4, .pointer (some ⟨g101, 0, none⟩)), (5, .pointer (some ⟨g101, 0, none⟩)), (6, iv x0), (7, .slice B104 0 0), (8, .pointer (some ⟨g101, 0, none⟩)), (9, .pointer (some ⟨g101, 1, none⟩)), (10, .slice A1 x1.length c1), (11, .slice B105 (([] ++ x1).length) d106), (12, .agg #[iv x0, .slice B105 (([] ++ x1).length) d106]), (3, .pointer (some ⟨g107, 0, none⟩))] (allSl_mem ⟨e4, e5, e6, e7, e8, e9, e10, e11, e12, e3, trivial⟩) rfl
  clear hB e4 e5 e6 e7 e8 e9 e10 e11 e12 e3
  refine ws ?_
  obtain ⟨hk108, hM⟩ := chk_ex hM
  replace hk108 := apB_t hk108
  obtain ⟨p109, h109, hM⟩ := bind_ex hM
  obtain ⟨hk119, hM⟩ := chk_ex hM
  replace hk119 := apB_t hk119
  refine region_gw (D := [13, 14, 15, 16, 17, 18, 19, 20, 21, 22, 23, 24, 25]) (Lr := [.row 130 3 (.slice B105 (([] ++ x1).length) d106) (([] ++ x1).length) (([] ++ x1).flatMap eLine), .box g107 37 #[iv x0, .slice B105 (([] ++ x1).length) d106], .box g101 43 #[iv x0, .slice A1 x1.length c1, .slice A2 x2.length c2, .slice A3 x3.length c3, .slice A4 x4.length c4, .slice A5 x5.length c5, .slice A6 x6.length c6]]) (deps := (fun | 0 => [13] | 1 => [14] | 2 => [15] | 3 => [16] | 4 => [17] | 5 => [18] | 6 => [19] | 7 => [20] | 8 => [21] | 9 => [22] | 10 => [23] | 11 => [24] | 12 => [25, 17, 20, 24] | 13 => [2, 17, 20, 24] | _ => [])) (rd := (fun _ => [])) (zr := (fun _ => []))
    (φ := fun i vs => match i, vs with | 0, [v13] => v13 = .agg #[iv x0, .slice B105 (([] ++ x1).length) d106] | 1, [v14] => v14 = .slice (slA v14) 0 0 | 2, [v15] => v15 = .pointer (some ⟨g101, 2, none⟩) | 3, [v16] => v16 = .slice A2 x2.length c2 | 4, [v17] => v17 = .slice (slA v17) (([] ++ x2).length) (slC v17) | 5, [v18] => v18 = .pointer (some ⟨g101, 3, none⟩) | 6, [v19] => v19 = .agg #[.slice A3 x3.length c3, .slice A4 x4.length c4, .slice A5 x5.length c5] | 7, [v20] => v20 = .agg #[.slice (slA (vtup v20 0)) p109.1.length (slC (vtup v20 0)), .slice (slA (vtup v20 1)) p109.2.1.length (slC (vtup v20 1)), .slice (slA (vtup v20 2)) p109.2.2.length (slC (vtup v20 2))] | 8, [v21] => v21 = .slice (slA v21) 0 0 | 9, [v22] => v22 = .pointer (some ⟨g101, 6, none⟩) | 10, [v23] => v23 = .slice A6 x6.length c6 | 11, [v24] => v24 = .slice (slA v24) (([] ++ x6).length) (slC v24) | 12, [v25, v17, v20, v24] => v25 = .agg #[iv x0, .slice B105 (([] ++ x1).length) d106, .slice (slA v17) (([] ++ x2).length) (slC v17), .slice (slA (vtup v20 0)) p109.1.length (slC (vtup v20 0)), .slice (slA (vtup v20 1)) p109.2.1.length (slC (vtup v20 1)), .slice (slA (vtup v20 2)) p109.2.2.length (slC (vtup v20 2)), .slice (slA v24) (([] ++ x6).length) (slC v24)] | _, _ => True)
    (C := fun i vs => match i, vs with | 1, [v14] => [.row 110 2 (.slice (slA v14) 0 0) 0 (([] : List (Int × Int)).flatMap eBus)] | 4, [v17] => [.row 110 2 (.slice (slA v17) (([] ++ x2).length) (slC v17)) (([] ++ x2).length) (([] ++ x2).flatMap eBus)] | 7, [v20] => [.row 4 1 (.slice (slA (vtup v20 0)) p109.1.length (slC (vtup v20 0))) p109.1.length (p109.1.flatMap eB), .row 4 1 (.slice (slA (vtup v20 1)) p109.2.1.length (slC (vtup v20 1))) p109.2.1.length (p109.2.1.flatMap eB), .row 78 2 (.slice (slA (vtup v20 2)) p109.2.2.length (slC (vtup v20 2))) p109.2.2.length (p109.2.2.flatMap ePermit)] | 8, [v21] => [.row 3 1 (.slice (slA v21) 0 0) 0 (([] : List Int).flatMap eI)] | 11, [v24] => [.row 3 1 (.slice (slA v24) (([] ++ x6).length) (slC v24)) (([] ++ x6).length) (([] ++ x6).flatMap eI)] | 13, [v2, v17, v20, v24] => [.box g102 43 #[iv x0, .slice B105 (([] ++ x1).length) d106, .slice (slA v17) (([] ++ x2).length) (slC v17), .slice (slA (vtup v20 0)) p109.1.length (slC (vtup v20 0)), .slice (slA (vtup v20 1)) p109.2.1.length (slC (vtup v20 1)), .slice (slA (vtup v20 2)) p109.2.2.length (slC (vtup v20 2)), .slice (slA v24) (([] ++ x6).length) (slC v24)]] | _, _ => [])
    (κ := (fun | 1 => some 4 | 8 => some 11 | _ => none)) (Z := (fun | 13 => [.box g102 43 #[iv 0, .slice none 0 0, .slice none 0 0, .slice none 0 0, .slice none 0 0, .slice none 0 0, .slice none 0 0]] | _ => [])) mixed f (by kernel_rfl) (show St w _ [.box g102 43 #[iv 0, .slice none 0 0, .slice none 0 0, .slice none 0 0, .slice none 0 0, .slice none 0 0, .slice none 0 0], .row 130 3 (.slice B105 (([] ++ x1).length) d106) (([] ++ x1).length) (([] ++ x1).flatMap eLine), .box g107 37 #[iv x0, .slice B105 (([] ++ x1).length) d106], .box g101 43 #[iv x0, .slice A1 x1.length c1, .slice A2 x2.length c2, .slice A3 x3.length c3, .slice A4 x4.length c4, .slice A5 x5.length c5, .slice A6 x6.length c6]] from S.sel [2, 0, 1, 3] rfl rfl) ?_ ?_
  · refine ⟨?_, ?_, ?_, ?_, ?_, ?_, ?_, ?_, ?_, ?_, ?_, ?_, ?_, ?_, trivial⟩
    · intro a u X hB hu p hr hz hl S
      exact .inl ⟨rfl, _, u, (run_loadN rfl ag37 (f.evB hB rfl rfl) rfl ((gr_box S hl 1 rfl).cells 0 #[iv x0, .slice B105 (([] ++ x1).length) d106] rfl)), rfl, S⟩
    · intro a u X hB hu p hr hz hl S
      exact .inl ⟨rfl, _, _, run_buildSlice0 rfl Tryz.underlying38 (congrArg Option.isSome sz110), rfl, S.newrow 110 2 0 #[] rfl (Nat.zero_le _)⟩
    · intro a u X hB hu p hr hz hl S
      exact .inl ⟨rfl, _, u, (run_fieldAddr rfl fl43_1 (f.evB hB rfl rfl) rfl), rfl, S⟩
    · intro a u X hB hu p hr hz hl S
      exact .inl ⟨rfl, _, u, (run_load1 rfl one38 (ev_sl (p 2 rfl)) ((gr_box S hl 2 rfl).cell rfl)), rfl, S⟩
    · intro a u X hB hu p hr hz hl S
      replace S : St w u ([.row 110 2 (.slice (slA (sl a 14)) 0 0) 0 (([] : List (Int × Int)).flatMap eBus)] ++ X) := S
      obtain ⟨B, d, w', hrun, S'⟩ := S.appendL (i := 0) (P := Tryz.prog) (ty := 38) (lx := []) (ly := x2) (c' := c2) rfl rfl Tryz.underlying38 inf110 rfl (by decide) (S.rc0 h2.rc).rd rfl eBus_one hk108 (by decide)
      exact .inl ⟨rfl, _, w', run_append rfl (ev_sl (p 1 rfl)) (ev_sl (p 3 rfl)) hrun, rfl, S'⟩
    · intro a u X hB hu p hr hz hl S
      exact .inl ⟨rfl, _, u, (run_fieldAddr rfl fl43_2 (f.evB hB rfl rfl) rfl), rfl, S⟩
    · intro a u X hB hu p hr hz hl S
      exact .inl ⟨rfl, _, u, (run_loadN rfl ag41 (ev_sl (p 5 rfl)) rfl ((gr_box S hl 2 rfl).cells 3 #[.slice A3 x3.length c3, .slice A4 x4.length c4, .slice A5 x5.length c5] rfl)), rfl, S⟩
    · intro a u X hB hu p hr hz hl S
      refine .inr (.inr (.inl ⟨rfl, _, _, (run_call (vs := [.agg #[.slice A3 x3.length c3, .slice A4 x4.length c4, .slice A5 x5.length c5]]) rfl rfl co88 ⟨(ev_sl (p 6 rfl)), trivial⟩), ?_⟩))
      refine Calls.mono (c_spec_l12Copy (x0 := x3) (x1 := x4) (x2 := x5) ⟨(S.rc0 h3.rc), rfl⟩ ⟨(S.rc0 h4.rc), rfl⟩ ⟨(S.rc0 h5.rc), rfl⟩ h109) ?_
      rintro e w1 ⟨B120, n121, d122, B123, n124, d125, B126, n127, d128, rfl, rfl, rfl, rfl, T⟩
      exact ⟨_, rfl, rfl, S.call3 T⟩
    · intro a u X hB hu p hr hz hl S
      exact .inl ⟨rfl, _, _, run_buildSlice0 rfl Tryz.underlying30 (congrArg Option.isSome sz3), rfl, S.newrow 3 1 0 #[] rfl (Nat.zero_le _)⟩
    · intro a u X hB hu p hr hz hl S
      exact .inl ⟨rfl, _, u, (run_fieldAddr rfl fl43_3 (f.evB hB rfl rfl) rfl), rfl, S⟩
    · intro a u X hB hu p hr hz hl S
      exact .inl ⟨rfl, _, u, (run_load1 rfl one30 (ev_sl (p 9 rfl)) ((gr_box S hl 2 rfl).cell rfl)), rfl, S⟩
    · intro a u X hB hu p hr hz hl S
      replace S : St w u ([.row 3 1 (.slice (slA (sl a 21)) 0 0) 0 (([] : List Int).flatMap eI)] ++ X) := S
      obtain ⟨B, d, w', hrun, S'⟩ := S.appendL (i := 0) (P := Tryz.prog) (ty := 30) (lx := []) (ly := x6) (c' := c6) rfl rfl Tryz.underlying30 inf3 rfl (by decide) (S.rc0 h6.rc).rd rfl eI_one hk119 (by decide)
      exact .inl ⟨rfl, _, w', run_append rfl (ev_sl (p 8 rfl)) (ev_sl (p 10 rfl)) hrun, rfl, S'⟩
    · intro a u X hB hu p hr hz hl S
      have e13 : sl a 13 = .agg #[iv x0, .slice B105 (([] ++ x1).length) d106] := p 0 rfl
      have e17 : sl a 17 = .slice (slA (sl a 17)) (([] ++ x2).length) (slC (sl a 17)) := p 4 rfl
      have e20 : sl a 20 = .agg #[.slice (slA (vtup (sl a 20) 0)) p109.1.length (slC (vtup (sl a 20) 0)), .slice (slA (vtup (sl a 20) 1)) p109.2.1.length (slC (vtup (sl a 20) 1)), .slice (slA (vtup (sl a 20) 2)) p109.2.2.length (slC (vtup (sl a 20) 2))] := p 7 rfl
      have e24 : sl a 24 = .slice (slA (sl a 24)) (([] ++ x6).length) (slC (sl a 24)) := p 11 rfl
      exact .inl ⟨rfl, _, u, (run_build (vs := [(0, .agg #[iv x0, .slice B105 (([] ++ x1).length) d106]), (1, .slice (slA (sl a 17)) (([] ++ x2).length) (slC (sl a 17))), (2, .agg #[.slice (slA (vtup (sl a 20) 0)) p109.1.length (slC (vtup (sl a 20) 0)), .slice (slA (vtup (sl a 20) 1)) p109.2.1.length (slC (vtup (sl a 20) 1)), .slice (slA (vtup (sl a 20) 2)) p109.2.2.length (slC (vtup (sl a 20) 2))]), (3, .slice (slA (sl a 24)) (([] ++ x6).length) (slC (sl a 24)))]) rfl ⟨⟨rfl, (ev_sl e13)⟩, ⟨rfl, (ev_sl e17)⟩, ⟨rfl, (ev_sl e20)⟩, ⟨rfl, (ev_sl e24)⟩, trivial⟩ (bd43_0x2_1_2x3_3 rfl rfl)), rfl, S⟩
    intro a u X hB hu p hr hz hl S
    replace S : St w u ([.box g102 43 #[iv 0, .slice none 0 0, .slice none 0 0, .slice none 0 0, .slice none 0 0, .slice none 0 0, .slice none 0 0]] ++ X) := S
    exact .inr (.inl ⟨rfl, _, run_store (cs' := #[iv x0, .slice B105 (([] ++ x1).length) d106, .slice (slA (sl a 17)) (([] ++ x2).length) (slC (sl a 17)), .slice (slA (vtup (sl a 20) 0)) p109.1.length (slC (vtup (sl a 20) 0)), .slice (slA (vtup (sl a 20) 1)) p109.2.1.length (slC (vtup (sl a 20) 1)), .slice (slA (vtup (sl a 20) 2)) p109.2.2.length (slC (vtup (sl a 20) 2)), .slice (slA (sl a 24)) (([] ++ x6).length) (slC (sl a 24))]) rfl sz43 (f.evB hB rfl rfl) (ev_sl (p 12 rfl)) rfl rfl rfl (S.free 0 rfl) rfl rfl, trivial, S.put 0 rfl (#[iv x0, .slice B105 (([] ++ x1).length) d106, .slice (slA (sl a 17)) (([] ++ x2).length) (slC (sl a 17)), .slice (slA (vtup (sl a 20) 0)) p109.1.length (slC (vtup (sl a 20) 0)), .slice (slA (vtup (sl a 20) 1)) p109.2.1.length (slC (vtup (sl a 20) 1)), .slice (slA (vtup (sl a 20) 2)) p109.2.2.length (slC (vtup (sl a 20) 2)), .slice (slA (sl a 24)) (([] ++ x6).length) (slC (sl a 24))])⟩)
  intro a u hB hp S
  obtain ⟨q0, q1, q2, q3, q4, q5, q6, q7, q8, q9, q10, q11, q12, q13, -⟩ := hp
  have e13 : sl a 13 = .agg #[iv x0, .slice B105 (([] ++ x1).length) d106] := q0
  have e14 : sl a 14 = .slice (slA (sl a 14)) 0 0 := q1
  have e15 : sl a 15 = .pointer (some ⟨g101, 2, none⟩) := q2
  have e16 : sl a 16 = .slice A2 x2.length c2 := q3
  have e17 : sl a 17 = .slice (slA (sl a 17)) (([] ++ x2).length) (slC (sl a 17)) := q4
  have e18 : sl a 18 = .pointer (some ⟨g101, 3, none⟩) := q5
  have e19 : sl a 19 = .agg #[.slice A3 x3.length c3, .slice A4 x4.length c4, .slice A5 x5.length c5] := q6
  have e20 : sl a 20 = .agg #[.slice (slA (vtup (sl a 20) 0)) p109.1.length (slC (vtup (sl a 20) 0)), .slice (slA (vtup (sl a 20) 1)) p109.2.1.length (slC (vtup (sl a 20) 1)), .slice (slA (vtup (sl a 20) 2)) p109.2.2.length (slC (vtup (sl a 20) 2))] := q7
  have e21 : sl a 21 = .slice (slA (sl a 21)) 0 0 := q8
  have e22 : sl a 22 = .pointer (some ⟨g101, 6, none⟩) := q9
  have e23 : sl a 23 = .slice A6 x6.length c6 := q10
  have e24 : sl a 24 = .slice (slA (sl a 24)) (([] ++ x6).length) (slC (sl a 24)) := q11
  have e25 : sl a 25 = .agg #[iv x0, .slice B105 (([] ++ x1).length) d106, .slice (slA (sl a 17)) (([] ++ x2).length) (slC (sl a 17)), .slice (slA (vtup (sl a 20) 0)) p109.1.length (slC (vtup (sl a 20) 0)), .slice (slA (vtup (sl a 20) 1)) p109.2.1.length (slC (vtup (sl a 20) 1)), .slice (slA (vtup (sl a 20) 2)) p109.2.2.length (slC (vtup (sl a 20) 2)), .slice (slA (sl a 24)) (([] ++ x6).length) (slC (sl a 24))] := q12
  replace S : St w u [.row 110 2 (.slice (slA (sl a 17)) (([] ++ x2).length) (slC (sl a 17))) (([] ++ x2).length) (([] ++ x2).flatMap eBus), .row 4 1 (.slice (slA (vtup (sl a 20) 0)) p109.1.length (slC (vtup (sl a 20) 0))) p109.1.length (p109.1.flatMap eB), .row 4 1 (.slice (slA (vtup (sl a 20) 1)) p109.2.1.length (slC (vtup (sl a 20) 1))) p109.2.1.length (p109.2.1.flatMap eB), .row 78 2 (.slice (slA (vtup (sl a 20) 2)) p109.2.2.length (slC (vtup (sl a 20) 2))) p109.2.2.length (p109.2.2.flatMap ePermit), .row 3 1 (.slice (slA (sl a 24)) (([] ++ x6).length) (slC (sl a 24))) (([] ++ x6).length) (([] ++ x6).flatMap eI), .box g102 43 #[iv x0, .slice B105 (([] ++ x1).length) d106, .slice (slA (sl a 17)) (([] ++ x2).length) (slC (sl a 17)), .slice (slA (vtup (sl a 20) 0)) p109.1.length (slC (vtup (sl a 20) 0)), .slice (slA (vtup (sl a 20) 1)) p109.2.1.length (slC (vtup (sl a 20) 1)), .slice (slA (vtup (sl a 20) 2)) p109.2.2.length (slC (vtup (sl a 20) 2)), .slice (slA (sl a 24)) (([] ++ x6).length) (slC (sl a 24))], .row 130 3 (.slice B105 (([] ++ x1).length) d106) (([] ++ x1).length) (([] ++ x1).flatMap eLine), .box g107 37 #[iv x0, .slice B105 (([] ++ x1).length) d106], .box g101 43 #[iv x0, .slice A1 x1.length c1, .slice A2 x2.length c2, .slice A3 x3.length c3, .slice A4 x4.length c4, .slice A5 x5.length c5, .slice A6 x6.length c6]] := S
  clear q0 q1 q2 q3 q4 q5 q6 q7 q8 q9 q10 q11 q12 q13
  generalize slA (sl a 14) = B129 at *
  generalize slA (sl a 17) = B130 at *
  generalize slC (sl a 17) = d131 at *
  generalize slA (vtup (sl a 20) 0) = B132 at *
  generalize slC (vtup (sl a 20) 0) = d133 at *
  generalize slA (vtup (sl a 20) 1) = B134 at *
  generalize slC (vtup (sl a 20) 1) = d135 at *
  generalize slA (vtup (sl a 20) 2) = B136 at *
  generalize slC (vtup (sl a 20) 2) = d137 at *
  generalize slA (sl a 21) = B138 at *
  generalize slA (sl a 24) = B139 at *
  generalize slC (sl a 24) = d140 at *
  have f := f.region hB [(13, .agg #[iv x0, .slice B105 (([] ++ x1).length) d106]), (14, .slice B129 0 0), (15, .pointer (some ⟨g101, 2, none⟩)), (16, .slice A2 x2.length c2), (17, .slice B130 (([] ++ x2).length) d131), (18, .pointer (some ⟨g101, 3, none⟩)), (19, .agg #[.slice A3 x3.length c3, .slice A4 x4.length c4, .slice A5 x5.length c5]), (20, .agg #[.slice B132 p109.1.length d133, .slice B134 p109.2.1.length d135, .slice B136 p109.2.2.length d137]), (21, .slice B138 0 0), (22, .pointer (some ⟨g101, 6, none⟩)), (23, .slice A6 x6.length c6), (24, .slice B139 (([] ++ x6).length) d140), (25, .agg #[iv x0, .slice B105 (([] ++ x1).length) d106, .slice B130 (([] ++ x2).length) d131, .slice B132 p109.1.length d133, .slice B134 p109.2.1.length d135, .slice B136 p109.2.2.length d137, .slice B139 (([] ++ x6).length) d140])] (allSl_mem ⟨e13, e14, e15, e16, e17, e18, e19, e20, e21, e22, e23, e24, e25, trivial⟩) rfl
  clear hB e13 e14 e15 e16 e17 e18 e19 e20 e21 e22 e23 e24 e25
  refine wp_ret ?_
  refine ret1_gw (.inl rfl) f rfl (res_cell (f.ev rfl) (res_loadN ag43 rfl (S.cells 5 rfl 0 #[iv x0, .slice B105 (([] ++ x1).length) d106, .slice B130 (([] ++ x2).length) d131, .slice B132 p109.1.length d133, .slice B134 p109.2.1.length d135, .slice B136 p109.2.2.length d137, .slice B139 (([] ++ x6).length) d140] rfl))) ?_
  obtain rfl := Option.some.inj hM
  exact ⟨B105, (([] ++ x1).length), d106, B130, (([] ++ x2).length), d131, B132, p109.1.length, d133, B134, p109.2.1.length, d135, B136, p109.2.2.length, d137, B139, (([] ++ x6).length), d140, rfl, rfl, rfl, rfl, rfl, rfl, rfl, S.sel [6, 0, 1, 2, 3, 4] rfl rfl⟩
theorem c_spec_WorkHeld {x0:List Bool} {x1:List Bool} {x2:List (Int×Int)} {x3:Int} {A0:Option Addr} {n0 c0:Nat} {A1:Option Addr} {n1 c1:Nat} {A2:Option Addr} {n2 c2:Nat} {w:World} {r:List Int} (h0:Rt w 1 eB A0 n0 c0 x0) (h1:Rt w 1 eB A1 n1 c1 x1) (h2:Rt w 2 ePermit A2 n2 c2 x2) (hM : m_spec_WorkHeld x0 x1 x2 x3=some r) :
  Calls Tryz.prog 54 #[.agg #[.slice A0 n0 c0,.slice A1 n1 c1,.slice A2 n2 c2],iv x3] w (fun e w'=>∃ (B0:Option Addr) (N0 D0:Nat),e=.returned (.slice B0 N0 D0)∧N0=r.length∧St w w' [.row 3 1 (.slice B0 N0 D0) N0 (r.flatMap eI)]):=by
 obtain rfl:=h0.len
 obtain rfl:=h1.len
 obtain rfl:=h2.len
 unfold m_spec_WorkHeld at hM
 refine calls_gx Tryz.func54 Tryz.ntmps54 rfl rfl ?_
 intro a f
 have S:=St.nil w
 refine wsg ?_
 refine op_new (cs:=#[.slice A0 x0.length c0,.slice A1 x1.length c1,.slice A2 x2.length c2]) rfl rfl f rfl S (run_box rfl (f.ev rfl) rfl) ?_;clear f S;intro a g101 u f S
 revert a;refine ov rfl (fun a f=>run_assign rfl rfl) fun a f=>wn ?_
 refine wsg ?_
 refine op_newrow (cs:=#[]) (size:=1) rfl rfl f rfl S (run_buildSlice0 rfl Tryz.underlying30 (congrArg Option.isSome sz3)) rfl (Nat.zero_le _) ?_;clear f S;intro a g102 u f S
 revert a;refine ag rfl rfl fun a f=>wn ?_
 refine ws ?_
 revert a;refine sr (ov rfl (fun a f=>run_assign rfl rfl) fun a f=>wn ?_)
 obtain ⟨o104,hM107,hM⟩:=bind_ex hM
 refine wp_cut (fun a u=>∃ (p103:List Int) (B105:Option Addr) (d106:Nat),p103=o104∧Fr a 37 [(4,.slice none 0 0),(5,.slice B105 p103.length d106)]∧St w u [.row 3 1 (.slice B105 p103.length d106) p103.length (p103.flatMap eI)]) ?_ ?_
 ·have _:=trivial
  refine wp_block ?_
  refine loop_gw (fun m a u=>∃ (p108:List Int×Int) (B109:Option Addr) (d110:Nat),m_spec_WorkHeld_l1 x0 x1 x2 x3 m p108=some _∧Fr a 37 [(1,iv x3),(2,.pointer (some ⟨g101,0,none⟩)),(4,.slice none 0 0),(5,.slice B109 p108.1.length d110),(6,iv p108.2)]∧St w u [.box g101 41 #[.slice A0 x0.length c0,.slice A1 x1.length c1,.slice A2 x2.length c2],.row 3 1 (.slice B109 p108.1.length d110) p108.1.length (p108.1.flatMap eI)]) FUEL ⟨(([]:List Int),0),(some ⟨g102,0,none⟩),0,hM107,f.keep _ ⟨rfl,rfl,rfl,rfl,rfl,trivial⟩,S.sel [1,0] rfl rfl⟩ ?_
  clear f S hM107;rintro m a u ⟨p108,B109,d110,hM107,f,S⟩
  rcases m with _ | f1
  ·exact none_some hM107
  rw [m_spec_WorkHeld_l1.eq_2] at hM107
  refine ws ?_
  revert a;refine sr (mv rfl rfl (ov rfl (fun a f=>run_fieldAddr rfl fl41_2 (f.ev rfl) rfl) (ov rfl (fun a f=>run_load1 rfl one39 (f.ev rfl) (S.cell 0 rfl rfl)) (ov rfl (fun a f=>run_lenL rfl rfl Tryz.underlying39 (f.ev rfl)) (ov rfl (fun a f=>run_lss (f.ev rfl) (f.ev rfl) rfl) (mv rfl rfl fun a f=>?_))))))
  revert a;refine gt rfl rfl rfl rfl (fun a f hg=>run_loadN rfl ag41 (f.ev rfl) rfl ((S.free 0 rfl).cells 0 #[.slice A0 x0.length c0,.slice A1 x1.length c1,.slice A2 x2.length c2] rfl)) fun a f=>?_
  obtain ⟨p111,h111,hM107⟩:=bind_ex hM107
  refine op_gcall (v:=.bool p111) rfl rfl f rfl S (yt (gw_yield f rfl rfl rfl)) (fun hg=>(run_call (vs:=[.agg #[.slice A0 x0.length c0,.slice A1 x1.length c1,.slice A2 x2.length c2]]) rfl rfl co69 ⟨((f.ev rfl).trans (gv_t hg)),trivial⟩)) (fun hg=>c_spec_WorkValid (x0:=x0) (x1:=x1) (x2:=x2) ⟨(S.rc0 h0.rc),rfl⟩ ⟨(S.rc0 h1.rc),rfl⟩ ⟨(S.rc0 h2.rc),rfl⟩ (gb_t h111 hg)) ?_;clear f S;intro a u f S
  revert a;refine ov rfl (fun a f=>run_pick_and rfl (f.ev rfl) (fun hp=>((f.ev rfl).trans (gv_t hp))) rfl) fun a f=>wn ?_
  cases hc112:((ltB p108.2 (x2.length:Int))&&p111)
  ·replace hM107:=bif_f hc112 hM107
   refine cond_f f rfl hc112 ?_
   refine wp_exit ?_
   repeat with_reducible first|apply then_exit|apply in_hit|refine in_miss rfl ?_
   obtain rfl:=Option.some.inj hM107
   exact ⟨p108.1,B109,d110,rfl,f.keep _ ⟨rfl,rfl,trivial⟩,S.sel [1] rfl rfl⟩
  replace hM107:=bif_t hc112 hM107
  refine cond_t f rfl hc112 ?_
  refine wp_skip ?_
  refine ws ?_
  refine wp_block ?_
  revert a;refine sr (ov rfl (fun a f=>run_fieldAddr rfl fl41_2 (f.ev rfl) rfl) (ov rfl (fun a f=>run_load1 rfl one39 (f.ev rfl) (S.cell 0 rfl rfl)) (mv rfl rfl fun a f=>?_)))
  obtain ⟨hk113,hM107⟩:=chk_ex hM107
  replace hk113:=ixB_t hk113
  revert a;refine ov rfl (fun a f=>run_ix rfl Tryz.underlying39 sz78 (f.ev rfl) (S.rc0 h2.rc) (f.ev rfl) hk113) (ov rfl (fun a f=>run_fieldAddr rfl fl78_1 (f.ev rfl) rfl) (ov rfl (fun a f=>run_load1 rfl one3 (f.ev rfl) (rd_el (l:=x2) (S.rc0 h2.rc).rd rfl ePermit_len (0,0) (ix_ltn hk113 rfl) rfl)) (mv rfl rfl (ov rfl (fun a f=>run_eql (f.ev rfl) (f.ev rfl) rfl) fun a f=>wn ?_))))
  obtain ⟨o115,hM118,hM107⟩:=bind_ex hM107
  refine wp_cut (fun a u=>∃ (p114:List Int) (B116:Option Addr) (d117:Nat),p114=o115∧Fr a 37 [(1,iv x3),(2,.pointer (some ⟨g101,0,none⟩)),(4,.slice none 0 0),(5,.slice B116 p114.length d117),(6,iv p108.2)]∧St w u [.box g101 41 #[.slice A0 x0.length c0,.slice A1 x1.length c1,.slice A2 x2.length c2],.row 3 1 (.slice B116 p114.length d117) p114.length (p114.flatMap eI)]) ?_ ?_
  ·have _:=trivial
   cases hc119:(((x2.getD p108.2.toNat (0,0)).2)==x3)
   ·replace hM118:=bif_f hc119 hM118
    refine cond_f f rfl hc119 ?_
    refine wp_skip ?_
    obtain rfl:=Option.some.inj hM118
    exact ⟨p108.1,B109,d110,rfl,f.keep _ ⟨rfl,rfl,rfl,rfl,rfl,trivial⟩,S.sel [0,1] rfl rfl⟩
   replace hM118:=bif_t hc119 hM118
   refine cond_t f rfl hc119 ?_
   revert a;refine rl (mv rfl rfl (ov rfl (fun a f=>run_fieldAddr rfl fl41_2 (f.ev rfl) rfl) (ov rfl (fun a f=>run_load1 rfl one39 (f.ev rfl) (S.cell 0 rfl rfl)) (mv rfl rfl fun a f=>?_))))
   obtain ⟨hk120,hM118⟩:=chk_ex hM118
   replace hk120:=ixB_t hk120
   revert a;refine ov rfl (fun a f=>run_ix rfl Tryz.underlying39 sz78 (f.ev rfl) (S.rc0 h2.rc) (f.ev rfl) hk120) (ov rfl (fun a f=>run_fieldAddr rfl fl78_0 (f.ev rfl) rfl) (ov rfl (fun a f=>run_load1 rfl one3 (f.ev rfl) (rd_el0 (l:=x2) (S.rc0 h2.rc).rd rfl ePermit_len (0,0) (ix_ltn hk120 rfl) rfl)) fun a f=>?_))
   refine op_newrowL (ls:=(([(x2.getD p108.2.toNat (0,0)).1]:List Int):List Int)) (e:=eI) rfl rfl f rfl S (run_buildS (vs:=[(0,iv ((x2.getD p108.2.toNat (0,0)).1))]) rfl ⟨⟨rfl,(f.ev rfl)⟩,trivial⟩ (bs30_1_0 rfl)) rfl eI_len (Nat.le_of_ble_eq_true rfl) ?_;clear f S;intro a g121 u f S
   obtain ⟨hk124,hM118⟩:=chk_ex hM118
   replace hk124:=apB_t hk124
   refine op_appendL (lx:=p108.1) (ly:=([(x2.getD p108.2.toNat (0,0)).1]:List Int)) rfl rfl f rfl S rfl (f.ev rfl) (f.ev rfl) (i:=2) rfl rfl Tryz.underlying30 inf3 rfl (by decide) (S.rc 0 rfl).rd rfl eI_one hk124 (by decide) ?_;clear f S;intro a B122 d123 u f S
   revert a;refine ag rfl rfl fun a f=>wn ?_
   obtain rfl:=Option.some.inj hM118
   exact ⟨p108.1++([(x2.getD p108.2.toNat (0,0)).1]:List Int),B122,d123,rfl,f.keep _ ⟨rfl,rfl,rfl,rfl,rfl,trivial⟩,S.sel [1,2] rfl rfl⟩
  rintro a u ⟨p114,B116,d117,rfl,f,S⟩
  revert a;refine rl (mv rfl rfl (ov rfl (fun a f=>run_add (z:=w64 (p108.2+1)) (f.ev rfl) rfl rfl rfl) (ag rfl rfl fun a f=>wn ?_)))
  exact ⟨f1,Nat.lt_succ_self _,(p114,w64 (p108.2+1)),B116,d117,hM107,f.keep _ ⟨rfl,rfl,rfl,rfl,rfl,trivial⟩,S.sel [0,1] rfl rfl⟩
 rintro a u ⟨p103,B105,d106,rfl,f,S⟩
 revert a;refine sr (mv rfl rfl (ag rfl rfl fun a f=>wn ?_))
 refine wp_ret ?_
 refine ret1_gw (.inl rfl) f rfl (res_tmp (f.ev rfl)) ?_
 obtain rfl:=Option.some.inj hM
 exact ⟨B105,p103.length,d106,rfl,rfl,S.sel [0] rfl rfl⟩
theorem c_spec_l39Mend {x0:Int} {x1:List (Int×Int×Int)} {x2:List (Int×Int)} {x3:List Bool} {x4:List Bool} {x5:List (Int×Int)} {x6:List Int} {x7:Int} {A1:Option Addr} {n1 c1:Nat} {A2:Option Addr} {n2 c2:Nat} {A3:Option Addr} {n3 c3:Nat} {A4:Option Addr} {n4 c4:Nat} {A5:Option Addr} {n5 c5:Nat} {A6:Option Addr} {n6 c6:Nat} {w:World} {r:Int×List (Int×Int×Int)×List (Int×Int)×List Bool×List Bool×List (Int×Int)×List Int} (h1:Rt w 3 eLine A1 n1 c1 x1) (h2:Rt w 2 eBus A2 n2 c2 x2) (h3:Rt w 1 eB A3 n3 c3 x3) (h4:Rt w 1 eB A4 n4 c4 x4) (h5:Rt w 2 ePermit A5 n5 c5 x5) (h6:Rt w 1 eI A6 n6 c6 x6) (hM : m_spec_l39Mend x0 x1 x2 x3 x4 x5 x6 x7=some r) :
  Calls Tryz.prog 55 #[.agg #[iv x0,.slice A1 n1 c1,.slice A2 n2 c2,.slice A3 n3 c3,.slice A4 n4 c4,.slice A5 n5 c5,.slice A6 n6 c6],iv x7] w (fun e w'=>∃ (B0:Option Addr) (N0 D0:Nat) (B1:Option Addr) (N1 D1:Nat) (B2:Option Addr) (N2 D2:Nat) (B3:Option Addr) (N3 D3:Nat) (B4:Option Addr) (N4 D4:Nat) (B5:Option Addr) (N5 D5:Nat),e=.returned (.agg #[iv r.1,.slice B0 N0 D0,.slice B1 N1 D1,.slice B2 N2 D2,.slice B3 N3 D3,.slice B4 N4 D4,.slice B5 N5 D5])∧N0=r.2.1.length∧N1=r.2.2.1.length∧N2=r.2.2.2.1.length∧N3=r.2.2.2.2.1.length∧N4=r.2.2.2.2.2.1.length∧N5=r.2.2.2.2.2.2.length∧St w w' [.row 130 3 (.slice B0 N0 D0) N0 (r.2.1.flatMap eLine),.row 110 2 (.slice B1 N1 D1) N1 (r.2.2.1.flatMap eBus),.row 4 1 (.slice B2 N2 D2) N2 (r.2.2.2.1.flatMap eB),.row 4 1 (.slice B3 N3 D3) N3 (r.2.2.2.2.1.flatMap eB),.row 78 2 (.slice B4 N4 D4) N4 (r.2.2.2.2.2.1.flatMap ePermit),.row 3 1 (.slice B5 N5 D5) N5 (r.2.2.2.2.2.2.flatMap eI)]):=by
 obtain rfl:=h1.len
 obtain rfl:=h2.len
 obtain rfl:=h3.len
 obtain rfl:=h4.len
 obtain rfl:=h5.len
 obtain rfl:=h6.len
 unfold m_spec_l39Mend at hM
 refine calls_gx Tryz.func55 Tryz.ntmps55 rfl rfl ?_
 intro a f
 have S:=St.nil w
 refine wsg ?_
 refine op_new (cs:=#[iv x0,.slice A1 x1.length c1,.slice A2 x2.length c2,.slice A3 x3.length c3,.slice A4 x4.length c4,.slice A5 x5.length c5,.slice A6 x6.length c6]) rfl rfl f rfl S (run_box rfl (f.ev rfl) rfl) ?_;clear f S;intro a g101 u f S
 refine op_new (cs:=#[iv 0,.slice none 0 0,.slice none 0 0,.slice none 0 0,.slice none 0 0,.slice none 0 0,.slice none 0 0]) rfl rfl f rfl S (run_allocZ rfl zr43) ?_;clear f S;intro a g102 u f S
 refine wn ?_
 revert a;refine sr (ov rfl (fun a f=>run_loadN rfl ag43 (f.ev rfl) rfl ((S.free 1 rfl).cells 0 #[iv x0,.slice A1 x1.length c1,.slice A2 x2.length c2,.slice A3 x3.length c3,.slice A4 x4.length c4,.slice A5 x5.length c5,.slice A6 x6.length c6] rfl)) fun a f=>?_)
 obtain ⟨p103,h103,hM⟩:=bind_ex hM
 refine op_call rfl rfl f rfl (run_call (vs:=[_]) rfl rfl co52 ⟨(f.ev rfl),trivial⟩) (c_spec_l39Copy ⟨(S.rc0 h1.rc),rfl⟩ ⟨(S.rc0 h2.rc),rfl⟩ ⟨(S.rc0 h3.rc),rfl⟩ ⟨(S.rc0 h4.rc),rfl⟩ ⟨(S.rc0 h5.rc),rfl⟩ ⟨(S.rc0 h6.rc),rfl⟩ h103) ?_
 rintro e u ⟨B104,n105,d106,B107,n108,d109,B110,n111,d112,B113,n114,d115,B116,n117,d118,B119,n120,d121,rfl,rfl,rfl,rfl,rfl,rfl,rfl,T⟩
 refine ⟨_,rfl,?_⟩
 clear f;intro a f
 replace S:=S.call6 T;clear T
 refine op_new (cs:=#[iv 0,.slice none 0 0,.slice none 0 0,.slice none 0 0,.slice none 0 0,.slice none 0 0,.slice none 0 0]) rfl rfl f rfl S (run_allocZ rfl zr43) ?_;clear f S;intro a g122 u f S
 refine op_do rfl rfl (run_store (cs':=#[iv p103.1,.slice B104 p103.2.1.length d106,.slice B107 p103.2.2.1.length d109,.slice B110 p103.2.2.2.1.length d112,.slice B113 p103.2.2.2.2.1.length d115,.slice B116 p103.2.2.2.2.2.1.length d118,.slice B119 p103.2.2.2.2.2.2.length d121]) rfl sz43 (f.ev rfl) (f.ev rfl) rfl rfl rfl (S.free 0 rfl) rfl rfl) ?_;replace S:=S.put 0 rfl (#[iv p103.1,.slice B104 p103.2.1.length d106,.slice B107 p103.2.2.1.length d109,.slice B110 p103.2.2.2.1.length d112,.slice B113 p103.2.2.2.2.1.length d115,.slice B116 p103.2.2.2.2.2.1.length d118,.slice B119 p103.2.2.2.2.2.2.length d121])
 generalize World.setRow _ _ _=u at S ⊢
 refine wn ?_
 refine wsg ?_
 refine op_newrow (cs:=#[]) (size:=1) rfl rfl f rfl S (run_buildSlice0 rfl Tryz.underlying30 (congrArg Option.isSome sz3)) rfl (Nat.zero_le _) ?_;clear f S;intro a g123 u f S
 revert a;refine ov rfl (fun a f=>run_fieldAddr rfl fl43_3 (f.ev rfl) rfl) fun a f=>?_
 refine op_do rfl rfl (run_store (cs':=#[iv p103.1,.slice B104 p103.2.1.length d106,.slice B107 p103.2.2.1.length d109,.slice B110 p103.2.2.2.1.length d112,.slice B113 p103.2.2.2.2.1.length d115,.slice B116 p103.2.2.2.2.2.1.length d118,.slice (some ⟨g123,0,none⟩) 0 0]) rfl sz30 (f.ev rfl) (f.ev rfl) rfl rfl rfl (S.free 1 rfl) rfl rfl) ?_;replace S:=S.put 1 rfl (#[iv p103.1,.slice B104 p103.2.1.length d106,.slice B107 p103.2.2.1.length d109,.slice B110 p103.2.2.2.1.length d112,.slice B113 p103.2.2.2.2.1.length d115,.slice B116 p103.2.2.2.2.2.1.length d118,.slice (some ⟨g123,0,none⟩) 0 0])
 generalize World.setRow _ _ _=u at S ⊢
 refine wn ?_
 refine ws ?_
 revert a;refine sr (ov rfl (fun a f=>run_assign rfl rfl) fun a f=>wn ?_)
 obtain ⟨o125,hM128,hM⟩:=bind_ex hM
 refine wp_cut (fun a u=>∃ (p124:List Int) (B126:Option Addr) (d127:Nat),p124=o125∧Fr a 36 [(4,.pointer (some ⟨g102,0,none⟩)),(5,.pointer (some ⟨g122,0,none⟩))]∧St w u [.box g122 43 #[iv p103.1,.slice B104 p103.2.1.length d106,.slice B107 p103.2.2.1.length d109,.slice B110 p103.2.2.2.1.length d112,.slice B113 p103.2.2.2.2.1.length d115,.slice B116 p103.2.2.2.2.2.1.length d118,.slice B126 p124.length d127],.box g102 43 #[iv 0,.slice none 0 0,.slice none 0 0,.slice none 0 0,.slice none 0 0,.slice none 0 0,.slice none 0 0],.row 130 3 (.slice B104 p103.2.1.length d106) p103.2.1.length (p103.2.1.flatMap eLine),.row 110 2 (.slice B107 p103.2.2.1.length d109) p103.2.2.1.length (p103.2.2.1.flatMap eBus),.row 4 1 (.slice B110 p103.2.2.2.1.length d112) p103.2.2.2.1.length (p103.2.2.2.1.flatMap eB),.row 4 1 (.slice B113 p103.2.2.2.2.1.length d115) p103.2.2.2.2.1.length (p103.2.2.2.2.1.flatMap eB),.row 78 2 (.slice B116 p103.2.2.2.2.2.1.length d118) p103.2.2.2.2.2.1.length (p103.2.2.2.2.2.1.flatMap ePermit),.row 3 1 (.slice B126 p124.length d127) p124.length (p124.flatMap eI)]) ?_ ?_
 ·have _:=trivial
  refine wp_block ?_
  refine loop_gw (fun m a u=>∃ (p129:Int×List Int) (B130:Option Addr) (d131:Nat),m_spec_l39Mend_l1 x6 x7 m p129=some _∧Fr a 36 [(1,iv x7),(2,.pointer (some ⟨g101,0,none⟩)),(4,.pointer (some ⟨g102,0,none⟩)),(5,.pointer (some ⟨g122,0,none⟩)),(6,iv p129.1)]∧St w u [.box g122 43 #[iv p103.1,.slice B104 p103.2.1.length d106,.slice B107 p103.2.2.1.length d109,.slice B110 p103.2.2.2.1.length d112,.slice B113 p103.2.2.2.2.1.length d115,.slice B116 p103.2.2.2.2.2.1.length d118,.slice B130 p129.2.length d131],.box g102 43 #[iv 0,.slice none 0 0,.slice none 0 0,.slice none 0 0,.slice none 0 0,.slice none 0 0,.slice none 0 0],.box g101 43 #[iv x0,.slice A1 x1.length c1,.slice A2 x2.length c2,.slice A3 x3.length c3,.slice A4 x4.length c4,.slice A5 x5.length c5,.slice A6 x6.length c6],.row 130 3 (.slice B104 p103.2.1.length d106) p103.2.1.length (p103.2.1.flatMap eLine),.row 110 2 (.slice B107 p103.2.2.1.length d109) p103.2.2.1.length (p103.2.2.1.flatMap eBus),.row 4 1 (.slice B110 p103.2.2.2.1.length d112) p103.2.2.2.1.length (p103.2.2.2.1.flatMap eB),.row 4 1 (.slice B113 p103.2.2.2.2.1.length d115) p103.2.2.2.2.1.length (p103.2.2.2.2.1.flatMap eB),.row 78 2 (.slice B116 p103.2.2.2.2.2.1.length d118) p103.2.2.2.2.2.1.length (p103.2.2.2.2.2.1.flatMap ePermit),.row 3 1 (.slice B130 p129.2.length d131) p129.2.length (p129.2.flatMap eI)]) FUEL ⟨(0,([]:List Int)),(some ⟨g123,0,none⟩),0,hM128,f.keep _ ⟨rfl,rfl,rfl,rfl,rfl,trivial⟩,S.sel [1,8,9,2,3,4,5,6,0] rfl rfl⟩ ?_
  clear f S hM128;rintro m a u ⟨p129,B130,d131,hM128,f,S⟩
  rcases m with _ | f1
  ·exact none_some hM128
  rw [m_spec_l39Mend_l1.eq_2] at hM128
  refine ws ?_
  revert a;refine sr (mv rfl rfl (ov rfl (fun a f=>run_fieldAddr rfl fl43_3 (f.ev rfl) rfl) (ov rfl (fun a f=>run_load1 rfl one30 (f.ev rfl) (S.cell 2 rfl rfl)) (ov rfl (fun a f=>run_lenL rfl rfl Tryz.underlying30 (f.ev rfl)) (ov rfl (fun a f=>run_lss (f.ev rfl) (f.ev rfl) rfl) fun a f=>wn ?_)))))
  cases hc132:(ltB p129.1 (x6.length:Int))
  ·replace hM128:=bif_f hc132 hM128
   refine cond_f f rfl hc132 ?_
   refine wp_exit ?_
   repeat with_reducible first|apply then_exit|apply in_hit|refine in_miss rfl ?_
   obtain rfl:=Option.some.inj hM128
   exact ⟨p129.2,B130,d131,rfl,f.keep _ ⟨rfl,rfl,trivial⟩,S.sel [0,1,3,4,5,6,7,8] rfl rfl⟩
  replace hM128:=bif_t hc132 hM128
  refine cond_t f rfl hc132 ?_
  refine wp_skip ?_
  refine ws ?_
  refine wp_block ?_
  revert a;refine sr (ov rfl (fun a f=>run_fieldAddr rfl fl43_3 (f.ev rfl) rfl) (ov rfl (fun a f=>run_load1 rfl one30 (f.ev rfl) (S.cell 2 rfl rfl)) (mv rfl rfl fun a f=>?_)))
  obtain ⟨hk133,hM128⟩:=chk_ex hM128
  replace hk133:=ixB_t hk133
  revert a;refine ov rfl (fun a f=>run_ix rfl Tryz.underlying30 sz3 (f.ev rfl) (S.rc0 h6.rc) (f.ev rfl) hk133) (ov rfl (fun a f=>run_load1 rfl one3 (f.ev rfl) (rd_el0 (l:=x6) (S.rc0 h6.rc).rd rfl eI_len 0 (ix_ltn hk133 rfl) rfl)) (mv rfl rfl (ov rfl (fun a f=>run_neq (f.ev rfl) (f.ev rfl) rfl) fun a f=>wn ?_)))
  obtain ⟨o135,hM138,hM128⟩:=bind_ex hM128
  refine wp_cut (fun a u=>∃ (p134:List Int) (B136:Option Addr) (d137:Nat),p134=o135∧Fr a 36 [(1,iv x7),(2,.pointer (some ⟨g101,0,none⟩)),(4,.pointer (some ⟨g102,0,none⟩)),(5,.pointer (some ⟨g122,0,none⟩)),(6,iv p129.1)]∧St w u [.box g122 43 #[iv p103.1,.slice B104 p103.2.1.length d106,.slice B107 p103.2.2.1.length d109,.slice B110 p103.2.2.2.1.length d112,.slice B113 p103.2.2.2.2.1.length d115,.slice B116 p103.2.2.2.2.2.1.length d118,.slice B136 p134.length d137],.box g102 43 #[iv 0,.slice none 0 0,.slice none 0 0,.slice none 0 0,.slice none 0 0,.slice none 0 0,.slice none 0 0],.box g101 43 #[iv x0,.slice A1 x1.length c1,.slice A2 x2.length c2,.slice A3 x3.length c3,.slice A4 x4.length c4,.slice A5 x5.length c5,.slice A6 x6.length c6],.row 130 3 (.slice B104 p103.2.1.length d106) p103.2.1.length (p103.2.1.flatMap eLine),.row 110 2 (.slice B107 p103.2.2.1.length d109) p103.2.2.1.length (p103.2.2.1.flatMap eBus),.row 4 1 (.slice B110 p103.2.2.2.1.length d112) p103.2.2.2.1.length (p103.2.2.2.1.flatMap eB),.row 4 1 (.slice B113 p103.2.2.2.2.1.length d115) p103.2.2.2.2.1.length (p103.2.2.2.2.1.flatMap eB),.row 78 2 (.slice B116 p103.2.2.2.2.2.1.length d118) p103.2.2.2.2.2.1.length (p103.2.2.2.2.2.1.flatMap ePermit),.row 3 1 (.slice B136 p134.length d137) p134.length (p134.flatMap eI)]) ?_ ?_
  ·have _:=trivial
   cases hc139:((x6.getD p129.1.toNat 0) != x7)
   ·replace hM138:=bif_f hc139 hM138
    refine cond_f f rfl hc139 ?_
    refine wp_skip ?_
    obtain rfl:=Option.some.inj hM138
    exact ⟨p129.2,B130,d131,rfl,f.keep _ ⟨rfl,rfl,rfl,rfl,rfl,trivial⟩,S.sel [0,1,2,3,4,5,6,7,8] rfl rfl⟩
   replace hM138:=bif_t hc139 hM138
   refine cond_t f rfl hc139 ?_
   obtain ⟨hk140,hM138⟩:=chk_ex hM138
   replace hk140:=ixB_t hk140
   obtain ⟨hk141,hM138⟩:=chk_ex hM138
   replace hk141:=apB_t hk141
   refine region_gw (D:=[25,26,27,28,29,30,31,32,33,34]) (Lr:=[.box g102 43 #[iv 0,.slice none 0 0,.slice none 0 0,.slice none 0 0,.slice none 0 0,.slice none 0 0,.slice none 0 0],.box g101 43 #[iv x0,.slice A1 x1.length c1,.slice A2 x2.length c2,.slice A3 x3.length c3,.slice A4 x4.length c4,.slice A5 x5.length c5,.slice A6 x6.length c6],.row 130 3 (.slice B104 p103.2.1.length d106) p103.2.1.length (p103.2.1.flatMap eLine),.row 110 2 (.slice B107 p103.2.2.1.length d109) p103.2.2.1.length (p103.2.2.1.flatMap eBus),.row 4 1 (.slice B110 p103.2.2.2.1.length d112) p103.2.2.2.1.length (p103.2.2.2.1.flatMap eB),.row 4 1 (.slice B113 p103.2.2.2.2.1.length d115) p103.2.2.2.2.1.length (p103.2.2.2.2.1.flatMap eB),.row 78 2 (.slice B116 p103.2.2.2.2.2.1.length d118) p103.2.2.2.2.2.1.length (p103.2.2.2.2.2.1.flatMap ePermit)]) (deps:=(fun | 0=>[25] | 1=>[26] | 2=>[27] | 3=>[28] | 4=>[29] | 5=>[30] | 6=>[31] | 7=>[32] | 8=>[33] | 9=>[34] | 10=>[34,33] | _=>[])) (rd:=(fun | 8=>[7] | _=>[])) (zr:=(fun | 1=>[10] | _=>[]))
    (φ:=fun i vs=>match i,vs with | 0,[v25]=>v25=.pointer (some ⟨g122,6,none⟩) | 1,[v26]=>v26=.slice B130 p129.2.length d131 | 2,[v27]=>v27=.pointer (some ⟨g101,6,none⟩) | 3,[v28]=>v28=.slice A6 x6.length c6 | 4,[v29]=>v29=iv p129.1 | 5,[v30]=>v30=.pointer (some ⟨adB A6,adO A6+p129.1.toNat*1,none⟩) | 6,[v31]=>v31=iv (x6.getD p129.1.toNat 0) | 7,[v32]=>v32=.slice (slA v32) ((([(x6.getD p129.1.toNat 0)]:List Int):List Int).length) ((([(x6.getD p129.1.toNat 0)]:List Int):List Int).length) | 8,[v33]=>v33=.slice (slA v33) ((p129.2++([(x6.getD p129.1.toNat 0)]:List Int)).length) (slC v33) | 9,[v34]=>v34=.pointer (some ⟨g122,6,none⟩) | _,_=>True)
    (C:=fun i vs=>match i,vs with | 7,[v32]=>[.row 3 1 (.slice (slA v32) ((([(x6.getD p129.1.toNat 0)]:List Int):List Int).length) ((([(x6.getD p129.1.toNat 0)]:List Int):List Int).length)) ((([(x6.getD p129.1.toNat 0)]:List Int):List Int).length) (([(x6.getD p129.1.toNat 0)]:List Int).flatMap eI)] | 8,[v33]=>[.row 3 1 (.slice (slA v33) ((p129.2++([(x6.getD p129.1.toNat 0)]:List Int)).length) (slC v33)) ((p129.2++([(x6.getD p129.1.toNat 0)]:List Int)).length) ((p129.2++([(x6.getD p129.1.toNat 0)]:List Int)).flatMap eI)] | 10,[v34,v33]=>[.box g122 43 #[iv p103.1,.slice B104 p103.2.1.length d106,.slice B107 p103.2.2.1.length d109,.slice B110 p103.2.2.2.1.length d112,.slice B113 p103.2.2.2.2.1.length d115,.slice B116 p103.2.2.2.2.2.1.length d118,.slice (slA v33) ((p129.2++([(x6.getD p129.1.toNat 0)]:List Int)).length) (slC v33)]] | _,_=>[])
    (κ:=(fun _=>none)) (Z:=(fun | 8=>[.row 3 1 (.slice B130 p129.2.length d131) p129.2.length (p129.2.flatMap eI)] | 10=>[.box g122 43 #[iv p103.1,.slice B104 p103.2.1.length d106,.slice B107 p103.2.2.1.length d109,.slice B110 p103.2.2.2.1.length d112,.slice B113 p103.2.2.2.2.1.length d115,.slice B116 p103.2.2.2.2.2.1.length d118,.slice B130 p129.2.length d131]] | _=>[])) mixed f (by kernel_rfl) (show St w _ [.row 3 1 (.slice B130 p129.2.length d131) p129.2.length (p129.2.flatMap eI),.box g122 43 #[iv p103.1,.slice B104 p103.2.1.length d106,.slice B107 p103.2.2.1.length d109,.slice B110 p103.2.2.2.1.length d112,.slice B113 p103.2.2.2.2.1.length d115,.slice B116 p103.2.2.2.2.2.1.length d118,.slice B130 p129.2.length d131],.box g102 43 #[iv 0,.slice none 0 0,.slice none 0 0,.slice none 0 0,.slice none 0 0,.slice none 0 0,.slice none 0 0],.box g101 43 #[iv x0,.slice A1 x1.length c1,.slice A2 x2.length c2,.slice A3 x3.length c3,.slice A4 x4.length c4,.slice A5 x5.length c5,.slice A6 x6.length c6],.row 130 3 (.slice B104 p103.2.1.length d106) p103.2.1.length (p103.2.1.flatMap eLine),.row 110 2 (.slice B107 p103.2.2.1.length d109) p103.2.2.1.length (p103.2.2.1.flatMap eBus),.row 4 1 (.slice B110 p103.2.2.2.1.length d112) p103.2.2.2.1.length (p103.2.2.2.1.flatMap eB),.row 4 1 (.slice B113 p103.2.2.2.2.1.length d115) p103.2.2.2.2.1.length (p103.2.2.2.2.1.flatMap eB),.row 78 2 (.slice B116 p103.2.2.2.2.2.1.length d118) p103.2.2.2.2.2.1.length (p103.2.2.2.2.2.1.flatMap ePermit)] from S.sel [8,0,1,2,3,4,5,6,7] rfl rfl) ?_ ?_
   ·refine ⟨?_,?_,?_,?_,?_,?_,?_,?_,?_,?_,?_,trivial⟩
    ·intro a u X hB hu p hr hz hl S
     exact .inl ⟨rfl,_,u,(run_fieldAddr rfl fl43_3 (f.evB hB rfl rfl) rfl),rfl,S⟩
    ·intro a u X hB hu p hr hz hl S
     exact .inl ⟨rfl,_,u,(run_load1 rfl one30 (ev_sl (p 0 rfl)) ((show Bk _ _ _ _ from S.mem (List.mem_append_right _ (hz 10 (List.mem_of_getElem? (i:=0) rfl) _ (List.mem_of_getElem? (i:=0) rfl)))).cell rfl)),rfl,S⟩
    ·intro a u X hB hu p hr hz hl S
     exact .inl ⟨rfl,_,u,(run_fieldAddr rfl fl43_3 (f.evB hB rfl rfl) rfl),rfl,S⟩
    ·intro a u X hB hu p hr hz hl S
     exact .inl ⟨rfl,_,u,(run_load1 rfl one30 (ev_sl (p 2 rfl)) ((gr_box S hl 1 rfl).cell rfl)),rfl,S⟩
    ·intro a u X hB hu p hr hz hl S
     exact .inl ⟨rfl,_,u,(run_move rfl (f.evB hB rfl rfl)),rfl,S⟩
    ·intro a u X hB hu p hr hz hl S
     exact .inl ⟨rfl,_,u,(run_ix rfl Tryz.underlying30 sz3 (ev_sl (p 3 rfl)) (S.rc0 h6.rc) (ev_sl (p 4 rfl)) hk140),rfl,S⟩
    ·intro a u X hB hu p hr hz hl S
     exact .inl ⟨rfl,_,u,(run_load1 rfl one3 (ev_sl (p 5 rfl)) (rd_el0 (l:=x6) (S.rc0 h6.rc).rd rfl eI_len 0 (ix_ltn hk140 rfl) rfl)),rfl,S⟩
    ·intro a u X hB hu p hr hz hl S
     exact .inl ⟨rfl,_,_,run_buildS (vs:=[(0,iv (x6.getD p129.1.toNat 0))]) rfl ⟨⟨rfl,(ev_sl (p 6 rfl))⟩,trivial⟩ (bs30_1_0 rfl),rfl,S.newrowL (e:=eI) (ls:=([(x6.getD p129.1.toNat 0)]:List Int)) rfl eI_len (Nat.le_of_ble_eq_true rfl)⟩
    ·intro a u X hB hu p hr hz hl S
     replace S:St w u ([.row 3 1 (.slice B130 p129.2.length d131) p129.2.length (p129.2.flatMap eI)]++X):=S
     obtain ⟨B,d,w',hrun,S'⟩:=S.appendL (i:=0) (P:=Tryz.prog) (ty:=30) (lx:=p129.2) (ly:=([(x6.getD p129.1.toNat 0)]:List Int)) (c':=((([(x6.getD p129.1.toNat 0)]:List Int):List Int).length)) rfl rfl Tryz.underlying30 inf3 rfl (by decide) (own_rc (show Ow _ _ _ _ _ _ from S.mem (List.mem_append_right _ (hr 7 (List.mem_of_getElem? (i:=0) rfl) _ (List.mem_of_getElem? (i:=0) rfl))))).rd rfl eI_one hk141 (by decide)
     exact .inl ⟨rfl,_,w',run_append rfl (ev_sl (p 1 rfl)) (ev_sl (p 7 rfl)) hrun,rfl,S'⟩
    ·intro a u X hB hu p hr hz hl S
     exact .inl ⟨rfl,_,u,(run_fieldAddr rfl fl43_3 (f.evB hB rfl rfl) rfl),rfl,S⟩
    intro a u X hB hu p hr hz hl S
    replace S:St w u ([.box g122 43 #[iv p103.1,.slice B104 p103.2.1.length d106,.slice B107 p103.2.2.1.length d109,.slice B110 p103.2.2.2.1.length d112,.slice B113 p103.2.2.2.2.1.length d115,.slice B116 p103.2.2.2.2.2.1.length d118,.slice B130 p129.2.length d131]]++X):=S
    exact .inr (.inl ⟨rfl,_,run_store (cs':=#[iv p103.1,.slice B104 p103.2.1.length d106,.slice B107 p103.2.2.1.length d109,.slice B110 p103.2.2.2.1.length d112,.slice B113 p103.2.2.2.2.1.length d115,.slice B116 p103.2.2.2.2.2.1.length d118,.slice (slA (sl a 33)) ((p129.2++([(x6.getD p129.1.toNat 0)]:List Int)).length) (slC (sl a 33))]) rfl sz30 (ev_sl (p 9 rfl)) (ev_sl (p 8 rfl)) rfl rfl rfl (S.free 0 rfl) rfl rfl,trivial,S.put 0 rfl (#[iv p103.1,.slice B104 p103.2.1.length d106,.slice B107 p103.2.2.1.length d109,.slice B110 p103.2.2.2.1.length d112,.slice B113 p103.2.2.2.2.1.length d115,.slice B116 p103.2.2.2.2.2.1.length d118,.slice (slA (sl a 33)) ((p129.2++([(x6.getD p129.1.toNat 0)]:List Int)).length) (slC (sl a 33))])⟩)
   intro a u hB hp S
   obtain ⟨q0,q1,q2,q3,q4,q5,q6,q7,q8,q9,q10,-⟩:=hp
   replace S:St w u [.row 3 1 (.slice (slA (sl a 32)) ((([(x6.getD p129.1.toNat 0)]:List Int):List Int).length) ((([(x6.getD p129.1.toNat 0)]:List Int):List Int).length)) ((([(x6.getD p129.1.toNat 0)]:List Int):List Int).length) (([(x6.getD p129.1.toNat 0)]:List Int).flatMap eI),.row 3 1 (.slice (slA (sl a 33)) ((p129.2++([(x6.getD p129.1.toNat 0)]:List Int)).length) (slC (sl a 33))) ((p129.2++([(x6.getD p129.1.toNat 0)]:List Int)).length) ((p129.2++([(x6.getD p129.1.toNat 0)]:List Int)).flatMap eI),.box g122 43 #[iv p103.1,.slice B104 p103.2.1.length d106,.slice B107 p103.2.2.1.length d109,.slice B110 p103.2.2.2.1.length d112,.slice B113 p103.2.2.2.2.1.length d115,.slice B116 p103.2.2.2.2.2.1.length d118,.slice (slA (sl a 33)) ((p129.2++([(x6.getD p129.1.toNat 0)]:List Int)).length) (slC (sl a 33))],.box g102 43 #[iv 0,.slice none 0 0,.slice none 0 0,.slice none 0 0,.slice none 0 0,.slice none 0 0,.slice none 0 0],.box g101 43 #[iv x0,.slice A1 x1.length c1,.slice A2 x2.length c2,.slice A3 x3.length c3,.slice A4 x4.length c4,.slice A5 x5.length c5,.slice A6 x6.length c6],.row 130 3 (.slice B104 p103.2.1.length d106) p103.2.1.length (p103.2.1.flatMap eLine),.row 110 2 (.slice B107 p103.2.2.1.length d109) p103.2.2.1.length (p103.2.2.1.flatMap eBus),.row 4 1 (.slice B110 p103.2.2.2.1.length d112) p103.2.2.2.1.length (p103.2.2.2.1.flatMap eB),.row 4 1 (.slice B113 p103.2.2.2.2.1.length d115) p103.2.2.2.2.1.length (p103.2.2.2.2.1.flatMap eB),.row 78 2 (.slice B116 p103.2.2.2.2.2.1.length d118) p103.2.2.2.2.2.1.length (p103.2.2.2.2.2.1.flatMap ePermit)]:=S
   have f:=f.region hB [(25,.pointer (some ⟨g122,6,none⟩)),(26,.slice B130 p129.2.length d131),(27,.pointer (some ⟨g101,6,none⟩)),(28,.slice A6 x6.length c6),(29,iv p129.1),(30,.pointer (some ⟨adB A6,adO A6+p129.1.toNat*1,none⟩)),(31,iv (x6.getD p129.1.toNat 0)),(32,.slice (slA (sl a 32)) ((([(x6.getD p129.1.toNat 0)]:List Int):List Int).length) ((([(x6.getD p129.1.toNat 0)]:List Int):List Int).length)),(33,.slice (slA (sl a 33)) ((p129.2++([(x6.getD p129.1.toNat 0)]:List Int)).length) (slC (sl a 33))),(34,.pointer (some ⟨g122,6,none⟩))] (allSl_mem ⟨q0,q1,q2,q3,q4,q5,q6,q7,q8,q9,trivial⟩) rfl
   clear hB q0 q1 q2 q3 q4 q5 q6 q7 q8 q9 q10
   generalize slA (sl a 32)=B142 at *
   generalize slA (sl a 33)=B143 at *
   generalize slC (sl a 33)=d144 at *
   obtain rfl:=Option.some.inj hM138
   exact ⟨p129.2++([(x6.getD p129.1.toNat 0)]:List Int),B143,d144,rfl,f.keep _ ⟨rfl,rfl,rfl,rfl,rfl,trivial⟩,S.sel [2,3,4,5,6,7,8,9,1] rfl rfl⟩
  rintro a u ⟨p134,B136,d137,rfl,f,S⟩
  revert a;refine rl (mv rfl rfl (ov rfl (fun a f=>run_add (z:=w64 (p129.1+1)) (f.ev rfl) rfl rfl rfl) (ag rfl rfl fun a f=>wn ?_)))
  exact ⟨f1,Nat.lt_succ_self _,(w64 (p129.1+1),p134),B136,d137,hM128,f.keep _ ⟨rfl,rfl,rfl,rfl,rfl,trivial⟩,S.sel [0,1,2,3,4,5,6,7,8] rfl rfl⟩
 rintro a u ⟨p124,B126,d127,rfl,f,S⟩
 revert a;refine sr (ov rfl (fun a f=>run_loadN rfl ag43 (f.ev rfl) rfl ((S.free 0 rfl).cells 0 #[iv p103.1,.slice B104 p103.2.1.length d106,.slice B107 p103.2.2.1.length d109,.slice B110 p103.2.2.2.1.length d112,.slice B113 p103.2.2.2.2.1.length d115,.slice B116 p103.2.2.2.2.2.1.length d118,.slice B126 p124.length d127] rfl)) fun a f=>?_)
 refine op_do rfl rfl (run_store (cs':=#[iv p103.1,.slice B104 p103.2.1.length d106,.slice B107 p103.2.2.1.length d109,.slice B110 p103.2.2.2.1.length d112,.slice B113 p103.2.2.2.2.1.length d115,.slice B116 p103.2.2.2.2.2.1.length d118,.slice B126 p124.length d127]) rfl sz43 (f.ev rfl) (f.ev rfl) rfl rfl rfl (S.free 1 rfl) rfl rfl) ?_;replace S:=S.put 1 rfl (#[iv p103.1,.slice B104 p103.2.1.length d106,.slice B107 p103.2.2.1.length d109,.slice B110 p103.2.2.2.1.length d112,.slice B113 p103.2.2.2.2.1.length d115,.slice B116 p103.2.2.2.2.2.1.length d118,.slice B126 p124.length d127])
 generalize World.setRow _ _ _=u at S ⊢
 refine wn ?_
 refine wp_ret ?_
 refine ret1_gw (.inl rfl) f rfl (res_cell (f.ev rfl) (res_loadN ag43 rfl (S.cells 1 rfl 0 #[iv p103.1,.slice B104 p103.2.1.length d106,.slice B107 p103.2.2.1.length d109,.slice B110 p103.2.2.2.1.length d112,.slice B113 p103.2.2.2.2.1.length d115,.slice B116 p103.2.2.2.2.2.1.length d118,.slice B126 p124.length d127] rfl))) ?_
 obtain rfl:=Option.some.inj hM
 exact ⟨B104,p103.2.1.length,d106,B107,p103.2.2.1.length,d109,B110,p103.2.2.2.1.length,d112,B113,p103.2.2.2.2.1.length,d115,B116,p103.2.2.2.2.2.1.length,d118,B126,p124.length,d127,rfl,rfl,rfl,rfl,rfl,rfl,rfl,S.sel [2,3,4,5,6,7] rfl rfl⟩
theorem c_spec_l39Break {x0:Int} {x1:List (Int×Int×Int)} {x2:List (Int×Int)} {x3:List Bool} {x4:List Bool} {x5:List (Int×Int)} {x6:List Int} {x7:Int} {A1:Option Addr} {n1 c1:Nat} {A2:Option Addr} {n2 c2:Nat} {A3:Option Addr} {n3 c3:Nat} {A4:Option Addr} {n4 c4:Nat} {A5:Option Addr} {n5 c5:Nat} {A6:Option Addr} {n6 c6:Nat} {w:World} {r:Int×List (Int×Int×Int)×List (Int×Int)×List Bool×List Bool×List (Int×Int)×List Int} (h1:Rt w 3 eLine A1 n1 c1 x1) (h2:Rt w 2 eBus A2 n2 c2 x2) (h3:Rt w 1 eB A3 n3 c3 x3) (h4:Rt w 1 eB A4 n4 c4 x4) (h5:Rt w 2 ePermit A5 n5 c5 x5) (h6:Rt w 1 eI A6 n6 c6 x6) (hM : m_spec_l39Break x0 x1 x2 x3 x4 x5 x6 x7=some r) :
  Calls Tryz.prog 53 #[.agg #[iv x0,.slice A1 n1 c1,.slice A2 n2 c2,.slice A3 n3 c3,.slice A4 n4 c4,.slice A5 n5 c5,.slice A6 n6 c6],iv x7] w (fun e w'=>∃ (B0:Option Addr) (N0 D0:Nat) (B1:Option Addr) (N1 D1:Nat) (B2:Option Addr) (N2 D2:Nat) (B3:Option Addr) (N3 D3:Nat) (B4:Option Addr) (N4 D4:Nat) (B5:Option Addr) (N5 D5:Nat),e=.returned (.agg #[iv r.1,.slice B0 N0 D0,.slice B1 N1 D1,.slice B2 N2 D2,.slice B3 N3 D3,.slice B4 N4 D4,.slice B5 N5 D5])∧N0=r.2.1.length∧N1=r.2.2.1.length∧N2=r.2.2.2.1.length∧N3=r.2.2.2.2.1.length∧N4=r.2.2.2.2.2.1.length∧N5=r.2.2.2.2.2.2.length∧St w w' [.row 130 3 (.slice B0 N0 D0) N0 (r.2.1.flatMap eLine),.row 110 2 (.slice B1 N1 D1) N1 (r.2.2.1.flatMap eBus),.row 4 1 (.slice B2 N2 D2) N2 (r.2.2.2.1.flatMap eB),.row 4 1 (.slice B3 N3 D3) N3 (r.2.2.2.2.1.flatMap eB),.row 78 2 (.slice B4 N4 D4) N4 (r.2.2.2.2.2.1.flatMap ePermit),.row 3 1 (.slice B5 N5 D5) N5 (r.2.2.2.2.2.2.flatMap eI)]):=by
 obtain rfl:=h1.len
 obtain rfl:=h2.len
 obtain rfl:=h3.len
 obtain rfl:=h4.len
 obtain rfl:=h5.len
 obtain rfl:=h6.len
 unfold m_spec_l39Break at hM
 refine calls_gx Tryz.func53 Tryz.ntmps53 rfl rfl ?_
 intro a f
 have S:=St.nil w
 refine wsg ?_
 refine op_new (cs:=#[iv x0,.slice A1 x1.length c1,.slice A2 x2.length c2,.slice A3 x3.length c3,.slice A4 x4.length c4,.slice A5 x5.length c5,.slice A6 x6.length c6]) rfl rfl f rfl S (run_box rfl (f.ev rfl) rfl) ?_;clear f S;intro a g101 u f S
 refine op_new (cs:=#[iv 0,.slice none 0 0,.slice none 0 0,.slice none 0 0,.slice none 0 0,.slice none 0 0,.slice none 0 0]) rfl rfl f rfl S (run_allocZ rfl zr43) ?_;clear f S;intro a g102 u f S
 refine wn ?_
 revert a;refine sr (ov rfl (fun a f=>run_loadN rfl ag43 (f.ev rfl) rfl ((S.free 1 rfl).cells 0 #[iv x0,.slice A1 x1.length c1,.slice A2 x2.length c2,.slice A3 x3.length c3,.slice A4 x4.length c4,.slice A5 x5.length c5,.slice A6 x6.length c6] rfl)) fun a f=>?_)
 obtain ⟨p103,h103,hM⟩:=bind_ex hM
 refine op_call rfl rfl f rfl (run_call (vs:=[_]) rfl rfl co52 ⟨(f.ev rfl),trivial⟩) (c_spec_l39Copy ⟨(S.rc0 h1.rc),rfl⟩ ⟨(S.rc0 h2.rc),rfl⟩ ⟨(S.rc0 h3.rc),rfl⟩ ⟨(S.rc0 h4.rc),rfl⟩ ⟨(S.rc0 h5.rc),rfl⟩ ⟨(S.rc0 h6.rc),rfl⟩ h103) ?_
 rintro e u ⟨B104,n105,d106,B107,n108,d109,B110,n111,d112,B113,n114,d115,B116,n117,d118,B119,n120,d121,rfl,rfl,rfl,rfl,rfl,rfl,rfl,T⟩
 refine ⟨_,rfl,?_⟩
 clear f;intro a f
 replace S:=S.call6 T;clear T
 refine op_new (cs:=#[iv 0,.slice none 0 0,.slice none 0 0,.slice none 0 0,.slice none 0 0,.slice none 0 0,.slice none 0 0]) rfl rfl f rfl S (run_allocZ rfl zr43) ?_;clear f S;intro a g122 u f S
 refine op_do rfl rfl (run_store (cs':=#[iv p103.1,.slice B104 p103.2.1.length d106,.slice B107 p103.2.2.1.length d109,.slice B110 p103.2.2.2.1.length d112,.slice B113 p103.2.2.2.2.1.length d115,.slice B116 p103.2.2.2.2.2.1.length d118,.slice B119 p103.2.2.2.2.2.2.length d121]) rfl sz43 (f.ev rfl) (f.ev rfl) rfl rfl rfl (S.free 0 rfl) rfl rfl) ?_;replace S:=S.put 0 rfl (#[iv p103.1,.slice B104 p103.2.1.length d106,.slice B107 p103.2.2.1.length d109,.slice B110 p103.2.2.2.1.length d112,.slice B113 p103.2.2.2.2.1.length d115,.slice B116 p103.2.2.2.2.2.1.length d118,.slice B119 p103.2.2.2.2.2.2.length d121])
 generalize World.setRow _ _ _=u at S ⊢
 refine wn ?_
 revert a;refine sr (ov rfl (fun a f=>run_fieldAddr rfl fl43_2 (f.ev rfl) rfl) (ov rfl (fun a f=>run_fieldAddr rfl fl41_0 (f.ev rfl) rfl) (ov rfl (fun a f=>run_load1 rfl one26 (f.ev rfl) (S.cell 0 rfl rfl)) (mv rfl rfl fun a f=>?_))))
 obtain ⟨hk123,hM⟩:=chk_ex hM
 replace hk123:=ixB_t hk123
 revert a;refine ov rfl (fun a f=>run_ix rfl Tryz.underlying26 sz4 (f.ev rfl) (S.rc 3 rfl) (f.ev rfl) hk123) fun a f=>?_
 obtain ⟨w',hrun,S'⟩:=run_storeElN (P:=Tryz.prog) (ρ:=a.eval) (y0:=false) (off:=0) S 4 (.tmp 13) (.const (.bool false)) (i:=3) sz4 (f.ev rfl) rfl rfl rfl rfl rfl rfl eB_len false (ix_ltn hk123 rfl) rfl rfl
 refine op_do rfl rfl (hrun _ rfl) ?_;clear hrun S;have S:=S';clear S';generalize w'=u at S ⊢
 refine wn ?_
 refine wsg ?_
 refine op_newrow (cs:=#[]) (size:=1) rfl rfl f rfl S (run_buildSlice0 rfl Tryz.underlying30 (congrArg Option.isSome sz3)) rfl (Nat.zero_le _) ?_;clear f S;intro a g124 u f S
 revert a;refine ov rfl (fun a f=>run_fieldAddr rfl fl43_3 (f.ev rfl) rfl) fun a f=>?_
 refine op_do rfl rfl (run_store (cs':=#[iv p103.1,.slice B104 p103.2.1.length d106,.slice B107 p103.2.2.1.length d109,.slice B110 p103.2.2.2.1.length d112,.slice B113 p103.2.2.2.2.1.length d115,.slice B116 p103.2.2.2.2.2.1.length d118,.slice (some ⟨g124,0,none⟩) 0 0]) rfl sz30 (f.ev rfl) (f.ev rfl) rfl rfl rfl (S.free 1 rfl) rfl rfl) ?_;replace S:=S.put 1 rfl (#[iv p103.1,.slice B104 p103.2.1.length d106,.slice B107 p103.2.2.1.length d109,.slice B110 p103.2.2.2.1.length d112,.slice B113 p103.2.2.2.2.1.length d115,.slice B116 p103.2.2.2.2.2.1.length d118,.slice (some ⟨g124,0,none⟩) 0 0])
 generalize World.setRow _ _ _=u at S ⊢
 refine wn ?_
 refine ws ?_
 revert a;refine sr (ov rfl (fun a f=>run_assign rfl rfl) fun a f=>wn ?_)
 obtain ⟨o126,hM129,hM⟩:=bind_ex hM
 refine wp_cut (fun a u=>∃ (p125:List Int) (B127:Option Addr) (d128:Nat),p125=o126∧Fr a 40 [(4,.pointer (some ⟨g102,0,none⟩)),(5,.pointer (some ⟨g122,0,none⟩))]∧St w u [.box g122 43 #[iv p103.1,.slice B104 p103.2.1.length d106,.slice B107 p103.2.2.1.length d109,.slice B110 p103.2.2.2.1.length d112,.slice B113 p103.2.2.2.2.1.length d115,.slice B116 p103.2.2.2.2.2.1.length d118,.slice B127 p125.length d128],.box g102 43 #[iv 0,.slice none 0 0,.slice none 0 0,.slice none 0 0,.slice none 0 0,.slice none 0 0,.slice none 0 0],.row 130 3 (.slice B104 p103.2.1.length d106) p103.2.1.length (p103.2.1.flatMap eLine),.row 110 2 (.slice B107 p103.2.2.1.length d109) p103.2.2.1.length (p103.2.2.1.flatMap eBus),.row 4 1 (.slice B110 p103.2.2.2.1.length d112) p103.2.2.2.1.length ((p103.2.2.2.1.set x7.toNat false).flatMap eB),.row 4 1 (.slice B113 p103.2.2.2.2.1.length d115) p103.2.2.2.2.1.length (p103.2.2.2.2.1.flatMap eB),.row 78 2 (.slice B116 p103.2.2.2.2.2.1.length d118) p103.2.2.2.2.2.1.length (p103.2.2.2.2.2.1.flatMap ePermit),.row 3 1 (.slice B127 p125.length d128) p125.length (p125.flatMap eI)]) ?_ ?_
 ·have _:=trivial
  refine wp_block ?_
  refine loop_gw (fun m a u=>∃ (p130:Int×List Int) (B131:Option Addr) (d132:Nat),m_spec_l39Break_l1 x3 x6 x7 m p130=some _∧Fr a 40 [(1,iv x7),(2,.pointer (some ⟨g101,0,none⟩)),(4,.pointer (some ⟨g102,0,none⟩)),(5,.pointer (some ⟨g122,0,none⟩)),(6,iv p130.1)]∧St w u [.box g122 43 #[iv p103.1,.slice B104 p103.2.1.length d106,.slice B107 p103.2.2.1.length d109,.slice B110 p103.2.2.2.1.length d112,.slice B113 p103.2.2.2.2.1.length d115,.slice B116 p103.2.2.2.2.2.1.length d118,.slice B131 p130.2.length d132],.box g102 43 #[iv 0,.slice none 0 0,.slice none 0 0,.slice none 0 0,.slice none 0 0,.slice none 0 0,.slice none 0 0],.box g101 43 #[iv x0,.slice A1 x1.length c1,.slice A2 x2.length c2,.slice A3 x3.length c3,.slice A4 x4.length c4,.slice A5 x5.length c5,.slice A6 x6.length c6],.row 130 3 (.slice B104 p103.2.1.length d106) p103.2.1.length (p103.2.1.flatMap eLine),.row 110 2 (.slice B107 p103.2.2.1.length d109) p103.2.2.1.length (p103.2.2.1.flatMap eBus),.row 4 1 (.slice B110 p103.2.2.2.1.length d112) p103.2.2.2.1.length ((p103.2.2.2.1.set x7.toNat false).flatMap eB),.row 4 1 (.slice B113 p103.2.2.2.2.1.length d115) p103.2.2.2.2.1.length (p103.2.2.2.2.1.flatMap eB),.row 78 2 (.slice B116 p103.2.2.2.2.2.1.length d118) p103.2.2.2.2.2.1.length (p103.2.2.2.2.2.1.flatMap ePermit),.row 3 1 (.slice B131 p130.2.length d132) p130.2.length (p130.2.flatMap eI)]) FUEL ⟨(0,([]:List Int)),(some ⟨g124,0,none⟩),0,hM129,f.keep _ ⟨rfl,rfl,rfl,rfl,rfl,trivial⟩,S.sel [1,8,9,2,3,4,5,6,0] rfl rfl⟩ ?_
  clear f S hM129;rintro m a u ⟨p130,B131,d132,hM129,f,S⟩
  rcases m with _ | f1
  ·exact none_some hM129
  rw [m_spec_l39Break_l1.eq_2] at hM129
  refine ws ?_
  revert a;refine sr (mv rfl rfl (ov rfl (fun a f=>run_fieldAddr rfl fl43_2 (f.ev rfl) rfl) (ov rfl (fun a f=>run_fieldAddr rfl fl41_0 (f.ev rfl) rfl) (ov rfl (fun a f=>run_load1 rfl one26 (f.ev rfl) (S.cell 2 rfl rfl)) (ov rfl (fun a f=>run_lenL rfl rfl Tryz.underlying26 (f.ev rfl)) (ov rfl (fun a f=>run_lss (f.ev rfl) (f.ev rfl) rfl) fun a f=>wn ?_))))))
  cases hc133:(ltB p130.1 (x3.length:Int))
  ·replace hM129:=bif_f hc133 hM129
   refine cond_f f rfl hc133 ?_
   refine wp_exit ?_
   repeat with_reducible first|apply then_exit|apply in_hit|refine in_miss rfl ?_
   obtain rfl:=Option.some.inj hM129
   exact ⟨p130.2,B131,d132,rfl,f.keep _ ⟨rfl,rfl,trivial⟩,S.sel [0,1,3,4,5,6,7,8] rfl rfl⟩
  replace hM129:=bif_t hc133 hM129
  refine cond_t f rfl hc133 ?_
  refine wp_skip ?_
  refine ws ?_
  refine wp_block ?_
  revert a;refine sr (mv rfl rfl (mv rfl rfl (ov rfl (fun a f=>run_eql (f.ev rfl) (f.ev rfl) rfl) (mv rfl rfl fun a f=>?_))))
  revert a;refine gf rfl rfl rfl rfl (fun a f hg=>run_fieldAddr rfl fl43_3 (f.ev rfl) rfl) (gf rfl rfl rfl rfl (fun a f hg=>run_load1 rfl one30 ((f.ev rfl).trans (gv_t hg)) (S.cell 2 rfl rfl)) (gf rfl rfl rfl rfl (fun a f hg=>run_move rfl (f.ev rfl)) fun a f=>?_))
  obtain ⟨p134,h134,hM129⟩:=bind_ex hM129
  refine op_gcall (v:=.bool p134) rfl rfl f rfl S (yf (gw_yield f rfl rfl rfl)) (fun hg=>(run_call (vs:=[.slice A6 x6.length c6,iv p130.1]) rfl rfl co40 ⟨((f.ev rfl).trans (gv_t hg)),((f.ev rfl).trans (gv_t hg)),trivial⟩)) (fun hg=>c_spec_l1Has (x0:=x6) (x1:=p130.1) ⟨(S.rc0 h6.rc),rfl⟩ (gb_t h134 hg)) ?_;clear f S;intro a u f S
  revert a;refine ov rfl (fun a f=>run_pick_or rfl (f.ev rfl) rfl (fun hp=>((f.ev rfl).trans (gv_t (not_t hp))))) fun a f=>wn ?_
  obtain ⟨o136,hM139,hM129⟩:=bind_ex hM129
  refine wp_cut (fun a u=>∃ (p135:List Int) (B137:Option Addr) (d138:Nat),p135=o136∧Fr a 40 [(1,iv x7),(2,.pointer (some ⟨g101,0,none⟩)),(4,.pointer (some ⟨g102,0,none⟩)),(5,.pointer (some ⟨g122,0,none⟩)),(6,iv p130.1)]∧St w u [.box g122 43 #[iv p103.1,.slice B104 p103.2.1.length d106,.slice B107 p103.2.2.1.length d109,.slice B110 p103.2.2.2.1.length d112,.slice B113 p103.2.2.2.2.1.length d115,.slice B116 p103.2.2.2.2.2.1.length d118,.slice B137 p135.length d138],.box g102 43 #[iv 0,.slice none 0 0,.slice none 0 0,.slice none 0 0,.slice none 0 0,.slice none 0 0,.slice none 0 0],.box g101 43 #[iv x0,.slice A1 x1.length c1,.slice A2 x2.length c2,.slice A3 x3.length c3,.slice A4 x4.length c4,.slice A5 x5.length c5,.slice A6 x6.length c6],.row 130 3 (.slice B104 p103.2.1.length d106) p103.2.1.length (p103.2.1.flatMap eLine),.row 110 2 (.slice B107 p103.2.2.1.length d109) p103.2.2.1.length (p103.2.2.1.flatMap eBus),.row 4 1 (.slice B110 p103.2.2.2.1.length d112) p103.2.2.2.1.length ((p103.2.2.2.1.set x7.toNat false).flatMap eB),.row 4 1 (.slice B113 p103.2.2.2.2.1.length d115) p103.2.2.2.2.1.length (p103.2.2.2.2.1.flatMap eB),.row 78 2 (.slice B116 p103.2.2.2.2.2.1.length d118) p103.2.2.2.2.2.1.length (p103.2.2.2.2.2.1.flatMap ePermit),.row 3 1 (.slice B137 p135.length d138) p135.length (p135.flatMap eI)]) ?_ ?_
  ·have _:=trivial
   cases hc140:((p130.1==x7)||p134)
   ·replace hM139:=bif_f hc140 hM139
    refine cond_f f rfl hc140 ?_
    refine wp_skip ?_
    obtain rfl:=Option.some.inj hM139
    exact ⟨p130.2,B131,d132,rfl,f.keep _ ⟨rfl,rfl,rfl,rfl,rfl,trivial⟩,S.sel [0,1,2,3,4,5,6,7,8] rfl rfl⟩
   replace hM139:=bif_t hc140 hM139
   refine cond_t f rfl hc140 ?_
   revert a;refine rl (ov rfl (fun a f=>run_fieldAddr rfl fl43_3 (f.ev rfl) rfl) (ov rfl (fun a f=>run_load1 rfl one30 (f.ev rfl) (S.cell 0 rfl rfl)) (mv rfl rfl fun a f=>?_)))
   refine op_newrowL (ls:=(([p130.1]:List Int):List Int)) (e:=eI) rfl rfl f rfl S (run_buildS (vs:=[(0,iv p130.1)]) rfl ⟨⟨rfl,(f.ev rfl)⟩,trivial⟩ (bs30_1_0 rfl)) rfl eI_len (Nat.le_of_ble_eq_true rfl) ?_;clear f S;intro a g141 u f S
   obtain ⟨hk144,hM139⟩:=chk_ex hM139
   replace hk144:=apB_t hk144
   refine op_appendL (lx:=p130.2) (ly:=([p130.1]:List Int)) rfl rfl f rfl S rfl (f.ev rfl) (f.ev rfl) (i:=9) rfl rfl Tryz.underlying30 inf3 rfl (by decide) (S.rc 0 rfl).rd rfl eI_one hk144 (by decide) ?_;clear f S;intro a B142 d143 u f S
   revert a;refine ov rfl (fun a f=>run_fieldAddr rfl fl43_3 (f.ev rfl) rfl) fun a f=>?_
   refine op_do rfl rfl (run_store (cs':=#[iv p103.1,.slice B104 p103.2.1.length d106,.slice B107 p103.2.2.1.length d109,.slice B110 p103.2.2.2.1.length d112,.slice B113 p103.2.2.2.2.1.length d115,.slice B116 p103.2.2.2.2.2.1.length d118,.slice B142 ((p130.2++([p130.1]:List Int)).length) d143]) rfl sz30 (f.ev rfl) (f.ev rfl) rfl rfl rfl (S.free 1 rfl) rfl rfl) ?_;replace S:=S.put 1 rfl (#[iv p103.1,.slice B104 p103.2.1.length d106,.slice B107 p103.2.2.1.length d109,.slice B110 p103.2.2.2.1.length d112,.slice B113 p103.2.2.2.2.1.length d115,.slice B116 p103.2.2.2.2.2.1.length d118,.slice B142 ((p130.2++([p130.1]:List Int)).length) d143])
   generalize World.setRow _ _ _=u at S ⊢
   refine wn ?_
   obtain rfl:=Option.some.inj hM139
   exact ⟨p130.2++([p130.1]:List Int),B142,d143,rfl,f.keep _ ⟨rfl,rfl,rfl,rfl,rfl,trivial⟩,S.sel [1,2,3,4,5,6,7,8,9] rfl rfl⟩
  rintro a u ⟨p135,B137,d138,rfl,f,S⟩
  revert a;refine rl (mv rfl rfl (ov rfl (fun a f=>run_add (z:=w64 (p130.1+1)) (f.ev rfl) rfl rfl rfl) (ag rfl rfl fun a f=>wn ?_)))
  exact ⟨f1,Nat.lt_succ_self _,(w64 (p130.1+1),p135),B137,d138,hM129,f.keep _ ⟨rfl,rfl,rfl,rfl,rfl,trivial⟩,S.sel [0,1,2,3,4,5,6,7,8] rfl rfl⟩
 rintro a u ⟨p125,B127,d128,rfl,f,S⟩
 revert a;refine sr (ov rfl (fun a f=>run_loadN rfl ag43 (f.ev rfl) rfl ((S.free 0 rfl).cells 0 #[iv p103.1,.slice B104 p103.2.1.length d106,.slice B107 p103.2.2.1.length d109,.slice B110 p103.2.2.2.1.length d112,.slice B113 p103.2.2.2.2.1.length d115,.slice B116 p103.2.2.2.2.2.1.length d118,.slice B127 p125.length d128] rfl)) fun a f=>?_)
 refine op_do rfl rfl (run_store (cs':=#[iv p103.1,.slice B104 p103.2.1.length d106,.slice B107 p103.2.2.1.length d109,.slice B110 p103.2.2.2.1.length d112,.slice B113 p103.2.2.2.2.1.length d115,.slice B116 p103.2.2.2.2.2.1.length d118,.slice B127 p125.length d128]) rfl sz43 (f.ev rfl) (f.ev rfl) rfl rfl rfl (S.free 1 rfl) rfl rfl) ?_;replace S:=S.put 1 rfl (#[iv p103.1,.slice B104 p103.2.1.length d106,.slice B107 p103.2.2.1.length d109,.slice B110 p103.2.2.2.1.length d112,.slice B113 p103.2.2.2.2.1.length d115,.slice B116 p103.2.2.2.2.2.1.length d118,.slice B127 p125.length d128])
 generalize World.setRow _ _ _=u at S ⊢
 refine wn ?_
 refine wp_ret ?_
 refine ret1_gw (.inl rfl) f rfl (res_cell (f.ev rfl) (res_loadN ag43 rfl (S.cells 1 rfl 0 #[iv p103.1,.slice B104 p103.2.1.length d106,.slice B107 p103.2.2.1.length d109,.slice B110 p103.2.2.2.1.length d112,.slice B113 p103.2.2.2.2.1.length d115,.slice B116 p103.2.2.2.2.2.1.length d118,.slice B127 p125.length d128] rfl))) ?_
 obtain rfl:=Option.some.inj hM
 exact ⟨B104,p103.2.1.length,d106,B107,p103.2.2.1.length,d109,B110,p103.2.2.2.1.length,d112,B113,p103.2.2.2.2.1.length,d115,B116,p103.2.2.2.2.2.1.length,d118,B127,p125.length,d128,rfl,rfl,rfl,(len_set rfl),rfl,rfl,rfl,S.sel [2,3,4,5,6,7] rfl rfl⟩
end Go.Proofs.YtcmnjaccapbhfaaGreat
