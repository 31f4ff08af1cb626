/- Calls return what the models say. -/
import Derived.Test.YtcmnjaccapbhfaaGreatQSq
import Derived.Test.YtcmnjaccapbhfaaGreatQDa2
namespace Go.Proofs.YtcmnjaccapbhfaaGreat
open Go.ChangeShapes Go.WideShapes Go.ChangeAt Go.RowKit
set_option linter.unusedVariables false
set_option maxHeartbeats 4000000
set_option linter.unusedSimpArgs false
theorem c_spec_l12May {x0:List Bool} {x1:List Bool} {x2:List (Int×Int)} {x3:Int} {x4:Int} {x5:Int} {A0:Option Addr} {n0 c0:Nat} {A1:Option Addr} {n1 c1:Nat} {A2:Option Addr} {n2 c2:Nat} {w:World} {r:Bool} (h0:Rt w 1 eB A0 n0 c0 x0) (h1:Rt w 1 eB A1 n1 c1 x1) (h2:Rt w 2 ePermit A2 n2 c2 x2) (hM : m_spec_l12May x0 x1 x2 x3 x4 x5=some r) :
  Calls Tryz.prog 89 #[.agg #[.slice A0 n0 c0,.slice A1 n1 c1,.slice A2 n2 c2],.agg #[iv x3,iv x4,iv x5]] w (fun e w'=>e=.returned (.bool r)∧St w w' []):=by
 obtain rfl:=h0.len
 obtain rfl:=h1.len
 obtain rfl:=h2.len
 unfold m_spec_l12May at hM
 refine calls_gx Tryz.func89 Tryz.ntmps89 rfl rfl ?_
 intro a f
 have S:=St.nil w
 refine wsg ?_
 refine op_new (cs:=#[.slice A0 x0.length c0,.slice A1 x1.length c1,.slice A2 x2.length c2]) rfl rfl f rfl S (run_box rfl (f.ev rfl) rfl) ?_;clear f S;intro a g101 u f S
 refine op_new (cs:=#[iv x3,iv x4,iv x5]) rfl rfl f rfl S (run_box rfl (f.ev rfl) rfl) ?_;clear f S;intro a g102 u f S
 revert a;refine ov rfl (fun a f=>run_assign rfl rfl) fun a f=>wn ?_
 revert a;refine sr (ov rfl (fun a f=>run_fieldAddr rfl fl41_2 (f.ev rfl) rfl) (ov rfl (fun a f=>run_load1 rfl one39 (f.ev rfl) (S.cell 1 rfl rfl)) (ov rfl (fun a f=>run_fieldAddr rfl fl56_2 (f.ev rfl) rfl) (ov rfl (fun a f=>run_load1 rfl one3 (f.ev rfl) (S.cell 0 rfl rfl)) (ov rfl (fun a f=>run_fieldAddr rfl fl56_1 (f.ev rfl) rfl) (ov rfl (fun a f=>run_load1 rfl one3 (f.ev rfl) (S.cell 0 rfl rfl)) (ov rfl (fun a f=>run_build (vs:=[(0,iv x5),(1,iv x4)]) rfl ⟨⟨rfl,(f.ev rfl)⟩,⟨rfl,(f.ev rfl)⟩,trivial⟩ (bd78_0_1 rfl rfl)) fun a f=>?_)))))))
 obtain ⟨p103,h103,hM⟩:=bind_ex hM
 refine op_call rfl rfl f rfl (run_call (vs:=[_,_]) rfl rfl co90 ⟨(f.ev rfl),(f.ev rfl),trivial⟩) (c_spec_l12Find ⟨(S.rc0 h2.rc),rfl⟩ h103) ?_
 rintro e u ⟨rfl,T⟩
 refine ⟨_,rfl,?_⟩
 clear f;intro a f
 replace S:=S.call0 T;clear T
 revert a;refine ag rfl rfl fun a f=>wn ?_
 refine ws ?_
 revert a;refine sr (ov rfl (fun a f=>run_fieldAddr rfl fl56_0 (f.ev rfl) rfl) (ov rfl (fun a f=>run_load1 rfl one3 (f.ev rfl) (S.cell 0 rfl rfl)) fun a f=>wn ?_))
 refine wp_block ?_
 revert a;refine sr (ov rfl (fun a f=>run_eql (f.ev rfl) rfl rfl) (ag rfl rfl fun a f=>wn ?_))
 cases hc104:(x3==0)
 ·replace hM:=bif_f hc104 hM
  refine cond_f f rfl hc104 ?_
  revert a;refine sr (ov rfl (fun a f=>run_eql (f.ev rfl) rfl rfl) (ag rfl rfl fun a f=>wn ?_))
  cases hc105:(x3==1)
  ·replace hM:=bif_f hc105 hM
   refine cond_f f rfl hc105 ?_
   revert a;refine sr (ov rfl (fun a f=>run_eql (f.ev rfl) rfl rfl) (ag rfl rfl fun a f=>wn ?_))
   cases hc106:(x3==2)
   ·replace hM:=bif_f hc106 hM
    refine cond_f f rfl hc106 ?_
    revert a;refine sr (ov rfl (fun a f=>run_eql (f.ev rfl) rfl rfl) (ag rfl rfl fun a f=>wn ?_))
    cases hc107:(x3==3)
    ·replace hM:=bif_f hc107 hM
     refine cond_f f rfl hc107 ?_
     revert a;refine sr (ov rfl (fun a f=>run_eql (f.ev rfl) rfl rfl) (ag rfl rfl fun a f=>wn ?_))
     cases hc108:(x3==4)
     ·replace hM:=bif_f hc108 hM
      refine cond_f f rfl hc108 ?_
      revert a;refine sr (ov rfl (fun a f=>run_eql (f.ev rfl) rfl rfl) (ag rfl rfl fun a f=>wn ?_))
      cases hc109:(x3==5)
      ·replace hM:=bif_f hc109 hM
       refine cond_f f rfl hc109 ?_
       refine wp_skip ?_
       revert a;refine sr (ov rfl (fun a f=>run_assign rfl rfl) fun a f=>wn ?_)
       refine wp_ret ?_
       refine ret1_gw (.inl rfl) f rfl (res_tmp (f.ev rfl)) ?_
       obtain rfl:=Option.some.inj hM
       exact ⟨rfl,S.sel [] rfl rfl⟩
      replace hM:=bif_t hc109 hM
      refine cond_t f rfl hc109 ?_
      revert a;refine sr (mv rfl rfl (ov rfl (fun a f=>run_geq (f.ev rfl) rfl rfl) (ag rfl rfl fun a f=>wn ?_)))
      refine wp_ret ?_
      repeat with_reducible first|apply tr|apply ir|apply nr
      refine ret1_gw (.inl rfl) f rfl (res_tmp (f.ev rfl)) ?_
      obtain rfl:=Option.some.inj hM
      exact ⟨rfl,S.sel [] rfl rfl⟩
     replace hM:=bif_t hc108 hM
     refine cond_t f rfl hc108 ?_
     revert a;refine sr (ov rfl (fun a f=>run_fieldAddr rfl fl41_1 (f.ev rfl) rfl) (ov rfl (fun a f=>run_load1 rfl one26 (f.ev rfl) (S.cell 1 rfl rfl)) (ov rfl (fun a f=>run_fieldAddr rfl fl56_1 (f.ev rfl) rfl) (ov rfl (fun a f=>run_load1 rfl one3 (f.ev rfl) (S.cell 0 rfl rfl)) fun a f=>?_))))
     obtain ⟨hk110,hM⟩:=chk_ex hM
     replace hk110:=ixB_t hk110
     revert a;refine ov rfl (fun a f=>run_ix rfl Tryz.underlying26 sz4 (f.ev rfl) (S.rc0 h1.rc) (f.ev rfl) hk110) (ov rfl (fun a f=>run_load1 rfl one4 (f.ev rfl) (rd_el0 (l:=x1) (S.rc0 h1.rc).rd rfl eB_len false (ix_ltn hk110 rfl) rfl)) (mv rfl rfl fun a f=>?_))
     revert a;refine gt rfl rfl rfl rfl (fun a f hg=>run_fieldAddr rfl fl56_2 (f.ev rfl) rfl) (gt rfl rfl rfl rfl (fun a f hg=>run_load1 rfl one3 ((f.ev rfl).trans (gv_t hg)) (S.cell 0 rfl rfl)) fun a f=>?_)
     obtain ⟨p111,h111,hM⟩:=bind_ex hM
     refine op_gcall (v:=.bool p111) rfl rfl f rfl S (yt (gw_yield f rfl rfl rfl)) (fun hg=>(run_call (vs:=[iv x5,iv 0,iv 9]) rfl rfl co51 ⟨((f.ev rfl).trans (gv_t hg)),rfl,rfl,trivial⟩)) (fun hg=>c_spec_l1In (x0:=x5) (x1:=0) (x2:=9)  (gb_t h111 hg)) ?_;clear f S;intro a u f S
     revert a;refine ov rfl (fun a f=>run_pick_and rfl (f.ev rfl) (fun hp=>((f.ev rfl).trans (gv_t hp))) rfl) (mv rfl rfl fun a f=>?_)
     revert a;refine gt rfl rfl rfl rfl (fun a f hg=>run_move rfl (f.ev rfl)) (gt rfl rfl rfl rfl (fun a f hg=>run_lss ((f.ev rfl).trans (gv_t hg)) rfl rfl) fun a f=>?_)
     revert a;refine ov rfl (fun a f=>run_pick_and rfl (f.ev rfl) (fun hp=>((f.ev rfl).trans (gv_t hp))) rfl) (mv rfl rfl fun a f=>?_)
     revert a;refine gt rfl rfl rfl rfl (fun a f hg=>run_fieldAddr rfl fl41_2 (f.ev rfl) rfl) (gt rfl rfl rfl rfl (fun a f hg=>run_load1 rfl one39 ((f.ev rfl).trans (gv_t hg)) (S.cell 1 rfl rfl)) (gt rfl rfl rfl rfl (fun a f hg=>run_lenL rfl rfl Tryz.underlying39 ((f.ev rfl).trans (gv_t hg))) (gt rfl rfl rfl rfl (fun a f hg=>run_lss ((f.ev rfl).trans (gv_t hg)) rfl rfl) fun a f=>?_)))
     revert a;refine ov rfl (fun a f=>run_pick_and rfl (f.ev rfl) (fun hp=>((f.ev rfl).trans (gv_t hp))) rfl) (ag rfl rfl fun a f=>wn ?_)
     refine wp_ret ?_
     repeat with_reducible first|apply tr|apply ir|apply nr
     refine ret1_gw (.inl rfl) f rfl (res_tmp (f.ev rfl)) ?_
     obtain rfl:=Option.some.inj hM
     exact ⟨rfl,S.sel [] rfl rfl⟩
    replace hM:=bif_t hc107 hM
    refine cond_t f rfl hc107 ?_
    refine ws ?_
    obtain ⟨o113,hM114,hM⟩:=bind_ex hM
    refine wp_cut (fun a u=>∃ (p112:Bool),p112=o113∧Fr a 103 [(4,.bool p112)]∧St w u []) ?_ ?_
    ·have _:=trivial
     revert a;refine rl (ov rfl (fun a f=>run_fieldAddr rfl fl41_1 (f.ev rfl) rfl) (ov rfl (fun a f=>run_load1 rfl one26 (f.ev rfl) (S.cell 1 rfl rfl)) (ov rfl (fun a f=>run_fieldAddr rfl fl56_1 (f.ev rfl) rfl) (ov rfl (fun a f=>run_load1 rfl one3 (f.ev rfl) (S.cell 0 rfl rfl)) fun a f=>?_))))
     obtain ⟨hk115,hM114⟩:=chk_ex hM114
     replace hk115:=ixB_t hk115
     revert a;refine ov rfl (fun a f=>run_ix rfl Tryz.underlying26 sz4 (f.ev rfl) (S.rc0 h1.rc) (f.ev rfl) hk115) (ov rfl (fun a f=>run_load1 rfl one4 (f.ev rfl) (rd_el0 (l:=x1) (S.rc0 h1.rc).rd rfl eB_len false (ix_ltn hk115 rfl) rfl)) (mv rfl rfl fun a f=>?_))
     revert a;refine gt rfl rfl rfl rfl (fun a f hg=>run_loadN rfl ag41 (f.ev rfl) rfl ((S.free 1 rfl).cells 0 #[.slice A0 x0.length c0,.slice A1 x1.length c1,.slice A2 x2.length c2] rfl)) (gt rfl rfl rfl rfl (fun a f hg=>run_fieldAddr rfl fl56_1 (f.ev rfl) rfl) (gt rfl rfl rfl rfl (fun a f hg=>run_load1 rfl one3 ((f.ev rfl).trans (gv_t hg)) (S.cell 0 rfl rfl)) fun a f=>?_))
     cases hc116:(x1.getD x4.toNat false)
     ·replace hM114:=bif_f hc116 hM114
      refine op_skipped rfl ((gw_yield f rfl rfl rfl).trans (congrArg some hc116)) rfl rfl f rfl ?_;clear f;intro a f
      refine op_skipped rfl ((gw_yield f rfl rfl rfl).trans (congrArg some hc116)) rfl rfl f rfl ?_;clear f;intro a f
      refine op_skipped rfl ((gw_yield f rfl rfl rfl).trans (congrArg some hc116)) rfl rfl f rfl ?_;clear f;intro a f
      revert a;refine ov rfl (fun a f=>run_pick_f rfl (f.ev rfl) hc116 rfl) (ag rfl rfl fun a f=>wn ?_)
      obtain rfl:=Option.some.inj hM114
      exact ⟨false,rfl,f.keep _ ⟨rfl,trivial⟩,S.sel [] rfl rfl⟩
     replace hM114:=bif_t hc116 hM114
     refine op_guarded rfl ((gw_yield f rfl rfl rfl).trans (congrArg some hc116)) ?_
     obtain ⟨p117,h117,hM114⟩:=bind_ex hM114
     refine op_call rfl rfl f rfl (run_call (vs:=[_,_]) rfl rfl co54 ⟨((f.ev rfl).trans (gv_t hc116)),((f.ev rfl).trans (gv_t hc116)),trivial⟩) (c_spec_WorkHeld ⟨(S.rc0 h0.rc),rfl⟩ ⟨(S.rc0 h1.rc),rfl⟩ ⟨(S.rc0 h2.rc),rfl⟩ h117) ?_
     rintro e u ⟨B118,n119,d120,rfl,rfl,T⟩
     refine ⟨_,rfl,?_⟩
     clear f;intro a f
     replace S:=S.call1 T;clear T
     refine op_guarded rfl ((gw_yield f rfl rfl rfl).trans (congrArg some hc116)) ?_
     revert a;refine ov rfl (fun a f=>run_lenL rfl rfl Tryz.underlying30 (f.ev rfl)) fun a f=>?_
     refine op_guarded rfl ((gw_yield f rfl rfl rfl).trans (congrArg some hc116)) ?_
     revert a;refine ov rfl (fun a f=>run_eql (f.ev rfl) rfl rfl) (ov rfl (fun a f=>run_pick_t rfl (f.ev rfl) hc116 (f.ev rfl)) (ag rfl rfl fun a f=>wn ?_))
     obtain rfl:=Option.some.inj hM114
     exact ⟨(p117.length:Int)==0,rfl,f.keep _ ⟨rfl,trivial⟩,S.sel [] rfl rfl⟩
    rintro a u ⟨p112,rfl,f,S⟩
    refine wp_ret ?_
    repeat with_reducible first|apply tr|apply ir|apply nr
    refine ret1_gw (.inl rfl) f rfl (res_tmp (f.ev rfl)) ?_
    obtain rfl:=Option.some.inj hM
    exact ⟨rfl,S.sel [] rfl rfl⟩
   replace hM:=bif_t hc106 hM
   refine cond_t f rfl hc106 ?_
   revert a;refine sr (ov rfl (fun a f=>run_fieldAddr rfl fl41_0 (f.ev rfl) rfl) (ov rfl (fun a f=>run_load1 rfl one26 (f.ev rfl) (S.cell 1 rfl rfl)) (ov rfl (fun a f=>run_fieldAddr rfl fl56_1 (f.ev rfl) rfl) (ov rfl (fun a f=>run_load1 rfl one3 (f.ev rfl) (S.cell 0 rfl rfl)) fun a f=>?_))))
   obtain ⟨hk121,hM⟩:=chk_ex hM
   replace hk121:=ixB_t hk121
   revert a;refine ov rfl (fun a f=>run_ix rfl Tryz.underlying26 sz4 (f.ev rfl) (S.rc0 h0.rc) (f.ev rfl) hk121) (ov rfl (fun a f=>run_load1 rfl one4 (f.ev rfl) (rd_el0 (l:=x0) (S.rc0 h0.rc).rd rfl eB_len false (ix_ltn hk121 rfl) rfl)) (ov rfl (fun a f=>run_not rfl (f.ev rfl)) (mv rfl rfl fun a f=>?_)))
   revert a;refine gt rfl rfl rfl rfl (fun a f hg=>run_fieldAddr rfl fl41_1 (f.ev rfl) rfl) (gt rfl rfl rfl rfl (fun a f hg=>run_load1 rfl one26 ((f.ev rfl).trans (gv_t hg)) (S.cell 1 rfl rfl)) (gt rfl rfl rfl rfl (fun a f hg=>run_fieldAddr rfl fl56_1 (f.ev rfl) rfl) (gt rfl rfl rfl rfl (fun a f hg=>run_load1 rfl one3 ((f.ev rfl).trans (gv_t hg)) (S.cell 0 rfl rfl)) fun a f=>?_)))
   obtain ⟨hk122,hM⟩:=chk_ex hM
   replace hk122:=fun hg=>ixB_t (imp_t hk122 hg)
   revert a;refine gt rfl rfl rfl rfl (fun a f hg=>run_ix rfl Tryz.underlying26 sz4 ((f.ev rfl).trans (gv_t hg)) (S.rc0 h1.rc) ((f.ev rfl).trans (gv_t hg)) (hk122 hg)) (gt rfl rfl rfl rfl (fun a f hg=>run_load1 rfl one4 ((f.ev rfl).trans (gv_t hg)) (rd_el0 (l:=x1) (S.rc0 h1.rc).rd rfl eB_len false (ix_ltn (hk122 hg) rfl) rfl)) (gt rfl rfl rfl rfl (fun a f hg=>run_not rfl ((f.ev rfl).trans (gv_t hg))) fun a f=>?_))
   revert a;refine ov rfl (fun a f=>run_pick_and rfl (f.ev rfl) (fun hp=>((f.ev rfl).trans (gv_t hp))) rfl) (ag rfl rfl fun a f=>wn ?_)
   refine wp_ret ?_
   repeat with_reducible first|apply tr|apply ir|apply nr
   refine ret1_gw (.inl rfl) f rfl (res_tmp (f.ev rfl)) ?_
   obtain rfl:=Option.some.inj hM
   exact ⟨rfl,S.sel [] rfl rfl⟩
  replace hM:=bif_t hc105 hM
  refine cond_t f rfl hc105 ?_
  revert a;refine sr (ov rfl (fun a f=>run_fieldAddr rfl fl41_0 (f.ev rfl) rfl) (ov rfl (fun a f=>run_load1 rfl one26 (f.ev rfl) (S.cell 1 rfl rfl)) (ov rfl (fun a f=>run_fieldAddr rfl fl56_1 (f.ev rfl) rfl) (ov rfl (fun a f=>run_load1 rfl one3 (f.ev rfl) (S.cell 0 rfl rfl)) fun a f=>?_))))
  obtain ⟨hk123,hM⟩:=chk_ex hM
  replace hk123:=ixB_t hk123
  revert a;refine ov rfl (fun a f=>run_ix rfl Tryz.underlying26 sz4 (f.ev rfl) (S.rc0 h0.rc) (f.ev rfl) hk123) (ov rfl (fun a f=>run_load1 rfl one4 (f.ev rfl) (rd_el0 (l:=x0) (S.rc0 h0.rc).rd rfl eB_len false (ix_ltn hk123 rfl) rfl)) (ag rfl rfl fun a f=>wn ?_))
  refine wp_ret ?_
  repeat with_reducible first|apply tr|apply ir|apply nr
  refine ret1_gw (.inl rfl) f rfl (res_tmp (f.ev rfl)) ?_
  obtain rfl:=Option.some.inj hM
  exact ⟨rfl,S.sel [] rfl rfl⟩
 replace hM:=bif_t hc104 hM
 refine cond_t f rfl hc104 ?_
 revert a;refine sr (ov rfl (fun a f=>run_fieldAddr rfl fl41_0 (f.ev rfl) rfl) (ov rfl (fun a f=>run_load1 rfl one26 (f.ev rfl) (S.cell 1 rfl rfl)) (ov rfl (fun a f=>run_fieldAddr rfl fl56_1 (f.ev rfl) rfl) (ov rfl (fun a f=>run_load1 rfl one3 (f.ev rfl) (S.cell 0 rfl rfl)) fun a f=>?_))))
 obtain ⟨hk124,hM⟩:=chk_ex hM
 replace hk124:=ixB_t hk124
 revert a;refine ov rfl (fun a f=>run_ix rfl Tryz.underlying26 sz4 (f.ev rfl) (S.rc0 h0.rc) (f.ev rfl) hk124) (ov rfl (fun a f=>run_load1 rfl one4 (f.ev rfl) (rd_el0 (l:=x0) (S.rc0 h0.rc).rd rfl eB_len false (ix_ltn hk124 rfl) rfl)) (ov rfl (fun a f=>run_not rfl (f.ev rfl)) (mv rfl rfl fun a f=>?_)))
 revert a;refine gt rfl rfl rfl rfl (fun a f hg=>run_fieldAddr rfl fl41_1 (f.ev rfl) rfl) (gt rfl rfl rfl rfl (fun a f hg=>run_load1 rfl one26 ((f.ev rfl).trans (gv_t hg)) (S.cell 1 rfl rfl)) (gt rfl rfl rfl rfl (fun a f hg=>run_fieldAddr rfl fl56_1 (f.ev rfl) rfl) (gt rfl rfl rfl rfl (fun a f hg=>run_load1 rfl one3 ((f.ev rfl).trans (gv_t hg)) (S.cell 0 rfl rfl)) fun a f=>?_)))
 obtain ⟨hk125,hM⟩:=chk_ex hM
 replace hk125:=fun hg=>ixB_t (imp_t hk125 hg)
 revert a;refine gt rfl rfl rfl rfl (fun a f hg=>run_ix rfl Tryz.underlying26 sz4 ((f.ev rfl).trans (gv_t hg)) (S.rc0 h1.rc) ((f.ev rfl).trans (gv_t hg)) (hk125 hg)) (gt rfl rfl rfl rfl (fun a f hg=>run_load1 rfl one4 ((f.ev rfl).trans (gv_t hg)) (rd_el0 (l:=x1) (S.rc0 h1.rc).rd rfl eB_len false (ix_ltn (hk125 hg) rfl) rfl)) (gt rfl rfl rfl rfl (fun a f hg=>run_not rfl ((f.ev rfl).trans (gv_t hg))) fun a f=>?_))
 revert a;refine ov rfl (fun a f=>run_pick_and rfl (f.ev rfl) (fun hp=>((f.ev rfl).trans (gv_t hp))) rfl) (ag rfl rfl fun a f=>wn ?_)
 refine wp_ret ?_
 repeat with_reducible first|apply tr|apply ir|apply nr
 refine ret1_gw (.inl rfl) f rfl (res_tmp (f.ev rfl)) ?_
 obtain rfl:=Option.some.inj hM
 exact ⟨rfl,S.sel [] rfl rfl⟩
theorem c_spec_WorkDo {x0:List Bool} {x1:List Bool} {x2:List (Int×Int)} {x3:Int} {x4:Int} {x5:Int} {A0:Option Addr} {n0 c0:Nat} {A1:Option Addr} {n1 c1:Nat} {A2:Option Addr} {n2 c2:Nat} {w:World} {r:List Bool×List Bool×List (Int×Int)×Bool} (h0:Rt w 1 eB A0 n0 c0 x0) (h1:Rt w 1 eB A1 n1 c1 x1) (h2:Rt w 2 ePermit A2 n2 c2 x2) (hM : m_spec_WorkDo x0 x1 x2 x3 x4 x5=some r) :
  Calls Tryz.prog 56 #[.agg #[.slice A0 n0 c0,.slice A1 n1 c1,.slice A2 n2 c2],.agg #[iv x3,iv x4,iv x5]] w (fun e w'=>∃ (B0:Option Addr) (N0 D0:Nat) (B1:Option Addr) (N1 D1:Nat) (B2:Option Addr) (N2 D2:Nat),e=.returned (.tuple #[.agg #[.slice B0 N0 D0,.slice B1 N1 D1,.slice B2 N2 D2],.bool r.2.2.2])∧N0=r.1.length∧N1=r.2.1.length∧N2=r.2.2.1.length∧St w w' [.row 4 1 (.slice B0 N0 D0) N0 (r.1.flatMap eB),.row 4 1 (.slice B1 N1 D1) N1 (r.2.1.flatMap eB),.row 78 2 (.slice B2 N2 D2) N2 (r.2.2.1.flatMap ePermit)]):=by
 obtain rfl:=h0.len
 obtain rfl:=h1.len
 obtain rfl:=h2.len
 unfold m_spec_WorkDo at hM
 refine calls_gx Tryz.func56 Tryz.ntmps56 rfl rfl ?_
 intro a f
 have S:=St.nil w
 refine wsg ?_
 refine op_new (cs:=#[.slice A0 x0.length c0,.slice A1 x1.length c1,.slice A2 x2.length c2]) rfl rfl f rfl S (run_box rfl (f.ev rfl) rfl) ?_;clear f S;intro a g101 u f S
 refine op_new (cs:=#[iv x3,iv x4,iv x5]) rfl rfl f rfl S (run_box rfl (f.ev rfl) rfl) ?_;clear f S;intro a g102 u f S
 refine op_new (cs:=#[.slice none 0 0,.slice none 0 0,.slice none 0 0]) rfl rfl f rfl S (run_allocZ rfl zr41) ?_;clear f S;intro a g103 u f S
 revert a;refine ov rfl (fun a f=>run_assign rfl rfl) fun a f=>wn ?_
 refine ws ?_
 revert a;refine sr (ov rfl (fun a f=>run_loadN rfl ag41 (f.ev rfl) rfl ((S.free 2 rfl).cells 0 #[.slice A0 x0.length c0,.slice A1 x1.length c1,.slice A2 x2.length c2] rfl)) fun a f=>?_)
 obtain ⟨p104,h104,hM⟩:=bind_ex hM
 refine op_call rfl rfl f rfl (run_call (vs:=[_]) rfl rfl co69 ⟨(f.ev rfl),trivial⟩) (c_spec_WorkValid ⟨(S.rc0 h0.rc),rfl⟩ ⟨(S.rc0 h1.rc),rfl⟩ ⟨(S.rc0 h2.rc),rfl⟩ h104) ?_
 rintro e u ⟨rfl,T⟩
 refine ⟨_,rfl,?_⟩
 clear f;intro a f
 replace S:=S.call0 T;clear T
 revert a;refine ov rfl (fun a f=>run_not rfl (f.ev rfl)) fun a f=>wn ?_
 cases hc105:(p104)
 ·replace hM:=bif_f hc105 hM
  refine cond_t f rfl (not_t hc105) ?_
  revert a;refine sr (ov rfl (fun a f=>run_build (vs:=[]) rfl trivial (bd41 )) fun a f=>?_)
  refine op_do rfl rfl (run_store (cs':=#[.slice none 0 0,.slice none 0 0,.slice none 0 0]) rfl sz41 (f.ev rfl) (f.ev rfl) rfl rfl rfl (S.free 0 rfl) rfl rfl) ?_;replace S:=S.put 0 rfl (#[.slice none 0 0,.slice none 0 0,.slice none 0 0])
  generalize World.setRow _ _ _=u at S ⊢
  revert a;refine ov rfl (fun a f=>run_assign rfl rfl) fun a f=>wn ?_
  refine wp_ret ?_
  repeat with_reducible first|apply tr|apply ir|apply nr
  refine ret2_gw (.inl rfl) f rfl (res_cell (f.ev rfl) (res_loadN ag41 rfl (S.cells 0 rfl 0 #[.slice none 0 0,.slice none 0 0,.slice none 0 0] rfl))) (res_tmp (f.ev rfl)) ?_
  obtain rfl:=Option.some.inj hM
  replace S:=S.nilrow 4 1
  replace S:=S.nilrow 4 1
  replace S:=S.nilrow 78 2
  exact ⟨none,0,0,none,0,0,none,0,0,rfl,rfl,rfl,rfl,S.sel [2,1,0] rfl rfl⟩
 replace hM:=bif_t hc105 hM
 refine cond_f f rfl (not_f hc105) ?_
 refine wp_skip ?_
 revert a;refine sr (ov rfl (fun a f=>run_loadN rfl ag41 (f.ev rfl) rfl ((S.free 2 rfl).cells 0 #[.slice A0 x0.length c0,.slice A1 x1.length c1,.slice A2 x2.length c2] rfl)) fun a f=>?_)
 obtain ⟨p106,h106,hM⟩:=bind_ex hM
 refine op_call rfl rfl f rfl (run_call (vs:=[_]) rfl rfl co88 ⟨(f.ev rfl),trivial⟩) (c_spec_l12Copy ⟨(S.rc0 h0.rc),rfl⟩ ⟨(S.rc0 h1.rc),rfl⟩ ⟨(S.rc0 h2.rc),rfl⟩ h106) ?_
 rintro e u ⟨B107,n108,d109,B110,n111,d112,B113,n114,d115,rfl,rfl,rfl,rfl,T⟩
 refine ⟨_,rfl,?_⟩
 clear f;intro a f
 replace S:=S.call3 T;clear T
 refine op_new (cs:=#[.slice none 0 0,.slice none 0 0,.slice none 0 0]) rfl rfl f rfl S (run_allocZ rfl zr41) ?_;clear f S;intro a g116 u f S
 refine op_do rfl rfl (run_store (cs':=#[.slice B107 p106.1.length d109,.slice B110 p106.2.1.length d112,.slice B113 p106.2.2.length d115]) rfl sz41 (f.ev rfl) (f.ev rfl) rfl rfl rfl (S.free 0 rfl) rfl rfl) ?_;replace S:=S.put 0 rfl (#[.slice B107 p106.1.length d109,.slice B110 p106.2.1.length d112,.slice B113 p106.2.2.length d115])
 generalize World.setRow _ _ _=u at S ⊢
 refine wn ?_
 refine ws ?_
 revert a;refine sr (ov rfl (fun a f=>run_fieldAddr rfl fl56_1 (f.ev rfl) rfl) (ov rfl (fun a f=>run_load1 rfl one3 (f.ev rfl) (S.cell 5 rfl rfl)) (ov rfl (fun a f=>run_fieldAddr rfl fl41_0 (f.ev rfl) rfl) (ov rfl (fun a f=>run_load1 rfl one26 (f.ev rfl) (S.cell 6 rfl rfl)) (ov rfl (fun a f=>run_lenL rfl rfl Tryz.underlying26 (f.ev rfl)) (ov rfl (fun a f=>run_sub (z:=w64 ((x0.length:Int)-1)) (f.ev rfl) rfl rfl rfl) fun a f=>?_))))))
 obtain ⟨p117,h117,hM⟩:=bind_ex hM
 refine op_call rfl rfl f rfl (run_call (vs:=[_,_,_]) rfl rfl co51 ⟨(f.ev rfl),rfl,(f.ev rfl),trivial⟩) (c_spec_l1In  h117) ?_
 rintro e u ⟨rfl,T⟩
 refine ⟨_,rfl,?_⟩
 clear f;intro a f
 replace S:=S.call0 T;clear T
 revert a;refine ov rfl (fun a f=>run_not rfl (f.ev rfl)) (mv rfl rfl fun a f=>?_)
 revert a;refine gf rfl rfl rfl rfl (fun a f hg=>run_loadN rfl ag41 (f.ev rfl) rfl ((S.free 6 rfl).cells 0 #[.slice A0 x0.length c0,.slice A1 x1.length c1,.slice A2 x2.length c2] rfl)) (gf rfl rfl rfl rfl (fun a f hg=>run_loadN rfl ag56 (f.ev rfl) rfl ((S.free 5 rfl).cells 0 #[iv x3,iv x4,iv x5] rfl)) fun a f=>?_)
 obtain ⟨p118,h118,hM⟩:=bind_ex hM
 refine op_gcall (v:=.bool p118) rfl rfl f rfl S (yf (gw_yield f rfl rfl rfl)) (fun hg=>(run_call (vs:=[.agg #[.slice A0 x0.length c0,.slice A1 x1.length c1,.slice A2 x2.length c2],.agg #[iv x3,iv x4,iv x5]]) rfl rfl co89 ⟨((f.ev rfl).trans (gv_t hg)),((f.ev rfl).trans (gv_t hg)),trivial⟩)) (fun hg=>c_spec_l12May (x0:=x0) (x1:=x1) (x2:=x2) (x3:=x3) (x4:=x4) (x5:=x5) ⟨(S.rc0 h0.rc),rfl⟩ ⟨(S.rc0 h1.rc),rfl⟩ ⟨(S.rc0 h2.rc),rfl⟩ (gb_t h118 hg)) ?_;clear f S;intro a u f S
 revert a;refine gf rfl rfl rfl rfl (fun a f hg=>run_not rfl ((f.ev rfl).trans (gv_t hg))) (ov rfl (fun a f=>run_pick_or rfl (f.ev rfl) rfl (fun hp=>((f.ev rfl).trans (gv_t (not_t hp))))) fun a f=>wn ?_)
 cases hc119:((!p117)||(!p118))
 ·replace hM:=bif_f hc119 hM
  refine cond_f f rfl hc119 ?_
  refine wp_skip ?_
  refine ws ?_
  revert a;refine sr (ov rfl (fun a f=>run_fieldAddr rfl fl56_0 (f.ev rfl) rfl) (ov rfl (fun a f=>run_load1 rfl one3 (f.ev rfl) (S.cell 5 rfl rfl)) fun a f=>wn ?_))
  refine wp_block ?_
  revert a;refine sr (ov rfl (fun a f=>run_eql (f.ev rfl) rfl rfl) (ag rfl rfl fun a f=>wn ?_))
  obtain ⟨o121,hM126,hM⟩:=bind_ex hM
  refine wp_cut (fun a u=>∃ (p120:List Bool×List Bool×List (Int×Int)) (B124:Option Addr) (d125:Nat),p120=o121∧p106.1.length=p120.1.length∧p106.2.1.length=p120.2.1.length∧Fr a 91 [(4,.pointer (some ⟨g103,0,none⟩)),(5,.bool false),(6,.pointer (some ⟨g116,0,none⟩))]∧St w u [.box g116 41 #[.slice B107 p106.1.length d109,.slice B110 p106.2.1.length d112,.slice B124 p120.2.2.length d125],.box g103 41 #[.slice none 0 0,.slice none 0 0,.slice none 0 0],.row 4 1 (.slice B107 p106.1.length d109) p106.1.length (p120.1.flatMap eB),.row 4 1 (.slice B110 p106.2.1.length d112) p106.2.1.length (p120.2.1.flatMap eB),.row 78 2 (.slice B124 p120.2.2.length d125) p120.2.2.length (p120.2.2.flatMap ePermit)]) ?_ ?_
  ·have _:=trivial
   cases hc127:(x3==0)
   ·replace hM126:=bif_f hc127 hM126
    refine cond_f f rfl hc127 ?_
    revert a;refine sr (ov rfl (fun a f=>run_eql (f.ev rfl) rfl rfl) (ag rfl rfl fun a f=>wn ?_))
    obtain ⟨o129,hM134,hM126⟩:=bind_ex hM126
    refine wp_cut (fun a u=>∃ (p128:List Bool×List Bool×List (Int×Int)) (B132:Option Addr) (d133:Nat),p128=o129∧p106.1.length=p128.1.length∧p106.2.1.length=p128.2.1.length∧Fr a 91 [(4,.pointer (some ⟨g103,0,none⟩)),(5,.bool false),(6,.pointer (some ⟨g116,0,none⟩))]∧St w u [.box g116 41 #[.slice B107 p106.1.length d109,.slice B110 p106.2.1.length d112,.slice B132 p128.2.2.length d133],.box g103 41 #[.slice none 0 0,.slice none 0 0,.slice none 0 0],.row 4 1 (.slice B107 p106.1.length d109) p106.1.length (p128.1.flatMap eB),.row 4 1 (.slice B110 p106.2.1.length d112) p106.2.1.length (p128.2.1.flatMap eB),.row 78 2 (.slice B132 p128.2.2.length d133) p128.2.2.length (p128.2.2.flatMap ePermit)]) ?_ ?_
    ·have _:=trivial
     cases hc135:(x3==1)
     ·replace hM134:=bif_f hc135 hM134
      refine cond_f f rfl hc135 ?_
      revert a;refine sr (ov rfl (fun a f=>run_eql (f.ev rfl) rfl rfl) (ag rfl rfl fun a f=>wn ?_))
      obtain ⟨o137,hM141,hM134⟩:=bind_ex hM134
      refine wp_cut (fun a u=>∃ (p136:List Bool×List (Int×Int)) (B139:Option Addr) (d140:Nat),p136=o137∧p106.2.1.length=p136.1.length∧Fr a 91 [(4,.pointer (some ⟨g103,0,none⟩)),(5,.bool false),(6,.pointer (some ⟨g116,0,none⟩))]∧St w u [.box g116 41 #[.slice B107 p106.1.length d109,.slice B110 p106.2.1.length d112,.slice B139 p136.2.length d140],.box g103 41 #[.slice none 0 0,.slice none 0 0,.slice none 0 0],.row 4 1 (.slice B107 p106.1.length d109) p106.1.length (p106.1.flatMap eB),.row 4 1 (.slice B110 p106.2.1.length d112) p106.2.1.length (p136.1.flatMap eB),.row 78 2 (.slice B139 p136.2.length d140) p136.2.length (p136.2.flatMap ePermit)]) ?_ ?_
      ·have _:=trivial
       cases hc142:(x3==2)
       ·replace hM141:=bif_f hc142 hM141
        refine cond_f f rfl hc142 ?_
        revert a;refine sr (ov rfl (fun a f=>run_eql (f.ev rfl) rfl rfl) (ag rfl rfl fun a f=>wn ?_))
        obtain ⟨o144,hM148,hM141⟩:=bind_ex hM141
        refine wp_cut (fun a u=>∃ (p143:List Bool×List (Int×Int)) (B146:Option Addr) (d147:Nat),p143=o144∧p106.2.1.length=p143.1.length∧Fr a 91 [(4,.pointer (some ⟨g103,0,none⟩)),(5,.bool false),(6,.pointer (some ⟨g116,0,none⟩))]∧St w u [.box g116 41 #[.slice B107 p106.1.length d109,.slice B110 p106.2.1.length d112,.slice B146 p143.2.length d147],.box g103 41 #[.slice none 0 0,.slice none 0 0,.slice none 0 0],.row 4 1 (.slice B107 p106.1.length d109) p106.1.length (p106.1.flatMap eB),.row 4 1 (.slice B110 p106.2.1.length d112) p106.2.1.length (p143.1.flatMap eB),.row 78 2 (.slice B146 p143.2.length d147) p143.2.length (p143.2.flatMap ePermit)]) ?_ ?_
        ·have _:=trivial
         cases hc149:(x3==3)
         ·replace hM148:=bif_f hc149 hM148
          refine cond_f f rfl hc149 ?_
          revert a;refine sr (ov rfl (fun a f=>run_eql (f.ev rfl) rfl rfl) (ag rfl rfl fun a f=>wn ?_))
          obtain ⟨o151,hM154,hM148⟩:=bind_ex hM148
          refine wp_cut (fun a u=>∃ (p150:List (Int×Int)) (B152:Option Addr) (d153:Nat),p150=o151∧Fr a 91 [(4,.pointer (some ⟨g103,0,none⟩)),(5,.bool false),(6,.pointer (some ⟨g116,0,none⟩))]∧St w u [.box g116 41 #[.slice B107 p106.1.length d109,.slice B110 p106.2.1.length d112,.slice B152 p150.length d153],.box g103 41 #[.slice none 0 0,.slice none 0 0,.slice none 0 0],.row 4 1 (.slice B107 p106.1.length d109) p106.1.length (p106.1.flatMap eB),.row 4 1 (.slice B110 p106.2.1.length d112) p106.2.1.length (p106.2.1.flatMap eB),.row 78 2 (.slice B152 p150.length d153) p150.length (p150.flatMap ePermit)]) ?_ ?_
          ·have _:=trivial
           cases hc155:(x3==4)
           ·replace hM154:=bif_f hc155 hM154
            refine cond_f f rfl hc155 ?_
            revert a;refine sr (ov rfl (fun a f=>run_fieldAddr rfl fl41_2 (f.ev rfl) rfl) (ov rfl (fun a f=>run_load1 rfl one39 (f.ev rfl) (S.cell 6 rfl rfl)) (ov rfl (fun a f=>run_fieldAddr rfl fl56_2 (f.ev rfl) rfl) (ov rfl (fun a f=>run_load1 rfl one3 (f.ev rfl) (S.cell 5 rfl rfl)) (ov rfl (fun a f=>run_fieldAddr rfl fl56_1 (f.ev rfl) rfl) (ov rfl (fun a f=>run_load1 rfl one3 (f.ev rfl) (S.cell 5 rfl rfl)) (ov rfl (fun a f=>run_build (vs:=[(0,iv x5),(1,iv x4)]) rfl ⟨⟨rfl,(f.ev rfl)⟩,⟨rfl,(f.ev rfl)⟩,trivial⟩ (bd78_0_1 rfl rfl)) fun a f=>?_)))))))
            obtain ⟨p156,h156,hM154⟩:=bind_ex hM154
            refine op_call rfl rfl f rfl (run_call (vs:=[_,_]) rfl rfl co90 ⟨(f.ev rfl),(f.ev rfl),trivial⟩) (c_spec_l12Find ⟨(S.rc0 h2.rc),rfl⟩ h156) ?_
            rintro e u ⟨rfl,T⟩
            refine ⟨_,rfl,?_⟩
            clear f;intro a f
            replace S:=S.call0 T;clear T
            revert a;refine ag rfl rfl fun a f=>wn ?_
            obtain ⟨hk157,hM154⟩:=chk_ex hM154
            replace hk157:=slB_t hk157
            obtain ⟨hk158,hM154⟩:=chk_ex hM154
            replace hk158:=slB_t hk158
            obtain ⟨hk159,hM154⟩:=chk_ex hM154
            replace hk159:=apB_t hk159
            refine region_gw (D:=[39,40,41,42,43,44,45,46,47,48,49]) (Lr:=[.row 4 1 (.slice B107 p106.1.length d109) p106.1.length (p106.1.flatMap eB),.row 4 1 (.slice B110 p106.2.1.length d112) p106.2.1.length (p106.2.1.flatMap eB),.box g103 41 #[.slice none 0 0,.slice none 0 0,.slice none 0 0],.box g102 56 #[iv x3,iv x4,iv x5],.box g101 41 #[.slice A0 x0.length c0,.slice A1 x1.length c1,.slice A2 x2.length c2]]) (deps:=(fun | 0=>[39] | 1=>[40] | 2=>[41] | 3=>[42] | 4=>[43] | 5=>[44] | 6=>[45] | 7=>[46] | 8=>[47] | 9=>[48] | 10=>[49] | 11=>[49,48] | _=>[])) (rd:=(fun _=>[])) (zr:=(fun | 1=>[11] | 3=>[9] | _=>[]))
             (φ:=fun i vs=>match i,vs with | 0,[v39]=>v39=.pointer (some ⟨g116,2,none⟩) | 1,[v40]=>v40=.slice B113 p106.2.2.length d115 | 2,[v41]=>v41=iv p156 | 3,[v42]=>v42=.slice (subA d115 ((0:Int).toNat) 2 B113) ((subL p106.2.2 0 p156).length) (d115-(0:Int).toNat) | 4,[v43]=>v43=.pointer (some ⟨g101,2,none⟩) | 5,[v44]=>v44=.slice A2 x2.length c2 | 6,[v45]=>v45=iv p156 | 7,[v46]=>v46=iv (w64 (p156+1)) | 8,[v47]=>v47=.slice (subA c2 ((w64 (p156+1)).toNat) 2 A2) ((subL x2 (w64 (p156+1)) (x2.length:Int)).length) (c2-(w64 (p156+1)).toNat) | 9,[v48]=>v48=.slice (slA v48) (((subL p106.2.2 0 p156)++(subL x2 (w64 (p156+1)) (x2.length:Int))).length) (slC v48) | 10,[v49]=>v49=.pointer (some ⟨g116,2,none⟩) | _,_=>True)
             (C:=fun i vs=>match i,vs with | 9,[v48]=>[.row 78 2 (.slice (slA v48) (((subL p106.2.2 0 p156)++(subL x2 (w64 (p156+1)) (x2.length:Int))).length) (slC v48)) (((subL p106.2.2 0 p156)++(subL x2 (w64 (p156+1)) (x2.length:Int))).length) (((subL p106.2.2 0 p156)++(subL x2 (w64 (p156+1)) (x2.length:Int))).flatMap ePermit)] | 11,[v49,v48]=>[.box g116 41 #[.slice B107 p106.1.length d109,.slice B110 p106.2.1.length d112,.slice (slA v48) (((subL p106.2.2 0 p156)++(subL x2 (w64 (p156+1)) (x2.length:Int))).length) (slC v48)]] | _,_=>[])
             (κ:=(fun _=>none)) (Z:=(fun | 9=>[.row 78 2 (.slice B113 p106.2.2.length d115) p106.2.2.length (p106.2.2.flatMap ePermit)] | 11=>[.box g116 41 #[.slice B107 p106.1.length d109,.slice B110 p106.2.1.length d112,.slice B113 p106.2.2.length d115]] | _=>[])) mixed f (by kernel_rfl) (show St w _ [.row 78 2 (.slice B113 p106.2.2.length d115) p106.2.2.length (p106.2.2.flatMap ePermit),.box g116 41 #[.slice B107 p106.1.length d109,.slice B110 p106.2.1.length d112,.slice B113 p106.2.2.length d115],.row 4 1 (.slice B107 p106.1.length d109) p106.1.length (p106.1.flatMap eB),.row 4 1 (.slice B110 p106.2.1.length d112) p106.2.1.length (p106.2.1.flatMap eB),.box g103 41 #[.slice none 0 0,.slice none 0 0,.slice none 0 0],.box g102 56 #[iv x3,iv x4,iv x5],.box g101 41 #[.slice A0 x0.length c0,.slice A1 x1.length c1,.slice A2 x2.length c2]] from S.sel [3,0,1,2,4,5,6] rfl rfl) ?_ ?_
            ·refine ⟨?_,?_,?_,?_,?_,?_,?_,?_,?_,?_,?_,?_,trivial⟩
             ·intro a u X hB hu p hr hz hl S
              exact .inl ⟨rfl,_,u,(run_fieldAddr rfl fl41_2 (f.evB hB rfl rfl) rfl),rfl,S⟩
             ·intro a u X hB hu p hr hz hl S
              exact .inl ⟨rfl,_,u,(run_load1 rfl one39 (ev_sl (p 0 rfl)) ((show Bk _ _ _ _ from S.mem (List.mem_append_right _ (hz 11 (List.mem_of_getElem? (i:=0) rfl) _ (List.mem_of_getElem? (i:=0) rfl)))).cell rfl)),rfl,S⟩
             ·intro a u X hB hu p hr hz hl S
              exact .inl ⟨rfl,_,u,(run_move rfl (f.evB hB rfl rfl)),rfl,S⟩
             ·intro a u X hB hu p hr hz hl S
              exact .inl ⟨rfl,_,u,(run_sliceH (l:=p106.2.2) rfl Tryz.underlying39 sz78 (ev_sl (p 1 rfl)) (ev_sl (p 2 rfl)) hk157 rfl (own_rc (show Ow _ _ _ _ _ _ from S.mem (List.mem_append_right _ (hz 9 (List.mem_of_getElem? (i:=0) rfl) _ (List.mem_of_getElem? (i:=0) rfl))))).cap),rfl,S⟩
             ·intro a u X hB hu p hr hz hl S
              exact .inl ⟨rfl,_,u,(run_fieldAddr rfl fl41_2 (f.evB hB rfl rfl) rfl),rfl,S⟩
             ·intro a u X hB hu p hr hz hl S
              exact .inl ⟨rfl,_,u,(run_load1 rfl one39 (ev_sl (p 4 rfl)) ((gr_box S hl 4 rfl).cell rfl)),rfl,S⟩
             ·intro a u X hB hu p hr hz hl S
              exact .inl ⟨rfl,_,u,(run_move rfl (f.evB hB rfl rfl)),rfl,S⟩
             ·intro a u X hB hu p hr hz hl S
              exact .inl ⟨rfl,_,u,(run_add (z:=w64 (p156+1)) (ev_sl (p 6 rfl)) (ev_const _ _) rfl rfl),rfl,S⟩
             ·intro a u X hB hu p hr hz hl S
              exact .inl ⟨rfl,_,u,(run_slicefrom (l:=x2) rfl Tryz.underlying39 sz78 (ev_sl (p 5 rfl)) (ev_sl (p 7 rfl)) hk158 rfl (S.rc0 h2.rc).cap),rfl,S⟩
             ·intro a u X hB hu p hr hz hl S
              replace S:St w u ([.row 78 2 (.slice B113 p106.2.2.length d115) p106.2.2.length (p106.2.2.flatMap ePermit)]++X):=S
              replace S:=S.cutrow 0 rfl ePermit_len rfl hk157
              obtain ⟨B,d,w',hrun,S'⟩:=S.appendL (i:=0) (P:=Tryz.prog) (ty:=39) (lx:=subL p106.2.2 0 p156) (ly:=subL x2 (w64 (p156+1)) (x2.length:Int)) (c':=(c2-(w64 (p156+1)).toNat)) rfl rfl Tryz.underlying39 inf78 rfl (by decide) (rc_sub ePermit_len hk158 rfl (S.rc0 h2.rc)).rd rfl ePermit_one hk159 (by decide)
              exact .inl ⟨rfl,_,w',run_append rfl (ev_sl (p 3 rfl)) (ev_sl (p 8 rfl)) hrun,rfl,S'⟩
             ·intro a u X hB hu p hr hz hl S
              exact .inl ⟨rfl,_,u,(run_fieldAddr rfl fl41_2 (f.evB hB rfl rfl) rfl),rfl,S⟩
             intro a u X hB hu p hr hz hl S
             replace S:St w u ([.box g116 41 #[.slice B107 p106.1.length d109,.slice B110 p106.2.1.length d112,.slice B113 p106.2.2.length d115]]++X):=S
             exact .inr (.inl ⟨rfl,_,run_store (cs':=#[.slice B107 p106.1.length d109,.slice B110 p106.2.1.length d112,.slice (slA (sl a 48)) (((subL p106.2.2 0 p156)++(subL x2 (w64 (p156+1)) (x2.length:Int))).length) (slC (sl a 48))]) rfl sz39 (ev_sl (p 10 rfl)) (ev_sl (p 9 rfl)) rfl rfl rfl (S.free 0 rfl) rfl rfl,trivial,S.put 0 rfl (#[.slice B107 p106.1.length d109,.slice B110 p106.2.1.length d112,.slice (slA (sl a 48)) (((subL p106.2.2 0 p156)++(subL x2 (w64 (p156+1)) (x2.length:Int))).length) (slC (sl a 48))])⟩)
            intro a u hB hp S
            obtain ⟨q0,q1,q2,q3,q4,q5,q6,q7,q8,q9,q10,q11,-⟩:=hp
            replace S:St w u [.row 78 2 (.slice (slA (sl a 48)) (((subL p106.2.2 0 p156)++(subL x2 (w64 (p156+1)) (x2.length:Int))).length) (slC (sl a 48))) (((subL p106.2.2 0 p156)++(subL x2 (w64 (p156+1)) (x2.length:Int))).length) (((subL p106.2.2 0 p156)++(subL x2 (w64 (p156+1)) (x2.length:Int))).flatMap ePermit),.box g116 41 #[.slice B107 p106.1.length d109,.slice B110 p106.2.1.length d112,.slice (slA (sl a 48)) (((subL p106.2.2 0 p156)++(subL x2 (w64 (p156+1)) (x2.length:Int))).length) (slC (sl a 48))],.row 4 1 (.slice B107 p106.1.length d109) p106.1.length (p106.1.flatMap eB),.row 4 1 (.slice B110 p106.2.1.length d112) p106.2.1.length (p106.2.1.flatMap eB),.box g103 41 #[.slice none 0 0,.slice none 0 0,.slice none 0 0],.box g102 56 #[iv x3,iv x4,iv x5],.box g101 41 #[.slice A0 x0.length c0,.slice A1 x1.length c1,.slice A2 x2.length c2]]:=S
            have f:=f.region hB [(39,.pointer (some ⟨g116,2,none⟩)),(40,.slice B113 p106.2.2.length d115),(41,iv p156),(42,.slice (subA d115 ((0:Int).toNat) 2 B113) ((subL p106.2.2 0 p156).length) (d115-(0:Int).toNat)),(43,.pointer (some ⟨g101,2,none⟩)),(44,.slice A2 x2.length c2),(45,iv p156),(46,iv (w64 (p156+1))),(47,.slice (subA c2 ((w64 (p156+1)).toNat) 2 A2) ((subL x2 (w64 (p156+1)) (x2.length:Int)).length) (c2-(w64 (p156+1)).toNat)),(48,.slice (slA (sl a 48)) (((subL p106.2.2 0 p156)++(subL x2 (w64 (p156+1)) (x2.length:Int))).length) (slC (sl a 48))),(49,.pointer (some ⟨g116,2,none⟩))] (allSl_mem ⟨q0,q1,q2,q3,q4,q5,q6,q7,q8,q9,q10,trivial⟩) rfl
            clear hB q0 q1 q2 q3 q4 q5 q6 q7 q8 q9 q10 q11
            generalize slA (sl a 48)=B160 at *
            generalize slC (sl a 48)=d161 at *
            obtain rfl:=Option.some.inj hM154
            exact ⟨(subL p106.2.2 0 p156)++(subL x2 (w64 (p156+1)) (x2.length:Int)),B160,d161,rfl,f.keep _ ⟨rfl,rfl,rfl,trivial⟩,S.sel [1,4,2,3,0] rfl rfl⟩
           replace hM154:=bif_t hc155 hM154
           refine cond_t f rfl hc155 ?_
           revert a;refine rl (ov rfl (fun a f=>run_fieldAddr rfl fl41_2 (f.ev rfl) rfl) (ov rfl (fun a f=>run_load1 rfl one39 (f.ev rfl) (S.cell 0 rfl rfl)) (ov rfl (fun a f=>run_fieldAddr rfl fl56_2 (f.ev rfl) rfl) (ov rfl (fun a f=>run_load1 rfl one3 (f.ev rfl) (S.cell 5 rfl rfl)) (ov rfl (fun a f=>run_fieldAddr rfl fl56_1 (f.ev rfl) rfl) (ov rfl (fun a f=>run_load1 rfl one3 (f.ev rfl) (S.cell 5 rfl rfl)) (ov rfl (fun a f=>run_build (vs:=[(0,iv x5),(1,iv x4)]) rfl ⟨⟨rfl,(f.ev rfl)⟩,⟨rfl,(f.ev rfl)⟩,trivial⟩ (bd78_0_1 rfl rfl)) fun a f=>?_)))))))
           refine op_newrowL (ls:=(([(x5,x4)]:List (Int×Int)):List (Int×Int))) (e:=ePermit) rfl rfl f rfl S (run_buildS (vs:=[(0,.agg #[iv x5,iv x4])]) rfl ⟨⟨rfl,(f.ev rfl)⟩,trivial⟩ (bs39_1_2 )) rfl ePermit_len (Nat.le_of_ble_eq_true rfl) ?_;clear f S;intro a g162 u f S
           obtain ⟨hk165,hM154⟩:=chk_ex hM154
           replace hk165:=apB_t hk165
           refine op_appendL (lx:=p106.2.2) (ly:=([(x5,x4)]:List (Int×Int))) rfl rfl f rfl S rfl (f.ev rfl) (f.ev rfl) (i:=4) rfl rfl Tryz.underlying39 inf78 rfl (by decide) (S.rc 0 rfl).rd rfl ePermit_one hk165 (by decide) ?_;clear f S;intro a B163 d164 u f S
           revert a;refine ov rfl (fun a f=>run_fieldAddr rfl fl41_2 (f.ev rfl) rfl) fun a f=>?_
           refine op_do rfl rfl (run_store (cs':=#[.slice B107 p106.1.length d109,.slice B110 p106.2.1.length d112,.slice B163 ((p106.2.2++([(x5,x4)]:List (Int×Int))).length) d164]) rfl sz39 (f.ev rfl) (f.ev rfl) rfl rfl rfl (S.free 1 rfl) rfl rfl) ?_;replace S:=S.put 1 rfl (#[.slice B107 p106.1.length d109,.slice B110 p106.2.1.length d112,.slice B163 ((p106.2.2++([(x5,x4)]:List (Int×Int))).length) d164])
           generalize World.setRow _ _ _=u at S ⊢
           refine wn ?_
           obtain rfl:=Option.some.inj hM154
           exact ⟨p106.2.2++([(x5,x4)]:List (Int×Int)),B163,d164,rfl,f.keep _ ⟨rfl,rfl,rfl,trivial⟩,S.sel [1,5,2,3,4] rfl rfl⟩
          rintro a u ⟨p150,B152,d153,rfl,f,S⟩
          obtain rfl:=Option.some.inj hM148
          exact ⟨(p106.2.1,p150),B152,d153,rfl,rfl,f.keep _ ⟨rfl,rfl,rfl,trivial⟩,S.sel [0,1,2,3,4] rfl rfl⟩
         replace hM148:=bif_t hc149 hM148
         refine cond_t f rfl hc149 ?_
         revert a;refine rl (ov rfl (fun a f=>run_fieldAddr rfl fl41_1 (f.ev rfl) rfl) (ov rfl (fun a f=>run_load1 rfl one26 (f.ev rfl) (S.cell 0 rfl rfl)) (ov rfl (fun a f=>run_fieldAddr rfl fl56_1 (f.ev rfl) rfl) (ov rfl (fun a f=>run_load1 rfl one3 (f.ev rfl) (S.cell 5 rfl rfl)) fun a f=>?_))))
         obtain ⟨hk166,hM148⟩:=chk_ex hM148
         replace hk166:=ixB_t hk166
         revert a;refine ov rfl (fun a f=>run_ix rfl Tryz.underlying26 sz4 (f.ev rfl) (S.rc 2 rfl) (f.ev rfl) hk166) fun a f=>?_
         obtain ⟨w',hrun,S'⟩:=run_storeElN (P:=Tryz.prog) (ρ:=a.eval) (y0:=false) (off:=0) S 4 (.tmp 77) (.const (.bool false)) (i:=2) sz4 (f.ev rfl) rfl rfl rfl rfl rfl rfl eB_len false (ix_ltn hk166 rfl) rfl rfl
         refine op_do rfl rfl (hrun _ rfl) ?_;clear hrun S;have S:=S';clear S';generalize w'=u at S ⊢
         refine wn ?_
         obtain rfl:=Option.some.inj hM148
         exact ⟨(p106.2.1.set x4.toNat false,p106.2.2),B113,d115,rfl,(len_set rfl),f.keep _ ⟨rfl,rfl,rfl,trivial⟩,S.sel [0,4,1,2,3] rfl rfl⟩
        rintro a u ⟨p143,B146,d147,rfl,hn145,f,S⟩
        obtain rfl:=Option.some.inj hM141
        exact ⟨(p143.1,p143.2),B146,d147,rfl,hn145,f.keep _ ⟨rfl,rfl,rfl,trivial⟩,S.sel [0,1,2,3,4] rfl rfl⟩
       replace hM141:=bif_t hc142 hM141
       refine cond_t f rfl hc142 ?_
       revert a;refine rl (ov rfl (fun a f=>run_fieldAddr rfl fl41_1 (f.ev rfl) rfl) (ov rfl (fun a f=>run_load1 rfl one26 (f.ev rfl) (S.cell 0 rfl rfl)) (ov rfl (fun a f=>run_fieldAddr rfl fl56_1 (f.ev rfl) rfl) (ov rfl (fun a f=>run_load1 rfl one3 (f.ev rfl) (S.cell 5 rfl rfl)) fun a f=>?_))))
       obtain ⟨hk167,hM141⟩:=chk_ex hM141
       replace hk167:=ixB_t hk167
       revert a;refine ov rfl (fun a f=>run_ix rfl Tryz.underlying26 sz4 (f.ev rfl) (S.rc 2 rfl) (f.ev rfl) hk167) fun a f=>?_
       obtain ⟨w',hrun,S'⟩:=run_storeElN (P:=Tryz.prog) (ρ:=a.eval) (y0:=true) (off:=0) S 4 (.tmp 70) (.const (.bool true)) (i:=2) sz4 (f.ev rfl) rfl rfl rfl rfl rfl rfl eB_len false (ix_ltn hk167 rfl) rfl rfl
       refine op_do rfl rfl (hrun _ rfl) ?_;clear hrun S;have S:=S';clear S';generalize w'=u at S ⊢
       refine wn ?_
       obtain rfl:=Option.some.inj hM141
       exact ⟨(p106.2.1.set x4.toNat true,p106.2.2),B113,d115,rfl,(len_set rfl),f.keep _ ⟨rfl,rfl,rfl,trivial⟩,S.sel [0,4,1,2,3] rfl rfl⟩
      rintro a u ⟨p136,B139,d140,rfl,hn138,f,S⟩
      obtain rfl:=Option.some.inj hM134
      exact ⟨(p106.1,p136.1,p136.2),B139,d140,rfl,rfl,hn138,f.keep _ ⟨rfl,rfl,rfl,trivial⟩,S.sel [0,1,2,3,4] rfl rfl⟩
     replace hM134:=bif_t hc135 hM134
     refine cond_t f rfl hc135 ?_
     revert a;refine rl (ov rfl (fun a f=>run_fieldAddr rfl fl41_0 (f.ev rfl) rfl) (ov rfl (fun a f=>run_load1 rfl one26 (f.ev rfl) (S.cell 0 rfl rfl)) (ov rfl (fun a f=>run_fieldAddr rfl fl56_1 (f.ev rfl) rfl) (ov rfl (fun a f=>run_load1 rfl one3 (f.ev rfl) (S.cell 5 rfl rfl)) fun a f=>?_))))
     obtain ⟨hk168,hM134⟩:=chk_ex hM134
     replace hk168:=ixB_t hk168
     revert a;refine ov rfl (fun a f=>run_ix rfl Tryz.underlying26 sz4 (f.ev rfl) (S.rc 1 rfl) (f.ev rfl) hk168) fun a f=>?_
     obtain ⟨w',hrun,S'⟩:=run_storeElN (P:=Tryz.prog) (ρ:=a.eval) (y0:=false) (off:=0) S 4 (.tmp 63) (.const (.bool false)) (i:=1) sz4 (f.ev rfl) rfl rfl rfl rfl rfl rfl eB_len false (ix_ltn hk168 rfl) rfl rfl
     refine op_do rfl rfl (hrun _ rfl) ?_;clear hrun S;have S:=S';clear S';generalize w'=u at S ⊢
     refine wn ?_
     obtain rfl:=Option.some.inj hM134
     exact ⟨(p106.1.set x4.toNat false,p106.2.1,p106.2.2),B113,d115,rfl,(len_set rfl),rfl,f.keep _ ⟨rfl,rfl,rfl,trivial⟩,S.sel [0,4,1,2,3] rfl rfl⟩
    rintro a u ⟨p128,B132,d133,rfl,hn130,hn131,f,S⟩
    obtain rfl:=Option.some.inj hM126
    exact ⟨(p128.1,p128.2.1,p128.2.2),B132,d133,rfl,hn130,hn131,f.keep _ ⟨rfl,rfl,rfl,trivial⟩,S.sel [0,1,2,3,4] rfl rfl⟩
   replace hM126:=bif_t hc127 hM126
   refine cond_t f rfl hc127 ?_
   revert a;refine rl (ov rfl (fun a f=>run_fieldAddr rfl fl41_0 (f.ev rfl) rfl) (ov rfl (fun a f=>run_load1 rfl one26 (f.ev rfl) (S.cell 0 rfl rfl)) (ov rfl (fun a f=>run_fieldAddr rfl fl56_1 (f.ev rfl) rfl) (ov rfl (fun a f=>run_load1 rfl one3 (f.ev rfl) (S.cell 5 rfl rfl)) fun a f=>?_))))
   obtain ⟨hk169,hM126⟩:=chk_ex hM126
   replace hk169:=ixB_t hk169
   revert a;refine ov rfl (fun a f=>run_ix rfl Tryz.underlying26 sz4 (f.ev rfl) (S.rc 1 rfl) (f.ev rfl) hk169) fun a f=>?_
   obtain ⟨w',hrun,S'⟩:=run_storeElN (P:=Tryz.prog) (ρ:=a.eval) (y0:=true) (off:=0) S 4 (.tmp 56) (.const (.bool true)) (i:=1) sz4 (f.ev rfl) rfl rfl rfl rfl rfl rfl eB_len false (ix_ltn hk169 rfl) rfl rfl
   refine op_do rfl rfl (hrun _ rfl) ?_;clear hrun S;have S:=S';clear S';generalize w'=u at S ⊢
   refine wn ?_
   obtain rfl:=Option.some.inj hM126
   exact ⟨(p106.1.set x4.toNat true,p106.2.1,p106.2.2),B113,d115,rfl,(len_set rfl),rfl,f.keep _ ⟨rfl,rfl,rfl,trivial⟩,S.sel [0,4,1,2,3] rfl rfl⟩
  rintro a u ⟨p120,B124,d125,rfl,hn122,hn123,f,S⟩
  revert a;refine sr (ov rfl (fun a f=>run_loadN rfl ag41 (f.ev rfl) rfl ((S.free 0 rfl).cells 0 #[.slice B107 p106.1.length d109,.slice B110 p106.2.1.length d112,.slice B124 p120.2.2.length d125] rfl)) fun a f=>?_)
  refine op_do rfl rfl (run_store (cs':=#[.slice B107 p106.1.length d109,.slice B110 p106.2.1.length d112,.slice B124 p120.2.2.length d125]) rfl sz41 (f.ev rfl) (f.ev rfl) rfl rfl rfl (S.free 1 rfl) rfl rfl) ?_;replace S:=S.put 1 rfl (#[.slice B107 p106.1.length d109,.slice B110 p106.2.1.length d112,.slice B124 p120.2.2.length d125])
  generalize World.setRow _ _ _=u at S ⊢
  revert a;refine ov rfl (fun a f=>run_assign rfl rfl) fun a f=>wn ?_
  refine wp_ret ?_
  refine ret2_gw (.inl rfl) f rfl (res_cell (f.ev rfl) (res_loadN ag41 rfl (S.cells 1 rfl 0 #[.slice B107 p106.1.length d109,.slice B110 p106.2.1.length d112,.slice B124 p120.2.2.length d125] rfl))) (res_tmp (f.ev rfl)) ?_
  obtain rfl:=Option.some.inj hM
  exact ⟨B107,p106.1.length,d109,B110,p106.2.1.length,d112,B124,p120.2.2.length,d125,rfl,hn122,hn123,rfl,S.sel [2,3,4] rfl rfl⟩
 replace hM:=bif_t hc119 hM
 refine cond_t f rfl hc119 ?_
 revert a;refine sr (ov rfl (fun a f=>run_loadN rfl ag41 (f.ev rfl) rfl ((S.free 0 rfl).cells 0 #[.slice B107 p106.1.length d109,.slice B110 p106.2.1.length d112,.slice B113 p106.2.2.length d115] rfl)) fun a f=>?_)
 refine op_do rfl rfl (run_store (cs':=#[.slice B107 p106.1.length d109,.slice B110 p106.2.1.length d112,.slice B113 p106.2.2.length d115]) rfl sz41 (f.ev rfl) (f.ev rfl) rfl rfl rfl (S.free 4 rfl) rfl rfl) ?_;replace S:=S.put 4 rfl (#[.slice B107 p106.1.length d109,.slice B110 p106.2.1.length d112,.slice B113 p106.2.2.length d115])
 generalize World.setRow _ _ _=u at S ⊢
 revert a;refine ov rfl (fun a f=>run_assign rfl rfl) fun a f=>wn ?_
 refine wp_ret ?_
 repeat with_reducible first|apply tr|apply ir|apply nr
 refine ret2_gw (.inl rfl) f rfl (res_cell (f.ev rfl) (res_loadN ag41 rfl (S.cells 4 rfl 0 #[.slice B107 p106.1.length d109,.slice B110 p106.2.1.length d112,.slice B113 p106.2.2.length d115] rfl))) (res_tmp (f.ev rfl)) ?_
 obtain rfl:=Option.some.inj hM
 exact ⟨B107,p106.1.length,d109,B110,p106.2.1.length,d112,B113,p106.2.2.length,d115,rfl,rfl,rfl,rfl,S.sel [1,2,3] rfl rfl⟩
theorem c_spec_WorldDo {x0:Int} {x1:List (Int×Int×Int)} {x2:List (Int×Int)} {x3:List Bool} {x4:List Bool} {x5:List (Int×Int)} {x6:List Int} {x7:Int} {x8:Int} {x9:Int} {A1:Option Addr} {n1 c1:Nat} {A2:Option Addr} {n2 c2:Nat} {A3:Option Addr} {n3 c3:Nat} {A4:Option Addr} {n4 c4:Nat} {A5:Option Addr} {n5 c5:Nat} {A6:Option Addr} {n6 c6:Nat} {w:World} {r:Int×List (Int×Int×Int)×List (Int×Int)×List Bool×List Bool×List (Int×Int)×List Int×Bool} (h1:Rt w 3 eLine A1 n1 c1 x1) (h2:Rt w 2 eBus A2 n2 c2 x2) (h3:Rt w 1 eB A3 n3 c3 x3) (h4:Rt w 1 eB A4 n4 c4 x4) (h5:Rt w 2 ePermit A5 n5 c5 x5) (h6:Rt w 1 eI A6 n6 c6 x6) (hM : m_spec_WorldDo x0 x1 x2 x3 x4 x5 x6 x7 x8 x9=some r) :
  Calls Tryz.prog 18 #[.agg #[iv x0,.slice A1 n1 c1,.slice A2 n2 c2,.slice A3 n3 c3,.slice A4 n4 c4,.slice A5 n5 c5,.slice A6 n6 c6],.agg #[iv x7,iv x8,iv x9]] w (fun e w'=>∃ (B0:Option Addr) (N0 D0:Nat) (B1:Option Addr) (N1 D1:Nat) (B2:Option Addr) (N2 D2:Nat) (B3:Option Addr) (N3 D3:Nat) (B4:Option Addr) (N4 D4:Nat) (B5:Option Addr) (N5 D5:Nat),e=.returned (.tuple #[.agg #[iv r.1,.slice B0 N0 D0,.slice B1 N1 D1,.slice B2 N2 D2,.slice B3 N3 D3,.slice B4 N4 D4,.slice B5 N5 D5],.bool r.2.2.2.2.2.2.2])∧N0=r.2.1.length∧N1=r.2.2.1.length∧N2=r.2.2.2.1.length∧N3=r.2.2.2.2.1.length∧N4=r.2.2.2.2.2.1.length∧N5=r.2.2.2.2.2.2.1.length∧St w w' [.row 130 3 (.slice B0 N0 D0) N0 (r.2.1.flatMap eLine),.row 110 2 (.slice B1 N1 D1) N1 (r.2.2.1.flatMap eBus),.row 4 1 (.slice B2 N2 D2) N2 (r.2.2.2.1.flatMap eB),.row 4 1 (.slice B3 N3 D3) N3 (r.2.2.2.2.1.flatMap eB),.row 78 2 (.slice B4 N4 D4) N4 (r.2.2.2.2.2.1.flatMap ePermit),.row 3 1 (.slice B5 N5 D5) N5 (r.2.2.2.2.2.2.1.flatMap eI)]):=by
 obtain rfl:=h1.len
 obtain rfl:=h2.len
 obtain rfl:=h3.len
 obtain rfl:=h4.len
 obtain rfl:=h5.len
 obtain rfl:=h6.len
 unfold m_spec_WorldDo at hM
 refine calls_gx Tryz.func18 Tryz.ntmps18 rfl rfl ?_
 intro a f
 have S:=St.nil w
 refine wsg ?_
 refine op_new (cs:=#[iv x0,.slice A1 x1.length c1,.slice A2 x2.length c2,.slice A3 x3.length c3,.slice A4 x4.length c4,.slice A5 x5.length c5,.slice A6 x6.length c6]) rfl rfl f rfl S (run_box rfl (f.ev rfl) rfl) ?_;clear f S;intro a g101 u f S
 refine op_new (cs:=#[iv x7,iv x8,iv x9]) rfl rfl f rfl S (run_box rfl (f.ev rfl) rfl) ?_;clear f S;intro a g102 u f S
 refine op_new (cs:=#[iv 0,.slice none 0 0,.slice none 0 0,.slice none 0 0,.slice none 0 0,.slice none 0 0,.slice none 0 0]) rfl rfl f rfl S (run_allocZ rfl zr43) ?_;clear f S;intro a g103 u f S
 revert a;refine ov rfl (fun a f=>run_assign rfl rfl) fun a f=>wn ?_
 refine ws ?_
 revert a;refine sr (ov rfl (fun a f=>run_loadN rfl ag43 (f.ev rfl) rfl ((S.free 2 rfl).cells 0 #[iv x0,.slice A1 x1.length c1,.slice A2 x2.length c2,.slice A3 x3.length c3,.slice A4 x4.length c4,.slice A5 x5.length c5,.slice A6 x6.length c6] rfl)) fun a f=>?_)
 obtain ⟨p104,h104,hM⟩:=bind_ex hM
 refine op_call rfl rfl f rfl (run_call (vs:=[_]) rfl rfl co30 ⟨(f.ev rfl),trivial⟩) (c_spec_WorldValid ⟨(S.rc0 h1.rc),rfl⟩ ⟨(S.rc0 h2.rc),rfl⟩ ⟨(S.rc0 h3.rc),rfl⟩ ⟨(S.rc0 h4.rc),rfl⟩ ⟨(S.rc0 h5.rc),rfl⟩ ⟨(S.rc0 h6.rc),rfl⟩ h104) ?_
 rintro e u ⟨rfl,T⟩
 refine ⟨_,rfl,?_⟩
 clear f;intro a f
 replace S:=S.call0 T;clear T
 revert a;refine ov rfl (fun a f=>run_not rfl (f.ev rfl)) fun a f=>wn ?_
 cases hc105:(p104)
 ·replace hM:=bif_f hc105 hM
  refine cond_t f rfl (not_t hc105) ?_
  revert a;refine sr (ov rfl (fun a f=>run_build (vs:=[]) rfl trivial (bd43 )) fun a f=>?_)
  refine op_do rfl rfl (run_store (cs':=#[iv 0,.slice none 0 0,.slice none 0 0,.slice none 0 0,.slice none 0 0,.slice none 0 0,.slice none 0 0]) rfl sz43 (f.ev rfl) (f.ev rfl) rfl rfl rfl (S.free 0 rfl) rfl rfl) ?_;replace S:=S.put 0 rfl (#[iv 0,.slice none 0 0,.slice none 0 0,.slice none 0 0,.slice none 0 0,.slice none 0 0,.slice none 0 0])
  generalize World.setRow _ _ _=u at S ⊢
  revert a;refine ov rfl (fun a f=>run_assign rfl rfl) fun a f=>wn ?_
  refine wp_ret ?_
  repeat with_reducible first|apply tr|apply ir|apply nr
  refine ret2_gw (.inl rfl) f rfl (res_cell (f.ev rfl) (res_loadN ag43 rfl (S.cells 0 rfl 0 #[iv 0,.slice none 0 0,.slice none 0 0,.slice none 0 0,.slice none 0 0,.slice none 0 0,.slice none 0 0] rfl))) (res_tmp (f.ev rfl)) ?_
  obtain rfl:=Option.some.inj hM
  replace S:=S.nilrow 130 3
  replace S:=S.nilrow 110 2
  replace S:=S.nilrow 4 1
  replace S:=S.nilrow 4 1
  replace S:=S.nilrow 78 2
  replace S:=S.nilrow 3 1
  exact ⟨none,0,0,none,0,0,none,0,0,none,0,0,none,0,0,none,0,0,rfl,rfl,rfl,rfl,rfl,rfl,rfl,S.sel [5,4,3,2,1,0] rfl rfl⟩
 replace hM:=bif_t hc105 hM
 refine cond_f f rfl (not_f hc105) ?_
 refine wp_skip ?_
 refine ws ?_
 revert a;refine sr (ov rfl (fun a f=>run_fieldAddr rfl fl56_1 (f.ev rfl) rfl) (ov rfl (fun a f=>run_load1 rfl one3 (f.ev rfl) (S.cell 1 rfl rfl)) (ov rfl (fun a f=>run_fieldAddr rfl fl43_2 (f.ev rfl) rfl) (ov rfl (fun a f=>run_fieldAddr rfl fl41_0 (f.ev rfl) rfl) (ov rfl (fun a f=>run_load1 rfl one26 (f.ev rfl) (S.cell 2 rfl rfl)) (ov rfl (fun a f=>run_lenL rfl rfl Tryz.underlying26 (f.ev rfl)) (ov rfl (fun a f=>run_sub (z:=w64 ((x3.length:Int)-1)) (f.ev rfl) rfl rfl rfl) fun a f=>?_)))))))
 obtain ⟨p106,h106,hM⟩:=bind_ex hM
 refine op_call rfl rfl f rfl (run_call (vs:=[_,_,_]) rfl rfl co51 ⟨(f.ev rfl),rfl,(f.ev rfl),trivial⟩) (c_spec_l1In  h106) ?_
 rintro e u ⟨rfl,T⟩
 refine ⟨_,rfl,?_⟩
 clear f;intro a f
 replace S:=S.call0 T;clear T
 revert a;refine ov rfl (fun a f=>run_not rfl (f.ev rfl)) fun a f=>wn ?_
 cases hc107:(p106)
 ·replace hM:=bif_f hc107 hM
  refine cond_t f rfl (not_t hc107) ?_
  revert a;refine sr (ov rfl (fun a f=>run_loadN rfl ag43 (f.ev rfl) rfl ((S.free 2 rfl).cells 0 #[iv x0,.slice A1 x1.length c1,.slice A2 x2.length c2,.slice A3 x3.length c3,.slice A4 x4.length c4,.slice A5 x5.length c5,.slice A6 x6.length c6] rfl)) fun a f=>?_)
  obtain ⟨p108,h108,hM⟩:=bind_ex hM
  refine op_call rfl rfl f rfl (run_call (vs:=[_]) rfl rfl co52 ⟨(f.ev rfl),trivial⟩) (c_spec_l39Copy ⟨(S.rc0 h1.rc),rfl⟩ ⟨(S.rc0 h2.rc),rfl⟩ ⟨(S.rc0 h3.rc),rfl⟩ ⟨(S.rc0 h4.rc),rfl⟩ ⟨(S.rc0 h5.rc),rfl⟩ ⟨(S.rc0 h6.rc),rfl⟩ h108) ?_
  rintro e u ⟨B109,n110,d111,B112,n113,d114,B115,n116,d117,B118,n119,d120,B121,n122,d123,B124,n125,d126,rfl,rfl,rfl,rfl,rfl,rfl,rfl,T⟩
  refine ⟨_,rfl,?_⟩
  clear f;intro a f
  replace S:=S.call6 T;clear T
  refine op_do rfl rfl (run_store (cs':=#[iv p108.1,.slice B109 p108.2.1.length d111,.slice B112 p108.2.2.1.length d114,.slice B115 p108.2.2.2.1.length d117,.slice B118 p108.2.2.2.2.1.length d120,.slice B121 p108.2.2.2.2.2.1.length d123,.slice B124 p108.2.2.2.2.2.2.length d126]) rfl sz43 (f.ev rfl) (f.ev rfl) rfl rfl rfl (S.free 6 rfl) rfl rfl) ?_;replace S:=S.put 6 rfl (#[iv p108.1,.slice B109 p108.2.1.length d111,.slice B112 p108.2.2.1.length d114,.slice B115 p108.2.2.2.1.length d117,.slice B118 p108.2.2.2.2.1.length d120,.slice B121 p108.2.2.2.2.2.1.length d123,.slice B124 p108.2.2.2.2.2.2.length d126])
  generalize World.setRow _ _ _=u at S ⊢
  revert a;refine ov rfl (fun a f=>run_assign rfl rfl) fun a f=>wn ?_
  refine wp_ret ?_
  repeat with_reducible first|apply tr|apply ir|apply nr
  refine ret2_gw (.inl rfl) f rfl (res_cell (f.ev rfl) (res_loadN ag43 rfl (S.cells 6 rfl 0 #[iv p108.1,.slice B109 p108.2.1.length d111,.slice B112 p108.2.2.1.length d114,.slice B115 p108.2.2.2.1.length d117,.slice B118 p108.2.2.2.2.1.length d120,.slice B121 p108.2.2.2.2.2.1.length d123,.slice B124 p108.2.2.2.2.2.2.length d126] rfl))) (res_tmp (f.ev rfl)) ?_
  obtain rfl:=Option.some.inj hM
  exact ⟨B109,p108.2.1.length,d111,B112,p108.2.2.1.length,d114,B115,p108.2.2.2.1.length,d117,B118,p108.2.2.2.2.1.length,d120,B121,p108.2.2.2.2.2.1.length,d123,B124,p108.2.2.2.2.2.2.length,d126,rfl,rfl,rfl,rfl,rfl,rfl,rfl,S.sel [0,1,2,3,4,5] rfl rfl⟩
 replace hM:=bif_t hc107 hM
 refine cond_f f rfl (not_f hc107) ?_
 refine wp_skip ?_
 revert a;refine sr (ov rfl (fun a f=>run_fieldAddr rfl fl43_3 (f.ev rfl) rfl) (ov rfl (fun a f=>run_load1 rfl one30 (f.ev rfl) (S.cell 2 rfl rfl)) (ov rfl (fun a f=>run_fieldAddr rfl fl56_1 (f.ev rfl) rfl) (ov rfl (fun a f=>run_load1 rfl one3 (f.ev rfl) (S.cell 1 rfl rfl)) fun a f=>?_))))
 obtain ⟨p127,h127,hM⟩:=bind_ex hM
 refine op_call rfl rfl f rfl (run_call (vs:=[_,_]) rfl rfl co40 ⟨(f.ev rfl),(f.ev rfl),trivial⟩) (c_spec_l1Has ⟨(S.rc0 h6.rc),rfl⟩ h127) ?_
 rintro e u ⟨rfl,T⟩
 refine ⟨_,rfl,?_⟩
 clear f;intro a f
 replace S:=S.call0 T;clear T
 revert a;refine ag rfl rfl fun a f=>wn ?_
 refine ws ?_
 refine wp_block ?_
 revert a;refine sr (ov rfl (fun a f=>run_fieldAddr rfl fl56_0 (f.ev rfl) rfl) (ov rfl (fun a f=>run_load1 rfl one3 (f.ev rfl) (S.cell 1 rfl rfl)) (ov rfl (fun a f=>run_eql (f.ev rfl) rfl rfl) (mv rfl rfl fun a f=>?_))))
 revert a;refine gt rfl rfl rfl rfl (fun a f hg=>run_move rfl (f.ev rfl)) (gt rfl rfl rfl rfl (fun a f hg=>run_not rfl ((f.ev rfl).trans (gv_t hg))) fun a f=>?_)
 revert a;refine ov rfl (fun a f=>run_pick_and rfl (f.ev rfl) (fun hp=>((f.ev rfl).trans (gv_t hp))) rfl) (ag rfl rfl fun a f=>wn ?_)
 cases hc128:((x7==6)&&(!p127))
 ·replace hM:=bif_f hc128 hM
  refine cond_f f rfl hc128 ?_
  refine ws ?_
  obtain ⟨o130,hM131,hM⟩:=bind_ex hM
  refine wp_cut (fun a u=>∃ (p129:Bool),p129=o130∧Fr a 97 [(2,.pointer (some ⟨g101,0,none⟩)),(3,.pointer (some ⟨g102,0,none⟩)),(4,.pointer (some ⟨g103,0,none⟩)),(5,.bool false),(6,.bool p127),(42,.bool p129)]∧St w u [.box g103 43 #[iv 0,.slice none 0 0,.slice none 0 0,.slice none 0 0,.slice none 0 0,.slice none 0 0,.slice none 0 0],.box g102 56 #[iv x7,iv x8,iv x9],.box g101 43 #[iv x0,.slice A1 x1.length c1,.slice A2 x2.length c2,.slice A3 x3.length c3,.slice A4 x4.length c4,.slice A5 x5.length c5,.slice A6 x6.length c6]]) ?_ ?_
  ·have _:=trivial
   cases hc132:((x7==7)&&p127)
   ·replace hM131:=bif_f hc132 hM131
    refine region_gw (D:=[43,44,45,46,47,48,49,50,51,52,53,54,55,56,57,58,42]) (Lr:=[.box g103 43 #[iv 0,.slice none 0 0,.slice none 0 0,.slice none 0 0,.slice none 0 0,.slice none 0 0,.slice none 0 0],.box g102 56 #[iv x7,iv x8,iv x9],.box g101 43 #[iv x0,.slice A1 x1.length c1,.slice A2 x2.length c2,.slice A3 x3.length c3,.slice A4 x4.length c4,.slice A5 x5.length c5,.slice A6 x6.length c6]]) (deps:=(fun | 0=>[43] | 1=>[44] | 2=>[45] | 3=>[46] | 4=>[47] | 5=>[48] | 6=>[49] | 7=>[50] | 8=>[51] | 9=>[52] | 10=>[53] | 11=>[54] | 12=>[55] | 13=>[56] | 14=>[57] | 15=>[58] | 16=>[42] | _=>[])) (rd:=(fun _=>[])) (zr:=(fun _=>[]))
     (φ:=fun i vs=>match i,vs with | 0,[v43]=>v43=.pointer (some ⟨g102,0,none⟩) | 1,[v44]=>v44=iv x7 | 2,[v45]=>v45=.bool (x7==7) | 3,[v46]=>v46=.bool (x7==7) | 4,[v47]=>v47=gv (x7==7) (.bool p127) | 5,[v48]=>v48=.bool ((x7==7)&&p127) | 6,[v49]=>v49=.bool ((x7==7)&&p127) | 7,[v50]=>v50=undef | 8,[v51]=>v51=undef | 9,[v52]=>v52=undef | 10,[v53]=>v53=undef | 11,[v54]=>v54=undef | 12,[v55]=>v55=undef | 13,[v56]=>v56=undef | 14,[v57]=>v57=undef | 15,[v58]=>v58=.bool false | 16,[v42]=>v42=.bool false | _,_=>True)
     (C:=fun _ _=>[])
     (κ:=(fun _=>none)) (Z:=(fun _=>[])) mixed f (by kernel_rfl) S ?_ ?_
    ·refine ⟨?_,?_,?_,?_,?_,?_,?_,?_,?_,?_,?_,?_,?_,?_,?_,?_,?_,trivial⟩
     ·intro a u X hB hu p hr hz hl S
      exact .inl ⟨rfl,_,u,(run_fieldAddr rfl fl56_0 (f.evB hB rfl rfl) rfl),rfl,S⟩
     ·intro a u X hB hu p hr hz hl S
      exact .inl ⟨rfl,_,u,(run_load1 rfl one3 (ev_sl (p 0 rfl)) ((gr_box S hl 1 rfl).cell rfl)),rfl,S⟩
     ·intro a u X hB hu p hr hz hl S
      exact .inl ⟨rfl,_,u,(run_eql (ev_sl (p 1 rfl)) (ev_const _ _) rfl),rfl,S⟩
     ·intro a u X hB hu p hr hz hl S
      exact .inl ⟨rfl,_,u,(run_move rfl (ev_sl (p 2 rfl))),rfl,S⟩
     ·intro a u X hB hu p hr hz hl S
      exact gyt rfl rfl rfl (p 3 rfl) (fun hg=>⟨(gv_f hg).symm,S⟩) fun hg=>⟨_,u,(run_move rfl (f.evB hB rfl rfl)),(gv_t hg).symm,S⟩
     ·intro a u X hB hu p hr hz hl S
      exact .inl ⟨rfl,_,u,(run_pick_and rfl (ev_sl (p 3 rfl)) (fun hp=>((ev_sl (p 4 rfl)).trans (gv_t hp))) (ev_const _ _)),rfl,S⟩
     ·intro a u X hB hu p hr hz hl S
      exact .inl ⟨rfl,_,u,(run_move rfl (ev_sl (p 5 rfl))),rfl,S⟩
     ·intro a u X hB hu p hr hz hl S
      exact .inr (.inr (.inr ⟨(gr_unwanted rfl ((gr_yield rfl rfl (p 6 rfl)).trans (congrArg some hc132)) rfl),rfl,S⟩))
     ·intro a u X hB hu p hr hz hl S
      exact .inr (.inr (.inr ⟨(gr_unwanted rfl ((gr_yield rfl rfl (p 6 rfl)).trans (congrArg some hc132)) rfl),rfl,S⟩))
     ·intro a u X hB hu p hr hz hl S
      exact .inr (.inr (.inr ⟨(gr_unwanted rfl ((gr_yield rfl rfl (p 6 rfl)).trans (congrArg some hc132)) rfl),rfl,S⟩))
     ·intro a u X hB hu p hr hz hl S
      exact .inr (.inr (.inr ⟨(gr_unwanted rfl ((gr_yield rfl rfl (p 6 rfl)).trans (congrArg some hc132)) rfl),rfl,S⟩))
     ·intro a u X hB hu p hr hz hl S
      exact .inr (.inr (.inr ⟨(gr_unwanted rfl ((gr_yield rfl rfl (p 6 rfl)).trans (congrArg some hc132)) rfl),rfl,S⟩))
     ·intro a u X hB hu p hr hz hl S
      exact .inr (.inr (.inr ⟨(gr_unwanted rfl ((gr_yield rfl rfl (p 6 rfl)).trans (congrArg some hc132)) rfl),rfl,S⟩))
     ·intro a u X hB hu p hr hz hl S
      exact .inr (.inr (.inr ⟨(gr_unwanted rfl ((gr_yield rfl rfl (p 6 rfl)).trans (congrArg some hc132)) rfl),rfl,S⟩))
     ·intro a u X hB hu p hr hz hl S
      exact .inr (.inr (.inr ⟨(gr_unwanted rfl ((gr_yield rfl rfl (p 6 rfl)).trans (congrArg some hc132)) rfl),rfl,S⟩))
     ·intro a u X hB hu p hr hz hl S
      exact .inl ⟨rfl,_,u,(run_pick_f rfl (ev_sl (p 6 rfl)) hc132 (ev_const _ _)),rfl,S⟩
     intro a u X hB hu p hr hz hl S
     exact .inl ⟨rfl,_,u,(run_assign rfl (ev_sl (p 15 rfl))),rfl,S⟩
    intro a u hB hp S
    obtain ⟨q0,q1,q2,q3,q4,q5,q6,q7,q8,q9,q10,q11,q12,q13,q14,q15,q16,-⟩:=hp
    replace S:St w u [.box g103 43 #[iv 0,.slice none 0 0,.slice none 0 0,.slice none 0 0,.slice none 0 0,.slice none 0 0,.slice none 0 0],.box g102 56 #[iv x7,iv x8,iv x9],.box g101 43 #[iv x0,.slice A1 x1.length c1,.slice A2 x2.length c2,.slice A3 x3.length c3,.slice A4 x4.length c4,.slice A5 x5.length c5,.slice A6 x6.length c6]]:=S
    have f:=f.region hB [(43,_),(44,_),(45,_),(46,_),(47,_),(48,_),(49,_),(50,_),(51,_),(52,_),(53,_),(54,_),(55,_),(56,_),(57,_),(58,_),(42,_)] (allSl_mem ⟨q0,q1,q2,q3,q4,q5,q6,q7,q8,q9,q10,q11,q12,q13,q14,q15,q16,trivial⟩) rfl
    clear hB q0 q1 q2 q3 q4 q5 q6 q7 q8 q9 q10 q11 q12 q13 q14 q15 q16
    obtain rfl:=Option.some.inj hM131
    exact ⟨false,rfl,f.keep _ ⟨rfl,rfl,rfl,rfl,rfl,rfl,trivial⟩,S.sel [0,1,2] rfl rfl⟩
   replace hM131:=bif_t hc132 hM131
   obtain ⟨p133,h133,hM131⟩:=bind_ex hM131
   obtain ⟨p137,h137,hM131⟩:=bind_ex hM131
   refine region_gw (D:=[43,44,45,46,47,48,49,50,51,52,53,54,55,56,57,58,42]) (Lr:=[.box g103 43 #[iv 0,.slice none 0 0,.slice none 0 0,.slice none 0 0,.slice none 0 0,.slice none 0 0,.slice none 0 0],.box g102 56 #[iv x7,iv x8,iv x9],.box g101 43 #[iv x0,.slice A1 x1.length c1,.slice A2 x2.length c2,.slice A3 x3.length c3,.slice A4 x4.length c4,.slice A5 x5.length c5,.slice A6 x6.length c6]]) (deps:=(fun | 0=>[43] | 1=>[44] | 2=>[45] | 3=>[46] | 4=>[47] | 5=>[48] | 6=>[49] | 7=>[50] | 8=>[51] | 9=>[52] | 10=>[53] | 11=>[54] | 12=>[55] | 13=>[56] | 14=>[57] | 15=>[58] | 16=>[42] | _=>[])) (rd:=(fun | 14=>[11] | _=>[])) (zr:=(fun _=>[]))
    (φ:=fun i vs=>match i,vs with | 0,[v43]=>v43=.pointer (some ⟨g102,0,none⟩) | 1,[v44]=>v44=iv x7 | 2,[v45]=>v45=.bool (x7==7) | 3,[v46]=>v46=.bool (x7==7) | 4,[v47]=>v47=gv (x7==7) (.bool p127) | 5,[v48]=>v48=.bool ((x7==7)&&p127) | 6,[v49]=>v49=.bool ((x7==7)&&p127) | 7,[v50]=>v50=.pointer (some ⟨g101,3,none⟩) | 8,[v51]=>v51=.agg #[.slice A3 x3.length c3,.slice A4 x4.length c4,.slice A5 x5.length c5] | 9,[v52]=>v52=.pointer (some ⟨g102,1,none⟩) | 10,[v53]=>v53=iv x8 | 11,[v54]=>v54=.slice (slA v54) p133.length (slC v54) | 12,[v55]=>v55=.pointer (some ⟨g102,2,none⟩) | 13,[v56]=>v56=iv x9 | 14,[v57]=>v57=.bool p137 | 15,[v58]=>v58=.bool p137 | 16,[v42]=>v42=.bool p137 | _,_=>True)
    (C:=fun i vs=>match i,vs with | 11,[v54]=>[.row 3 1 (.slice (slA v54) p133.length (slC v54)) p133.length (p133.flatMap eI)] | _,_=>[])
    (κ:=(fun _=>none)) (Z:=(fun _=>[])) mixed f (by kernel_rfl) S ?_ ?_
   ·refine ⟨?_,?_,?_,?_,?_,?_,?_,?_,?_,?_,?_,?_,?_,?_,?_,?_,?_,trivial⟩
    ·intro a u X hB hu p hr hz hl S
     exact .inl ⟨rfl,_,u,(run_fieldAddr rfl fl56_0 (f.evB hB rfl rfl) rfl),rfl,S⟩
    ·intro a u X hB hu p hr hz hl S
     exact .inl ⟨rfl,_,u,(run_load1 rfl one3 (ev_sl (p 0 rfl)) ((gr_box S hl 1 rfl).cell rfl)),rfl,S⟩
    ·intro a u X hB hu p hr hz hl S
     exact .inl ⟨rfl,_,u,(run_eql (ev_sl (p 1 rfl)) (ev_const _ _) rfl),rfl,S⟩
    ·intro a u X hB hu p hr hz hl S
     exact .inl ⟨rfl,_,u,(run_move rfl (ev_sl (p 2 rfl))),rfl,S⟩
    ·intro a u X hB hu p hr hz hl S
     exact gyt rfl rfl rfl (p 3 rfl) (fun hg=>⟨(gv_f hg).symm,S⟩) fun hg=>⟨_,u,(run_move rfl (f.evB hB rfl rfl)),(gv_t hg).symm,S⟩
    ·intro a u X hB hu p hr hz hl S
     exact .inl ⟨rfl,_,u,(run_pick_and rfl (ev_sl (p 3 rfl)) (fun hp=>((ev_sl (p 4 rfl)).trans (gv_t hp))) (ev_const _ _)),rfl,S⟩
    ·intro a u X hB hu p hr hz hl S
     exact .inl ⟨rfl,_,u,(run_move rfl (ev_sl (p 5 rfl))),rfl,S⟩
    ·intro a u X hB hu p hr hz hl S
     exact .inl ⟨(gr_wanted rfl ((gr_yield rfl rfl (p 6 rfl)).trans (congrArg some hc132))),_,u,(run_fieldAddr rfl fl43_2 (f.evB hB rfl rfl) rfl),rfl,S⟩
    ·intro a u X hB hu p hr hz hl S
     exact .inl ⟨(gr_wanted rfl ((gr_yield rfl rfl (p 6 rfl)).trans (congrArg some hc132))),_,u,(run_loadN rfl ag41 (ev_sl (p 7 rfl)) rfl ((gr_box S hl 2 rfl).cells 3 #[.slice A3 x3.length c3,.slice A4 x4.length c4,.slice A5 x5.length c5] rfl)),rfl,S⟩
    ·intro a u X hB hu p hr hz hl S
     exact .inl ⟨(gr_wanted rfl ((gr_yield rfl rfl (p 6 rfl)).trans (congrArg some hc132))),_,u,(run_fieldAddr rfl fl56_1 (f.evB hB rfl rfl) rfl),rfl,S⟩
    ·intro a u X hB hu p hr hz hl S
     exact .inl ⟨(gr_wanted rfl ((gr_yield rfl rfl (p 6 rfl)).trans (congrArg some hc132))),_,u,(run_load1 rfl one3 (ev_sl (p 9 rfl)) ((gr_box S hl 1 rfl).cell rfl)),rfl,S⟩
    ·intro a u X hB hu p hr hz hl S
     refine .inr (.inr (.inl ⟨(gr_wanted rfl ((gr_yield rfl rfl (p 6 rfl)).trans (congrArg some hc132))),_,_,(run_call (vs:=[.agg #[.slice A3 x3.length c3,.slice A4 x4.length c4,.slice A5 x5.length c5],iv x8]) rfl rfl co54 ⟨(ev_sl (p 8 rfl)),(ev_sl (p 10 rfl)),trivial⟩),?_⟩))
     refine Calls.mono (c_spec_WorkHeld (x0:=x3) (x1:=x4) (x2:=x5) (x3:=x8) ⟨(S.rc0 h3.rc),rfl⟩ ⟨(S.rc0 h4.rc),rfl⟩ ⟨(S.rc0 h5.rc),rfl⟩ h133) ?_
     rintro e w1 ⟨B134,n135,d136,rfl,rfl,T⟩
     exact ⟨_,rfl,rfl,S.call1 T⟩
    ·intro a u X hB hu p hr hz hl S
     exact .inl ⟨(gr_wanted rfl ((gr_yield rfl rfl (p 6 rfl)).trans (congrArg some hc132))),_,u,(run_fieldAddr rfl fl56_2 (f.evB hB rfl rfl) rfl),rfl,S⟩
    ·intro a u X hB hu p hr hz hl S
     exact .inl ⟨(gr_wanted rfl ((gr_yield rfl rfl (p 6 rfl)).trans (congrArg some hc132))),_,u,(run_load1 rfl one3 (ev_sl (p 12 rfl)) ((gr_box S hl 1 rfl).cell rfl)),rfl,S⟩
    ·intro a u X hB hu p hr hz hl S
     refine .inr (.inr (.inl ⟨(gr_wanted rfl ((gr_yield rfl rfl (p 6 rfl)).trans (congrArg some hc132))),_,_,(run_call (vs:=[.slice (slA (sl a 54)) p133.length (slC (sl a 54)),iv x9]) rfl rfl co40 ⟨(ev_sl (p 11 rfl)),(ev_sl (p 13 rfl)),trivial⟩),?_⟩))
     refine Calls.mono (c_spec_l1Has (x0:=p133) (x1:=x9) ⟨(own_rc (show Ow _ _ _ _ _ _ from S.mem (List.mem_append_right _ (hr 11 (List.mem_of_getElem? (i:=0) rfl) _ (List.mem_of_getElem? (i:=0) rfl))))),rfl⟩ h137) ?_
     rintro e w1 ⟨rfl,T⟩
     exact ⟨_,rfl,rfl,S.call0 T⟩
    ·intro a u X hB hu p hr hz hl S
     exact .inl ⟨rfl,_,u,(run_pick_t rfl (ev_sl (p 6 rfl)) hc132 (ev_sl (p 14 rfl))),rfl,S⟩
    intro a u X hB hu p hr hz hl S
    exact .inl ⟨rfl,_,u,(run_assign rfl (ev_sl (p 15 rfl))),rfl,S⟩
   intro a u hB hp S
   obtain ⟨q0,q1,q2,q3,q4,q5,q6,q7,q8,q9,q10,q11,q12,q13,q14,q15,q16,-⟩:=hp
   replace S:St w u [.row 3 1 (.slice (slA (sl a 54)) p133.length (slC (sl a 54))) p133.length (p133.flatMap eI),.box g103 43 #[iv 0,.slice none 0 0,.slice none 0 0,.slice none 0 0,.slice none 0 0,.slice none 0 0,.slice none 0 0],.box g102 56 #[iv x7,iv x8,iv x9],.box g101 43 #[iv x0,.slice A1 x1.length c1,.slice A2 x2.length c2,.slice A3 x3.length c3,.slice A4 x4.length c4,.slice A5 x5.length c5,.slice A6 x6.length c6]]:=S
   have f:=f.region hB [(43,.pointer (some ⟨g102,0,none⟩)),(44,iv x7),(45,.bool (x7==7)),(46,.bool (x7==7)),(47,gv (x7==7) (.bool p127)),(48,.bool ((x7==7)&&p127)),(49,.bool ((x7==7)&&p127)),(50,.pointer (some ⟨g101,3,none⟩)),(51,.agg #[.slice A3 x3.length c3,.slice A4 x4.length c4,.slice A5 x5.length c5]),(52,.pointer (some ⟨g102,1,none⟩)),(53,iv x8),(54,.slice (slA (sl a 54)) p133.length (slC (sl a 54))),(55,.pointer (some ⟨g102,2,none⟩)),(56,iv x9),(57,.bool p137),(58,.bool p137),(42,.bool p137)] (allSl_mem ⟨q0,q1,q2,q3,q4,q5,q6,q7,q8,q9,q10,q11,q12,q13,q14,q15,q16,trivial⟩) rfl
   clear hB q0 q1 q2 q3 q4 q5 q6 q7 q8 q9 q10 q11 q12 q13 q14 q15 q16
   generalize slA (sl a 54)=B138 at *
   generalize slC (sl a 54)=d139 at *
   obtain rfl:=Option.some.inj hM131
   exact ⟨p137,rfl,f.keep _ ⟨rfl,rfl,rfl,rfl,rfl,rfl,trivial⟩,S.sel [1,2,3] rfl rfl⟩
  rintro a u ⟨p129,rfl,f,S⟩
  cases hc140:(p129)
  ·replace hM:=bif_f hc140 hM
   refine cond_f f rfl hc140 ?_
   revert a;refine sr (ov rfl (fun a f=>run_fieldAddr rfl fl56_0 (f.ev rfl) rfl) (ov rfl (fun a f=>run_load1 rfl one3 (f.ev rfl) (S.cell 1 rfl rfl)) (ov rfl (fun a f=>run_eql (f.ev rfl) rfl rfl) (mv rfl rfl fun a f=>?_))))
   revert a;refine gt rfl rfl rfl rfl (fun a f hg=>run_move rfl (f.ev rfl)) fun a f=>?_
   revert a;refine ov rfl (fun a f=>run_pick_and rfl (f.ev rfl) (fun hp=>((f.ev rfl).trans (gv_t hp))) rfl) (ag rfl rfl fun a f=>wn ?_)
   cases hc141:((x7==0)&&p127)
   ·replace hM:=bif_f hc141 hM
    refine cond_f f rfl hc141 ?_
    refine wp_skip ?_
    revert a;refine sr (ov rfl (fun a f=>run_loadN rfl ag43 (f.ev rfl) rfl ((S.free 2 rfl).cells 0 #[iv x0,.slice A1 x1.length c1,.slice A2 x2.length c2,.slice A3 x3.length c3,.slice A4 x4.length c4,.slice A5 x5.length c5,.slice A6 x6.length c6] rfl)) fun a f=>?_)
    obtain ⟨p142,h142,hM⟩:=bind_ex hM
    refine op_call rfl rfl f rfl (run_call (vs:=[_]) rfl rfl co52 ⟨(f.ev rfl),trivial⟩) (c_spec_l39Copy ⟨(S.rc0 h1.rc),rfl⟩ ⟨(S.rc0 h2.rc),rfl⟩ ⟨(S.rc0 h3.rc),rfl⟩ ⟨(S.rc0 h4.rc),rfl⟩ ⟨(S.rc0 h5.rc),rfl⟩ ⟨(S.rc0 h6.rc),rfl⟩ h142) ?_
    rintro e u ⟨B143,n144,d145,B146,n147,d148,B149,n150,d151,B152,n153,d154,B155,n156,d157,B158,n159,d160,rfl,rfl,rfl,rfl,rfl,rfl,rfl,T⟩
    refine ⟨_,rfl,?_⟩
    clear f;intro a f
    replace S:=S.call6 T;clear T
    refine op_new (cs:=#[iv 0,.slice none 0 0,.slice none 0 0,.slice none 0 0,.slice none 0 0,.slice none 0 0,.slice none 0 0]) rfl rfl f rfl S (run_allocZ rfl zr43) ?_;clear f S;intro a g161 u f S
    refine op_do rfl rfl (run_store (cs':=#[iv p142.1,.slice B143 p142.2.1.length d145,.slice B146 p142.2.2.1.length d148,.slice B149 p142.2.2.2.1.length d151,.slice B152 p142.2.2.2.2.1.length d154,.slice B155 p142.2.2.2.2.2.1.length d157,.slice B158 p142.2.2.2.2.2.2.length d160]) rfl sz43 (f.ev rfl) (f.ev rfl) rfl rfl rfl (S.free 0 rfl) rfl rfl) ?_;replace S:=S.put 0 rfl (#[iv p142.1,.slice B143 p142.2.1.length d145,.slice B146 p142.2.2.1.length d148,.slice B149 p142.2.2.2.1.length d151,.slice B152 p142.2.2.2.2.1.length d154,.slice B155 p142.2.2.2.2.2.1.length d157,.slice B158 p142.2.2.2.2.2.2.length d160])
    generalize World.setRow _ _ _=u at S ⊢
    refine wn ?_
    revert a;refine sr (ov rfl (fun a f=>run_fieldAddr rfl fl43_2 (f.ev rfl) rfl) (ov rfl (fun a f=>run_loadN rfl ag41 (f.ev rfl) rfl ((S.free 9 rfl).cells 3 #[.slice A3 x3.length c3,.slice A4 x4.length c4,.slice A5 x5.length c5] rfl)) (ov rfl (fun a f=>run_loadN rfl ag56 (f.ev rfl) rfl ((S.free 8 rfl).cells 0 #[iv x7,iv x8,iv x9] rfl)) fun a f=>?_)))
    obtain ⟨p162,h162,hM⟩:=bind_ex hM
    refine op_call rfl rfl f rfl (run_call (vs:=[_,_]) rfl rfl co56 ⟨(f.ev rfl),(f.ev rfl),trivial⟩) (c_spec_WorkDo ⟨(S.rc0 h3.rc),rfl⟩ ⟨(S.rc0 h4.rc),rfl⟩ ⟨(S.rc0 h5.rc),rfl⟩ h162) ?_
    rintro e u ⟨B163,n164,d165,B166,n167,d168,B169,n170,d171,rfl,rfl,rfl,rfl,T⟩
    refine ⟨_,rfl,?_⟩
    clear f;intro a f
    replace S:=S.call3 T;clear T
    revert a;refine mv rfl rfl (ov rfl (fun a f=>run_extract rfl (f.ev rfl) rfl) (ov rfl (fun a f=>run_extract rfl (f.ev rfl) rfl) fun a f=>?_))
    refine op_new (cs:=#[.slice none 0 0,.slice none 0 0,.slice none 0 0]) rfl rfl f rfl S (run_allocZ rfl zr41) ?_;clear f S;intro a g172 u f S
    refine op_do rfl rfl (run_store (cs':=#[.slice B163 p162.1.length d165,.slice B166 p162.2.1.length d168,.slice B169 p162.2.2.1.length d171]) rfl sz41 (f.ev rfl) (f.ev rfl) rfl rfl rfl (S.free 0 rfl) rfl rfl) ?_;replace S:=S.put 0 rfl (#[.slice B163 p162.1.length d165,.slice B166 p162.2.1.length d168,.slice B169 p162.2.2.1.length d171])
    generalize World.setRow _ _ _=u at S ⊢
    revert a;refine ag rfl rfl fun a f=>wn ?_
    refine ws ?_
    revert a;refine sr (mv rfl rfl (ov rfl (fun a f=>run_not rfl (f.ev rfl)) (mv rfl rfl fun a f=>?_)))
    revert a;refine gf rfl rfl rfl rfl (fun a f hg=>run_fieldAddr rfl fl43_0 (f.ev rfl) rfl) (gf rfl rfl rfl rfl (fun a f hg=>run_loadN rfl ag37 ((f.ev rfl).trans (gv_t hg)) rfl ((S.free 13 rfl).cells 0 #[iv x0,.slice A1 x1.length c1] rfl)) (gf rfl rfl rfl rfl (fun a f hg=>run_fieldAddr rfl fl41_0 (f.ev rfl) rfl) (gf rfl rfl rfl rfl (fun a f hg=>run_load1 rfl one26 ((f.ev rfl).trans (gv_t hg)) (S.cell 0 rfl rfl)) (gf rfl rfl rfl rfl (fun a f hg=>run_fieldAddr rfl fl43_1 (f.ev rfl) rfl) (gf rfl rfl rfl rfl (fun a f hg=>run_load1 rfl one38 ((f.ev rfl).trans (gv_t hg)) (S.cell 13 rfl rfl)) fun a f=>?_)))))
    obtain ⟨p173,h173,hM⟩:=bind_ex hM
    refine op_gcall (v:=.bool p173) rfl rfl f rfl S (yf (gw_yield f rfl rfl rfl)) (fun hg=>(run_call (vs:=[.agg #[iv x0,.slice A1 x1.length c1],.slice B163 p162.1.length d165,.slice A2 x2.length c2]) rfl rfl co57 ⟨((f.ev rfl).trans (gv_t hg)),((f.ev rfl).trans (gv_t hg)),((f.ev rfl).trans (gv_t hg)),trivial⟩)) (fun hg=>c_spec_Radial (x0:=x0) (x1:=x1) (x2:=p162.1) (x3:=x2) ⟨(S.rc0 h1.rc),rfl⟩ ⟨(S.rc 1 rfl),rfl⟩ ⟨(S.rc0 h2.rc),rfl⟩ (gb_t h173 hg)) ?_;clear f S;intro a u f S
    revert a;refine gf rfl rfl rfl rfl (fun a f hg=>run_not rfl ((f.ev rfl).trans (gv_t hg))) (ov rfl (fun a f=>run_pick_or rfl (f.ev rfl) rfl (fun hp=>((f.ev rfl).trans (gv_t (not_t hp))))) fun a f=>wn ?_)
    cases hc174:((!p162.2.2.2)||(!p173))
    ·replace hM:=bif_f hc174 hM
     refine cond_f f rfl hc174 ?_
     refine wp_skip ?_
     revert a;refine sr (ov rfl (fun a f=>run_loadN rfl ag41 (f.ev rfl) rfl ((S.free 0 rfl).cells 0 #[.slice B163 p162.1.length d165,.slice B166 p162.2.1.length d168,.slice B169 p162.2.2.1.length d171] rfl)) (ov rfl (fun a f=>run_fieldAddr rfl fl43_2 (f.ev rfl) rfl) fun a f=>?_))
     refine op_do rfl rfl (run_store (cs':=#[iv p142.1,.slice B143 p142.2.1.length d145,.slice B146 p142.2.2.1.length d148,.slice B163 p162.1.length d165,.slice B166 p162.2.1.length d168,.slice B169 p162.2.2.1.length d171,.slice B158 p142.2.2.2.2.2.2.length d160]) rfl sz41 (f.ev rfl) (f.ev rfl) rfl rfl rfl (S.free 4 rfl) rfl rfl) ?_;replace S:=S.put 4 rfl (#[iv p142.1,.slice B143 p142.2.1.length d145,.slice B146 p142.2.2.1.length d148,.slice B163 p162.1.length d165,.slice B166 p162.2.1.length d168,.slice B169 p162.2.2.1.length d171,.slice B158 p142.2.2.2.2.2.2.length d160])
     generalize World.setRow _ _ _=u at S ⊢
     refine wn ?_
     revert a;refine sr (ov rfl (fun a f=>run_loadN rfl ag43 (f.ev rfl) rfl ((S.free 4 rfl).cells 0 #[iv p142.1,.slice B143 p142.2.1.length d145,.slice B146 p142.2.2.1.length d148,.slice B163 p162.1.length d165,.slice B166 p162.2.1.length d168,.slice B169 p162.2.2.1.length d171,.slice B158 p142.2.2.2.2.2.2.length d160] rfl)) fun a f=>?_)
     refine op_do rfl rfl (run_store (cs':=#[iv p142.1,.slice B143 p142.2.1.length d145,.slice B146 p142.2.2.1.length d148,.slice B163 p162.1.length d165,.slice B166 p162.2.1.length d168,.slice B169 p162.2.2.1.length d171,.slice B158 p142.2.2.2.2.2.2.length d160]) rfl sz43 (f.ev rfl) (f.ev rfl) rfl rfl rfl (S.free 11 rfl) rfl rfl) ?_;replace S:=S.put 11 rfl (#[iv p142.1,.slice B143 p142.2.1.length d145,.slice B146 p142.2.2.1.length d148,.slice B163 p162.1.length d165,.slice B166 p162.2.1.length d168,.slice B169 p162.2.2.1.length d171,.slice B158 p142.2.2.2.2.2.2.length d160])
     generalize World.setRow _ _ _=u at S ⊢
     revert a;refine ov rfl (fun a f=>run_assign rfl rfl) fun a f=>wn ?_
     refine wp_ret ?_
     refine ret2_gw (.inl rfl) f rfl (res_cell (f.ev rfl) (res_loadN ag43 rfl (S.cells 11 rfl 0 #[iv p142.1,.slice B143 p142.2.1.length d145,.slice B146 p142.2.2.1.length d148,.slice B163 p162.1.length d165,.slice B166 p162.2.1.length d168,.slice B169 p162.2.2.1.length d171,.slice B158 p142.2.2.2.2.2.2.length d160] rfl))) (res_tmp (f.ev rfl)) ?_
     obtain rfl:=Option.some.inj hM
     exact ⟨B143,p142.2.1.length,d145,B146,p142.2.2.1.length,d148,B163,p162.1.length,d165,B166,p162.2.1.length,d168,B169,p162.2.2.1.length,d171,B158,p142.2.2.2.2.2.2.length,d160,rfl,rfl,rfl,rfl,rfl,rfl,rfl,S.sel [5,6,1,2,3,10] rfl rfl⟩
    replace hM:=bif_t hc174 hM
    refine cond_t f rfl hc174 ?_
    revert a;refine sr (ov rfl (fun a f=>run_loadN rfl ag43 (f.ev rfl) rfl ((S.free 4 rfl).cells 0 #[iv p142.1,.slice B143 p142.2.1.length d145,.slice B146 p142.2.2.1.length d148,.slice B149 p142.2.2.2.1.length d151,.slice B152 p142.2.2.2.2.1.length d154,.slice B155 p142.2.2.2.2.2.1.length d157,.slice B158 p142.2.2.2.2.2.2.length d160] rfl)) fun a f=>?_)
    refine op_do rfl rfl (run_store (cs':=#[iv p142.1,.slice B143 p142.2.1.length d145,.slice B146 p142.2.2.1.length d148,.slice B149 p142.2.2.2.1.length d151,.slice B152 p142.2.2.2.2.1.length d154,.slice B155 p142.2.2.2.2.2.1.length d157,.slice B158 p142.2.2.2.2.2.2.length d160]) rfl sz43 (f.ev rfl) (f.ev rfl) rfl rfl rfl (S.free 11 rfl) rfl rfl) ?_;replace S:=S.put 11 rfl (#[iv p142.1,.slice B143 p142.2.1.length d145,.slice B146 p142.2.2.1.length d148,.slice B149 p142.2.2.2.1.length d151,.slice B152 p142.2.2.2.2.1.length d154,.slice B155 p142.2.2.2.2.2.1.length d157,.slice B158 p142.2.2.2.2.2.2.length d160])
    generalize World.setRow _ _ _=u at S ⊢
    revert a;refine ov rfl (fun a f=>run_assign rfl rfl) fun a f=>wn ?_
    refine wp_ret ?_
    repeat with_reducible first|apply tr|apply ir|apply nr
    refine ret2_gw (.inl rfl) f rfl (res_cell (f.ev rfl) (res_loadN ag43 rfl (S.cells 11 rfl 0 #[iv p142.1,.slice B143 p142.2.1.length d145,.slice B146 p142.2.2.1.length d148,.slice B149 p142.2.2.2.1.length d151,.slice B152 p142.2.2.2.2.1.length d154,.slice B155 p142.2.2.2.2.2.1.length d157,.slice B158 p142.2.2.2.2.2.2.length d160] rfl))) (res_tmp (f.ev rfl)) ?_
    obtain rfl:=Option.some.inj hM
    exact ⟨B143,p142.2.1.length,d145,B146,p142.2.2.1.length,d148,B149,p142.2.2.2.1.length,d151,B152,p142.2.2.2.2.1.length,d154,B155,p142.2.2.2.2.2.1.length,d157,B158,p142.2.2.2.2.2.2.length,d160,rfl,rfl,rfl,rfl,rfl,rfl,rfl,S.sel [5,6,7,8,9,10] rfl rfl⟩
   replace hM:=bif_t hc141 hM
   refine cond_t f rfl hc141 ?_
   revert a;refine sr (ov rfl (fun a f=>run_loadN rfl ag43 (f.ev rfl) rfl ((S.free 2 rfl).cells 0 #[iv x0,.slice A1 x1.length c1,.slice A2 x2.length c2,.slice A3 x3.length c3,.slice A4 x4.length c4,.slice A5 x5.length c5,.slice A6 x6.length c6] rfl)) fun a f=>?_)
   obtain ⟨p175,h175,hM⟩:=bind_ex hM
   refine op_call rfl rfl f rfl (run_call (vs:=[_]) rfl rfl co52 ⟨(f.ev rfl),trivial⟩) (c_spec_l39Copy ⟨(S.rc0 h1.rc),rfl⟩ ⟨(S.rc0 h2.rc),rfl⟩ ⟨(S.rc0 h3.rc),rfl⟩ ⟨(S.rc0 h4.rc),rfl⟩ ⟨(S.rc0 h5.rc),rfl⟩ ⟨(S.rc0 h6.rc),rfl⟩ h175) ?_
   rintro e u ⟨B176,n177,d178,B179,n180,d181,B182,n183,d184,B185,n186,d187,B188,n189,d190,B191,n192,d193,rfl,rfl,rfl,rfl,rfl,rfl,rfl,T⟩
   refine ⟨_,rfl,?_⟩
   clear f;intro a f
   replace S:=S.call6 T;clear T
   refine op_do rfl rfl (run_store (cs':=#[iv p175.1,.slice B176 p175.2.1.length d178,.slice B179 p175.2.2.1.length d181,.slice B182 p175.2.2.2.1.length d184,.slice B185 p175.2.2.2.2.1.length d187,.slice B188 p175.2.2.2.2.2.1.length d190,.slice B191 p175.2.2.2.2.2.2.length d193]) rfl sz43 (f.ev rfl) (f.ev rfl) rfl rfl rfl (S.free 6 rfl) rfl rfl) ?_;replace S:=S.put 6 rfl (#[iv p175.1,.slice B176 p175.2.1.length d178,.slice B179 p175.2.2.1.length d181,.slice B182 p175.2.2.2.1.length d184,.slice B185 p175.2.2.2.2.1.length d187,.slice B188 p175.2.2.2.2.2.1.length d190,.slice B191 p175.2.2.2.2.2.2.length d193])
   generalize World.setRow _ _ _=u at S ⊢
   revert a;refine ov rfl (fun a f=>run_assign rfl rfl) fun a f=>wn ?_
   refine wp_ret ?_
   repeat with_reducible first|apply tr|apply ir|apply nr
   refine ret2_gw (.inl rfl) f rfl (res_cell (f.ev rfl) (res_loadN ag43 rfl (S.cells 6 rfl 0 #[iv p175.1,.slice B176 p175.2.1.length d178,.slice B179 p175.2.2.1.length d181,.slice B182 p175.2.2.2.1.length d184,.slice B185 p175.2.2.2.2.1.length d187,.slice B188 p175.2.2.2.2.2.1.length d190,.slice B191 p175.2.2.2.2.2.2.length d193] rfl))) (res_tmp (f.ev rfl)) ?_
   obtain rfl:=Option.some.inj hM
   exact ⟨B176,p175.2.1.length,d178,B179,p175.2.2.1.length,d181,B182,p175.2.2.2.1.length,d184,B185,p175.2.2.2.2.1.length,d187,B188,p175.2.2.2.2.2.1.length,d190,B191,p175.2.2.2.2.2.2.length,d193,rfl,rfl,rfl,rfl,rfl,rfl,rfl,S.sel [0,1,2,3,4,5] rfl rfl⟩
  replace hM:=bif_t hc140 hM
  refine cond_t f rfl hc140 ?_
  revert a;refine sr (ov rfl (fun a f=>run_loadN rfl ag43 (f.ev rfl) rfl ((S.free 2 rfl).cells 0 #[iv x0,.slice A1 x1.length c1,.slice A2 x2.length c2,.slice A3 x3.length c3,.slice A4 x4.length c4,.slice A5 x5.length c5,.slice A6 x6.length c6] rfl)) (ov rfl (fun a f=>run_fieldAddr rfl fl56_1 (f.ev rfl) rfl) (ov rfl (fun a f=>run_load1 rfl one3 (f.ev rfl) (S.cell 1 rfl rfl)) fun a f=>?_)))
  obtain ⟨p194,h194,hM⟩:=bind_ex hM
  refine op_call rfl rfl f rfl (run_call (vs:=[_,_]) rfl rfl co55 ⟨(f.ev rfl),(f.ev rfl),trivial⟩) (c_spec_l39Mend ⟨(S.rc0 h1.rc),rfl⟩ ⟨(S.rc0 h2.rc),rfl⟩ ⟨(S.rc0 h3.rc),rfl⟩ ⟨(S.rc0 h4.rc),rfl⟩ ⟨(S.rc0 h5.rc),rfl⟩ ⟨(S.rc0 h6.rc),rfl⟩ h194) ?_
  rintro e u ⟨B195,n196,d197,B198,n199,d200,B201,n202,d203,B204,n205,d206,B207,n208,d209,B210,n211,d212,rfl,rfl,rfl,rfl,rfl,rfl,rfl,T⟩
  refine ⟨_,rfl,?_⟩
  clear f;intro a f
  replace S:=S.call6 T;clear T
  refine op_do rfl rfl (run_store (cs':=#[iv p194.1,.slice B195 p194.2.1.length d197,.slice B198 p194.2.2.1.length d200,.slice B201 p194.2.2.2.1.length d203,.slice B204 p194.2.2.2.2.1.length d206,.slice B207 p194.2.2.2.2.2.1.length d209,.slice B210 p194.2.2.2.2.2.2.length d212]) rfl sz43 (f.ev rfl) (f.ev rfl) rfl rfl rfl (S.free 6 rfl) rfl rfl) ?_;replace S:=S.put 6 rfl (#[iv p194.1,.slice B195 p194.2.1.length d197,.slice B198 p194.2.2.1.length d200,.slice B201 p194.2.2.2.1.length d203,.slice B204 p194.2.2.2.2.1.length d206,.slice B207 p194.2.2.2.2.2.1.length d209,.slice B210 p194.2.2.2.2.2.2.length d212])
  generalize World.setRow _ _ _=u at S ⊢
  revert a;refine ov rfl (fun a f=>run_assign rfl rfl) fun a f=>wn ?_
  refine wp_ret ?_
  repeat with_reducible first|apply tr|apply ir|apply nr
  refine ret2_gw (.inl rfl) f rfl (res_cell (f.ev rfl) (res_loadN ag43 rfl (S.cells 6 rfl 0 #[iv p194.1,.slice B195 p194.2.1.length d197,.slice B198 p194.2.2.1.length d200,.slice B201 p194.2.2.2.1.length d203,.slice B204 p194.2.2.2.2.1.length d206,.slice B207 p194.2.2.2.2.2.1.length d209,.slice B210 p194.2.2.2.2.2.2.length d212] rfl))) (res_tmp (f.ev rfl)) ?_
  obtain rfl:=Option.some.inj hM
  exact ⟨B195,p194.2.1.length,d197,B198,p194.2.2.1.length,d200,B201,p194.2.2.2.1.length,d203,B204,p194.2.2.2.2.1.length,d206,B207,p194.2.2.2.2.2.1.length,d209,B210,p194.2.2.2.2.2.2.length,d212,rfl,rfl,rfl,rfl,rfl,rfl,rfl,S.sel [0,1,2,3,4,5] rfl rfl⟩
 replace hM:=bif_t hc128 hM
 refine cond_t f rfl hc128 ?_
 revert a;refine sr (ov rfl (fun a f=>run_loadN rfl ag43 (f.ev rfl) rfl ((S.free 2 rfl).cells 0 #[iv x0,.slice A1 x1.length c1,.slice A2 x2.length c2,.slice A3 x3.length c3,.slice A4 x4.length c4,.slice A5 x5.length c5,.slice A6 x6.length c6] rfl)) (ov rfl (fun a f=>run_fieldAddr rfl fl56_1 (f.ev rfl) rfl) (ov rfl (fun a f=>run_load1 rfl one3 (f.ev rfl) (S.cell 1 rfl rfl)) fun a f=>?_)))
 obtain ⟨p213,h213,hM⟩:=bind_ex hM
 refine op_call rfl rfl f rfl (run_call (vs:=[_,_]) rfl rfl co53 ⟨(f.ev rfl),(f.ev rfl),trivial⟩) (c_spec_l39Break ⟨(S.rc0 h1.rc),rfl⟩ ⟨(S.rc0 h2.rc),rfl⟩ ⟨(S.rc0 h3.rc),rfl⟩ ⟨(S.rc0 h4.rc),rfl⟩ ⟨(S.rc0 h5.rc),rfl⟩ ⟨(S.rc0 h6.rc),rfl⟩ h213) ?_
 rintro e u ⟨B214,n215,d216,B217,n218,d219,B220,n221,d222,B223,n224,d225,B226,n227,d228,B229,n230,d231,rfl,rfl,rfl,rfl,rfl,rfl,rfl,T⟩
 refine ⟨_,rfl,?_⟩
 clear f;intro a f
 replace S:=S.call6 T;clear T
 refine op_do rfl rfl (run_store (cs':=#[iv p213.1,.slice B214 p213.2.1.length d216,.slice B217 p213.2.2.1.length d219,.slice B220 p213.2.2.2.1.length d222,.slice B223 p213.2.2.2.2.1.length d225,.slice B226 p213.2.2.2.2.2.1.length d228,.slice B229 p213.2.2.2.2.2.2.length d231]) rfl sz43 (f.ev rfl) (f.ev rfl) rfl rfl rfl (S.free 6 rfl) rfl rfl) ?_;replace S:=S.put 6 rfl (#[iv p213.1,.slice B214 p213.2.1.length d216,.slice B217 p213.2.2.1.length d219,.slice B220 p213.2.2.2.1.length d222,.slice B223 p213.2.2.2.2.1.length d225,.slice B226 p213.2.2.2.2.2.1.length d228,.slice B229 p213.2.2.2.2.2.2.length d231])
 generalize World.setRow _ _ _=u at S ⊢
 revert a;refine ov rfl (fun a f=>run_assign rfl rfl) fun a f=>wn ?_
 refine wp_ret ?_
 repeat with_reducible first|apply tr|apply ir|apply nr
 refine ret2_gw (.inl rfl) f rfl (res_cell (f.ev rfl) (res_loadN ag43 rfl (S.cells 6 rfl 0 #[iv p213.1,.slice B214 p213.2.1.length d216,.slice B217 p213.2.2.1.length d219,.slice B220 p213.2.2.2.1.length d222,.slice B223 p213.2.2.2.2.1.length d225,.slice B226 p213.2.2.2.2.2.1.length d228,.slice B229 p213.2.2.2.2.2.2.length d231] rfl))) (res_tmp (f.ev rfl)) ?_
 obtain rfl:=Option.some.inj hM
 exact ⟨B214,p213.2.1.length,d216,B217,p213.2.2.1.length,d219,B220,p213.2.2.2.1.length,d222,B223,p213.2.2.2.2.1.length,d225,B226,p213.2.2.2.2.2.1.length,d228,B229,p213.2.2.2.2.2.2.length,d231,rfl,rfl,rfl,rfl,rfl,rfl,rfl,S.sel [0,1,2,3,4,5] rfl rfl⟩
theorem c_impl_Net_hasBus {x0:Int} {x1:List (Int×Int×Int)} {x2:Int} {A1:Option Addr} {n1 c1:Nat} {w:World} {r:Bool} (h1:Rt w 3 eLine A1 n1 c1 x1) (hM : m_impl_Net_hasBus x0 x1 x2=some r) :
  Calls Tryz.prog 136 #[.agg #[iv x0,.slice A1 n1 c1],iv x2] w (fun e w'=>e=.returned (.bool r)∧St w w' []):=by
 obtain rfl:=h1.len
 unfold m_impl_Net_hasBus at hM
 refine calls_gx Tryz.func136 Tryz.ntmps136 rfl rfl ?_
 intro a f
 have S:=St.nil w
 refine wsg ?_
 refine op_new (cs:=#[iv x0,.slice A1 x1.length c1]) rfl rfl f rfl S (run_box rfl (f.ev rfl) rfl) ?_;clear f S;intro a g101 u f S
 revert a;refine ov rfl (fun a f=>run_assign rfl rfl) fun a f=>wn ?_
 revert a;refine sr (mv rfl rfl (ov rfl (fun a f=>run_geq (f.ev rfl) rfl rfl) (mv rfl rfl fun a f=>?_)))
 revert a;refine gt rfl rfl rfl rfl (fun a f hg=>run_move rfl (f.ev rfl)) (gt rfl rfl rfl rfl (fun a f hg=>run_fieldAddr rfl fl37_0 (f.ev rfl) rfl) (gt rfl rfl rfl rfl (fun a f hg=>run_load1 rfl one3 ((f.ev rfl).trans (gv_t hg)) (S.cell 0 rfl rfl)) (gt rfl rfl rfl rfl (fun a f hg=>run_lss ((f.ev rfl).trans (gv_t hg)) ((f.ev rfl).trans (gv_t hg)) rfl) fun a f=>?_)))
 revert a;refine ov rfl (fun a f=>run_pick_and rfl (f.ev rfl) (fun hp=>((f.ev rfl).trans (gv_t hp))) rfl) (ag rfl rfl fun a f=>wn ?_)
 refine wp_ret ?_
 refine ret1_gw (.inl rfl) f rfl (res_tmp (f.ev rfl)) ?_
 obtain rfl:=Option.some.inj hM
 exact ⟨rfl,S.sel [] rfl rfl⟩
theorem c_impl_NetValid {x0:Int} {x1:List (Int×Int×Int)} {A1:Option Addr} {n1 c1:Nat} {w:World} {r:Bool} (h1:Rt w 3 eLine A1 n1 c1 x1) (hM : m_impl_NetValid x0 x1=some r) :
  Calls Tryz.prog 109 #[.agg #[iv x0,.slice A1 n1 c1]] w (fun e w'=>e=.returned (.bool r)∧St w w' []):=by
 obtain rfl:=h1.len
 unfold m_impl_NetValid at hM
 refine calls_gx Tryz.func109 Tryz.ntmps109 rfl rfl ?_
 intro a f
 have S:=St.nil w
 refine wsg ?_
 refine op_new (cs:=#[iv x0,.slice A1 x1.length c1]) rfl rfl f rfl S (run_box rfl (f.ev rfl) rfl) ?_;clear f S;intro a g101 u f S
 revert a;refine ov rfl (fun a f=>run_assign rfl rfl) fun a f=>wn ?_
 refine ws ?_
 revert a;refine sr (ov rfl (fun a f=>run_fieldAddr rfl fl37_0 (f.ev rfl) rfl) (ov rfl (fun a f=>run_load1 rfl one3 (f.ev rfl) (S.cell 0 rfl rfl)) (ov rfl (fun a f=>run_lss (f.ev rfl) rfl rfl) (mv rfl rfl fun a f=>?_))))
 revert a;refine gf rfl rfl rfl rfl (fun a f hg=>run_fieldAddr rfl fl37_0 (f.ev rfl) rfl) (gf rfl rfl rfl rfl (fun a f hg=>run_load1 rfl one3 ((f.ev rfl).trans (gv_t hg)) (S.cell 0 rfl rfl)) (gf rfl rfl rfl rfl (fun a f hg=>run_gtr ((f.ev rfl).trans (gv_t hg)) rfl rfl) fun a f=>?_))
 revert a;refine ov rfl (fun a f=>run_pick_or rfl (f.ev rfl) rfl (fun hp=>((f.ev rfl).trans (gv_t (not_t hp))))) (mv rfl rfl fun a f=>?_)
 revert a;refine gf rfl rfl rfl rfl (fun a f hg=>run_fieldAddr rfl fl37_1 (f.ev rfl) rfl) (gf rfl rfl rfl rfl (fun a f hg=>run_load1 rfl one35 ((f.ev rfl).trans (gv_t hg)) (S.cell 0 rfl rfl)) (gf rfl rfl rfl rfl (fun a f hg=>run_lenL rfl rfl Tryz.underlying35 ((f.ev rfl).trans (gv_t hg))) (gf rfl rfl rfl rfl (fun a f hg=>run_gtr ((f.ev rfl).trans (gv_t hg)) rfl rfl) (ov rfl (fun a f=>run_pick_or rfl (f.ev rfl) rfl (fun hp=>((f.ev rfl).trans (gv_t (not_t hp))))) fun a f=>wn ?_))))
 cases hc102:(((ltB x0 1)||(ltB 8 x0))||(ltB 10 (x1.length:Int)))
 ·replace hM:=bif_f hc102 hM
  refine cond_f f rfl hc102 ?_
  refine wp_skip ?_
  refine ws ?_
  revert a;refine sr (ov rfl (fun a f=>run_fieldAddr rfl fl37_1 (f.ev rfl) rfl) (ov rfl (fun a f=>run_load1 rfl one35 (f.ev rfl) (S.cell 0 rfl rfl)) (ov rfl (fun a f=>run_lenL rfl rfl Tryz.underlying35 (f.ev rfl)) (ov rfl (fun a f=>run_move rfl rfl) fun a f=>wn ?_))))
  obtain ⟨o104,hM105,hM⟩:=bind_ex hM
  refine wp_cut (fun a u=>∃ (p103:Unit),(Sum.inl p103)=o104∧Fr a 56 [(2,.bool false)]∧St w u []) ?_ ?_
  ·have _:=trivial
   refine wp_block ?_
   refine loop_gw (fun m a u=>∃ (p106:Int),m_impl_NetValid_l1 x0 x1 m p106=some _∧Fr a 56 [(1,.pointer (some ⟨g101,0,none⟩)),(2,.bool false),(20,.slice A1 x1.length c1),(21,iv (x1.length:Int)),(22,iv p106)]∧St w u [.box g101 37 #[iv x0,.slice A1 x1.length c1]]) FUEL ⟨0,hM105,f.keep _ ⟨rfl,rfl,rfl,rfl,rfl,trivial⟩,S.sel [0] rfl rfl⟩ ?_
   clear f S hM105;rintro m a u ⟨p106,hM105,f,S⟩
   rcases m with _ | f1
   ·exact none_some hM105
   rw [m_impl_NetValid_l1.eq_2] at hM105
   revert a;refine sr (ov rfl (fun a f=>run_lss (f.ev rfl) (f.ev rfl) rfl) fun a f=>wn ?_)
   refine ws ?_
   cases hc107:(ltB p106 (x1.length:Int))
   ·replace hM105:=bif_f hc107 hM105
    refine cond_f f rfl hc107 ?_
    refine wp_exit ?_
    repeat with_reducible first|apply then_exit|apply in_hit|refine in_miss rfl ?_
    obtain rfl:=Option.some.inj hM105
    exact ⟨(),rfl,f.keep _ ⟨rfl,trivial⟩,S.sel [] rfl rfl⟩
   replace hM105:=bif_t hc107 hM105
   refine cond_t f rfl hc107 ?_
   refine wp_skip ?_
   refine ws ?_
   refine wp_block ?_
   refine wsg ?_
   obtain ⟨hk108,hM105⟩:=chk_ex hM105
   replace hk108:=ixB_t hk108
   revert a;refine ov rfl (fun a f=>run_ix rfl Tryz.underlying35 sz130 (f.ev rfl) (S.rc0 h1.rc) (f.ev rfl) hk108) (ov rfl (fun a f=>run_loadN (cs:=#[iv ((x1.getD p106.toNat (0,0,0)).1),iv ((x1.getD p106.toNat (0,0,0)).2.1),iv ((x1.getD p106.toNat (0,0,0)).2.2)]) rfl ag130 (f.ev rfl) rfl (rd_elN (l:=x1) (S.rc0 h1.rc).rd rfl eLine_len (0,0,0) (ix_ltn hk108 rfl) rfl)) fun a f=>?_)
   refine op_new (cs:=#[iv 0,iv 0,iv 0]) rfl rfl f rfl S (run_allocZ rfl zr130) ?_;clear f S;intro a g109 u f S
   refine op_do rfl rfl (run_store (cs':=#[iv ((x1.getD p106.toNat (0,0,0)).1),iv ((x1.getD p106.toNat (0,0,0)).2.1),iv ((x1.getD p106.toNat (0,0,0)).2.2)]) rfl sz130 (f.ev rfl) (f.ev rfl) rfl rfl rfl (S.free 0 rfl) rfl rfl) ?_;replace S:=S.put 0 rfl (#[iv ((x1.getD p106.toNat (0,0,0)).1),iv ((x1.getD p106.toNat (0,0,0)).2.1),iv ((x1.getD p106.toNat (0,0,0)).2.2)])
   generalize World.setRow _ _ _=u at S ⊢
   refine wn ?_
   revert a;refine sr (ov rfl (fun a f=>run_loadN rfl ag37 (f.ev rfl) rfl ((S.free 1 rfl).cells 0 #[iv x0,.slice A1 x1.length c1] rfl)) (ov rfl (fun a f=>run_fieldAddr rfl fl130_0 (f.ev rfl) rfl) (ov rfl (fun a f=>run_load1 rfl one3 (f.ev rfl) (S.cell 0 rfl rfl)) fun a f=>?_)))
   obtain ⟨p110,h110,hM105⟩:=bind_ex hM105
   refine op_call rfl rfl f rfl (run_call (vs:=[_,_]) rfl rfl co136 ⟨(f.ev rfl),(f.ev rfl),trivial⟩) (c_impl_Net_hasBus ⟨(S.rc0 h1.rc),rfl⟩ h110) ?_
   rintro e u ⟨rfl,T⟩
   refine ⟨_,rfl,?_⟩
   clear f;intro a f
   replace S:=S.call0 T;clear T
   revert a;refine ov rfl (fun a f=>run_not rfl (f.ev rfl)) (mv rfl rfl fun a f=>?_)
   revert a;refine gf rfl rfl rfl rfl (fun a f hg=>run_loadN rfl ag37 (f.ev rfl) rfl ((S.free 1 rfl).cells 0 #[iv x0,.slice A1 x1.length c1] rfl)) (gf rfl rfl rfl rfl (fun a f hg=>run_fieldAddr rfl fl130_1 (f.ev rfl) rfl) (gf rfl rfl rfl rfl (fun a f hg=>run_load1 rfl one3 ((f.ev rfl).trans (gv_t hg)) (S.cell 0 rfl rfl)) fun a f=>?_))
   obtain ⟨p111,h111,hM105⟩:=bind_ex hM105
   refine op_gcall (v:=.bool p111) rfl rfl f rfl S (yf (gw_yield f rfl rfl rfl)) (fun hg=>(run_call (vs:=[.agg #[iv x0,.slice A1 x1.length c1],iv ((x1.getD p106.toNat (0,0,0)).2.1)]) rfl rfl co136 ⟨((f.ev rfl).trans (gv_t hg)),((f.ev rfl).trans (gv_t hg)),trivial⟩)) (fun hg=>c_impl_Net_hasBus (x0:=x0) (x1:=x1) (x2:=(x1.getD p106.toNat (0,0,0)).2.1) ⟨(S.rc0 h1.rc),rfl⟩ (gb_t h111 hg)) ?_;clear f S;intro a u f S
   revert a;refine gf rfl rfl rfl rfl (fun a f hg=>run_not rfl ((f.ev rfl).trans (gv_t hg))) fun a f=>?_
   revert a;refine ov rfl (fun a f=>run_pick_or rfl (f.ev rfl) rfl (fun hp=>((f.ev rfl).trans (gv_t (not_t hp))))) (mv rfl rfl fun a f=>?_)
   revert a;refine gf rfl rfl rfl rfl (fun a f hg=>run_fieldAddr rfl fl130_0 (f.ev rfl) rfl) (gf rfl rfl rfl rfl (fun a f hg=>run_load1 rfl one3 ((f.ev rfl).trans (gv_t hg)) (S.cell 0 rfl rfl)) (gf rfl rfl rfl rfl (fun a f hg=>run_fieldAddr rfl fl130_1 (f.ev rfl) rfl) (gf rfl rfl rfl rfl (fun a f hg=>run_load1 rfl one3 ((f.ev rfl).trans (gv_t hg)) (S.cell 0 rfl rfl)) (gf rfl rfl rfl rfl (fun a f hg=>run_eql ((f.ev rfl).trans (gv_t hg)) ((f.ev rfl).trans (gv_t hg)) rfl) fun a f=>?_))))
   revert a;refine ov rfl (fun a f=>run_pick_or rfl (f.ev rfl) rfl (fun hp=>((f.ev rfl).trans (gv_t (not_t hp))))) (mv rfl rfl fun a f=>?_)
   revert a;refine gf rfl rfl rfl rfl (fun a f hg=>run_fieldAddr rfl fl130_2 (f.ev rfl) rfl) (gf rfl rfl rfl rfl (fun a f hg=>run_load1 rfl one3 ((f.ev rfl).trans (gv_t hg)) (S.cell 0 rfl rfl)) (gf rfl rfl rfl rfl (fun a f hg=>run_lss ((f.ev rfl).trans (gv_t hg)) rfl rfl) fun a f=>?_))
   revert a;refine ov rfl (fun a f=>run_pick_or rfl (f.ev rfl) rfl (fun hp=>((f.ev rfl).trans (gv_t (not_t hp))))) (mv rfl rfl fun a f=>?_)
   revert a;refine gf rfl rfl rfl rfl (fun a f hg=>run_fieldAddr rfl fl130_2 (f.ev rfl) rfl) (gf rfl rfl rfl rfl (fun a f hg=>run_load1 rfl one3 ((f.ev rfl).trans (gv_t hg)) (S.cell 0 rfl rfl)) (gf rfl rfl rfl rfl (fun a f hg=>run_gtr ((f.ev rfl).trans (gv_t hg)) rfl rfl) (ov rfl (fun a f=>run_pick_or rfl (f.ev rfl) rfl (fun hp=>((f.ev rfl).trans (gv_t (not_t hp))))) fun a f=>wn ?_)))
   cases hc112:(((((!p110)||(!p111))||(((x1.getD p106.toNat (0,0,0)).1)==((x1.getD p106.toNat (0,0,0)).2.1)))||(ltB ((x1.getD p106.toNat (0,0,0)).2.2) 1))||(ltB 999 ((x1.getD p106.toNat (0,0,0)).2.2)))
   ·replace hM105:=bif_f hc112 hM105
    refine cond_f f rfl hc112 ?_
    refine wp_skip ?_
    revert a;refine rl (ov rfl (fun a f=>run_add (z:=w64 (p106+1)) (f.ev rfl) rfl rfl rfl) (mv rfl rfl fun a f=>wn ?_))
    exact ⟨f1,Nat.lt_succ_self _,w64 (p106+1),hM105,f.keep _ ⟨rfl,rfl,rfl,rfl,rfl,trivial⟩,S.sel [1] rfl rfl⟩
   replace hM105:=bif_t hc112 hM105
   refine cond_t f rfl hc112 ?_
   revert a;refine sr (ov rfl (fun a f=>run_assign rfl rfl) fun a f=>wn ?_)
   refine wp_ret ?_
   repeat with_reducible first|apply tr|apply ir|apply nr
   refine ret1_gw (.inl rfl) f rfl (res_tmp (f.ev rfl)) ?_
   obtain rfl:=Option.some.inj hM105
   obtain rfl:=Option.some.inj hM
   exact ⟨rfl,S.sel [] rfl rfl⟩
  rintro a u ⟨p103,rfl,f,S⟩
  replace hM:=elim_l hM
  revert a;refine sr (ov rfl (fun a f=>run_assign rfl rfl) fun a f=>wn ?_)
  refine wp_ret ?_
  refine ret1_gw (.inl rfl) f rfl (res_tmp (f.ev rfl)) ?_
  obtain rfl:=Option.some.inj hM
  exact ⟨rfl,S.sel [] rfl rfl⟩
 replace hM:=bif_t hc102 hM
 refine cond_t f rfl hc102 ?_
 revert a;refine sr (ov rfl (fun a f=>run_assign rfl rfl) fun a f=>wn ?_)
 refine wp_ret ?_
 repeat with_reducible first|apply tr|apply ir|apply nr
 refine ret1_gw (.inl rfl) f rfl (res_tmp (f.ev rfl)) ?_
 obtain rfl:=Option.some.inj hM
 exact ⟨rfl,S.sel [] rfl rfl⟩
theorem c_impl_powerValid {x0:Int} {w:World} {r:Bool}  (hM : m_impl_powerValid x0=some r) :
  Calls Tryz.prog 110 #[iv x0] w (fun e w'=>e=.returned (.bool r)∧St w w' []):=by
 unfold m_impl_powerValid at hM
 refine calls_gx Tryz.func110 Tryz.ntmps110 rfl rfl ?_
 intro a f
 have S:=St.nil w
 revert a;refine sr (ov rfl (fun a f=>run_assign rfl rfl) fun a f=>wn ?_)
 revert a;refine sr (mv rfl rfl (ov rfl (fun a f=>run_geq (f.ev rfl) rfl rfl) (mv rfl rfl fun a f=>?_)))
 revert a;refine gt rfl rfl rfl rfl (fun a f hg=>run_move rfl (f.ev rfl)) (gt rfl rfl rfl rfl (fun a f hg=>run_leq ((f.ev rfl).trans (gv_t hg)) rfl rfl) fun a f=>?_)
 revert a;refine ov rfl (fun a f=>run_pick_and rfl (f.ev rfl) (fun hp=>((f.ev rfl).trans (gv_t hp))) rfl) (ag rfl rfl fun a f=>wn ?_)
 refine wp_ret ?_
 refine ret1_gw (.inl rfl) f rfl (res_tmp (f.ev rfl)) ?_
 obtain rfl:=Option.some.inj hM
 exact ⟨rfl,S.sel [] rfl rfl⟩
theorem c_impl_BusesValid {x0:Int} {x1:List (Int×Int×Int)} {x2:List (Int×Int)} {A1:Option Addr} {n1 c1:Nat} {A2:Option Addr} {n2 c2:Nat} {w:World} {r:Bool} (h1:Rt w 3 eLine A1 n1 c1 x1) (h2:Rt w 2 eBus A2 n2 c2 x2) (hM : m_impl_BusesValid x0 x1 x2=some r) :
  Calls Tryz.prog 74 #[.agg #[iv x0,.slice A1 n1 c1],.slice A2 n2 c2] w (fun e w'=>e=.returned (.bool r)∧St w w' []):=by
 obtain rfl:=h1.len
 obtain rfl:=h2.len
 unfold m_impl_BusesValid at hM
 refine calls_gx Tryz.func74 Tryz.ntmps74 rfl rfl ?_
 intro a f
 have S:=St.nil w
 refine wsg ?_
 refine op_new (cs:=#[iv x0,.slice A1 x1.length c1]) rfl rfl f rfl S (run_box rfl (f.ev rfl) rfl) ?_;clear f S;intro a g101 u f S
 revert a;refine ov rfl (fun a f=>run_assign rfl rfl) fun a f=>wn ?_
 refine ws ?_
 revert a;refine sr (ov rfl (fun a f=>run_loadN rfl ag37 (f.ev rfl) rfl ((S.free 0 rfl).cells 0 #[iv x0,.slice A1 x1.length c1] rfl)) fun a f=>?_)
 obtain ⟨p102,h102,hM⟩:=bind_ex hM
 refine op_call rfl rfl f rfl (run_call (vs:=[_]) rfl rfl co109 ⟨(f.ev rfl),trivial⟩) (c_impl_NetValid ⟨(S.rc0 h1.rc),rfl⟩ h102) ?_
 rintro e u ⟨rfl,T⟩
 refine ⟨_,rfl,?_⟩
 clear f;intro a f
 replace S:=S.call0 T;clear T
 revert a;refine ov rfl (fun a f=>run_not rfl (f.ev rfl)) (mv rfl rfl fun a f=>?_)
 revert a;refine gf rfl rfl rfl rfl (fun a f hg=>run_move rfl (f.ev rfl)) (gf rfl rfl rfl rfl (fun a f hg=>run_lenL rfl rfl Tryz.underlying38 ((f.ev rfl).trans (gv_t hg))) (gf rfl rfl rfl rfl (fun a f hg=>run_fieldAddr rfl fl37_0 (f.ev rfl) rfl) (gf rfl rfl rfl rfl (fun a f hg=>run_load1 rfl one3 ((f.ev rfl).trans (gv_t hg)) (S.cell 0 rfl rfl)) (gf rfl rfl rfl rfl (fun a f hg=>run_neq ((f.ev rfl).trans (gv_t hg)) ((f.ev rfl).trans (gv_t hg)) rfl) (ov rfl (fun a f=>run_pick_or rfl (f.ev rfl) rfl (fun hp=>((f.ev rfl).trans (gv_t (not_t hp))))) fun a f=>wn ?_)))))
 cases hc103:((!p102)||((x2.length:Int) != x0))
 ·replace hM:=bif_f hc103 hM
  refine cond_f f rfl hc103 ?_
  refine wp_skip ?_
  refine ws ?_
  revert a;refine sr (mv rfl rfl (ov rfl (fun a f=>run_lenL rfl rfl Tryz.underlying38 (f.ev rfl)) (ov rfl (fun a f=>run_move rfl rfl) fun a f=>wn ?_)))
  obtain ⟨o105,hM106,hM⟩:=bind_ex hM
  refine wp_cut (fun a u=>∃ (p104:Unit),(Sum.inl p104)=o105∧Fr a 34 [(4,.bool false)]∧St w u []) ?_ ?_
  ·have _:=trivial
   refine wp_block ?_
   refine loop_gw (fun m a u=>∃ (p107:Int),m_impl_BusesValid_l1 x2 m p107=some _∧Fr a 34 [(4,.bool false),(17,.slice A2 x2.length c2),(18,iv (x2.length:Int)),(19,iv p107)]∧St w u []) FUEL ⟨0,hM106,f.keep _ ⟨rfl,rfl,rfl,rfl,trivial⟩,S.sel [] rfl rfl⟩ ?_
   clear f S hM106;rintro m a u ⟨p107,hM106,f,S⟩
   rcases m with _ | f1
   ·exact none_some hM106
   rw [m_impl_BusesValid_l1.eq_2] at hM106
   revert a;refine sr (ov rfl (fun a f=>run_lss (f.ev rfl) (f.ev rfl) rfl) fun a f=>wn ?_)
   refine ws ?_
   cases hc108:(ltB p107 (x2.length:Int))
   ·replace hM106:=bif_f hc108 hM106
    refine cond_f f rfl hc108 ?_
    refine wp_exit ?_
    repeat with_reducible first|apply then_exit|apply in_hit|refine in_miss rfl ?_
    obtain rfl:=Option.some.inj hM106
    exact ⟨(),rfl,f.keep _ ⟨rfl,trivial⟩,S.sel [] rfl rfl⟩
   replace hM106:=bif_t hc108 hM106
   refine cond_t f rfl hc108 ?_
   refine wp_skip ?_
   refine ws ?_
   refine wp_block ?_
   refine wsg ?_
   obtain ⟨hk109,hM106⟩:=chk_ex hM106
   replace hk109:=ixB_t hk109
   revert a;refine ov rfl (fun a f=>run_ix rfl Tryz.underlying38 sz110 (f.ev rfl) (S.rc0 h2.rc) (f.ev rfl) hk109) (ov rfl (fun a f=>run_loadN (cs:=#[iv ((x2.getD p107.toNat (0,0)).1),iv ((x2.getD p107.toNat (0,0)).2)]) rfl ag110 (f.ev rfl) rfl (rd_elN (l:=x2) (S.rc0 h2.rc).rd rfl eBus_len (0,0) (ix_ltn hk109 rfl) rfl)) fun a f=>?_)
   refine op_new (cs:=#[iv 0,iv 0]) rfl rfl f rfl S (run_allocZ rfl zr110) ?_;clear f S;intro a g110 u f S
   refine op_do rfl rfl (run_store (cs':=#[iv ((x2.getD p107.toNat (0,0)).1),iv ((x2.getD p107.toNat (0,0)).2)]) rfl sz110 (f.ev rfl) (f.ev rfl) rfl rfl rfl (S.free 0 rfl) rfl rfl) ?_;replace S:=S.put 0 rfl (#[iv ((x2.getD p107.toNat (0,0)).1),iv ((x2.getD p107.toNat (0,0)).2)])
   generalize World.setRow _ _ _=u at S ⊢
   refine wn ?_
   revert a;refine sr (ov rfl (fun a f=>run_fieldAddr rfl fl110_0 (f.ev rfl) rfl) (ov rfl (fun a f=>run_load1 rfl one3 (f.ev rfl) (S.cell 0 rfl rfl)) fun a f=>?_))
   obtain ⟨p111,h111,hM106⟩:=bind_ex hM106
   refine op_call rfl rfl f rfl (run_call (vs:=[_]) rfl rfl co110 ⟨(f.ev rfl),trivial⟩) (c_impl_powerValid  h111) ?_
   rintro e u ⟨rfl,T⟩
   refine ⟨_,rfl,?_⟩
   clear f;intro a f
   replace S:=S.call0 T;clear T
   revert a;refine ov rfl (fun a f=>run_not rfl (f.ev rfl)) (mv rfl rfl fun a f=>?_)
   revert a;refine gf rfl rfl rfl rfl (fun a f hg=>run_fieldAddr rfl fl110_1 (f.ev rfl) rfl) (gf rfl rfl rfl rfl (fun a f hg=>run_load1 rfl one3 ((f.ev rfl).trans (gv_t hg)) (S.cell 0 rfl rfl)) fun a f=>?_)
   obtain ⟨p112,h112,hM106⟩:=bind_ex hM106
   refine op_gcall (v:=.bool p112) rfl rfl f rfl S (yf (gw_yield f rfl rfl rfl)) (fun hg=>(run_call (vs:=[iv ((x2.getD p107.toNat (0,0)).2)]) rfl rfl co110 ⟨((f.ev rfl).trans (gv_t hg)),trivial⟩)) (fun hg=>c_impl_powerValid (x0:=(x2.getD p107.toNat (0,0)).2)  (gb_t h112 hg)) ?_;clear f S;intro a u f S
   revert a;refine gf rfl rfl rfl rfl (fun a f hg=>run_not rfl ((f.ev rfl).trans (gv_t hg))) (ov rfl (fun a f=>run_pick_or rfl (f.ev rfl) rfl (fun hp=>((f.ev rfl).trans (gv_t (not_t hp))))) fun a f=>wn ?_)
   cases hc113:((!p111)||(!p112))
   ·replace hM106:=bif_f hc113 hM106
    refine cond_f f rfl hc113 ?_
    refine wp_skip ?_
    revert a;refine rl (ov rfl (fun a f=>run_add (z:=w64 (p107+1)) (f.ev rfl) rfl rfl rfl) (mv rfl rfl fun a f=>wn ?_))
    exact ⟨f1,Nat.lt_succ_self _,w64 (p107+1),hM106,f.keep _ ⟨rfl,rfl,rfl,rfl,trivial⟩,S.sel [] rfl rfl⟩
   replace hM106:=bif_t hc113 hM106
   refine cond_t f rfl hc113 ?_
   revert a;refine sr (ov rfl (fun a f=>run_assign rfl rfl) fun a f=>wn ?_)
   refine wp_ret ?_
   repeat with_reducible first|apply tr|apply ir|apply nr
   refine ret1_gw (.inl rfl) f rfl (res_tmp (f.ev rfl)) ?_
   obtain rfl:=Option.some.inj hM106
   obtain rfl:=Option.some.inj hM
   exact ⟨rfl,S.sel [] rfl rfl⟩
  rintro a u ⟨p104,rfl,f,S⟩
  replace hM:=elim_l hM
  revert a;refine sr (ov rfl (fun a f=>run_assign rfl rfl) fun a f=>wn ?_)
  refine wp_ret ?_
  refine ret1_gw (.inl rfl) f rfl (res_tmp (f.ev rfl)) ?_
  obtain rfl:=Option.some.inj hM
  exact ⟨rfl,S.sel [] rfl rfl⟩
 replace hM:=bif_t hc103 hM
 refine cond_t f rfl hc103 ?_
 revert a;refine sr (ov rfl (fun a f=>run_assign rfl rfl) fun a f=>wn ?_)
 refine wp_ret ?_
 repeat with_reducible first|apply tr|apply ir|apply nr
 refine ret1_gw (.inl rfl) f rfl (res_tmp (f.ev rfl)) ?_
 obtain rfl:=Option.some.inj hM
 exact ⟨rfl,S.sel [] rfl rfl⟩
theorem c_slices_Index_impl_Permit_impl_Permit {x0:List (Int×Int)} {x1:Int} {x2:Int} {A0:Option Addr} {n0 c0:Nat} {w:World} {r:Int} (h0:Rt w 2 ePermit A0 n0 c0 x0) (hM : m_slices_Index_impl_Permit_impl_Permit x0 x1 x2=some r) :
  Calls Tryz.prog 133 #[.slice A0 n0 c0,.agg #[iv x1,iv x2]] w (fun e w'=>e=.returned (iv r)∧St w w' []):=by
 obtain rfl:=h0.len
 unfold m_slices_Index_impl_Permit_impl_Permit at hM
 refine calls_gx Tryz.func133 Tryz.ntmps133 rfl rfl ?_
 intro a f
 have S:=St.nil w
 refine wsg ?_
 refine op_new (cs:=#[iv x1,iv x2]) rfl rfl f rfl S (run_box rfl (f.ev rfl) rfl) ?_;clear f S;intro a g101 u f S
 revert a;refine ov rfl (fun a f=>run_assign rfl rfl) fun a f=>wn ?_
 refine ws ?_
 revert a;refine sr (mv rfl rfl (ov rfl (fun a f=>run_lenL rfl rfl Tryz.underlying39 (f.ev rfl)) (ov rfl (fun a f=>run_move rfl rfl) fun a f=>wn ?_)))
 obtain ⟨o103,hM104,hM⟩:=bind_ex hM
 refine wp_cut (fun a u=>∃ (p102:Unit),(Sum.inl p102)=o103∧Fr a 19 [(4,iv 0)]∧St w u []) ?_ ?_
 ·have _:=trivial
  refine wp_block ?_
  refine loop_gw (fun m a u=>∃ (p105:Int),m_slices_Index_impl_Permit_impl_Permit_l1 x0 x1 x2 m p105=some _∧Fr a 19 [(0,.slice A0 x0.length c0),(3,.pointer (some ⟨g101,0,none⟩)),(4,iv 0),(7,iv (x0.length:Int)),(8,iv p105)]∧St w u [.box g101 78 #[iv x1,iv x2]]) FUEL ⟨0,hM104,f.keep _ ⟨rfl,rfl,rfl,rfl,rfl,trivial⟩,S.sel [0] rfl rfl⟩ ?_
  clear f S hM104;rintro m a u ⟨p105,hM104,f,S⟩
  rcases m with _ | f1
  ·exact none_some hM104
  rw [m_slices_Index_impl_Permit_impl_Permit_l1.eq_2] at hM104
  revert a;refine sr (ov rfl (fun a f=>run_lss (f.ev rfl) (f.ev rfl) rfl) fun a f=>wn ?_)
  refine ws ?_
  cases hc106:(ltB p105 (x0.length:Int))
  ·replace hM104:=bif_f hc106 hM104
   refine cond_f f rfl hc106 ?_
   refine wp_exit ?_
   repeat with_reducible first|apply then_exit|apply in_hit|refine in_miss rfl ?_
   obtain rfl:=Option.some.inj hM104
   exact ⟨(),rfl,f.keep _ ⟨rfl,trivial⟩,S.sel [] rfl rfl⟩
  replace hM104:=bif_t hc106 hM104
  refine cond_t f rfl hc106 ?_
  refine wp_skip ?_
  refine ws ?_
  refine wp_block ?_
  revert a;refine sr (mv rfl rfl (ag rfl rfl fun a f=>wn ?_))
  refine ws ?_
  obtain ⟨hk107,hM104⟩:=chk_ex hM104
  replace hk107:=ixB_t hk107
  refine region_gw (D:=[11,12,13,14,15,16]) (Lr:=[.box g101 78 #[iv x1,iv x2]]) (deps:=(fun | 0=>[11] | 1=>[12] | 2=>[13] | 3=>[14] | 4=>[15] | 5=>[16] | _=>[])) (rd:=(fun _=>[])) (zr:=(fun _=>[]))
   (φ:=fun i vs=>match i,vs with | 0,[v11]=>v11=.agg #[iv x1,iv x2] | 1,[v12]=>v12=.slice A0 x0.length c0 | 2,[v13]=>v13=iv p105 | 3,[v14]=>v14=.pointer (some ⟨adB A0,adO A0+p105.toNat*2,none⟩) | 4,[v15]=>v15=.agg #[iv ((x0.getD p105.toNat (0,0)).1),iv ((x0.getD p105.toNat (0,0)).2)] | 5,[v16]=>v16=.bool ((x1==((x0.getD p105.toNat (0,0)).1))&&(x2==((x0.getD p105.toNat (0,0)).2))) | _,_=>True)
   (C:=fun _ _=>[])
   (κ:=(fun _=>none)) (Z:=(fun _=>[])) mixed f (by kernel_rfl) S ?_ ?_
  ·refine ⟨?_,?_,?_,?_,?_,?_,trivial⟩
   ·intro a u X hB hu p hr hz hl S
    exact .inl ⟨rfl,_,u,(run_loadN rfl ag78 (f.evB hB rfl rfl) rfl ((gr_box S hl 0 rfl).cells 0 #[iv x1,iv x2] rfl)),rfl,S⟩
   ·intro a u X hB hu p hr hz hl S
    exact .inl ⟨rfl,_,u,(run_move rfl (f.evB hB rfl rfl)),rfl,S⟩
   ·intro a u X hB hu p hr hz hl S
    exact .inl ⟨rfl,_,u,(run_move rfl (f.evB hB rfl rfl)),rfl,S⟩
   ·intro a u X hB hu p hr hz hl S
    exact .inl ⟨rfl,_,u,(run_ix rfl Tryz.underlying39 sz78 (ev_sl (p 1 rfl)) (S.rc0 h0.rc) (ev_sl (p 2 rfl)) hk107),rfl,S⟩
   ·intro a u X hB hu p hr hz hl S
    exact .inl ⟨rfl,_,u,(run_loadN (cs:=#[iv ((x0.getD p105.toNat (0,0)).1),iv ((x0.getD p105.toNat (0,0)).2)]) rfl ag78 (ev_sl (p 3 rfl)) rfl (rd_elN (l:=x0) (S.rc0 h0.rc).rd rfl ePermit_len (0,0) (ix_ltn hk107 rfl) rfl)),rfl,S⟩
   intro a u X hB hu p hr hz hl S
   exact .inl ⟨rfl,_,u,(run_eqlA (ev_sl (p 0 rfl)) (ev_sl (p 4 rfl)) rfl eg78 eq78),rfl,S⟩
  intro a u hB hp S
  obtain ⟨q0,q1,q2,q3,q4,q5,-⟩:=hp
  replace S:St w u [.box g101 78 #[iv x1,iv x2]]:=S
  have f:=f.region hB [(11,_),(12,_),(13,_),(14,_),(15,_),(16,_)] (allSl_mem ⟨q0,q1,q2,q3,q4,q5,trivial⟩) rfl
  clear hB q0 q1 q2 q3 q4 q5
  cases hc108:((x1==((x0.getD p105.toNat (0,0)).1))&&(x2==((x0.getD p105.toNat (0,0)).2)))
  ·replace hM104:=bif_f hc108 hM104
   refine cond_f f rfl hc108 ?_
   refine wp_skip ?_
   revert a;refine rl (ov rfl (fun a f=>run_add (z:=w64 (p105+1)) (f.ev rfl) rfl rfl rfl) (mv rfl rfl fun a f=>wn ?_))
   exact ⟨f1,Nat.lt_succ_self _,w64 (p105+1),hM104,f.keep _ ⟨rfl,rfl,rfl,rfl,rfl,trivial⟩,S.sel [0] rfl rfl⟩
  replace hM104:=bif_t hc108 hM104
  refine cond_t f rfl hc108 ?_
  revert a;refine sr (mv rfl rfl (ag rfl rfl fun a f=>wn ?_))
  refine wp_ret ?_
  repeat with_reducible first|apply tr|apply ir|apply nr
  refine ret1_gw (.inl rfl) f rfl (res_tmp (f.ev rfl)) ?_
  obtain rfl:=Option.some.inj hM104
  obtain rfl:=Option.some.inj hM
  exact ⟨rfl,S.sel [] rfl rfl⟩
 rintro a u ⟨p102,rfl,f,S⟩
 replace hM:=elim_l hM
 revert a;refine sr (ov rfl (fun a f=>run_assign rfl rfl) fun a f=>wn ?_)
 refine wp_ret ?_
 refine ret1_gw (.inl rfl) f rfl (res_tmp (f.ev rfl)) ?_
 obtain rfl:=Option.some.inj hM
 exact ⟨rfl,S.sel [] rfl rfl⟩
theorem c_slices_Contains_impl_Permit_impl_Permit {x0:List (Int×Int)} {x1:Int} {x2:Int} {A0:Option Addr} {n0 c0:Nat} {w:World} {r:Bool} (h0:Rt w 2 ePermit A0 n0 c0 x0) (hM : m_slices_Contains_impl_Permit_impl_Permit x0 x1 x2=some r) :
  Calls Tryz.prog 100 #[.slice A0 n0 c0,.agg #[iv x1,iv x2]] w (fun e w'=>e=.returned (.bool r)∧St w w' []):=by
 obtain rfl:=h0.len
 unfold m_slices_Contains_impl_Permit_impl_Permit at hM
 refine calls_gx Tryz.func100 Tryz.ntmps100 rfl rfl ?_
 intro a f
 have S:=St.nil w
 refine wsg ?_
 refine op_new (cs:=#[iv x1,iv x2]) rfl rfl f rfl S (run_box rfl (f.ev rfl) rfl) ?_;clear f S;intro a g101 u f S
 revert a;refine ov rfl (fun a f=>run_assign rfl rfl) fun a f=>wn ?_
 revert a;refine sr (mv rfl rfl (ov rfl (fun a f=>run_loadN rfl ag78 (f.ev rfl) rfl ((S.free 0 rfl).cells 0 #[iv x1,iv x2] rfl)) fun a f=>?_))
 obtain ⟨p102,h102,hM⟩:=bind_ex hM
 refine op_call rfl rfl f rfl (run_call (vs:=[_,_]) rfl rfl co133 ⟨(f.ev rfl),(f.ev rfl),trivial⟩) (c_slices_Index_impl_Permit_impl_Permit ⟨(S.rc0 h0.rc),rfl⟩ h102) ?_
 rintro e u ⟨rfl,T⟩
 refine ⟨_,rfl,?_⟩
 clear f;intro a f
 replace S:=S.call0 T;clear T
 revert a;refine ov rfl (fun a f=>run_geq (f.ev rfl) rfl rfl) (ag rfl rfl fun a f=>wn ?_)
 refine wp_ret ?_
 refine ret1_gw (.inl rfl) f rfl (res_tmp (f.ev rfl)) ?_
 obtain rfl:=Option.some.inj hM
 exact ⟨rfl,S.sel [] rfl rfl⟩
end Go.Proofs.YtcmnjaccapbhfaaGreat
