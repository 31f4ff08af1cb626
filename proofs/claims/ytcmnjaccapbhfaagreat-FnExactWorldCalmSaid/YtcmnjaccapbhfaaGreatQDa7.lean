/- Calls return what the models say. -/
import Derived.Test.YtcmnjaccapbhfaaGreatQSq
import Derived.Test.YtcmnjaccapbhfaaGreatQDa6
namespace Go.Proofs.YtcmnjaccapbhfaaGreat
open Go.ChangeShapes Go.WideShapes Go.ChangeAt Go.RowKit
set_option linter.unusedVariables false
set_option maxHeartbeats 4000000
set_option linter.unusedSimpArgs false
theorem c_impl_BestState {x0:Int} {x1:List (Int×Int×Int)} {x2:List Bool} {x3:List (Int×Int)} {x4:List Int} {A1:Option Addr} {n1 c1:Nat} {A2:Option Addr} {n2 c2:Nat} {A3:Option Addr} {n3 c3:Nat} {A4:Option Addr} {n4 c4:Nat} {w:World} {r:List Bool×Bool} (h1:Rt w 3 eLine A1 n1 c1 x1) (h2:Rt w 1 eB A2 n2 c2 x2) (h3:Rt w 2 eBus A3 n3 c3 x3) (h4:Rt w 1 eI A4 n4 c4 x4) (hM : m_impl_BestState x0 x1 x2 x3 x4=some r) :
  Calls Tryz.prog 83 #[.agg #[iv x0,.slice A1 n1 c1],.slice A2 n2 c2,.slice A3 n3 c3,.slice A4 n4 c4] w (fun e w'=>∃ (B0:Option Addr) (N0 D0:Nat),e=.returned (.tuple #[.slice B0 N0 D0,.bool r.2])∧N0=r.1.length∧St w w' [.row 4 1 (.slice B0 N0 D0) N0 (r.1.flatMap eB)]):=by
 obtain rfl:=h1.len
 obtain rfl:=h2.len
 obtain rfl:=h3.len
 obtain rfl:=h4.len
 unfold m_impl_BestState at hM
 refine calls_gx Tryz.func83 Tryz.ntmps83 rfl rfl ?_
 intro a f
 have S:=St.nil w
 refine wsg ?_
 refine op_new (cs:=#[iv x0,.slice A1 x1.length c1]) rfl rfl f rfl S (run_box rfl (f.ev rfl) rfl) ?_;clear f S;intro a g101 u f S
 revert a;refine ov rfl (fun a f=>run_assign rfl rfl) (ov rfl (fun a f=>run_assign rfl rfl) fun a f=>wn ?_)
 refine ws ?_
 revert a;refine sr (ov rfl (fun a f=>run_loadN rfl ag37 (f.ev rfl) rfl ((S.free 0 rfl).cells 0 #[iv x0,.slice A1 x1.length c1] rfl)) (mv rfl rfl (mv rfl rfl fun a f=>?_)))
 obtain ⟨p102,h102,hM⟩:=bind_ex hM
 refine op_call rfl rfl f rfl (run_call (vs:=[_,_,_]) rfl rfl co119 ⟨(f.ev rfl),(f.ev rfl),(f.ev rfl),trivial⟩) (c_impl_fedValid ⟨(S.rc0 h1.rc),rfl⟩ ⟨(S.rc0 h2.rc),rfl⟩ ⟨(S.rc0 h3.rc),rfl⟩ h102) ?_
 rintro e u ⟨rfl,T⟩
 refine ⟨_,rfl,?_⟩
 clear f;intro a f
 replace S:=S.call0 T;clear T
 revert a;refine ov rfl (fun a f=>run_not rfl (f.ev rfl)) fun a f=>wn ?_
 cases hc103:(p102)
 ·replace hM:=bif_f hc103 hM
  refine cond_t f rfl (not_t hc103) ?_
  revert a;refine sr (ov rfl (fun a f=>run_assign rfl rfl) (ov rfl (fun a f=>run_assign rfl rfl) fun a f=>wn ?_))
  refine wp_ret ?_
  repeat with_reducible first|apply tr|apply ir|apply nr
  refine ret2_gw (.inl rfl) f rfl (res_tmp (f.ev rfl)) (res_tmp (f.ev rfl)) ?_
  obtain rfl:=Option.some.inj hM
  replace S:=S.nilrow 4 1
  exact ⟨none,0,0,rfl,rfl,S.sel [0] rfl rfl⟩
 replace hM:=bif_t hc103 hM
 refine cond_f f rfl (not_f hc103) ?_
 refine wp_skip ?_
 revert a;refine sr (ov rfl (fun a f=>run_assign rfl rfl) fun a f=>wn ?_)
 refine ws ?_
 revert a;refine sr (mv rfl rfl (ov rfl (fun a f=>run_lenL rfl rfl Tryz.underlying30 (f.ev rfl)) (ov rfl (fun a f=>run_move rfl rfl) fun a f=>wn ?_)))
 obtain ⟨o105,hM106,hM⟩:=bind_ex hM
 refine wp_cut (fun a u=>∃ (p104:Int),p104=o105∧Fr a 87 [(1,.slice A2 x2.length c2),(2,.slice A3 x3.length c3),(4,.pointer (some ⟨g101,0,none⟩)),(8,.slice none 0 0),(9,.bool false),(10,iv p104)]∧St w u [.box g101 37 #[iv x0,.slice A1 x1.length c1]]) ?_ ?_
 ·have _:=trivial
  refine wp_block ?_
  refine loop_gw (fun m a u=>∃ (p107:Int×Int),m_impl_BestState_l1 x0 x1 x4 m p107=some _∧Fr a 87 [(1,.slice A2 x2.length c2),(2,.slice A3 x3.length c3),(4,.pointer (some ⟨g101,0,none⟩)),(8,.slice none 0 0),(9,.bool false),(10,iv p107.1),(25,.slice A4 x4.length c4),(26,iv (x4.length:Int)),(27,iv p107.2)]∧St w u [.box g101 37 #[iv x0,.slice A1 x1.length c1]]) FUEL ⟨(0,0),hM106,f.keep _ ⟨rfl,rfl,rfl,rfl,rfl,rfl,rfl,rfl,rfl,trivial⟩,S.sel [0] rfl rfl⟩ ?_
  clear f S hM106;rintro m a u ⟨p107,hM106,f,S⟩
  rcases m with _ | f1
  ·exact none_some hM106
  rw [m_impl_BestState_l1.eq_2] at hM106
  revert a;refine sr (ov rfl (fun a f=>run_lss (f.ev rfl) (f.ev rfl) rfl) fun a f=>wn ?_)
  refine ws ?_
  cases hc108:(ltB p107.2 (x4.length:Int))
  ·replace hM106:=bif_f hc108 hM106
   refine cond_f f rfl hc108 ?_
   refine wp_exit ?_
   repeat with_reducible first|apply then_exit|apply in_hit|refine in_miss rfl ?_
   obtain rfl:=Option.some.inj hM106
   exact ⟨p107.1,rfl,f.keep _ ⟨rfl,rfl,rfl,rfl,rfl,rfl,trivial⟩,S.sel [0] rfl rfl⟩
  replace hM106:=bif_t hc108 hM106
  refine cond_t f rfl hc108 ?_
  refine wp_skip ?_
  refine ws ?_
  refine wp_block ?_
  refine wsg ?_
  obtain ⟨hk109,hM106⟩:=chk_ex hM106
  replace hk109:=ixB_t hk109
  revert a;refine ov rfl (fun a f=>run_ix rfl Tryz.underlying30 sz3 (f.ev rfl) (S.rc0 h4.rc) (f.ev rfl) hk109) (ov rfl (fun a f=>run_load1 rfl one3 (f.ev rfl) (rd_el0 (l:=x4) (S.rc0 h4.rc).rd rfl eI_len 0 (ix_ltn hk109 rfl) rfl)) (ag rfl rfl fun a f=>wn ?_))
  revert a;refine sr (ov rfl (fun a f=>run_loadN rfl ag37 (f.ev rfl) rfl ((S.free 0 rfl).cells 0 #[iv x0,.slice A1 x1.length c1] rfl)) (mv rfl rfl fun a f=>?_))
  obtain ⟨p110,h110,hM106⟩:=bind_ex hM106
  refine op_call rfl rfl f rfl (run_call (vs:=[_,_]) rfl rfl co59 ⟨(f.ev rfl),(f.ev rfl),trivial⟩) (c_impl_Net_hasLine ⟨(S.rc0 h1.rc),rfl⟩ h110) ?_
  rintro e u ⟨rfl,T⟩
  refine ⟨_,rfl,?_⟩
  clear f;intro a f
  replace S:=S.call0 T;clear T
  refine wn ?_
  obtain ⟨o112,hM113,hM106⟩:=bind_ex hM106
  refine wp_cut (fun a u=>∃ (p111:Int),p111=o112∧Fr a 87 [(1,.slice A2 x2.length c2),(2,.slice A3 x3.length c3),(4,.pointer (some ⟨g101,0,none⟩)),(8,.slice none 0 0),(9,.bool false),(10,iv p111),(25,.slice A4 x4.length c4),(26,iv (x4.length:Int)),(27,iv p107.2)]∧St w u [.box g101 37 #[iv x0,.slice A1 x1.length c1]]) ?_ ?_
  ·have _:=trivial
   cases hc114:(p110)
   ·replace hM113:=bif_f hc114 hM113
    refine cond_f f rfl hc114 ?_
    refine wp_skip ?_
    obtain rfl:=Option.some.inj hM113
    exact ⟨p107.1,rfl,f.keep _ ⟨rfl,rfl,rfl,rfl,rfl,rfl,rfl,rfl,rfl,trivial⟩,S.sel [0] rfl rfl⟩
   replace hM113:=bif_t hc114 hM113
   refine cond_t f rfl hc114 ?_
   revert a;refine rl (mv rfl rfl (mv rfl rfl fun a f=>?_))
   obtain ⟨hk115,hM113⟩:=chk_ex hM113
   replace hk115:=nnB_t hk115
   revert a;refine ov rfl (fun a f=>run_shl rfl (f.ev rfl) rfl hk115) (ov rfl (fun a f=>run_bor (f.ev rfl) (f.ev rfl) rfl) (ag rfl rfl fun a f=>wn ?_))
   obtain rfl:=Option.some.inj hM113
   exact ⟨bitsOr .i64 p107.1 (bitsShl .i64 1 (x4.getD p107.2.toNat 0)),rfl,f.keep _ ⟨rfl,rfl,rfl,rfl,rfl,rfl,rfl,rfl,rfl,trivial⟩,S.sel [0] rfl rfl⟩
  rintro a u ⟨p111,rfl,f,S⟩
  revert a;refine rl (ov rfl (fun a f=>run_add (z:=w64 (p107.2+1)) (f.ev rfl) rfl rfl rfl) (mv rfl rfl fun a f=>wn ?_))
  exact ⟨f1,Nat.lt_succ_self _,(p111,w64 (p107.2+1)),hM106,f.keep _ ⟨rfl,rfl,rfl,rfl,rfl,rfl,rfl,rfl,rfl,trivial⟩,S.sel [0] rfl rfl⟩
 rintro a u ⟨p104,rfl,f,S⟩
 revert a;refine sr (ov rfl (fun a f=>run_assign rfl rfl) fun a f=>wn ?_)
 revert a;refine sr (ov rfl (fun a f=>run_assign rfl rfl) (ov rfl (fun a f=>run_assign rfl rfl) fun a f=>wn ?_))
 refine ws ?_
 revert a;refine sr (ov rfl (fun a f=>run_fieldAddr rfl fl37_1 (f.ev rfl) rfl) (ov rfl (fun a f=>run_load1 rfl one35 (f.ev rfl) (S.cell 0 rfl rfl)) (ov rfl (fun a f=>run_lenL rfl rfl Tryz.underlying35 (f.ev rfl)) fun a f=>?_)))
 obtain ⟨hk116,hM⟩:=chk_ex hM
 replace hk116:=nnB_t hk116
 revert a;refine ov rfl (fun a f=>run_shl rfl (f.ev rfl) rfl hk116) (ov rfl (fun a f=>run_move rfl rfl) fun a f=>wn ?_)
 obtain ⟨o118,hM122,hM⟩:=bind_ex hM
 refine wp_cut (fun a u=>∃ (p117:List Bool) (B119:Option Addr) (d120:Nat),p117=o118∧(p117=[]→B119=none)∧Fr a 87 [(8,.slice none 0 0),(9,.bool false),(13,.slice B119 p117.length d120)]∧St w u [.row 4 1 (.slice B119 p117.length d120) p117.length (p117.flatMap eB)]) ?_ ?_
 ·have _:=trivial
  refine wp_block ?_
  replace S:=S.nilrow 4 1
  refine loop_gw (fun m a u=>∃ (p123:List Bool×Int×Int×Int) (B124:Option Addr) (d125:Nat),m_impl_BestState_l2 x0 x1 x2 x3 p104 m p123=some _∧(p123.1=[]→B124=none)∧Fr a 87 [(1,.slice A2 x2.length c2),(2,.slice A3 x3.length c3),(4,.pointer (some ⟨g101,0,none⟩)),(8,.slice none 0 0),(9,.bool false),(10,iv p104),(13,.slice B124 p123.1.length d125),(14,iv p123.2.1),(15,iv p123.2.2.1),(42,iv (bitsShl .i64 1 (x1.length:Int))),(43,iv p123.2.2.2)]∧St w u [.box g101 37 #[iv x0,.slice A1 x1.length c1],.row 4 1 (.slice B124 p123.1.length d125) p123.1.length (p123.1.flatMap eB)]) FUEL ⟨(([]:List Bool),-1,0,0),none,0,hM122,(fun _=>rfl),f.keep _ ⟨rfl,rfl,rfl,rfl,rfl,rfl,rfl,rfl,rfl,rfl,rfl,trivial⟩,S.sel [1,0] rfl rfl⟩ ?_
  clear f S hM122;rintro m a u ⟨p123,B124,d125,hM122,hz126,f,S⟩
  rcases m with _ | f2
  ·exact none_some hM122
  rw [m_impl_BestState_l2.eq_2] at hM122
  revert a;refine sr (ov rfl (fun a f=>run_lss (f.ev rfl) (f.ev rfl) rfl) fun a f=>wn ?_)
  refine ws ?_
  cases hc127:(ltB p123.2.2.2 (bitsShl .i64 1 (x1.length:Int)))
  ·replace hM122:=bif_f hc127 hM122
   refine cond_f f rfl hc127 ?_
   refine wp_exit ?_
   repeat with_reducible first|apply then_exit|apply in_hit|refine in_miss rfl ?_
   obtain rfl:=Option.some.inj hM122
   exact ⟨p123.1,B124,d125,rfl,hz126,f.keep _ ⟨rfl,rfl,rfl,trivial⟩,S.sel [1] rfl rfl⟩
  replace hM122:=bif_t hc127 hM122
  refine cond_t f rfl hc127 ?_
  refine wp_skip ?_
  refine ws ?_
  obtain ⟨o129,hM133,hM122⟩:=bind_ex hM122
  refine wp_cut (fun a u=>∃ (p128:List Bool×Int×Int) (B130:Option Addr) (d131:Nat),p128=o129∧(p128.1=[]→B130=none)∧Fr a 87 [(1,.slice A2 x2.length c2),(2,.slice A3 x3.length c3),(4,.pointer (some ⟨g101,0,none⟩)),(8,.slice none 0 0),(9,.bool false),(10,iv p104),(13,.slice B130 p128.1.length d131),(14,iv p128.2.1),(15,iv p128.2.2),(42,iv (bitsShl .i64 1 (x1.length:Int))),(43,iv p123.2.2.2)]∧St w u [.box g101 37 #[iv x0,.slice A1 x1.length c1],.row 4 1 (.slice B130 p128.1.length d131) p128.1.length (p128.1.flatMap eB)]) ?_ ?_
  ·have _:=trivial
   refine wp_block ?_
   revert a;refine sr (mv rfl rfl (ag rfl rfl fun a f=>wn ?_))
   refine ws ?_
   revert a;refine sr (mv rfl rfl (mv rfl rfl (ov rfl (fun a f=>run_band (f.ev rfl) (f.ev rfl) rfl) (ov rfl (fun a f=>run_neq (f.ev rfl) rfl rfl) fun a f=>wn ?_))))
   cases hc134:((bitsAnd .i64 p123.2.2.2 p104) != 0)
   ·replace hM133:=bif_f hc134 hM133
    refine cond_f f rfl hc134 ?_
    refine wp_skip ?_
    revert a;refine sr (mv rfl rfl (ov rfl (fun a f=>run_fieldAddr rfl fl37_1 (f.ev rfl) rfl) (ov rfl (fun a f=>run_load1 rfl one35 (f.ev rfl) (S.cell 0 rfl rfl)) (ov rfl (fun a f=>run_lenL rfl rfl Tryz.underlying35 (f.ev rfl)) fun a f=>?_))))
    obtain ⟨p135,h135,hM133⟩:=bind_ex hM133
    refine op_call rfl rfl f rfl (run_call (vs:=[_,_]) rfl rfl co120 ⟨(f.ev rfl),(f.ev rfl),trivial⟩) (c_impl_stateOf  h135) ?_
    rintro e u ⟨B136,n137,d138,rfl,rfl,T⟩
    refine ⟨_,rfl,?_⟩
    clear f;intro a f
    replace S:=S.call1 T;clear T
    revert a;refine ag rfl rfl fun a f=>wn ?_
    revert a;refine sr (ov rfl (fun a f=>run_loadN rfl ag37 (f.ev rfl) rfl ((S.free 1 rfl).cells 0 #[iv x0,.slice A1 x1.length c1] rfl)) (mv rfl rfl (mv rfl rfl fun a f=>?_)))
    obtain ⟨p139,h139,hM133⟩:=bind_ex hM133
    refine op_call rfl rfl f rfl (run_call (vs:=[_,_,_]) rfl rfl co121 ⟨(f.ev rfl),(f.ev rfl),(f.ev rfl),trivial⟩) (c_impl_servedLoad ⟨(S.rc0 h1.rc),rfl⟩ ⟨(S.rc 0 rfl),rfl⟩ ⟨(S.rc0 h3.rc),rfl⟩ h139) ?_
    rintro e u ⟨rfl,T⟩
    refine ⟨_,rfl,?_⟩
    clear f;intro a f
    replace S:=S.call0 T;clear T
    revert a;refine ag rfl rfl fun a f=>wn ?_
    refine ws ?_
    revert a;refine sr (mv rfl rfl (mv rfl rfl (ov rfl (fun a f=>run_lss (f.ev rfl) (f.ev rfl) rfl) fun a f=>wn ?_)))
    cases hc140:(ltB p139 p123.2.1)
    ·replace hM133:=bif_f hc140 hM133
     refine cond_f f rfl hc140 ?_
     refine wp_skip ?_
     revert a;refine sr (mv rfl rfl (mv rfl rfl fun a f=>?_))
     obtain ⟨p141,h141,hM133⟩:=bind_ex hM133
     refine op_call rfl rfl f rfl (run_call (vs:=[_,_]) rfl rfl co122 ⟨(f.ev rfl),(f.ev rfl),trivial⟩) (c_impl_Changes ⟨(S.rc0 h2.rc),rfl⟩ ⟨(S.rc 0 rfl),rfl⟩ h141) ?_
     rintro e u ⟨B142,n143,d144,rfl,rfl,T⟩
     refine ⟨_,rfl,?_⟩
     clear f;intro a f
     replace S:=S.call1 T;clear T
     revert a;refine ov rfl (fun a f=>run_lenL rfl rfl Tryz.underlying30 (f.ev rfl)) (ag rfl rfl fun a f=>wn ?_)
     revert a;refine sr (mv rfl rfl (mv rfl rfl (ov rfl (fun a f=>run_gtr (f.ev rfl) (f.ev rfl) rfl) (mv rfl rfl fun a f=>?_))))
     revert a;refine gf rfl rfl rfl rfl (fun a f hg=>run_move rfl (f.ev rfl)) (gf rfl rfl rfl rfl (fun a f hg=>run_move rfl (f.ev rfl)) (gf rfl rfl rfl rfl (fun a f hg=>run_lss ((f.ev rfl).trans (gv_t hg)) ((f.ev rfl).trans (gv_t hg)) rfl) fun a f=>?_))
     revert a;refine ov rfl (fun a f=>run_pick_or rfl (f.ev rfl) rfl (fun hp=>((f.ev rfl).trans (gv_t (not_t hp))))) (mv rfl rfl fun a f=>?_)
     revert a;refine gt rfl rfl rfl rfl (fun a f hg=>run_loadN rfl ag37 (f.ev rfl) rfl ((S.free 2 rfl).cells 0 #[iv x0,.slice A1 x1.length c1] rfl)) (gt rfl rfl rfl rfl (fun a f hg=>run_move rfl (f.ev rfl)) (gt rfl rfl rfl rfl (fun a f hg=>run_move rfl (f.ev rfl)) fun a f=>?_))
     obtain ⟨p145,h145,hM133⟩:=bind_ex hM133
     refine op_gcall (v:=.bool p145) rfl rfl f rfl S (yt (gw_yield f rfl rfl rfl)) (fun hg=>(run_call (vs:=[.agg #[iv x0,.slice A1 x1.length c1],.slice B136 p135.length d138,.slice A3 x3.length c3]) rfl rfl co123 ⟨((f.ev rfl).trans (gv_t hg)),((f.ev rfl).trans (gv_t hg)),((f.ev rfl).trans (gv_t hg)),trivial⟩)) (fun hg=>c_impl_NetGood (x0:=x0) (x1:=x1) (x2:=p135) (x3:=x3) ⟨(S.rc0 h1.rc),rfl⟩ ⟨(S.rc 1 rfl),rfl⟩ ⟨(S.rc0 h3.rc),rfl⟩ (gb_t h145 hg)) ?_;clear f S;intro a u f S
     revert a;refine ov rfl (fun a f=>run_pick_and rfl (f.ev rfl) (fun hp=>((f.ev rfl).trans (gv_t hp))) rfl) fun a f=>wn ?_
     obtain ⟨o147,hM151,hM133⟩:=bind_ex hM133
     refine wp_cut (fun a u=>∃ (p146:List Bool×Int×Int) (B148:Option Addr) (d149:Nat),p146=o147∧(p146.1=[]→B148=none)∧Fr a 87 [(1,.slice A2 x2.length c2),(2,.slice A3 x3.length c3),(4,.pointer (some ⟨g101,0,none⟩)),(8,.slice none 0 0),(9,.bool false),(10,iv p104),(13,.slice B148 p146.1.length d149),(14,iv p146.2.1),(15,iv p146.2.2),(42,iv (bitsShl .i64 1 (x1.length:Int))),(43,iv p123.2.2.2)]∧St w u [.box g101 37 #[iv x0,.slice A1 x1.length c1],.row 4 1 (.slice B148 p146.1.length d149) p146.1.length (p146.1.flatMap eB)]) ?_ ?_
     ·have _:=trivial
      cases hc152:(((ltB p123.2.1 p139)||(ltB (p141.length:Int) p123.2.2.1))&&p145)
      ·replace hM151:=bif_f hc152 hM151
       refine cond_f f rfl hc152 ?_
       refine wp_skip ?_
       obtain rfl:=Option.some.inj hM151
       exact ⟨(p123.1,p123.2.1,p123.2.2.1),B124,d125,rfl,hz126,f.keep _ ⟨rfl,rfl,rfl,rfl,rfl,rfl,rfl,rfl,rfl,rfl,rfl,trivial⟩,S.sel [2,3] rfl rfl⟩
      replace hM151:=bif_t hc152 hM151
      refine cond_t f rfl hc152 ?_
      revert a;refine rl (mv rfl rfl (mv rfl rfl (mv rfl rfl (ag rfl rfl (ag rfl rfl (ag rfl rfl fun a f=>wn ?_))))))
      obtain ⟨hk153,hM151⟩:=chk_ex hM151
      obtain rfl:=Option.some.inj hM151
      exact ⟨(p135,p139,(p141.length:Int)),B136,d138,rfl,(ne_emp hk153),f.keep _ ⟨rfl,rfl,rfl,rfl,rfl,rfl,rfl,rfl,rfl,rfl,rfl,trivial⟩,S.sel [2,1] rfl rfl⟩
     rintro a u ⟨p146,B148,d149,rfl,hz150,f,S⟩
     obtain rfl:=Option.some.inj hM133
     exact ⟨(p146.1,p146.2.1,p146.2.2),B148,d149,rfl,hz150,f.keep _ ⟨rfl,rfl,rfl,rfl,rfl,rfl,rfl,rfl,rfl,rfl,rfl,trivial⟩,S.sel [0,1] rfl rfl⟩
    replace hM133:=bif_t hc140 hM133
    refine cond_t f rfl hc140 ?_
    refine wp_exit ?_
    repeat with_reducible first|apply then_exit|apply in_hit|refine in_miss rfl ?_
    obtain rfl:=Option.some.inj hM133
    exact ⟨(p123.1,p123.2.1,p123.2.2.1),B124,d125,rfl,hz126,f.keep _ ⟨rfl,rfl,rfl,rfl,rfl,rfl,rfl,rfl,rfl,rfl,rfl,trivial⟩,S.sel [1,2] rfl rfl⟩
   replace hM133:=bif_t hc134 hM133
   refine cond_t f rfl hc134 ?_
   refine wp_exit ?_
   repeat with_reducible first|apply then_exit|apply in_hit|refine in_miss rfl ?_
   obtain rfl:=Option.some.inj hM133
   exact ⟨(p123.1,p123.2.1,p123.2.2.1),B124,d125,rfl,hz126,f.keep _ ⟨rfl,rfl,rfl,rfl,rfl,rfl,rfl,rfl,rfl,rfl,rfl,trivial⟩,S.sel [0,1] rfl rfl⟩
  rintro a u ⟨p128,B130,d131,rfl,hz132,f,S⟩
  revert a;refine rl (ov rfl (fun a f=>run_add (z:=w64 (p123.2.2.2+1)) (f.ev rfl) rfl rfl rfl) (mv rfl rfl fun a f=>wn ?_))
  exact ⟨f2,Nat.lt_succ_self _,(p128.1,p128.2.1,p128.2.2,w64 (p123.2.2.2+1)),B130,d131,hM122,hz132,f.keep _ ⟨rfl,rfl,rfl,rfl,rfl,rfl,rfl,rfl,rfl,rfl,rfl,trivial⟩,S.sel [0,1] rfl rfl⟩
 rintro a u ⟨p117,B119,d120,rfl,hz121,f,S⟩
 revert a;refine sr (mv rfl rfl (mv rfl rfl (ov rfl (fun a f=>run_neqNilE rfl Tryz.underlying26 (f.ev rfl) rfl (nil_emp (S.rc 0 rfl) rfl hz121)) (ag rfl rfl (ag rfl rfl fun a f=>wn ?_)))))
 refine wp_ret ?_
 refine ret2_gw (.inl rfl) f rfl (res_tmp (f.ev rfl)) (res_tmp (f.ev rfl)) ?_
 obtain rfl:=Option.some.inj hM
 exact ⟨B119,p117.length,d120,rfl,rfl,S.sel [0] rfl rfl⟩
theorem c_impl_OrderTo {x0:List Bool} {x1:List Bool} {A0:Option Addr} {n0 c0:Nat} {A1:Option Addr} {n1 c1:Nat} {w:World} {r:List (Int×Bool)} (h0:Rt w 1 eB A0 n0 c0 x0) (h1:Rt w 1 eB A1 n1 c1 x1) (hM : m_impl_OrderTo x0 x1=some r) :
  Calls Tryz.prog 84 #[.slice A0 n0 c0,.slice A1 n1 c1] w (fun e w'=>∃ (B0:Option Addr) (N0 D0:Nat),e=.returned (.slice B0 N0 D0)∧N0=r.length∧St w w' [.row 84 2 (.slice B0 N0 D0) N0 (r.flatMap eStep)]):=by
 obtain rfl:=h0.len
 obtain rfl:=h1.len
 unfold m_impl_OrderTo at hM
 refine calls_gx Tryz.func84 Tryz.ntmps84 rfl rfl ?_
 intro a f
 have S:=St.nil w
 revert a;refine sr (ov rfl (fun a f=>run_assign rfl rfl) fun a f=>wn ?_)
 refine ws ?_
 revert a;refine sr (mv rfl rfl (ov rfl (fun a f=>run_lenL rfl rfl Tryz.underlying26 (f.ev rfl)) (mv rfl rfl (ov rfl (fun a f=>run_lenL rfl rfl Tryz.underlying26 (f.ev rfl)) (ov rfl (fun a f=>run_neq (f.ev rfl) (f.ev rfl) rfl) (mv rfl rfl fun a f=>?_))))))
 revert a;refine gf rfl rfl rfl rfl (fun a f hg=>run_move rfl (f.ev rfl)) (gf rfl rfl rfl rfl (fun a f hg=>run_lenL rfl rfl Tryz.underlying26 ((f.ev rfl).trans (gv_t hg))) (gf rfl rfl rfl rfl (fun a f hg=>run_gtr ((f.ev rfl).trans (gv_t hg)) rfl rfl) (ov rfl (fun a f=>run_pick_or rfl (f.ev rfl) rfl (fun hp=>((f.ev rfl).trans (gv_t (not_t hp))))) fun a f=>wn ?_)))
 cases hc101:(((x0.length:Int) != (x1.length:Int))||(ltB 10 (x0.length:Int)))
 ·replace hM:=bif_f hc101 hM
  refine cond_f f rfl hc101 ?_
  refine wp_skip ?_
  revert a;refine sr (ov rfl (fun a f=>run_assign rfl rfl) (ov rfl (fun a f=>run_assign rfl rfl) fun a f=>wn ?_))
  refine ws ?_
  revert a;refine sr (mv rfl rfl (ov rfl (fun a f=>run_lenL rfl rfl Tryz.underlying26 (f.ev rfl)) (ov rfl (fun a f=>run_move rfl rfl) fun a f=>wn ?_)))
  obtain ⟨o103,hM108,hM⟩:=bind_ex hM
  refine wp_cut (fun a u=>∃ (p102:List (Int×Bool)×List (Int×Bool)) (B104:Option Addr) (d105:Nat) (B106:Option Addr) (d107:Nat),p102=o103∧Fr a 61 [(4,.slice none 0 0),(5,.slice B104 p102.1.length d105),(6,.slice B106 p102.2.length d107)]∧St w u [.row 84 2 (.slice B104 p102.1.length d105) p102.1.length (p102.1.flatMap eStep),.row 84 2 (.slice B106 p102.2.length d107) p102.2.length (p102.2.flatMap eStep)]) ?_ ?_
  ·have _:=trivial
   refine wp_block ?_
   replace S:=S.nilrow 84 2
   replace S:=S.nilrow 84 2
   refine loop_gw (fun m a u=>∃ (p109:List (Int×Bool)×List (Int×Bool)×Int) (B110:Option Addr) (d111:Nat) (B112:Option Addr) (d113:Nat),m_impl_OrderTo_l1 x0 x1 m p109=some _∧Fr a 61 [(0,.slice A0 x0.length c0),(1,.slice A1 x1.length c1),(4,.slice none 0 0),(5,.slice B110 p109.1.length d111),(6,.slice B112 p109.2.1.length d113),(19,iv (x0.length:Int)),(20,iv p109.2.2)]∧St w u [.row 84 2 (.slice B110 p109.1.length d111) p109.1.length (p109.1.flatMap eStep),.row 84 2 (.slice B112 p109.2.1.length d113) p109.2.1.length (p109.2.1.flatMap eStep)]) FUEL ⟨(([]:List (Int×Bool)),([]:List (Int×Bool)),0),none,0,none,0,hM108,f.keep _ ⟨rfl,rfl,rfl,rfl,rfl,rfl,rfl,trivial⟩,S.sel [1,0] rfl rfl⟩ ?_
   clear f S hM108;rintro m a u ⟨p109,B110,d111,B112,d113,hM108,f,S⟩
   rcases m with _ | f1
   ·exact none_some hM108
   rw [m_impl_OrderTo_l1.eq_2] at hM108
   revert a;refine sr (ov rfl (fun a f=>run_lss (f.ev rfl) (f.ev rfl) rfl) fun a f=>wn ?_)
   refine ws ?_
   cases hc114:(ltB p109.2.2 (x0.length:Int))
   ·replace hM108:=bif_f hc114 hM108
    refine cond_f f rfl hc114 ?_
    refine wp_exit ?_
    repeat with_reducible first|apply then_exit|apply in_hit|refine in_miss rfl ?_
    obtain rfl:=Option.some.inj hM108
    exact ⟨(p109.1,p109.2.1),B110,d111,B112,d113,rfl,f.keep _ ⟨rfl,rfl,rfl,trivial⟩,S.sel [0,1] rfl rfl⟩
   replace hM108:=bif_t hc114 hM108
   refine cond_t f rfl hc114 ?_
   refine wp_skip ?_
   refine ws ?_
   refine wp_block ?_
   revert a;refine sr (mv rfl rfl (ag rfl rfl fun a f=>wn ?_))
   refine wp_block ?_
   revert a;refine sr (mv rfl rfl (mv rfl rfl fun a f=>?_))
   obtain ⟨hk115,hM108⟩:=chk_ex hM108
   replace hk115:=ixB_t hk115
   revert a;refine ov rfl (fun a f=>run_ix rfl Tryz.underlying26 sz4 (f.ev rfl) (S.rc0 h0.rc) (f.ev rfl) hk115) (ov rfl (fun a f=>run_load1 rfl one4 (f.ev rfl) (rd_el0 (l:=x0) (S.rc0 h0.rc).rd rfl eB_len false (ix_ltn hk115 rfl) rfl)) (mv rfl rfl fun a f=>?_))
   revert a;refine gt rfl rfl rfl rfl (fun a f hg=>run_move rfl (f.ev rfl)) (gt rfl rfl rfl rfl (fun a f hg=>run_move rfl (f.ev rfl)) fun a f=>?_)
   obtain ⟨hk116,hM108⟩:=chk_ex hM108
   replace hk116:=fun hg=>ixB_t (imp_t hk116 hg)
   revert a;refine gt rfl rfl rfl rfl (fun a f hg=>run_ix rfl Tryz.underlying26 sz4 ((f.ev rfl).trans (gv_t hg)) (S.rc0 h1.rc) ((f.ev rfl).trans (gv_t hg)) (hk116 hg)) (gt rfl rfl rfl rfl (fun a f hg=>run_load1 rfl one4 ((f.ev rfl).trans (gv_t hg)) (rd_el0 (l:=x1) (S.rc0 h1.rc).rd rfl eB_len false (ix_ltn (hk116 hg) rfl) rfl)) (gt rfl rfl rfl rfl (fun a f hg=>run_not rfl ((f.ev rfl).trans (gv_t hg))) fun a f=>?_))
   revert a;refine ov rfl (fun a f=>run_pick_and rfl (f.ev rfl) (fun hp=>((f.ev rfl).trans (gv_t hp))) rfl) (ag rfl rfl fun a f=>wn ?_)
   obtain ⟨o118,hM123,hM108⟩:=bind_ex hM108
   refine wp_cut (fun a u=>∃ (p117:List (Int×Bool)×List (Int×Bool)) (B119:Option Addr) (d120:Nat) (B121:Option Addr) (d122:Nat),p117=o118∧Fr a 61 [(0,.slice A0 x0.length c0),(1,.slice A1 x1.length c1),(4,.slice none 0 0),(5,.slice B119 p117.1.length d120),(6,.slice B121 p117.2.length d122),(19,iv (x0.length:Int)),(20,iv p109.2.2)]∧St w u [.row 84 2 (.slice B119 p117.1.length d120) p117.1.length (p117.1.flatMap eStep),.row 84 2 (.slice B121 p117.2.length d122) p117.2.length (p117.2.flatMap eStep)]) ?_ ?_
   ·have _:=trivial
    cases hc124:((x0.getD p109.2.2.toNat false)&&(!(x1.getD p109.2.2.toNat false)))
    ·replace hM123:=bif_f hc124 hM123
     refine cond_f f rfl hc124 ?_
     revert a;refine sr (mv rfl rfl (mv rfl rfl fun a f=>?_))
     obtain ⟨hk125,hM123⟩:=chk_ex hM123
     replace hk125:=ixB_t hk125
     revert a;refine ov rfl (fun a f=>run_ix rfl Tryz.underlying26 sz4 (f.ev rfl) (S.rc0 h1.rc) (f.ev rfl) hk125) (ov rfl (fun a f=>run_load1 rfl one4 (f.ev rfl) (rd_el0 (l:=x1) (S.rc0 h1.rc).rd rfl eB_len false (ix_ltn hk125 rfl) rfl)) (mv rfl rfl fun a f=>?_))
     revert a;refine gt rfl rfl rfl rfl (fun a f hg=>run_move rfl (f.ev rfl)) (gt rfl rfl rfl rfl (fun a f hg=>run_move rfl (f.ev rfl)) fun a f=>?_)
     obtain ⟨hk126,hM123⟩:=chk_ex hM123
     replace hk126:=fun hg=>ixB_t (imp_t hk126 hg)
     revert a;refine gt rfl rfl rfl rfl (fun a f hg=>run_ix rfl Tryz.underlying26 sz4 ((f.ev rfl).trans (gv_t hg)) (S.rc0 h0.rc) ((f.ev rfl).trans (gv_t hg)) (hk126 hg)) (gt rfl rfl rfl rfl (fun a f hg=>run_load1 rfl one4 ((f.ev rfl).trans (gv_t hg)) (rd_el0 (l:=x0) (S.rc0 h0.rc).rd rfl eB_len false (ix_ltn (hk126 hg) rfl) rfl)) (gt rfl rfl rfl rfl (fun a f hg=>run_not rfl ((f.ev rfl).trans (gv_t hg))) fun a f=>?_))
     revert a;refine ov rfl (fun a f=>run_pick_and rfl (f.ev rfl) (fun hp=>((f.ev rfl).trans (gv_t hp))) rfl) (ag rfl rfl fun a f=>wn ?_)
     obtain ⟨o128,hM131,hM123⟩:=bind_ex hM123
     refine wp_cut (fun a u=>∃ (p127:List (Int×Bool)) (B129:Option Addr) (d130:Nat),p127=o128∧Fr a 61 [(0,.slice A0 x0.length c0),(1,.slice A1 x1.length c1),(4,.slice none 0 0),(5,.slice B110 p109.1.length d111),(6,.slice B129 p127.length d130),(19,iv (x0.length:Int)),(20,iv p109.2.2)]∧St w u [.row 84 2 (.slice B110 p109.1.length d111) p109.1.length (p109.1.flatMap eStep),.row 84 2 (.slice B129 p127.length d130) p127.length (p127.flatMap eStep)]) ?_ ?_
     ·have _:=trivial
      cases hc132:((x1.getD p109.2.2.toNat false)&&(!(x0.getD p109.2.2.toNat false)))
      ·replace hM131:=bif_f hc132 hM131
       refine cond_f f rfl hc132 ?_
       refine wp_skip ?_
       obtain rfl:=Option.some.inj hM131
       exact ⟨p109.2.1,B112,d113,rfl,f.keep _ ⟨rfl,rfl,rfl,rfl,rfl,rfl,rfl,trivial⟩,S.sel [0,1] rfl rfl⟩
      replace hM131:=bif_t hc132 hM131
      refine cond_t f rfl hc132 ?_
      revert a;refine rl (mv rfl rfl (mv rfl rfl (ov rfl (fun a f=>run_build (vs:=[(0,iv p109.2.2),(1,.bool true)]) rfl ⟨⟨rfl,(f.ev rfl)⟩,⟨rfl,rfl⟩,trivial⟩ (bd84_0_1 rfl rfl)) fun a f=>?_)))
      refine op_newrowL (ls:=(([(p109.2.2,true)]:List (Int×Bool)):List (Int×Bool))) (e:=eStep) rfl rfl f rfl S (run_buildS (vs:=[(0,.agg #[iv p109.2.2,.bool true])]) rfl ⟨⟨rfl,(f.ev rfl)⟩,trivial⟩ (bs80_1_2 )) rfl eStep_len (Nat.le_of_ble_eq_true rfl) ?_;clear f S;intro a g133 u f S
      obtain ⟨hk136,hM131⟩:=chk_ex hM131
      replace hk136:=apB_t hk136
      refine op_appendL (lx:=p109.2.1) (ly:=([(p109.2.2,true)]:List (Int×Bool))) rfl rfl f rfl S rfl (f.ev rfl) (f.ev rfl) (i:=2) rfl rfl Tryz.underlying80 inf84 rfl (by decide) (S.rc 0 rfl).rd rfl eStep_one hk136 (by decide) ?_;clear f S;intro a B134 d135 u f S
      revert a;refine ag rfl rfl fun a f=>wn ?_
      obtain rfl:=Option.some.inj hM131
      exact ⟨p109.2.1++([(p109.2.2,true)]:List (Int×Bool)),B134,d135,rfl,f.keep _ ⟨rfl,rfl,rfl,rfl,rfl,rfl,rfl,trivial⟩,S.sel [1,2] rfl rfl⟩
     rintro a u ⟨p127,B129,d130,rfl,f,S⟩
     obtain rfl:=Option.some.inj hM123
     exact ⟨(p109.1,p127),B110,d111,B129,d130,rfl,f.keep _ ⟨rfl,rfl,rfl,rfl,rfl,rfl,rfl,trivial⟩,S.sel [0,1] rfl rfl⟩
    replace hM123:=bif_t hc124 hM123
    refine cond_t f rfl hc124 ?_
    revert a;refine rl (mv rfl rfl (mv rfl rfl (ov rfl (fun a f=>run_build (vs:=[(0,iv p109.2.2)]) rfl ⟨⟨rfl,(f.ev rfl)⟩,trivial⟩ (bd84_0 rfl)) fun a f=>?_)))
    refine op_newrowL (ls:=(([(p109.2.2,false)]:List (Int×Bool)):List (Int×Bool))) (e:=eStep) rfl rfl f rfl S (run_buildS (vs:=[(0,.agg #[iv p109.2.2,.bool false])]) rfl ⟨⟨rfl,(f.ev rfl)⟩,trivial⟩ (bs80_1_2 )) rfl eStep_len (Nat.le_of_ble_eq_true rfl) ?_;clear f S;intro a g137 u f S
    obtain ⟨hk140,hM123⟩:=chk_ex hM123
    replace hk140:=apB_t hk140
    refine op_appendL (lx:=p109.1) (ly:=([(p109.2.2,false)]:List (Int×Bool))) rfl rfl f rfl S rfl (f.ev rfl) (f.ev rfl) (i:=1) rfl rfl Tryz.underlying80 inf84 rfl (by decide) (S.rc 0 rfl).rd rfl eStep_one hk140 (by decide) ?_;clear f S;intro a B138 d139 u f S
    revert a;refine ag rfl rfl fun a f=>wn ?_
    obtain rfl:=Option.some.inj hM123
    exact ⟨(p109.1++([(p109.2.2,false)]:List (Int×Bool)),p109.2.1),B138,d139,B112,d113,rfl,f.keep _ ⟨rfl,rfl,rfl,rfl,rfl,rfl,rfl,trivial⟩,S.sel [1,2] rfl rfl⟩
   rintro a u ⟨p117,B119,d120,B121,d122,rfl,f,S⟩
   revert a;refine rl (ov rfl (fun a f=>run_add (z:=w64 (p109.2.2+1)) (f.ev rfl) rfl rfl rfl) (mv rfl rfl fun a f=>wn ?_))
   exact ⟨f1,Nat.lt_succ_self _,(p117.1,p117.2,w64 (p109.2.2+1)),B119,d120,B121,d122,hM108,f.keep _ ⟨rfl,rfl,rfl,rfl,rfl,rfl,rfl,trivial⟩,S.sel [0,1] rfl rfl⟩
  rintro a u ⟨p102,B104,d105,B106,d107,rfl,f,S⟩
  revert a;refine sr (mv rfl rfl (mv rfl rfl fun a f=>?_))
  obtain ⟨hk143,hM⟩:=chk_ex hM
  replace hk143:=apB_t hk143
  refine op_appendL (lx:=p102.1) (ly:=p102.2) rfl rfl f rfl S rfl (f.ev rfl) (f.ev rfl) (i:=0) rfl rfl Tryz.underlying80 inf84 rfl (by decide) (S.rc 1 rfl).rd rfl eStep_one hk143 (by decide) ?_;clear f S;intro a B141 d142 u f S
  revert a;refine ag rfl rfl fun a f=>wn ?_
  refine wp_ret ?_
  refine ret1_gw (.inl rfl) f rfl (res_tmp (f.ev rfl)) ?_
  obtain rfl:=Option.some.inj hM
  exact ⟨B141,((p102.1++p102.2).length),d142,rfl,rfl,S.sel [0] rfl rfl⟩
 replace hM:=bif_t hc101 hM
 refine cond_t f rfl hc101 ?_
 revert a;refine sr (ov rfl (fun a f=>run_assign rfl rfl) fun a f=>wn ?_)
 refine wp_ret ?_
 repeat with_reducible first|apply tr|apply ir|apply nr
 refine ret1_gw (.inl rfl) f rfl (res_tmp (f.ev rfl)) ?_
 obtain rfl:=Option.some.inj hM
 replace S:=S.nilrow 84 2
 exact ⟨none,0,0,rfl,rfl,S.sel [0] rfl rfl⟩
theorem c_impl_RestoreOrder {x0:Int} {x1:List (Int×Int×Int)} {x2:List Bool} {x3:List (Int×Int)} {x4:List Int} {A1:Option Addr} {n1 c1:Nat} {A2:Option Addr} {n2 c2:Nat} {A3:Option Addr} {n3 c3:Nat} {A4:Option Addr} {n4 c4:Nat} {w:World} {r:List (Int×Bool)×Bool} (h1:Rt w 3 eLine A1 n1 c1 x1) (h2:Rt w 1 eB A2 n2 c2 x2) (h3:Rt w 2 eBus A3 n3 c3 x3) (h4:Rt w 1 eI A4 n4 c4 x4) (hM : m_impl_RestoreOrder x0 x1 x2 x3 x4=some r) :
  Calls Tryz.prog 45 #[.agg #[iv x0,.slice A1 n1 c1],.slice A2 n2 c2,.slice A3 n3 c3,.slice A4 n4 c4] w (fun e w'=>∃ (B0:Option Addr) (N0 D0:Nat),e=.returned (.tuple #[.slice B0 N0 D0,.bool r.2])∧N0=r.1.length∧St w w' [.row 84 2 (.slice B0 N0 D0) N0 (r.1.flatMap eStep)]):=by
 obtain rfl:=h1.len
 obtain rfl:=h2.len
 obtain rfl:=h3.len
 obtain rfl:=h4.len
 unfold m_impl_RestoreOrder at hM
 refine calls_gx Tryz.func45 Tryz.ntmps45 rfl rfl ?_
 intro a f
 have S:=St.nil w
 refine wsg ?_
 refine op_new (cs:=#[iv x0,.slice A1 x1.length c1]) rfl rfl f rfl S (run_box rfl (f.ev rfl) rfl) ?_;clear f S;intro a g101 u f S
 revert a;refine ov rfl (fun a f=>run_assign rfl rfl) (ov rfl (fun a f=>run_assign rfl rfl) fun a f=>wn ?_)
 revert a;refine sr (ov rfl (fun a f=>run_loadN rfl ag37 (f.ev rfl) rfl ((S.free 0 rfl).cells 0 #[iv x0,.slice A1 x1.length c1] rfl)) (mv rfl rfl (mv rfl rfl (mv rfl rfl fun a f=>?_))))
 obtain ⟨p102,h102,hM⟩:=bind_ex hM
 refine op_call rfl rfl f rfl (run_call (vs:=[_,_,_,_]) rfl rfl co83 ⟨(f.ev rfl),(f.ev rfl),(f.ev rfl),(f.ev rfl),trivial⟩) (c_impl_BestState ⟨(S.rc0 h1.rc),rfl⟩ ⟨(S.rc0 h2.rc),rfl⟩ ⟨(S.rc0 h3.rc),rfl⟩ ⟨(S.rc0 h4.rc),rfl⟩ h102) ?_
 rintro e u ⟨B103,n104,d105,rfl,rfl,T⟩
 refine ⟨_,rfl,?_⟩
 clear f;intro a f
 replace S:=S.call1 T;clear T
 revert a;refine mv rfl rfl (ov rfl (fun a f=>run_extract rfl (f.ev rfl) rfl) (ov rfl (fun a f=>run_extract rfl (f.ev rfl) rfl) (ag rfl rfl (ag rfl rfl fun a f=>wn ?_))))
 refine ws ?_
 revert a;refine sr (mv rfl rfl (ov rfl (fun a f=>run_not rfl (f.ev rfl)) fun a f=>wn ?_))
 cases hc106:(p102.2)
 ·replace hM:=bif_f hc106 hM
  refine cond_t f rfl (not_t hc106) ?_
  revert a;refine sr (ov rfl (fun a f=>run_assign rfl rfl) (ov rfl (fun a f=>run_assign rfl rfl) fun a f=>wn ?_))
  refine wp_ret ?_
  repeat with_reducible first|apply tr|apply ir|apply nr
  refine ret2_gw (.inl rfl) f rfl (res_tmp (f.ev rfl)) (res_tmp (f.ev rfl)) ?_
  obtain rfl:=Option.some.inj hM
  replace S:=S.nilrow 84 2
  exact ⟨none,0,0,rfl,rfl,S.sel [0] rfl rfl⟩
 replace hM:=bif_t hc106 hM
 refine cond_f f rfl (not_f hc106) ?_
 refine wp_skip ?_
 revert a;refine sr (mv rfl rfl (mv rfl rfl fun a f=>?_))
 obtain ⟨p107,h107,hM⟩:=bind_ex hM
 refine op_call rfl rfl f rfl (run_call (vs:=[_,_]) rfl rfl co84 ⟨(f.ev rfl),(f.ev rfl),trivial⟩) (c_impl_OrderTo ⟨(S.rc0 h2.rc),rfl⟩ ⟨(S.rc 0 rfl),rfl⟩ h107) ?_
 rintro e u ⟨B108,n109,d110,rfl,rfl,T⟩
 refine ⟨_,rfl,?_⟩
 clear f;intro a f
 replace S:=S.call1 T;clear T
 revert a;refine ag rfl rfl (ov rfl (fun a f=>run_assign rfl rfl) fun a f=>wn ?_)
 refine wp_ret ?_
 refine ret2_gw (.inl rfl) f rfl (res_tmp (f.ev rfl)) (res_tmp (f.ev rfl)) ?_
 obtain rfl:=Option.some.inj hM
 exact ⟨B108,p107.length,d110,rfl,rfl,S.sel [0] rfl rfl⟩
theorem c_impl_HealDeeds {x0:Int} {x1:List (Int×Int×Int)} {x2:List (Int×Int)} {x3:List Bool} {x4:List Bool} {x5:List (Int×Int)} {x6:List Int} {A1:Option Addr} {n1 c1:Nat} {A2:Option Addr} {n2 c2:Nat} {A3:Option Addr} {n3 c3:Nat} {A4:Option Addr} {n4 c4:Nat} {A5:Option Addr} {n5 c5:Nat} {A6:Option Addr} {n6 c6:Nat} {w:World} {r:List (Int×Int×Int)} (h1:Rt w 3 eLine A1 n1 c1 x1) (h2:Rt w 2 eBus A2 n2 c2 x2) (h3:Rt w 1 eB A3 n3 c3 x3) (h4:Rt w 1 eB A4 n4 c4 x4) (h5:Rt w 2 ePermit A5 n5 c5 x5) (h6:Rt w 1 eI A6 n6 c6 x6) (hM : m_impl_HealDeeds x0 x1 x2 x3 x4 x5 x6=some r) :
  Calls Tryz.prog 13 #[.agg #[iv x0,.slice A1 n1 c1,.slice A2 n2 c2,.slice A3 n3 c3,.slice A4 n4 c4,.slice A5 n5 c5,.slice A6 n6 c6]] w (fun e w'=>∃ (B0:Option Addr) (N0 D0:Nat),e=.returned (.slice B0 N0 D0)∧N0=r.length∧St w w' [.row 56 3 (.slice B0 N0 D0) N0 (r.flatMap eWorkDeed)]):=by
 obtain rfl:=h1.len
 obtain rfl:=h2.len
 obtain rfl:=h3.len
 obtain rfl:=h4.len
 obtain rfl:=h5.len
 obtain rfl:=h6.len
 unfold m_impl_HealDeeds at hM
 refine calls_gx Tryz.func13 Tryz.ntmps13 rfl rfl ?_
 intro a f
 have S:=St.nil w
 refine wsg ?_
 refine op_new (cs:=#[iv x0,.slice A1 x1.length c1,.slice A2 x2.length c2,.slice A3 x3.length c3,.slice A4 x4.length c4,.slice A5 x5.length c5,.slice A6 x6.length c6]) rfl rfl f rfl S (run_box rfl (f.ev rfl) rfl) ?_;clear f S;intro a g101 u f S
 revert a;refine ov rfl (fun a f=>run_assign rfl rfl) fun a f=>wn ?_
 refine ws ?_
 revert a;refine sr (ov rfl (fun a f=>run_loadN rfl ag43 (f.ev rfl) rfl ((S.free 0 rfl).cells 0 #[iv x0,.slice A1 x1.length c1,.slice A2 x2.length c2,.slice A3 x3.length c3,.slice A4 x4.length c4,.slice A5 x5.length c5,.slice A6 x6.length c6] rfl)) fun a f=>?_)
 obtain ⟨p102,h102,hM⟩:=bind_ex hM
 refine op_call rfl rfl f rfl (run_call (vs:=[_]) rfl rfl co35 ⟨(f.ev rfl),trivial⟩) (c_impl_WorldValid ⟨(S.rc0 h1.rc),rfl⟩ ⟨(S.rc0 h2.rc),rfl⟩ ⟨(S.rc0 h3.rc),rfl⟩ ⟨(S.rc0 h4.rc),rfl⟩ ⟨(S.rc0 h5.rc),rfl⟩ ⟨(S.rc0 h6.rc),rfl⟩ h102) ?_
 rintro e u ⟨rfl,T⟩
 refine ⟨_,rfl,?_⟩
 clear f;intro a f
 replace S:=S.call0 T;clear T
 revert a;refine ov rfl (fun a f=>run_not rfl (f.ev rfl)) fun a f=>wn ?_
 cases hc103:(p102)
 ·replace hM:=bif_f hc103 hM
  refine cond_t f rfl (not_t hc103) ?_
  revert a;refine sr (ov rfl (fun a f=>run_assign rfl rfl) fun a f=>wn ?_)
  refine wp_ret ?_
  repeat with_reducible first|apply tr|apply ir|apply nr
  refine ret1_gw (.inl rfl) f rfl (res_tmp (f.ev rfl)) ?_
  obtain rfl:=Option.some.inj hM
  replace S:=S.nilrow 56 3
  exact ⟨none,0,0,rfl,rfl,S.sel [0] rfl rfl⟩
 replace hM:=bif_t hc103 hM
 refine cond_f f rfl (not_f hc103) ?_
 refine wp_skip ?_
 revert a;refine sr (ov rfl (fun a f=>run_fieldAddr rfl fl43_2 (f.ev rfl) rfl) (ov rfl (fun a f=>run_loadN rfl ag41 (f.ev rfl) rfl ((S.free 0 rfl).cells 3 #[.slice A3 x3.length c3,.slice A4 x4.length c4,.slice A5 x5.length c5] rfl)) fun a f=>?_))
 obtain ⟨p104,h104,hM⟩:=bind_ex hM
 refine op_call rfl rfl f rfl (run_call (vs:=[_]) rfl rfl co42 ⟨(f.ev rfl),trivial⟩) (c_impl_Work_returns ⟨(S.rc0 h3.rc),rfl⟩ ⟨(S.rc0 h4.rc),rfl⟩ ⟨(S.rc0 h5.rc),rfl⟩ h104) ?_
 rintro e u ⟨B105,n106,d107,rfl,rfl,T⟩
 refine ⟨_,rfl,?_⟩
 clear f;intro a f
 replace S:=S.call1 T;clear T
 revert a;refine ag rfl rfl fun a f=>wn ?_
 revert a;refine sr (ov rfl (fun a f=>run_fieldAddr rfl fl43_2 (f.ev rfl) rfl) (ov rfl (fun a f=>run_fieldAddr rfl fl41_1 (f.ev rfl) rfl) (ov rfl (fun a f=>run_load1 rfl one26 (f.ev rfl) (S.cell 1 rfl rfl)) fun a f=>?_)))
 obtain ⟨p108,h108,hM⟩:=bind_ex hM
 refine op_call rfl rfl f rfl (run_call (vs:=[_]) rfl rfl co43 ⟨(f.ev rfl),trivial⟩) (c_slices_Clone_bool_bool ⟨(S.rc0 h4.rc),rfl⟩ h108) ?_
 rintro e u ⟨B109,n110,d111,rfl,rfl,T⟩
 refine ⟨_,rfl,?_⟩
 clear f;intro a f
 replace S:=S.call1 T;clear T
 revert a;refine ag rfl rfl fun a f=>wn ?_
 refine ws ?_
 revert a;refine sr (ov rfl (fun a f=>run_fieldAddr rfl fl43_3 (f.ev rfl) rfl) (ov rfl (fun a f=>run_load1 rfl one30 (f.ev rfl) (S.cell 2 rfl rfl)) (ov rfl (fun a f=>run_lenL rfl rfl Tryz.underlying30 (f.ev rfl)) (ov rfl (fun a f=>run_move rfl rfl) fun a f=>wn ?_))))
 obtain ⟨o113,hM117,hM⟩:=bind_ex hM
 refine wp_cut (fun a u=>∃ (p112:List (Int×Int×Int)×List Bool) (B114:Option Addr) (d115:Nat),p112=o113∧p108.length=p112.2.length∧Fr a 88 [(1,.pointer (some ⟨g101,0,none⟩)),(2,.slice none 0 0),(3,.slice B114 p112.1.length d115),(4,.slice B109 p108.length d111)]∧St w u [.box g101 43 #[iv x0,.slice A1 x1.length c1,.slice A2 x2.length c2,.slice A3 x3.length c3,.slice A4 x4.length c4,.slice A5 x5.length c5,.slice A6 x6.length c6],.row 56 3 (.slice B114 p112.1.length d115) p112.1.length (p112.1.flatMap eWorkDeed),.row 4 1 (.slice B109 p108.length d111) p108.length (p112.2.flatMap eB)]) ?_ ?_
 ·have _:=trivial
  refine wp_block ?_
  refine loop_gw (fun m a u=>∃ (p118:List (Int×Int×Int)×List Bool×Int) (B119:Option Addr) (d120:Nat),m_impl_HealDeeds_l1 x6 p108 m p118=some _∧p108.length=p118.2.1.length∧Fr a 88 [(1,.pointer (some ⟨g101,0,none⟩)),(2,.slice none 0 0),(3,.slice B119 p118.1.length d120),(4,.slice B109 p108.length d111),(25,.slice A6 x6.length c6),(26,iv (x6.length:Int)),(27,iv p118.2.2)]∧St w u [.box g101 43 #[iv x0,.slice A1 x1.length c1,.slice A2 x2.length c2,.slice A3 x3.length c3,.slice A4 x4.length c4,.slice A5 x5.length c5,.slice A6 x6.length c6],.row 56 3 (.slice B119 p118.1.length d120) p118.1.length (p118.1.flatMap eWorkDeed),.row 4 1 (.slice B109 p108.length d111) p108.length (p118.2.1.flatMap eB)]) FUEL ⟨(p104,p108,0),B105,d107,hM117,rfl,f.keep _ ⟨rfl,rfl,rfl,rfl,rfl,rfl,rfl,trivial⟩,S.sel [2,1,0] rfl rfl⟩ ?_
  clear f S hM117;rintro m a u ⟨p118,B119,d120,hM117,hn121,f,S⟩
  rcases m with _ | f1
  ·exact none_some hM117
  rw [m_impl_HealDeeds_l1.eq_2] at hM117
  revert a;refine sr (ov rfl (fun a f=>run_lss (f.ev rfl) (f.ev rfl) rfl) fun a f=>wn ?_)
  refine ws ?_
  cases hc122:(ltB p118.2.2 (x6.length:Int))
  ·replace hM117:=bif_f hc122 hM117
   refine cond_f f rfl hc122 ?_
   refine wp_exit ?_
   repeat with_reducible first|apply then_exit|apply in_hit|refine in_miss rfl ?_
   obtain rfl:=Option.some.inj hM117
   exact ⟨(p118.1,p118.2.1),B119,d120,rfl,hn121,f.keep _ ⟨rfl,rfl,rfl,rfl,trivial⟩,S.sel [0,1,2] rfl rfl⟩
  replace hM117:=bif_t hc122 hM117
  refine cond_t f rfl hc122 ?_
  refine wp_skip ?_
  refine ws ?_
  refine wp_block ?_
  refine wsg ?_
  obtain ⟨hk123,hM117⟩:=chk_ex hM117
  replace hk123:=ixB_t hk123
  revert a;refine ov rfl (fun a f=>run_ix rfl Tryz.underlying30 sz3 (f.ev rfl) (S.rc0 h6.rc) (f.ev rfl) hk123) (ov rfl (fun a f=>run_load1 rfl one3 (f.ev rfl) (rd_el0 (l:=x6) (S.rc0 h6.rc).rd rfl eI_len 0 (ix_ltn hk123 rfl) rfl)) (ag rfl rfl fun a f=>wn ?_))
  refine ws ?_
  revert a;refine sr (mv rfl rfl (mv rfl rfl fun a f=>?_))
  obtain ⟨hk124,hM117⟩:=chk_ex hM117
  replace hk124:=ixB_t hk124
  revert a;refine ov rfl (fun a f=>run_ix rfl Tryz.underlying26 sz4 (f.ev rfl) (S.rc 2 rfl) (f.ev rfl) hk124) (ov rfl (fun a f=>run_load1 rfl one4 (f.ev rfl) (rd_el0 (l:=p118.2.1) (S.rc 2 rfl).rd hn121 eB_len false (ix_ltn hk124 hn121) rfl)) (ov rfl (fun a f=>run_not rfl (f.ev rfl)) fun a f=>wn ?_))
  obtain ⟨o126,hM130,hM117⟩:=bind_ex hM117
  refine wp_cut (fun a u=>∃ (p125:List (Int×Int×Int)×List Bool) (B127:Option Addr) (d128:Nat),p125=o126∧p108.length=p125.2.length∧Fr a 88 [(1,.pointer (some ⟨g101,0,none⟩)),(2,.slice none 0 0),(3,.slice B127 p125.1.length d128),(4,.slice B109 p108.length d111),(6,iv (x6.getD p118.2.2.toNat 0)),(25,.slice A6 x6.length c6),(26,iv (x6.length:Int)),(27,iv p118.2.2)]∧St w u [.box g101 43 #[iv x0,.slice A1 x1.length c1,.slice A2 x2.length c2,.slice A3 x3.length c3,.slice A4 x4.length c4,.slice A5 x5.length c5,.slice A6 x6.length c6],.row 56 3 (.slice B127 p125.1.length d128) p125.1.length (p125.1.flatMap eWorkDeed),.row 4 1 (.slice B109 p108.length d111) p108.length (p125.2.flatMap eB)]) ?_ ?_
  ·have _:=trivial
   cases hc131:(p118.2.1.getD ((x6.getD p118.2.2.toNat 0).toNat) false)
   ·replace hM130:=bif_f hc131 hM130
    refine cond_t f rfl (not_t hc131) ?_
    revert a;refine sr (mv rfl rfl (mv rfl rfl (ov rfl (fun a f=>run_build (vs:=[(0,iv 2),(1,iv (x6.getD p118.2.2.toNat 0))]) rfl ⟨⟨rfl,rfl⟩,⟨rfl,(f.ev rfl)⟩,trivial⟩ (bd56_0_1 rfl rfl)) fun a f=>?_)))
    refine op_newrowL (ls:=(([(2,(x6.getD p118.2.2.toNat 0),0)]:List (Int×Int×Int)):List (Int×Int×Int))) (e:=eWorkDeed) rfl rfl f rfl S (run_buildS (vs:=[(0,.agg #[iv 2,iv (x6.getD p118.2.2.toNat 0),iv 0])]) rfl ⟨⟨rfl,(f.ev rfl)⟩,trivial⟩ (bs47_1_3 )) rfl eWorkDeed_len (Nat.le_of_ble_eq_true rfl) ?_;clear f S;intro a g132 u f S
    obtain ⟨hk135,hM130⟩:=chk_ex hM130
    replace hk135:=apB_t hk135
    refine op_appendL (lx:=p118.1) (ly:=([(2,(x6.getD p118.2.2.toNat 0),0)]:List (Int×Int×Int))) rfl rfl f rfl S rfl (f.ev rfl) (f.ev rfl) (i:=2) rfl rfl Tryz.underlying47 inf56 rfl (by decide) (S.rc 0 rfl).rd rfl eWorkDeed_one hk135 (by decide) ?_;clear f S;intro a B133 d134 u f S
    revert a;refine ag rfl rfl fun a f=>wn ?_
    revert a;refine rl (mv rfl rfl (mv rfl rfl fun a f=>?_))
    obtain ⟨hk136,hM130⟩:=chk_ex hM130
    replace hk136:=ixB_t hk136
    revert a;refine ov rfl (fun a f=>run_ix rfl Tryz.underlying26 sz4 (f.ev rfl) (S.rc 3 rfl) (f.ev rfl) hk136) fun a f=>?_
    obtain ⟨w',hrun,S'⟩:=run_storeElN (P:=Tryz.prog) (ρ:=a.eval) (y0:=true) (off:=0) S 4 (.tmp 43) (.const (.bool true)) (i:=3) sz4 (f.ev rfl) rfl rfl rfl rfl rfl hn121 eB_len false (ix_ltn hk136 hn121) rfl rfl
    refine op_do rfl rfl (hrun _ rfl) ?_;clear hrun S;have S:=S';clear S';generalize w'=u at S ⊢
    refine wn ?_
    obtain rfl:=Option.some.inj hM130
    exact ⟨(p118.1++([(2,(x6.getD p118.2.2.toNat 0),0)]:List (Int×Int×Int)),p118.2.1.set ((x6.getD p118.2.2.toNat 0).toNat) true),B133,d134,rfl,(len_set hn121),f.keep _ ⟨rfl,rfl,rfl,rfl,rfl,rfl,rfl,rfl,trivial⟩,S.sel [1,2,3] rfl rfl⟩
   replace hM130:=bif_t hc131 hM130
   refine cond_f f rfl (not_f hc131) ?_
   refine wp_skip ?_
   obtain rfl:=Option.some.inj hM130
   exact ⟨(p118.1,p118.2.1),B119,d120,rfl,hn121,f.keep _ ⟨rfl,rfl,rfl,rfl,rfl,rfl,rfl,rfl,trivial⟩,S.sel [0,1,2] rfl rfl⟩
  rintro a u ⟨p125,B127,d128,rfl,hn129,f,S⟩
  revert a;refine sr (ov rfl (fun a f=>run_build (vs:=[(0,iv 4),(1,iv 7),(2,iv 5)]) rfl ⟨⟨rfl,rfl⟩,⟨rfl,rfl⟩,⟨rfl,rfl⟩,trivial⟩ (ba87_0_1_2 rfl rfl rfl)) (ov rfl (fun a f=>run_move rfl rfl) fun a f=>wn ?_))
  obtain ⟨o138,hM141,hM117⟩:=bind_ex hM117
  refine wp_cut (fun a u=>∃ (p137:List (Int×Int×Int)) (B139:Option Addr) (d140:Nat),p137=o138∧Fr a 88 [(1,.pointer (some ⟨g101,0,none⟩)),(2,.slice none 0 0),(3,.slice B139 p137.length d140),(4,.slice B109 p108.length d111),(25,.slice A6 x6.length c6),(26,iv (x6.length:Int)),(27,iv p118.2.2)]∧St w u [.box g101 43 #[iv x0,.slice A1 x1.length c1,.slice A2 x2.length c2,.slice A3 x3.length c3,.slice A4 x4.length c4,.slice A5 x5.length c5,.slice A6 x6.length c6],.row 56 3 (.slice B139 p137.length d140) p137.length (p137.flatMap eWorkDeed),.row 4 1 (.slice B109 p108.length d111) p108.length (p125.2.flatMap eB)]) ?_ ?_
  ·have _:=trivial
   refine wp_block ?_
   refine loop_gw (fun m a u=>∃ (p142:List (Int×Int×Int)×Int) (B143:Option Addr) (d144:Nat),m_impl_HealDeeds_l2 x6 p118 m p142=some _∧Fr a 88 [(1,.pointer (some ⟨g101,0,none⟩)),(2,.slice none 0 0),(3,.slice B143 p142.1.length d144),(4,.slice B109 p108.length d111),(6,iv (x6.getD p118.2.2.toNat 0)),(25,.slice A6 x6.length c6),(26,iv (x6.length:Int)),(27,iv p118.2.2),(44,.agg #[iv 4,iv 7,iv 5]),(45,iv p142.2)]∧St w u [.box g101 43 #[iv x0,.slice A1 x1.length c1,.slice A2 x2.length c2,.slice A3 x3.length c3,.slice A4 x4.length c4,.slice A5 x5.length c5,.slice A6 x6.length c6],.row 56 3 (.slice B143 p142.1.length d144) p142.1.length (p142.1.flatMap eWorkDeed),.row 4 1 (.slice B109 p108.length d111) p108.length (p125.2.flatMap eB)]) FUEL ⟨(p125.1,0),B127,d128,hM141,f.keep _ ⟨rfl,rfl,rfl,rfl,rfl,rfl,rfl,rfl,rfl,rfl,trivial⟩,S.sel [0,1,2] rfl rfl⟩ ?_
   clear f S hM141;rintro m a u ⟨p142,B143,d144,hM141,f,S⟩
   rcases m with _ | f2
   ·exact none_some hM141
   rw [m_impl_HealDeeds_l2.eq_2] at hM141
   revert a;refine sr (ov rfl (fun a f=>run_lss (f.ev rfl) rfl rfl) fun a f=>wn ?_)
   refine ws ?_
   cases hc145:(ltB p142.2 3)
   ·replace hM141:=bif_f hc145 hM141
    refine cond_f f rfl hc145 ?_
    refine wp_exit ?_
    repeat with_reducible first|apply then_exit|apply in_hit|refine in_miss rfl ?_
    obtain rfl:=Option.some.inj hM141
    exact ⟨p142.1,B143,d144,rfl,f.keep _ ⟨rfl,rfl,rfl,rfl,rfl,rfl,rfl,trivial⟩,S.sel [0,1,2] rfl rfl⟩
   replace hM141:=bif_t hc145 hM141
   refine cond_t f rfl hc145 ?_
   refine wp_skip ?_
   refine ws ?_
   refine wp_block ?_
   refine wsg ?_
   obtain ⟨hk146,hM141⟩:=chk_ex hM141
   replace hk146:=ixB_t hk146
   revert a;refine ov rfl (fun a f=>run_indexArr rfl Tryz.underlying87 one3 (f.ev rfl) (f.ev rfl) hk146 (arr_el eI_len (l:=[4,7,5]) rfl 0 (ix_lt hk146) rfl)) (ag rfl rfl fun a f=>wn ?_)
   revert a;refine rl (mv rfl rfl (mv rfl rfl (mv rfl rfl (ov rfl (fun a f=>run_build (vs:=[(0,iv (([4,7,5]:List Int).getD p142.2.toNat 0)),(1,iv (x6.getD p118.2.2.toNat 0))]) rfl ⟨⟨rfl,(f.ev rfl)⟩,⟨rfl,(f.ev rfl)⟩,trivial⟩ (bd56_0_1 rfl rfl)) fun a f=>?_))))
   refine op_newrowL (ls:=(([((([4,7,5]:List Int).getD p142.2.toNat 0),(x6.getD p118.2.2.toNat 0),0)]:List (Int×Int×Int)):List (Int×Int×Int))) (e:=eWorkDeed) rfl rfl f rfl S (run_buildS (vs:=[(0,.agg #[iv (([4,7,5]:List Int).getD p142.2.toNat 0),iv (x6.getD p118.2.2.toNat 0),iv 0])]) rfl ⟨⟨rfl,(f.ev rfl)⟩,trivial⟩ (bs47_1_3 )) rfl eWorkDeed_len (Nat.le_of_ble_eq_true rfl) ?_;clear f S;intro a g147 u f S
   obtain ⟨hk150,hM141⟩:=chk_ex hM141
   replace hk150:=apB_t hk150
   refine op_appendL (lx:=p142.1) (ly:=([((([4,7,5]:List Int).getD p142.2.toNat 0),(x6.getD p118.2.2.toNat 0),0)]:List (Int×Int×Int))) rfl rfl f rfl S rfl (f.ev rfl) (f.ev rfl) (i:=2) rfl rfl Tryz.underlying47 inf56 rfl (by decide) (S.rc 0 rfl).rd rfl eWorkDeed_one hk150 (by decide) ?_;clear f S;intro a B148 d149 u f S
   revert a;refine ag rfl rfl fun a f=>wn ?_
   revert a;refine rl (ov rfl (fun a f=>run_add (z:=w64 (p142.2+1)) (f.ev rfl) rfl rfl rfl) (mv rfl rfl fun a f=>wn ?_))
   exact ⟨f2,Nat.lt_succ_self _,(p142.1++([((([4,7,5]:List Int).getD p142.2.toNat 0),(x6.getD p118.2.2.toNat 0),0)]:List (Int×Int×Int)),w64 (p142.2+1)),B148,d149,hM141,f.keep _ ⟨rfl,rfl,rfl,rfl,rfl,rfl,rfl,rfl,rfl,rfl,trivial⟩,S.sel [1,2,3] rfl rfl⟩
  rintro a u ⟨p137,B139,d140,rfl,f,S⟩
  revert a;refine rl (ov rfl (fun a f=>run_add (z:=w64 (p118.2.2+1)) (f.ev rfl) rfl rfl rfl) (mv rfl rfl fun a f=>wn ?_))
  exact ⟨f1,Nat.lt_succ_self _,(p137,p125.2,w64 (p118.2.2+1)),B139,d140,hM117,hn129,f.keep _ ⟨rfl,rfl,rfl,rfl,rfl,rfl,rfl,trivial⟩,S.sel [0,1,2] rfl rfl⟩
 rintro a u ⟨p112,B114,d115,rfl,hn116,f,S⟩
 revert a;refine sr (mv rfl rfl (mv rfl rfl fun a f=>?_))
 obtain ⟨p151,h151,hM⟩:=bind_ex hM
 refine op_call rfl rfl f rfl (run_call (vs:=[_,_,_]) rfl rfl co44 ⟨rfl,(f.ev rfl),rfl,trivial⟩) (c_impl_deedsFor ⟨(S.rc 2 rfl),hn116⟩ h151) ?_
 rintro e u ⟨B152,n153,d154,rfl,rfl,T⟩
 refine ⟨_,rfl,?_⟩
 clear f;intro a f
 replace S:=S.call1 T;clear T
 obtain ⟨hk157,hM⟩:=chk_ex hM
 replace hk157:=apB_t hk157
 refine op_appendL (lx:=p112.1) (ly:=p151) rfl rfl f rfl S rfl (f.ev rfl) (f.ev rfl) (i:=2) rfl rfl Tryz.underlying47 inf56 rfl (by decide) (S.rc 0 rfl).rd rfl eWorkDeed_one hk157 (by decide) ?_;clear f S;intro a B155 d156 u f S
 revert a;refine ag rfl rfl fun a f=>wn ?_
 revert a;refine sr (ov rfl (fun a f=>run_fieldAddr rfl fl43_0 (f.ev rfl) rfl) (ov rfl (fun a f=>run_loadN rfl ag37 (f.ev rfl) rfl ((S.free 1 rfl).cells 0 #[iv x0,.slice A1 x1.length c1] rfl)) (ov rfl (fun a f=>run_fieldAddr rfl fl43_2 (f.ev rfl) rfl) (ov rfl (fun a f=>run_fieldAddr rfl fl41_0 (f.ev rfl) rfl) (ov rfl (fun a f=>run_load1 rfl one26 (f.ev rfl) (S.cell 1 rfl rfl)) (ov rfl (fun a f=>run_fieldAddr rfl fl43_1 (f.ev rfl) rfl) (ov rfl (fun a f=>run_load1 rfl one38 (f.ev rfl) (S.cell 1 rfl rfl)) fun a f=>?_)))))))
 obtain ⟨p158,h158,hM⟩:=bind_ex hM
 refine op_call rfl rfl f rfl (run_call (vs:=[_,_,_,_]) rfl rfl co45 ⟨(f.ev rfl),(f.ev rfl),(f.ev rfl),rfl,trivial⟩) (c_impl_RestoreOrder ⟨(S.rc0 h1.rc),rfl⟩ ⟨(S.rc0 h3.rc),rfl⟩ ⟨(S.rc0 h2.rc),rfl⟩ Rt.nil h158) ?_
 rintro e u ⟨B159,n160,d161,rfl,rfl,T⟩
 refine ⟨_,rfl,?_⟩
 clear f;intro a f
 replace S:=S.call1 T;clear T
 revert a;refine mv rfl rfl (ov rfl (fun a f=>run_extract rfl (f.ev rfl) rfl) (ov rfl (fun a f=>run_extract rfl (f.ev rfl) rfl) (ag rfl rfl (ag rfl rfl fun a f=>wn ?_))))
 refine ws ?_
 revert a;refine sr (mv rfl rfl (ov rfl (fun a f=>run_lenL rfl rfl Tryz.underlying80 (f.ev rfl)) (ov rfl (fun a f=>run_move rfl rfl) fun a f=>wn ?_)))
 obtain ⟨o163,hM166,hM⟩:=bind_ex hM
 refine wp_cut (fun a u=>∃ (p162:List (Int×Int×Int)) (B164:Option Addr) (d165:Nat),p162=o163∧Fr a 88 [(2,.slice none 0 0),(3,.slice B164 p162.length d165)]∧St w u [.row 56 3 (.slice B164 p162.length d165) p162.length (p162.flatMap eWorkDeed)]) ?_ ?_
 ·have _:=trivial
  refine wp_block ?_
  refine loop_gw (fun m a u=>∃ (p167:List (Int×Int×Int)×Int) (B168:Option Addr) (d169:Nat),m_impl_HealDeeds_l3 p158 m p167=some _∧Fr a 88 [(2,.slice none 0 0),(3,.slice B168 p167.1.length d169),(71,.slice B159 p158.1.length d161),(72,iv (p158.1.length:Int)),(73,iv p167.2)]∧St w u [.row 56 3 (.slice B168 p167.1.length d169) p167.1.length (p167.1.flatMap eWorkDeed),.row 84 2 (.slice B159 p158.1.length d161) p158.1.length (p158.1.flatMap eStep)]) FUEL ⟨(p112.1++p151,0),B155,d156,hM166,f.keep _ ⟨rfl,rfl,rfl,rfl,rfl,trivial⟩,S.sel [3,0] rfl rfl⟩ ?_
  clear f S hM166;rintro m a u ⟨p167,B168,d169,hM166,f,S⟩
  rcases m with _ | f3
  ·exact none_some hM166
  rw [m_impl_HealDeeds_l3.eq_2] at hM166
  revert a;refine sr (ov rfl (fun a f=>run_lss (f.ev rfl) (f.ev rfl) rfl) fun a f=>wn ?_)
  refine ws ?_
  cases hc170:(ltB p167.2 (p158.1.length:Int))
  ·replace hM166:=bif_f hc170 hM166
   refine cond_f f rfl hc170 ?_
   refine wp_exit ?_
   repeat with_reducible first|apply then_exit|apply in_hit|refine in_miss rfl ?_
   obtain rfl:=Option.some.inj hM166
   exact ⟨p167.1,B168,d169,rfl,f.keep _ ⟨rfl,rfl,trivial⟩,S.sel [0] rfl rfl⟩
  replace hM166:=bif_t hc170 hM166
  refine cond_t f rfl hc170 ?_
  refine wp_skip ?_
  refine ws ?_
  refine wp_block ?_
  refine wsg ?_
  obtain ⟨hk171,hM166⟩:=chk_ex hM166
  replace hk171:=ixB_t hk171
  revert a;refine ov rfl (fun a f=>run_ix rfl Tryz.underlying80 sz84 (f.ev rfl) (S.rc 1 rfl) (f.ev rfl) hk171) (ov rfl (fun a f=>run_loadN (cs:=#[iv ((p158.1.getD p167.2.toNat (0,false)).1),.bool ((p158.1.getD p167.2.toNat (0,false)).2)]) rfl ag84 (f.ev rfl) rfl (rd_elN (l:=p158.1) (S.rc 1 rfl).rd rfl eStep_len (0,false) (ix_ltn hk171 rfl) rfl)) fun a f=>?_)
  refine op_new (cs:=#[iv 0,.bool false]) rfl rfl f rfl S (run_allocZ rfl zr84) ?_;clear f S;intro a g172 u f S
  refine op_do rfl rfl (run_store (cs':=#[iv ((p158.1.getD p167.2.toNat (0,false)).1),.bool ((p158.1.getD p167.2.toNat (0,false)).2)]) rfl sz84 (f.ev rfl) (f.ev rfl) rfl rfl rfl (S.free 0 rfl) rfl rfl) ?_;replace S:=S.put 0 rfl (#[iv ((p158.1.getD p167.2.toNat (0,false)).1),.bool ((p158.1.getD p167.2.toNat (0,false)).2)])
  generalize World.setRow _ _ _=u at S ⊢
  refine wn ?_
  revert a;refine sr (ov rfl (fun a f=>run_assign rfl rfl) fun a f=>wn ?_)
  refine ws ?_
  revert a;refine sr (ov rfl (fun a f=>run_fieldAddr rfl fl84_1 (f.ev rfl) rfl) (ov rfl (fun a f=>run_load1 rfl one4 (f.ev rfl) (S.cell 0 rfl rfl)) fun a f=>wn ?_))
  obtain ⟨o174,hM175,hM166⟩:=bind_ex hM166
  refine wp_cut (fun a u=>∃ (p173:Int),p173=o174∧Fr a 88 [(2,.slice none 0 0),(3,.slice B168 p167.1.length d169),(12,.pointer (some ⟨g172,0,none⟩)),(13,iv p173),(71,.slice B159 p158.1.length d161),(72,iv (p158.1.length:Int)),(73,iv p167.2)]∧St w u [.box g172 84 #[iv ((p158.1.getD p167.2.toNat (0,false)).1),.bool ((p158.1.getD p167.2.toNat (0,false)).2)],.row 56 3 (.slice B168 p167.1.length d169) p167.1.length (p167.1.flatMap eWorkDeed),.row 84 2 (.slice B159 p158.1.length d161) p158.1.length (p158.1.flatMap eStep)]) ?_ ?_
  ·have _:=trivial
   rcases bb ((p158.1.getD p167.2.toNat (0,false)).2) with hc176 | hc176
   ·replace hM175:=bif_f hc176 hM175
    refine cond_f f rfl hc176 ?_
    refine wp_skip ?_
    obtain rfl:=Option.some.inj hM175
    exact ⟨1,rfl,f.keep _ ⟨rfl,rfl,rfl,rfl,rfl,rfl,rfl,trivial⟩,S.sel [0,1,2] rfl rfl⟩
   replace hM175:=bif_t hc176 hM175
   refine cond_t f rfl hc176 ?_
   revert a;refine rl (ov rfl (fun a f=>run_assign rfl rfl) fun a f=>wn ?_)
   obtain rfl:=Option.some.inj hM175
   exact ⟨0,rfl,f.keep _ ⟨rfl,rfl,rfl,rfl,rfl,rfl,rfl,trivial⟩,S.sel [0,1,2] rfl rfl⟩
  rintro a u ⟨p173,rfl,f,S⟩
  revert a;refine rl (mv rfl rfl (mv rfl rfl (ov rfl (fun a f=>run_fieldAddr rfl fl84_0 (f.ev rfl) rfl) (ov rfl (fun a f=>run_load1 rfl one3 (f.ev rfl) (S.cell 0 rfl rfl)) (ov rfl (fun a f=>run_build (vs:=[(0,iv p173),(1,iv ((p158.1.getD p167.2.toNat (0,false)).1))]) rfl ⟨⟨rfl,(f.ev rfl)⟩,⟨rfl,(f.ev rfl)⟩,trivial⟩ (bd56_0_1 rfl rfl)) fun a f=>?_)))))
  refine op_newrowL (ls:=(([(p173,(p158.1.getD p167.2.toNat (0,false)).1,0)]:List (Int×Int×Int)):List (Int×Int×Int))) (e:=eWorkDeed) rfl rfl f rfl S (run_buildS (vs:=[(0,.agg #[iv p173,iv ((p158.1.getD p167.2.toNat (0,false)).1),iv 0])]) rfl ⟨⟨rfl,(f.ev rfl)⟩,trivial⟩ (bs47_1_3 )) rfl eWorkDeed_len (Nat.le_of_ble_eq_true rfl) ?_;clear f S;intro a g177 u f S
  obtain ⟨hk180,hM166⟩:=chk_ex hM166
  replace hk180:=apB_t hk180
  refine op_appendL (lx:=p167.1) (ly:=([(p173,(p158.1.getD p167.2.toNat (0,false)).1,0)]:List (Int×Int×Int))) rfl rfl f rfl S rfl (f.ev rfl) (f.ev rfl) (i:=2) rfl rfl Tryz.underlying47 inf56 rfl (by decide) (S.rc 0 rfl).rd rfl eWorkDeed_one hk180 (by decide) ?_;clear f S;intro a B178 d179 u f S
  revert a;refine ag rfl rfl fun a f=>wn ?_
  revert a;refine rl (ov rfl (fun a f=>run_add (z:=w64 (p167.2+1)) (f.ev rfl) rfl rfl rfl) (mv rfl rfl fun a f=>wn ?_))
  exact ⟨f3,Nat.lt_succ_self _,(p167.1++([(p173,(p158.1.getD p167.2.toNat (0,false)).1,0)]:List (Int×Int×Int)),w64 (p167.2+1)),B178,d179,hM166,f.keep _ ⟨rfl,rfl,rfl,rfl,rfl,trivial⟩,S.sel [2,3] rfl rfl⟩
 rintro a u ⟨p162,B164,d165,rfl,f,S⟩
 revert a;refine sr (mv rfl rfl (ag rfl rfl fun a f=>wn ?_))
 refine wp_ret ?_
 refine ret1_gw (.inl rfl) f rfl (res_tmp (f.ev rfl)) ?_
 obtain rfl:=Option.some.inj hM
 exact ⟨B164,p162.length,d165,rfl,rfl,S.sel [0] rfl rfl⟩
theorem c_laws_eqLine {x0:Int} {x1:Int} {x2:Int} {x3:Int} {x4:Int} {x5:Int} {w:World} {r:Bool}  (hM : m_laws_eqLine x0 x1 x2 x3 x4 x5=some r) :
  Calls Tryz.prog 112 #[.agg #[iv x0,iv x1,iv x2],.agg #[iv x3,iv x4,iv x5]] w (fun e w'=>e=.returned (.bool r)∧St w w' []):=by
 unfold m_laws_eqLine at hM
 refine calls_gx Tryz.func112 Tryz.ntmps112 rfl rfl ?_
 intro a f
 have S:=St.nil w
 refine wsg ?_
 refine op_new (cs:=#[iv x0,iv x1,iv x2]) rfl rfl f rfl S (run_box rfl (f.ev rfl) rfl) ?_;clear f S;intro a g101 u f S
 refine op_new (cs:=#[iv x3,iv x4,iv x5]) rfl rfl f rfl S (run_box rfl (f.ev rfl) rfl) ?_;clear f S;intro a g102 u f S
 revert a;refine ov rfl (fun a f=>run_assign rfl rfl) fun a f=>wn ?_
 refine ws ?_
 revert a;refine sr (ov rfl (fun a f=>run_fieldAddr rfl fl130_0 (f.ev rfl) rfl) (ov rfl (fun a f=>run_load1 rfl one3 (f.ev rfl) (S.cell 1 rfl rfl)) (ov rfl (fun a f=>run_fieldAddr rfl fl130_0 (f.ev rfl) rfl) (ov rfl (fun a f=>run_load1 rfl one3 (f.ev rfl) (S.cell 0 rfl rfl)) (ov rfl (fun a f=>run_neq (f.ev rfl) (f.ev rfl) rfl) fun a f=>wn ?_)))))
 cases hc103:(x0 != x3)
 ·replace hM:=bif_f hc103 hM
  refine cond_f f rfl hc103 ?_
  refine wp_skip ?_
  refine ws ?_
  revert a;refine sr (ov rfl (fun a f=>run_fieldAddr rfl fl130_1 (f.ev rfl) rfl) (ov rfl (fun a f=>run_load1 rfl one3 (f.ev rfl) (S.cell 1 rfl rfl)) (ov rfl (fun a f=>run_fieldAddr rfl fl130_1 (f.ev rfl) rfl) (ov rfl (fun a f=>run_load1 rfl one3 (f.ev rfl) (S.cell 0 rfl rfl)) (ov rfl (fun a f=>run_neq (f.ev rfl) (f.ev rfl) rfl) fun a f=>wn ?_)))))
  cases hc104:(x1 != x4)
  ·replace hM:=bif_f hc104 hM
   refine cond_f f rfl hc104 ?_
   refine wp_skip ?_
   refine ws ?_
   revert a;refine sr (ov rfl (fun a f=>run_fieldAddr rfl fl130_2 (f.ev rfl) rfl) (ov rfl (fun a f=>run_load1 rfl one3 (f.ev rfl) (S.cell 1 rfl rfl)) (ov rfl (fun a f=>run_fieldAddr rfl fl130_2 (f.ev rfl) rfl) (ov rfl (fun a f=>run_load1 rfl one3 (f.ev rfl) (S.cell 0 rfl rfl)) (ov rfl (fun a f=>run_neq (f.ev rfl) (f.ev rfl) rfl) fun a f=>wn ?_)))))
   cases hc105:(x2 != x5)
   ·replace hM:=bif_f hc105 hM
    refine cond_f f rfl hc105 ?_
    refine wp_skip ?_
    revert a;refine sr (ov rfl (fun a f=>run_assign rfl rfl) fun a f=>wn ?_)
    refine wp_ret ?_
    refine ret1_gw (.inl rfl) f rfl (res_tmp (f.ev rfl)) ?_
    obtain rfl:=Option.some.inj hM
    exact ⟨rfl,S.sel [] rfl rfl⟩
   replace hM:=bif_t hc105 hM
   refine cond_t f rfl hc105 ?_
   revert a;refine sr (ov rfl (fun a f=>run_assign rfl rfl) fun a f=>wn ?_)
   refine wp_ret ?_
   repeat with_reducible first|apply tr|apply ir|apply nr
   refine ret1_gw (.inl rfl) f rfl (res_tmp (f.ev rfl)) ?_
   obtain rfl:=Option.some.inj hM
   exact ⟨rfl,S.sel [] rfl rfl⟩
  replace hM:=bif_t hc104 hM
  refine cond_t f rfl hc104 ?_
  revert a;refine sr (ov rfl (fun a f=>run_assign rfl rfl) fun a f=>wn ?_)
  refine wp_ret ?_
  repeat with_reducible first|apply tr|apply ir|apply nr
  refine ret1_gw (.inl rfl) f rfl (res_tmp (f.ev rfl)) ?_
  obtain rfl:=Option.some.inj hM
  exact ⟨rfl,S.sel [] rfl rfl⟩
 replace hM:=bif_t hc103 hM
 refine cond_t f rfl hc103 ?_
 revert a;refine sr (ov rfl (fun a f=>run_assign rfl rfl) fun a f=>wn ?_)
 refine wp_ret ?_
 repeat with_reducible first|apply tr|apply ir|apply nr
 refine ret1_gw (.inl rfl) f rfl (res_tmp (f.ev rfl)) ?_
 obtain rfl:=Option.some.inj hM
 exact ⟨rfl,S.sel [] rfl rfl⟩
theorem c_laws_eqLineS {x0:List (Int×Int×Int)} {x1:List (Int×Int×Int)} {A0:Option Addr} {n0 c0:Nat} {A1:Option Addr} {n1 c1:Nat} {w:World} {r:Bool} (h0:Rt w 3 eLine A0 n0 c0 x0) (h1:Rt w 3 eLine A1 n1 c1 x1) (hM : m_laws_eqLineS x0 x1=some r) :
  Calls Tryz.prog 77 #[.slice A0 n0 c0,.slice A1 n1 c1] w (fun e w'=>e=.returned (.bool r)∧St w w' []):=by
 obtain rfl:=h0.len
 obtain rfl:=h1.len
 unfold m_laws_eqLineS at hM
 refine calls_gx Tryz.func77 Tryz.ntmps77 rfl rfl ?_
 intro a f
 have S:=St.nil w
 revert a;refine sr (ov rfl (fun a f=>run_assign rfl rfl) fun a f=>wn ?_)
 refine ws ?_
 revert a;refine sr (mv rfl rfl (ov rfl (fun a f=>run_lenL rfl rfl Tryz.underlying35 (f.ev rfl)) (mv rfl rfl (ov rfl (fun a f=>run_lenL rfl rfl Tryz.underlying35 (f.ev rfl)) (ov rfl (fun a f=>run_neq (f.ev rfl) (f.ev rfl) rfl) fun a f=>wn ?_)))))
 cases hc101:((x0.length:Int) != (x1.length:Int))
 ·replace hM:=bif_f hc101 hM
  refine cond_f f rfl hc101 ?_
  refine wp_skip ?_
  refine ws ?_
  revert a;refine sr (ov rfl (fun a f=>run_assign rfl rfl) fun a f=>wn ?_)
  obtain ⟨o103,hM104,hM⟩:=bind_ex hM
  refine wp_cut (fun a u=>∃ (p102:Unit),(Sum.inl p102)=o103∧Fr a 27 [(4,.bool false)]∧St w u []) ?_ ?_
  ·have _:=trivial
   refine wp_block ?_
   refine loop_gw (fun m a u=>∃ (p105:Int),m_laws_eqLineS_l1 x0 x1 m p105=some _∧Fr a 27 [(0,.slice A0 x0.length c0),(1,.slice A1 x1.length c1),(4,.bool false),(5,iv p105)]∧St w u []) FUEL ⟨0,hM104,f.keep _ ⟨rfl,rfl,rfl,rfl,trivial⟩,S.sel [] rfl rfl⟩ ?_
   clear f S hM104;rintro m a u ⟨p105,hM104,f,S⟩
   rcases m with _ | f1
   ·exact none_some hM104
   rw [m_laws_eqLineS_l1.eq_2] at hM104
   refine ws ?_
   revert a;refine sr (mv rfl rfl (mv rfl rfl (ov rfl (fun a f=>run_lenL rfl rfl Tryz.underlying35 (f.ev rfl)) (ov rfl (fun a f=>run_lss (f.ev rfl) (f.ev rfl) rfl) fun a f=>wn ?_))))
   cases hc106:(ltB p105 (x0.length:Int))
   ·replace hM104:=bif_f hc106 hM104
    refine cond_f f rfl hc106 ?_
    refine wp_exit ?_
    repeat with_reducible first|apply then_exit|apply in_hit|refine in_miss rfl ?_
    obtain rfl:=Option.some.inj hM104
    exact ⟨(),rfl,f.keep _ ⟨rfl,trivial⟩,S.sel [] rfl rfl⟩
   replace hM104:=bif_t hc106 hM104
   refine cond_t f rfl hc106 ?_
   refine wp_skip ?_
   refine ws ?_
   refine wp_block ?_
   refine ws ?_
   obtain ⟨hk107,hM104⟩:=chk_ex hM104
   replace hk107:=ixB_t hk107
   obtain ⟨hk108,hM104⟩:=chk_ex hM104
   replace hk108:=ixB_t hk108
   obtain ⟨p109,h109,hM104⟩:=bind_ex hM104
   refine region_gw (D:=[17,18,19,20,21,22,23,24,25,26]) (Lr:=[]) (deps:=(fun | 0=>[17] | 1=>[18] | 2=>[19] | 3=>[20] | 4=>[21] | 5=>[22] | 6=>[23] | 7=>[24] | 8=>[25] | 9=>[26] | _=>[])) (rd:=(fun _=>[])) (zr:=(fun _=>[]))
    (φ:=fun i vs=>match i,vs with | 0,[v17]=>v17=.slice A0 x0.length c0 | 1,[v18]=>v18=iv p105 | 2,[v19]=>v19=.pointer (some ⟨adB A0,adO A0+p105.toNat*3,none⟩) | 3,[v20]=>v20=.agg #[iv ((x0.getD p105.toNat (0,0,0)).1),iv ((x0.getD p105.toNat (0,0,0)).2.1),iv ((x0.getD p105.toNat (0,0,0)).2.2)] | 4,[v21]=>v21=.slice A1 x1.length c1 | 5,[v22]=>v22=iv p105 | 6,[v23]=>v23=.pointer (some ⟨adB A1,adO A1+p105.toNat*3,none⟩) | 7,[v24]=>v24=.agg #[iv ((x1.getD p105.toNat (0,0,0)).1),iv ((x1.getD p105.toNat (0,0,0)).2.1),iv ((x1.getD p105.toNat (0,0,0)).2.2)] | 8,[v25]=>v25=.bool p109 | 9,[v26]=>v26=.bool (!p109) | _,_=>True)
    (C:=fun _ _=>[])
    (κ:=(fun _=>none)) (Z:=(fun _=>[])) mixed f (by kernel_rfl) S ?_ ?_
   ·refine ⟨?_,?_,?_,?_,?_,?_,?_,?_,?_,?_,trivial⟩
    ·intro a u X hB hu p hr hz hl S
     exact .inl ⟨rfl,_,u,(run_move rfl (f.evB hB rfl rfl)),rfl,S⟩
    ·intro a u X hB hu p hr hz hl S
     exact .inl ⟨rfl,_,u,(run_move rfl (f.evB hB rfl rfl)),rfl,S⟩
    ·intro a u X hB hu p hr hz hl S
     exact .inl ⟨rfl,_,u,(run_ix rfl Tryz.underlying35 sz130 (ev_sl (p 0 rfl)) (S.rc0 h0.rc) (ev_sl (p 1 rfl)) hk107),rfl,S⟩
    ·intro a u X hB hu p hr hz hl S
     exact .inl ⟨rfl,_,u,(run_loadN (cs:=#[iv ((x0.getD p105.toNat (0,0,0)).1),iv ((x0.getD p105.toNat (0,0,0)).2.1),iv ((x0.getD p105.toNat (0,0,0)).2.2)]) rfl ag130 (ev_sl (p 2 rfl)) rfl (rd_elN (l:=x0) (S.rc0 h0.rc).rd rfl eLine_len (0,0,0) (ix_ltn hk107 rfl) rfl)),rfl,S⟩
    ·intro a u X hB hu p hr hz hl S
     exact .inl ⟨rfl,_,u,(run_move rfl (f.evB hB rfl rfl)),rfl,S⟩
    ·intro a u X hB hu p hr hz hl S
     exact .inl ⟨rfl,_,u,(run_move rfl (f.evB hB rfl rfl)),rfl,S⟩
    ·intro a u X hB hu p hr hz hl S
     exact .inl ⟨rfl,_,u,(run_ix rfl Tryz.underlying35 sz130 (ev_sl (p 4 rfl)) (S.rc0 h1.rc) (ev_sl (p 5 rfl)) hk108),rfl,S⟩
    ·intro a u X hB hu p hr hz hl S
     exact .inl ⟨rfl,_,u,(run_loadN (cs:=#[iv ((x1.getD p105.toNat (0,0,0)).1),iv ((x1.getD p105.toNat (0,0,0)).2.1),iv ((x1.getD p105.toNat (0,0,0)).2.2)]) rfl ag130 (ev_sl (p 6 rfl)) rfl (rd_elN (l:=x1) (S.rc0 h1.rc).rd rfl eLine_len (0,0,0) (ix_ltn hk108 rfl) rfl)),rfl,S⟩
    ·intro a u X hB hu p hr hz hl S
     refine .inr (.inr (.inl ⟨rfl,_,_,(run_call (vs:=[.agg #[iv ((x0.getD p105.toNat (0,0,0)).1),iv ((x0.getD p105.toNat (0,0,0)).2.1),iv ((x0.getD p105.toNat (0,0,0)).2.2)],.agg #[iv ((x1.getD p105.toNat (0,0,0)).1),iv ((x1.getD p105.toNat (0,0,0)).2.1),iv ((x1.getD p105.toNat (0,0,0)).2.2)]]) rfl rfl co112 ⟨(ev_sl (p 3 rfl)),(ev_sl (p 7 rfl)),trivial⟩),?_⟩))
     refine Calls.mono (c_laws_eqLine (x0:=(x0.getD p105.toNat (0,0,0)).1) (x1:=(x0.getD p105.toNat (0,0,0)).2.1) (x2:=(x0.getD p105.toNat (0,0,0)).2.2) (x3:=(x1.getD p105.toNat (0,0,0)).1) (x4:=(x1.getD p105.toNat (0,0,0)).2.1) (x5:=(x1.getD p105.toNat (0,0,0)).2.2)  h109) ?_
     rintro e w1 ⟨rfl,T⟩
     exact ⟨_,rfl,rfl,S.call0 T⟩
    intro a u X hB hu p hr hz hl S
    exact .inl ⟨rfl,_,u,(run_not rfl (ev_sl (p 8 rfl))),rfl,S⟩
   intro a u hB hp S
   obtain ⟨q0,q1,q2,q3,q4,q5,q6,q7,q8,q9,-⟩:=hp
   replace S:St w u []:=S
   have f:=f.region hB [(17,_),(18,_),(19,_),(20,_),(21,_),(22,_),(23,_),(24,_),(25,_),(26,_)] (allSl_mem ⟨q0,q1,q2,q3,q4,q5,q6,q7,q8,q9,trivial⟩) rfl
   clear hB q0 q1 q2 q3 q4 q5 q6 q7 q8 q9
   cases hc110:(p109)
   ·replace hM104:=bif_f hc110 hM104
    refine cond_t f rfl (not_t hc110) ?_
    revert a;refine sr (ov rfl (fun a f=>run_assign rfl rfl) fun a f=>wn ?_)
    refine wp_ret ?_
    repeat with_reducible first|apply tr|apply ir|apply nr
    refine ret1_gw (.inl rfl) f rfl (res_tmp (f.ev rfl)) ?_
    obtain rfl:=Option.some.inj hM104
    obtain rfl:=Option.some.inj hM
    exact ⟨rfl,S.sel [] rfl rfl⟩
   replace hM104:=bif_t hc110 hM104
   refine cond_f f rfl (not_f hc110) ?_
   refine wp_skip ?_
   revert a;refine rl (mv rfl rfl (ov rfl (fun a f=>run_add (z:=w64 (p105+1)) (f.ev rfl) rfl rfl rfl) (ag rfl rfl fun a f=>wn ?_)))
   exact ⟨f1,Nat.lt_succ_self _,w64 (p105+1),hM104,f.keep _ ⟨rfl,rfl,rfl,rfl,trivial⟩,S.sel [] rfl rfl⟩
  rintro a u ⟨p102,rfl,f,S⟩
  replace hM:=elim_l hM
  revert a;refine sr (ov rfl (fun a f=>run_assign rfl rfl) fun a f=>wn ?_)
  refine wp_ret ?_
  refine ret1_gw (.inl rfl) f rfl (res_tmp (f.ev rfl)) ?_
  obtain rfl:=Option.some.inj hM
  exact ⟨rfl,S.sel [] rfl rfl⟩
 replace hM:=bif_t hc101 hM
 refine cond_t f rfl hc101 ?_
 revert a;refine sr (ov rfl (fun a f=>run_assign rfl rfl) fun a f=>wn ?_)
 refine wp_ret ?_
 repeat with_reducible first|apply tr|apply ir|apply nr
 refine ret1_gw (.inl rfl) f rfl (res_tmp (f.ev rfl)) ?_
 obtain rfl:=Option.some.inj hM
 exact ⟨rfl,S.sel [] rfl rfl⟩
theorem c_laws_eqNet {x0:Int} {x1:List (Int×Int×Int)} {x2:Int} {x3:List (Int×Int×Int)} {A1:Option Addr} {n1 c1:Nat} {A3:Option Addr} {n3 c3:Nat} {w:World} {r:Bool} (h1:Rt w 3 eLine A1 n1 c1 x1) (h3:Rt w 3 eLine A3 n3 c3 x3) (hM : m_laws_eqNet x0 x1 x2 x3=some r) :
  Calls Tryz.prog 36 #[.agg #[iv x0,.slice A1 n1 c1],.agg #[iv x2,.slice A3 n3 c3]] w (fun e w'=>e=.returned (.bool r)∧St w w' []):=by
 obtain rfl:=h1.len
 obtain rfl:=h3.len
 unfold m_laws_eqNet at hM
 refine calls_gx Tryz.func36 Tryz.ntmps36 rfl rfl ?_
 intro a f
 have S:=St.nil w
 refine wsg ?_
 refine op_new (cs:=#[iv x0,.slice A1 x1.length c1]) rfl rfl f rfl S (run_box rfl (f.ev rfl) rfl) ?_;clear f S;intro a g101 u f S
 refine op_new (cs:=#[iv x2,.slice A3 x3.length c3]) rfl rfl f rfl S (run_box rfl (f.ev rfl) rfl) ?_;clear f S;intro a g102 u f S
 revert a;refine ov rfl (fun a f=>run_assign rfl rfl) fun a f=>wn ?_
 refine ws ?_
 revert a;refine sr (ov rfl (fun a f=>run_fieldAddr rfl fl37_0 (f.ev rfl) rfl) (ov rfl (fun a f=>run_load1 rfl one3 (f.ev rfl) (S.cell 1 rfl rfl)) (ov rfl (fun a f=>run_fieldAddr rfl fl37_0 (f.ev rfl) rfl) (ov rfl (fun a f=>run_load1 rfl one3 (f.ev rfl) (S.cell 0 rfl rfl)) (ov rfl (fun a f=>run_neq (f.ev rfl) (f.ev rfl) rfl) fun a f=>wn ?_)))))
 cases hc103:(x0 != x2)
 ·replace hM:=bif_f hc103 hM
  refine cond_f f rfl hc103 ?_
  refine wp_skip ?_
  refine ws ?_
  revert a;refine sr (ov rfl (fun a f=>run_fieldAddr rfl fl37_1 (f.ev rfl) rfl) (ov rfl (fun a f=>run_load1 rfl one35 (f.ev rfl) (S.cell 1 rfl rfl)) (ov rfl (fun a f=>run_fieldAddr rfl fl37_1 (f.ev rfl) rfl) (ov rfl (fun a f=>run_load1 rfl one35 (f.ev rfl) (S.cell 0 rfl rfl)) fun a f=>?_))))
  obtain ⟨p104,h104,hM⟩:=bind_ex hM
  refine op_call rfl rfl f rfl (run_call (vs:=[_,_]) rfl rfl co77 ⟨(f.ev rfl),(f.ev rfl),trivial⟩) (c_laws_eqLineS ⟨(S.rc0 h1.rc),rfl⟩ ⟨(S.rc0 h3.rc),rfl⟩ h104) ?_
  rintro e u ⟨rfl,T⟩
  refine ⟨_,rfl,?_⟩
  clear f;intro a f
  replace S:=S.call0 T;clear T
  revert a;refine ov rfl (fun a f=>run_not rfl (f.ev rfl)) fun a f=>wn ?_
  cases hc105:(p104)
  ·replace hM:=bif_f hc105 hM
   refine cond_t f rfl (not_t hc105) ?_
   revert a;refine sr (ov rfl (fun a f=>run_assign rfl rfl) fun a f=>wn ?_)
   refine wp_ret ?_
   repeat with_reducible first|apply tr|apply ir|apply nr
   refine ret1_gw (.inl rfl) f rfl (res_tmp (f.ev rfl)) ?_
   obtain rfl:=Option.some.inj hM
   exact ⟨rfl,S.sel [] rfl rfl⟩
  replace hM:=bif_t hc105 hM
  refine cond_f f rfl (not_f hc105) ?_
  refine wp_skip ?_
  revert a;refine sr (ov rfl (fun a f=>run_assign rfl rfl) fun a f=>wn ?_)
  refine wp_ret ?_
  refine ret1_gw (.inl rfl) f rfl (res_tmp (f.ev rfl)) ?_
  obtain rfl:=Option.some.inj hM
  exact ⟨rfl,S.sel [] rfl rfl⟩
 replace hM:=bif_t hc103 hM
 refine cond_t f rfl hc103 ?_
 revert a;refine sr (ov rfl (fun a f=>run_assign rfl rfl) fun a f=>wn ?_)
 refine wp_ret ?_
 repeat with_reducible first|apply tr|apply ir|apply nr
 refine ret1_gw (.inl rfl) f rfl (res_tmp (f.ev rfl)) ?_
 obtain rfl:=Option.some.inj hM
 exact ⟨rfl,S.sel [] rfl rfl⟩
theorem c_laws_eqBus {x0:Int} {x1:Int} {x2:Int} {x3:Int} {w:World} {r:Bool}  (hM : m_laws_eqBus x0 x1 x2 x3=some r) :
  Calls Tryz.prog 78 #[.agg #[iv x0,iv x1],.agg #[iv x2,iv x3]] w (fun e w'=>e=.returned (.bool r)∧St w w' []):=by
 unfold m_laws_eqBus at hM
 refine calls_gx Tryz.func78 Tryz.ntmps78 rfl rfl ?_
 intro a f
 have S:=St.nil w
 refine wsg ?_
 refine op_new (cs:=#[iv x0,iv x1]) rfl rfl f rfl S (run_box rfl (f.ev rfl) rfl) ?_;clear f S;intro a g101 u f S
 refine op_new (cs:=#[iv x2,iv x3]) rfl rfl f rfl S (run_box rfl (f.ev rfl) rfl) ?_;clear f S;intro a g102 u f S
 revert a;refine ov rfl (fun a f=>run_assign rfl rfl) fun a f=>wn ?_
 refine ws ?_
 revert a;refine sr (ov rfl (fun a f=>run_fieldAddr rfl fl110_0 (f.ev rfl) rfl) (ov rfl (fun a f=>run_load1 rfl one3 (f.ev rfl) (S.cell 1 rfl rfl)) (ov rfl (fun a f=>run_fieldAddr rfl fl110_0 (f.ev rfl) rfl) (ov rfl (fun a f=>run_load1 rfl one3 (f.ev rfl) (S.cell 0 rfl rfl)) (ov rfl (fun a f=>run_neq (f.ev rfl) (f.ev rfl) rfl) fun a f=>wn ?_)))))
 cases hc103:(x0 != x2)
 ·replace hM:=bif_f hc103 hM
  refine cond_f f rfl hc103 ?_
  refine wp_skip ?_
  refine ws ?_
  revert a;refine sr (ov rfl (fun a f=>run_fieldAddr rfl fl110_1 (f.ev rfl) rfl) (ov rfl (fun a f=>run_load1 rfl one3 (f.ev rfl) (S.cell 1 rfl rfl)) (ov rfl (fun a f=>run_fieldAddr rfl fl110_1 (f.ev rfl) rfl) (ov rfl (fun a f=>run_load1 rfl one3 (f.ev rfl) (S.cell 0 rfl rfl)) (ov rfl (fun a f=>run_neq (f.ev rfl) (f.ev rfl) rfl) fun a f=>wn ?_)))))
  cases hc104:(x1 != x3)
  ·replace hM:=bif_f hc104 hM
   refine cond_f f rfl hc104 ?_
   refine wp_skip ?_
   revert a;refine sr (ov rfl (fun a f=>run_assign rfl rfl) fun a f=>wn ?_)
   refine wp_ret ?_
   refine ret1_gw (.inl rfl) f rfl (res_tmp (f.ev rfl)) ?_
   obtain rfl:=Option.some.inj hM
   exact ⟨rfl,S.sel [] rfl rfl⟩
  replace hM:=bif_t hc104 hM
  refine cond_t f rfl hc104 ?_
  revert a;refine sr (ov rfl (fun a f=>run_assign rfl rfl) fun a f=>wn ?_)
  refine wp_ret ?_
  repeat with_reducible first|apply tr|apply ir|apply nr
  refine ret1_gw (.inl rfl) f rfl (res_tmp (f.ev rfl)) ?_
  obtain rfl:=Option.some.inj hM
  exact ⟨rfl,S.sel [] rfl rfl⟩
 replace hM:=bif_t hc103 hM
 refine cond_t f rfl hc103 ?_
 revert a;refine sr (ov rfl (fun a f=>run_assign rfl rfl) fun a f=>wn ?_)
 refine wp_ret ?_
 repeat with_reducible first|apply tr|apply ir|apply nr
 refine ret1_gw (.inl rfl) f rfl (res_tmp (f.ev rfl)) ?_
 obtain rfl:=Option.some.inj hM
 exact ⟨rfl,S.sel [] rfl rfl⟩
theorem c_laws_eqBusS {x0:List (Int×Int)} {x1:List (Int×Int)} {A0:Option Addr} {n0 c0:Nat} {A1:Option Addr} {n1 c1:Nat} {w:World} {r:Bool} (h0:Rt w 2 eBus A0 n0 c0 x0) (h1:Rt w 2 eBus A1 n1 c1 x1) (hM : m_laws_eqBusS x0 x1=some r) :
  Calls Tryz.prog 37 #[.slice A0 n0 c0,.slice A1 n1 c1] w (fun e w'=>e=.returned (.bool r)∧St w w' []):=by
 obtain rfl:=h0.len
 obtain rfl:=h1.len
 unfold m_laws_eqBusS at hM
 refine calls_gx Tryz.func37 Tryz.ntmps37 rfl rfl ?_
 intro a f
 have S:=St.nil w
 revert a;refine sr (ov rfl (fun a f=>run_assign rfl rfl) fun a f=>wn ?_)
 refine ws ?_
 revert a;refine sr (mv rfl rfl (ov rfl (fun a f=>run_lenL rfl rfl Tryz.underlying38 (f.ev rfl)) (mv rfl rfl (ov rfl (fun a f=>run_lenL rfl rfl Tryz.underlying38 (f.ev rfl)) (ov rfl (fun a f=>run_neq (f.ev rfl) (f.ev rfl) rfl) fun a f=>wn ?_)))))
 cases hc101:((x0.length:Int) != (x1.length:Int))
 ·replace hM:=bif_f hc101 hM
  refine cond_f f rfl hc101 ?_
  refine wp_skip ?_
  refine ws ?_
  revert a;refine sr (ov rfl (fun a f=>run_assign rfl rfl) fun a f=>wn ?_)
  obtain ⟨o103,hM104,hM⟩:=bind_ex hM
  refine wp_cut (fun a u=>∃ (p102:Unit),(Sum.inl p102)=o103∧Fr a 27 [(4,.bool false)]∧St w u []) ?_ ?_
  ·have _:=trivial
   refine wp_block ?_
   refine loop_gw (fun m a u=>∃ (p105:Int),m_laws_eqBusS_l1 x0 x1 m p105=some _∧Fr a 27 [(0,.slice A0 x0.length c0),(1,.slice A1 x1.length c1),(4,.bool false),(5,iv p105)]∧St w u []) FUEL ⟨0,hM104,f.keep _ ⟨rfl,rfl,rfl,rfl,trivial⟩,S.sel [] rfl rfl⟩ ?_
   clear f S hM104;rintro m a u ⟨p105,hM104,f,S⟩
   rcases m with _ | f1
   ·exact none_some hM104
   rw [m_laws_eqBusS_l1.eq_2] at hM104
   refine ws ?_
   revert a;refine sr (mv rfl rfl (mv rfl rfl (ov rfl (fun a f=>run_lenL rfl rfl Tryz.underlying38 (f.ev rfl)) (ov rfl (fun a f=>run_lss (f.ev rfl) (f.ev rfl) rfl) fun a f=>wn ?_))))
   cases hc106:(ltB p105 (x0.length:Int))
   ·replace hM104:=bif_f hc106 hM104
    refine cond_f f rfl hc106 ?_
    refine wp_exit ?_
    repeat with_reducible first|apply then_exit|apply in_hit|refine in_miss rfl ?_
    obtain rfl:=Option.some.inj hM104
    exact ⟨(),rfl,f.keep _ ⟨rfl,trivial⟩,S.sel [] rfl rfl⟩
   replace hM104:=bif_t hc106 hM104
   refine cond_t f rfl hc106 ?_
   refine wp_skip ?_
   refine ws ?_
   refine wp_block ?_
   refine ws ?_
   obtain ⟨hk107,hM104⟩:=chk_ex hM104
   replace hk107:=ixB_t hk107
   obtain ⟨hk108,hM104⟩:=chk_ex hM104
   replace hk108:=ixB_t hk108
   obtain ⟨p109,h109,hM104⟩:=bind_ex hM104
   refine region_gw (D:=[17,18,19,20,21,22,23,24,25,26]) (Lr:=[]) (deps:=(fun | 0=>[17] | 1=>[18] | 2=>[19] | 3=>[20] | 4=>[21] | 5=>[22] | 6=>[23] | 7=>[24] | 8=>[25] | 9=>[26] | _=>[])) (rd:=(fun _=>[])) (zr:=(fun _=>[]))
    (φ:=fun i vs=>match i,vs with | 0,[v17]=>v17=.slice A0 x0.length c0 | 1,[v18]=>v18=iv p105 | 2,[v19]=>v19=.pointer (some ⟨adB A0,adO A0+p105.toNat*2,none⟩) | 3,[v20]=>v20=.agg #[iv ((x0.getD p105.toNat (0,0)).1),iv ((x0.getD p105.toNat (0,0)).2)] | 4,[v21]=>v21=.slice A1 x1.length c1 | 5,[v22]=>v22=iv p105 | 6,[v23]=>v23=.pointer (some ⟨adB A1,adO A1+p105.toNat*2,none⟩) | 7,[v24]=>v24=.agg #[iv ((x1.getD p105.toNat (0,0)).1),iv ((x1.getD p105.toNat (0,0)).2)] | 8,[v25]=>v25=.bool p109 | 9,[v26]=>v26=.bool (!p109) | _,_=>True)
    (C:=fun _ _=>[])
    (κ:=(fun _=>none)) (Z:=(fun _=>[])) mixed f (by kernel_rfl) S ?_ ?_
   ·refine ⟨?_,?_,?_,?_,?_,?_,?_,?_,?_,?_,trivial⟩
    ·intro a u X hB hu p hr hz hl S
     exact .inl ⟨rfl,_,u,(run_move rfl (f.evB hB rfl rfl)),rfl,S⟩
    ·intro a u X hB hu p hr hz hl S
     exact .inl ⟨rfl,_,u,(run_move rfl (f.evB hB rfl rfl)),rfl,S⟩
    ·intro a u X hB hu p hr hz hl S
     exact .inl ⟨rfl,_,u,(run_ix rfl Tryz.underlying38 sz110 (ev_sl (p 0 rfl)) (S.rc0 h0.rc) (ev_sl (p 1 rfl)) hk107),rfl,S⟩
    ·intro a u X hB hu p hr hz hl S
     exact .inl ⟨rfl,_,u,(run_loadN (cs:=#[iv ((x0.getD p105.toNat (0,0)).1),iv ((x0.getD p105.toNat (0,0)).2)]) rfl ag110 (ev_sl (p 2 rfl)) rfl (rd_elN (l:=x0) (S.rc0 h0.rc).rd rfl eBus_len (0,0) (ix_ltn hk107 rfl) rfl)),rfl,S⟩
    ·intro a u X hB hu p hr hz hl S
     exact .inl ⟨rfl,_,u,(run_move rfl (f.evB hB rfl rfl)),rfl,S⟩
    ·intro a u X hB hu p hr hz hl S
     exact .inl ⟨rfl,_,u,(run_move rfl (f.evB hB rfl rfl)),rfl,S⟩
    ·intro a u X hB hu p hr hz hl S
     exact .inl ⟨rfl,_,u,(run_ix rfl Tryz.underlying38 sz110 (ev_sl (p 4 rfl)) (S.rc0 h1.rc) (ev_sl (p 5 rfl)) hk108),rfl,S⟩
    ·intro a u X hB hu p hr hz hl S
     exact .inl ⟨rfl,_,u,(run_loadN (cs:=#[iv ((x1.getD p105.toNat (0,0)).1),iv ((x1.getD p105.toNat (0,0)).2)]) rfl ag110 (ev_sl (p 6 rfl)) rfl (rd_elN (l:=x1) (S.rc0 h1.rc).rd rfl eBus_len (0,0) (ix_ltn hk108 rfl) rfl)),rfl,S⟩
    ·intro a u X hB hu p hr hz hl S
     refine .inr (.inr (.inl ⟨rfl,_,_,(run_call (vs:=[.agg #[iv ((x0.getD p105.toNat (0,0)).1),iv ((x0.getD p105.toNat (0,0)).2)],.agg #[iv ((x1.getD p105.toNat (0,0)).1),iv ((x1.getD p105.toNat (0,0)).2)]]) rfl rfl co78 ⟨(ev_sl (p 3 rfl)),(ev_sl (p 7 rfl)),trivial⟩),?_⟩))
     refine Calls.mono (c_laws_eqBus (x0:=(x0.getD p105.toNat (0,0)).1) (x1:=(x0.getD p105.toNat (0,0)).2) (x2:=(x1.getD p105.toNat (0,0)).1) (x3:=(x1.getD p105.toNat (0,0)).2)  h109) ?_
     rintro e w1 ⟨rfl,T⟩
     exact ⟨_,rfl,rfl,S.call0 T⟩
    intro a u X hB hu p hr hz hl S
    exact .inl ⟨rfl,_,u,(run_not rfl (ev_sl (p 8 rfl))),rfl,S⟩
   intro a u hB hp S
   obtain ⟨q0,q1,q2,q3,q4,q5,q6,q7,q8,q9,-⟩:=hp
   replace S:St w u []:=S
   have f:=f.region hB [(17,_),(18,_),(19,_),(20,_),(21,_),(22,_),(23,_),(24,_),(25,_),(26,_)] (allSl_mem ⟨q0,q1,q2,q3,q4,q5,q6,q7,q8,q9,trivial⟩) rfl
   clear hB q0 q1 q2 q3 q4 q5 q6 q7 q8 q9
   cases hc110:(p109)
   ·replace hM104:=bif_f hc110 hM104
    refine cond_t f rfl (not_t hc110) ?_
    revert a;refine sr (ov rfl (fun a f=>run_assign rfl rfl) fun a f=>wn ?_)
    refine wp_ret ?_
    repeat with_reducible first|apply tr|apply ir|apply nr
    refine ret1_gw (.inl rfl) f rfl (res_tmp (f.ev rfl)) ?_
    obtain rfl:=Option.some.inj hM104
    obtain rfl:=Option.some.inj hM
    exact ⟨rfl,S.sel [] rfl rfl⟩
   replace hM104:=bif_t hc110 hM104
   refine cond_f f rfl (not_f hc110) ?_
   refine wp_skip ?_
   revert a;refine rl (mv rfl rfl (ov rfl (fun a f=>run_add (z:=w64 (p105+1)) (f.ev rfl) rfl rfl rfl) (ag rfl rfl fun a f=>wn ?_)))
   exact ⟨f1,Nat.lt_succ_self _,w64 (p105+1),hM104,f.keep _ ⟨rfl,rfl,rfl,rfl,trivial⟩,S.sel [] rfl rfl⟩
  rintro a u ⟨p102,rfl,f,S⟩
  replace hM:=elim_l hM
  revert a;refine sr (ov rfl (fun a f=>run_assign rfl rfl) fun a f=>wn ?_)
  refine wp_ret ?_
  refine ret1_gw (.inl rfl) f rfl (res_tmp (f.ev rfl)) ?_
  obtain rfl:=Option.some.inj hM
  exact ⟨rfl,S.sel [] rfl rfl⟩
 replace hM:=bif_t hc101 hM
 refine cond_t f rfl hc101 ?_
 revert a;refine sr (ov rfl (fun a f=>run_assign rfl rfl) fun a f=>wn ?_)
 refine wp_ret ?_
 repeat with_reducible first|apply tr|apply ir|apply nr
 refine ret1_gw (.inl rfl) f rfl (res_tmp (f.ev rfl)) ?_
 obtain rfl:=Option.some.inj hM
 exact ⟨rfl,S.sel [] rfl rfl⟩
theorem c_laws_eqBoolS {x0:List Bool} {x1:List Bool} {A0:Option Addr} {n0 c0:Nat} {A1:Option Addr} {n1 c1:Nat} {w:World} {r:Bool} (h0:Rt w 1 eB A0 n0 c0 x0) (h1:Rt w 1 eB A1 n1 c1 x1) (hM : m_laws_eqBoolS x0 x1=some r) :
  Calls Tryz.prog 79 #[.slice A0 n0 c0,.slice A1 n1 c1] w (fun e w'=>e=.returned (.bool r)∧St w w' []):=by
 obtain rfl:=h0.len
 obtain rfl:=h1.len
 unfold m_laws_eqBoolS at hM
 refine calls_gx Tryz.func79 Tryz.ntmps79 rfl rfl ?_
 intro a f
 have S:=St.nil w
 revert a;refine sr (ov rfl (fun a f=>run_assign rfl rfl) fun a f=>wn ?_)
 refine ws ?_
 revert a;refine sr (mv rfl rfl (ov rfl (fun a f=>run_lenL rfl rfl Tryz.underlying26 (f.ev rfl)) (mv rfl rfl (ov rfl (fun a f=>run_lenL rfl rfl Tryz.underlying26 (f.ev rfl)) (ov rfl (fun a f=>run_neq (f.ev rfl) (f.ev rfl) rfl) fun a f=>wn ?_)))))
 cases hc101:((x0.length:Int) != (x1.length:Int))
 ·replace hM:=bif_f hc101 hM
  refine cond_f f rfl hc101 ?_
  refine wp_skip ?_
  refine ws ?_
  revert a;refine sr (ov rfl (fun a f=>run_assign rfl rfl) fun a f=>wn ?_)
  obtain ⟨o103,hM104,hM⟩:=bind_ex hM
  refine wp_cut (fun a u=>∃ (p102:Unit),(Sum.inl p102)=o103∧Fr a 26 [(4,.bool false)]∧St w u []) ?_ ?_
  ·have _:=trivial
   refine wp_block ?_
   refine loop_gw (fun m a u=>∃ (p105:Int),m_laws_eqBoolS_l1 x0 x1 m p105=some _∧Fr a 26 [(0,.slice A0 x0.length c0),(1,.slice A1 x1.length c1),(4,.bool false),(5,iv p105)]∧St w u []) FUEL ⟨0,hM104,f.keep _ ⟨rfl,rfl,rfl,rfl,trivial⟩,S.sel [] rfl rfl⟩ ?_
   clear f S hM104;rintro m a u ⟨p105,hM104,f,S⟩
   rcases m with _ | f1
   ·exact none_some hM104
   rw [m_laws_eqBoolS_l1.eq_2] at hM104
   refine ws ?_
   revert a;refine sr (mv rfl rfl (mv rfl rfl (ov rfl (fun a f=>run_lenL rfl rfl Tryz.underlying26 (f.ev rfl)) (ov rfl (fun a f=>run_lss (f.ev rfl) (f.ev rfl) rfl) fun a f=>wn ?_))))
   cases hc106:(ltB p105 (x0.length:Int))
   ·replace hM104:=bif_f hc106 hM104
    refine cond_f f rfl hc106 ?_
    refine wp_exit ?_
    repeat with_reducible first|apply then_exit|apply in_hit|refine in_miss rfl ?_
    obtain rfl:=Option.some.inj hM104
    exact ⟨(),rfl,f.keep _ ⟨rfl,trivial⟩,S.sel [] rfl rfl⟩
   replace hM104:=bif_t hc106 hM104
   refine cond_t f rfl hc106 ?_
   refine wp_skip ?_
   refine ws ?_
   refine wp_block ?_
   refine ws ?_
   obtain ⟨hk107,hM104⟩:=chk_ex hM104
   replace hk107:=ixB_t hk107
   obtain ⟨hk108,hM104⟩:=chk_ex hM104
   replace hk108:=ixB_t hk108
   refine region_gw (D:=[17,18,19,20,21,22,23,24,25]) (Lr:=[]) (deps:=(fun | 0=>[17] | 1=>[18] | 2=>[19] | 3=>[20] | 4=>[21] | 5=>[22] | 6=>[23] | 7=>[24] | 8=>[25] | _=>[])) (rd:=(fun _=>[])) (zr:=(fun _=>[]))
    (φ:=fun i vs=>match i,vs with | 0,[v17]=>v17=.slice A0 x0.length c0 | 1,[v18]=>v18=iv p105 | 2,[v19]=>v19=.pointer (some ⟨adB A0,adO A0+p105.toNat*1,none⟩) | 3,[v20]=>v20=.bool (x0.getD p105.toNat false) | 4,[v21]=>v21=.slice A1 x1.length c1 | 5,[v22]=>v22=iv p105 | 6,[v23]=>v23=.pointer (some ⟨adB A1,adO A1+p105.toNat*1,none⟩) | 7,[v24]=>v24=.bool (x1.getD p105.toNat false) | 8,[v25]=>v25=.bool ((x0.getD p105.toNat false) != (x1.getD p105.toNat false)) | _,_=>True)
    (C:=fun _ _=>[])
    (κ:=(fun _=>none)) (Z:=(fun _=>[])) mixed f (by kernel_rfl) S ?_ ?_
   ·refine ⟨?_,?_,?_,?_,?_,?_,?_,?_,?_,trivial⟩
    ·intro a u X hB hu p hr hz hl S
     exact .inl ⟨rfl,_,u,(run_move rfl (f.evB hB rfl rfl)),rfl,S⟩
    ·intro a u X hB hu p hr hz hl S
     exact .inl ⟨rfl,_,u,(run_move rfl (f.evB hB rfl rfl)),rfl,S⟩
    ·intro a u X hB hu p hr hz hl S
     exact .inl ⟨rfl,_,u,(run_ix rfl Tryz.underlying26 sz4 (ev_sl (p 0 rfl)) (S.rc0 h0.rc) (ev_sl (p 1 rfl)) hk107),rfl,S⟩
    ·intro a u X hB hu p hr hz hl S
     exact .inl ⟨rfl,_,u,(run_load1 rfl one4 (ev_sl (p 2 rfl)) (rd_el0 (l:=x0) (S.rc0 h0.rc).rd rfl eB_len false (ix_ltn hk107 rfl) rfl)),rfl,S⟩
    ·intro a u X hB hu p hr hz hl S
     exact .inl ⟨rfl,_,u,(run_move rfl (f.evB hB rfl rfl)),rfl,S⟩
    ·intro a u X hB hu p hr hz hl S
     exact .inl ⟨rfl,_,u,(run_move rfl (f.evB hB rfl rfl)),rfl,S⟩
    ·intro a u X hB hu p hr hz hl S
     exact .inl ⟨rfl,_,u,(run_ix rfl Tryz.underlying26 sz4 (ev_sl (p 4 rfl)) (S.rc0 h1.rc) (ev_sl (p 5 rfl)) hk108),rfl,S⟩
    ·intro a u X hB hu p hr hz hl S
     exact .inl ⟨rfl,_,u,(run_load1 rfl one4 (ev_sl (p 6 rfl)) (rd_el0 (l:=x1) (S.rc0 h1.rc).rd rfl eB_len false (ix_ltn hk108 rfl) rfl)),rfl,S⟩
    intro a u X hB hu p hr hz hl S
    exact .inl ⟨rfl,_,u,(run_neqB (ev_sl (p 3 rfl)) (ev_sl (p 7 rfl)) Tryz.underlying4 rfl),rfl,S⟩
   intro a u hB hp S
   obtain ⟨q0,q1,q2,q3,q4,q5,q6,q7,q8,-⟩:=hp
   replace S:St w u []:=S
   have f:=f.region hB [(17,_),(18,_),(19,_),(20,_),(21,_),(22,_),(23,_),(24,_),(25,_)] (allSl_mem ⟨q0,q1,q2,q3,q4,q5,q6,q7,q8,trivial⟩) rfl
   clear hB q0 q1 q2 q3 q4 q5 q6 q7 q8
   cases hc109:((x0.getD p105.toNat false) != (x1.getD p105.toNat false))
   ·replace hM104:=bif_f hc109 hM104
    refine cond_f f rfl hc109 ?_
    refine wp_skip ?_
    revert a;refine rl (mv rfl rfl (ov rfl (fun a f=>run_add (z:=w64 (p105+1)) (f.ev rfl) rfl rfl rfl) (ag rfl rfl fun a f=>wn ?_)))
    exact ⟨f1,Nat.lt_succ_self _,w64 (p105+1),hM104,f.keep _ ⟨rfl,rfl,rfl,rfl,trivial⟩,S.sel [] rfl rfl⟩
   replace hM104:=bif_t hc109 hM104
   refine cond_t f rfl hc109 ?_
   revert a;refine sr (ov rfl (fun a f=>run_assign rfl rfl) fun a f=>wn ?_)
   refine wp_ret ?_
   repeat with_reducible first|apply tr|apply ir|apply nr
   refine ret1_gw (.inl rfl) f rfl (res_tmp (f.ev rfl)) ?_
   obtain rfl:=Option.some.inj hM104
   obtain rfl:=Option.some.inj hM
   exact ⟨rfl,S.sel [] rfl rfl⟩
  rintro a u ⟨p102,rfl,f,S⟩
  replace hM:=elim_l hM
  revert a;refine sr (ov rfl (fun a f=>run_assign rfl rfl) fun a f=>wn ?_)
  refine wp_ret ?_
  refine ret1_gw (.inl rfl) f rfl (res_tmp (f.ev rfl)) ?_
  obtain rfl:=Option.some.inj hM
  exact ⟨rfl,S.sel [] rfl rfl⟩
 replace hM:=bif_t hc101 hM
 refine cond_t f rfl hc101 ?_
 revert a;refine sr (ov rfl (fun a f=>run_assign rfl rfl) fun a f=>wn ?_)
 refine wp_ret ?_
 repeat with_reducible first|apply tr|apply ir|apply nr
 refine ret1_gw (.inl rfl) f rfl (res_tmp (f.ev rfl)) ?_
 obtain rfl:=Option.some.inj hM
 exact ⟨rfl,S.sel [] rfl rfl⟩
theorem c_laws_eqPermit {x0:Int} {x1:Int} {x2:Int} {x3:Int} {w:World} {r:Bool}  (hM : m_laws_eqPermit x0 x1 x2 x3=some r) :
  Calls Tryz.prog 113 #[.agg #[iv x0,iv x1],.agg #[iv x2,iv x3]] w (fun e w'=>e=.returned (.bool r)∧St w w' []):=by
 unfold m_laws_eqPermit at hM
 refine calls_gx Tryz.func113 Tryz.ntmps113 rfl rfl ?_
 intro a f
 have S:=St.nil w
 refine wsg ?_
 refine op_new (cs:=#[iv x0,iv x1]) rfl rfl f rfl S (run_box rfl (f.ev rfl) rfl) ?_;clear f S;intro a g101 u f S
 refine op_new (cs:=#[iv x2,iv x3]) rfl rfl f rfl S (run_box rfl (f.ev rfl) rfl) ?_;clear f S;intro a g102 u f S
 revert a;refine ov rfl (fun a f=>run_assign rfl rfl) fun a f=>wn ?_
 refine ws ?_
 revert a;refine sr (ov rfl (fun a f=>run_fieldAddr rfl fl78_0 (f.ev rfl) rfl) (ov rfl (fun a f=>run_load1 rfl one3 (f.ev rfl) (S.cell 1 rfl rfl)) (ov rfl (fun a f=>run_fieldAddr rfl fl78_0 (f.ev rfl) rfl) (ov rfl (fun a f=>run_load1 rfl one3 (f.ev rfl) (S.cell 0 rfl rfl)) (ov rfl (fun a f=>run_neq (f.ev rfl) (f.ev rfl) rfl) fun a f=>wn ?_)))))
 cases hc103:(x0 != x2)
 ·replace hM:=bif_f hc103 hM
  refine cond_f f rfl hc103 ?_
  refine wp_skip ?_
  refine ws ?_
  revert a;refine sr (ov rfl (fun a f=>run_fieldAddr rfl fl78_1 (f.ev rfl) rfl) (ov rfl (fun a f=>run_load1 rfl one3 (f.ev rfl) (S.cell 1 rfl rfl)) (ov rfl (fun a f=>run_fieldAddr rfl fl78_1 (f.ev rfl) rfl) (ov rfl (fun a f=>run_load1 rfl one3 (f.ev rfl) (S.cell 0 rfl rfl)) (ov rfl (fun a f=>run_neq (f.ev rfl) (f.ev rfl) rfl) fun a f=>wn ?_)))))
  cases hc104:(x1 != x3)
  ·replace hM:=bif_f hc104 hM
   refine cond_f f rfl hc104 ?_
   refine wp_skip ?_
   revert a;refine sr (ov rfl (fun a f=>run_assign rfl rfl) fun a f=>wn ?_)
   refine wp_ret ?_
   refine ret1_gw (.inl rfl) f rfl (res_tmp (f.ev rfl)) ?_
   obtain rfl:=Option.some.inj hM
   exact ⟨rfl,S.sel [] rfl rfl⟩
  replace hM:=bif_t hc104 hM
  refine cond_t f rfl hc104 ?_
  revert a;refine sr (ov rfl (fun a f=>run_assign rfl rfl) fun a f=>wn ?_)
  refine wp_ret ?_
  repeat with_reducible first|apply tr|apply ir|apply nr
  refine ret1_gw (.inl rfl) f rfl (res_tmp (f.ev rfl)) ?_
  obtain rfl:=Option.some.inj hM
  exact ⟨rfl,S.sel [] rfl rfl⟩
 replace hM:=bif_t hc103 hM
 refine cond_t f rfl hc103 ?_
 revert a;refine sr (ov rfl (fun a f=>run_assign rfl rfl) fun a f=>wn ?_)
 refine wp_ret ?_
 repeat with_reducible first|apply tr|apply ir|apply nr
 refine ret1_gw (.inl rfl) f rfl (res_tmp (f.ev rfl)) ?_
 obtain rfl:=Option.some.inj hM
 exact ⟨rfl,S.sel [] rfl rfl⟩
theorem c_laws_eqPermitS {x0:List (Int×Int)} {x1:List (Int×Int)} {A0:Option Addr} {n0 c0:Nat} {A1:Option Addr} {n1 c1:Nat} {w:World} {r:Bool} (h0:Rt w 2 ePermit A0 n0 c0 x0) (h1:Rt w 2 ePermit A1 n1 c1 x1) (hM : m_laws_eqPermitS x0 x1=some r) :
  Calls Tryz.prog 80 #[.slice A0 n0 c0,.slice A1 n1 c1] w (fun e w'=>e=.returned (.bool r)∧St w w' []):=by
 obtain rfl:=h0.len
 obtain rfl:=h1.len
 unfold m_laws_eqPermitS at hM
 refine calls_gx Tryz.func80 Tryz.ntmps80 rfl rfl ?_
 intro a f
 have S:=St.nil w
 revert a;refine sr (ov rfl (fun a f=>run_assign rfl rfl) fun a f=>wn ?_)
 refine ws ?_
 revert a;refine sr (mv rfl rfl (ov rfl (fun a f=>run_lenL rfl rfl Tryz.underlying39 (f.ev rfl)) (mv rfl rfl (ov rfl (fun a f=>run_lenL rfl rfl Tryz.underlying39 (f.ev rfl)) (ov rfl (fun a f=>run_neq (f.ev rfl) (f.ev rfl) rfl) fun a f=>wn ?_)))))
 cases hc101:((x0.length:Int) != (x1.length:Int))
 ·replace hM:=bif_f hc101 hM
  refine cond_f f rfl hc101 ?_
  refine wp_skip ?_
  refine ws ?_
  revert a;refine sr (ov rfl (fun a f=>run_assign rfl rfl) fun a f=>wn ?_)
  obtain ⟨o103,hM104,hM⟩:=bind_ex hM
  refine wp_cut (fun a u=>∃ (p102:Unit),(Sum.inl p102)=o103∧Fr a 27 [(4,.bool false)]∧St w u []) ?_ ?_
  ·have _:=trivial
   refine wp_block ?_
   refine loop_gw (fun m a u=>∃ (p105:Int),m_laws_eqPermitS_l1 x0 x1 m p105=some _∧Fr a 27 [(0,.slice A0 x0.length c0),(1,.slice A1 x1.length c1),(4,.bool false),(5,iv p105)]∧St w u []) FUEL ⟨0,hM104,f.keep _ ⟨rfl,rfl,rfl,rfl,trivial⟩,S.sel [] rfl rfl⟩ ?_
   clear f S hM104;rintro m a u ⟨p105,hM104,f,S⟩
   rcases m with _ | f1
   ·exact none_some hM104
   rw [m_laws_eqPermitS_l1.eq_2] at hM104
   refine ws ?_
   revert a;refine sr (mv rfl rfl (mv rfl rfl (ov rfl (fun a f=>run_lenL rfl rfl Tryz.underlying39 (f.ev rfl)) (ov rfl (fun a f=>run_lss (f.ev rfl) (f.ev rfl) rfl) fun a f=>wn ?_))))
   cases hc106:(ltB p105 (x0.length:Int))
   ·replace hM104:=bif_f hc106 hM104
    refine cond_f f rfl hc106 ?_
    refine wp_exit ?_
    repeat with_reducible first|apply then_exit|apply in_hit|refine in_miss rfl ?_
    obtain rfl:=Option.some.inj hM104
    exact ⟨(),rfl,f.keep _ ⟨rfl,trivial⟩,S.sel [] rfl rfl⟩
   replace hM104:=bif_t hc106 hM104
   refine cond_t f rfl hc106 ?_
   refine wp_skip ?_
   refine ws ?_
   refine wp_block ?_
   refine ws ?_
   obtain ⟨hk107,hM104⟩:=chk_ex hM104
   replace hk107:=ixB_t hk107
   obtain ⟨hk108,hM104⟩:=chk_ex hM104
   replace hk108:=ixB_t hk108
   obtain ⟨p109,h109,hM104⟩:=bind_ex hM104
   refine region_gw (D:=[17,18,19,20,21,22,23,24,25,26]) (Lr:=[]) (deps:=(fun | 0=>[17] | 1=>[18] | 2=>[19] | 3=>[20] | 4=>[21] | 5=>[22] | 6=>[23] | 7=>[24] | 8=>[25] | 9=>[26] | _=>[])) (rd:=(fun _=>[])) (zr:=(fun _=>[]))
    (φ:=fun i vs=>match i,vs with | 0,[v17]=>v17=.slice A0 x0.length c0 | 1,[v18]=>v18=iv p105 | 2,[v19]=>v19=.pointer (some ⟨adB A0,adO A0+p105.toNat*2,none⟩) | 3,[v20]=>v20=.agg #[iv ((x0.getD p105.toNat (0,0)).1),iv ((x0.getD p105.toNat (0,0)).2)] | 4,[v21]=>v21=.slice A1 x1.length c1 | 5,[v22]=>v22=iv p105 | 6,[v23]=>v23=.pointer (some ⟨adB A1,adO A1+p105.toNat*2,none⟩) | 7,[v24]=>v24=.agg #[iv ((x1.getD p105.toNat (0,0)).1),iv ((x1.getD p105.toNat (0,0)).2)] | 8,[v25]=>v25=.bool p109 | 9,[v26]=>v26=.bool (!p109) | _,_=>True)
    (C:=fun _ _=>[])
    (κ:=(fun _=>none)) (Z:=(fun _=>[])) mixed f (by kernel_rfl) S ?_ ?_
   ·refine ⟨?_,?_,?_,?_,?_,?_,?_,?_,?_,?_,trivial⟩
    ·intro a u X hB hu p hr hz hl S
     exact .inl ⟨rfl,_,u,(run_move rfl (f.evB hB rfl rfl)),rfl,S⟩
    ·intro a u X hB hu p hr hz hl S
     exact .inl ⟨rfl,_,u,(run_move rfl (f.evB hB rfl rfl)),rfl,S⟩
    ·intro a u X hB hu p hr hz hl S
     exact .inl ⟨rfl,_,u,(run_ix rfl Tryz.underlying39 sz78 (ev_sl (p 0 rfl)) (S.rc0 h0.rc) (ev_sl (p 1 rfl)) hk107),rfl,S⟩
    ·intro a u X hB hu p hr hz hl S
     exact .inl ⟨rfl,_,u,(run_loadN (cs:=#[iv ((x0.getD p105.toNat (0,0)).1),iv ((x0.getD p105.toNat (0,0)).2)]) rfl ag78 (ev_sl (p 2 rfl)) rfl (rd_elN (l:=x0) (S.rc0 h0.rc).rd rfl ePermit_len (0,0) (ix_ltn hk107 rfl) rfl)),rfl,S⟩
    ·intro a u X hB hu p hr hz hl S
     exact .inl ⟨rfl,_,u,(run_move rfl (f.evB hB rfl rfl)),rfl,S⟩
    ·intro a u X hB hu p hr hz hl S
     exact .inl ⟨rfl,_,u,(run_move rfl (f.evB hB rfl rfl)),rfl,S⟩
    ·intro a u X hB hu p hr hz hl S
     exact .inl ⟨rfl,_,u,(run_ix rfl Tryz.underlying39 sz78 (ev_sl (p 4 rfl)) (S.rc0 h1.rc) (ev_sl (p 5 rfl)) hk108),rfl,S⟩
    ·intro a u X hB hu p hr hz hl S
     exact .inl ⟨rfl,_,u,(run_loadN (cs:=#[iv ((x1.getD p105.toNat (0,0)).1),iv ((x1.getD p105.toNat (0,0)).2)]) rfl ag78 (ev_sl (p 6 rfl)) rfl (rd_elN (l:=x1) (S.rc0 h1.rc).rd rfl ePermit_len (0,0) (ix_ltn hk108 rfl) rfl)),rfl,S⟩
    ·intro a u X hB hu p hr hz hl S
     refine .inr (.inr (.inl ⟨rfl,_,_,(run_call (vs:=[.agg #[iv ((x0.getD p105.toNat (0,0)).1),iv ((x0.getD p105.toNat (0,0)).2)],.agg #[iv ((x1.getD p105.toNat (0,0)).1),iv ((x1.getD p105.toNat (0,0)).2)]]) rfl rfl co113 ⟨(ev_sl (p 3 rfl)),(ev_sl (p 7 rfl)),trivial⟩),?_⟩))
     refine Calls.mono (c_laws_eqPermit (x0:=(x0.getD p105.toNat (0,0)).1) (x1:=(x0.getD p105.toNat (0,0)).2) (x2:=(x1.getD p105.toNat (0,0)).1) (x3:=(x1.getD p105.toNat (0,0)).2)  h109) ?_
     rintro e w1 ⟨rfl,T⟩
     exact ⟨_,rfl,rfl,S.call0 T⟩
    intro a u X hB hu p hr hz hl S
    exact .inl ⟨rfl,_,u,(run_not rfl (ev_sl (p 8 rfl))),rfl,S⟩
   intro a u hB hp S
   obtain ⟨q0,q1,q2,q3,q4,q5,q6,q7,q8,q9,-⟩:=hp
   replace S:St w u []:=S
   have f:=f.region hB [(17,_),(18,_),(19,_),(20,_),(21,_),(22,_),(23,_),(24,_),(25,_),(26,_)] (allSl_mem ⟨q0,q1,q2,q3,q4,q5,q6,q7,q8,q9,trivial⟩) rfl
   clear hB q0 q1 q2 q3 q4 q5 q6 q7 q8 q9
   cases hc110:(p109)
   ·replace hM104:=bif_f hc110 hM104
    refine cond_t f rfl (not_t hc110) ?_
    revert a;refine sr (ov rfl (fun a f=>run_assign rfl rfl) fun a f=>wn ?_)
    refine wp_ret ?_
    repeat with_reducible first|apply tr|apply ir|apply nr
    refine ret1_gw (.inl rfl) f rfl (res_tmp (f.ev rfl)) ?_
    obtain rfl:=Option.some.inj hM104
    obtain rfl:=Option.some.inj hM
    exact ⟨rfl,S.sel [] rfl rfl⟩
   replace hM104:=bif_t hc110 hM104
   refine cond_f f rfl (not_f hc110) ?_
   refine wp_skip ?_
   revert a;refine rl (mv rfl rfl (ov rfl (fun a f=>run_add (z:=w64 (p105+1)) (f.ev rfl) rfl rfl rfl) (ag rfl rfl fun a f=>wn ?_)))
   exact ⟨f1,Nat.lt_succ_self _,w64 (p105+1),hM104,f.keep _ ⟨rfl,rfl,rfl,rfl,trivial⟩,S.sel [] rfl rfl⟩
  rintro a u ⟨p102,rfl,f,S⟩
  replace hM:=elim_l hM
  revert a;refine sr (ov rfl (fun a f=>run_assign rfl rfl) fun a f=>wn ?_)
  refine wp_ret ?_
  refine ret1_gw (.inl rfl) f rfl (res_tmp (f.ev rfl)) ?_
  obtain rfl:=Option.some.inj hM
  exact ⟨rfl,S.sel [] rfl rfl⟩
 replace hM:=bif_t hc101 hM
 refine cond_t f rfl hc101 ?_
 revert a;refine sr (ov rfl (fun a f=>run_assign rfl rfl) fun a f=>wn ?_)
 refine wp_ret ?_
 repeat with_reducible first|apply tr|apply ir|apply nr
 refine ret1_gw (.inl rfl) f rfl (res_tmp (f.ev rfl)) ?_
 obtain rfl:=Option.some.inj hM
 exact ⟨rfl,S.sel [] rfl rfl⟩
theorem c_laws_eqWork {x0:List Bool} {x1:List Bool} {x2:List (Int×Int)} {x3:List Bool} {x4:List Bool} {x5:List (Int×Int)} {A0:Option Addr} {n0 c0:Nat} {A1:Option Addr} {n1 c1:Nat} {A2:Option Addr} {n2 c2:Nat} {A3:Option Addr} {n3 c3:Nat} {A4:Option Addr} {n4 c4:Nat} {A5:Option Addr} {n5 c5:Nat} {w:World} {r:Bool} (h0:Rt w 1 eB A0 n0 c0 x0) (h1:Rt w 1 eB A1 n1 c1 x1) (h2:Rt w 2 ePermit A2 n2 c2 x2) (h3:Rt w 1 eB A3 n3 c3 x3) (h4:Rt w 1 eB A4 n4 c4 x4) (h5:Rt w 2 ePermit A5 n5 c5 x5) (hM : m_laws_eqWork x0 x1 x2 x3 x4 x5=some r) :
  Calls Tryz.prog 38 #[.agg #[.slice A0 n0 c0,.slice A1 n1 c1,.slice A2 n2 c2],.agg #[.slice A3 n3 c3,.slice A4 n4 c4,.slice A5 n5 c5]] w (fun e w'=>e=.returned (.bool r)∧St w w' []):=by
 obtain rfl:=h0.len
 obtain rfl:=h1.len
 obtain rfl:=h2.len
 obtain rfl:=h3.len
 obtain rfl:=h4.len
 obtain rfl:=h5.len
 unfold m_laws_eqWork at hM
 refine calls_gx Tryz.func38 Tryz.ntmps38 rfl rfl ?_
 intro a f
 have S:=St.nil w
 refine wsg ?_
 refine op_new (cs:=#[.slice A0 x0.length c0,.slice A1 x1.length c1,.slice A2 x2.length c2]) rfl rfl f rfl S (run_box rfl (f.ev rfl) rfl) ?_;clear f S;intro a g101 u f S
 refine op_new (cs:=#[.slice A3 x3.length c3,.slice A4 x4.length c4,.slice A5 x5.length c5]) rfl rfl f rfl S (run_box rfl (f.ev rfl) rfl) ?_;clear f S;intro a g102 u f S
 revert a;refine ov rfl (fun a f=>run_assign rfl rfl) fun a f=>wn ?_
 refine ws ?_
 revert a;refine sr (ov rfl (fun a f=>run_fieldAddr rfl fl41_0 (f.ev rfl) rfl) (ov rfl (fun a f=>run_load1 rfl one26 (f.ev rfl) (S.cell 1 rfl rfl)) (ov rfl (fun a f=>run_fieldAddr rfl fl41_0 (f.ev rfl) rfl) (ov rfl (fun a f=>run_load1 rfl one26 (f.ev rfl) (S.cell 0 rfl rfl)) fun a f=>?_))))
 obtain ⟨p103,h103,hM⟩:=bind_ex hM
 refine op_call rfl rfl f rfl (run_call (vs:=[_,_]) rfl rfl co79 ⟨(f.ev rfl),(f.ev rfl),trivial⟩) (c_laws_eqBoolS ⟨(S.rc0 h0.rc),rfl⟩ ⟨(S.rc0 h3.rc),rfl⟩ h103) ?_
 rintro e u ⟨rfl,T⟩
 refine ⟨_,rfl,?_⟩
 clear f;intro a f
 replace S:=S.call0 T;clear T
 revert a;refine ov rfl (fun a f=>run_not rfl (f.ev rfl)) fun a f=>wn ?_
 cases hc104:(p103)
 ·replace hM:=bif_f hc104 hM
  refine cond_t f rfl (not_t hc104) ?_
  revert a;refine sr (ov rfl (fun a f=>run_assign rfl rfl) fun a f=>wn ?_)
  refine wp_ret ?_
  repeat with_reducible first|apply tr|apply ir|apply nr
  refine ret1_gw (.inl rfl) f rfl (res_tmp (f.ev rfl)) ?_
  obtain rfl:=Option.some.inj hM
  exact ⟨rfl,S.sel [] rfl rfl⟩
 replace hM:=bif_t hc104 hM
 refine cond_f f rfl (not_f hc104) ?_
 refine wp_skip ?_
 refine ws ?_
 revert a;refine sr (ov rfl (fun a f=>run_fieldAddr rfl fl41_1 (f.ev rfl) rfl) (ov rfl (fun a f=>run_load1 rfl one26 (f.ev rfl) (S.cell 1 rfl rfl)) (ov rfl (fun a f=>run_fieldAddr rfl fl41_1 (f.ev rfl) rfl) (ov rfl (fun a f=>run_load1 rfl one26 (f.ev rfl) (S.cell 0 rfl rfl)) fun a f=>?_))))
 obtain ⟨p105,h105,hM⟩:=bind_ex hM
 refine op_call rfl rfl f rfl (run_call (vs:=[_,_]) rfl rfl co79 ⟨(f.ev rfl),(f.ev rfl),trivial⟩) (c_laws_eqBoolS ⟨(S.rc0 h1.rc),rfl⟩ ⟨(S.rc0 h4.rc),rfl⟩ h105) ?_
 rintro e u ⟨rfl,T⟩
 refine ⟨_,rfl,?_⟩
 clear f;intro a f
 replace S:=S.call0 T;clear T
 revert a;refine ov rfl (fun a f=>run_not rfl (f.ev rfl)) fun a f=>wn ?_
 cases hc106:(p105)
 ·replace hM:=bif_f hc106 hM
  refine cond_t f rfl (not_t hc106) ?_
  revert a;refine sr (ov rfl (fun a f=>run_assign rfl rfl) fun a f=>wn ?_)
  refine wp_ret ?_
  repeat with_reducible first|apply tr|apply ir|apply nr
  refine ret1_gw (.inl rfl) f rfl (res_tmp (f.ev rfl)) ?_
  obtain rfl:=Option.some.inj hM
  exact ⟨rfl,S.sel [] rfl rfl⟩
 replace hM:=bif_t hc106 hM
 refine cond_f f rfl (not_f hc106) ?_
 refine wp_skip ?_
 refine ws ?_
 revert a;refine sr (ov rfl (fun a f=>run_fieldAddr rfl fl41_2 (f.ev rfl) rfl) (ov rfl (fun a f=>run_load1 rfl one39 (f.ev rfl) (S.cell 1 rfl rfl)) (ov rfl (fun a f=>run_fieldAddr rfl fl41_2 (f.ev rfl) rfl) (ov rfl (fun a f=>run_load1 rfl one39 (f.ev rfl) (S.cell 0 rfl rfl)) fun a f=>?_))))
 obtain ⟨p107,h107,hM⟩:=bind_ex hM
 refine op_call rfl rfl f rfl (run_call (vs:=[_,_]) rfl rfl co80 ⟨(f.ev rfl),(f.ev rfl),trivial⟩) (c_laws_eqPermitS ⟨(S.rc0 h2.rc),rfl⟩ ⟨(S.rc0 h5.rc),rfl⟩ h107) ?_
 rintro e u ⟨rfl,T⟩
 refine ⟨_,rfl,?_⟩
 clear f;intro a f
 replace S:=S.call0 T;clear T
 revert a;refine ov rfl (fun a f=>run_not rfl (f.ev rfl)) fun a f=>wn ?_
 cases hc108:(p107)
 ·replace hM:=bif_f hc108 hM
  refine cond_t f rfl (not_t hc108) ?_
  revert a;refine sr (ov rfl (fun a f=>run_assign rfl rfl) fun a f=>wn ?_)
  refine wp_ret ?_
  repeat with_reducible first|apply tr|apply ir|apply nr
  refine ret1_gw (.inl rfl) f rfl (res_tmp (f.ev rfl)) ?_
  obtain rfl:=Option.some.inj hM
  exact ⟨rfl,S.sel [] rfl rfl⟩
 replace hM:=bif_t hc108 hM
 refine cond_f f rfl (not_f hc108) ?_
 refine wp_skip ?_
 revert a;refine sr (ov rfl (fun a f=>run_assign rfl rfl) fun a f=>wn ?_)
 refine wp_ret ?_
 refine ret1_gw (.inl rfl) f rfl (res_tmp (f.ev rfl)) ?_
 obtain rfl:=Option.some.inj hM
 exact ⟨rfl,S.sel [] rfl rfl⟩
theorem c_laws_eqIntS {x0:List Int} {x1:List Int} {A0:Option Addr} {n0 c0:Nat} {A1:Option Addr} {n1 c1:Nat} {w:World} {r:Bool} (h0:Rt w 1 eI A0 n0 c0 x0) (h1:Rt w 1 eI A1 n1 c1 x1) (hM : m_laws_eqIntS x0 x1=some r) :
  Calls Tryz.prog 39 #[.slice A0 n0 c0,.slice A1 n1 c1] w (fun e w'=>e=.returned (.bool r)∧St w w' []):=by
 obtain rfl:=h0.len
 obtain rfl:=h1.len
 unfold m_laws_eqIntS at hM
 refine calls_gx Tryz.func39 Tryz.ntmps39 rfl rfl ?_
 intro a f
 have S:=St.nil w
 revert a;refine sr (ov rfl (fun a f=>run_assign rfl rfl) fun a f=>wn ?_)
 refine ws ?_
 revert a;refine sr (mv rfl rfl (ov rfl (fun a f=>run_lenL rfl rfl Tryz.underlying30 (f.ev rfl)) (mv rfl rfl (ov rfl (fun a f=>run_lenL rfl rfl Tryz.underlying30 (f.ev rfl)) (ov rfl (fun a f=>run_neq (f.ev rfl) (f.ev rfl) rfl) fun a f=>wn ?_)))))
 cases hc101:((x0.length:Int) != (x1.length:Int))
 ·replace hM:=bif_f hc101 hM
  refine cond_f f rfl hc101 ?_
  refine wp_skip ?_
  refine ws ?_
  revert a;refine sr (ov rfl (fun a f=>run_assign rfl rfl) fun a f=>wn ?_)
  obtain ⟨o103,hM104,hM⟩:=bind_ex hM
  refine wp_cut (fun a u=>∃ (p102:Unit),(Sum.inl p102)=o103∧Fr a 26 [(4,.bool false)]∧St w u []) ?_ ?_
  ·have _:=trivial
   refine wp_block ?_
   refine loop_gw (fun m a u=>∃ (p105:Int),m_laws_eqIntS_l1 x0 x1 m p105=some _∧Fr a 26 [(0,.slice A0 x0.length c0),(1,.slice A1 x1.length c1),(4,.bool false),(5,iv p105)]∧St w u []) FUEL ⟨0,hM104,f.keep _ ⟨rfl,rfl,rfl,rfl,trivial⟩,S.sel [] rfl rfl⟩ ?_
   clear f S hM104;rintro m a u ⟨p105,hM104,f,S⟩
   rcases m with _ | f1
   ·exact none_some hM104
   rw [m_laws_eqIntS_l1.eq_2] at hM104
   refine ws ?_
   revert a;refine sr (mv rfl rfl (mv rfl rfl (ov rfl (fun a f=>run_lenL rfl rfl Tryz.underlying30 (f.ev rfl)) (ov rfl (fun a f=>run_lss (f.ev rfl) (f.ev rfl) rfl) fun a f=>wn ?_))))
   cases hc106:(ltB p105 (x0.length:Int))
   ·replace hM104:=bif_f hc106 hM104
    refine cond_f f rfl hc106 ?_
    refine wp_exit ?_
    repeat with_reducible first|apply then_exit|apply in_hit|refine in_miss rfl ?_
    obtain rfl:=Option.some.inj hM104
    exact ⟨(),rfl,f.keep _ ⟨rfl,trivial⟩,S.sel [] rfl rfl⟩
   replace hM104:=bif_t hc106 hM104
   refine cond_t f rfl hc106 ?_
   refine wp_skip ?_
   refine ws ?_
   refine wp_block ?_
   refine ws ?_
   obtain ⟨hk107,hM104⟩:=chk_ex hM104
   replace hk107:=ixB_t hk107
   obtain ⟨hk108,hM104⟩:=chk_ex hM104
   replace hk108:=ixB_t hk108
   refine region_gw (D:=[17,18,19,20,21,22,23,24,25]) (Lr:=[]) (deps:=(fun | 0=>[17] | 1=>[18] | 2=>[19] | 3=>[20] | 4=>[21] | 5=>[22] | 6=>[23] | 7=>[24] | 8=>[25] | _=>[])) (rd:=(fun _=>[])) (zr:=(fun _=>[]))
    (φ:=fun i vs=>match i,vs with | 0,[v17]=>v17=.slice A0 x0.length c0 | 1,[v18]=>v18=iv p105 | 2,[v19]=>v19=.pointer (some ⟨adB A0,adO A0+p105.toNat*1,none⟩) | 3,[v20]=>v20=iv (x0.getD p105.toNat 0) | 4,[v21]=>v21=.slice A1 x1.length c1 | 5,[v22]=>v22=iv p105 | 6,[v23]=>v23=.pointer (some ⟨adB A1,adO A1+p105.toNat*1,none⟩) | 7,[v24]=>v24=iv (x1.getD p105.toNat 0) | 8,[v25]=>v25=.bool ((x0.getD p105.toNat 0) != (x1.getD p105.toNat 0)) | _,_=>True)
    (C:=fun _ _=>[])
    (κ:=(fun _=>none)) (Z:=(fun _=>[])) mixed f (by kernel_rfl) S ?_ ?_
   ·refine ⟨?_,?_,?_,?_,?_,?_,?_,?_,?_,trivial⟩
    ·intro a u X hB hu p hr hz hl S
     exact .inl ⟨rfl,_,u,(run_move rfl (f.evB hB rfl rfl)),rfl,S⟩
    ·intro a u X hB hu p hr hz hl S
     exact .inl ⟨rfl,_,u,(run_move rfl (f.evB hB rfl rfl)),rfl,S⟩
    ·intro a u X hB hu p hr hz hl S
     exact .inl ⟨rfl,_,u,(run_ix rfl Tryz.underlying30 sz3 (ev_sl (p 0 rfl)) (S.rc0 h0.rc) (ev_sl (p 1 rfl)) hk107),rfl,S⟩
    ·intro a u X hB hu p hr hz hl S
     exact .inl ⟨rfl,_,u,(run_load1 rfl one3 (ev_sl (p 2 rfl)) (rd_el0 (l:=x0) (S.rc0 h0.rc).rd rfl eI_len 0 (ix_ltn hk107 rfl) rfl)),rfl,S⟩
    ·intro a u X hB hu p hr hz hl S
     exact .inl ⟨rfl,_,u,(run_move rfl (f.evB hB rfl rfl)),rfl,S⟩
    ·intro a u X hB hu p hr hz hl S
     exact .inl ⟨rfl,_,u,(run_move rfl (f.evB hB rfl rfl)),rfl,S⟩
    ·intro a u X hB hu p hr hz hl S
     exact .inl ⟨rfl,_,u,(run_ix rfl Tryz.underlying30 sz3 (ev_sl (p 4 rfl)) (S.rc0 h1.rc) (ev_sl (p 5 rfl)) hk108),rfl,S⟩
    ·intro a u X hB hu p hr hz hl S
     exact .inl ⟨rfl,_,u,(run_load1 rfl one3 (ev_sl (p 6 rfl)) (rd_el0 (l:=x1) (S.rc0 h1.rc).rd rfl eI_len 0 (ix_ltn hk108 rfl) rfl)),rfl,S⟩
    intro a u X hB hu p hr hz hl S
    exact .inl ⟨rfl,_,u,(run_neq (ev_sl (p 3 rfl)) (ev_sl (p 7 rfl)) rfl),rfl,S⟩
   intro a u hB hp S
   obtain ⟨q0,q1,q2,q3,q4,q5,q6,q7,q8,-⟩:=hp
   replace S:St w u []:=S
   have f:=f.region hB [(17,_),(18,_),(19,_),(20,_),(21,_),(22,_),(23,_),(24,_),(25,_)] (allSl_mem ⟨q0,q1,q2,q3,q4,q5,q6,q7,q8,trivial⟩) rfl
   clear hB q0 q1 q2 q3 q4 q5 q6 q7 q8
   cases hc109:((x0.getD p105.toNat 0) != (x1.getD p105.toNat 0))
   ·replace hM104:=bif_f hc109 hM104
    refine cond_f f rfl hc109 ?_
    refine wp_skip ?_
    revert a;refine rl (mv rfl rfl (ov rfl (fun a f=>run_add (z:=w64 (p105+1)) (f.ev rfl) rfl rfl rfl) (ag rfl rfl fun a f=>wn ?_)))
    exact ⟨f1,Nat.lt_succ_self _,w64 (p105+1),hM104,f.keep _ ⟨rfl,rfl,rfl,rfl,trivial⟩,S.sel [] rfl rfl⟩
   replace hM104:=bif_t hc109 hM104
   refine cond_t f rfl hc109 ?_
   revert a;refine sr (ov rfl (fun a f=>run_assign rfl rfl) fun a f=>wn ?_)
   refine wp_ret ?_
   repeat with_reducible first|apply tr|apply ir|apply nr
   refine ret1_gw (.inl rfl) f rfl (res_tmp (f.ev rfl)) ?_
   obtain rfl:=Option.some.inj hM104
   obtain rfl:=Option.some.inj hM
   exact ⟨rfl,S.sel [] rfl rfl⟩
  rintro a u ⟨p102,rfl,f,S⟩
  replace hM:=elim_l hM
  revert a;refine sr (ov rfl (fun a f=>run_assign rfl rfl) fun a f=>wn ?_)
  refine wp_ret ?_
  refine ret1_gw (.inl rfl) f rfl (res_tmp (f.ev rfl)) ?_
  obtain rfl:=Option.some.inj hM
  exact ⟨rfl,S.sel [] rfl rfl⟩
 replace hM:=bif_t hc101 hM
 refine cond_t f rfl hc101 ?_
 revert a;refine sr (ov rfl (fun a f=>run_assign rfl rfl) fun a f=>wn ?_)
 refine wp_ret ?_
 repeat with_reducible first|apply tr|apply ir|apply nr
 refine ret1_gw (.inl rfl) f rfl (res_tmp (f.ev rfl)) ?_
 obtain rfl:=Option.some.inj hM
 exact ⟨rfl,S.sel [] rfl rfl⟩
theorem c_laws_eqWorld {x0:Int} {x1:List (Int×Int×Int)} {x2:List (Int×Int)} {x3:List Bool} {x4:List Bool} {x5:List (Int×Int)} {x6:List Int} {x7:Int} {x8:List (Int×Int×Int)} {x9:List (Int×Int)} {x10:List Bool} {x11:List Bool} {x12:List (Int×Int)} {x13:List Int} {A1:Option Addr} {n1 c1:Nat} {A2:Option Addr} {n2 c2:Nat} {A3:Option Addr} {n3 c3:Nat} {A4:Option Addr} {n4 c4:Nat} {A5:Option Addr} {n5 c5:Nat} {A6:Option Addr} {n6 c6:Nat} {A8:Option Addr} {n8 c8:Nat} {A9:Option Addr} {n9 c9:Nat} {A10:Option Addr} {n10 c10:Nat} {A11:Option Addr} {n11 c11:Nat} {A12:Option Addr} {n12 c12:Nat} {A13:Option Addr} {n13 c13:Nat} {w:World} {r:Bool} (h1:Rt w 3 eLine A1 n1 c1 x1) (h2:Rt w 2 eBus A2 n2 c2 x2) (h3:Rt w 1 eB A3 n3 c3 x3) (h4:Rt w 1 eB A4 n4 c4 x4) (h5:Rt w 2 ePermit A5 n5 c5 x5) (h6:Rt w 1 eI A6 n6 c6 x6) (h8:Rt w 3 eLine A8 n8 c8 x8) (h9:Rt w 2 eBus A9 n9 c9 x9) (h10:Rt w 1 eB A10 n10 c10 x10) (h11:Rt w 1 eB A11 n11 c11 x11) (h12:Rt w 2 ePermit A12 n12 c12 x12) (h13:Rt w 1 eI A13 n13 c13 x13) (hM : m_laws_eqWorld x0 x1 x2 x3 x4 x5 x6 x7 x8 x9 x10 x11 x12 x13=some r) :
  Calls Tryz.prog 11 #[.agg #[iv x0,.slice A1 n1 c1,.slice A2 n2 c2,.slice A3 n3 c3,.slice A4 n4 c4,.slice A5 n5 c5,.slice A6 n6 c6],.agg #[iv x7,.slice A8 n8 c8,.slice A9 n9 c9,.slice A10 n10 c10,.slice A11 n11 c11,.slice A12 n12 c12,.slice A13 n13 c13]] w (fun e w'=>e=.returned (.bool r)∧St w w' []):=by
 obtain rfl:=h1.len
 obtain rfl:=h2.len
 obtain rfl:=h3.len
 obtain rfl:=h4.len
 obtain rfl:=h5.len
 obtain rfl:=h6.len
 obtain rfl:=h8.len
 obtain rfl:=h9.len
 obtain rfl:=h10.len
 obtain rfl:=h11.len
 obtain rfl:=h12.len
 obtain rfl:=h13.len
 unfold m_laws_eqWorld at hM
 refine calls_gx Tryz.func11 Tryz.ntmps11 rfl rfl ?_
 intro a f
 have S:=St.nil w
 refine wsg ?_
 refine op_new (cs:=#[iv x0,.slice A1 x1.length c1,.slice A2 x2.length c2,.slice A3 x3.length c3,.slice A4 x4.length c4,.slice A5 x5.length c5,.slice A6 x6.length c6]) rfl rfl f rfl S (run_box rfl (f.ev rfl) rfl) ?_;clear f S;intro a g101 u f S
 refine op_new (cs:=#[iv x7,.slice A8 x8.length c8,.slice A9 x9.length c9,.slice A10 x10.length c10,.slice A11 x11.length c11,.slice A12 x12.length c12,.slice A13 x13.length c13]) rfl rfl f rfl S (run_box rfl (f.ev rfl) rfl) ?_;clear f S;intro a g102 u f S
 revert a;refine ov rfl (fun a f=>run_assign rfl rfl) fun a f=>wn ?_
 refine ws ?_
 revert a;refine sr (ov rfl (fun a f=>run_fieldAddr rfl fl43_0 (f.ev rfl) rfl) (ov rfl (fun a f=>run_loadN rfl ag37 (f.ev rfl) rfl ((S.free 1 rfl).cells 0 #[iv x0,.slice A1 x1.length c1] rfl)) (ov rfl (fun a f=>run_fieldAddr rfl fl43_0 (f.ev rfl) rfl) (ov rfl (fun a f=>run_loadN rfl ag37 (f.ev rfl) rfl ((S.free 0 rfl).cells 0 #[iv x7,.slice A8 x8.length c8] rfl)) fun a f=>?_))))
 obtain ⟨p103,h103,hM⟩:=bind_ex hM
 refine op_call rfl rfl f rfl (run_call (vs:=[_,_]) rfl rfl co36 ⟨(f.ev rfl),(f.ev rfl),trivial⟩) (c_laws_eqNet ⟨(S.rc0 h1.rc),rfl⟩ ⟨(S.rc0 h8.rc),rfl⟩ h103) ?_
 rintro e u ⟨rfl,T⟩
 refine ⟨_,rfl,?_⟩
 clear f;intro a f
 replace S:=S.call0 T;clear T
 revert a;refine ov rfl (fun a f=>run_not rfl (f.ev rfl)) fun a f=>wn ?_
 cases hc104:(p103)
 ·replace hM:=bif_f hc104 hM
  refine cond_t f rfl (not_t hc104) ?_
  revert a;refine sr (ov rfl (fun a f=>run_assign rfl rfl) fun a f=>wn ?_)
  refine wp_ret ?_
  repeat with_reducible first|apply tr|apply ir|apply nr
  refine ret1_gw (.inl rfl) f rfl (res_tmp (f.ev rfl)) ?_
  obtain rfl:=Option.some.inj hM
  exact ⟨rfl,S.sel [] rfl rfl⟩
 replace hM:=bif_t hc104 hM
 refine cond_f f rfl (not_f hc104) ?_
 refine wp_skip ?_
 refine ws ?_
 revert a;refine sr (ov rfl (fun a f=>run_fieldAddr rfl fl43_1 (f.ev rfl) rfl) (ov rfl (fun a f=>run_load1 rfl one38 (f.ev rfl) (S.cell 1 rfl rfl)) (ov rfl (fun a f=>run_fieldAddr rfl fl43_1 (f.ev rfl) rfl) (ov rfl (fun a f=>run_load1 rfl one38 (f.ev rfl) (S.cell 0 rfl rfl)) fun a f=>?_))))
 obtain ⟨p105,h105,hM⟩:=bind_ex hM
 refine op_call rfl rfl f rfl (run_call (vs:=[_,_]) rfl rfl co37 ⟨(f.ev rfl),(f.ev rfl),trivial⟩) (c_laws_eqBusS ⟨(S.rc0 h2.rc),rfl⟩ ⟨(S.rc0 h9.rc),rfl⟩ h105) ?_
 rintro e u ⟨rfl,T⟩
 refine ⟨_,rfl,?_⟩
 clear f;intro a f
 replace S:=S.call0 T;clear T
 revert a;refine ov rfl (fun a f=>run_not rfl (f.ev rfl)) fun a f=>wn ?_
 cases hc106:(p105)
 ·replace hM:=bif_f hc106 hM
  refine cond_t f rfl (not_t hc106) ?_
  revert a;refine sr (ov rfl (fun a f=>run_assign rfl rfl) fun a f=>wn ?_)
  refine wp_ret ?_
  repeat with_reducible first|apply tr|apply ir|apply nr
  refine ret1_gw (.inl rfl) f rfl (res_tmp (f.ev rfl)) ?_
  obtain rfl:=Option.some.inj hM
  exact ⟨rfl,S.sel [] rfl rfl⟩
 replace hM:=bif_t hc106 hM
 refine cond_f f rfl (not_f hc106) ?_
 refine wp_skip ?_
 refine ws ?_
 revert a;refine sr (ov rfl (fun a f=>run_fieldAddr rfl fl43_2 (f.ev rfl) rfl) (ov rfl (fun a f=>run_loadN rfl ag41 (f.ev rfl) rfl ((S.free 1 rfl).cells 3 #[.slice A3 x3.length c3,.slice A4 x4.length c4,.slice A5 x5.length c5] rfl)) (ov rfl (fun a f=>run_fieldAddr rfl fl43_2 (f.ev rfl) rfl) (ov rfl (fun a f=>run_loadN rfl ag41 (f.ev rfl) rfl ((S.free 0 rfl).cells 3 #[.slice A10 x10.length c10,.slice A11 x11.length c11,.slice A12 x12.length c12] rfl)) fun a f=>?_))))
 obtain ⟨p107,h107,hM⟩:=bind_ex hM
 refine op_call rfl rfl f rfl (run_call (vs:=[_,_]) rfl rfl co38 ⟨(f.ev rfl),(f.ev rfl),trivial⟩) (c_laws_eqWork ⟨(S.rc0 h3.rc),rfl⟩ ⟨(S.rc0 h4.rc),rfl⟩ ⟨(S.rc0 h5.rc),rfl⟩ ⟨(S.rc0 h10.rc),rfl⟩ ⟨(S.rc0 h11.rc),rfl⟩ ⟨(S.rc0 h12.rc),rfl⟩ h107) ?_
 rintro e u ⟨rfl,T⟩
 refine ⟨_,rfl,?_⟩
 clear f;intro a f
 replace S:=S.call0 T;clear T
 revert a;refine ov rfl (fun a f=>run_not rfl (f.ev rfl)) fun a f=>wn ?_
 cases hc108:(p107)
 ·replace hM:=bif_f hc108 hM
  refine cond_t f rfl (not_t hc108) ?_
  revert a;refine sr (ov rfl (fun a f=>run_assign rfl rfl) fun a f=>wn ?_)
  refine wp_ret ?_
  repeat with_reducible first|apply tr|apply ir|apply nr
  refine ret1_gw (.inl rfl) f rfl (res_tmp (f.ev rfl)) ?_
  obtain rfl:=Option.some.inj hM
  exact ⟨rfl,S.sel [] rfl rfl⟩
 replace hM:=bif_t hc108 hM
 refine cond_f f rfl (not_f hc108) ?_
 refine wp_skip ?_
 refine ws ?_
 revert a;refine sr (ov rfl (fun a f=>run_fieldAddr rfl fl43_3 (f.ev rfl) rfl) (ov rfl (fun a f=>run_load1 rfl one30 (f.ev rfl) (S.cell 1 rfl rfl)) (ov rfl (fun a f=>run_fieldAddr rfl fl43_3 (f.ev rfl) rfl) (ov rfl (fun a f=>run_load1 rfl one30 (f.ev rfl) (S.cell 0 rfl rfl)) fun a f=>?_))))
 obtain ⟨p109,h109,hM⟩:=bind_ex hM
 refine op_call rfl rfl f rfl (run_call (vs:=[_,_]) rfl rfl co39 ⟨(f.ev rfl),(f.ev rfl),trivial⟩) (c_laws_eqIntS ⟨(S.rc0 h6.rc),rfl⟩ ⟨(S.rc0 h13.rc),rfl⟩ h109) ?_
 rintro e u ⟨rfl,T⟩
 refine ⟨_,rfl,?_⟩
 clear f;intro a f
 replace S:=S.call0 T;clear T
 revert a;refine ov rfl (fun a f=>run_not rfl (f.ev rfl)) fun a f=>wn ?_
 cases hc110:(p109)
 ·replace hM:=bif_f hc110 hM
  refine cond_t f rfl (not_t hc110) ?_
  revert a;refine sr (ov rfl (fun a f=>run_assign rfl rfl) fun a f=>wn ?_)
  refine wp_ret ?_
  repeat with_reducible first|apply tr|apply ir|apply nr
  refine ret1_gw (.inl rfl) f rfl (res_tmp (f.ev rfl)) ?_
  obtain rfl:=Option.some.inj hM
  exact ⟨rfl,S.sel [] rfl rfl⟩
 replace hM:=bif_t hc110 hM
 refine cond_f f rfl (not_f hc110) ?_
 refine wp_skip ?_
 revert a;refine sr (ov rfl (fun a f=>run_assign rfl rfl) fun a f=>wn ?_)
 refine wp_ret ?_
 refine ret1_gw (.inl rfl) f rfl (res_tmp (f.ev rfl)) ?_
 obtain rfl:=Option.some.inj hM
 exact ⟨rfl,S.sel [] rfl rfl⟩
end Go.Proofs.YtcmnjaccapbhfaaGreat
