/- Calls return what the models say. -/
import Derived.Test.YtcmnjaccapbhfaaGreatQSq
import Derived.Test.YtcmnjaccapbhfaaGreatQDa4
namespace Go.Proofs.YtcmnjaccapbhfaaGreat
open Go.ChangeShapes Go.WideShapes Go.ChangeAt Go.RowKit
set_option linter.unusedVariables false
set_option maxHeartbeats 4000000
set_option linter.unusedSimpArgs false
theorem c_impl_WorldValid {x0:Int} {x1:List (Int×Int×Int)} {x2:List (Int×Int)} {x3:List Bool} {x4:List Bool} {x5:List (Int×Int)} {x6:List Int} {A1:Option Addr} {n1 c1:Nat} {A2:Option Addr} {n2 c2:Nat} {A3:Option Addr} {n3 c3:Nat} {A4:Option Addr} {n4 c4:Nat} {A5:Option Addr} {n5 c5:Nat} {A6:Option Addr} {n6 c6:Nat} {w:World} {r:Bool} (h1:Rt w 3 eLine A1 n1 c1 x1) (h2:Rt w 2 eBus A2 n2 c2 x2) (h3:Rt w 1 eB A3 n3 c3 x3) (h4:Rt w 1 eB A4 n4 c4 x4) (h5:Rt w 2 ePermit A5 n5 c5 x5) (h6:Rt w 1 eI A6 n6 c6 x6) (hM : m_impl_WorldValid x0 x1 x2 x3 x4 x5 x6=some r) :
  Calls Tryz.prog 35 #[.agg #[iv x0,.slice A1 n1 c1,.slice A2 n2 c2,.slice A3 n3 c3,.slice A4 n4 c4,.slice A5 n5 c5,.slice A6 n6 c6]] w (fun e w'=>e=.returned (.bool r)∧St w w' []):=by
 obtain rfl:=h1.len
 obtain rfl:=h2.len
 obtain rfl:=h3.len
 obtain rfl:=h4.len
 obtain rfl:=h5.len
 obtain rfl:=h6.len
 unfold m_impl_WorldValid at hM
 refine calls_gx Tryz.func35 Tryz.ntmps35 rfl rfl ?_
 intro a f
 have S:=St.nil w
 refine wsg ?_
 refine op_new (cs:=#[iv x0,.slice A1 x1.length c1,.slice A2 x2.length c2,.slice A3 x3.length c3,.slice A4 x4.length c4,.slice A5 x5.length c5,.slice A6 x6.length c6]) rfl rfl f rfl S (run_box rfl (f.ev rfl) rfl) ?_;clear f S;intro a g101 u f S
 revert a;refine ov rfl (fun a f=>run_assign rfl rfl) fun a f=>wn ?_
 refine ws ?_
 revert a;refine sr (ov rfl (fun a f=>run_fieldAddr rfl fl43_0 (f.ev rfl) rfl) (ov rfl (fun a f=>run_loadN rfl ag37 (f.ev rfl) rfl ((S.free 0 rfl).cells 0 #[iv x0,.slice A1 x1.length c1] rfl)) (ov rfl (fun a f=>run_fieldAddr rfl fl43_1 (f.ev rfl) rfl) (ov rfl (fun a f=>run_load1 rfl one38 (f.ev rfl) (S.cell 0 rfl rfl)) fun a f=>?_))))
 obtain ⟨p102,h102,hM⟩:=bind_ex hM
 refine op_call rfl rfl f rfl (run_call (vs:=[_,_]) rfl rfl co74 ⟨(f.ev rfl),(f.ev rfl),trivial⟩) (c_impl_BusesValid ⟨(S.rc0 h1.rc),rfl⟩ ⟨(S.rc0 h2.rc),rfl⟩ h102) ?_
 rintro e u ⟨rfl,T⟩
 refine ⟨_,rfl,?_⟩
 clear f;intro a f
 replace S:=S.call0 T;clear T
 revert a;refine ov rfl (fun a f=>run_not rfl (f.ev rfl)) (mv rfl rfl fun a f=>?_)
 revert a;refine gf rfl rfl rfl rfl (fun a f hg=>run_fieldAddr rfl fl43_2 (f.ev rfl) rfl) (gf rfl rfl rfl rfl (fun a f hg=>run_loadN rfl ag41 ((f.ev rfl).trans (gv_t hg)) rfl ((S.free 0 rfl).cells 3 #[.slice A3 x3.length c3,.slice A4 x4.length c4,.slice A5 x5.length c5] rfl)) fun a f=>?_)
 obtain ⟨p103,h103,hM⟩:=bind_ex hM
 refine op_gcall (v:=.bool p103) rfl rfl f rfl S (yf (gw_yield f rfl rfl rfl)) (fun hg=>(run_call (vs:=[.agg #[.slice A3 x3.length c3,.slice A4 x4.length c4,.slice A5 x5.length c5]]) rfl rfl co75 ⟨((f.ev rfl).trans (gv_t hg)),trivial⟩)) (fun hg=>c_impl_WorkValid (x0:=x3) (x1:=x4) (x2:=x5) ⟨(S.rc0 h3.rc),rfl⟩ ⟨(S.rc0 h4.rc),rfl⟩ ⟨(S.rc0 h5.rc),rfl⟩ (gb_t h103 hg)) ?_;clear f S;intro a u f S
 revert a;refine gf rfl rfl rfl rfl (fun a f hg=>run_not rfl ((f.ev rfl).trans (gv_t hg))) fun a f=>?_
 revert a;refine ov rfl (fun a f=>run_pick_or rfl (f.ev rfl) rfl (fun hp=>((f.ev rfl).trans (gv_t (not_t hp))))) (mv rfl rfl fun a f=>?_)
 revert a;refine gf rfl rfl rfl rfl (fun a f hg=>run_fieldAddr rfl fl43_2 (f.ev rfl) rfl) (gf rfl rfl rfl rfl (fun a f hg=>run_fieldAddr rfl fl41_0 ((f.ev rfl).trans (gv_t hg)) rfl) (gf rfl rfl rfl rfl (fun a f hg=>run_load1 rfl one26 ((f.ev rfl).trans (gv_t hg)) (S.cell 0 rfl rfl)) (gf rfl rfl rfl rfl (fun a f hg=>run_lenL rfl rfl Tryz.underlying26 ((f.ev rfl).trans (gv_t hg))) (gf rfl rfl rfl rfl (fun a f hg=>run_fieldAddr rfl fl43_0 (f.ev rfl) rfl) (gf rfl rfl rfl rfl (fun a f hg=>run_fieldAddr rfl fl37_1 ((f.ev rfl).trans (gv_t hg)) rfl) (gf rfl rfl rfl rfl (fun a f hg=>run_load1 rfl one35 ((f.ev rfl).trans (gv_t hg)) (S.cell 0 rfl rfl)) (gf rfl rfl rfl rfl (fun a f hg=>run_lenL rfl rfl Tryz.underlying35 ((f.ev rfl).trans (gv_t hg))) (gf rfl rfl rfl rfl (fun a f hg=>run_neq ((f.ev rfl).trans (gv_t hg)) ((f.ev rfl).trans (gv_t hg)) rfl) (ov rfl (fun a f=>run_pick_or rfl (f.ev rfl) rfl (fun hp=>((f.ev rfl).trans (gv_t (not_t hp))))) fun a f=>wn ?_)))))))))
 cases hc104:(((!p102)||(!p103))||((x3.length:Int) != (x1.length:Int)))
 ·replace hM:=bif_f hc104 hM
  refine cond_f f rfl hc104 ?_
  refine wp_skip ?_
  refine ws ?_
  revert a;refine sr (ov rfl (fun a f=>run_fieldAddr rfl fl43_3 (f.ev rfl) rfl) (ov rfl (fun a f=>run_load1 rfl one30 (f.ev rfl) (S.cell 0 rfl rfl)) (ov rfl (fun a f=>run_lenL rfl rfl Tryz.underlying30 (f.ev rfl)) (ov rfl (fun a f=>run_move rfl rfl) fun a f=>wn ?_))))
  obtain ⟨o106,hM107,hM⟩:=bind_ex hM
  refine wp_cut (fun a u=>∃ (p105:Unit),(Sum.inl p105)=o106∧Fr a 72 [(1,.pointer (some ⟨g101,0,none⟩)),(2,.bool false)]∧St w u [.box g101 43 #[iv x0,.slice A1 x1.length c1,.slice A2 x2.length c2,.slice A3 x3.length c3,.slice A4 x4.length c4,.slice A5 x5.length c5,.slice A6 x6.length c6]]) ?_ ?_
  ·have _:=trivial
   refine wp_block ?_
   refine loop_gw (fun m a u=>∃ (p108:Int),m_impl_WorldValid_l1 x0 x1 x3 x6 m p108=some _∧Fr a 72 [(1,.pointer (some ⟨g101,0,none⟩)),(2,.bool false),(29,.slice A6 x6.length c6),(30,iv (x6.length:Int)),(31,iv p108)]∧St w u [.box g101 43 #[iv x0,.slice A1 x1.length c1,.slice A2 x2.length c2,.slice A3 x3.length c3,.slice A4 x4.length c4,.slice A5 x5.length c5,.slice A6 x6.length c6]]) FUEL ⟨0,hM107,f.keep _ ⟨rfl,rfl,rfl,rfl,rfl,trivial⟩,S.sel [0] rfl rfl⟩ ?_
   clear f S hM107;rintro m a u ⟨p108,hM107,f,S⟩
   rcases m with _ | f1
   ·exact none_some hM107
   rw [m_impl_WorldValid_l1.eq_2] at hM107
   revert a;refine sr (ov rfl (fun a f=>run_lss (f.ev rfl) (f.ev rfl) rfl) fun a f=>wn ?_)
   refine ws ?_
   cases hc109:(ltB p108 (x6.length:Int))
   ·replace hM107:=bif_f hc109 hM107
    refine cond_f f rfl hc109 ?_
    refine wp_exit ?_
    repeat with_reducible first|apply then_exit|apply in_hit|refine in_miss rfl ?_
    obtain rfl:=Option.some.inj hM107
    exact ⟨(),rfl,f.keep _ ⟨rfl,rfl,trivial⟩,S.sel [0] rfl rfl⟩
   replace hM107:=bif_t hc109 hM107
   refine cond_t f rfl hc109 ?_
   refine wp_skip ?_
   refine ws ?_
   refine wp_block ?_
   revert a;refine sr (mv rfl rfl fun a f=>?_)
   obtain ⟨hk110,hM107⟩:=chk_ex hM107
   replace hk110:=ixB_t hk110
   revert a;refine ov rfl (fun a f=>run_ix rfl Tryz.underlying30 sz3 (f.ev rfl) (S.rc0 h6.rc) (f.ev rfl) hk110) (ov rfl (fun a f=>run_load1 rfl one3 (f.ev rfl) (rd_el0 (l:=x6) (S.rc0 h6.rc).rd rfl eI_len 0 (ix_ltn hk110 rfl) rfl)) (ag rfl rfl (ag rfl rfl fun a f=>wn ?_)))
   revert a;refine sr (ov rfl (fun a f=>run_fieldAddr rfl fl43_0 (f.ev rfl) rfl) (ov rfl (fun a f=>run_loadN rfl ag37 (f.ev rfl) rfl ((S.free 0 rfl).cells 0 #[iv x0,.slice A1 x1.length c1] rfl)) (mv rfl rfl fun a f=>?_)))
   obtain ⟨p111,h111,hM107⟩:=bind_ex hM107
   refine op_call rfl rfl f rfl (run_call (vs:=[_,_]) rfl rfl co59 ⟨(f.ev rfl),(f.ev rfl),trivial⟩) (c_impl_Net_hasLine ⟨(S.rc0 h1.rc),rfl⟩ h111) ?_
   rintro e u ⟨rfl,T⟩
   refine ⟨_,rfl,?_⟩
   clear f;intro a f
   replace S:=S.call0 T;clear T
   revert a;refine ov rfl (fun a f=>run_not rfl (f.ev rfl)) (mv rfl rfl fun a f=>?_)
   revert a;refine gf rfl rfl rfl rfl (fun a f hg=>run_fieldAddr rfl fl43_2 (f.ev rfl) rfl) (gf rfl rfl rfl rfl (fun a f hg=>run_fieldAddr rfl fl41_0 ((f.ev rfl).trans (gv_t hg)) rfl) (gf rfl rfl rfl rfl (fun a f hg=>run_load1 rfl one26 ((f.ev rfl).trans (gv_t hg)) (S.cell 0 rfl rfl)) (gf rfl rfl rfl rfl (fun a f hg=>run_move rfl (f.ev rfl)) fun a f=>?_)))
   obtain ⟨hk112,hM107⟩:=chk_ex hM107
   replace hk112:=fun hg=>ixB_t (imp_t hk112 hg)
   revert a;refine gf rfl rfl rfl rfl (fun a f hg=>run_ix rfl Tryz.underlying26 sz4 ((f.ev rfl).trans (gv_t hg)) (S.rc0 h3.rc) ((f.ev rfl).trans (gv_t hg)) (hk112 hg)) (gf rfl rfl rfl rfl (fun a f hg=>run_load1 rfl one4 ((f.ev rfl).trans (gv_t hg)) (rd_el0 (l:=x3) (S.rc0 h3.rc).rd rfl eB_len false (ix_ltn (hk112 hg) rfl) rfl)) fun a f=>?_)
   revert a;refine ov rfl (fun a f=>run_pick_or rfl (f.ev rfl) rfl (fun hp=>((f.ev rfl).trans (gv_t (not_t hp))))) (mv rfl rfl fun a f=>?_)
   revert a;refine gf rfl rfl rfl rfl (fun a f hg=>run_move rfl (f.ev rfl)) (gf rfl rfl rfl rfl (fun a f hg=>run_gtr ((f.ev rfl).trans (gv_t hg)) rfl rfl) (gf rfl rfl rfl rfl (fun a f hg=>run_move rfl ((f.ev rfl).trans (gv_t hg))) fun a f=>?_))
   refine op_gv (v:=iv (x6.getD p108.toNat 0)) rfl rfl f rfl (ytG (gw_yieldG f rfl rfl rfl)) (fun hg=>(run_move rfl (f.ev rfl))) ?_;clear f;intro a f
   refine op_gv (v:=.pointer (some ⟨g101,6,none⟩)) rfl rfl f rfl (ytG (gw_yieldG f rfl rfl rfl)) (fun hg=>(run_fieldAddr rfl fl43_3 (f.ev rfl) rfl)) ?_;clear f;intro a f
   refine op_gv (v:=.slice A6 x6.length c6) rfl rfl f rfl (ytG (gw_yieldG f rfl rfl rfl)) (fun hg=>(run_load1 rfl one30 ((f.ev rfl).trans (gv_t hg)) (S.cell 0 rfl rfl))) ?_;clear f;intro a f
   refine op_gv (v:=iv p108) rfl rfl f rfl (ytG (gw_yieldG f rfl rfl rfl)) (fun hg=>(run_move rfl (f.ev rfl))) ?_;clear f;intro a f
   refine op_gv (v:=iv (w64 (p108-1))) rfl rfl f rfl (ytG (gw_yieldG f rfl rfl rfl)) (fun hg=>(run_sub (z:=w64 (p108-1)) ((f.ev rfl).trans (gv_t hg)) rfl rfl rfl)) ?_;clear f;intro a f
   obtain ⟨hk113,hM107⟩:=chk_ex hM107
   replace hk113:=fun hg=>ixB_t (imp_t hk113 hg)
   refine op_gv (v:=.pointer (some ⟨adB A6,adO A6+((w64 (p108-1)).toNat)*1,none⟩)) rfl rfl f rfl (ytG (gw_yieldG f rfl rfl rfl)) (fun hg=>(run_ix rfl Tryz.underlying30 sz3 ((f.ev rfl).trans (gv_t hg)) (S.rc0 h6.rc) ((f.ev rfl).trans (gv_t hg)) (hk113 hg))) ?_;clear f;intro a f
   refine op_gv (v:=iv (x6.getD ((w64 (p108-1)).toNat) 0)) rfl rfl f rfl (ytG (gw_yieldG f rfl rfl rfl)) (fun hg=>(run_load1 rfl one3 ((f.ev rfl).trans (gv_t hg)) (rd_el0 (l:=x6) (S.rc0 h6.rc).rd rfl eI_len 0 (ix_ltn (hk113 hg) rfl) rfl))) ?_;clear f;intro a f
   refine op_gv (v:=.bool (leB (x6.getD p108.toNat 0) (x6.getD ((w64 (p108-1)).toNat) 0))) rfl rfl f rfl (ytG (gw_yieldG f rfl rfl rfl)) (fun hg=>(run_leq ((f.ev rfl).trans (gv_t hg)) ((f.ev rfl).trans (gv_t hg)) rfl)) ?_;clear f;intro a f
   revert a;refine gf rfl rfl rfl rfl (fun a f hg=>run_pick_and rfl ((f.ev rfl).trans (gv_t hg)) (fun hp=>((f.ev rfl).trans (gv_t (and_i hg hp)))) rfl) (ov rfl (fun a f=>run_pick_or rfl (f.ev rfl) rfl (fun hp=>((f.ev rfl).trans (gv_t (not_t hp))))) fun a f=>wn ?_)
   cases hc114:(((!p111)||(x3.getD ((x6.getD p108.toNat 0).toNat) false))||((ltB 0 p108)&&(leB (x6.getD p108.toNat 0) (x6.getD ((w64 (p108-1)).toNat) 0))))
   ·replace hM107:=bif_f hc114 hM107
    refine cond_f f rfl hc114 ?_
    refine wp_skip ?_
    revert a;refine rl (ov rfl (fun a f=>run_add (z:=w64 (p108+1)) (f.ev rfl) rfl rfl rfl) (mv rfl rfl fun a f=>wn ?_))
    exact ⟨f1,Nat.lt_succ_self _,w64 (p108+1),hM107,f.keep _ ⟨rfl,rfl,rfl,rfl,rfl,trivial⟩,S.sel [0] rfl rfl⟩
   replace hM107:=bif_t hc114 hM107
   refine cond_t f rfl hc114 ?_
   revert a;refine sr (ov rfl (fun a f=>run_assign rfl rfl) fun a f=>wn ?_)
   refine wp_ret ?_
   repeat with_reducible first|apply tr|apply ir|apply nr
   refine ret1_gw (.inl rfl) f rfl (res_tmp (f.ev rfl)) ?_
   obtain rfl:=Option.some.inj hM107
   obtain rfl:=Option.some.inj hM
   exact ⟨rfl,S.sel [] rfl rfl⟩
  rintro a u ⟨p105,rfl,f,S⟩
  replace hM:=elim_l hM
  revert a;refine sr (ov rfl (fun a f=>run_fieldAddr rfl fl43_0 (f.ev rfl) rfl) (ov rfl (fun a f=>run_loadN rfl ag37 (f.ev rfl) rfl ((S.free 0 rfl).cells 0 #[iv x0,.slice A1 x1.length c1] rfl)) (ov rfl (fun a f=>run_fieldAddr rfl fl43_2 (f.ev rfl) rfl) (ov rfl (fun a f=>run_fieldAddr rfl fl41_0 (f.ev rfl) rfl) (ov rfl (fun a f=>run_load1 rfl one26 (f.ev rfl) (S.cell 0 rfl rfl)) (ov rfl (fun a f=>run_fieldAddr rfl fl43_1 (f.ev rfl) rfl) (ov rfl (fun a f=>run_load1 rfl one38 (f.ev rfl) (S.cell 0 rfl rfl)) fun a f=>?_)))))))
  obtain ⟨p115,h115,hM⟩:=bind_ex hM
  refine op_call rfl rfl f rfl (run_call (vs:=[_,_,_]) rfl rfl co76 ⟨(f.ev rfl),(f.ev rfl),(f.ev rfl),trivial⟩) (c_impl_Radial ⟨(S.rc0 h1.rc),rfl⟩ ⟨(S.rc0 h3.rc),rfl⟩ ⟨(S.rc0 h2.rc),rfl⟩ h115) ?_
  rintro e u ⟨rfl,T⟩
  refine ⟨_,rfl,?_⟩
  clear f;intro a f
  replace S:=S.call0 T;clear T
  revert a;refine ag rfl rfl fun a f=>wn ?_
  refine wp_ret ?_
  refine ret1_gw (.inl rfl) f rfl (res_tmp (f.ev rfl)) ?_
  obtain rfl:=Option.some.inj hM
  exact ⟨rfl,S.sel [] rfl rfl⟩
 replace hM:=bif_t hc104 hM
 refine cond_t f rfl hc104 ?_
 revert a;refine sr (ov rfl (fun a f=>run_assign rfl rfl) fun a f=>wn ?_)
 refine wp_ret ?_
 repeat with_reducible first|apply tr|apply ir|apply nr
 refine ret1_gw (.inl rfl) f rfl (res_tmp (f.ev rfl)) ?_
 obtain rfl:=Option.some.inj hM
 exact ⟨rfl,S.sel [] rfl rfl⟩
theorem c_slices_Clone_impl_Line_impl_Line {x0:List (Int×Int×Int)} {A0:Option Addr} {n0 c0:Nat} {w:World} {r:List (Int×Int×Int)} (h0:Rt w 3 eLine A0 n0 c0 x0) (hM : m_slices_Clone_impl_Line_impl_Line x0=some r) :
  Calls Tryz.prog 94 #[.slice A0 n0 c0] w (fun e w'=>∃ (B0:Option Addr) (N0 D0:Nat),e=.returned (.slice B0 N0 D0)∧N0=r.length∧St w w' [.row 130 3 (.slice B0 N0 D0) N0 (r.flatMap eLine)]):=by
 obtain rfl:=h0.len
 unfold m_slices_Clone_impl_Line_impl_Line at hM
 obtain ⟨hk,hM⟩:=chk_ex hM
 replace hk:=apB_t hk
 obtain rfl:=Option.some.inj hM
 refine calls_gx Tryz.func94 Tryz.ntmps94 rfl rfl ?_
 intro a f
 have S:=St.nil w
 revert a;refine sr (ov rfl (fun a f=>run_assign rfl rfl) fun a f=>wn ?_)
 refine ws ?_
 revert a;refine sr (mv rfl rfl (ov rfl (fun a f=>run_eqlNil rfl Tryz.underlying35 (f.ev rfl) rfl) fun a f=>wn ?_))
 cases hc101:(Option.isNone A0)
 ·have hx:=trivial
  refine cond_f f rfl hc101 ?_
  refine wp_skip ?_
  refine wsg ?_
  refine op_newrow (cs:=#[]) (size:=3) rfl rfl f rfl S (run_buildSlice0 rfl Tryz.underlying35 (congrArg Option.isSome sz130)) rfl (Nat.zero_le _) ?_;clear f S;intro a g102 u f S
  revert a;refine mv rfl rfl fun a f=>?_
  have hk105:=hk
  refine op_appendL (lx:=[]) (ly:=x0) rfl rfl f rfl S rfl (f.ev rfl) (f.ev rfl) (i:=0) rfl rfl Tryz.underlying35 inf130 rfl (by decide) (S.rc0 h0.rc).rd rfl eLine_one hk105 (by decide) ?_;clear f S;intro a B103 d104 u f S
  revert a;refine ag rfl rfl fun a f=>wn ?_
  refine wp_ret ?_
  refine ret1_gw (.inl rfl) f rfl (res_tmp (f.ev rfl)) ?_
  exact ⟨B103,((([]:List (Int×Int×Int))++x0).length),d104,rfl,rfl,S.sel [0] rfl rfl⟩
 have hx:=nil_none h0.rc.rd rfl hc101
 refine cond_t f rfl hc101 ?_
 revert a;refine sr (ov rfl (fun a f=>run_assign rfl rfl) fun a f=>wn ?_)
 refine wp_ret ?_
 repeat with_reducible first|apply tr|apply ir|apply nr
 refine ret1_gw (.inl rfl) f rfl (res_tmp (f.ev rfl)) ?_
 subst hx
 replace S:=S.nilrow 130 3
 exact ⟨none,0,0,rfl,rfl,S.sel [0] rfl rfl⟩
theorem c_slices_Clone_impl_Bus_impl_Bus {x0:List (Int×Int)} {A0:Option Addr} {n0 c0:Nat} {w:World} {r:List (Int×Int)} (h0:Rt w 2 eBus A0 n0 c0 x0) (hM : m_slices_Clone_impl_Bus_impl_Bus x0=some r) :
  Calls Tryz.prog 95 #[.slice A0 n0 c0] w (fun e w'=>∃ (B0:Option Addr) (N0 D0:Nat),e=.returned (.slice B0 N0 D0)∧N0=r.length∧St w w' [.row 110 2 (.slice B0 N0 D0) N0 (r.flatMap eBus)]):=by
 obtain rfl:=h0.len
 unfold m_slices_Clone_impl_Bus_impl_Bus at hM
 obtain ⟨hk,hM⟩:=chk_ex hM
 replace hk:=apB_t hk
 obtain rfl:=Option.some.inj hM
 refine calls_gx Tryz.func95 Tryz.ntmps95 rfl rfl ?_
 intro a f
 have S:=St.nil w
 revert a;refine sr (ov rfl (fun a f=>run_assign rfl rfl) fun a f=>wn ?_)
 refine ws ?_
 revert a;refine sr (mv rfl rfl (ov rfl (fun a f=>run_eqlNil rfl Tryz.underlying38 (f.ev rfl) rfl) fun a f=>wn ?_))
 cases hc101:(Option.isNone A0)
 ·have hx:=trivial
  refine cond_f f rfl hc101 ?_
  refine wp_skip ?_
  refine wsg ?_
  refine op_newrow (cs:=#[]) (size:=2) rfl rfl f rfl S (run_buildSlice0 rfl Tryz.underlying38 (congrArg Option.isSome sz110)) rfl (Nat.zero_le _) ?_;clear f S;intro a g102 u f S
  revert a;refine mv rfl rfl fun a f=>?_
  have hk105:=hk
  refine op_appendL (lx:=[]) (ly:=x0) rfl rfl f rfl S rfl (f.ev rfl) (f.ev rfl) (i:=0) rfl rfl Tryz.underlying38 inf110 rfl (by decide) (S.rc0 h0.rc).rd rfl eBus_one hk105 (by decide) ?_;clear f S;intro a B103 d104 u f S
  revert a;refine ag rfl rfl fun a f=>wn ?_
  refine wp_ret ?_
  refine ret1_gw (.inl rfl) f rfl (res_tmp (f.ev rfl)) ?_
  exact ⟨B103,((([]:List (Int×Int))++x0).length),d104,rfl,rfl,S.sel [0] rfl rfl⟩
 have hx:=nil_none h0.rc.rd rfl hc101
 refine cond_t f rfl hc101 ?_
 revert a;refine sr (ov rfl (fun a f=>run_assign rfl rfl) fun a f=>wn ?_)
 refine wp_ret ?_
 repeat with_reducible first|apply tr|apply ir|apply nr
 refine ret1_gw (.inl rfl) f rfl (res_tmp (f.ev rfl)) ?_
 subst hx
 replace S:=S.nilrow 110 2
 exact ⟨none,0,0,rfl,rfl,S.sel [0] rfl rfl⟩
theorem c_slices_Clone_bool_bool {x0:List Bool} {A0:Option Addr} {n0 c0:Nat} {w:World} {r:List Bool} (h0:Rt w 1 eB A0 n0 c0 x0) (hM : m_slices_Clone_bool_bool x0=some r) :
  Calls Tryz.prog 43 #[.slice A0 n0 c0] w (fun e w'=>∃ (B0:Option Addr) (N0 D0:Nat),e=.returned (.slice B0 N0 D0)∧N0=r.length∧St w w' [.row 4 1 (.slice B0 N0 D0) N0 (r.flatMap eB)]):=by
 obtain rfl:=h0.len
 unfold m_slices_Clone_bool_bool at hM
 obtain ⟨hk,hM⟩:=chk_ex hM
 replace hk:=apB_t hk
 obtain rfl:=Option.some.inj hM
 refine calls_gx Tryz.func43 Tryz.ntmps43 rfl rfl ?_
 intro a f
 have S:=St.nil w
 revert a;refine sr (ov rfl (fun a f=>run_assign rfl rfl) fun a f=>wn ?_)
 refine ws ?_
 revert a;refine sr (mv rfl rfl (ov rfl (fun a f=>run_eqlNil rfl Tryz.underlying26 (f.ev rfl) rfl) fun a f=>wn ?_))
 cases hc101:(Option.isNone A0)
 ·have hx:=trivial
  refine cond_f f rfl hc101 ?_
  refine wp_skip ?_
  refine wsg ?_
  refine op_newrow (cs:=#[]) (size:=1) rfl rfl f rfl S (run_buildSlice0 rfl Tryz.underlying26 (congrArg Option.isSome sz4)) rfl (Nat.zero_le _) ?_;clear f S;intro a g102 u f S
  revert a;refine mv rfl rfl fun a f=>?_
  have hk105:=hk
  refine op_appendL (lx:=[]) (ly:=x0) rfl rfl f rfl S rfl (f.ev rfl) (f.ev rfl) (i:=0) rfl rfl Tryz.underlying26 inf4 rfl (by decide) (S.rc0 h0.rc).rd rfl eB_one hk105 (by decide) ?_;clear f S;intro a B103 d104 u f S
  revert a;refine ag rfl rfl fun a f=>wn ?_
  refine wp_ret ?_
  refine ret1_gw (.inl rfl) f rfl (res_tmp (f.ev rfl)) ?_
  exact ⟨B103,((([]:List Bool)++x0).length),d104,rfl,rfl,S.sel [0] rfl rfl⟩
 have hx:=nil_none h0.rc.rd rfl hc101
 refine cond_t f rfl hc101 ?_
 revert a;refine sr (ov rfl (fun a f=>run_assign rfl rfl) fun a f=>wn ?_)
 refine wp_ret ?_
 repeat with_reducible first|apply tr|apply ir|apply nr
 refine ret1_gw (.inl rfl) f rfl (res_tmp (f.ev rfl)) ?_
 subst hx
 replace S:=S.nilrow 4 1
 exact ⟨none,0,0,rfl,rfl,S.sel [0] rfl rfl⟩
theorem c_slices_Clone_impl_Permit_impl_Permit {x0:List (Int×Int)} {A0:Option Addr} {n0 c0:Nat} {w:World} {r:List (Int×Int)} (h0:Rt w 2 ePermit A0 n0 c0 x0) (hM : m_slices_Clone_impl_Permit_impl_Permit x0=some r) :
  Calls Tryz.prog 128 #[.slice A0 n0 c0] w (fun e w'=>∃ (B0:Option Addr) (N0 D0:Nat),e=.returned (.slice B0 N0 D0)∧N0=r.length∧St w w' [.row 78 2 (.slice B0 N0 D0) N0 (r.flatMap ePermit)]):=by
 obtain rfl:=h0.len
 unfold m_slices_Clone_impl_Permit_impl_Permit at hM
 obtain ⟨hk,hM⟩:=chk_ex hM
 replace hk:=apB_t hk
 obtain rfl:=Option.some.inj hM
 refine calls_gx Tryz.func128 Tryz.ntmps128 rfl rfl ?_
 intro a f
 have S:=St.nil w
 revert a;refine sr (ov rfl (fun a f=>run_assign rfl rfl) fun a f=>wn ?_)
 refine ws ?_
 revert a;refine sr (mv rfl rfl (ov rfl (fun a f=>run_eqlNil rfl Tryz.underlying39 (f.ev rfl) rfl) fun a f=>wn ?_))
 cases hc101:(Option.isNone A0)
 ·have hx:=trivial
  refine cond_f f rfl hc101 ?_
  refine wp_skip ?_
  refine wsg ?_
  refine op_newrow (cs:=#[]) (size:=2) rfl rfl f rfl S (run_buildSlice0 rfl Tryz.underlying39 (congrArg Option.isSome sz78)) rfl (Nat.zero_le _) ?_;clear f S;intro a g102 u f S
  revert a;refine mv rfl rfl fun a f=>?_
  have hk105:=hk
  refine op_appendL (lx:=[]) (ly:=x0) rfl rfl f rfl S rfl (f.ev rfl) (f.ev rfl) (i:=0) rfl rfl Tryz.underlying39 inf78 rfl (by decide) (S.rc0 h0.rc).rd rfl ePermit_one hk105 (by decide) ?_;clear f S;intro a B103 d104 u f S
  revert a;refine ag rfl rfl fun a f=>wn ?_
  refine wp_ret ?_
  refine ret1_gw (.inl rfl) f rfl (res_tmp (f.ev rfl)) ?_
  exact ⟨B103,((([]:List (Int×Int))++x0).length),d104,rfl,rfl,S.sel [0] rfl rfl⟩
 have hx:=nil_none h0.rc.rd rfl hc101
 refine cond_t f rfl hc101 ?_
 revert a;refine sr (ov rfl (fun a f=>run_assign rfl rfl) fun a f=>wn ?_)
 refine wp_ret ?_
 repeat with_reducible first|apply tr|apply ir|apply nr
 refine ret1_gw (.inl rfl) f rfl (res_tmp (f.ev rfl)) ?_
 subst hx
 replace S:=S.nilrow 78 2
 exact ⟨none,0,0,rfl,rfl,S.sel [0] rfl rfl⟩
theorem c_impl_Work_clone {x0:List Bool} {x1:List Bool} {x2:List (Int×Int)} {A0:Option Addr} {n0 c0:Nat} {A1:Option Addr} {n1 c1:Nat} {A2:Option Addr} {n2 c2:Nat} {w:World} {r:List Bool×List Bool×List (Int×Int)} (h0:Rt w 1 eB A0 n0 c0 x0) (h1:Rt w 1 eB A1 n1 c1 x1) (h2:Rt w 2 ePermit A2 n2 c2 x2) (hM : m_impl_Work_clone x0 x1 x2=some r) :
  Calls Tryz.prog 96 #[.agg #[.slice A0 n0 c0,.slice A1 n1 c1,.slice A2 n2 c2]] w (fun e w'=>∃ (B0:Option Addr) (N0 D0:Nat) (B1:Option Addr) (N1 D1:Nat) (B2:Option Addr) (N2 D2:Nat),e=.returned (.agg #[.slice B0 N0 D0,.slice B1 N1 D1,.slice B2 N2 D2])∧N0=r.1.length∧N1=r.2.1.length∧N2=r.2.2.length∧St w w' [.row 4 1 (.slice B0 N0 D0) N0 (r.1.flatMap eB),.row 4 1 (.slice B1 N1 D1) N1 (r.2.1.flatMap eB),.row 78 2 (.slice B2 N2 D2) N2 (r.2.2.flatMap ePermit)]):=by
 obtain rfl:=h0.len
 obtain rfl:=h1.len
 obtain rfl:=h2.len
 unfold m_impl_Work_clone at hM
 refine calls_gx Tryz.func96 Tryz.ntmps96 rfl rfl ?_
 intro a f
 have S:=St.nil w
 refine wsg ?_
 refine op_new (cs:=#[.slice A0 x0.length c0,.slice A1 x1.length c1,.slice A2 x2.length c2]) rfl rfl f rfl S (run_box rfl (f.ev rfl) rfl) ?_;clear f S;intro a g101 u f S
 refine op_new (cs:=#[.slice none 0 0,.slice none 0 0,.slice none 0 0]) rfl rfl f rfl S (run_allocZ rfl zr41) ?_;clear f S;intro a g102 u f S
 refine wn ?_
 refine ws ?_
 obtain ⟨p103,h103,hM⟩:=bind_ex hM
 obtain ⟨p107,h107,hM⟩:=bind_ex hM
 obtain ⟨p111,h111,hM⟩:=bind_ex hM
 refine region_gw (D:=[3,4,5,6,7,8,9,10,11,12]) (Lr:=[.box g101 41 #[.slice A0 x0.length c0,.slice A1 x1.length c1,.slice A2 x2.length c2]]) (deps:=(fun | 0=>[3] | 1=>[4] | 2=>[5] | 3=>[6] | 4=>[7] | 5=>[8] | 6=>[9] | 7=>[10] | 8=>[11] | 9=>[12,5,8,11] | 10=>[2,5,8,11] | _=>[])) (rd:=(fun _=>[])) (zr:=(fun _=>[]))
  (φ:=fun i vs=>match i,vs with | 0,[v3]=>v3=.pointer (some ⟨g101,0,none⟩) | 1,[v4]=>v4=.slice A0 x0.length c0 | 2,[v5]=>v5=.slice (slA v5) p103.length (slC v5) | 3,[v6]=>v6=.pointer (some ⟨g101,1,none⟩) | 4,[v7]=>v7=.slice A1 x1.length c1 | 5,[v8]=>v8=.slice (slA v8) p107.length (slC v8) | 6,[v9]=>v9=.pointer (some ⟨g101,2,none⟩) | 7,[v10]=>v10=.slice A2 x2.length c2 | 8,[v11]=>v11=.slice (slA v11) p111.length (slC v11) | 9,[v12,v5,v8,v11]=>v12=.agg #[.slice (slA v5) p103.length (slC v5),.slice (slA v8) p107.length (slC v8),.slice (slA v11) p111.length (slC v11)] | _,_=>True)
  (C:=fun i vs=>match i,vs with | 2,[v5]=>[.row 4 1 (.slice (slA v5) p103.length (slC v5)) p103.length (p103.flatMap eB)] | 5,[v8]=>[.row 4 1 (.slice (slA v8) p107.length (slC v8)) p107.length (p107.flatMap eB)] | 8,[v11]=>[.row 78 2 (.slice (slA v11) p111.length (slC v11)) p111.length (p111.flatMap ePermit)] | 10,[v2,v5,v8,v11]=>[.box g102 41 #[.slice (slA v5) p103.length (slC v5),.slice (slA v8) p107.length (slC v8),.slice (slA v11) p111.length (slC v11)]] | _,_=>[])
  (κ:=(fun _=>none)) (Z:=(fun | 10=>[.box g102 41 #[.slice none 0 0,.slice none 0 0,.slice none 0 0]] | _=>[])) mixed f (by kernel_rfl) (show St w _ [.box g102 41 #[.slice none 0 0,.slice none 0 0,.slice none 0 0],.box g101 41 #[.slice A0 x0.length c0,.slice A1 x1.length c1,.slice A2 x2.length c2]] from S.sel [0,1] rfl rfl) ?_ ?_
 ·refine ⟨?_,?_,?_,?_,?_,?_,?_,?_,?_,?_,?_,trivial⟩
  ·intro a u X hB hu p hr hz hl S
   exact .inl ⟨rfl,_,u,(run_fieldAddr rfl fl41_0 (f.evB hB rfl rfl) rfl),rfl,S⟩
  ·intro a u X hB hu p hr hz hl S
   exact .inl ⟨rfl,_,u,(run_load1 rfl one26 (ev_sl (p 0 rfl)) ((gr_box S hl 0 rfl).cell rfl)),rfl,S⟩
  ·intro a u X hB hu p hr hz hl S
   refine .inr (.inr (.inl ⟨rfl,_,_,(run_call (vs:=[.slice A0 x0.length c0]) rfl rfl co43 ⟨(ev_sl (p 1 rfl)),trivial⟩),?_⟩))
   refine Calls.mono (c_slices_Clone_bool_bool (x0:=x0) ⟨(S.rc0 h0.rc),rfl⟩ h103) ?_
   rintro e w1 ⟨B115,n116,d117,rfl,rfl,T⟩
   exact ⟨_,rfl,rfl,S.call1 T⟩
  ·intro a u X hB hu p hr hz hl S
   exact .inl ⟨rfl,_,u,(run_fieldAddr rfl fl41_1 (f.evB hB rfl rfl) rfl),rfl,S⟩
  ·intro a u X hB hu p hr hz hl S
   exact .inl ⟨rfl,_,u,(run_load1 rfl one26 (ev_sl (p 3 rfl)) ((gr_box S hl 0 rfl).cell rfl)),rfl,S⟩
  ·intro a u X hB hu p hr hz hl S
   refine .inr (.inr (.inl ⟨rfl,_,_,(run_call (vs:=[.slice A1 x1.length c1]) rfl rfl co43 ⟨(ev_sl (p 4 rfl)),trivial⟩),?_⟩))
   refine Calls.mono (c_slices_Clone_bool_bool (x0:=x1) ⟨(S.rc0 h1.rc),rfl⟩ h107) ?_
   rintro e w1 ⟨B118,n119,d120,rfl,rfl,T⟩
   exact ⟨_,rfl,rfl,S.call1 T⟩
  ·intro a u X hB hu p hr hz hl S
   exact .inl ⟨rfl,_,u,(run_fieldAddr rfl fl41_2 (f.evB hB rfl rfl) rfl),rfl,S⟩
  ·intro a u X hB hu p hr hz hl S
   exact .inl ⟨rfl,_,u,(run_load1 rfl one39 (ev_sl (p 6 rfl)) ((gr_box S hl 0 rfl).cell rfl)),rfl,S⟩
  ·intro a u X hB hu p hr hz hl S
   refine .inr (.inr (.inl ⟨rfl,_,_,(run_call (vs:=[.slice A2 x2.length c2]) rfl rfl co128 ⟨(ev_sl (p 7 rfl)),trivial⟩),?_⟩))
   refine Calls.mono (c_slices_Clone_impl_Permit_impl_Permit (x0:=x2) ⟨(S.rc0 h2.rc),rfl⟩ h111) ?_
   rintro e w1 ⟨B121,n122,d123,rfl,rfl,T⟩
   exact ⟨_,rfl,rfl,S.call1 T⟩
  ·intro a u X hB hu p hr hz hl S
   exact .inl ⟨rfl,_,u,(run_build (vs:=[(0,.slice (slA (sl a 5)) p103.length (slC (sl a 5))),(1,.slice (slA (sl a 8)) p107.length (slC (sl a 8))),(2,.slice (slA (sl a 11)) p111.length (slC (sl a 11)))]) rfl ⟨⟨rfl,(ev_sl (p 2 rfl))⟩,⟨rfl,(ev_sl (p 5 rfl))⟩,⟨rfl,(ev_sl (p 8 rfl))⟩,trivial⟩ (bd41_0_1_2 rfl rfl rfl)),rfl,S⟩
  intro a u X hB hu p hr hz hl S
  replace S:St w u ([.box g102 41 #[.slice none 0 0,.slice none 0 0,.slice none 0 0]]++X):=S
  exact .inr (.inl ⟨rfl,_,run_store (cs':=#[.slice (slA (sl a 5)) p103.length (slC (sl a 5)),.slice (slA (sl a 8)) p107.length (slC (sl a 8)),.slice (slA (sl a 11)) p111.length (slC (sl a 11))]) rfl sz41 (f.evB hB rfl rfl) (ev_sl (p 9 rfl)) rfl rfl rfl (S.free 0 rfl) rfl rfl,trivial,S.put 0 rfl (#[.slice (slA (sl a 5)) p103.length (slC (sl a 5)),.slice (slA (sl a 8)) p107.length (slC (sl a 8)),.slice (slA (sl a 11)) p111.length (slC (sl a 11))])⟩)
 intro a u hB hp S
 obtain ⟨q0,q1,q2,q3,q4,q5,q6,q7,q8,q9,q10,-⟩:=hp
 replace S:St w u [.row 4 1 (.slice (slA (sl a 5)) p103.length (slC (sl a 5))) p103.length (p103.flatMap eB),.row 4 1 (.slice (slA (sl a 8)) p107.length (slC (sl a 8))) p107.length (p107.flatMap eB),.row 78 2 (.slice (slA (sl a 11)) p111.length (slC (sl a 11))) p111.length (p111.flatMap ePermit),.box g102 41 #[.slice (slA (sl a 5)) p103.length (slC (sl a 5)),.slice (slA (sl a 8)) p107.length (slC (sl a 8)),.slice (slA (sl a 11)) p111.length (slC (sl a 11))],.box g101 41 #[.slice A0 x0.length c0,.slice A1 x1.length c1,.slice A2 x2.length c2]]:=S
 have f:=f.region hB [(3,.pointer (some ⟨g101,0,none⟩)),(4,.slice A0 x0.length c0),(5,.slice (slA (sl a 5)) p103.length (slC (sl a 5))),(6,.pointer (some ⟨g101,1,none⟩)),(7,.slice A1 x1.length c1),(8,.slice (slA (sl a 8)) p107.length (slC (sl a 8))),(9,.pointer (some ⟨g101,2,none⟩)),(10,.slice A2 x2.length c2),(11,.slice (slA (sl a 11)) p111.length (slC (sl a 11))),(12,.agg #[.slice (slA (sl a 5)) p103.length (slC (sl a 5)),.slice (slA (sl a 8)) p107.length (slC (sl a 8)),.slice (slA (sl a 11)) p111.length (slC (sl a 11))])] (allSl_mem ⟨q0,q1,q2,q3,q4,q5,q6,q7,q8,q9,trivial⟩) rfl
 clear hB q0 q1 q2 q3 q4 q5 q6 q7 q8 q9 q10
 generalize slA (sl a 5)=B124 at *
 generalize slC (sl a 5)=d125 at *
 generalize slA (sl a 8)=B126 at *
 generalize slC (sl a 8)=d127 at *
 generalize slA (sl a 11)=B128 at *
 generalize slC (sl a 11)=d129 at *
 refine wp_ret ?_
 refine ret1_gw (.inl rfl) f rfl (res_cell (f.ev rfl) (res_loadN ag41 rfl (S.cells 3 rfl 0 #[.slice B124 p103.length d125,.slice B126 p107.length d127,.slice B128 p111.length d129] rfl))) ?_
 obtain rfl:=Option.some.inj hM
 exact ⟨B124,p103.length,d125,B126,p107.length,d127,B128,p111.length,d129,rfl,rfl,rfl,rfl,S.sel [0,1,2] rfl rfl⟩
theorem c_slices_Clone_int_int {x0:List Int} {A0:Option Addr} {n0 c0:Nat} {w:World} {r:List Int} (h0:Rt w 1 eI A0 n0 c0 x0) (hM : m_slices_Clone_int_int x0=some r) :
  Calls Tryz.prog 97 #[.slice A0 n0 c0] w (fun e w'=>∃ (B0:Option Addr) (N0 D0:Nat),e=.returned (.slice B0 N0 D0)∧N0=r.length∧St w w' [.row 3 1 (.slice B0 N0 D0) N0 (r.flatMap eI)]):=by
 obtain rfl:=h0.len
 unfold m_slices_Clone_int_int at hM
 obtain ⟨hk,hM⟩:=chk_ex hM
 replace hk:=apB_t hk
 obtain rfl:=Option.some.inj hM
 refine calls_gx Tryz.func97 Tryz.ntmps97 rfl rfl ?_
 intro a f
 have S:=St.nil w
 revert a;refine sr (ov rfl (fun a f=>run_assign rfl rfl) fun a f=>wn ?_)
 refine ws ?_
 revert a;refine sr (mv rfl rfl (ov rfl (fun a f=>run_eqlNil rfl Tryz.underlying30 (f.ev rfl) rfl) fun a f=>wn ?_))
 cases hc101:(Option.isNone A0)
 ·have hx:=trivial
  refine cond_f f rfl hc101 ?_
  refine wp_skip ?_
  refine wsg ?_
  refine op_newrow (cs:=#[]) (size:=1) rfl rfl f rfl S (run_buildSlice0 rfl Tryz.underlying30 (congrArg Option.isSome sz3)) rfl (Nat.zero_le _) ?_;clear f S;intro a g102 u f S
  revert a;refine mv rfl rfl fun a f=>?_
  have hk105:=hk
  refine op_appendL (lx:=[]) (ly:=x0) rfl rfl f rfl S rfl (f.ev rfl) (f.ev rfl) (i:=0) rfl rfl Tryz.underlying30 inf3 rfl (by decide) (S.rc0 h0.rc).rd rfl eI_one hk105 (by decide) ?_;clear f S;intro a B103 d104 u f S
  revert a;refine ag rfl rfl fun a f=>wn ?_
  refine wp_ret ?_
  refine ret1_gw (.inl rfl) f rfl (res_tmp (f.ev rfl)) ?_
  exact ⟨B103,((([]:List Int)++x0).length),d104,rfl,rfl,S.sel [0] rfl rfl⟩
 have hx:=nil_none h0.rc.rd rfl hc101
 refine cond_t f rfl hc101 ?_
 revert a;refine sr (ov rfl (fun a f=>run_assign rfl rfl) fun a f=>wn ?_)
 refine wp_ret ?_
 repeat with_reducible first|apply tr|apply ir|apply nr
 refine ret1_gw (.inl rfl) f rfl (res_tmp (f.ev rfl)) ?_
 subst hx
 replace S:=S.nilrow 3 1
 exact ⟨none,0,0,rfl,rfl,S.sel [0] rfl rfl⟩
theorem c_impl_World_clone {x0:Int} {x1:List (Int×Int×Int)} {x2:List (Int×Int)} {x3:List Bool} {x4:List Bool} {x5:List (Int×Int)} {x6:List Int} {A1:Option Addr} {n1 c1:Nat} {A2:Option Addr} {n2 c2:Nat} {A3:Option Addr} {n3 c3:Nat} {A4:Option Addr} {n4 c4:Nat} {A5:Option Addr} {n5 c5:Nat} {A6:Option Addr} {n6 c6:Nat} {w:World} {r:Int×List (Int×Int×Int)×List (Int×Int)×List Bool×List Bool×List (Int×Int)×List Int} (h1:Rt w 3 eLine A1 n1 c1 x1) (h2:Rt w 2 eBus A2 n2 c2 x2) (h3:Rt w 1 eB A3 n3 c3 x3) (h4:Rt w 1 eB A4 n4 c4 x4) (h5:Rt w 2 ePermit A5 n5 c5 x5) (h6:Rt w 1 eI A6 n6 c6 x6) (hM : m_impl_World_clone x0 x1 x2 x3 x4 x5 x6=some r) :
  Calls Tryz.prog 58 #[.agg #[iv x0,.slice A1 n1 c1,.slice A2 n2 c2,.slice A3 n3 c3,.slice A4 n4 c4,.slice A5 n5 c5,.slice A6 n6 c6]] w (fun e w'=>∃ (B0:Option Addr) (N0 D0:Nat) (B1:Option Addr) (N1 D1:Nat) (B2:Option Addr) (N2 D2:Nat) (B3:Option Addr) (N3 D3:Nat) (B4:Option Addr) (N4 D4:Nat) (B5:Option Addr) (N5 D5:Nat),e=.returned (.agg #[iv r.1,.slice B0 N0 D0,.slice B1 N1 D1,.slice B2 N2 D2,.slice B3 N3 D3,.slice B4 N4 D4,.slice B5 N5 D5])∧N0=r.2.1.length∧N1=r.2.2.1.length∧N2=r.2.2.2.1.length∧N3=r.2.2.2.2.1.length∧N4=r.2.2.2.2.2.1.length∧N5=r.2.2.2.2.2.2.length∧St w w' [.row 130 3 (.slice B0 N0 D0) N0 (r.2.1.flatMap eLine),.row 110 2 (.slice B1 N1 D1) N1 (r.2.2.1.flatMap eBus),.row 4 1 (.slice B2 N2 D2) N2 (r.2.2.2.1.flatMap eB),.row 4 1 (.slice B3 N3 D3) N3 (r.2.2.2.2.1.flatMap eB),.row 78 2 (.slice B4 N4 D4) N4 (r.2.2.2.2.2.1.flatMap ePermit),.row 3 1 (.slice B5 N5 D5) N5 (r.2.2.2.2.2.2.flatMap eI)]):=by
 obtain rfl:=h1.len
 obtain rfl:=h2.len
 obtain rfl:=h3.len
 obtain rfl:=h4.len
 obtain rfl:=h5.len
 obtain rfl:=h6.len
 unfold m_impl_World_clone at hM
 refine calls_gx Tryz.func58 Tryz.ntmps58 rfl rfl ?_
 intro a f
 have S:=St.nil w
 refine wsg ?_
 refine op_new (cs:=#[iv x0,.slice A1 x1.length c1,.slice A2 x2.length c2,.slice A3 x3.length c3,.slice A4 x4.length c4,.slice A5 x5.length c5,.slice A6 x6.length c6]) rfl rfl f rfl S (run_box rfl (f.ev rfl) rfl) ?_;clear f S;intro a g101 u f S
 refine op_new (cs:=#[iv 0,.slice none 0 0,.slice none 0 0,.slice none 0 0,.slice none 0 0,.slice none 0 0,.slice none 0 0]) rfl rfl f rfl S (run_allocZ rfl zr43) ?_;clear f S;intro a g102 u f S
 refine wn ?_
 refine ws ?_
 obtain ⟨p103,h103,hM⟩:=bind_ex hM
 obtain ⟨p107,h107,hM⟩:=bind_ex hM
 obtain ⟨p111,h111,hM⟩:=bind_ex hM
 obtain ⟨p121,h121,hM⟩:=bind_ex hM
 refine region_gw (D:=[3,4,5,6,7,8,9,10,11,12,13,14,15,16,17,18,19,20]) (Lr:=[.box g101 43 #[iv x0,.slice A1 x1.length c1,.slice A2 x2.length c2,.slice A3 x3.length c3,.slice A4 x4.length c4,.slice A5 x5.length c5,.slice A6 x6.length c6]]) (deps:=(fun | 0=>[3] | 1=>[4] | 2=>[5] | 3=>[6] | 4=>[7] | 5=>[8] | 6=>[9] | 7=>[10,9] | 8=>[11] | 9=>[12] | 10=>[13] | 11=>[14] | 12=>[15] | 13=>[16] | 14=>[17] | 15=>[18] | 16=>[19] | 17=>[20,9,13,16,19] | 18=>[2,9,13,16,19] | _=>[])) (rd:=(fun _=>[])) (zr:=(fun _=>[]))
  (φ:=fun i vs=>match i,vs with | 0,[v3]=>v3=.pointer (some ⟨g101,0,none⟩) | 1,[v4]=>v4=.pointer (some ⟨g101,0,none⟩) | 2,[v5]=>v5=iv x0 | 3,[v6]=>v6=.pointer (some ⟨g101,0,none⟩) | 4,[v7]=>v7=.pointer (some ⟨g101,1,none⟩) | 5,[v8]=>v8=.slice A1 x1.length c1 | 6,[v9]=>v9=.slice (slA v9) p103.length (slC v9) | 7,[v10,v9]=>v10=.agg #[iv x0,.slice (slA v9) p103.length (slC v9)] | 8,[v11]=>v11=.pointer (some ⟨g101,2,none⟩) | 9,[v12]=>v12=.slice A2 x2.length c2 | 10,[v13]=>v13=.slice (slA v13) p107.length (slC v13) | 11,[v14]=>v14=.pointer (some ⟨g101,3,none⟩) | 12,[v15]=>v15=.agg #[.slice A3 x3.length c3,.slice A4 x4.length c4,.slice A5 x5.length c5] | 13,[v16]=>v16=.agg #[.slice (slA (vtup v16 0)) p111.1.length (slC (vtup v16 0)),.slice (slA (vtup v16 1)) p111.2.1.length (slC (vtup v16 1)),.slice (slA (vtup v16 2)) p111.2.2.length (slC (vtup v16 2))] | 14,[v17]=>v17=.pointer (some ⟨g101,6,none⟩) | 15,[v18]=>v18=.slice A6 x6.length c6 | 16,[v19]=>v19=.slice (slA v19) p121.length (slC v19) | 17,[v20,v9,v13,v16,v19]=>v20=.agg #[iv x0,.slice (slA v9) p103.length (slC v9),.slice (slA v13) p107.length (slC v13),.slice (slA (vtup v16 0)) p111.1.length (slC (vtup v16 0)),.slice (slA (vtup v16 1)) p111.2.1.length (slC (vtup v16 1)),.slice (slA (vtup v16 2)) p111.2.2.length (slC (vtup v16 2)),.slice (slA v19) p121.length (slC v19)] | _,_=>True)
  (C:=fun i vs=>match i,vs with | 6,[v9]=>[.row 130 3 (.slice (slA v9) p103.length (slC v9)) p103.length (p103.flatMap eLine)] | 10,[v13]=>[.row 110 2 (.slice (slA v13) p107.length (slC v13)) p107.length (p107.flatMap eBus)] | 13,[v16]=>[.row 4 1 (.slice (slA (vtup v16 0)) p111.1.length (slC (vtup v16 0))) p111.1.length (p111.1.flatMap eB),.row 4 1 (.slice (slA (vtup v16 1)) p111.2.1.length (slC (vtup v16 1))) p111.2.1.length (p111.2.1.flatMap eB),.row 78 2 (.slice (slA (vtup v16 2)) p111.2.2.length (slC (vtup v16 2))) p111.2.2.length (p111.2.2.flatMap ePermit)] | 16,[v19]=>[.row 3 1 (.slice (slA v19) p121.length (slC v19)) p121.length (p121.flatMap eI)] | 18,[v2,v9,v13,v16,v19]=>[.box g102 43 #[iv x0,.slice (slA v9) p103.length (slC v9),.slice (slA v13) p107.length (slC v13),.slice (slA (vtup v16 0)) p111.1.length (slC (vtup v16 0)),.slice (slA (vtup v16 1)) p111.2.1.length (slC (vtup v16 1)),.slice (slA (vtup v16 2)) p111.2.2.length (slC (vtup v16 2)),.slice (slA v19) p121.length (slC v19)]] | _,_=>[])
  (κ:=(fun _=>none)) (Z:=(fun | 18=>[.box g102 43 #[iv 0,.slice none 0 0,.slice none 0 0,.slice none 0 0,.slice none 0 0,.slice none 0 0,.slice none 0 0]] | _=>[])) mixed f (by kernel_rfl) (show St w _ [.box g102 43 #[iv 0,.slice none 0 0,.slice none 0 0,.slice none 0 0,.slice none 0 0,.slice none 0 0,.slice none 0 0],.box g101 43 #[iv x0,.slice A1 x1.length c1,.slice A2 x2.length c2,.slice A3 x3.length c3,.slice A4 x4.length c4,.slice A5 x5.length c5,.slice A6 x6.length c6]] from S.sel [0,1] rfl rfl) ?_ ?_
 ·refine ⟨?_,?_,?_,?_,?_,?_,?_,?_,?_,?_,?_,?_,?_,?_,?_,?_,?_,?_,?_,trivial⟩
  ·intro a u X hB hu p hr hz hl S
   exact .inl ⟨rfl,_,u,(run_fieldAddr rfl fl43_0 (f.evB hB rfl rfl) rfl),rfl,S⟩
  ·intro a u X hB hu p hr hz hl S
   exact .inl ⟨rfl,_,u,(run_fieldAddr rfl fl37_0 (ev_sl (p 0 rfl)) rfl),rfl,S⟩
  ·intro a u X hB hu p hr hz hl S
   exact .inl ⟨rfl,_,u,(run_load1 rfl one3 (ev_sl (p 1 rfl)) ((gr_box S hl 0 rfl).cell rfl)),rfl,S⟩
  ·intro a u X hB hu p hr hz hl S
   exact .inl ⟨rfl,_,u,(run_fieldAddr rfl fl43_0 (f.evB hB rfl rfl) rfl),rfl,S⟩
  ·intro a u X hB hu p hr hz hl S
   exact .inl ⟨rfl,_,u,(run_fieldAddr rfl fl37_1 (ev_sl (p 3 rfl)) rfl),rfl,S⟩
  ·intro a u X hB hu p hr hz hl S
   exact .inl ⟨rfl,_,u,(run_load1 rfl one35 (ev_sl (p 4 rfl)) ((gr_box S hl 0 rfl).cell rfl)),rfl,S⟩
  ·intro a u X hB hu p hr hz hl S
   refine .inr (.inr (.inl ⟨rfl,_,_,(run_call (vs:=[.slice A1 x1.length c1]) rfl rfl co94 ⟨(ev_sl (p 5 rfl)),trivial⟩),?_⟩))
   refine Calls.mono (c_slices_Clone_impl_Line_impl_Line (x0:=x1) ⟨(S.rc0 h1.rc),rfl⟩ h103) ?_
   rintro e w1 ⟨B125,n126,d127,rfl,rfl,T⟩
   exact ⟨_,rfl,rfl,S.call1 T⟩
  ·intro a u X hB hu p hr hz hl S
   exact .inl ⟨rfl,_,u,(run_build (vs:=[(0,iv x0),(1,.slice (slA (sl a 9)) p103.length (slC (sl a 9)))]) rfl ⟨⟨rfl,(ev_sl (p 2 rfl))⟩,⟨rfl,(ev_sl (p 6 rfl))⟩,trivial⟩ (bd37_0_1 rfl rfl)),rfl,S⟩
  ·intro a u X hB hu p hr hz hl S
   exact .inl ⟨rfl,_,u,(run_fieldAddr rfl fl43_1 (f.evB hB rfl rfl) rfl),rfl,S⟩
  ·intro a u X hB hu p hr hz hl S
   exact .inl ⟨rfl,_,u,(run_load1 rfl one38 (ev_sl (p 8 rfl)) ((gr_box S hl 0 rfl).cell rfl)),rfl,S⟩
  ·intro a u X hB hu p hr hz hl S
   refine .inr (.inr (.inl ⟨rfl,_,_,(run_call (vs:=[.slice A2 x2.length c2]) rfl rfl co95 ⟨(ev_sl (p 9 rfl)),trivial⟩),?_⟩))
   refine Calls.mono (c_slices_Clone_impl_Bus_impl_Bus (x0:=x2) ⟨(S.rc0 h2.rc),rfl⟩ h107) ?_
   rintro e w1 ⟨B128,n129,d130,rfl,rfl,T⟩
   exact ⟨_,rfl,rfl,S.call1 T⟩
  ·intro a u X hB hu p hr hz hl S
   exact .inl ⟨rfl,_,u,(run_fieldAddr rfl fl43_2 (f.evB hB rfl rfl) rfl),rfl,S⟩
  ·intro a u X hB hu p hr hz hl S
   exact .inl ⟨rfl,_,u,(run_loadN rfl ag41 (ev_sl (p 11 rfl)) rfl ((gr_box S hl 0 rfl).cells 3 #[.slice A3 x3.length c3,.slice A4 x4.length c4,.slice A5 x5.length c5] rfl)),rfl,S⟩
  ·intro a u X hB hu p hr hz hl S
   refine .inr (.inr (.inl ⟨rfl,_,_,(run_call (vs:=[.agg #[.slice A3 x3.length c3,.slice A4 x4.length c4,.slice A5 x5.length c5]]) rfl rfl co96 ⟨(ev_sl (p 12 rfl)),trivial⟩),?_⟩))
   refine Calls.mono (c_impl_Work_clone (x0:=x3) (x1:=x4) (x2:=x5) ⟨(S.rc0 h3.rc),rfl⟩ ⟨(S.rc0 h4.rc),rfl⟩ ⟨(S.rc0 h5.rc),rfl⟩ h111) ?_
   rintro e w1 ⟨B131,n132,d133,B134,n135,d136,B137,n138,d139,rfl,rfl,rfl,rfl,T⟩
   exact ⟨_,rfl,rfl,S.call3 T⟩
  ·intro a u X hB hu p hr hz hl S
   exact .inl ⟨rfl,_,u,(run_fieldAddr rfl fl43_3 (f.evB hB rfl rfl) rfl),rfl,S⟩
  ·intro a u X hB hu p hr hz hl S
   exact .inl ⟨rfl,_,u,(run_load1 rfl one30 (ev_sl (p 14 rfl)) ((gr_box S hl 0 rfl).cell rfl)),rfl,S⟩
  ·intro a u X hB hu p hr hz hl S
   refine .inr (.inr (.inl ⟨rfl,_,_,(run_call (vs:=[.slice A6 x6.length c6]) rfl rfl co97 ⟨(ev_sl (p 15 rfl)),trivial⟩),?_⟩))
   refine Calls.mono (c_slices_Clone_int_int (x0:=x6) ⟨(S.rc0 h6.rc),rfl⟩ h121) ?_
   rintro e w1 ⟨B140,n141,d142,rfl,rfl,T⟩
   exact ⟨_,rfl,rfl,S.call1 T⟩
  ·intro a u X hB hu p hr hz hl S
   exact .inl ⟨rfl,_,u,(run_build (vs:=[(0,.agg #[iv x0,.slice (slA (sl a 9)) p103.length (slC (sl a 9))]),(1,.slice (slA (sl a 13)) p107.length (slC (sl a 13))),(2,.agg #[.slice (slA (vtup (sl a 16) 0)) p111.1.length (slC (vtup (sl a 16) 0)),.slice (slA (vtup (sl a 16) 1)) p111.2.1.length (slC (vtup (sl a 16) 1)),.slice (slA (vtup (sl a 16) 2)) p111.2.2.length (slC (vtup (sl a 16) 2))]),(3,.slice (slA (sl a 19)) p121.length (slC (sl a 19)))]) rfl ⟨⟨rfl,(ev_sl (p 7 rfl))⟩,⟨rfl,(ev_sl (p 10 rfl))⟩,⟨rfl,(ev_sl (p 13 rfl))⟩,⟨rfl,(ev_sl (p 16 rfl))⟩,trivial⟩ (bd43_0x2_1_2x3_3 rfl rfl)),rfl,S⟩
  intro a u X hB hu p hr hz hl S
  replace S:St w u ([.box g102 43 #[iv 0,.slice none 0 0,.slice none 0 0,.slice none 0 0,.slice none 0 0,.slice none 0 0,.slice none 0 0]]++X):=S
  exact .inr (.inl ⟨rfl,_,run_store (cs':=#[iv x0,.slice (slA (sl a 9)) p103.length (slC (sl a 9)),.slice (slA (sl a 13)) p107.length (slC (sl a 13)),.slice (slA (vtup (sl a 16) 0)) p111.1.length (slC (vtup (sl a 16) 0)),.slice (slA (vtup (sl a 16) 1)) p111.2.1.length (slC (vtup (sl a 16) 1)),.slice (slA (vtup (sl a 16) 2)) p111.2.2.length (slC (vtup (sl a 16) 2)),.slice (slA (sl a 19)) p121.length (slC (sl a 19))]) rfl sz43 (f.evB hB rfl rfl) (ev_sl (p 17 rfl)) rfl rfl rfl (S.free 0 rfl) rfl rfl,trivial,S.put 0 rfl (#[iv x0,.slice (slA (sl a 9)) p103.length (slC (sl a 9)),.slice (slA (sl a 13)) p107.length (slC (sl a 13)),.slice (slA (vtup (sl a 16) 0)) p111.1.length (slC (vtup (sl a 16) 0)),.slice (slA (vtup (sl a 16) 1)) p111.2.1.length (slC (vtup (sl a 16) 1)),.slice (slA (vtup (sl a 16) 2)) p111.2.2.length (slC (vtup (sl a 16) 2)),.slice (slA (sl a 19)) p121.length (slC (sl a 19))])⟩)
 intro a u hB hp S
 obtain ⟨q0,q1,q2,q3,q4,q5,q6,q7,q8,q9,q10,q11,q12,q13,q14,q15,q16,q17,q18,-⟩:=hp
 replace S:St w u [.row 130 3 (.slice (slA (sl a 9)) p103.length (slC (sl a 9))) p103.length (p103.flatMap eLine),.row 110 2 (.slice (slA (sl a 13)) p107.length (slC (sl a 13))) p107.length (p107.flatMap eBus),.row 4 1 (.slice (slA (vtup (sl a 16) 0)) p111.1.length (slC (vtup (sl a 16) 0))) p111.1.length (p111.1.flatMap eB),.row 4 1 (.slice (slA (vtup (sl a 16) 1)) p111.2.1.length (slC (vtup (sl a 16) 1))) p111.2.1.length (p111.2.1.flatMap eB),.row 78 2 (.slice (slA (vtup (sl a 16) 2)) p111.2.2.length (slC (vtup (sl a 16) 2))) p111.2.2.length (p111.2.2.flatMap ePermit),.row 3 1 (.slice (slA (sl a 19)) p121.length (slC (sl a 19))) p121.length (p121.flatMap eI),.box g102 43 #[iv x0,.slice (slA (sl a 9)) p103.length (slC (sl a 9)),.slice (slA (sl a 13)) p107.length (slC (sl a 13)),.slice (slA (vtup (sl a 16) 0)) p111.1.length (slC (vtup (sl a 16) 0)),.slice (slA (vtup (sl a 16) 1)) p111.2.1.length (slC (vtup (sl a 16) 1)),.slice (slA (vtup (sl a 16) 2)) p111.2.2.length (slC (vtup (sl a 16) 2)),.slice (slA (sl a 19)) p121.length (slC (sl a 19))],.box g101 43 #[iv x0,.slice A1 x1.length c1,.slice A2 x2.length c2,.slice A3 x3.length c3,.slice A4 x4.length c4,.slice A5 x5.length c5,.slice A6 x6.length c6]]:=S
 have f:=f.region hB [(3,.pointer (some ⟨g101,0,none⟩)),(4,.pointer (some ⟨g101,0,none⟩)),(5,iv x0),(6,.pointer (some ⟨g101,0,none⟩)),(7,.pointer (some ⟨g101,1,none⟩)),(8,.slice A1 x1.length c1),(9,.slice (slA (sl a 9)) p103.length (slC (sl a 9))),(10,.agg #[iv x0,.slice (slA (sl a 9)) p103.length (slC (sl a 9))]),(11,.pointer (some ⟨g101,2,none⟩)),(12,.slice A2 x2.length c2),(13,.slice (slA (sl a 13)) p107.length (slC (sl a 13))),(14,.pointer (some ⟨g101,3,none⟩)),(15,.agg #[.slice A3 x3.length c3,.slice A4 x4.length c4,.slice A5 x5.length c5]),(16,.agg #[.slice (slA (vtup (sl a 16) 0)) p111.1.length (slC (vtup (sl a 16) 0)),.slice (slA (vtup (sl a 16) 1)) p111.2.1.length (slC (vtup (sl a 16) 1)),.slice (slA (vtup (sl a 16) 2)) p111.2.2.length (slC (vtup (sl a 16) 2))]),(17,.pointer (some ⟨g101,6,none⟩)),(18,.slice A6 x6.length c6),(19,.slice (slA (sl a 19)) p121.length (slC (sl a 19))),(20,.agg #[iv x0,.slice (slA (sl a 9)) p103.length (slC (sl a 9)),.slice (slA (sl a 13)) p107.length (slC (sl a 13)),.slice (slA (vtup (sl a 16) 0)) p111.1.length (slC (vtup (sl a 16) 0)),.slice (slA (vtup (sl a 16) 1)) p111.2.1.length (slC (vtup (sl a 16) 1)),.slice (slA (vtup (sl a 16) 2)) p111.2.2.length (slC (vtup (sl a 16) 2)),.slice (slA (sl a 19)) p121.length (slC (sl a 19))])] (allSl_mem ⟨q0,q1,q2,q3,q4,q5,q6,q7,q8,q9,q10,q11,q12,q13,q14,q15,q16,q17,trivial⟩) rfl
 clear hB q0 q1 q2 q3 q4 q5 q6 q7 q8 q9 q10 q11 q12 q13 q14 q15 q16 q17 q18
 generalize slA (sl a 9)=B143 at *
 generalize slC (sl a 9)=d144 at *
 generalize slA (sl a 13)=B145 at *
 generalize slC (sl a 13)=d146 at *
 generalize slA (vtup (sl a 16) 0)=B147 at *
 generalize slC (vtup (sl a 16) 0)=d148 at *
 generalize slA (vtup (sl a 16) 1)=B149 at *
 generalize slC (vtup (sl a 16) 1)=d150 at *
 generalize slA (vtup (sl a 16) 2)=B151 at *
 generalize slC (vtup (sl a 16) 2)=d152 at *
 generalize slA (sl a 19)=B153 at *
 generalize slC (sl a 19)=d154 at *
 refine wp_ret ?_
 refine ret1_gw (.inl rfl) f rfl (res_cell (f.ev rfl) (res_loadN ag43 rfl (S.cells 6 rfl 0 #[iv x0,.slice B143 p103.length d144,.slice B145 p107.length d146,.slice B147 p111.1.length d148,.slice B149 p111.2.1.length d150,.slice B151 p111.2.2.length d152,.slice B153 p121.length d154] rfl))) ?_
 obtain rfl:=Option.some.inj hM
 exact ⟨B143,p103.length,d144,B145,p107.length,d146,B147,p111.1.length,d148,B149,p111.2.1.length,d150,B151,p111.2.2.length,d152,B153,p121.length,d154,rfl,rfl,rfl,rfl,rfl,rfl,rfl,S.sel [0,1,2,3,4,5] rfl rfl⟩
theorem c_cmp_isNaN_int {x0:Int} {w:World} {r:Bool}  (hM : m_cmp_isNaN_int x0=some r) :
  Calls Tryz.prog 147 #[iv x0] w (fun e w'=>e=.returned (.bool r)∧St w w' []):=by
 unfold m_cmp_isNaN_int at hM
 refine calls_gx Tryz.func147 Tryz.ntmps147 rfl rfl ?_
 intro a f
 have S:=St.nil w
 revert a;refine sr (ov rfl (fun a f=>run_assign rfl rfl) fun a f=>wn ?_)
 revert a;refine sr (mv rfl rfl (mv rfl rfl (ov rfl (fun a f=>run_neq (f.ev rfl) (f.ev rfl) rfl) (ag rfl rfl fun a f=>wn ?_))))
 refine wp_ret ?_
 refine ret1_gw (.inl rfl) f rfl (res_tmp (f.ev rfl)) ?_
 obtain rfl:=Option.some.inj hM
 exact ⟨rfl,S.sel [] rfl rfl⟩
theorem c_cmp_Less_int {x0:Int} {x1:Int} {w:World} {r:Bool}  (hM : m_cmp_Less_int x0 x1=some r) :
  Calls Tryz.prog 129 #[iv x0,iv x1] w (fun e w'=>e=.returned (.bool r)∧St w w' []):=by
 unfold m_cmp_Less_int at hM
 refine calls_gx Tryz.func129 Tryz.ntmps129 rfl rfl ?_
 intro a f
 have S:=St.nil w
 revert a;refine sr (ov rfl (fun a f=>run_assign rfl rfl) fun a f=>wn ?_)
 revert a;refine sr (mv rfl rfl fun a f=>?_)
 obtain ⟨p101,h101,hM⟩:=bind_ex hM
 refine op_call rfl rfl f rfl (run_call (vs:=[_]) rfl rfl co147 ⟨(f.ev rfl),trivial⟩) (c_cmp_isNaN_int  h101) ?_
 rintro e u ⟨rfl,T⟩
 refine ⟨_,rfl,?_⟩
 clear f;intro a f
 replace S:=S.call0 T;clear T
 revert a;refine mv rfl rfl (gt rfl rfl rfl rfl (fun a f hg=>run_move rfl (f.ev rfl)) fun a f=>?_)
 obtain ⟨p102,h102,hM⟩:=bind_ex hM
 refine op_gcall (v:=.bool p102) rfl rfl f rfl S (yt (gw_yield f rfl rfl rfl)) (fun hg=>(run_call (vs:=[iv x1]) rfl rfl co147 ⟨((f.ev rfl).trans (gv_t hg)),trivial⟩)) (fun hg=>c_cmp_isNaN_int (x0:=x1)  (gb_t h102 hg)) ?_;clear f S;intro a u f S
 revert a;refine gt rfl rfl rfl rfl (fun a f hg=>run_not rfl ((f.ev rfl).trans (gv_t hg))) fun a f=>?_
 revert a;refine ov rfl (fun a f=>run_pick_and rfl (f.ev rfl) (fun hp=>((f.ev rfl).trans (gv_t hp))) rfl) (mv rfl rfl fun a f=>?_)
 revert a;refine gf rfl rfl rfl rfl (fun a f hg=>run_move rfl (f.ev rfl)) (gf rfl rfl rfl rfl (fun a f hg=>run_move rfl (f.ev rfl)) (gf rfl rfl rfl rfl (fun a f hg=>run_lss ((f.ev rfl).trans (gv_t hg)) ((f.ev rfl).trans (gv_t hg)) rfl) fun a f=>?_))
 revert a;refine ov rfl (fun a f=>run_pick_or rfl (f.ev rfl) rfl (fun hp=>((f.ev rfl).trans (gv_t (not_t hp))))) (ag rfl rfl fun a f=>wn ?_)
 refine wp_ret ?_
 refine ret1_gw (.inl rfl) f rfl (res_tmp (f.ev rfl)) ?_
 obtain rfl:=Option.some.inj hM
 exact ⟨rfl,S.sel [] rfl rfl⟩
theorem c_slices_isNaN_int {x0:Int} {w:World} {r:Bool}  (hM : m_slices_isNaN_int x0=some r) :
  Calls Tryz.prog 130 #[iv x0] w (fun e w'=>e=.returned (.bool r)∧St w w' []):=by
 unfold m_slices_isNaN_int at hM
 refine calls_gx Tryz.func130 Tryz.ntmps130 rfl rfl ?_
 intro a f
 have S:=St.nil w
 revert a;refine sr (ov rfl (fun a f=>run_assign rfl rfl) fun a f=>wn ?_)
 revert a;refine sr (mv rfl rfl (mv rfl rfl (ov rfl (fun a f=>run_neq (f.ev rfl) (f.ev rfl) rfl) (ag rfl rfl fun a f=>wn ?_))))
 refine wp_ret ?_
 refine ret1_gw (.inl rfl) f rfl (res_tmp (f.ev rfl)) ?_
 obtain rfl:=Option.some.inj hM
 exact ⟨rfl,S.sel [] rfl rfl⟩
theorem c_slices_BinarySearch_int_int {x0:List Int} {x1:Int} {A0:Option Addr} {n0 c0:Nat} {w:World} {r:Int×Bool} (h0:Rt w 1 eI A0 n0 c0 x0) (hM : m_slices_BinarySearch_int_int x0 x1=some r) :
  Calls Tryz.prog 98 #[.slice A0 n0 c0,iv x1] w (fun e w'=>e=.returned (.tuple #[iv r.1,.bool r.2])∧St w w' []):=by
 obtain rfl:=h0.len
 unfold m_slices_BinarySearch_int_int at hM
 refine calls_gx Tryz.func98 Tryz.ntmps98 rfl rfl ?_
 intro a f
 have S:=St.nil w
 revert a;refine sr (ov rfl (fun a f=>run_assign rfl rfl) (ov rfl (fun a f=>run_assign rfl rfl) fun a f=>wn ?_))
 revert a;refine sr (mv rfl rfl (ov rfl (fun a f=>run_lenL rfl rfl Tryz.underlying30 (f.ev rfl)) (ag rfl rfl fun a f=>wn ?_)))
 revert a;refine sr (mv rfl rfl (ov rfl (fun a f=>run_assign rfl rfl) (ag rfl rfl fun a f=>wn ?_)))
 refine ws ?_
 obtain ⟨o102,hM103,hM⟩:=bind_ex hM
 refine wp_cut (fun a u=>∃ (p101:Int),p101=o102∧Fr a 54 [(0,.slice A0 x0.length c0),(1,iv x1),(4,iv 0),(5,.bool false),(6,iv (x0.length:Int)),(7,iv p101)]∧St w u []) ?_ ?_
 ·have _:=trivial
  refine wp_block ?_
  refine loop_gw (fun m a u=>∃ (p104:Int×Int),m_slices_BinarySearch_int_int_l1 x0 x1 m p104=some _∧Fr a 54 [(0,.slice A0 x0.length c0),(1,iv x1),(4,iv 0),(5,.bool false),(6,iv (x0.length:Int)),(7,iv p104.1),(8,iv p104.2)]∧St w u []) FUEL ⟨(0,(x0.length:Int)),hM103,f.keep _ ⟨rfl,rfl,rfl,rfl,rfl,rfl,rfl,trivial⟩,S.sel [] rfl rfl⟩ ?_
  clear f S hM103;rintro m a u ⟨p104,hM103,f,S⟩
  rcases m with _ | f1
  ·exact none_some hM103
  rw [m_slices_BinarySearch_int_int_l1.eq_2] at hM103
  refine ws ?_
  revert a;refine sr (mv rfl rfl (mv rfl rfl (ov rfl (fun a f=>run_lss (f.ev rfl) (f.ev rfl) rfl) fun a f=>wn ?_)))
  cases hc105:(ltB p104.1 p104.2)
  ·replace hM103:=bif_f hc105 hM103
   refine cond_f f rfl hc105 ?_
   refine wp_exit ?_
   repeat with_reducible first|apply then_exit|apply in_hit|refine in_miss rfl ?_
   obtain rfl:=Option.some.inj hM103
   exact ⟨p104.1,rfl,f.keep _ ⟨rfl,rfl,rfl,rfl,rfl,rfl,trivial⟩,S.sel [] rfl rfl⟩
  replace hM103:=bif_t hc105 hM103
  refine cond_t f rfl hc105 ?_
  refine wp_skip ?_
  refine wp_block ?_
  revert a;refine sr (mv rfl rfl (mv rfl rfl (ov rfl (fun a f=>run_add (z:=w64 (p104.1+p104.2)) (f.ev rfl) (f.ev rfl) rfl rfl) (ov rfl (fun a f=>run_convI rfl Tryz.underlying3 Tryz.underlying158 (f.ev rfl)) (ov rfl (fun a f=>run_shr (f.ev rfl) rfl rfl (by decide)) (ov rfl (fun a f=>run_convI rfl Tryz.underlying158 Tryz.underlying3 (f.ev rfl)) (ag rfl rfl fun a f=>wn ?_)))))))
  revert a;refine sr (mv rfl rfl (mv rfl rfl fun a f=>?_))
  obtain ⟨hk106,hM103⟩:=chk_ex hM103
  replace hk106:=ixB_t hk106
  revert a;refine ov rfl (fun a f=>run_ix rfl Tryz.underlying30 sz3 (f.ev rfl) (S.rc0 h0.rc) (f.ev rfl) hk106) (ov rfl (fun a f=>run_load1 rfl one3 (f.ev rfl) (rd_el0 (l:=x0) (S.rc0 h0.rc).rd rfl eI_len 0 (ix_ltn hk106 rfl) rfl)) (mv rfl rfl fun a f=>?_))
  obtain ⟨p107,h107,hM103⟩:=bind_ex hM103
  refine op_call rfl rfl f rfl (run_call (vs:=[_,_]) rfl rfl co129 ⟨(f.ev rfl),(f.ev rfl),trivial⟩) (c_cmp_Less_int  h107) ?_
  rintro e u ⟨rfl,T⟩
  refine ⟨_,rfl,?_⟩
  clear f;intro a f
  replace S:=S.call0 T;clear T
  refine wn ?_
  obtain ⟨o109,hM110,hM103⟩:=bind_ex hM103
  refine wp_cut (fun a u=>∃ (p108:Int×Int),p108=o109∧Fr a 54 [(0,.slice A0 x0.length c0),(1,iv x1),(4,iv 0),(5,.bool false),(6,iv (x0.length:Int)),(7,iv p108.1),(8,iv p108.2)]∧St w u []) ?_ ?_
  ·have _:=trivial
   cases hc111:(p107)
   ·replace hM110:=bif_f hc111 hM110
    refine cond_f f rfl hc111 ?_
    revert a;refine rl (mv rfl rfl (ag rfl rfl fun a f=>wn ?_))
    obtain rfl:=Option.some.inj hM110
    exact ⟨(p104.1,w64 (bitsShr .u64 (wk .u64 (w64 (p104.1+p104.2))) 1)),rfl,f.keep _ ⟨rfl,rfl,rfl,rfl,rfl,rfl,rfl,trivial⟩,S.sel [] rfl rfl⟩
   replace hM110:=bif_t hc111 hM110
   refine cond_t f rfl hc111 ?_
   revert a;refine rl (mv rfl rfl (ov rfl (fun a f=>run_add (z:=w64 ((w64 (bitsShr .u64 (wk .u64 (w64 (p104.1+p104.2))) 1))+1)) (f.ev rfl) rfl rfl rfl) (ag rfl rfl fun a f=>wn ?_)))
   obtain rfl:=Option.some.inj hM110
   exact ⟨(w64 ((w64 (bitsShr .u64 (wk .u64 (w64 (p104.1+p104.2))) 1))+1),p104.2),rfl,f.keep _ ⟨rfl,rfl,rfl,rfl,rfl,rfl,rfl,trivial⟩,S.sel [] rfl rfl⟩
  rintro a u ⟨p108,rfl,f,S⟩
  exact ⟨f1,Nat.lt_succ_self _,(p108.1,p108.2),hM103,f.keep _ ⟨rfl,rfl,rfl,rfl,rfl,rfl,rfl,trivial⟩,S.sel [] rfl rfl⟩
 rintro a u ⟨p101,rfl,f,S⟩
 revert a;refine sr (mv rfl rfl (mv rfl rfl (mv rfl rfl (ov rfl (fun a f=>run_lss (f.ev rfl) (f.ev rfl) rfl) (mv rfl rfl fun a f=>?_)))))
 revert a;refine gt rfl rfl rfl rfl (fun a f hg=>run_move rfl (f.ev rfl)) (gt rfl rfl rfl rfl (fun a f hg=>run_move rfl (f.ev rfl)) fun a f=>?_)
 obtain ⟨hk112,hM⟩:=chk_ex hM
 replace hk112:=fun hg=>ixB_t (imp_t hk112 hg)
 revert a;refine gt rfl rfl rfl rfl (fun a f hg=>run_ix rfl Tryz.underlying30 sz3 ((f.ev rfl).trans (gv_t hg)) (S.rc0 h0.rc) ((f.ev rfl).trans (gv_t hg)) (hk112 hg)) (gt rfl rfl rfl rfl (fun a f hg=>run_load1 rfl one3 ((f.ev rfl).trans (gv_t hg)) (rd_el0 (l:=x0) (S.rc0 h0.rc).rd rfl eI_len 0 (ix_ltn (hk112 hg) rfl) rfl)) (gt rfl rfl rfl rfl (fun a f hg=>run_move rfl (f.ev rfl)) (gt rfl rfl rfl rfl (fun a f hg=>run_eql ((f.ev rfl).trans (gv_t hg)) ((f.ev rfl).trans (gv_t hg)) rfl) (gt rfl rfl rfl rfl (fun a f hg=>run_move rfl ((f.ev rfl).trans (gv_t hg))) fun a f=>?_))))
 refine op_gv (v:=.slice A0 x0.length c0) rfl rfl f rfl (yfG (gw_yieldG f rfl rfl rfl)) (fun hg=>(run_move rfl (f.ev rfl))) ?_;clear f;intro a f
 refine op_gv (v:=iv p101) rfl rfl f rfl (yfG (gw_yieldG f rfl rfl rfl)) (fun hg=>(run_move rfl (f.ev rfl))) ?_;clear f;intro a f
 obtain ⟨hk113,hM⟩:=chk_ex hM
 replace hk113:=fun hg=>ixB_t (imp_t hk113 hg)
 refine op_gv (v:=.pointer (some ⟨adB A0,adO A0+p101.toNat*1,none⟩)) rfl rfl f rfl (yfG (gw_yieldG f rfl rfl rfl)) (fun hg=>(run_ix rfl Tryz.underlying30 sz3 ((f.ev rfl).trans (gv_t hg)) (S.rc0 h0.rc) ((f.ev rfl).trans (gv_t hg)) (hk113 hg))) ?_;clear f;intro a f
 refine op_gv (v:=iv (x0.getD p101.toNat 0)) rfl rfl f rfl (yfG (gw_yieldG f rfl rfl rfl)) (fun hg=>(run_load1 rfl one3 ((f.ev rfl).trans (gv_t hg)) (rd_el0 (l:=x0) (S.rc0 h0.rc).rd rfl eI_len 0 (ix_ltn (hk113 hg) rfl) rfl))) ?_;clear f;intro a f
 obtain ⟨p114,h114,hM⟩:=bind_ex hM
 refine op_gcall (v:=.bool p114) rfl rfl f rfl S (yfG (gw_yieldG f rfl rfl rfl)) (fun hg=>(run_call (vs:=[iv (x0.getD p101.toNat 0)]) rfl rfl co130 ⟨((f.ev rfl).trans (gv_t hg)),trivial⟩)) (fun hg=>c_slices_isNaN_int (x0:=(x0.getD p101.toNat 0))  (gb_t h114 hg)) ?_;clear f S;intro a u f S
 refine op_gv (v:=.bool p114) rfl rfl f rfl (yfG (gw_yieldG f rfl rfl rfl)) (fun hg=>(run_move rfl ((f.ev rfl).trans (gv_t hg)))) ?_;clear f;intro a f
 refine op_gv (v:=iv x1) rfl rfl f rfl (ytG (gw_yieldG f rfl rfl rfl)) (fun hg=>(run_move rfl (f.ev rfl))) ?_;clear f;intro a f
 obtain ⟨p115,h115,hM⟩:=bind_ex hM
 refine op_gcall (v:=.bool p115) rfl rfl f rfl S (ytG (gw_yieldG f rfl rfl rfl)) (fun hg=>(run_call (vs:=[iv x1]) rfl rfl co130 ⟨((f.ev rfl).trans (gv_t hg)),trivial⟩)) (fun hg=>c_slices_isNaN_int (x0:=x1)  (gb_t h115 hg)) ?_;clear f S;intro a u f S
 refine op_gv (v:=.bool (p114&&p115)) rfl rfl f rfl (yfG (gw_yieldG f rfl rfl rfl)) (fun hg=>(run_pick_and rfl ((f.ev rfl).trans (gv_t hg)) (fun hp=>((f.ev rfl).trans (gv_t (and_i hg hp)))) rfl)) ?_;clear f;intro a f
 revert a;refine gt rfl rfl rfl rfl (fun a f hg=>run_pick_or rfl ((f.ev rfl).trans (gv_t hg)) rfl (fun hp=>((f.ev rfl).trans (gv_t (and_i hg (not_t hp)))))) fun a f=>?_
 revert a;refine ov rfl (fun a f=>run_pick_and rfl (f.ev rfl) (fun hp=>((f.ev rfl).trans (gv_t hp))) rfl) (ag rfl rfl (ag rfl rfl fun a f=>wn ?_))
 refine wp_ret ?_
 refine ret2_gw (.inl rfl) f rfl (res_tmp (f.ev rfl)) (res_tmp (f.ev rfl)) ?_
 obtain rfl:=Option.some.inj hM
 exact ⟨rfl,S.sel [] rfl rfl⟩
theorem c_slices_Delete_int_int {x0:List Int} {x1:Int} {x2:Int} {A0:Option Addr} {n0 c0:Nat} {w:World} {r:List Int} {w0:World} {X:List Asn} (h0 : n0=x0.length) (S:St w0 w (Asn.row 3 1 (.slice A0 n0 c0) n0 (x0.flatMap eI) :: X)) (hM : m_slices_Delete_int_int x0 x1 x2=some r) :
  Calls Tryz.prog 101 #[.slice A0 n0 c0,iv x1,iv x2] w (fun e w'=>∃ (B0:Option Addr) (N0 D0:Nat),e=.returned (.slice B0 N0 D0)∧N0=r.length∧St w0 w' (Asn.row 3 1 (.slice B0 N0 D0) N0 (r.flatMap eI) :: X)):=by
 obtain rfl:=h0
 unfold m_slices_Delete_int_int at hM
 refine calls_gx Tryz.func101 Tryz.ntmps101 rfl rfl ?_
 intro a f
 revert a;refine sr (ov rfl (fun a f=>run_assign rfl rfl) fun a f=>wn ?_)
 revert a;refine sr (mv rfl rfl (mv rfl rfl (mv rfl rfl (mv rfl rfl (ov rfl (fun a f=>run_lenL rfl rfl Tryz.underlying30 (f.ev rfl)) fun a f=>?_)))))
 obtain ⟨hk101,hM⟩:=chk_ex hM
 replace hk101:=slB_t hk101
 revert a;refine ov rfl (fun a f=>run_slice3 rfl Tryz.underlying30 sz3 (f.ev rfl) (f.ev rfl) (f.ev rfl) (f.ev rfl) hk101 (Int.ofNat_le.2 (S.rc 0 rfl).cap)) fun a f=>wn ?_
 refine ws ?_
 revert a;refine sr (mv rfl rfl (mv rfl rfl (ov rfl (fun a f=>run_eql (f.ev rfl) (f.ev rfl) rfl) fun a f=>wn ?_)))
 cases hc102:(x1==x2)
 ·replace hM:=bif_f hc102 hM
  refine cond_f f rfl hc102 ?_
  refine wp_skip ?_
  revert a;refine sr (mv rfl rfl (ov rfl (fun a f=>run_lenL rfl rfl Tryz.underlying30 (f.ev rfl)) (ag rfl rfl fun a f=>wn ?_)))
  refine ws ?_
  obtain ⟨hk103,hM⟩:=chk_ex hM
  replace hk103:=slB_t hk103
  obtain ⟨hk104,hM⟩:=chk_ex hM
  replace hk104:=slB_t hk104
  obtain ⟨hk105,hM⟩:=chk_ex hM
  replace hk105:=apB_t hk105
  have hp106:=(S.rc 0 rfl).cap
  have hq107:=del_len (l:=x0) (p:=x1) (q:=x2) rfl (by omega)
  refine region_gw (D:=[20,21,22,23,24,25,26,0]) (Lr:=(X)) (deps:=(fun | 0=>[20] | 1=>[21] | 2=>[22] | 3=>[23] | 4=>[24] | 5=>[25] | 6=>[26] | 7=>[0] | _=>[])) (rd:=(fun _=>[])) (zr:=(fun | 2=>[6] | 5=>[6] | _=>[]))
   (φ:=fun i vs=>match i,vs with | 0,[v20]=>v20=.slice A0 x0.length c0 | 1,[v21]=>v21=iv x1 | 2,[v22]=>v22=.slice (subA c0 ((0:Int).toNat) 1 A0) ((subL x0 0 x1).length) (c0-(0:Int).toNat) | 3,[v23]=>v23=.slice A0 x0.length c0 | 4,[v24]=>v24=iv x2 | 5,[v25]=>v25=.slice (subA c0 x2.toNat 1 A0) ((subL x0 x2 (x0.length:Int)).length) (c0-x2.toNat) | 6,[v26]=>v26=.slice A0 (((subL x0 0 x1)++(subL x0 x2 (x0.length:Int))).length) c0 | 7,[v0]=>v0=.slice A0 (((subL x0 0 x1)++(subL x0 x2 (x0.length:Int))).length) c0 | _,_=>True)
   (C:=fun i vs=>match i,vs with | 6,[v26]=>[.row 3 1 (.slice A0 (((subL x0 0 x1)++(subL x0 x2 (x0.length:Int))).length) c0) (((subL x0 0 x1)++(subL x0 x2 (x0.length:Int))).length) (((subL x0 0 x1)++(subL x0 x2 (x0.length:Int))).flatMap eI)] | _,_=>[])
   (κ:=(fun _=>none)) (Z:=(fun | 6=>[.row 3 1 (.slice A0 x0.length c0) x0.length (x0.flatMap eI)] | _=>[])) mixed f (by kernel_rfl) (show St w0 _ (Asn.row 3 1 (.slice A0 x0.length c0) x0.length (x0.flatMap eI) :: X) from S.selT (M:=[.row 3 1 (.slice A0 x0.length c0) x0.length (x0.flatMap eI)]) 1 [0] rfl rfl rfl) ?_ ?_
  ·refine ⟨?_,?_,?_,?_,?_,?_,?_,?_,trivial⟩
   ·intro a u X' hB hu hp hr hz hl S
    replace S:St w0 u ([]++X'):=S
    exact .inl ⟨rfl,.slice A0 x0.length c0,u,(run_move rfl (f.evU (hu 7 0 rfl rfl) rfl)),rfl,S⟩
   ·intro a u X' hB hu hp hr hz hl S
    replace S:St w0 u ([]++X'):=S
    exact .inl ⟨rfl,iv x1,u,(run_move rfl (f.evB hB rfl rfl)),rfl,S⟩
   ·intro a u X' hB hu hp hr hz hl S
    replace S:St w0 u ([]++X'):=S
    have e20 : sl a 20=.slice A0 x0.length c0:=hp 0 rfl
    have e21 : sl a 21=iv x1:=hp 1 rfl
    exact .inl ⟨rfl,.slice (subA c0 ((0:Int).toNat) 1 A0) ((subL x0 0 x1).length) (c0-(0:Int).toNat),u,(run_sliceH (l:=x0) rfl Tryz.underlying30 sz3 (ev_sl e20) (ev_sl e21) hk103 rfl (own_rc (show Ow _ _ _ _ _ _ from S.mem (List.mem_append_right _ (hz 6 (List.mem_of_getElem? (i:=0) rfl) _ (List.mem_of_getElem? (i:=0) rfl))))).cap),rfl,S⟩
   ·intro a u X' hB hu hp hr hz hl S
    replace S:St w0 u ([]++X'):=S
    exact .inl ⟨rfl,.slice A0 x0.length c0,u,(run_move rfl (f.evU (hu 7 0 rfl rfl) rfl)),rfl,S⟩
   ·intro a u X' hB hu hp hr hz hl S
    replace S:St w0 u ([]++X'):=S
    exact .inl ⟨rfl,iv x2,u,(run_move rfl (f.evB hB rfl rfl)),rfl,S⟩
   ·intro a u X' hB hu hp hr hz hl S
    replace S:St w0 u ([]++X'):=S
    have e23 : sl a 23=.slice A0 x0.length c0:=hp 3 rfl
    have e24 : sl a 24=iv x2:=hp 4 rfl
    exact .inl ⟨rfl,.slice (subA c0 x2.toNat 1 A0) ((subL x0 x2 (x0.length:Int)).length) (c0-x2.toNat),u,(run_slicefrom (l:=x0) rfl Tryz.underlying30 sz3 (ev_sl e23) (ev_sl e24) hk104 rfl (own_rc (show Ow _ _ _ _ _ _ from S.mem (List.mem_append_right _ (hz 6 (List.mem_of_getElem? (i:=0) rfl) _ (List.mem_of_getElem? (i:=0) rfl))))).cap),rfl,S⟩
   ·intro a u X' hB hu hp hr hz hl S
    replace S:St w0 u ([.row 3 1 (.slice A0 x0.length c0) x0.length (x0.flatMap eI)]++X'):=S
    have e22 : sl a 22=.slice (subA c0 ((0:Int).toNat) 1 A0) ((subL x0 0 x1).length) (c0-(0:Int).toNat):=hp 2 rfl
    have e25 : sl a 25=.slice (subA c0 x2.toNat 1 A0) ((subL x0 x2 (x0.length:Int)).length) (c0-x2.toNat):=hp 5 rfl
    obtain ⟨w',hrun,S'⟩:=S.delrow (i:=0) (P:=Tryz.prog) (ty:=30) (p:=x1) (q:=x2) rfl rfl eI_len eI_one Tryz.underlying30 sz3 (by omega) (by omega) (by omega)
    exact .inl ⟨rfl,_,w',run_append rfl (ev_sl e22) (ev_sl e25) hrun,rfl,S'⟩
   intro a u X' hB hu hp hr hz hl S
   replace S:St w0 u ([]++X'):=S
   have e26 : sl a 26=.slice A0 (((subL x0 0 x1)++(subL x0 x2 (x0.length:Int))).length) c0:=hp 6 rfl
   exact .inl ⟨rfl,.slice A0 (((subL x0 0 x1)++(subL x0 x2 (x0.length:Int))).length) c0,u,(run_assign rfl (ev_sl e26)),rfl,S⟩
  intro a u hB hp S
  obtain ⟨q0,q1,q2,q3,q4,q5,q6,q7,-⟩:=hp
  replace S:St w0 u (Asn.row 3 1 (.slice A0 (((subL x0 0 x1)++(subL x0 x2 (x0.length:Int))).length) c0) (((subL x0 0 x1)++(subL x0 x2 (x0.length:Int))).length) (((subL x0 0 x1)++(subL x0 x2 (x0.length:Int))).flatMap eI) :: X):=S
  have f:=f.region hB [(20,_),(21,_),(22,_),(23,_),(24,_),(25,_),(26,_),(0,_)] (allSl_mem ⟨q0,q1,q2,q3,q4,q5,q6,q7,trivial⟩) rfl
  clear hB q0 q1 q2 q3 q4 q5 q6 q7
  revert a;refine sr (mv rfl rfl (mv rfl rfl (ov rfl (fun a f=>run_lenL rfl rfl Tryz.underlying30 (f.ev rfl)) (mv rfl rfl (ov rfl (fun a f=>run_slicebey rfl Tryz.underlying30 sz3 (f.ev rfl) (f.ev rfl) (f.ev rfl) ⟨Int.natCast_nonneg _,Int.ofNat_le.2 hq107,Int.ofNat_le.2 hp106⟩) fun a f=>?_)))))
  obtain ⟨w',hrun,S'⟩:=S.clear (i:=0) (P:=Tryz.prog) (hi:=(x0.length:Int)) rfl rfl eI_len Tryz.underlying30 inf3 rfl rfl ⟨Int.ofNat_le.2 hq107,Int.ofNat_le.2 hp106⟩
  refine op_builtin0 rfl rfl rfl (f.ev rfl) hrun ?_
  clear S hrun;have S:=S';clear S';generalize w'=u at S ⊢
  refine wn ?_
  revert a;refine sr (mv rfl rfl (ag rfl rfl fun a f=>wn ?_))
  refine wp_ret ?_
  refine ret1_gw (.inl rfl) f rfl (res_tmp (f.ev rfl)) ?_
  obtain rfl:=Option.some.inj hM
  exact ⟨A0,(((subL x0 0 x1)++(subL x0 x2 (x0.length:Int))).length),c0,rfl,rfl,S.selT (M:=[.row 3 1 (.slice A0 (((subL x0 0 x1)++(subL x0 x2 (x0.length:Int))).length) c0) (((subL x0 0 x1)++(subL x0 x2 (x0.length:Int))).length) (((subL x0 0 x1)++(subL x0 x2 (x0.length:Int))).flatMap eI)]) 1 [0] rfl rfl rfl⟩
 replace hM:=bif_t hc102 hM
 refine cond_t f rfl hc102 ?_
 revert a;refine sr (mv rfl rfl (ag rfl rfl fun a f=>wn ?_))
 refine wp_ret ?_
 repeat with_reducible first|apply tr|apply ir|apply nr
 refine ret1_gw (.inl rfl) f rfl (res_tmp (f.ev rfl)) ?_
 obtain rfl:=Option.some.inj hM
 exact ⟨A0,x0.length,c0,rfl,rfl,S.selT (M:=[.row 3 1 (.slice A0 x0.length c0) x0.length (x0.flatMap eI)]) 1 [0] rfl rfl rfl⟩
theorem c_slices_Insert_int_int {x0:List Int} {x1:Int} {x2:List Int} {A0:Option Addr} {n0 c0:Nat} {A2:Option Addr} {n2 c2:Nat} {w:World} {r:List Int} {w0:World} {X:List Asn} (h0 : n0=x0.length) (h2 : n2=x2.length) (S:St w0 w (Asn.row 3 1 (.slice A0 n0 c0) n0 (x0.flatMap eI) :: Asn.row 3 1 (.slice A2 n2 c2) n2 (x2.flatMap eI) :: X)) (hM : m_slices_Insert_int_int x0 x1 x2=some r) :
  Calls Tryz.prog 99 #[.slice A0 n0 c0,iv x1,.slice A2 n2 c2] w (fun e w'=>∃ (B0:Option Addr) (N0 D0:Nat),e=.returned (.slice B0 N0 D0)∧N0=r.length∧St w0 w' (Asn.row 3 1 (.slice B0 N0 D0) N0 (r.flatMap eI) :: X)):=by
 obtain rfl:=h0
 obtain rfl:=h2
 unfold m_slices_Insert_int_int at hM
 obtain ⟨hk1,hM⟩:=chk_ex hM
 obtain ⟨hk2,hM⟩:=chk_ex hM
 obtain ⟨hk3,hM⟩:=chk_ex hM
 obtain rfl:=Option.some.inj hM
 replace hk1:=slB_t hk1
 replace hk2:=apB_t hk2
 obtain ⟨y,rfl⟩ : ∃ y,x2=[y]:=List.length_eq_one_iff.1 (by have:=eq_of_beq hk3;omega)
 refine (ins_calls S (k:=0) (m:=1) rfl rfl rfl (by decide) ⟨hk1.2.1,hk1.2.2⟩ hk2).mono ?_
 rintro e w' ⟨B,D,rfl,T⟩
 exact ⟨B,_,D,rfl,ins_len hk1.2.1 hk1.2.2,T.sub (.cons_cons _ (.cons _ (List.Sublist.refl _)))⟩
theorem c_impl_WorkHeld {x0:List Bool} {x1:List Bool} {x2:List (Int×Int)} {x3:Int} {A0:Option Addr} {n0 c0:Nat} {A1:Option Addr} {n1 c1:Nat} {A2:Option Addr} {n2 c2:Nat} {w:World} {r:List Int} (h0:Rt w 1 eB A0 n0 c0 x0) (h1:Rt w 1 eB A1 n1 c1 x1) (h2:Rt w 2 ePermit A2 n2 c2 x2) (hM : m_impl_WorkHeld x0 x1 x2 x3=some r) :
  Calls Tryz.prog 149 #[.agg #[.slice A0 n0 c0,.slice A1 n1 c1,.slice A2 n2 c2],iv x3] w (fun e w'=>∃ (B0:Option Addr) (N0 D0:Nat),e=.returned (.slice B0 N0 D0)∧N0=r.length∧St w w' [.row 3 1 (.slice B0 N0 D0) N0 (r.flatMap eI)]):=by
 obtain rfl:=h0.len
 obtain rfl:=h1.len
 obtain rfl:=h2.len
 unfold m_impl_WorkHeld at hM
 refine calls_gx Tryz.func149 Tryz.ntmps149 rfl rfl ?_
 intro a f
 have S:=St.nil w
 refine wsg ?_
 refine op_new (cs:=#[.slice A0 x0.length c0,.slice A1 x1.length c1,.slice A2 x2.length c2]) rfl rfl f rfl S (run_box rfl (f.ev rfl) rfl) ?_;clear f S;intro a g101 u f S
 revert a;refine ov rfl (fun a f=>run_assign rfl rfl) fun a f=>wn ?_
 refine ws ?_
 revert a;refine sr (ov rfl (fun a f=>run_loadN rfl ag41 (f.ev rfl) rfl ((S.free 0 rfl).cells 0 #[.slice A0 x0.length c0,.slice A1 x1.length c1,.slice A2 x2.length c2] rfl)) fun a f=>?_)
 obtain ⟨p102,h102,hM⟩:=bind_ex hM
 refine op_call rfl rfl f rfl (run_call (vs:=[_]) rfl rfl co75 ⟨(f.ev rfl),trivial⟩) (c_impl_WorkValid ⟨(S.rc0 h0.rc),rfl⟩ ⟨(S.rc0 h1.rc),rfl⟩ ⟨(S.rc0 h2.rc),rfl⟩ h102) ?_
 rintro e u ⟨rfl,T⟩
 refine ⟨_,rfl,?_⟩
 clear f;intro a f
 replace S:=S.call0 T;clear T
 revert a;refine ov rfl (fun a f=>run_not rfl (f.ev rfl)) fun a f=>wn ?_
 cases hc103:(p102)
 ·replace hM:=bif_f hc103 hM
  refine cond_t f rfl (not_t hc103) ?_
  revert a;refine sr (ov rfl (fun a f=>run_assign rfl rfl) fun a f=>wn ?_)
  refine wp_ret ?_
  repeat with_reducible first|apply tr|apply ir|apply nr
  refine ret1_gw (.inl rfl) f rfl (res_tmp (f.ev rfl)) ?_
  obtain rfl:=Option.some.inj hM
  replace S:=S.nilrow 3 1
  exact ⟨none,0,0,rfl,rfl,S.sel [0] rfl rfl⟩
 replace hM:=bif_t hc103 hM
 refine cond_f f rfl (not_f hc103) ?_
 refine wp_skip ?_
 revert a;refine sr (ov rfl (fun a f=>run_assign rfl rfl) fun a f=>wn ?_)
 refine ws ?_
 revert a;refine sr (ov rfl (fun a f=>run_fieldAddr rfl fl41_2 (f.ev rfl) rfl) (ov rfl (fun a f=>run_load1 rfl one39 (f.ev rfl) (S.cell 0 rfl rfl)) (ov rfl (fun a f=>run_lenL rfl rfl Tryz.underlying39 (f.ev rfl)) (ov rfl (fun a f=>run_move rfl rfl) fun a f=>wn ?_))))
 obtain ⟨o105,hM108,hM⟩:=bind_ex hM
 refine wp_cut (fun a u=>∃ (p104:List Int) (B106:Option Addr) (d107:Nat),p104=o105∧Fr a 29 [(4,.slice none 0 0),(5,.slice B106 p104.length d107)]∧St w u [.row 3 1 (.slice B106 p104.length d107) p104.length (p104.flatMap eI)]) ?_ ?_
 ·have _:=trivial
  refine wp_block ?_
  replace S:=S.nilrow 3 1
  refine loop_gw (fun m a u=>∃ (p109:List Int×Int) (B110:Option Addr) (d111:Nat),m_impl_WorkHeld_l1 x2 x3 m p109=some _∧Fr a 29 [(1,iv x3),(4,.slice none 0 0),(5,.slice B110 p109.1.length d111),(12,.slice A2 x2.length c2),(13,iv (x2.length:Int)),(14,iv p109.2)]∧St w u [.row 3 1 (.slice B110 p109.1.length d111) p109.1.length (p109.1.flatMap eI)]) FUEL ⟨(([]:List Int),0),none,0,hM108,f.keep _ ⟨rfl,rfl,rfl,rfl,rfl,rfl,trivial⟩,S.sel [0] rfl rfl⟩ ?_
  clear f S hM108;rintro m a u ⟨p109,B110,d111,hM108,f,S⟩
  rcases m with _ | f1
  ·exact none_some hM108
  rw [m_impl_WorkHeld_l1.eq_2] at hM108
  revert a;refine sr (ov rfl (fun a f=>run_lss (f.ev rfl) (f.ev rfl) rfl) fun a f=>wn ?_)
  refine ws ?_
  cases hc112:(ltB p109.2 (x2.length:Int))
  ·replace hM108:=bif_f hc112 hM108
   refine cond_f f rfl hc112 ?_
   refine wp_exit ?_
   repeat with_reducible first|apply then_exit|apply in_hit|refine in_miss rfl ?_
   obtain rfl:=Option.some.inj hM108
   exact ⟨p109.1,B110,d111,rfl,f.keep _ ⟨rfl,rfl,trivial⟩,S.sel [0] rfl rfl⟩
  replace hM108:=bif_t hc112 hM108
  refine cond_t f rfl hc112 ?_
  refine wp_skip ?_
  refine ws ?_
  refine wp_block ?_
  refine wsg ?_
  obtain ⟨hk113,hM108⟩:=chk_ex hM108
  replace hk113:=ixB_t hk113
  revert a;refine ov rfl (fun a f=>run_ix rfl Tryz.underlying39 sz78 (f.ev rfl) (S.rc0 h2.rc) (f.ev rfl) hk113) (ov rfl (fun a f=>run_loadN (cs:=#[iv ((x2.getD p109.2.toNat (0,0)).1),iv ((x2.getD p109.2.toNat (0,0)).2)]) rfl ag78 (f.ev rfl) rfl (rd_elN (l:=x2) (S.rc0 h2.rc).rd rfl ePermit_len (0,0) (ix_ltn hk113 rfl) rfl)) fun a f=>?_)
  refine op_new (cs:=#[iv 0,iv 0]) rfl rfl f rfl S (run_allocZ rfl zr78) ?_;clear f S;intro a g114 u f S
  refine op_do rfl rfl (run_store (cs':=#[iv ((x2.getD p109.2.toNat (0,0)).1),iv ((x2.getD p109.2.toNat (0,0)).2)]) rfl sz78 (f.ev rfl) (f.ev rfl) rfl rfl rfl (S.free 0 rfl) rfl rfl) ?_;replace S:=S.put 0 rfl (#[iv ((x2.getD p109.2.toNat (0,0)).1),iv ((x2.getD p109.2.toNat (0,0)).2)])
  generalize World.setRow _ _ _=u at S ⊢
  refine wn ?_
  revert a;refine sr (ov rfl (fun a f=>run_fieldAddr rfl fl78_1 (f.ev rfl) rfl) (ov rfl (fun a f=>run_load1 rfl one3 (f.ev rfl) (S.cell 0 rfl rfl)) (mv rfl rfl (ov rfl (fun a f=>run_eql (f.ev rfl) (f.ev rfl) rfl) fun a f=>wn ?_))))
  obtain ⟨o116,hM119,hM108⟩:=bind_ex hM108
  refine wp_cut (fun a u=>∃ (p115:List Int) (B117:Option Addr) (d118:Nat),p115=o116∧Fr a 29 [(1,iv x3),(4,.slice none 0 0),(5,.slice B117 p115.length d118),(12,.slice A2 x2.length c2),(13,iv (x2.length:Int)),(14,iv p109.2)]∧St w u [.row 3 1 (.slice B117 p115.length d118) p115.length (p115.flatMap eI)]) ?_ ?_
  ·have _:=trivial
   cases hc120:(((x2.getD p109.2.toNat (0,0)).2)==x3)
   ·replace hM119:=bif_f hc120 hM119
    refine cond_f f rfl hc120 ?_
    refine wp_skip ?_
    obtain rfl:=Option.some.inj hM119
    exact ⟨p109.1,B110,d111,rfl,f.keep _ ⟨rfl,rfl,rfl,rfl,rfl,rfl,trivial⟩,S.sel [1] rfl rfl⟩
   replace hM119:=bif_t hc120 hM119
   refine cond_t f rfl hc120 ?_
   revert a;refine rl (mv rfl rfl (ov rfl (fun a f=>run_fieldAddr rfl fl78_0 (f.ev rfl) rfl) (ov rfl (fun a f=>run_load1 rfl one3 (f.ev rfl) (S.cell 0 rfl rfl)) fun a f=>?_)))
   refine op_newrowL (ls:=(([(x2.getD p109.2.toNat (0,0)).1]:List Int):List Int)) (e:=eI) rfl rfl f rfl S (run_buildS (vs:=[(0,iv ((x2.getD p109.2.toNat (0,0)).1))]) rfl ⟨⟨rfl,(f.ev rfl)⟩,trivial⟩ (bs30_1_0 rfl)) rfl eI_len (Nat.le_of_ble_eq_true rfl) ?_;clear f S;intro a g121 u f S
   obtain ⟨hk124,hM119⟩:=chk_ex hM119
   replace hk124:=apB_t hk124
   refine op_appendL (lx:=p109.1) (ly:=([(x2.getD p109.2.toNat (0,0)).1]:List Int)) rfl rfl f rfl S rfl (f.ev rfl) (f.ev rfl) (i:=2) rfl rfl Tryz.underlying30 inf3 rfl (by decide) (S.rc 0 rfl).rd rfl eI_one hk124 (by decide) ?_;clear f S;intro a B122 d123 u f S
   revert a;refine ag rfl rfl fun a f=>wn ?_
   obtain rfl:=Option.some.inj hM119
   exact ⟨p109.1++([(x2.getD p109.2.toNat (0,0)).1]:List Int),B122,d123,rfl,f.keep _ ⟨rfl,rfl,rfl,rfl,rfl,rfl,trivial⟩,S.sel [2] rfl rfl⟩
  rintro a u ⟨p115,B117,d118,rfl,f,S⟩
  revert a;refine rl (ov rfl (fun a f=>run_add (z:=w64 (p109.2+1)) (f.ev rfl) rfl rfl rfl) (mv rfl rfl fun a f=>wn ?_))
  exact ⟨f1,Nat.lt_succ_self _,(p115,w64 (p109.2+1)),B117,d118,hM108,f.keep _ ⟨rfl,rfl,rfl,rfl,rfl,rfl,trivial⟩,S.sel [0] rfl rfl⟩
 rintro a u ⟨p104,B106,d107,rfl,f,S⟩
 revert a;refine sr (mv rfl rfl (ag rfl rfl fun a f=>wn ?_))
 refine wp_ret ?_
 refine ret1_gw (.inl rfl) f rfl (res_tmp (f.ev rfl)) ?_
 obtain rfl:=Option.some.inj hM
 exact ⟨B106,p104.length,d107,rfl,rfl,S.sel [0] rfl rfl⟩
theorem c_impl_Work_may {x0:List Bool} {x1:List Bool} {x2:List (Int×Int)} {x3:Int} {x4:Int} {x5:Int} {A0:Option Addr} {n0 c0:Nat} {A1:Option Addr} {n1 c1:Nat} {A2:Option Addr} {n2 c2:Nat} {w:World} {r:Bool} (h0:Rt w 1 eB A0 n0 c0 x0) (h1:Rt w 1 eB A1 n1 c1 x1) (h2:Rt w 2 ePermit A2 n2 c2 x2) (hM : m_impl_Work_may x0 x1 x2 x3 x4 x5=some r) :
  Calls Tryz.prog 134 #[.agg #[.slice A0 n0 c0,.slice A1 n1 c1,.slice A2 n2 c2],.agg #[iv x3,iv x4,iv x5]] w (fun e w'=>e=.returned (.bool r)∧St w w' []):=by
 obtain rfl:=h0.len
 obtain rfl:=h1.len
 obtain rfl:=h2.len
 unfold m_impl_Work_may at hM
 refine calls_gx Tryz.func134 Tryz.ntmps134 rfl rfl ?_
 intro a f
 have S:=St.nil w
 refine wsg ?_
 refine op_new (cs:=#[.slice A0 x0.length c0,.slice A1 x1.length c1,.slice A2 x2.length c2]) rfl rfl f rfl S (run_box rfl (f.ev rfl) rfl) ?_;clear f S;intro a g101 u f S
 refine op_new (cs:=#[iv x3,iv x4,iv x5]) rfl rfl f rfl S (run_box rfl (f.ev rfl) rfl) ?_;clear f S;intro a g102 u f S
 revert a;refine ov rfl (fun a f=>run_assign rfl rfl) fun a f=>wn ?_
 refine ws ?_
 obtain ⟨hk103,hM⟩:=chk_ex hM
 replace hk103:=ixB_t hk103
 obtain ⟨hk104,hM⟩:=chk_ex hM
 replace hk104:=ixB_t hk104
 refine region_gw (D:=[8,9,10,11,12,13,14,15,16,17,18,19,5,6]) (Lr:=[.box g102 56 #[iv x3,iv x4,iv x5],.box g101 41 #[.slice A0 x0.length c0,.slice A1 x1.length c1,.slice A2 x2.length c2]]) (deps:=(fun | 0=>[8] | 1=>[9] | 2=>[10] | 3=>[11] | 4=>[12] | 5=>[13] | 6=>[14] | 7=>[15] | 8=>[16] | 9=>[17] | 10=>[18] | 11=>[19] | 12=>[5] | 13=>[6] | _=>[])) (rd:=(fun _=>[])) (zr:=(fun _=>[]))
  (φ:=fun i vs=>match i,vs with | 0,[v8]=>v8=.pointer (some ⟨g101,0,none⟩) | 1,[v9]=>v9=.slice A0 x0.length c0 | 2,[v10]=>v10=.pointer (some ⟨g102,1,none⟩) | 3,[v11]=>v11=iv x4 | 4,[v12]=>v12=.pointer (some ⟨adB A0,adO A0+x4.toNat*1,none⟩) | 5,[v13]=>v13=.bool (x0.getD x4.toNat false) | 6,[v14]=>v14=.pointer (some ⟨g101,1,none⟩) | 7,[v15]=>v15=.slice A1 x1.length c1 | 8,[v16]=>v16=.pointer (some ⟨g102,1,none⟩) | 9,[v17]=>v17=iv x4 | 10,[v18]=>v18=.pointer (some ⟨adB A1,adO A1+x4.toNat*1,none⟩) | 11,[v19]=>v19=.bool (x1.getD x4.toNat false) | 12,[v5]=>v5=.bool (x0.getD x4.toNat false) | 13,[v6]=>v6=.bool (x1.getD x4.toNat false) | _,_=>True)
  (C:=fun _ _=>[])
  (κ:=(fun _=>none)) (Z:=(fun _=>[])) mixed f (by kernel_rfl) S ?_ ?_
 ·refine ⟨?_,?_,?_,?_,?_,?_,?_,?_,?_,?_,?_,?_,?_,?_,trivial⟩
  ·intro a u X hB hu p hr hz hl S
   exact .inl ⟨rfl,_,u,(run_fieldAddr rfl fl41_0 (f.evB hB rfl rfl) rfl),rfl,S⟩
  ·intro a u X hB hu p hr hz hl S
   exact .inl ⟨rfl,_,u,(run_load1 rfl one26 (ev_sl (p 0 rfl)) ((gr_box S hl 1 rfl).cell rfl)),rfl,S⟩
  ·intro a u X hB hu p hr hz hl S
   exact .inl ⟨rfl,_,u,(run_fieldAddr rfl fl56_1 (f.evB hB rfl rfl) rfl),rfl,S⟩
  ·intro a u X hB hu p hr hz hl S
   exact .inl ⟨rfl,_,u,(run_load1 rfl one3 (ev_sl (p 2 rfl)) ((gr_box S hl 0 rfl).cell rfl)),rfl,S⟩
  ·intro a u X hB hu p hr hz hl S
   exact .inl ⟨rfl,_,u,(run_ix rfl Tryz.underlying26 sz4 (ev_sl (p 1 rfl)) (S.rc0 h0.rc) (ev_sl (p 3 rfl)) hk103),rfl,S⟩
  ·intro a u X hB hu p hr hz hl S
   exact .inl ⟨rfl,_,u,(run_load1 rfl one4 (ev_sl (p 4 rfl)) (rd_el0 (l:=x0) (S.rc0 h0.rc).rd rfl eB_len false (ix_ltn hk103 rfl) rfl)),rfl,S⟩
  ·intro a u X hB hu p hr hz hl S
   exact .inl ⟨rfl,_,u,(run_fieldAddr rfl fl41_1 (f.evB hB rfl rfl) rfl),rfl,S⟩
  ·intro a u X hB hu p hr hz hl S
   exact .inl ⟨rfl,_,u,(run_load1 rfl one26 (ev_sl (p 6 rfl)) ((gr_box S hl 1 rfl).cell rfl)),rfl,S⟩
  ·intro a u X hB hu p hr hz hl S
   exact .inl ⟨rfl,_,u,(run_fieldAddr rfl fl56_1 (f.evB hB rfl rfl) rfl),rfl,S⟩
  ·intro a u X hB hu p hr hz hl S
   exact .inl ⟨rfl,_,u,(run_load1 rfl one3 (ev_sl (p 8 rfl)) ((gr_box S hl 0 rfl).cell rfl)),rfl,S⟩
  ·intro a u X hB hu p hr hz hl S
   exact .inl ⟨rfl,_,u,(run_ix rfl Tryz.underlying26 sz4 (ev_sl (p 7 rfl)) (S.rc0 h1.rc) (ev_sl (p 9 rfl)) hk104),rfl,S⟩
  ·intro a u X hB hu p hr hz hl S
   exact .inl ⟨rfl,_,u,(run_load1 rfl one4 (ev_sl (p 10 rfl)) (rd_el0 (l:=x1) (S.rc0 h1.rc).rd rfl eB_len false (ix_ltn hk104 rfl) rfl)),rfl,S⟩
  ·intro a u X hB hu p hr hz hl S
   exact .inl ⟨rfl,_,u,(run_assign rfl (ev_sl (p 5 rfl))),rfl,S⟩
  intro a u X hB hu p hr hz hl S
  exact .inl ⟨rfl,_,u,(run_assign rfl (ev_sl (p 11 rfl))),rfl,S⟩
 intro a u hB hp S
 obtain ⟨q0,q1,q2,q3,q4,q5,q6,q7,q8,q9,q10,q11,q12,q13,-⟩:=hp
 replace S:St w u [.box g102 56 #[iv x3,iv x4,iv x5],.box g101 41 #[.slice A0 x0.length c0,.slice A1 x1.length c1,.slice A2 x2.length c2]]:=S
 have f:=f.region hB [(8,_),(9,_),(10,_),(11,_),(12,_),(13,_),(14,_),(15,_),(16,_),(17,_),(18,_),(19,_),(5,_),(6,_)] (allSl_mem ⟨q0,q1,q2,q3,q4,q5,q6,q7,q8,q9,q10,q11,q12,q13,trivial⟩) rfl
 clear hB q0 q1 q2 q3 q4 q5 q6 q7 q8 q9 q10 q11 q12 q13
 revert a;refine sr (ov rfl (fun a f=>run_fieldAddr rfl fl41_2 (f.ev rfl) rfl) (ov rfl (fun a f=>run_load1 rfl one39 (f.ev rfl) (S.cell 1 rfl rfl)) (ov rfl (fun a f=>run_fieldAddr rfl fl56_2 (f.ev rfl) rfl) (ov rfl (fun a f=>run_load1 rfl one3 (f.ev rfl) (S.cell 0 rfl rfl)) (ov rfl (fun a f=>run_fieldAddr rfl fl56_1 (f.ev rfl) rfl) (ov rfl (fun a f=>run_load1 rfl one3 (f.ev rfl) (S.cell 0 rfl rfl)) (ov rfl (fun a f=>run_build (vs:=[(0,iv x5),(1,iv x4)]) rfl ⟨⟨rfl,(f.ev rfl)⟩,⟨rfl,(f.ev rfl)⟩,trivial⟩ (bd78_0_1 rfl rfl)) fun a f=>?_)))))))
 obtain ⟨p105,h105,hM⟩:=bind_ex hM
 refine op_call rfl rfl f rfl (run_call (vs:=[_,_]) rfl rfl co100 ⟨(f.ev rfl),(f.ev rfl),trivial⟩) (c_slices_Contains_impl_Permit_impl_Permit ⟨(S.rc0 h2.rc),rfl⟩ h105) ?_
 rintro e u ⟨rfl,T⟩
 refine ⟨_,rfl,?_⟩
 clear f;intro a f
 replace S:=S.call0 T;clear T
 revert a;refine ag rfl rfl fun a f=>wn ?_
 refine ws ?_
 revert a;refine sr (ov rfl (fun a f=>run_fieldAddr rfl fl56_0 (f.ev rfl) rfl) (ov rfl (fun a f=>run_load1 rfl one3 (f.ev rfl) (S.cell 0 rfl rfl)) fun a f=>wn ?_))
 refine wp_block ?_
 refine ws ?_
 revert a;refine sr (ov rfl (fun a f=>run_eql (f.ev rfl) rfl rfl) (ag rfl rfl fun a f=>wn ?_))
 obtain ⟨o107,hM108,hM⟩:=bind_ex hM
 refine wp_cut (fun a u=>∃ (p106:Bool),p106=o107∧Fr a 79 [(2,.pointer (some ⟨g101,0,none⟩)),(3,.pointer (some ⟨g102,0,none⟩)),(4,.bool false),(5,.bool (x0.getD x4.toNat false)),(6,.bool (x1.getD x4.toNat false)),(7,.bool p105),(29,iv x3),(30,.bool p106)]∧St w u [.box g102 56 #[iv x3,iv x4,iv x5],.box g101 41 #[.slice A0 x0.length c0,.slice A1 x1.length c1,.slice A2 x2.length c2]]) ?_ ?_
 ·have _:=trivial
  cases hc109:(x3==0)
  ·replace hM108:=bif_f hc109 hM108
   refine cond_f f rfl hc109 ?_
   revert a;refine rl (ov rfl (fun a f=>run_eql (f.ev rfl) rfl rfl) (ag rfl rfl fun a f=>wn ?_))
   obtain rfl:=Option.some.inj hM108
   exact ⟨x3==2,rfl,f.keep _ ⟨rfl,rfl,rfl,rfl,rfl,rfl,rfl,rfl,trivial⟩,S.sel [0,1] rfl rfl⟩
  replace hM108:=bif_t hc109 hM108
  refine cond_t f rfl hc109 ?_
  refine wp_skip ?_
  obtain rfl:=Option.some.inj hM108
  exact ⟨x3==0,rfl,f.keep _ ⟨rfl,rfl,rfl,rfl,rfl,rfl,rfl,rfl,trivial⟩,S.sel [0,1] rfl rfl⟩
 rintro a u ⟨p106,rfl,f,S⟩
 cases hc110:(p106)
 ·replace hM:=bif_f hc110 hM
  refine cond_f f rfl hc110 ?_
  revert a;refine sr (ov rfl (fun a f=>run_eql (f.ev rfl) rfl rfl) (ag rfl rfl fun a f=>wn ?_))
  cases hc111:(x3==1)
  ·replace hM:=bif_f hc111 hM
   refine cond_f f rfl hc111 ?_
   revert a;refine sr (ov rfl (fun a f=>run_eql (f.ev rfl) rfl rfl) (ag rfl rfl fun a f=>wn ?_))
   cases hc112:(x3==3)
   ·replace hM:=bif_f hc112 hM
    refine cond_f f rfl hc112 ?_
    revert a;refine sr (ov rfl (fun a f=>run_eql (f.ev rfl) rfl rfl) (ag rfl rfl fun a f=>wn ?_))
    cases hc113:(x3==4)
    ·replace hM:=bif_f hc113 hM
     refine cond_f f rfl hc113 ?_
     revert a;refine sr (ov rfl (fun a f=>run_eql (f.ev rfl) rfl rfl) (ag rfl rfl fun a f=>wn ?_))
     cases hc114:(x3==5)
     ·replace hM:=bif_f hc114 hM
      refine cond_f f rfl hc114 ?_
      refine wp_skip ?_
      revert a;refine sr (ov rfl (fun a f=>run_assign rfl rfl) fun a f=>wn ?_)
      refine wp_ret ?_
      refine ret1_gw (.inl rfl) f rfl (res_tmp (f.ev rfl)) ?_
      obtain rfl:=Option.some.inj hM
      exact ⟨rfl,S.sel [] rfl rfl⟩
     replace hM:=bif_t hc114 hM
     refine cond_t f rfl hc114 ?_
     revert a;refine sr (mv rfl rfl (ag rfl rfl fun a f=>wn ?_))
     refine wp_ret ?_
     repeat with_reducible first|apply tr|apply ir|apply nr
     refine ret1_gw (.inl rfl) f rfl (res_tmp (f.ev rfl)) ?_
     obtain rfl:=Option.some.inj hM
     exact ⟨rfl,S.sel [] rfl rfl⟩
    replace hM:=bif_t hc113 hM
    refine cond_t f rfl hc113 ?_
    revert a;refine sr (mv rfl rfl (mv rfl rfl fun a f=>?_))
    revert a;refine gt rfl rfl rfl rfl (fun a f hg=>run_move rfl (f.ev rfl)) (gt rfl rfl rfl rfl (fun a f hg=>run_not rfl ((f.ev rfl).trans (gv_t hg))) fun a f=>?_)
    revert a;refine ov rfl (fun a f=>run_pick_and rfl (f.ev rfl) (fun hp=>((f.ev rfl).trans (gv_t hp))) rfl) (mv rfl rfl fun a f=>?_)
    revert a;refine gt rfl rfl rfl rfl (fun a f hg=>run_fieldAddr rfl fl56_2 (f.ev rfl) rfl) (gt rfl rfl rfl rfl (fun a f hg=>run_load1 rfl one3 ((f.ev rfl).trans (gv_t hg)) (S.cell 0 rfl rfl)) (gt rfl rfl rfl rfl (fun a f hg=>run_geq ((f.ev rfl).trans (gv_t hg)) rfl rfl) fun a f=>?_))
    revert a;refine ov rfl (fun a f=>run_pick_and rfl (f.ev rfl) (fun hp=>((f.ev rfl).trans (gv_t hp))) rfl) (mv rfl rfl fun a f=>?_)
    revert a;refine gt rfl rfl rfl rfl (fun a f hg=>run_fieldAddr rfl fl56_2 (f.ev rfl) rfl) (gt rfl rfl rfl rfl (fun a f hg=>run_load1 rfl one3 ((f.ev rfl).trans (gv_t hg)) (S.cell 0 rfl rfl)) (gt rfl rfl rfl rfl (fun a f hg=>run_leq ((f.ev rfl).trans (gv_t hg)) rfl rfl) fun a f=>?_))
    revert a;refine ov rfl (fun a f=>run_pick_and rfl (f.ev rfl) (fun hp=>((f.ev rfl).trans (gv_t hp))) rfl) (mv rfl rfl fun a f=>?_)
    revert a;refine gt rfl rfl rfl rfl (fun a f hg=>run_fieldAddr rfl fl41_2 (f.ev rfl) rfl) (gt rfl rfl rfl rfl (fun a f hg=>run_load1 rfl one39 ((f.ev rfl).trans (gv_t hg)) (S.cell 1 rfl rfl)) (gt rfl rfl rfl rfl (fun a f hg=>run_lenL rfl rfl Tryz.underlying39 ((f.ev rfl).trans (gv_t hg))) (gt rfl rfl rfl rfl (fun a f hg=>run_lss ((f.ev rfl).trans (gv_t hg)) rfl rfl) fun a f=>?_)))
    revert a;refine ov rfl (fun a f=>run_pick_and rfl (f.ev rfl) (fun hp=>((f.ev rfl).trans (gv_t hp))) rfl) (ag rfl rfl fun a f=>wn ?_)
    refine wp_ret ?_
    repeat with_reducible first|apply tr|apply ir|apply nr
    refine ret1_gw (.inl rfl) f rfl (res_tmp (f.ev rfl)) ?_
    obtain rfl:=Option.some.inj hM
    exact ⟨rfl,S.sel [] rfl rfl⟩
   replace hM:=bif_t hc112 hM
   refine cond_t f rfl hc112 ?_
   refine ws ?_
   obtain ⟨o116,hM117,hM⟩:=bind_ex hM
   refine wp_cut (fun a u=>∃ (p115:Bool),p115=o116∧Fr a 79 [(4,.bool p115)]∧St w u []) ?_ ?_
   ·have _:=trivial
    revert a;refine rl (mv rfl rfl (mv rfl rfl fun a f=>?_))
    revert a;refine gt rfl rfl rfl rfl (fun a f hg=>run_loadN rfl ag41 (f.ev rfl) rfl ((S.free 1 rfl).cells 0 #[.slice A0 x0.length c0,.slice A1 x1.length c1,.slice A2 x2.length c2] rfl)) (gt rfl rfl rfl rfl (fun a f hg=>run_fieldAddr rfl fl56_1 (f.ev rfl) rfl) (gt rfl rfl rfl rfl (fun a f hg=>run_load1 rfl one3 ((f.ev rfl).trans (gv_t hg)) (S.cell 0 rfl rfl)) fun a f=>?_))
    cases hc118:(x1.getD x4.toNat false)
    ·replace hM117:=bif_f hc118 hM117
     refine op_skipped rfl ((gw_yield f rfl rfl rfl).trans (congrArg some hc118)) rfl rfl f rfl ?_;clear f;intro a f
     refine op_skipped rfl ((gw_yield f rfl rfl rfl).trans (congrArg some hc118)) rfl rfl f rfl ?_;clear f;intro a f
     refine op_skipped rfl ((gw_yield f rfl rfl rfl).trans (congrArg some hc118)) rfl rfl f rfl ?_;clear f;intro a f
     revert a;refine ov rfl (fun a f=>run_pick_f rfl (f.ev rfl) hc118 rfl) (ag rfl rfl fun a f=>wn ?_)
     obtain rfl:=Option.some.inj hM117
     exact ⟨false,rfl,f.keep _ ⟨rfl,trivial⟩,S.sel [] rfl rfl⟩
    replace hM117:=bif_t hc118 hM117
    refine op_guarded rfl ((gw_yield f rfl rfl rfl).trans (congrArg some hc118)) ?_
    obtain ⟨p119,h119,hM117⟩:=bind_ex hM117
    refine op_call rfl rfl f rfl (run_call (vs:=[_,_]) rfl rfl co149 ⟨((f.ev rfl).trans (gv_t hc118)),((f.ev rfl).trans (gv_t hc118)),trivial⟩) (c_impl_WorkHeld ⟨(S.rc0 h0.rc),rfl⟩ ⟨(S.rc0 h1.rc),rfl⟩ ⟨(S.rc0 h2.rc),rfl⟩ h119) ?_
    rintro e u ⟨B120,n121,d122,rfl,rfl,T⟩
    refine ⟨_,rfl,?_⟩
    clear f;intro a f
    replace S:=S.call1 T;clear T
    refine op_guarded rfl ((gw_yield f rfl rfl rfl).trans (congrArg some hc118)) ?_
    revert a;refine ov rfl (fun a f=>run_lenL rfl rfl Tryz.underlying30 (f.ev rfl)) fun a f=>?_
    refine op_guarded rfl ((gw_yield f rfl rfl rfl).trans (congrArg some hc118)) ?_
    revert a;refine ov rfl (fun a f=>run_eql (f.ev rfl) rfl rfl) (ov rfl (fun a f=>run_pick_t rfl (f.ev rfl) hc118 (f.ev rfl)) (ag rfl rfl fun a f=>wn ?_))
    obtain rfl:=Option.some.inj hM117
    exact ⟨(p119.length:Int)==0,rfl,f.keep _ ⟨rfl,trivial⟩,S.sel [] rfl rfl⟩
   rintro a u ⟨p115,rfl,f,S⟩
   refine wp_ret ?_
   repeat with_reducible first|apply tr|apply ir|apply nr
   refine ret1_gw (.inl rfl) f rfl (res_tmp (f.ev rfl)) ?_
   obtain rfl:=Option.some.inj hM
   exact ⟨rfl,S.sel [] rfl rfl⟩
  replace hM:=bif_t hc111 hM
  refine cond_t f rfl hc111 ?_
  revert a;refine sr (mv rfl rfl (ag rfl rfl fun a f=>wn ?_))
  refine wp_ret ?_
  repeat with_reducible first|apply tr|apply ir|apply nr
  refine ret1_gw (.inl rfl) f rfl (res_tmp (f.ev rfl)) ?_
  obtain rfl:=Option.some.inj hM
  exact ⟨rfl,S.sel [] rfl rfl⟩
 replace hM:=bif_t hc110 hM
 refine cond_t f rfl hc110 ?_
 revert a;refine sr (mv rfl rfl (ov rfl (fun a f=>run_not rfl (f.ev rfl)) (mv rfl rfl fun a f=>?_)))
 revert a;refine gt rfl rfl rfl rfl (fun a f hg=>run_move rfl (f.ev rfl)) (gt rfl rfl rfl rfl (fun a f hg=>run_not rfl ((f.ev rfl).trans (gv_t hg))) fun a f=>?_)
 revert a;refine ov rfl (fun a f=>run_pick_and rfl (f.ev rfl) (fun hp=>((f.ev rfl).trans (gv_t hp))) rfl) (ag rfl rfl fun a f=>wn ?_)
 refine wp_ret ?_
 repeat with_reducible first|apply tr|apply ir|apply nr
 refine ret1_gw (.inl rfl) f rfl (res_tmp (f.ev rfl)) ?_
 obtain rfl:=Option.some.inj hM
 exact ⟨rfl,S.sel [] rfl rfl⟩
theorem c_slices_Delete_impl_Permit_impl_Permit {x0:List (Int×Int)} {x1:Int} {x2:Int} {A0:Option Addr} {n0 c0:Nat} {w:World} {r:List (Int×Int)} {w0:World} {X:List Asn} (h0 : n0=x0.length) (S:St w0 w (Asn.row 78 2 (.slice A0 n0 c0) n0 (x0.flatMap ePermit) :: X)) (hM : m_slices_Delete_impl_Permit_impl_Permit x0 x1 x2=some r) :
  Calls Tryz.prog 135 #[.slice A0 n0 c0,iv x1,iv x2] w (fun e w'=>∃ (B0:Option Addr) (N0 D0:Nat),e=.returned (.slice B0 N0 D0)∧N0=r.length∧St w0 w' (Asn.row 78 2 (.slice B0 N0 D0) N0 (r.flatMap ePermit) :: X)):=by
 obtain rfl:=h0
 unfold m_slices_Delete_impl_Permit_impl_Permit at hM
 refine calls_gx Tryz.func135 Tryz.ntmps135 rfl rfl ?_
 intro a f
 revert a;refine sr (ov rfl (fun a f=>run_assign rfl rfl) fun a f=>wn ?_)
 revert a;refine sr (mv rfl rfl (mv rfl rfl (mv rfl rfl (mv rfl rfl (ov rfl (fun a f=>run_lenL rfl rfl Tryz.underlying39 (f.ev rfl)) fun a f=>?_)))))
 obtain ⟨hk101,hM⟩:=chk_ex hM
 replace hk101:=slB_t hk101
 revert a;refine ov rfl (fun a f=>run_slice3 rfl Tryz.underlying39 sz78 (f.ev rfl) (f.ev rfl) (f.ev rfl) (f.ev rfl) hk101 (Int.ofNat_le.2 (S.rc 0 rfl).cap)) fun a f=>wn ?_
 refine ws ?_
 revert a;refine sr (mv rfl rfl (mv rfl rfl (ov rfl (fun a f=>run_eql (f.ev rfl) (f.ev rfl) rfl) fun a f=>wn ?_)))
 cases hc102:(x1==x2)
 ·replace hM:=bif_f hc102 hM
  refine cond_f f rfl hc102 ?_
  refine wp_skip ?_
  revert a;refine sr (mv rfl rfl (ov rfl (fun a f=>run_lenL rfl rfl Tryz.underlying39 (f.ev rfl)) (ag rfl rfl fun a f=>wn ?_)))
  refine ws ?_
  obtain ⟨hk103,hM⟩:=chk_ex hM
  replace hk103:=slB_t hk103
  obtain ⟨hk104,hM⟩:=chk_ex hM
  replace hk104:=slB_t hk104
  obtain ⟨hk105,hM⟩:=chk_ex hM
  replace hk105:=apB_t hk105
  have hp106:=(S.rc 0 rfl).cap
  have hq107:=del_len (l:=x0) (p:=x1) (q:=x2) rfl (by omega)
  refine region_gw (D:=[20,21,22,23,24,25,26,0]) (Lr:=(X)) (deps:=(fun | 0=>[20] | 1=>[21] | 2=>[22] | 3=>[23] | 4=>[24] | 5=>[25] | 6=>[26] | 7=>[0] | _=>[])) (rd:=(fun _=>[])) (zr:=(fun | 2=>[6] | 5=>[6] | _=>[]))
   (φ:=fun i vs=>match i,vs with | 0,[v20]=>v20=.slice A0 x0.length c0 | 1,[v21]=>v21=iv x1 | 2,[v22]=>v22=.slice (subA c0 ((0:Int).toNat) 2 A0) ((subL x0 0 x1).length) (c0-(0:Int).toNat) | 3,[v23]=>v23=.slice A0 x0.length c0 | 4,[v24]=>v24=iv x2 | 5,[v25]=>v25=.slice (subA c0 x2.toNat 2 A0) ((subL x0 x2 (x0.length:Int)).length) (c0-x2.toNat) | 6,[v26]=>v26=.slice A0 (((subL x0 0 x1)++(subL x0 x2 (x0.length:Int))).length) c0 | 7,[v0]=>v0=.slice A0 (((subL x0 0 x1)++(subL x0 x2 (x0.length:Int))).length) c0 | _,_=>True)
   (C:=fun i vs=>match i,vs with | 6,[v26]=>[.row 78 2 (.slice A0 (((subL x0 0 x1)++(subL x0 x2 (x0.length:Int))).length) c0) (((subL x0 0 x1)++(subL x0 x2 (x0.length:Int))).length) (((subL x0 0 x1)++(subL x0 x2 (x0.length:Int))).flatMap ePermit)] | _,_=>[])
   (κ:=(fun _=>none)) (Z:=(fun | 6=>[.row 78 2 (.slice A0 x0.length c0) x0.length (x0.flatMap ePermit)] | _=>[])) mixed f (by kernel_rfl) (show St w0 _ (Asn.row 78 2 (.slice A0 x0.length c0) x0.length (x0.flatMap ePermit) :: X) from S.selT (M:=[.row 78 2 (.slice A0 x0.length c0) x0.length (x0.flatMap ePermit)]) 1 [0] rfl rfl rfl) ?_ ?_
  ·refine ⟨?_,?_,?_,?_,?_,?_,?_,?_,trivial⟩
   ·intro a u X' hB hu hp hr hz hl S
    replace S:St w0 u ([]++X'):=S
    exact .inl ⟨rfl,.slice A0 x0.length c0,u,(run_move rfl (f.evU (hu 7 0 rfl rfl) rfl)),rfl,S⟩
   ·intro a u X' hB hu hp hr hz hl S
    replace S:St w0 u ([]++X'):=S
    exact .inl ⟨rfl,iv x1,u,(run_move rfl (f.evB hB rfl rfl)),rfl,S⟩
   ·intro a u X' hB hu hp hr hz hl S
    replace S:St w0 u ([]++X'):=S
    have e20 : sl a 20=.slice A0 x0.length c0:=hp 0 rfl
    have e21 : sl a 21=iv x1:=hp 1 rfl
    exact .inl ⟨rfl,.slice (subA c0 ((0:Int).toNat) 2 A0) ((subL x0 0 x1).length) (c0-(0:Int).toNat),u,(run_sliceH (l:=x0) rfl Tryz.underlying39 sz78 (ev_sl e20) (ev_sl e21) hk103 rfl (own_rc (show Ow _ _ _ _ _ _ from S.mem (List.mem_append_right _ (hz 6 (List.mem_of_getElem? (i:=0) rfl) _ (List.mem_of_getElem? (i:=0) rfl))))).cap),rfl,S⟩
   ·intro a u X' hB hu hp hr hz hl S
    replace S:St w0 u ([]++X'):=S
    exact .inl ⟨rfl,.slice A0 x0.length c0,u,(run_move rfl (f.evU (hu 7 0 rfl rfl) rfl)),rfl,S⟩
   ·intro a u X' hB hu hp hr hz hl S
    replace S:St w0 u ([]++X'):=S
    exact .inl ⟨rfl,iv x2,u,(run_move rfl (f.evB hB rfl rfl)),rfl,S⟩
   ·intro a u X' hB hu hp hr hz hl S
    replace S:St w0 u ([]++X'):=S
    have e23 : sl a 23=.slice A0 x0.length c0:=hp 3 rfl
    have e24 : sl a 24=iv x2:=hp 4 rfl
    exact .inl ⟨rfl,.slice (subA c0 x2.toNat 2 A0) ((subL x0 x2 (x0.length:Int)).length) (c0-x2.toNat),u,(run_slicefrom (l:=x0) rfl Tryz.underlying39 sz78 (ev_sl e23) (ev_sl e24) hk104 rfl (own_rc (show Ow _ _ _ _ _ _ from S.mem (List.mem_append_right _ (hz 6 (List.mem_of_getElem? (i:=0) rfl) _ (List.mem_of_getElem? (i:=0) rfl))))).cap),rfl,S⟩
   ·intro a u X' hB hu hp hr hz hl S
    replace S:St w0 u ([.row 78 2 (.slice A0 x0.length c0) x0.length (x0.flatMap ePermit)]++X'):=S
    have e22 : sl a 22=.slice (subA c0 ((0:Int).toNat) 2 A0) ((subL x0 0 x1).length) (c0-(0:Int).toNat):=hp 2 rfl
    have e25 : sl a 25=.slice (subA c0 x2.toNat 2 A0) ((subL x0 x2 (x0.length:Int)).length) (c0-x2.toNat):=hp 5 rfl
    obtain ⟨w',hrun,S'⟩:=S.delrow (i:=0) (P:=Tryz.prog) (ty:=39) (p:=x1) (q:=x2) rfl rfl ePermit_len ePermit_one Tryz.underlying39 sz78 (by omega) (by omega) (by omega)
    exact .inl ⟨rfl,_,w',run_append rfl (ev_sl e22) (ev_sl e25) hrun,rfl,S'⟩
   intro a u X' hB hu hp hr hz hl S
   replace S:St w0 u ([]++X'):=S
   have e26 : sl a 26=.slice A0 (((subL x0 0 x1)++(subL x0 x2 (x0.length:Int))).length) c0:=hp 6 rfl
   exact .inl ⟨rfl,.slice A0 (((subL x0 0 x1)++(subL x0 x2 (x0.length:Int))).length) c0,u,(run_assign rfl (ev_sl e26)),rfl,S⟩
  intro a u hB hp S
  obtain ⟨q0,q1,q2,q3,q4,q5,q6,q7,-⟩:=hp
  replace S:St w0 u (Asn.row 78 2 (.slice A0 (((subL x0 0 x1)++(subL x0 x2 (x0.length:Int))).length) c0) (((subL x0 0 x1)++(subL x0 x2 (x0.length:Int))).length) (((subL x0 0 x1)++(subL x0 x2 (x0.length:Int))).flatMap ePermit) :: X):=S
  have f:=f.region hB [(20,_),(21,_),(22,_),(23,_),(24,_),(25,_),(26,_),(0,_)] (allSl_mem ⟨q0,q1,q2,q3,q4,q5,q6,q7,trivial⟩) rfl
  clear hB q0 q1 q2 q3 q4 q5 q6 q7
  revert a;refine sr (mv rfl rfl (mv rfl rfl (ov rfl (fun a f=>run_lenL rfl rfl Tryz.underlying39 (f.ev rfl)) (mv rfl rfl (ov rfl (fun a f=>run_slicebey rfl Tryz.underlying39 sz78 (f.ev rfl) (f.ev rfl) (f.ev rfl) ⟨Int.natCast_nonneg _,Int.ofNat_le.2 hq107,Int.ofNat_le.2 hp106⟩) fun a f=>?_)))))
  obtain ⟨w',hrun,S'⟩:=S.clear (i:=0) (P:=Tryz.prog) (hi:=(x0.length:Int)) rfl rfl ePermit_len Tryz.underlying39 inf78 rfl rfl ⟨Int.ofNat_le.2 hq107,Int.ofNat_le.2 hp106⟩
  refine op_builtin0 rfl rfl rfl (f.ev rfl) hrun ?_
  clear S hrun;have S:=S';clear S';generalize w'=u at S ⊢
  refine wn ?_
  revert a;refine sr (mv rfl rfl (ag rfl rfl fun a f=>wn ?_))
  refine wp_ret ?_
  refine ret1_gw (.inl rfl) f rfl (res_tmp (f.ev rfl)) ?_
  obtain rfl:=Option.some.inj hM
  exact ⟨A0,(((subL x0 0 x1)++(subL x0 x2 (x0.length:Int))).length),c0,rfl,rfl,S.selT (M:=[.row 78 2 (.slice A0 (((subL x0 0 x1)++(subL x0 x2 (x0.length:Int))).length) c0) (((subL x0 0 x1)++(subL x0 x2 (x0.length:Int))).length) (((subL x0 0 x1)++(subL x0 x2 (x0.length:Int))).flatMap ePermit)]) 1 [0] rfl rfl rfl⟩
 replace hM:=bif_t hc102 hM
 refine cond_t f rfl hc102 ?_
 revert a;refine sr (mv rfl rfl (ag rfl rfl fun a f=>wn ?_))
 refine wp_ret ?_
 repeat with_reducible first|apply tr|apply ir|apply nr
 refine ret1_gw (.inl rfl) f rfl (res_tmp (f.ev rfl)) ?_
 obtain rfl:=Option.some.inj hM
 exact ⟨A0,x0.length,c0,rfl,rfl,S.selT (M:=[.row 78 2 (.slice A0 x0.length c0) x0.length (x0.flatMap ePermit)]) 1 [0] rfl rfl rfl⟩
theorem c_impl_WorkDo {x0:List Bool} {x1:List Bool} {x2:List (Int×Int)} {x3:Int} {x4:Int} {x5:Int} {A0:Option Addr} {n0 c0:Nat} {A1:Option Addr} {n1 c1:Nat} {A2:Option Addr} {n2 c2:Nat} {w:World} {r:List Bool×List Bool×List (Int×Int)×Bool} (h0:Rt w 1 eB A0 n0 c0 x0) (h1:Rt w 1 eB A1 n1 c1 x1) (h2:Rt w 2 ePermit A2 n2 c2 x2) (hM : m_impl_WorkDo x0 x1 x2 x3 x4 x5=some r) :
  Calls Tryz.prog 102 #[.agg #[.slice A0 n0 c0,.slice A1 n1 c1,.slice A2 n2 c2],.agg #[iv x3,iv x4,iv x5]] w (fun e w'=>∃ (B0:Option Addr) (N0 D0:Nat) (B1:Option Addr) (N1 D1:Nat) (B2:Option Addr) (N2 D2:Nat),e=.returned (.tuple #[.agg #[.slice B0 N0 D0,.slice B1 N1 D1,.slice B2 N2 D2],.bool r.2.2.2])∧N0=r.1.length∧N1=r.2.1.length∧N2=r.2.2.1.length∧St w w' [.row 4 1 (.slice B0 N0 D0) N0 (r.1.flatMap eB),.row 4 1 (.slice B1 N1 D1) N1 (r.2.1.flatMap eB),.row 78 2 (.slice B2 N2 D2) N2 (r.2.2.1.flatMap ePermit)]):=by
 obtain rfl:=h0.len
 obtain rfl:=h1.len
 obtain rfl:=h2.len
 unfold m_impl_WorkDo at hM
 refine calls_gx Tryz.func102 Tryz.ntmps102 rfl rfl ?_
 intro a f
 have S:=St.nil w
 refine wsg ?_
 refine op_new (cs:=#[.slice A0 x0.length c0,.slice A1 x1.length c1,.slice A2 x2.length c2]) rfl rfl f rfl S (run_box rfl (f.ev rfl) rfl) ?_;clear f S;intro a g101 u f S
 refine op_new (cs:=#[iv x3,iv x4,iv x5]) rfl rfl f rfl S (run_box rfl (f.ev rfl) rfl) ?_;clear f S;intro a g102 u f S
 refine op_new (cs:=#[.slice none 0 0,.slice none 0 0,.slice none 0 0]) rfl rfl f rfl S (run_allocZ rfl zr41) ?_;clear f S;intro a g103 u f S
 revert a;refine ov rfl (fun a f=>run_assign rfl rfl) fun a f=>wn ?_
 refine ws ?_
 revert a;refine sr (ov rfl (fun a f=>run_loadN rfl ag41 (f.ev rfl) rfl ((S.free 2 rfl).cells 0 #[.slice A0 x0.length c0,.slice A1 x1.length c1,.slice A2 x2.length c2] rfl)) fun a f=>?_)
 obtain ⟨p104,h104,hM⟩:=bind_ex hM
 refine op_call rfl rfl f rfl (run_call (vs:=[_]) rfl rfl co75 ⟨(f.ev rfl),trivial⟩) (c_impl_WorkValid ⟨(S.rc0 h0.rc),rfl⟩ ⟨(S.rc0 h1.rc),rfl⟩ ⟨(S.rc0 h2.rc),rfl⟩ h104) ?_
 rintro e u ⟨rfl,T⟩
 refine ⟨_,rfl,?_⟩
 clear f;intro a f
 replace S:=S.call0 T;clear T
 revert a;refine ov rfl (fun a f=>run_not rfl (f.ev rfl)) fun a f=>wn ?_
 cases hc105:(p104)
 ·replace hM:=bif_f hc105 hM
  refine cond_t f rfl (not_t hc105) ?_
  revert a;refine sr (ov rfl (fun a f=>run_build (vs:=[]) rfl trivial (bd41 )) fun a f=>?_)
  refine op_do rfl rfl (run_store (cs':=#[.slice none 0 0,.slice none 0 0,.slice none 0 0]) rfl sz41 (f.ev rfl) (f.ev rfl) rfl rfl rfl (S.free 0 rfl) rfl rfl) ?_;replace S:=S.put 0 rfl (#[.slice none 0 0,.slice none 0 0,.slice none 0 0])
  generalize World.setRow _ _ _=u at S ⊢
  revert a;refine ov rfl (fun a f=>run_assign rfl rfl) fun a f=>wn ?_
  refine wp_ret ?_
  repeat with_reducible first|apply tr|apply ir|apply nr
  refine ret2_gw (.inl rfl) f rfl (res_cell (f.ev rfl) (res_loadN ag41 rfl (S.cells 0 rfl 0 #[.slice none 0 0,.slice none 0 0,.slice none 0 0] rfl))) (res_tmp (f.ev rfl)) ?_
  obtain rfl:=Option.some.inj hM
  replace S:=S.nilrow 4 1
  replace S:=S.nilrow 4 1
  replace S:=S.nilrow 78 2
  exact ⟨none,0,0,none,0,0,none,0,0,rfl,rfl,rfl,rfl,S.sel [2,1,0] rfl rfl⟩
 replace hM:=bif_t hc105 hM
 refine cond_f f rfl (not_f hc105) ?_
 refine wp_skip ?_
 revert a;refine sr (ov rfl (fun a f=>run_loadN rfl ag41 (f.ev rfl) rfl ((S.free 2 rfl).cells 0 #[.slice A0 x0.length c0,.slice A1 x1.length c1,.slice A2 x2.length c2] rfl)) fun a f=>?_)
 obtain ⟨p106,h106,hM⟩:=bind_ex hM
 refine op_call rfl rfl f rfl (run_call (vs:=[_]) rfl rfl co96 ⟨(f.ev rfl),trivial⟩) (c_impl_Work_clone ⟨(S.rc0 h0.rc),rfl⟩ ⟨(S.rc0 h1.rc),rfl⟩ ⟨(S.rc0 h2.rc),rfl⟩ h106) ?_
 rintro e u ⟨B107,n108,d109,B110,n111,d112,B113,n114,d115,rfl,rfl,rfl,rfl,T⟩
 refine ⟨_,rfl,?_⟩
 clear f;intro a f
 replace S:=S.call3 T;clear T
 refine op_new (cs:=#[.slice none 0 0,.slice none 0 0,.slice none 0 0]) rfl rfl f rfl S (run_allocZ rfl zr41) ?_;clear f S;intro a g116 u f S
 refine op_do rfl rfl (run_store (cs':=#[.slice B107 p106.1.length d109,.slice B110 p106.2.1.length d112,.slice B113 p106.2.2.length d115]) rfl sz41 (f.ev rfl) (f.ev rfl) rfl rfl rfl (S.free 0 rfl) rfl rfl) ?_;replace S:=S.put 0 rfl (#[.slice B107 p106.1.length d109,.slice B110 p106.2.1.length d112,.slice B113 p106.2.2.length d115])
 generalize World.setRow _ _ _=u at S ⊢
 refine wn ?_
 refine ws ?_
 revert a;refine sr (ov rfl (fun a f=>run_fieldAddr rfl fl56_1 (f.ev rfl) rfl) (ov rfl (fun a f=>run_load1 rfl one3 (f.ev rfl) (S.cell 5 rfl rfl)) (ov rfl (fun a f=>run_lss (f.ev rfl) rfl rfl) (mv rfl rfl fun a f=>?_))))
 revert a;refine gf rfl rfl rfl rfl (fun a f hg=>run_fieldAddr rfl fl56_1 (f.ev rfl) rfl) (gf rfl rfl rfl rfl (fun a f hg=>run_load1 rfl one3 ((f.ev rfl).trans (gv_t hg)) (S.cell 5 rfl rfl)) (gf rfl rfl rfl rfl (fun a f hg=>run_fieldAddr rfl fl41_0 (f.ev rfl) rfl) (gf rfl rfl rfl rfl (fun a f hg=>run_load1 rfl one26 ((f.ev rfl).trans (gv_t hg)) (S.cell 6 rfl rfl)) (gf rfl rfl rfl rfl (fun a f hg=>run_lenL rfl rfl Tryz.underlying26 ((f.ev rfl).trans (gv_t hg))) (gf rfl rfl rfl rfl (fun a f hg=>run_geq ((f.ev rfl).trans (gv_t hg)) ((f.ev rfl).trans (gv_t hg)) rfl) fun a f=>?_)))))
 revert a;refine ov rfl (fun a f=>run_pick_or rfl (f.ev rfl) rfl (fun hp=>((f.ev rfl).trans (gv_t (not_t hp))))) (mv rfl rfl fun a f=>?_)
 revert a;refine gf rfl rfl rfl rfl (fun a f hg=>run_loadN rfl ag41 (f.ev rfl) rfl ((S.free 6 rfl).cells 0 #[.slice A0 x0.length c0,.slice A1 x1.length c1,.slice A2 x2.length c2] rfl)) (gf rfl rfl rfl rfl (fun a f hg=>run_loadN rfl ag56 (f.ev rfl) rfl ((S.free 5 rfl).cells 0 #[iv x3,iv x4,iv x5] rfl)) fun a f=>?_)
 obtain ⟨p117,h117,hM⟩:=bind_ex hM
 refine op_gcall (v:=.bool p117) rfl rfl f rfl S (yf (gw_yield f rfl rfl rfl)) (fun hg=>(run_call (vs:=[.agg #[.slice A0 x0.length c0,.slice A1 x1.length c1,.slice A2 x2.length c2],.agg #[iv x3,iv x4,iv x5]]) rfl rfl co134 ⟨((f.ev rfl).trans (gv_t hg)),((f.ev rfl).trans (gv_t hg)),trivial⟩)) (fun hg=>c_impl_Work_may (x0:=x0) (x1:=x1) (x2:=x2) (x3:=x3) (x4:=x4) (x5:=x5) ⟨(S.rc0 h0.rc),rfl⟩ ⟨(S.rc0 h1.rc),rfl⟩ ⟨(S.rc0 h2.rc),rfl⟩ (gb_t h117 hg)) ?_;clear f S;intro a u f S
 revert a;refine gf rfl rfl rfl rfl (fun a f hg=>run_not rfl ((f.ev rfl).trans (gv_t hg))) (ov rfl (fun a f=>run_pick_or rfl (f.ev rfl) rfl (fun hp=>((f.ev rfl).trans (gv_t (not_t hp))))) fun a f=>wn ?_)
 cases hc118:(((ltB x4 0)||(leB (x0.length:Int) x4))||(!p117))
 ·replace hM:=bif_f hc118 hM
  refine cond_f f rfl hc118 ?_
  refine wp_skip ?_
  revert a;refine sr (ov rfl (fun a f=>run_fieldAddr rfl fl56_2 (f.ev rfl) rfl) (ov rfl (fun a f=>run_load1 rfl one3 (f.ev rfl) (S.cell 5 rfl rfl)) (ov rfl (fun a f=>run_fieldAddr rfl fl56_1 (f.ev rfl) rfl) (ov rfl (fun a f=>run_load1 rfl one3 (f.ev rfl) (S.cell 5 rfl rfl)) (ov rfl (fun a f=>run_build (vs:=[(0,iv x5),(1,iv x4)]) rfl ⟨⟨rfl,(f.ev rfl)⟩,⟨rfl,(f.ev rfl)⟩,trivial⟩ (bd78_0_1 rfl rfl)) fun a f=>?_)))))
  refine op_new (cs:=#[iv 0,iv 0]) rfl rfl f rfl S (run_allocZ rfl zr78) ?_;clear f S;intro a g119 u f S
  refine op_do rfl rfl (run_store (cs':=#[iv x5,iv x4]) rfl sz78 (f.ev rfl) (f.ev rfl) rfl rfl rfl (S.free 0 rfl) rfl rfl) ?_;replace S:=S.put 0 rfl (#[iv x5,iv x4])
  generalize World.setRow _ _ _=u at S ⊢
  refine wn ?_
  refine ws ?_
  revert a;refine sr (ov rfl (fun a f=>run_fieldAddr rfl fl56_0 (f.ev rfl) rfl) (ov rfl (fun a f=>run_load1 rfl one3 (f.ev rfl) (S.cell 6 rfl rfl)) fun a f=>wn ?_))
  refine wp_block ?_
  refine ws ?_
  revert a;refine sr (ov rfl (fun a f=>run_eql (f.ev rfl) rfl rfl) (ag rfl rfl fun a f=>wn ?_))
  obtain ⟨o121,hM122,hM⟩:=bind_ex hM
  refine wp_cut (fun a u=>∃ (p120:Bool),p120=o121∧Fr a 84 [(3,.pointer (some ⟨g102,0,none⟩)),(4,.pointer (some ⟨g103,0,none⟩)),(5,.bool false),(6,.pointer (some ⟨g116,0,none⟩)),(7,.pointer (some ⟨g119,0,none⟩)),(39,iv x3),(40,.bool p120)]∧St w u [.box g119 78 #[iv x5,iv x4],.box g116 41 #[.slice B107 p106.1.length d109,.slice B110 p106.2.1.length d112,.slice B113 p106.2.2.length d115],.box g103 41 #[.slice none 0 0,.slice none 0 0,.slice none 0 0],.box g102 56 #[iv x3,iv x4,iv x5],.row 4 1 (.slice B107 p106.1.length d109) p106.1.length (p106.1.flatMap eB),.row 4 1 (.slice B110 p106.2.1.length d112) p106.2.1.length (p106.2.1.flatMap eB),.row 78 2 (.slice B113 p106.2.2.length d115) p106.2.2.length (p106.2.2.flatMap ePermit)]) ?_ ?_
  ·have _:=trivial
   cases hc123:(x3==0)
   ·replace hM122:=bif_f hc123 hM122
    refine cond_f f rfl hc123 ?_
    revert a;refine rl (ov rfl (fun a f=>run_eql (f.ev rfl) rfl rfl) (ag rfl rfl fun a f=>wn ?_))
    obtain rfl:=Option.some.inj hM122
    exact ⟨x3==1,rfl,f.keep _ ⟨rfl,rfl,rfl,rfl,rfl,rfl,rfl,trivial⟩,S.sel [0,1,5,6,2,3,4] rfl rfl⟩
   replace hM122:=bif_t hc123 hM122
   refine cond_t f rfl hc123 ?_
   refine wp_skip ?_
   obtain rfl:=Option.some.inj hM122
   exact ⟨x3==0,rfl,f.keep _ ⟨rfl,rfl,rfl,rfl,rfl,rfl,rfl,trivial⟩,S.sel [0,1,5,6,2,3,4] rfl rfl⟩
  rintro a u ⟨p120,rfl,f,S⟩
  obtain ⟨o125,hM130,hM⟩:=bind_ex hM
  refine wp_cut (fun a u=>∃ (p124:List Bool×List Bool×List (Int×Int)) (B128:Option Addr) (d129:Nat),p124=o125∧p106.1.length=p124.1.length∧p106.2.1.length=p124.2.1.length∧Fr a 84 [(4,.pointer (some ⟨g103,0,none⟩)),(5,.bool false),(6,.pointer (some ⟨g116,0,none⟩))]∧St w u [.box g116 41 #[.slice B107 p106.1.length d109,.slice B110 p106.2.1.length d112,.slice B128 p124.2.2.length d129],.box g103 41 #[.slice none 0 0,.slice none 0 0,.slice none 0 0],.row 4 1 (.slice B107 p106.1.length d109) p106.1.length (p124.1.flatMap eB),.row 4 1 (.slice B110 p106.2.1.length d112) p106.2.1.length (p124.2.1.flatMap eB),.row 78 2 (.slice B128 p124.2.2.length d129) p124.2.2.length (p124.2.2.flatMap ePermit)]) ?_ ?_
  ·have _:=trivial
   cases hc131:(p120)
   ·replace hM130:=bif_f hc131 hM130
    refine cond_f f rfl hc131 ?_
    refine ws ?_
    revert a;refine sr (ov rfl (fun a f=>run_eql (f.ev rfl) rfl rfl) (ag rfl rfl fun a f=>wn ?_))
    obtain ⟨o133,hM134,hM130⟩:=bind_ex hM130
    refine wp_cut (fun a u=>∃ (p132:Bool),p132=o133∧Fr a 84 [(3,.pointer (some ⟨g102,0,none⟩)),(4,.pointer (some ⟨g103,0,none⟩)),(5,.bool false),(6,.pointer (some ⟨g116,0,none⟩)),(7,.pointer (some ⟨g119,0,none⟩)),(39,iv x3),(51,.bool p132)]∧St w u [.box g119 78 #[iv x5,iv x4],.box g116 41 #[.slice B107 p106.1.length d109,.slice B110 p106.2.1.length d112,.slice B113 p106.2.2.length d115],.box g103 41 #[.slice none 0 0,.slice none 0 0,.slice none 0 0],.box g102 56 #[iv x3,iv x4,iv x5],.row 4 1 (.slice B107 p106.1.length d109) p106.1.length (p106.1.flatMap eB),.row 4 1 (.slice B110 p106.2.1.length d112) p106.2.1.length (p106.2.1.flatMap eB),.row 78 2 (.slice B113 p106.2.2.length d115) p106.2.2.length (p106.2.2.flatMap ePermit)]) ?_ ?_
    ·have _:=trivial
     cases hc135:(x3==2)
     ·replace hM134:=bif_f hc135 hM134
      refine cond_f f rfl hc135 ?_
      revert a;refine rl (ov rfl (fun a f=>run_eql (f.ev rfl) rfl rfl) (ag rfl rfl fun a f=>wn ?_))
      obtain rfl:=Option.some.inj hM134
      exact ⟨x3==3,rfl,f.keep _ ⟨rfl,rfl,rfl,rfl,rfl,rfl,rfl,trivial⟩,S.sel [0,1,2,3,4,5,6] rfl rfl⟩
     replace hM134:=bif_t hc135 hM134
     refine cond_t f rfl hc135 ?_
     refine wp_skip ?_
     obtain rfl:=Option.some.inj hM134
     exact ⟨x3==2,rfl,f.keep _ ⟨rfl,rfl,rfl,rfl,rfl,rfl,rfl,trivial⟩,S.sel [0,1,2,3,4,5,6] rfl rfl⟩
    rintro a u ⟨p132,rfl,f,S⟩
    obtain ⟨o137,hM141,hM130⟩:=bind_ex hM130
    refine wp_cut (fun a u=>∃ (p136:List Bool×List (Int×Int)) (B139:Option Addr) (d140:Nat),p136=o137∧p106.2.1.length=p136.1.length∧Fr a 84 [(4,.pointer (some ⟨g103,0,none⟩)),(5,.bool false),(6,.pointer (some ⟨g116,0,none⟩))]∧St w u [.box g116 41 #[.slice B107 p106.1.length d109,.slice B110 p106.2.1.length d112,.slice B139 p136.2.length d140],.box g103 41 #[.slice none 0 0,.slice none 0 0,.slice none 0 0],.row 4 1 (.slice B107 p106.1.length d109) p106.1.length (p106.1.flatMap eB),.row 4 1 (.slice B110 p106.2.1.length d112) p106.2.1.length (p136.1.flatMap eB),.row 78 2 (.slice B139 p136.2.length d140) p136.2.length (p136.2.flatMap ePermit)]) ?_ ?_
    ·have _:=trivial
     cases hc142:(p132)
     ·replace hM141:=bif_f hc142 hM141
      refine cond_f f rfl hc142 ?_
      revert a;refine sr (ov rfl (fun a f=>run_eql (f.ev rfl) rfl rfl) (ag rfl rfl fun a f=>wn ?_))
      obtain ⟨o144,hM147,hM141⟩:=bind_ex hM141
      refine wp_cut (fun a u=>∃ (p143:List (Int×Int)) (B145:Option Addr) (d146:Nat),p143=o144∧Fr a 84 [(4,.pointer (some ⟨g103,0,none⟩)),(5,.bool false),(6,.pointer (some ⟨g116,0,none⟩))]∧St w u [.box g116 41 #[.slice B107 p106.1.length d109,.slice B110 p106.2.1.length d112,.slice B145 p143.length d146],.box g103 41 #[.slice none 0 0,.slice none 0 0,.slice none 0 0],.row 4 1 (.slice B107 p106.1.length d109) p106.1.length (p106.1.flatMap eB),.row 4 1 (.slice B110 p106.2.1.length d112) p106.2.1.length (p106.2.1.flatMap eB),.row 78 2 (.slice B145 p143.length d146) p143.length (p143.flatMap ePermit)]) ?_ ?_
      ·have _:=trivial
       cases hc148:(x3==4)
       ·replace hM147:=bif_f hc148 hM147
        refine cond_f f rfl hc148 ?_
        revert a;refine sr (ov rfl (fun a f=>run_eql (f.ev rfl) rfl rfl) (ag rfl rfl fun a f=>wn ?_))
        obtain ⟨o150,hM153,hM147⟩:=bind_ex hM147
        refine wp_cut (fun a u=>∃ (p149:List (Int×Int)) (B151:Option Addr) (d152:Nat),p149=o150∧Fr a 84 [(4,.pointer (some ⟨g103,0,none⟩)),(5,.bool false),(6,.pointer (some ⟨g116,0,none⟩))]∧St w u [.box g116 41 #[.slice B107 p106.1.length d109,.slice B110 p106.2.1.length d112,.slice B151 p149.length d152],.box g103 41 #[.slice none 0 0,.slice none 0 0,.slice none 0 0],.row 4 1 (.slice B107 p106.1.length d109) p106.1.length (p106.1.flatMap eB),.row 4 1 (.slice B110 p106.2.1.length d112) p106.2.1.length (p106.2.1.flatMap eB),.row 78 2 (.slice B151 p149.length d152) p149.length (p149.flatMap ePermit)]) ?_ ?_
        ·have _:=trivial
         cases hc154:(x3==5)
         ·replace hM153:=bif_f hc154 hM153
          refine cond_f f rfl hc154 ?_
          refine wp_skip ?_
          obtain rfl:=Option.some.inj hM153
          exact ⟨p106.2.2,B113,d115,rfl,f.keep _ ⟨rfl,rfl,rfl,trivial⟩,S.sel [1,2,4,5,6] rfl rfl⟩
         replace hM153:=bif_t hc154 hM153
         refine cond_t f rfl hc154 ?_
         revert a;refine sr (ov rfl (fun a f=>run_fieldAddr rfl fl41_2 (f.ev rfl) rfl) (ov rfl (fun a f=>run_load1 rfl one39 (f.ev rfl) (S.cell 1 rfl rfl)) (ov rfl (fun a f=>run_loadN rfl ag78 (f.ev rfl) rfl ((S.free 0 rfl).cells 0 #[iv x5,iv x4] rfl)) fun a f=>?_)))
         obtain ⟨p155,h155,hM153⟩:=bind_ex hM153
         refine op_call rfl rfl f rfl (run_call (vs:=[_,_]) rfl rfl co133 ⟨(f.ev rfl),(f.ev rfl),trivial⟩) (c_slices_Index_impl_Permit_impl_Permit ⟨(S.rc 6 rfl),rfl⟩ h155) ?_
         rintro e u ⟨rfl,T⟩
         refine ⟨_,rfl,?_⟩
         clear f;intro a f
         replace S:=S.call0 T;clear T
         revert a;refine ag rfl rfl fun a f=>wn ?_
         revert a;refine rl (ov rfl (fun a f=>run_fieldAddr rfl fl41_2 (f.ev rfl) rfl) (ov rfl (fun a f=>run_load1 rfl one39 (f.ev rfl) (S.cell 1 rfl rfl)) (mv rfl rfl (mv rfl rfl (ov rfl (fun a f=>run_add (z:=w64 (p155+1)) (f.ev rfl) rfl rfl rfl) fun a f=>?_)))))
         obtain ⟨p156,h156,hM153⟩:=bind_ex hM153
         refine op_call rfl rfl f rfl (run_call (vs:=[_,_,_]) rfl rfl co135 ⟨(f.ev rfl),(f.ev rfl),(f.ev rfl),trivial⟩) (c_slices_Delete_impl_Permit_impl_Permit rfl (show St w _ [.row 78 2 (.slice B113 p106.2.2.length d115) p106.2.2.length (p106.2.2.flatMap ePermit),.box g119 78 #[iv x5,iv x4],.box g116 41 #[.slice B107 p106.1.length d109,.slice B110 p106.2.1.length d112,.slice B113 p106.2.2.length d115],.box g103 41 #[.slice none 0 0,.slice none 0 0,.slice none 0 0],.box g102 56 #[iv x3,iv x4,iv x5],.row 4 1 (.slice B107 p106.1.length d109) p106.1.length (p106.1.flatMap eB),.row 4 1 (.slice B110 p106.2.1.length d112) p106.2.1.length (p106.2.1.flatMap eB)] from S.sel [6,0,1,2,3,4,5] rfl rfl) h156) ?_
         rintro e u ⟨B157,n158,d159,rfl,rfl,T⟩
         refine ⟨_,rfl,?_⟩
         clear f;intro a f
         clear S;have S:=T;clear T
         revert a;refine ov rfl (fun a f=>run_fieldAddr rfl fl41_2 (f.ev rfl) rfl) fun a f=>?_
         refine op_do rfl rfl (run_store (cs':=#[.slice B107 p106.1.length d109,.slice B110 p106.2.1.length d112,.slice B157 p156.length d159]) rfl sz39 (f.ev rfl) (f.ev rfl) rfl rfl rfl (S.free 2 rfl) rfl rfl) ?_;replace S:=S.put 2 rfl (#[.slice B107 p106.1.length d109,.slice B110 p106.2.1.length d112,.slice B157 p156.length d159])
         generalize World.setRow _ _ _=u at S ⊢
         refine wn ?_
         obtain rfl:=Option.some.inj hM153
         exact ⟨p156,B157,d159,rfl,f.keep _ ⟨rfl,rfl,rfl,trivial⟩,S.sel [2,3,5,6,0] rfl rfl⟩
        rintro a u ⟨p149,B151,d152,rfl,f,S⟩
        obtain rfl:=Option.some.inj hM147
        exact ⟨p149,B151,d152,rfl,f.keep _ ⟨rfl,rfl,rfl,trivial⟩,S.sel [0,1,2,3,4] rfl rfl⟩
       replace hM147:=bif_t hc148 hM147
       refine cond_t f rfl hc148 ?_
       revert a;refine rl (ov rfl (fun a f=>run_fieldAddr rfl fl41_2 (f.ev rfl) rfl) (ov rfl (fun a f=>run_load1 rfl one39 (f.ev rfl) (S.cell 1 rfl rfl)) (ov rfl (fun a f=>run_loadN rfl ag78 (f.ev rfl) rfl ((S.free 0 rfl).cells 0 #[iv x5,iv x4] rfl)) fun a f=>?_)))
       refine op_newrowL (ls:=(([(x5,x4)]:List (Int×Int)):List (Int×Int))) (e:=ePermit) rfl rfl f rfl S (run_buildS (vs:=[(0,.agg #[iv x5,iv x4])]) rfl ⟨⟨rfl,(f.ev rfl)⟩,trivial⟩ (bs39_1_2 )) rfl ePermit_len (Nat.le_of_ble_eq_true rfl) ?_;clear f S;intro a g160 u f S
       obtain ⟨hk163,hM147⟩:=chk_ex hM147
       replace hk163:=apB_t hk163
       refine op_appendL (lx:=p106.2.2) (ly:=([(x5,x4)]:List (Int×Int))) rfl rfl f rfl S rfl (f.ev rfl) (f.ev rfl) (i:=7) rfl rfl Tryz.underlying39 inf78 rfl (by decide) (S.rc 0 rfl).rd rfl ePermit_one hk163 (by decide) ?_;clear f S;intro a B161 d162 u f S
       revert a;refine ov rfl (fun a f=>run_fieldAddr rfl fl41_2 (f.ev rfl) rfl) fun a f=>?_
       refine op_do rfl rfl (run_store (cs':=#[.slice B107 p106.1.length d109,.slice B110 p106.2.1.length d112,.slice B161 ((p106.2.2++([(x5,x4)]:List (Int×Int))).length) d162]) rfl sz39 (f.ev rfl) (f.ev rfl) rfl rfl rfl (S.free 2 rfl) rfl rfl) ?_;replace S:=S.put 2 rfl (#[.slice B107 p106.1.length d109,.slice B110 p106.2.1.length d112,.slice B161 ((p106.2.2++([(x5,x4)]:List (Int×Int))).length) d162])
       generalize World.setRow _ _ _=u at S ⊢
       refine wn ?_
       obtain rfl:=Option.some.inj hM147
       exact ⟨p106.2.2++([(x5,x4)]:List (Int×Int)),B161,d162,rfl,f.keep _ ⟨rfl,rfl,rfl,trivial⟩,S.sel [2,3,5,6,7] rfl rfl⟩
      rintro a u ⟨p143,B145,d146,rfl,f,S⟩
      obtain rfl:=Option.some.inj hM141
      exact ⟨(p106.2.1,p143),B145,d146,rfl,rfl,f.keep _ ⟨rfl,rfl,rfl,trivial⟩,S.sel [0,1,2,3,4] rfl rfl⟩
     replace hM141:=bif_t hc142 hM141
     refine cond_t f rfl hc142 ?_
     revert a;refine rl (ov rfl (fun a f=>run_fieldAddr rfl fl41_1 (f.ev rfl) rfl) (ov rfl (fun a f=>run_load1 rfl one26 (f.ev rfl) (S.cell 1 rfl rfl)) (ov rfl (fun a f=>run_fieldAddr rfl fl56_1 (f.ev rfl) rfl) (ov rfl (fun a f=>run_load1 rfl one3 (f.ev rfl) (S.cell 3 rfl rfl)) (ov rfl (fun a f=>run_fieldAddr rfl fl56_0 (f.ev rfl) rfl) (ov rfl (fun a f=>run_load1 rfl one3 (f.ev rfl) (S.cell 3 rfl rfl)) (ov rfl (fun a f=>run_eql (f.ev rfl) rfl rfl) fun a f=>?_)))))))
     obtain ⟨hk164,hM141⟩:=chk_ex hM141
     replace hk164:=ixB_t hk164
     revert a;refine ov rfl (fun a f=>run_ix rfl Tryz.underlying26 sz4 (f.ev rfl) (S.rc 5 rfl) (f.ev rfl) hk164) fun a f=>?_
     obtain ⟨w',hrun,S'⟩:=run_storeElN (P:=Tryz.prog) (ρ:=a.eval) (y0:=x3==2) (off:=0) S 4 (.tmp 61) (.tmp 60) (i:=5) sz4 (f.ev rfl) (f.ev rfl) rfl rfl rfl rfl rfl eB_len false (ix_ltn hk164 rfl) rfl rfl
     refine op_do rfl rfl (hrun _ rfl) ?_;clear hrun S;have S:=S';clear S';generalize w'=u at S ⊢
     refine wn ?_
     obtain rfl:=Option.some.inj hM141
     exact ⟨(p106.2.1.set x4.toNat (x3==2),p106.2.2),B113,d115,rfl,(len_set rfl),f.keep _ ⟨rfl,rfl,rfl,trivial⟩,S.sel [1,2,4,5,6] rfl rfl⟩
    rintro a u ⟨p136,B139,d140,rfl,hn138,f,S⟩
    obtain rfl:=Option.some.inj hM130
    exact ⟨(p106.1,p136.1,p136.2),B139,d140,rfl,rfl,hn138,f.keep _ ⟨rfl,rfl,rfl,trivial⟩,S.sel [0,1,2,3,4] rfl rfl⟩
   replace hM130:=bif_t hc131 hM130
   refine cond_t f rfl hc131 ?_
   revert a;refine rl (ov rfl (fun a f=>run_fieldAddr rfl fl41_0 (f.ev rfl) rfl) (ov rfl (fun a f=>run_load1 rfl one26 (f.ev rfl) (S.cell 1 rfl rfl)) (ov rfl (fun a f=>run_fieldAddr rfl fl56_1 (f.ev rfl) rfl) (ov rfl (fun a f=>run_load1 rfl one3 (f.ev rfl) (S.cell 3 rfl rfl)) (ov rfl (fun a f=>run_fieldAddr rfl fl56_0 (f.ev rfl) rfl) (ov rfl (fun a f=>run_load1 rfl one3 (f.ev rfl) (S.cell 3 rfl rfl)) (ov rfl (fun a f=>run_eql (f.ev rfl) rfl rfl) fun a f=>?_)))))))
   obtain ⟨hk165,hM130⟩:=chk_ex hM130
   replace hk165:=ixB_t hk165
   revert a;refine ov rfl (fun a f=>run_ix rfl Tryz.underlying26 sz4 (f.ev rfl) (S.rc 4 rfl) (f.ev rfl) hk165) fun a f=>?_
   obtain ⟨w',hrun,S'⟩:=run_storeElN (P:=Tryz.prog) (ρ:=a.eval) (y0:=x3==0) (off:=0) S 4 (.tmp 50) (.tmp 49) (i:=4) sz4 (f.ev rfl) (f.ev rfl) rfl rfl rfl rfl rfl eB_len false (ix_ltn hk165 rfl) rfl rfl
   refine op_do rfl rfl (hrun _ rfl) ?_;clear hrun S;have S:=S';clear S';generalize w'=u at S ⊢
   refine wn ?_
   obtain rfl:=Option.some.inj hM130
   exact ⟨(p106.1.set x4.toNat (x3==0),p106.2.1,p106.2.2),B113,d115,rfl,(len_set rfl),rfl,f.keep _ ⟨rfl,rfl,rfl,trivial⟩,S.sel [1,2,4,5,6] rfl rfl⟩
  rintro a u ⟨p124,B128,d129,rfl,hn126,hn127,f,S⟩
  revert a;refine sr (ov rfl (fun a f=>run_loadN rfl ag41 (f.ev rfl) rfl ((S.free 0 rfl).cells 0 #[.slice B107 p106.1.length d109,.slice B110 p106.2.1.length d112,.slice B128 p124.2.2.length d129] rfl)) fun a f=>?_)
  refine op_do rfl rfl (run_store (cs':=#[.slice B107 p106.1.length d109,.slice B110 p106.2.1.length d112,.slice B128 p124.2.2.length d129]) rfl sz41 (f.ev rfl) (f.ev rfl) rfl rfl rfl (S.free 1 rfl) rfl rfl) ?_;replace S:=S.put 1 rfl (#[.slice B107 p106.1.length d109,.slice B110 p106.2.1.length d112,.slice B128 p124.2.2.length d129])
  generalize World.setRow _ _ _=u at S ⊢
  revert a;refine ov rfl (fun a f=>run_assign rfl rfl) fun a f=>wn ?_
  refine wp_ret ?_
  refine ret2_gw (.inl rfl) f rfl (res_cell (f.ev rfl) (res_loadN ag41 rfl (S.cells 1 rfl 0 #[.slice B107 p106.1.length d109,.slice B110 p106.2.1.length d112,.slice B128 p124.2.2.length d129] rfl))) (res_tmp (f.ev rfl)) ?_
  obtain rfl:=Option.some.inj hM
  exact ⟨B107,p106.1.length,d109,B110,p106.2.1.length,d112,B128,p124.2.2.length,d129,rfl,hn126,hn127,rfl,S.sel [2,3,4] rfl rfl⟩
 replace hM:=bif_t hc118 hM
 refine cond_t f rfl hc118 ?_
 revert a;refine sr (ov rfl (fun a f=>run_loadN rfl ag41 (f.ev rfl) rfl ((S.free 0 rfl).cells 0 #[.slice B107 p106.1.length d109,.slice B110 p106.2.1.length d112,.slice B113 p106.2.2.length d115] rfl)) fun a f=>?_)
 refine op_do rfl rfl (run_store (cs':=#[.slice B107 p106.1.length d109,.slice B110 p106.2.1.length d112,.slice B113 p106.2.2.length d115]) rfl sz41 (f.ev rfl) (f.ev rfl) rfl rfl rfl (S.free 4 rfl) rfl rfl) ?_;replace S:=S.put 4 rfl (#[.slice B107 p106.1.length d109,.slice B110 p106.2.1.length d112,.slice B113 p106.2.2.length d115])
 generalize World.setRow _ _ _=u at S ⊢
 revert a;refine ov rfl (fun a f=>run_assign rfl rfl) fun a f=>wn ?_
 refine wp_ret ?_
 repeat with_reducible first|apply tr|apply ir|apply nr
 refine ret2_gw (.inl rfl) f rfl (res_cell (f.ev rfl) (res_loadN ag41 rfl (S.cells 4 rfl 0 #[.slice B107 p106.1.length d109,.slice B110 p106.2.1.length d112,.slice B113 p106.2.2.length d115] rfl))) (res_tmp (f.ev rfl)) ?_
 obtain rfl:=Option.some.inj hM
 exact ⟨B107,p106.1.length,d109,B110,p106.2.1.length,d112,B113,p106.2.2.length,d115,rfl,rfl,rfl,rfl,S.sel [1,2,3] rfl rfl⟩
end Go.Proofs.YtcmnjaccapbhfaaGreat
