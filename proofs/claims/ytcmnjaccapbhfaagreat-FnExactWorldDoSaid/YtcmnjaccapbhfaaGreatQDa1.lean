/- Calls return what the models say. -/
import Derived.Test.YtcmnjaccapbhfaaGreatQSq
import Derived.Test.YtcmnjaccapbhfaaGreatQDaT
namespace Go.Proofs.YtcmnjaccapbhfaaGreat
open Go.ChangeShapes Go.WideShapes Go.ChangeAt Go.RowKit
set_option linter.unusedVariables false
set_option maxHeartbeats 4000000
set_option linter.unusedSimpArgs false
theorem c_laws_szLineS {x0:List (Int×Int×Int)} {x1:Int} {A0:Option Addr} {n0 c0:Nat} {w:World} {r:Int} (h0:Rt w 3 eLLine A0 n0 c0 x0) (hM : m_laws_szLineS x0 x1=some r) :
  Calls Tryz.prog 65 #[.slice A0 n0 c0,iv x1] w (fun e w'=>e=.returned (iv r)∧St w w' []):=by
 obtain rfl:=h0.len
 unfold m_laws_szLineS at hM
 refine calls_gx Tryz.func65 Tryz.ntmps65 rfl rfl ?_
 intro a f
 have S:=St.nil w
 revert a;refine sr (ov rfl (fun a f=>run_assign rfl rfl) fun a f=>wn ?_)
 revert a;refine sr (mv rfl rfl (mv rfl rfl (ov rfl (fun a f=>run_lenL rfl rfl Tryz.underlying22 (f.ev rfl)) (ov rfl (fun a f=>run_sub (z:=w64 (x1-(x0.length:Int))) (f.ev rfl) (f.ev rfl) rfl rfl) (ag rfl rfl fun a f=>wn ?_)))))
 refine ws ?_
 revert a;refine sr (mv rfl rfl (ov rfl (fun a f=>run_lss (f.ev rfl) rfl rfl) fun a f=>wn ?_))
 cases hc101:(ltB (w64 (x1-(x0.length:Int))) 0)
 ·replace hM:=bif_f hc101 hM
  refine cond_f f rfl hc101 ?_
  refine wp_skip ?_
  revert a;refine sr (mv rfl rfl (ag rfl rfl fun a f=>wn ?_))
  refine wp_ret ?_
  refine ret1_gw (.inl rfl) f rfl (res_tmp (f.ev rfl)) ?_
  obtain rfl:=Option.some.inj hM
  exact ⟨rfl,S.sel [] rfl rfl⟩
 replace hM:=bif_t hc101 hM
 refine cond_t f rfl hc101 ?_
 revert a;refine sr (ov rfl (fun a f=>run_assign rfl rfl) fun a f=>wn ?_)
 refine wp_ret ?_
 repeat with_reducible first|apply tr|apply ir|apply nr
 refine ret1_gw (.inl rfl) f rfl (res_tmp (f.ev rfl)) ?_
 obtain rfl:=Option.some.inj hM
 exact ⟨rfl,S.sel [] rfl rfl⟩
theorem c_laws_szNet {x0:Int} {x1:List (Int×Int×Int)} {x2:Int} {A1:Option Addr} {n1 c1:Nat} {w:World} {r:Int} (h1:Rt w 3 eLLine A1 n1 c1 x1) (hM : m_laws_szNet x0 x1 x2=some r) :
  Calls Tryz.prog 26 #[.agg #[iv x0,.slice A1 n1 c1],iv x2] w (fun e w'=>e=.returned (iv r)∧St w w' []):=by
 obtain rfl:=h1.len
 unfold m_laws_szNet at hM
 refine calls_gx Tryz.func26 Tryz.ntmps26 rfl rfl ?_
 intro a f
 have S:=St.nil w
 refine wsg ?_
 refine op_new (cs:=#[iv x0,.slice A1 x1.length c1]) rfl rfl f rfl S (run_box rfl (f.ev rfl) rfl) ?_;clear f S;intro a g101 u f S
 revert a;refine ov rfl (fun a f=>run_assign rfl rfl) fun a f=>wn ?_
 revert a;refine sr (ov rfl (fun a f=>run_fieldAddr rfl fl24_1 (f.ev rfl) rfl) (ov rfl (fun a f=>run_load1 rfl one22 (f.ev rfl) (S.cell 0 rfl rfl)) (mv rfl rfl fun a f=>?_)))
 obtain ⟨p102,h102,hM⟩:=bind_ex hM
 refine op_call rfl rfl f rfl (run_call (vs:=[_,_]) rfl rfl co65 ⟨(f.ev rfl),(f.ev rfl),trivial⟩) (c_laws_szLineS ⟨(S.rc0 h1.rc),rfl⟩ h102) ?_
 rintro e u ⟨rfl,T⟩
 refine ⟨_,rfl,?_⟩
 clear f;intro a f
 replace S:=S.call0 T;clear T
 revert a;refine ag rfl rfl fun a f=>wn ?_
 refine ws ?_
 revert a;refine sr (mv rfl rfl (ov rfl (fun a f=>run_lss (f.ev rfl) rfl rfl) fun a f=>wn ?_))
 cases hc103:(ltB p102 0)
 ·replace hM:=bif_f hc103 hM
  refine cond_f f rfl hc103 ?_
  refine wp_skip ?_
  revert a;refine sr (mv rfl rfl (ag rfl rfl fun a f=>wn ?_))
  refine wp_ret ?_
  refine ret1_gw (.inl rfl) f rfl (res_tmp (f.ev rfl)) ?_
  obtain rfl:=Option.some.inj hM
  exact ⟨rfl,S.sel [] rfl rfl⟩
 replace hM:=bif_t hc103 hM
 refine cond_t f rfl hc103 ?_
 revert a;refine sr (ov rfl (fun a f=>run_assign rfl rfl) fun a f=>wn ?_)
 refine wp_ret ?_
 repeat with_reducible first|apply tr|apply ir|apply nr
 refine ret1_gw (.inl rfl) f rfl (res_tmp (f.ev rfl)) ?_
 obtain rfl:=Option.some.inj hM
 exact ⟨rfl,S.sel [] rfl rfl⟩
theorem c_laws_szBusS {x0:List (Int×Int)} {x1:Int} {A0:Option Addr} {n0 c0:Nat} {w:World} {r:Int} (h0:Rt w 2 eLBus A0 n0 c0 x0) (hM : m_laws_szBusS x0 x1=some r) :
  Calls Tryz.prog 27 #[.slice A0 n0 c0,iv x1] w (fun e w'=>e=.returned (iv r)∧St w w' []):=by
 obtain rfl:=h0.len
 unfold m_laws_szBusS at hM
 refine calls_gx Tryz.func27 Tryz.ntmps27 rfl rfl ?_
 intro a f
 have S:=St.nil w
 revert a;refine sr (ov rfl (fun a f=>run_assign rfl rfl) fun a f=>wn ?_)
 revert a;refine sr (mv rfl rfl (mv rfl rfl (ov rfl (fun a f=>run_lenL rfl rfl Tryz.underlying25 (f.ev rfl)) (ov rfl (fun a f=>run_sub (z:=w64 (x1-(x0.length:Int))) (f.ev rfl) (f.ev rfl) rfl rfl) (ag rfl rfl fun a f=>wn ?_)))))
 refine ws ?_
 revert a;refine sr (mv rfl rfl (ov rfl (fun a f=>run_lss (f.ev rfl) rfl rfl) fun a f=>wn ?_))
 cases hc101:(ltB (w64 (x1-(x0.length:Int))) 0)
 ·replace hM:=bif_f hc101 hM
  refine cond_f f rfl hc101 ?_
  refine wp_skip ?_
  revert a;refine sr (mv rfl rfl (ag rfl rfl fun a f=>wn ?_))
  refine wp_ret ?_
  refine ret1_gw (.inl rfl) f rfl (res_tmp (f.ev rfl)) ?_
  obtain rfl:=Option.some.inj hM
  exact ⟨rfl,S.sel [] rfl rfl⟩
 replace hM:=bif_t hc101 hM
 refine cond_t f rfl hc101 ?_
 revert a;refine sr (ov rfl (fun a f=>run_assign rfl rfl) fun a f=>wn ?_)
 refine wp_ret ?_
 repeat with_reducible first|apply tr|apply ir|apply nr
 refine ret1_gw (.inl rfl) f rfl (res_tmp (f.ev rfl)) ?_
 obtain rfl:=Option.some.inj hM
 exact ⟨rfl,S.sel [] rfl rfl⟩
theorem c_laws_szBoolS {x0:List Bool} {x1:Int} {A0:Option Addr} {n0 c0:Nat} {w:World} {r:Int} (h0:Rt w 1 eB A0 n0 c0 x0) (hM : m_laws_szBoolS x0 x1=some r) :
  Calls Tryz.prog 66 #[.slice A0 n0 c0,iv x1] w (fun e w'=>e=.returned (iv r)∧St w w' []):=by
 obtain rfl:=h0.len
 unfold m_laws_szBoolS at hM
 refine calls_gx Tryz.func66 Tryz.ntmps66 rfl rfl ?_
 intro a f
 have S:=St.nil w
 revert a;refine sr (ov rfl (fun a f=>run_assign rfl rfl) fun a f=>wn ?_)
 revert a;refine sr (mv rfl rfl (mv rfl rfl (ov rfl (fun a f=>run_lenL rfl rfl Tryz.underlying26 (f.ev rfl)) (ov rfl (fun a f=>run_sub (z:=w64 (x1-(x0.length:Int))) (f.ev rfl) (f.ev rfl) rfl rfl) (ag rfl rfl fun a f=>wn ?_)))))
 refine ws ?_
 revert a;refine sr (mv rfl rfl (ov rfl (fun a f=>run_lss (f.ev rfl) rfl rfl) fun a f=>wn ?_))
 cases hc101:(ltB (w64 (x1-(x0.length:Int))) 0)
 ·replace hM:=bif_f hc101 hM
  refine cond_f f rfl hc101 ?_
  refine wp_skip ?_
  revert a;refine sr (mv rfl rfl (ag rfl rfl fun a f=>wn ?_))
  refine wp_ret ?_
  refine ret1_gw (.inl rfl) f rfl (res_tmp (f.ev rfl)) ?_
  obtain rfl:=Option.some.inj hM
  exact ⟨rfl,S.sel [] rfl rfl⟩
 replace hM:=bif_t hc101 hM
 refine cond_t f rfl hc101 ?_
 revert a;refine sr (ov rfl (fun a f=>run_assign rfl rfl) fun a f=>wn ?_)
 refine wp_ret ?_
 repeat with_reducible first|apply tr|apply ir|apply nr
 refine ret1_gw (.inl rfl) f rfl (res_tmp (f.ev rfl)) ?_
 obtain rfl:=Option.some.inj hM
 exact ⟨rfl,S.sel [] rfl rfl⟩
theorem c_laws_szPermitS {x0:List (Int×Int)} {x1:Int} {A0:Option Addr} {n0 c0:Nat} {w:World} {r:Int} (h0:Rt w 2 eLPermit A0 n0 c0 x0) (hM : m_laws_szPermitS x0 x1=some r) :
  Calls Tryz.prog 67 #[.slice A0 n0 c0,iv x1] w (fun e w'=>e=.returned (iv r)∧St w w' []):=by
 obtain rfl:=h0.len
 unfold m_laws_szPermitS at hM
 refine calls_gx Tryz.func67 Tryz.ntmps67 rfl rfl ?_
 intro a f
 have S:=St.nil w
 revert a;refine sr (ov rfl (fun a f=>run_assign rfl rfl) fun a f=>wn ?_)
 revert a;refine sr (mv rfl rfl (mv rfl rfl (ov rfl (fun a f=>run_lenL rfl rfl Tryz.underlying27 (f.ev rfl)) (ov rfl (fun a f=>run_sub (z:=w64 (x1-(x0.length:Int))) (f.ev rfl) (f.ev rfl) rfl rfl) (ag rfl rfl fun a f=>wn ?_)))))
 refine ws ?_
 revert a;refine sr (mv rfl rfl (ov rfl (fun a f=>run_lss (f.ev rfl) rfl rfl) fun a f=>wn ?_))
 cases hc101:(ltB (w64 (x1-(x0.length:Int))) 0)
 ·replace hM:=bif_f hc101 hM
  refine cond_f f rfl hc101 ?_
  refine wp_skip ?_
  revert a;refine sr (mv rfl rfl (ag rfl rfl fun a f=>wn ?_))
  refine wp_ret ?_
  refine ret1_gw (.inl rfl) f rfl (res_tmp (f.ev rfl)) ?_
  obtain rfl:=Option.some.inj hM
  exact ⟨rfl,S.sel [] rfl rfl⟩
 replace hM:=bif_t hc101 hM
 refine cond_t f rfl hc101 ?_
 revert a;refine sr (ov rfl (fun a f=>run_assign rfl rfl) fun a f=>wn ?_)
 refine wp_ret ?_
 repeat with_reducible first|apply tr|apply ir|apply nr
 refine ret1_gw (.inl rfl) f rfl (res_tmp (f.ev rfl)) ?_
 obtain rfl:=Option.some.inj hM
 exact ⟨rfl,S.sel [] rfl rfl⟩
theorem c_laws_szWork {x0:List Bool} {x1:List Bool} {x2:List (Int×Int)} {x3:Int} {A0:Option Addr} {n0 c0:Nat} {A1:Option Addr} {n1 c1:Nat} {A2:Option Addr} {n2 c2:Nat} {w:World} {r:Int} (h0:Rt w 1 eB A0 n0 c0 x0) (h1:Rt w 1 eB A1 n1 c1 x1) (h2:Rt w 2 eLPermit A2 n2 c2 x2) (hM : m_laws_szWork x0 x1 x2 x3=some r) :
  Calls Tryz.prog 28 #[.agg #[.slice A0 n0 c0,.slice A1 n1 c1,.slice A2 n2 c2],iv x3] w (fun e w'=>e=.returned (iv r)∧St w w' []):=by
 obtain rfl:=h0.len
 obtain rfl:=h1.len
 obtain rfl:=h2.len
 unfold m_laws_szWork at hM
 refine calls_gx Tryz.func28 Tryz.ntmps28 rfl rfl ?_
 intro a f
 have S:=St.nil w
 refine wsg ?_
 refine op_new (cs:=#[.slice A0 x0.length c0,.slice A1 x1.length c1,.slice A2 x2.length c2]) rfl rfl f rfl S (run_box rfl (f.ev rfl) rfl) ?_;clear f S;intro a g101 u f S
 revert a;refine ov rfl (fun a f=>run_assign rfl rfl) fun a f=>wn ?_
 revert a;refine sr (ov rfl (fun a f=>run_fieldAddr rfl fl29_0 (f.ev rfl) rfl) (ov rfl (fun a f=>run_load1 rfl one26 (f.ev rfl) (S.cell 0 rfl rfl)) (mv rfl rfl fun a f=>?_)))
 obtain ⟨p102,h102,hM⟩:=bind_ex hM
 refine op_call rfl rfl f rfl (run_call (vs:=[_,_]) rfl rfl co66 ⟨(f.ev rfl),(f.ev rfl),trivial⟩) (c_laws_szBoolS ⟨(S.rc0 h0.rc),rfl⟩ h102) ?_
 rintro e u ⟨rfl,T⟩
 refine ⟨_,rfl,?_⟩
 clear f;intro a f
 replace S:=S.call0 T;clear T
 revert a;refine ag rfl rfl fun a f=>wn ?_
 refine ws ?_
 revert a;refine sr (mv rfl rfl (ov rfl (fun a f=>run_lss (f.ev rfl) rfl rfl) fun a f=>wn ?_))
 cases hc103:(ltB p102 0)
 ·replace hM:=bif_f hc103 hM
  refine cond_f f rfl hc103 ?_
  refine wp_skip ?_
  revert a;refine sr (ov rfl (fun a f=>run_fieldAddr rfl fl29_1 (f.ev rfl) rfl) (ov rfl (fun a f=>run_load1 rfl one26 (f.ev rfl) (S.cell 0 rfl rfl)) (mv rfl rfl fun a f=>?_)))
  obtain ⟨p104,h104,hM⟩:=bind_ex hM
  refine op_call rfl rfl f rfl (run_call (vs:=[_,_]) rfl rfl co66 ⟨(f.ev rfl),(f.ev rfl),trivial⟩) (c_laws_szBoolS ⟨(S.rc0 h1.rc),rfl⟩ h104) ?_
  rintro e u ⟨rfl,T⟩
  refine ⟨_,rfl,?_⟩
  clear f;intro a f
  replace S:=S.call0 T;clear T
  revert a;refine ag rfl rfl fun a f=>wn ?_
  refine ws ?_
  revert a;refine sr (mv rfl rfl (ov rfl (fun a f=>run_lss (f.ev rfl) rfl rfl) fun a f=>wn ?_))
  cases hc105:(ltB p104 0)
  ·replace hM:=bif_f hc105 hM
   refine cond_f f rfl hc105 ?_
   refine wp_skip ?_
   revert a;refine sr (ov rfl (fun a f=>run_fieldAddr rfl fl29_2 (f.ev rfl) rfl) (ov rfl (fun a f=>run_load1 rfl one27 (f.ev rfl) (S.cell 0 rfl rfl)) (mv rfl rfl fun a f=>?_)))
   obtain ⟨p106,h106,hM⟩:=bind_ex hM
   refine op_call rfl rfl f rfl (run_call (vs:=[_,_]) rfl rfl co67 ⟨(f.ev rfl),(f.ev rfl),trivial⟩) (c_laws_szPermitS ⟨(S.rc0 h2.rc),rfl⟩ h106) ?_
   rintro e u ⟨rfl,T⟩
   refine ⟨_,rfl,?_⟩
   clear f;intro a f
   replace S:=S.call0 T;clear T
   revert a;refine ag rfl rfl fun a f=>wn ?_
   refine ws ?_
   revert a;refine sr (mv rfl rfl (ov rfl (fun a f=>run_lss (f.ev rfl) rfl rfl) fun a f=>wn ?_))
   cases hc107:(ltB p106 0)
   ·replace hM:=bif_f hc107 hM
    refine cond_f f rfl hc107 ?_
    refine wp_skip ?_
    revert a;refine sr (mv rfl rfl (ag rfl rfl fun a f=>wn ?_))
    refine wp_ret ?_
    refine ret1_gw (.inl rfl) f rfl (res_tmp (f.ev rfl)) ?_
    obtain rfl:=Option.some.inj hM
    exact ⟨rfl,S.sel [] rfl rfl⟩
   replace hM:=bif_t hc107 hM
   refine cond_t f rfl hc107 ?_
   revert a;refine sr (ov rfl (fun a f=>run_assign rfl rfl) fun a f=>wn ?_)
   refine wp_ret ?_
   repeat with_reducible first|apply tr|apply ir|apply nr
   refine ret1_gw (.inl rfl) f rfl (res_tmp (f.ev rfl)) ?_
   obtain rfl:=Option.some.inj hM
   exact ⟨rfl,S.sel [] rfl rfl⟩
  replace hM:=bif_t hc105 hM
  refine cond_t f rfl hc105 ?_
  revert a;refine sr (ov rfl (fun a f=>run_assign rfl rfl) fun a f=>wn ?_)
  refine wp_ret ?_
  repeat with_reducible first|apply tr|apply ir|apply nr
  refine ret1_gw (.inl rfl) f rfl (res_tmp (f.ev rfl)) ?_
  obtain rfl:=Option.some.inj hM
  exact ⟨rfl,S.sel [] rfl rfl⟩
 replace hM:=bif_t hc103 hM
 refine cond_t f rfl hc103 ?_
 revert a;refine sr (ov rfl (fun a f=>run_assign rfl rfl) fun a f=>wn ?_)
 refine wp_ret ?_
 repeat with_reducible first|apply tr|apply ir|apply nr
 refine ret1_gw (.inl rfl) f rfl (res_tmp (f.ev rfl)) ?_
 obtain rfl:=Option.some.inj hM
 exact ⟨rfl,S.sel [] rfl rfl⟩
theorem c_laws_szIntS {x0:List Int} {x1:Int} {A0:Option Addr} {n0 c0:Nat} {w:World} {r:Int} (h0:Rt w 1 eI A0 n0 c0 x0) (hM : m_laws_szIntS x0 x1=some r) :
  Calls Tryz.prog 29 #[.slice A0 n0 c0,iv x1] w (fun e w'=>e=.returned (iv r)∧St w w' []):=by
 obtain rfl:=h0.len
 unfold m_laws_szIntS at hM
 refine calls_gx Tryz.func29 Tryz.ntmps29 rfl rfl ?_
 intro a f
 have S:=St.nil w
 revert a;refine sr (ov rfl (fun a f=>run_assign rfl rfl) fun a f=>wn ?_)
 revert a;refine sr (mv rfl rfl (mv rfl rfl (ov rfl (fun a f=>run_lenL rfl rfl Tryz.underlying30 (f.ev rfl)) (ov rfl (fun a f=>run_sub (z:=w64 (x1-(x0.length:Int))) (f.ev rfl) (f.ev rfl) rfl rfl) (ag rfl rfl fun a f=>wn ?_)))))
 refine ws ?_
 revert a;refine sr (mv rfl rfl (ov rfl (fun a f=>run_lss (f.ev rfl) rfl rfl) fun a f=>wn ?_))
 cases hc101:(ltB (w64 (x1-(x0.length:Int))) 0)
 ·replace hM:=bif_f hc101 hM
  refine cond_f f rfl hc101 ?_
  refine wp_skip ?_
  revert a;refine sr (mv rfl rfl (ag rfl rfl fun a f=>wn ?_))
  refine wp_ret ?_
  refine ret1_gw (.inl rfl) f rfl (res_tmp (f.ev rfl)) ?_
  obtain rfl:=Option.some.inj hM
  exact ⟨rfl,S.sel [] rfl rfl⟩
 replace hM:=bif_t hc101 hM
 refine cond_t f rfl hc101 ?_
 revert a;refine sr (ov rfl (fun a f=>run_assign rfl rfl) fun a f=>wn ?_)
 refine wp_ret ?_
 repeat with_reducible first|apply tr|apply ir|apply nr
 refine ret1_gw (.inl rfl) f rfl (res_tmp (f.ev rfl)) ?_
 obtain rfl:=Option.some.inj hM
 exact ⟨rfl,S.sel [] rfl rfl⟩
theorem c_laws_szWorld {x0:Int} {x1:List (Int×Int×Int)} {x2:List (Int×Int)} {x3:List Bool} {x4:List Bool} {x5:List (Int×Int)} {x6:List Int} {x7:Int} {A1:Option Addr} {n1 c1:Nat} {A2:Option Addr} {n2 c2:Nat} {A3:Option Addr} {n3 c3:Nat} {A4:Option Addr} {n4 c4:Nat} {A5:Option Addr} {n5 c5:Nat} {A6:Option Addr} {n6 c6:Nat} {w:World} {r:Int} (h1:Rt w 3 eLLine A1 n1 c1 x1) (h2:Rt w 2 eLBus A2 n2 c2 x2) (h3:Rt w 1 eB A3 n3 c3 x3) (h4:Rt w 1 eB A4 n4 c4 x4) (h5:Rt w 2 eLPermit A5 n5 c5 x5) (h6:Rt w 1 eI A6 n6 c6 x6) (hM : m_laws_szWorld x0 x1 x2 x3 x4 x5 x6 x7=some r) :
  Calls Tryz.prog 7 #[.agg #[iv x0,.slice A1 n1 c1,.slice A2 n2 c2,.slice A3 n3 c3,.slice A4 n4 c4,.slice A5 n5 c5,.slice A6 n6 c6],iv x7] w (fun e w'=>e=.returned (iv r)∧St w w' []):=by
 obtain rfl:=h1.len
 obtain rfl:=h2.len
 obtain rfl:=h3.len
 obtain rfl:=h4.len
 obtain rfl:=h5.len
 obtain rfl:=h6.len
 unfold m_laws_szWorld at hM
 refine calls_gx Tryz.func7 Tryz.ntmps7 rfl rfl ?_
 intro a f
 have S:=St.nil w
 refine wsg ?_
 refine op_new (cs:=#[iv x0,.slice A1 x1.length c1,.slice A2 x2.length c2,.slice A3 x3.length c3,.slice A4 x4.length c4,.slice A5 x5.length c5,.slice A6 x6.length c6]) rfl rfl f rfl S (run_box rfl (f.ev rfl) rfl) ?_;clear f S;intro a g101 u f S
 revert a;refine ov rfl (fun a f=>run_assign rfl rfl) fun a f=>wn ?_
 revert a;refine sr (ov rfl (fun a f=>run_fieldAddr rfl fl32_0 (f.ev rfl) rfl) (ov rfl (fun a f=>run_loadN rfl ag24 (f.ev rfl) rfl ((S.free 0 rfl).cells 0 #[iv x0,.slice A1 x1.length c1] rfl)) (mv rfl rfl fun a f=>?_)))
 obtain ⟨p102,h102,hM⟩:=bind_ex hM
 refine op_call rfl rfl f rfl (run_call (vs:=[_,_]) rfl rfl co26 ⟨(f.ev rfl),(f.ev rfl),trivial⟩) (c_laws_szNet ⟨(S.rc0 h1.rc),rfl⟩ h102) ?_
 rintro e u ⟨rfl,T⟩
 refine ⟨_,rfl,?_⟩
 clear f;intro a f
 replace S:=S.call0 T;clear T
 revert a;refine ag rfl rfl fun a f=>wn ?_
 refine ws ?_
 revert a;refine sr (mv rfl rfl (ov rfl (fun a f=>run_lss (f.ev rfl) rfl rfl) fun a f=>wn ?_))
 cases hc103:(ltB p102 0)
 ·replace hM:=bif_f hc103 hM
  refine cond_f f rfl hc103 ?_
  refine wp_skip ?_
  revert a;refine sr (ov rfl (fun a f=>run_fieldAddr rfl fl32_1 (f.ev rfl) rfl) (ov rfl (fun a f=>run_load1 rfl one25 (f.ev rfl) (S.cell 0 rfl rfl)) (mv rfl rfl fun a f=>?_)))
  obtain ⟨p104,h104,hM⟩:=bind_ex hM
  refine op_call rfl rfl f rfl (run_call (vs:=[_,_]) rfl rfl co27 ⟨(f.ev rfl),(f.ev rfl),trivial⟩) (c_laws_szBusS ⟨(S.rc0 h2.rc),rfl⟩ h104) ?_
  rintro e u ⟨rfl,T⟩
  refine ⟨_,rfl,?_⟩
  clear f;intro a f
  replace S:=S.call0 T;clear T
  revert a;refine ag rfl rfl fun a f=>wn ?_
  refine ws ?_
  revert a;refine sr (mv rfl rfl (ov rfl (fun a f=>run_lss (f.ev rfl) rfl rfl) fun a f=>wn ?_))
  cases hc105:(ltB p104 0)
  ·replace hM:=bif_f hc105 hM
   refine cond_f f rfl hc105 ?_
   refine wp_skip ?_
   revert a;refine sr (ov rfl (fun a f=>run_fieldAddr rfl fl32_2 (f.ev rfl) rfl) (ov rfl (fun a f=>run_loadN rfl ag29 (f.ev rfl) rfl ((S.free 0 rfl).cells 3 #[.slice A3 x3.length c3,.slice A4 x4.length c4,.slice A5 x5.length c5] rfl)) (mv rfl rfl fun a f=>?_)))
   obtain ⟨p106,h106,hM⟩:=bind_ex hM
   refine op_call rfl rfl f rfl (run_call (vs:=[_,_]) rfl rfl co28 ⟨(f.ev rfl),(f.ev rfl),trivial⟩) (c_laws_szWork ⟨(S.rc0 h3.rc),rfl⟩ ⟨(S.rc0 h4.rc),rfl⟩ ⟨(S.rc0 h5.rc),rfl⟩ h106) ?_
   rintro e u ⟨rfl,T⟩
   refine ⟨_,rfl,?_⟩
   clear f;intro a f
   replace S:=S.call0 T;clear T
   revert a;refine ag rfl rfl fun a f=>wn ?_
   refine ws ?_
   revert a;refine sr (mv rfl rfl (ov rfl (fun a f=>run_lss (f.ev rfl) rfl rfl) fun a f=>wn ?_))
   cases hc107:(ltB p106 0)
   ·replace hM:=bif_f hc107 hM
    refine cond_f f rfl hc107 ?_
    refine wp_skip ?_
    revert a;refine sr (ov rfl (fun a f=>run_fieldAddr rfl fl32_3 (f.ev rfl) rfl) (ov rfl (fun a f=>run_load1 rfl one30 (f.ev rfl) (S.cell 0 rfl rfl)) (mv rfl rfl fun a f=>?_)))
    obtain ⟨p108,h108,hM⟩:=bind_ex hM
    refine op_call rfl rfl f rfl (run_call (vs:=[_,_]) rfl rfl co29 ⟨(f.ev rfl),(f.ev rfl),trivial⟩) (c_laws_szIntS ⟨(S.rc0 h6.rc),rfl⟩ h108) ?_
    rintro e u ⟨rfl,T⟩
    refine ⟨_,rfl,?_⟩
    clear f;intro a f
    replace S:=S.call0 T;clear T
    revert a;refine ag rfl rfl fun a f=>wn ?_
    refine ws ?_
    revert a;refine sr (mv rfl rfl (ov rfl (fun a f=>run_lss (f.ev rfl) rfl rfl) fun a f=>wn ?_))
    cases hc109:(ltB p108 0)
    ·replace hM:=bif_f hc109 hM
     refine cond_f f rfl hc109 ?_
     refine wp_skip ?_
     revert a;refine sr (mv rfl rfl (ag rfl rfl fun a f=>wn ?_))
     refine wp_ret ?_
     refine ret1_gw (.inl rfl) f rfl (res_tmp (f.ev rfl)) ?_
     obtain rfl:=Option.some.inj hM
     exact ⟨rfl,S.sel [] rfl rfl⟩
    replace hM:=bif_t hc109 hM
    refine cond_t f rfl hc109 ?_
    revert a;refine sr (ov rfl (fun a f=>run_assign rfl rfl) fun a f=>wn ?_)
    refine wp_ret ?_
    repeat with_reducible first|apply tr|apply ir|apply nr
    refine ret1_gw (.inl rfl) f rfl (res_tmp (f.ev rfl)) ?_
    obtain rfl:=Option.some.inj hM
    exact ⟨rfl,S.sel [] rfl rfl⟩
   replace hM:=bif_t hc107 hM
   refine cond_t f rfl hc107 ?_
   revert a;refine sr (ov rfl (fun a f=>run_assign rfl rfl) fun a f=>wn ?_)
   refine wp_ret ?_
   repeat with_reducible first|apply tr|apply ir|apply nr
   refine ret1_gw (.inl rfl) f rfl (res_tmp (f.ev rfl)) ?_
   obtain rfl:=Option.some.inj hM
   exact ⟨rfl,S.sel [] rfl rfl⟩
  replace hM:=bif_t hc105 hM
  refine cond_t f rfl hc105 ?_
  revert a;refine sr (ov rfl (fun a f=>run_assign rfl rfl) fun a f=>wn ?_)
  refine wp_ret ?_
  repeat with_reducible first|apply tr|apply ir|apply nr
  refine ret1_gw (.inl rfl) f rfl (res_tmp (f.ev rfl)) ?_
  obtain rfl:=Option.some.inj hM
  exact ⟨rfl,S.sel [] rfl rfl⟩
 replace hM:=bif_t hc103 hM
 refine cond_t f rfl hc103 ?_
 revert a;refine sr (ov rfl (fun a f=>run_assign rfl rfl) fun a f=>wn ?_)
 refine wp_ret ?_
 repeat with_reducible first|apply tr|apply ir|apply nr
 refine ret1_gw (.inl rfl) f rfl (res_tmp (f.ev rfl)) ?_
 obtain rfl:=Option.some.inj hM
 exact ⟨rfl,S.sel [] rfl rfl⟩
theorem c_laws_toLine {x0:Int} {x1:Int} {x2:Int} {w:World} {r:Int×Int×Int}  (hM : m_laws_toLine x0 x1 x2=some r) :
  Calls Tryz.prog 107 #[.agg #[iv x0,iv x1,iv x2]] w (fun e w'=>e=.returned (.agg #[iv r.1,iv r.2.1,iv r.2.2])∧St w w' []):=by
 unfold m_laws_toLine at hM
 refine calls_gx Tryz.func107 Tryz.ntmps107 rfl rfl ?_
 intro a f
 have S:=St.nil w
 refine wsg ?_
 refine op_new (cs:=#[iv x0,iv x1,iv x2]) rfl rfl f rfl S (run_box rfl (f.ev rfl) rfl) ?_;clear f S;intro a g101 u f S
 refine op_new (cs:=#[iv 0,iv 0,iv 0]) rfl rfl f rfl S (run_allocZ rfl zr130) ?_;clear f S;intro a g102 u f S
 refine wn ?_
 refine wsg ?_
 refine op_new (cs:=#[iv 0,iv 0,iv 0]) rfl rfl f rfl S (run_allocZ rfl zr130) ?_;clear f S;intro a g103 u f S
 refine wn ?_
 revert a;refine sr (ov rfl (fun a f=>run_fieldAddr rfl fl141_0 (f.ev rfl) rfl) (ov rfl (fun a f=>run_load1 rfl one3 (f.ev rfl) (S.cell 2 rfl rfl)) (ov rfl (fun a f=>run_fieldAddr rfl fl130_0 (f.ev rfl) rfl) fun a f=>?_)))
 refine op_do rfl rfl (run_store (cs':=#[iv x0,iv 0,iv 0]) rfl sz3 (f.ev rfl) (f.ev rfl) rfl rfl rfl (S.free 0 rfl) rfl rfl) ?_;replace S:=S.put 0 rfl (#[iv x0,iv 0,iv 0])
 generalize World.setRow _ _ _=u at S ⊢
 refine wn ?_
 revert a;refine sr (ov rfl (fun a f=>run_fieldAddr rfl fl141_1 (f.ev rfl) rfl) (ov rfl (fun a f=>run_load1 rfl one3 (f.ev rfl) (S.cell 2 rfl rfl)) (ov rfl (fun a f=>run_fieldAddr rfl fl130_1 (f.ev rfl) rfl) fun a f=>?_)))
 refine op_do rfl rfl (run_store (cs':=#[iv x0,iv x1,iv 0]) rfl sz3 (f.ev rfl) (f.ev rfl) rfl rfl rfl (S.free 0 rfl) rfl rfl) ?_;replace S:=S.put 0 rfl (#[iv x0,iv x1,iv 0])
 generalize World.setRow _ _ _=u at S ⊢
 refine wn ?_
 revert a;refine sr (ov rfl (fun a f=>run_fieldAddr rfl fl141_2 (f.ev rfl) rfl) (ov rfl (fun a f=>run_load1 rfl one3 (f.ev rfl) (S.cell 2 rfl rfl)) (ov rfl (fun a f=>run_fieldAddr rfl fl130_2 (f.ev rfl) rfl) fun a f=>?_)))
 refine op_do rfl rfl (run_store (cs':=#[iv x0,iv x1,iv x2]) rfl sz3 (f.ev rfl) (f.ev rfl) rfl rfl rfl (S.free 0 rfl) rfl rfl) ?_;replace S:=S.put 0 rfl (#[iv x0,iv x1,iv x2])
 generalize World.setRow _ _ _=u at S ⊢
 refine wn ?_
 revert a;refine sr (ov rfl (fun a f=>run_loadN rfl ag130 (f.ev rfl) rfl ((S.free 0 rfl).cells 0 #[iv x0,iv x1,iv x2] rfl)) fun a f=>?_)
 refine op_do rfl rfl (run_store (cs':=#[iv x0,iv x1,iv x2]) rfl sz130 (f.ev rfl) (f.ev rfl) rfl rfl rfl (S.free 1 rfl) rfl rfl) ?_;replace S:=S.put 1 rfl (#[iv x0,iv x1,iv x2])
 generalize World.setRow _ _ _=u at S ⊢
 refine wn ?_
 refine wp_ret ?_
 refine ret1_gw (.inl rfl) f rfl (res_cell (f.ev rfl) (res_loadN ag130 rfl (S.cells 1 rfl 0 #[iv x0,iv x1,iv x2] rfl))) ?_
 obtain rfl:=Option.some.inj hM
 exact ⟨rfl,S.sel [] rfl rfl⟩
theorem c_laws_toLineS {x0:List (Int×Int×Int)} {A0:Option Addr} {n0 c0:Nat} {w:World} {r:List (Int×Int×Int)} (h0:Rt w 3 eLLine A0 n0 c0 x0) (hM : m_laws_toLineS x0=some r) :
  Calls Tryz.prog 70 #[.slice A0 n0 c0] w (fun e w'=>∃ (B0:Option Addr) (N0 D0:Nat),e=.returned (.slice B0 N0 D0)∧N0=r.length∧St w w' [.row 130 3 (.slice B0 N0 D0) N0 (r.flatMap eLine)]):=by
 obtain rfl:=h0.len
 unfold m_laws_toLineS at hM
 refine calls_gx Tryz.func70 Tryz.ntmps70 rfl rfl ?_
 intro a f
 have S:=St.nil w
 revert a;refine sr (ov rfl (fun a f=>run_assign rfl rfl) fun a f=>wn ?_)
 revert a;refine sr (mv rfl rfl (ov rfl (fun a f=>run_lenL rfl rfl Tryz.underlying22 (f.ev rfl)) fun a f=>?_))
 obtain ⟨hk102,hM⟩:=chk_ex hM
 replace hk102:=mkB_t hk102
 refine op_newrowL (m:=x0.length) (ls:=List.replicate x0.length (0,0,0)) (e:=eLine) rfl rfl f rfl S (run_makeL rfl (f.ev rfl) (f.ev rfl) Tryz.underlying35 inf130 eLine_len rfl (by decide) hk102) List.length_replicate eLine_len (by rw [List.length_replicate];omega) ?_;clear f S;intro a g101 u f S
 revert a;refine ag rfl rfl fun a f=>wn ?_
 refine ws ?_
 revert a;refine sr (ov rfl (fun a f=>run_assign rfl rfl) fun a f=>wn ?_)
 obtain ⟨o104,hM106,hM⟩:=bind_ex hM
 refine wp_cut (fun a u=>∃ (p103:List (Int×Int×Int)),p103=o104∧x0.length=p103.length∧Fr a 23 [(2,.slice none 0 0),(3,.slice (some ⟨g101,0,none⟩) x0.length x0.length)]∧St w u [.row 130 3 (.slice (some ⟨g101,0,none⟩) x0.length x0.length) x0.length (p103.flatMap eLine)]) ?_ ?_
 ·have _:=trivial
  refine wp_block ?_
  refine loop_gw (fun m a u=>∃ (p107:List (Int×Int×Int)×Int),m_laws_toLineS_l1 x0 m p107=some _∧x0.length=p107.1.length∧Fr a 23 [(0,.slice A0 x0.length c0),(2,.slice none 0 0),(3,.slice (some ⟨g101,0,none⟩) x0.length x0.length),(4,iv p107.2)]∧St w u [.row 130 3 (.slice (some ⟨g101,0,none⟩) x0.length x0.length) x0.length (p107.1.flatMap eLine)]) FUEL ⟨(List.replicate x0.length (0,0,0),0),hM106,List.length_replicate.symm,f.keep _ ⟨rfl,rfl,rfl,rfl,trivial⟩,S.sel [0] rfl rfl⟩ ?_
  clear f S hM106;rintro m a u ⟨p107,hM106,hn108,f,S⟩
  rcases m with _ | f1
  ·exact none_some hM106
  rw [m_laws_toLineS_l1.eq_2] at hM106
  refine ws ?_
  revert a;refine sr (mv rfl rfl (mv rfl rfl (ov rfl (fun a f=>run_lenL rfl rfl Tryz.underlying22 (f.ev rfl)) (ov rfl (fun a f=>run_lss (f.ev rfl) (f.ev rfl) rfl) fun a f=>wn ?_))))
  cases hc109:(ltB p107.2 (x0.length:Int))
  ·replace hM106:=bif_f hc109 hM106
   refine cond_f f rfl hc109 ?_
   refine wp_exit ?_
   repeat with_reducible first|apply then_exit|apply in_hit|refine in_miss rfl ?_
   obtain rfl:=Option.some.inj hM106
   exact ⟨p107.1,rfl,hn108,f.keep _ ⟨rfl,rfl,trivial⟩,S.sel [0] rfl rfl⟩
  replace hM106:=bif_t hc109 hM106
  refine cond_t f rfl hc109 ?_
  refine wp_skip ?_
  refine ws ?_
  refine wp_block ?_
  revert a;refine rl (mv rfl rfl (mv rfl rfl (mv rfl rfl (mv rfl rfl fun a f=>?_))))
  obtain ⟨hk110,hM106⟩:=chk_ex hM106
  replace hk110:=ixB_t hk110
  revert a;refine ov rfl (fun a f=>run_ix rfl Tryz.underlying22 sz141 (f.ev rfl) (S.rc0 h0.rc) (f.ev rfl) hk110) (ov rfl (fun a f=>run_loadN (cs:=#[iv ((x0.getD p107.2.toNat (0,0,0)).1),iv ((x0.getD p107.2.toNat (0,0,0)).2.1),iv ((x0.getD p107.2.toNat (0,0,0)).2.2)]) rfl ag141 (f.ev rfl) rfl (rd_elN (l:=x0) (S.rc0 h0.rc).rd rfl eLLine_len (0,0,0) (ix_ltn hk110 rfl) rfl)) fun a f=>?_)
  obtain ⟨p111,h111,hM106⟩:=bind_ex hM106
  refine op_call rfl rfl f rfl (run_call (vs:=[_]) rfl rfl co107 ⟨(f.ev rfl),trivial⟩) (c_laws_toLine  h111) ?_
  rintro e u ⟨rfl,T⟩
  refine ⟨_,rfl,?_⟩
  clear f;intro a f
  replace S:=S.call0 T;clear T
  obtain ⟨hk112,hM106⟩:=chk_ex hM106
  replace hk112:=ixB_t hk112
  revert a;refine ov rfl (fun a f=>run_indexAddr (b:=adB (some ⟨g101,0,none⟩)) (off:=adO (some ⟨g101,0,none⟩)) rfl Tryz.underlying35 sz130 ((f.ev rfl).trans (congrArg (fun A=>Value.slice A x0.length x0.length) ((S.rc 0 rfl).rd.ad (ix_pos hk112)))) (f.ev rfl) hk112.1 hk112.2 (k':=adO (some ⟨g101,0,none⟩)+p107.2.toNat*3) rfl) fun a f=>?_
  obtain ⟨w',hrun,S'⟩:=run_storeElN (P:=Tryz.prog) (ρ:=a.eval) (y0:=(p111.1,p111.2.1,p111.2.2)) (off:=0) S 130 (.tmp 21) (.tmp 20) (i:=0) sz130 (f.ev rfl) (f.ev rfl) rfl rfl rfl rfl hn108 eLine_len (0,0,0) (ix_ltn hk112 hn108) rfl rfl
  refine op_do rfl rfl (hrun _ rfl) ?_;clear hrun S;have S:=S';clear S';generalize w'=u at S ⊢
  refine wn ?_
  revert a;refine rl (mv rfl rfl (ov rfl (fun a f=>run_add (z:=w64 (p107.2+1)) (f.ev rfl) rfl rfl rfl) (ag rfl rfl fun a f=>wn ?_)))
  exact ⟨f1,Nat.lt_succ_self _,(p107.1.set p107.2.toNat (p111.1,p111.2.1,p111.2.2),w64 (p107.2+1)),hM106,(len_set hn108),f.keep _ ⟨rfl,rfl,rfl,rfl,trivial⟩,S.sel [0] rfl rfl⟩
 rintro a u ⟨p103,rfl,hn105,f,S⟩
 revert a;refine sr (mv rfl rfl (ag rfl rfl fun a f=>wn ?_))
 refine wp_ret ?_
 refine ret1_gw (.inl rfl) f rfl (res_tmp (f.ev rfl)) ?_
 obtain rfl:=Option.some.inj hM
 exact ⟨(some ⟨g101,0,none⟩),x0.length,x0.length,rfl,hn105,S.sel [0] rfl rfl⟩
theorem c_laws_toNet {x0:Int} {x1:List (Int×Int×Int)} {A1:Option Addr} {n1 c1:Nat} {w:World} {r:Int×List (Int×Int×Int)} (h1:Rt w 3 eLLine A1 n1 c1 x1) (hM : m_laws_toNet x0 x1=some r) :
  Calls Tryz.prog 31 #[.agg #[iv x0,.slice A1 n1 c1]] w (fun e w'=>∃ (B0:Option Addr) (N0 D0:Nat),e=.returned (.agg #[iv r.1,.slice B0 N0 D0])∧N0=r.2.length∧St w w' [.row 130 3 (.slice B0 N0 D0) N0 (r.2.flatMap eLine)]):=by
 obtain rfl:=h1.len
 unfold m_laws_toNet at hM
 refine calls_gx Tryz.func31 Tryz.ntmps31 rfl rfl ?_
 intro a f
 have S:=St.nil w
 refine wsg ?_
 refine op_new (cs:=#[iv x0,.slice A1 x1.length c1]) rfl rfl f rfl S (run_box rfl (f.ev rfl) rfl) ?_;clear f S;intro a g101 u f S
 refine op_new (cs:=#[iv 0,.slice none 0 0]) rfl rfl f rfl S (run_allocZ rfl zr37) ?_;clear f S;intro a g102 u f S
 refine wn ?_
 refine wsg ?_
 refine op_new (cs:=#[iv 0,.slice none 0 0]) rfl rfl f rfl S (run_allocZ rfl zr37) ?_;clear f S;intro a g103 u f S
 refine wn ?_
 revert a;refine sr (ov rfl (fun a f=>run_fieldAddr rfl fl24_0 (f.ev rfl) rfl) (ov rfl (fun a f=>run_load1 rfl one3 (f.ev rfl) (S.cell 2 rfl rfl)) (ov rfl (fun a f=>run_fieldAddr rfl fl37_0 (f.ev rfl) rfl) fun a f=>?_)))
 refine op_do rfl rfl (run_store (cs':=#[iv x0,.slice none 0 0]) rfl sz3 (f.ev rfl) (f.ev rfl) rfl rfl rfl (S.free 0 rfl) rfl rfl) ?_;replace S:=S.put 0 rfl (#[iv x0,.slice none 0 0])
 generalize World.setRow _ _ _=u at S ⊢
 refine wn ?_
 revert a;refine sr (ov rfl (fun a f=>run_fieldAddr rfl fl24_1 (f.ev rfl) rfl) (ov rfl (fun a f=>run_load1 rfl one22 (f.ev rfl) (S.cell 2 rfl rfl)) fun a f=>?_))
 obtain ⟨p104,h104,hM⟩:=bind_ex hM
 refine op_call rfl rfl f rfl (run_call (vs:=[_]) rfl rfl co70 ⟨(f.ev rfl),trivial⟩) (c_laws_toLineS ⟨(S.rc0 h1.rc),rfl⟩ h104) ?_
 rintro e u ⟨B105,n106,d107,rfl,rfl,T⟩
 refine ⟨_,rfl,?_⟩
 clear f;intro a f
 replace S:=S.call1 T;clear T
 revert a;refine ov rfl (fun a f=>run_fieldAddr rfl fl37_1 (f.ev rfl) rfl) fun a f=>?_
 refine op_do rfl rfl (run_store (cs':=#[iv x0,.slice B105 p104.length d107]) rfl sz35 (f.ev rfl) (f.ev rfl) rfl rfl rfl (S.free 1 rfl) rfl rfl) ?_;replace S:=S.put 1 rfl (#[iv x0,.slice B105 p104.length d107])
 generalize World.setRow _ _ _=u at S ⊢
 refine wn ?_
 revert a;refine sr (ov rfl (fun a f=>run_loadN rfl ag37 (f.ev rfl) rfl ((S.free 1 rfl).cells 0 #[iv x0,.slice B105 p104.length d107] rfl)) fun a f=>?_)
 refine op_do rfl rfl (run_store (cs':=#[iv x0,.slice B105 p104.length d107]) rfl sz37 (f.ev rfl) (f.ev rfl) rfl rfl rfl (S.free 2 rfl) rfl rfl) ?_;replace S:=S.put 2 rfl (#[iv x0,.slice B105 p104.length d107])
 generalize World.setRow _ _ _=u at S ⊢
 refine wn ?_
 refine wp_ret ?_
 refine ret1_gw (.inl rfl) f rfl (res_cell (f.ev rfl) (res_loadN ag37 rfl (S.cells 2 rfl 0 #[iv x0,.slice B105 p104.length d107] rfl))) ?_
 obtain rfl:=Option.some.inj hM
 exact ⟨B105,p104.length,d107,rfl,rfl,S.sel [0] rfl rfl⟩
theorem c_laws_toBus {x0:Int} {x1:Int} {w:World} {r:Int×Int}  (hM : m_laws_toBus x0 x1=some r) :
  Calls Tryz.prog 71 #[.agg #[iv x0,iv x1]] w (fun e w'=>e=.returned (.agg #[iv r.1,iv r.2])∧St w w' []):=by
 unfold m_laws_toBus at hM
 refine calls_gx Tryz.func71 Tryz.ntmps71 rfl rfl ?_
 intro a f
 have S:=St.nil w
 refine wsg ?_
 refine op_new (cs:=#[iv x0,iv x1]) rfl rfl f rfl S (run_box rfl (f.ev rfl) rfl) ?_;clear f S;intro a g101 u f S
 refine op_new (cs:=#[iv 0,iv 0]) rfl rfl f rfl S (run_allocZ rfl zr110) ?_;clear f S;intro a g102 u f S
 refine wn ?_
 refine wsg ?_
 refine op_new (cs:=#[iv 0,iv 0]) rfl rfl f rfl S (run_allocZ rfl zr110) ?_;clear f S;intro a g103 u f S
 refine wn ?_
 revert a;refine sr (ov rfl (fun a f=>run_fieldAddr rfl fl112_0 (f.ev rfl) rfl) (ov rfl (fun a f=>run_load1 rfl one3 (f.ev rfl) (S.cell 2 rfl rfl)) (ov rfl (fun a f=>run_fieldAddr rfl fl110_0 (f.ev rfl) rfl) fun a f=>?_)))
 refine op_do rfl rfl (run_store (cs':=#[iv x0,iv 0]) rfl sz3 (f.ev rfl) (f.ev rfl) rfl rfl rfl (S.free 0 rfl) rfl rfl) ?_;replace S:=S.put 0 rfl (#[iv x0,iv 0])
 generalize World.setRow _ _ _=u at S ⊢
 refine wn ?_
 revert a;refine sr (ov rfl (fun a f=>run_fieldAddr rfl fl112_1 (f.ev rfl) rfl) (ov rfl (fun a f=>run_load1 rfl one3 (f.ev rfl) (S.cell 2 rfl rfl)) (ov rfl (fun a f=>run_fieldAddr rfl fl110_1 (f.ev rfl) rfl) fun a f=>?_)))
 refine op_do rfl rfl (run_store (cs':=#[iv x0,iv x1]) rfl sz3 (f.ev rfl) (f.ev rfl) rfl rfl rfl (S.free 0 rfl) rfl rfl) ?_;replace S:=S.put 0 rfl (#[iv x0,iv x1])
 generalize World.setRow _ _ _=u at S ⊢
 refine wn ?_
 revert a;refine sr (ov rfl (fun a f=>run_loadN rfl ag110 (f.ev rfl) rfl ((S.free 0 rfl).cells 0 #[iv x0,iv x1] rfl)) fun a f=>?_)
 refine op_do rfl rfl (run_store (cs':=#[iv x0,iv x1]) rfl sz110 (f.ev rfl) (f.ev rfl) rfl rfl rfl (S.free 1 rfl) rfl rfl) ?_;replace S:=S.put 1 rfl (#[iv x0,iv x1])
 generalize World.setRow _ _ _=u at S ⊢
 refine wn ?_
 refine wp_ret ?_
 refine ret1_gw (.inl rfl) f rfl (res_cell (f.ev rfl) (res_loadN ag110 rfl (S.cells 1 rfl 0 #[iv x0,iv x1] rfl))) ?_
 obtain rfl:=Option.some.inj hM
 exact ⟨rfl,S.sel [] rfl rfl⟩
theorem c_laws_toBusS {x0:List (Int×Int)} {A0:Option Addr} {n0 c0:Nat} {w:World} {r:List (Int×Int)} (h0:Rt w 2 eLBus A0 n0 c0 x0) (hM : m_laws_toBusS x0=some r) :
  Calls Tryz.prog 32 #[.slice A0 n0 c0] w (fun e w'=>∃ (B0:Option Addr) (N0 D0:Nat),e=.returned (.slice B0 N0 D0)∧N0=r.length∧St w w' [.row 110 2 (.slice B0 N0 D0) N0 (r.flatMap eBus)]):=by
 obtain rfl:=h0.len
 unfold m_laws_toBusS at hM
 refine calls_gx Tryz.func32 Tryz.ntmps32 rfl rfl ?_
 intro a f
 have S:=St.nil w
 revert a;refine sr (ov rfl (fun a f=>run_assign rfl rfl) fun a f=>wn ?_)
 revert a;refine sr (mv rfl rfl (ov rfl (fun a f=>run_lenL rfl rfl Tryz.underlying25 (f.ev rfl)) fun a f=>?_))
 obtain ⟨hk102,hM⟩:=chk_ex hM
 replace hk102:=mkB_t hk102
 refine op_newrowL (m:=x0.length) (ls:=List.replicate x0.length (0,0)) (e:=eBus) rfl rfl f rfl S (run_makeL rfl (f.ev rfl) (f.ev rfl) Tryz.underlying38 inf110 eBus_len rfl (by decide) hk102) List.length_replicate eBus_len (by rw [List.length_replicate];omega) ?_;clear f S;intro a g101 u f S
 revert a;refine ag rfl rfl fun a f=>wn ?_
 refine ws ?_
 revert a;refine sr (ov rfl (fun a f=>run_assign rfl rfl) fun a f=>wn ?_)
 obtain ⟨o104,hM106,hM⟩:=bind_ex hM
 refine wp_cut (fun a u=>∃ (p103:List (Int×Int)),p103=o104∧x0.length=p103.length∧Fr a 23 [(2,.slice none 0 0),(3,.slice (some ⟨g101,0,none⟩) x0.length x0.length)]∧St w u [.row 110 2 (.slice (some ⟨g101,0,none⟩) x0.length x0.length) x0.length (p103.flatMap eBus)]) ?_ ?_
 ·have _:=trivial
  refine wp_block ?_
  refine loop_gw (fun m a u=>∃ (p107:List (Int×Int)×Int),m_laws_toBusS_l1 x0 m p107=some _∧x0.length=p107.1.length∧Fr a 23 [(0,.slice A0 x0.length c0),(2,.slice none 0 0),(3,.slice (some ⟨g101,0,none⟩) x0.length x0.length),(4,iv p107.2)]∧St w u [.row 110 2 (.slice (some ⟨g101,0,none⟩) x0.length x0.length) x0.length (p107.1.flatMap eBus)]) FUEL ⟨(List.replicate x0.length (0,0),0),hM106,List.length_replicate.symm,f.keep _ ⟨rfl,rfl,rfl,rfl,trivial⟩,S.sel [0] rfl rfl⟩ ?_
  clear f S hM106;rintro m a u ⟨p107,hM106,hn108,f,S⟩
  rcases m with _ | f1
  ·exact none_some hM106
  rw [m_laws_toBusS_l1.eq_2] at hM106
  refine ws ?_
  revert a;refine sr (mv rfl rfl (mv rfl rfl (ov rfl (fun a f=>run_lenL rfl rfl Tryz.underlying25 (f.ev rfl)) (ov rfl (fun a f=>run_lss (f.ev rfl) (f.ev rfl) rfl) fun a f=>wn ?_))))
  cases hc109:(ltB p107.2 (x0.length:Int))
  ·replace hM106:=bif_f hc109 hM106
   refine cond_f f rfl hc109 ?_
   refine wp_exit ?_
   repeat with_reducible first|apply then_exit|apply in_hit|refine in_miss rfl ?_
   obtain rfl:=Option.some.inj hM106
   exact ⟨p107.1,rfl,hn108,f.keep _ ⟨rfl,rfl,trivial⟩,S.sel [0] rfl rfl⟩
  replace hM106:=bif_t hc109 hM106
  refine cond_t f rfl hc109 ?_
  refine wp_skip ?_
  refine ws ?_
  refine wp_block ?_
  revert a;refine rl (mv rfl rfl (mv rfl rfl (mv rfl rfl (mv rfl rfl fun a f=>?_))))
  obtain ⟨hk110,hM106⟩:=chk_ex hM106
  replace hk110:=ixB_t hk110
  revert a;refine ov rfl (fun a f=>run_ix rfl Tryz.underlying25 sz112 (f.ev rfl) (S.rc0 h0.rc) (f.ev rfl) hk110) (ov rfl (fun a f=>run_loadN (cs:=#[iv ((x0.getD p107.2.toNat (0,0)).1),iv ((x0.getD p107.2.toNat (0,0)).2)]) rfl ag112 (f.ev rfl) rfl (rd_elN (l:=x0) (S.rc0 h0.rc).rd rfl eLBus_len (0,0) (ix_ltn hk110 rfl) rfl)) fun a f=>?_)
  obtain ⟨p111,h111,hM106⟩:=bind_ex hM106
  refine op_call rfl rfl f rfl (run_call (vs:=[_]) rfl rfl co71 ⟨(f.ev rfl),trivial⟩) (c_laws_toBus  h111) ?_
  rintro e u ⟨rfl,T⟩
  refine ⟨_,rfl,?_⟩
  clear f;intro a f
  replace S:=S.call0 T;clear T
  obtain ⟨hk112,hM106⟩:=chk_ex hM106
  replace hk112:=ixB_t hk112
  revert a;refine ov rfl (fun a f=>run_indexAddr (b:=adB (some ⟨g101,0,none⟩)) (off:=adO (some ⟨g101,0,none⟩)) rfl Tryz.underlying38 sz110 ((f.ev rfl).trans (congrArg (fun A=>Value.slice A x0.length x0.length) ((S.rc 0 rfl).rd.ad (ix_pos hk112)))) (f.ev rfl) hk112.1 hk112.2 (k':=adO (some ⟨g101,0,none⟩)+p107.2.toNat*2) rfl) fun a f=>?_
  obtain ⟨w',hrun,S'⟩:=run_storeElN (P:=Tryz.prog) (ρ:=a.eval) (y0:=(p111.1,p111.2)) (off:=0) S 110 (.tmp 21) (.tmp 20) (i:=0) sz110 (f.ev rfl) (f.ev rfl) rfl rfl rfl rfl hn108 eBus_len (0,0) (ix_ltn hk112 hn108) rfl rfl
  refine op_do rfl rfl (hrun _ rfl) ?_;clear hrun S;have S:=S';clear S';generalize w'=u at S ⊢
  refine wn ?_
  revert a;refine rl (mv rfl rfl (ov rfl (fun a f=>run_add (z:=w64 (p107.2+1)) (f.ev rfl) rfl rfl rfl) (ag rfl rfl fun a f=>wn ?_)))
  exact ⟨f1,Nat.lt_succ_self _,(p107.1.set p107.2.toNat (p111.1,p111.2),w64 (p107.2+1)),hM106,(len_set hn108),f.keep _ ⟨rfl,rfl,rfl,rfl,trivial⟩,S.sel [0] rfl rfl⟩
 rintro a u ⟨p103,rfl,hn105,f,S⟩
 revert a;refine sr (mv rfl rfl (ag rfl rfl fun a f=>wn ?_))
 refine wp_ret ?_
 refine ret1_gw (.inl rfl) f rfl (res_tmp (f.ev rfl)) ?_
 obtain rfl:=Option.some.inj hM
 exact ⟨(some ⟨g101,0,none⟩),x0.length,x0.length,rfl,hn105,S.sel [0] rfl rfl⟩
theorem c_laws_toBoolS {x0:List Bool} {A0:Option Addr} {n0 c0:Nat} {w:World} {r:List Bool} (h0:Rt w 1 eB A0 n0 c0 x0) (hM : m_laws_toBoolS x0=some r) :
  Calls Tryz.prog 72 #[.slice A0 n0 c0] w (fun e w'=>∃ (B0:Option Addr) (N0 D0:Nat),e=.returned (.slice B0 N0 D0)∧N0=r.length∧St w w' [.row 4 1 (.slice B0 N0 D0) N0 (r.flatMap eB)]):=by
 obtain rfl:=h0.len
 unfold m_laws_toBoolS at hM
 refine calls_gx Tryz.func72 Tryz.ntmps72 rfl rfl ?_
 intro a f
 have S:=St.nil w
 revert a;refine sr (ov rfl (fun a f=>run_assign rfl rfl) fun a f=>wn ?_)
 revert a;refine sr (mv rfl rfl (ov rfl (fun a f=>run_lenL rfl rfl Tryz.underlying26 (f.ev rfl)) fun a f=>?_))
 obtain ⟨hk102,hM⟩:=chk_ex hM
 replace hk102:=mkB_t hk102
 refine op_newrowL (m:=x0.length) (ls:=List.replicate x0.length false) (e:=eB) rfl rfl f rfl S (run_makeL rfl (f.ev rfl) (f.ev rfl) Tryz.underlying26 inf4 eB_len rfl (by decide) hk102) List.length_replicate eB_len (by rw [List.length_replicate];omega) ?_;clear f S;intro a g101 u f S
 revert a;refine ag rfl rfl fun a f=>wn ?_
 refine ws ?_
 revert a;refine sr (ov rfl (fun a f=>run_assign rfl rfl) fun a f=>wn ?_)
 obtain ⟨o104,hM106,hM⟩:=bind_ex hM
 refine wp_cut (fun a u=>∃ (p103:List Bool),p103=o104∧x0.length=p103.length∧Fr a 22 [(2,.slice none 0 0),(3,.slice (some ⟨g101,0,none⟩) x0.length x0.length)]∧St w u [.row 4 1 (.slice (some ⟨g101,0,none⟩) x0.length x0.length) x0.length (p103.flatMap eB)]) ?_ ?_
 ·have _:=trivial
  refine wp_block ?_
  refine loop_gw (fun m a u=>∃ (p107:List Bool×Int),m_laws_toBoolS_l1 x0 m p107=some _∧x0.length=p107.1.length∧Fr a 22 [(0,.slice A0 x0.length c0),(2,.slice none 0 0),(3,.slice (some ⟨g101,0,none⟩) x0.length x0.length),(4,iv p107.2)]∧St w u [.row 4 1 (.slice (some ⟨g101,0,none⟩) x0.length x0.length) x0.length (p107.1.flatMap eB)]) FUEL ⟨(List.replicate x0.length false,0),hM106,List.length_replicate.symm,f.keep _ ⟨rfl,rfl,rfl,rfl,trivial⟩,S.sel [0] rfl rfl⟩ ?_
  clear f S hM106;rintro m a u ⟨p107,hM106,hn108,f,S⟩
  rcases m with _ | f1
  ·exact none_some hM106
  rw [m_laws_toBoolS_l1.eq_2] at hM106
  refine ws ?_
  revert a;refine sr (mv rfl rfl (mv rfl rfl (ov rfl (fun a f=>run_lenL rfl rfl Tryz.underlying26 (f.ev rfl)) (ov rfl (fun a f=>run_lss (f.ev rfl) (f.ev rfl) rfl) fun a f=>wn ?_))))
  cases hc109:(ltB p107.2 (x0.length:Int))
  ·replace hM106:=bif_f hc109 hM106
   refine cond_f f rfl hc109 ?_
   refine wp_exit ?_
   repeat with_reducible first|apply then_exit|apply in_hit|refine in_miss rfl ?_
   obtain rfl:=Option.some.inj hM106
   exact ⟨p107.1,rfl,hn108,f.keep _ ⟨rfl,rfl,trivial⟩,S.sel [0] rfl rfl⟩
  replace hM106:=bif_t hc109 hM106
  refine cond_t f rfl hc109 ?_
  refine wp_skip ?_
  refine ws ?_
  refine wp_block ?_
  revert a;refine rl (mv rfl rfl (mv rfl rfl (mv rfl rfl (mv rfl rfl fun a f=>?_))))
  obtain ⟨hk110,hM106⟩:=chk_ex hM106
  replace hk110:=ixB_t hk110
  revert a;refine ov rfl (fun a f=>run_ix rfl Tryz.underlying26 sz4 (f.ev rfl) (S.rc0 h0.rc) (f.ev rfl) hk110) (ov rfl (fun a f=>run_load1 rfl one4 (f.ev rfl) (rd_el0 (l:=x0) (S.rc0 h0.rc).rd rfl eB_len false (ix_ltn hk110 rfl) rfl)) fun a f=>?_)
  obtain ⟨hk111,hM106⟩:=chk_ex hM106
  replace hk111:=ixB_t hk111
  revert a;refine ov rfl (fun a f=>run_indexAddr (b:=adB (some ⟨g101,0,none⟩)) (off:=adO (some ⟨g101,0,none⟩)) rfl Tryz.underlying26 sz4 ((f.ev rfl).trans (congrArg (fun A=>Value.slice A x0.length x0.length) ((S.rc 0 rfl).rd.ad (ix_pos hk111)))) (f.ev rfl) hk111.1 hk111.2 (k':=adO (some ⟨g101,0,none⟩)+p107.2.toNat*1) rfl) fun a f=>?_
  obtain ⟨w',hrun,S'⟩:=run_storeElN (P:=Tryz.prog) (ρ:=a.eval) (y0:=(x0.getD p107.2.toNat false)) (off:=0) S 4 (.tmp 20) (.tmp 19) (i:=0) sz4 (f.ev rfl) (f.ev rfl) rfl rfl rfl rfl hn108 eB_len false (ix_ltn hk111 hn108) rfl rfl
  refine op_do rfl rfl (hrun _ rfl) ?_;clear hrun S;have S:=S';clear S';generalize w'=u at S ⊢
  refine wn ?_
  revert a;refine rl (mv rfl rfl (ov rfl (fun a f=>run_add (z:=w64 (p107.2+1)) (f.ev rfl) rfl rfl rfl) (ag rfl rfl fun a f=>wn ?_)))
  exact ⟨f1,Nat.lt_succ_self _,(p107.1.set p107.2.toNat (x0.getD p107.2.toNat false),w64 (p107.2+1)),hM106,(len_set hn108),f.keep _ ⟨rfl,rfl,rfl,rfl,trivial⟩,S.sel [0] rfl rfl⟩
 rintro a u ⟨p103,rfl,hn105,f,S⟩
 revert a;refine sr (mv rfl rfl (ag rfl rfl fun a f=>wn ?_))
 refine wp_ret ?_
 refine ret1_gw (.inl rfl) f rfl (res_tmp (f.ev rfl)) ?_
 obtain rfl:=Option.some.inj hM
 exact ⟨(some ⟨g101,0,none⟩),x0.length,x0.length,rfl,hn105,S.sel [0] rfl rfl⟩
theorem c_laws_toPermit {x0:Int} {x1:Int} {w:World} {r:Int×Int}  (hM : m_laws_toPermit x0 x1=some r) :
  Calls Tryz.prog 108 #[.agg #[iv x0,iv x1]] w (fun e w'=>e=.returned (.agg #[iv r.1,iv r.2])∧St w w' []):=by
 unfold m_laws_toPermit at hM
 refine calls_gx Tryz.func108 Tryz.ntmps108 rfl rfl ?_
 intro a f
 have S:=St.nil w
 refine wsg ?_
 refine op_new (cs:=#[iv x0,iv x1]) rfl rfl f rfl S (run_box rfl (f.ev rfl) rfl) ?_;clear f S;intro a g101 u f S
 refine op_new (cs:=#[iv 0,iv 0]) rfl rfl f rfl S (run_allocZ rfl zr78) ?_;clear f S;intro a g102 u f S
 refine wn ?_
 refine wsg ?_
 refine op_new (cs:=#[iv 0,iv 0]) rfl rfl f rfl S (run_allocZ rfl zr78) ?_;clear f S;intro a g103 u f S
 refine wn ?_
 revert a;refine sr (ov rfl (fun a f=>run_fieldAddr rfl fl143_0 (f.ev rfl) rfl) (ov rfl (fun a f=>run_load1 rfl one3 (f.ev rfl) (S.cell 2 rfl rfl)) (ov rfl (fun a f=>run_fieldAddr rfl fl78_0 (f.ev rfl) rfl) fun a f=>?_)))
 refine op_do rfl rfl (run_store (cs':=#[iv x0,iv 0]) rfl sz3 (f.ev rfl) (f.ev rfl) rfl rfl rfl (S.free 0 rfl) rfl rfl) ?_;replace S:=S.put 0 rfl (#[iv x0,iv 0])
 generalize World.setRow _ _ _=u at S ⊢
 refine wn ?_
 revert a;refine sr (ov rfl (fun a f=>run_fieldAddr rfl fl143_1 (f.ev rfl) rfl) (ov rfl (fun a f=>run_load1 rfl one3 (f.ev rfl) (S.cell 2 rfl rfl)) (ov rfl (fun a f=>run_fieldAddr rfl fl78_1 (f.ev rfl) rfl) fun a f=>?_)))
 refine op_do rfl rfl (run_store (cs':=#[iv x0,iv x1]) rfl sz3 (f.ev rfl) (f.ev rfl) rfl rfl rfl (S.free 0 rfl) rfl rfl) ?_;replace S:=S.put 0 rfl (#[iv x0,iv x1])
 generalize World.setRow _ _ _=u at S ⊢
 refine wn ?_
 revert a;refine sr (ov rfl (fun a f=>run_loadN rfl ag78 (f.ev rfl) rfl ((S.free 0 rfl).cells 0 #[iv x0,iv x1] rfl)) fun a f=>?_)
 refine op_do rfl rfl (run_store (cs':=#[iv x0,iv x1]) rfl sz78 (f.ev rfl) (f.ev rfl) rfl rfl rfl (S.free 1 rfl) rfl rfl) ?_;replace S:=S.put 1 rfl (#[iv x0,iv x1])
 generalize World.setRow _ _ _=u at S ⊢
 refine wn ?_
 refine wp_ret ?_
 refine ret1_gw (.inl rfl) f rfl (res_cell (f.ev rfl) (res_loadN ag78 rfl (S.cells 1 rfl 0 #[iv x0,iv x1] rfl))) ?_
 obtain rfl:=Option.some.inj hM
 exact ⟨rfl,S.sel [] rfl rfl⟩
theorem c_laws_toPermitS {x0:List (Int×Int)} {A0:Option Addr} {n0 c0:Nat} {w:World} {r:List (Int×Int)} (h0:Rt w 2 eLPermit A0 n0 c0 x0) (hM : m_laws_toPermitS x0=some r) :
  Calls Tryz.prog 73 #[.slice A0 n0 c0] w (fun e w'=>∃ (B0:Option Addr) (N0 D0:Nat),e=.returned (.slice B0 N0 D0)∧N0=r.length∧St w w' [.row 78 2 (.slice B0 N0 D0) N0 (r.flatMap ePermit)]):=by
 obtain rfl:=h0.len
 unfold m_laws_toPermitS at hM
 refine calls_gx Tryz.func73 Tryz.ntmps73 rfl rfl ?_
 intro a f
 have S:=St.nil w
 revert a;refine sr (ov rfl (fun a f=>run_assign rfl rfl) fun a f=>wn ?_)
 revert a;refine sr (mv rfl rfl (ov rfl (fun a f=>run_lenL rfl rfl Tryz.underlying27 (f.ev rfl)) fun a f=>?_))
 obtain ⟨hk102,hM⟩:=chk_ex hM
 replace hk102:=mkB_t hk102
 refine op_newrowL (m:=x0.length) (ls:=List.replicate x0.length (0,0)) (e:=ePermit) rfl rfl f rfl S (run_makeL rfl (f.ev rfl) (f.ev rfl) Tryz.underlying39 inf78 ePermit_len rfl (by decide) hk102) List.length_replicate ePermit_len (by rw [List.length_replicate];omega) ?_;clear f S;intro a g101 u f S
 revert a;refine ag rfl rfl fun a f=>wn ?_
 refine ws ?_
 revert a;refine sr (ov rfl (fun a f=>run_assign rfl rfl) fun a f=>wn ?_)
 obtain ⟨o104,hM106,hM⟩:=bind_ex hM
 refine wp_cut (fun a u=>∃ (p103:List (Int×Int)),p103=o104∧x0.length=p103.length∧Fr a 23 [(2,.slice none 0 0),(3,.slice (some ⟨g101,0,none⟩) x0.length x0.length)]∧St w u [.row 78 2 (.slice (some ⟨g101,0,none⟩) x0.length x0.length) x0.length (p103.flatMap ePermit)]) ?_ ?_
 ·have _:=trivial
  refine wp_block ?_
  refine loop_gw (fun m a u=>∃ (p107:List (Int×Int)×Int),m_laws_toPermitS_l1 x0 m p107=some _∧x0.length=p107.1.length∧Fr a 23 [(0,.slice A0 x0.length c0),(2,.slice none 0 0),(3,.slice (some ⟨g101,0,none⟩) x0.length x0.length),(4,iv p107.2)]∧St w u [.row 78 2 (.slice (some ⟨g101,0,none⟩) x0.length x0.length) x0.length (p107.1.flatMap ePermit)]) FUEL ⟨(List.replicate x0.length (0,0),0),hM106,List.length_replicate.symm,f.keep _ ⟨rfl,rfl,rfl,rfl,trivial⟩,S.sel [0] rfl rfl⟩ ?_
  clear f S hM106;rintro m a u ⟨p107,hM106,hn108,f,S⟩
  rcases m with _ | f1
  ·exact none_some hM106
  rw [m_laws_toPermitS_l1.eq_2] at hM106
  refine ws ?_
  revert a;refine sr (mv rfl rfl (mv rfl rfl (ov rfl (fun a f=>run_lenL rfl rfl Tryz.underlying27 (f.ev rfl)) (ov rfl (fun a f=>run_lss (f.ev rfl) (f.ev rfl) rfl) fun a f=>wn ?_))))
  cases hc109:(ltB p107.2 (x0.length:Int))
  ·replace hM106:=bif_f hc109 hM106
   refine cond_f f rfl hc109 ?_
   refine wp_exit ?_
   repeat with_reducible first|apply then_exit|apply in_hit|refine in_miss rfl ?_
   obtain rfl:=Option.some.inj hM106
   exact ⟨p107.1,rfl,hn108,f.keep _ ⟨rfl,rfl,trivial⟩,S.sel [0] rfl rfl⟩
  replace hM106:=bif_t hc109 hM106
  refine cond_t f rfl hc109 ?_
  refine wp_skip ?_
  refine ws ?_
  refine wp_block ?_
  revert a;refine rl (mv rfl rfl (mv rfl rfl (mv rfl rfl (mv rfl rfl fun a f=>?_))))
  obtain ⟨hk110,hM106⟩:=chk_ex hM106
  replace hk110:=ixB_t hk110
  revert a;refine ov rfl (fun a f=>run_ix rfl Tryz.underlying27 sz143 (f.ev rfl) (S.rc0 h0.rc) (f.ev rfl) hk110) (ov rfl (fun a f=>run_loadN (cs:=#[iv ((x0.getD p107.2.toNat (0,0)).1),iv ((x0.getD p107.2.toNat (0,0)).2)]) rfl ag143 (f.ev rfl) rfl (rd_elN (l:=x0) (S.rc0 h0.rc).rd rfl eLPermit_len (0,0) (ix_ltn hk110 rfl) rfl)) fun a f=>?_)
  obtain ⟨p111,h111,hM106⟩:=bind_ex hM106
  refine op_call rfl rfl f rfl (run_call (vs:=[_]) rfl rfl co108 ⟨(f.ev rfl),trivial⟩) (c_laws_toPermit  h111) ?_
  rintro e u ⟨rfl,T⟩
  refine ⟨_,rfl,?_⟩
  clear f;intro a f
  replace S:=S.call0 T;clear T
  obtain ⟨hk112,hM106⟩:=chk_ex hM106
  replace hk112:=ixB_t hk112
  revert a;refine ov rfl (fun a f=>run_indexAddr (b:=adB (some ⟨g101,0,none⟩)) (off:=adO (some ⟨g101,0,none⟩)) rfl Tryz.underlying39 sz78 ((f.ev rfl).trans (congrArg (fun A=>Value.slice A x0.length x0.length) ((S.rc 0 rfl).rd.ad (ix_pos hk112)))) (f.ev rfl) hk112.1 hk112.2 (k':=adO (some ⟨g101,0,none⟩)+p107.2.toNat*2) rfl) fun a f=>?_
  obtain ⟨w',hrun,S'⟩:=run_storeElN (P:=Tryz.prog) (ρ:=a.eval) (y0:=(p111.1,p111.2)) (off:=0) S 78 (.tmp 21) (.tmp 20) (i:=0) sz78 (f.ev rfl) (f.ev rfl) rfl rfl rfl rfl hn108 ePermit_len (0,0) (ix_ltn hk112 hn108) rfl rfl
  refine op_do rfl rfl (hrun _ rfl) ?_;clear hrun S;have S:=S';clear S';generalize w'=u at S ⊢
  refine wn ?_
  revert a;refine rl (mv rfl rfl (ov rfl (fun a f=>run_add (z:=w64 (p107.2+1)) (f.ev rfl) rfl rfl rfl) (ag rfl rfl fun a f=>wn ?_)))
  exact ⟨f1,Nat.lt_succ_self _,(p107.1.set p107.2.toNat (p111.1,p111.2),w64 (p107.2+1)),hM106,(len_set hn108),f.keep _ ⟨rfl,rfl,rfl,rfl,trivial⟩,S.sel [0] rfl rfl⟩
 rintro a u ⟨p103,rfl,hn105,f,S⟩
 revert a;refine sr (mv rfl rfl (ag rfl rfl fun a f=>wn ?_))
 refine wp_ret ?_
 refine ret1_gw (.inl rfl) f rfl (res_tmp (f.ev rfl)) ?_
 obtain rfl:=Option.some.inj hM
 exact ⟨(some ⟨g101,0,none⟩),x0.length,x0.length,rfl,hn105,S.sel [0] rfl rfl⟩
theorem c_laws_toWork {x0:List Bool} {x1:List Bool} {x2:List (Int×Int)} {A0:Option Addr} {n0 c0:Nat} {A1:Option Addr} {n1 c1:Nat} {A2:Option Addr} {n2 c2:Nat} {w:World} {r:List Bool×List Bool×List (Int×Int)} (h0:Rt w 1 eB A0 n0 c0 x0) (h1:Rt w 1 eB A1 n1 c1 x1) (h2:Rt w 2 eLPermit A2 n2 c2 x2) (hM : m_laws_toWork x0 x1 x2=some r) :
  Calls Tryz.prog 33 #[.agg #[.slice A0 n0 c0,.slice A1 n1 c1,.slice A2 n2 c2]] w (fun e w'=>∃ (B0:Option Addr) (N0 D0:Nat) (B1:Option Addr) (N1 D1:Nat) (B2:Option Addr) (N2 D2:Nat),e=.returned (.agg #[.slice B0 N0 D0,.slice B1 N1 D1,.slice B2 N2 D2])∧N0=r.1.length∧N1=r.2.1.length∧N2=r.2.2.length∧St w w' [.row 4 1 (.slice B0 N0 D0) N0 (r.1.flatMap eB),.row 4 1 (.slice B1 N1 D1) N1 (r.2.1.flatMap eB),.row 78 2 (.slice B2 N2 D2) N2 (r.2.2.flatMap ePermit)]):=by
 obtain rfl:=h0.len
 obtain rfl:=h1.len
 obtain rfl:=h2.len
 unfold m_laws_toWork at hM
 refine calls_gx Tryz.func33 Tryz.ntmps33 rfl rfl ?_
 intro a f
 have S:=St.nil w
 refine wsg ?_
 refine op_new (cs:=#[.slice A0 x0.length c0,.slice A1 x1.length c1,.slice A2 x2.length c2]) rfl rfl f rfl S (run_box rfl (f.ev rfl) rfl) ?_;clear f S;intro a g101 u f S
 refine op_new (cs:=#[.slice none 0 0,.slice none 0 0,.slice none 0 0]) rfl rfl f rfl S (run_allocZ rfl zr41) ?_;clear f S;intro a g102 u f S
 refine wn ?_
 refine wsg ?_
 refine op_new (cs:=#[.slice none 0 0,.slice none 0 0,.slice none 0 0]) rfl rfl f rfl S (run_allocZ rfl zr41) ?_;clear f S;intro a g103 u f S
 refine wn ?_
 revert a;refine sr (ov rfl (fun a f=>run_fieldAddr rfl fl29_0 (f.ev rfl) rfl) (ov rfl (fun a f=>run_load1 rfl one26 (f.ev rfl) (S.cell 2 rfl rfl)) fun a f=>?_))
 obtain ⟨p104,h104,hM⟩:=bind_ex hM
 refine op_call rfl rfl f rfl (run_call (vs:=[_]) rfl rfl co72 ⟨(f.ev rfl),trivial⟩) (c_laws_toBoolS ⟨(S.rc0 h0.rc),rfl⟩ h104) ?_
 rintro e u ⟨B105,n106,d107,rfl,rfl,T⟩
 refine ⟨_,rfl,?_⟩
 clear f;intro a f
 replace S:=S.call1 T;clear T
 revert a;refine ov rfl (fun a f=>run_fieldAddr rfl fl41_0 (f.ev rfl) rfl) fun a f=>?_
 refine op_do rfl rfl (run_store (cs':=#[.slice B105 p104.length d107,.slice none 0 0,.slice none 0 0]) rfl sz26 (f.ev rfl) (f.ev rfl) rfl rfl rfl (S.free 1 rfl) rfl rfl) ?_;replace S:=S.put 1 rfl (#[.slice B105 p104.length d107,.slice none 0 0,.slice none 0 0])
 generalize World.setRow _ _ _=u at S ⊢
 refine wn ?_
 revert a;refine sr (ov rfl (fun a f=>run_fieldAddr rfl fl29_1 (f.ev rfl) rfl) (ov rfl (fun a f=>run_load1 rfl one26 (f.ev rfl) (S.cell 3 rfl rfl)) fun a f=>?_))
 obtain ⟨p108,h108,hM⟩:=bind_ex hM
 refine op_call rfl rfl f rfl (run_call (vs:=[_]) rfl rfl co72 ⟨(f.ev rfl),trivial⟩) (c_laws_toBoolS ⟨(S.rc0 h1.rc),rfl⟩ h108) ?_
 rintro e u ⟨B109,n110,d111,rfl,rfl,T⟩
 refine ⟨_,rfl,?_⟩
 clear f;intro a f
 replace S:=S.call1 T;clear T
 revert a;refine ov rfl (fun a f=>run_fieldAddr rfl fl41_1 (f.ev rfl) rfl) fun a f=>?_
 refine op_do rfl rfl (run_store (cs':=#[.slice B105 p104.length d107,.slice B109 p108.length d111,.slice none 0 0]) rfl sz26 (f.ev rfl) (f.ev rfl) rfl rfl rfl (S.free 2 rfl) rfl rfl) ?_;replace S:=S.put 2 rfl (#[.slice B105 p104.length d107,.slice B109 p108.length d111,.slice none 0 0])
 generalize World.setRow _ _ _=u at S ⊢
 refine wn ?_
 revert a;refine sr (ov rfl (fun a f=>run_fieldAddr rfl fl29_2 (f.ev rfl) rfl) (ov rfl (fun a f=>run_load1 rfl one27 (f.ev rfl) (S.cell 4 rfl rfl)) fun a f=>?_))
 obtain ⟨p112,h112,hM⟩:=bind_ex hM
 refine op_call rfl rfl f rfl (run_call (vs:=[_]) rfl rfl co73 ⟨(f.ev rfl),trivial⟩) (c_laws_toPermitS ⟨(S.rc0 h2.rc),rfl⟩ h112) ?_
 rintro e u ⟨B113,n114,d115,rfl,rfl,T⟩
 refine ⟨_,rfl,?_⟩
 clear f;intro a f
 replace S:=S.call1 T;clear T
 revert a;refine ov rfl (fun a f=>run_fieldAddr rfl fl41_2 (f.ev rfl) rfl) fun a f=>?_
 refine op_do rfl rfl (run_store (cs':=#[.slice B105 p104.length d107,.slice B109 p108.length d111,.slice B113 p112.length d115]) rfl sz39 (f.ev rfl) (f.ev rfl) rfl rfl rfl (S.free 3 rfl) rfl rfl) ?_;replace S:=S.put 3 rfl (#[.slice B105 p104.length d107,.slice B109 p108.length d111,.slice B113 p112.length d115])
 generalize World.setRow _ _ _=u at S ⊢
 refine wn ?_
 revert a;refine sr (ov rfl (fun a f=>run_loadN rfl ag41 (f.ev rfl) rfl ((S.free 3 rfl).cells 0 #[.slice B105 p104.length d107,.slice B109 p108.length d111,.slice B113 p112.length d115] rfl)) fun a f=>?_)
 refine op_do rfl rfl (run_store (cs':=#[.slice B105 p104.length d107,.slice B109 p108.length d111,.slice B113 p112.length d115]) rfl sz41 (f.ev rfl) (f.ev rfl) rfl rfl rfl (S.free 4 rfl) rfl rfl) ?_;replace S:=S.put 4 rfl (#[.slice B105 p104.length d107,.slice B109 p108.length d111,.slice B113 p112.length d115])
 generalize World.setRow _ _ _=u at S ⊢
 refine wn ?_
 refine wp_ret ?_
 refine ret1_gw (.inl rfl) f rfl (res_cell (f.ev rfl) (res_loadN ag41 rfl (S.cells 4 rfl 0 #[.slice B105 p104.length d107,.slice B109 p108.length d111,.slice B113 p112.length d115] rfl))) ?_
 obtain rfl:=Option.some.inj hM
 exact ⟨B105,p104.length,d107,B109,p108.length,d111,B113,p112.length,d115,rfl,rfl,rfl,rfl,S.sel [2,1,0] rfl rfl⟩
theorem c_laws_toIntS {x0:List Int} {A0:Option Addr} {n0 c0:Nat} {w:World} {r:List Int} (h0:Rt w 1 eI A0 n0 c0 x0) (hM : m_laws_toIntS x0=some r) :
  Calls Tryz.prog 34 #[.slice A0 n0 c0] w (fun e w'=>∃ (B0:Option Addr) (N0 D0:Nat),e=.returned (.slice B0 N0 D0)∧N0=r.length∧St w w' [.row 3 1 (.slice B0 N0 D0) N0 (r.flatMap eI)]):=by
 obtain rfl:=h0.len
 unfold m_laws_toIntS at hM
 refine calls_gx Tryz.func34 Tryz.ntmps34 rfl rfl ?_
 intro a f
 have S:=St.nil w
 revert a;refine sr (ov rfl (fun a f=>run_assign rfl rfl) fun a f=>wn ?_)
 revert a;refine sr (mv rfl rfl (ov rfl (fun a f=>run_lenL rfl rfl Tryz.underlying30 (f.ev rfl)) fun a f=>?_))
 obtain ⟨hk102,hM⟩:=chk_ex hM
 replace hk102:=mkB_t hk102
 refine op_newrowL (m:=x0.length) (ls:=List.replicate x0.length 0) (e:=eI) rfl rfl f rfl S (run_makeL rfl (f.ev rfl) (f.ev rfl) Tryz.underlying30 inf3 eI_len rfl (by decide) hk102) List.length_replicate eI_len (by rw [List.length_replicate];omega) ?_;clear f S;intro a g101 u f S
 revert a;refine ag rfl rfl fun a f=>wn ?_
 refine ws ?_
 revert a;refine sr (ov rfl (fun a f=>run_assign rfl rfl) fun a f=>wn ?_)
 obtain ⟨o104,hM106,hM⟩:=bind_ex hM
 refine wp_cut (fun a u=>∃ (p103:List Int),p103=o104∧x0.length=p103.length∧Fr a 22 [(2,.slice none 0 0),(3,.slice (some ⟨g101,0,none⟩) x0.length x0.length)]∧St w u [.row 3 1 (.slice (some ⟨g101,0,none⟩) x0.length x0.length) x0.length (p103.flatMap eI)]) ?_ ?_
 ·have _:=trivial
  refine wp_block ?_
  refine loop_gw (fun m a u=>∃ (p107:List Int×Int),m_laws_toIntS_l1 x0 m p107=some _∧x0.length=p107.1.length∧Fr a 22 [(0,.slice A0 x0.length c0),(2,.slice none 0 0),(3,.slice (some ⟨g101,0,none⟩) x0.length x0.length),(4,iv p107.2)]∧St w u [.row 3 1 (.slice (some ⟨g101,0,none⟩) x0.length x0.length) x0.length (p107.1.flatMap eI)]) FUEL ⟨(List.replicate x0.length 0,0),hM106,List.length_replicate.symm,f.keep _ ⟨rfl,rfl,rfl,rfl,trivial⟩,S.sel [0] rfl rfl⟩ ?_
  clear f S hM106;rintro m a u ⟨p107,hM106,hn108,f,S⟩
  rcases m with _ | f1
  ·exact none_some hM106
  rw [m_laws_toIntS_l1.eq_2] at hM106
  refine ws ?_
  revert a;refine sr (mv rfl rfl (mv rfl rfl (ov rfl (fun a f=>run_lenL rfl rfl Tryz.underlying30 (f.ev rfl)) (ov rfl (fun a f=>run_lss (f.ev rfl) (f.ev rfl) rfl) fun a f=>wn ?_))))
  cases hc109:(ltB p107.2 (x0.length:Int))
  ·replace hM106:=bif_f hc109 hM106
   refine cond_f f rfl hc109 ?_
   refine wp_exit ?_
   repeat with_reducible first|apply then_exit|apply in_hit|refine in_miss rfl ?_
   obtain rfl:=Option.some.inj hM106
   exact ⟨p107.1,rfl,hn108,f.keep _ ⟨rfl,rfl,trivial⟩,S.sel [0] rfl rfl⟩
  replace hM106:=bif_t hc109 hM106
  refine cond_t f rfl hc109 ?_
  refine wp_skip ?_
  refine ws ?_
  refine wp_block ?_
  revert a;refine rl (mv rfl rfl (mv rfl rfl (mv rfl rfl (mv rfl rfl fun a f=>?_))))
  obtain ⟨hk110,hM106⟩:=chk_ex hM106
  replace hk110:=ixB_t hk110
  revert a;refine ov rfl (fun a f=>run_ix rfl Tryz.underlying30 sz3 (f.ev rfl) (S.rc0 h0.rc) (f.ev rfl) hk110) (ov rfl (fun a f=>run_load1 rfl one3 (f.ev rfl) (rd_el0 (l:=x0) (S.rc0 h0.rc).rd rfl eI_len 0 (ix_ltn hk110 rfl) rfl)) fun a f=>?_)
  obtain ⟨hk111,hM106⟩:=chk_ex hM106
  replace hk111:=ixB_t hk111
  revert a;refine ov rfl (fun a f=>run_indexAddr (b:=adB (some ⟨g101,0,none⟩)) (off:=adO (some ⟨g101,0,none⟩)) rfl Tryz.underlying30 sz3 ((f.ev rfl).trans (congrArg (fun A=>Value.slice A x0.length x0.length) ((S.rc 0 rfl).rd.ad (ix_pos hk111)))) (f.ev rfl) hk111.1 hk111.2 (k':=adO (some ⟨g101,0,none⟩)+p107.2.toNat*1) rfl) fun a f=>?_
  obtain ⟨w',hrun,S'⟩:=run_storeElN (P:=Tryz.prog) (ρ:=a.eval) (y0:=(x0.getD p107.2.toNat 0)) (off:=0) S 3 (.tmp 20) (.tmp 19) (i:=0) sz3 (f.ev rfl) (f.ev rfl) rfl rfl rfl rfl hn108 eI_len 0 (ix_ltn hk111 hn108) rfl rfl
  refine op_do rfl rfl (hrun _ rfl) ?_;clear hrun S;have S:=S';clear S';generalize w'=u at S ⊢
  refine wn ?_
  revert a;refine rl (mv rfl rfl (ov rfl (fun a f=>run_add (z:=w64 (p107.2+1)) (f.ev rfl) rfl rfl rfl) (ag rfl rfl fun a f=>wn ?_)))
  exact ⟨f1,Nat.lt_succ_self _,(p107.1.set p107.2.toNat (x0.getD p107.2.toNat 0),w64 (p107.2+1)),hM106,(len_set hn108),f.keep _ ⟨rfl,rfl,rfl,rfl,trivial⟩,S.sel [0] rfl rfl⟩
 rintro a u ⟨p103,rfl,hn105,f,S⟩
 revert a;refine sr (mv rfl rfl (ag rfl rfl fun a f=>wn ?_))
 refine wp_ret ?_
 refine ret1_gw (.inl rfl) f rfl (res_tmp (f.ev rfl)) ?_
 obtain rfl:=Option.some.inj hM
 exact ⟨(some ⟨g101,0,none⟩),x0.length,x0.length,rfl,hn105,S.sel [0] rfl rfl⟩
theorem c_laws_toWorld {x0:Int} {x1:List (Int×Int×Int)} {x2:List (Int×Int)} {x3:List Bool} {x4:List Bool} {x5:List (Int×Int)} {x6:List Int} {A1:Option Addr} {n1 c1:Nat} {A2:Option Addr} {n2 c2:Nat} {A3:Option Addr} {n3 c3:Nat} {A4:Option Addr} {n4 c4:Nat} {A5:Option Addr} {n5 c5:Nat} {A6:Option Addr} {n6 c6:Nat} {w:World} {r:Int×List (Int×Int×Int)×List (Int×Int)×List Bool×List Bool×List (Int×Int)×List Int} (h1:Rt w 3 eLLine A1 n1 c1 x1) (h2:Rt w 2 eLBus A2 n2 c2 x2) (h3:Rt w 1 eB A3 n3 c3 x3) (h4:Rt w 1 eB A4 n4 c4 x4) (h5:Rt w 2 eLPermit A5 n5 c5 x5) (h6:Rt w 1 eI A6 n6 c6 x6) (hM : m_laws_toWorld x0 x1 x2 x3 x4 x5 x6=some r) :
  Calls Tryz.prog 9 #[.agg #[iv x0,.slice A1 n1 c1,.slice A2 n2 c2,.slice A3 n3 c3,.slice A4 n4 c4,.slice A5 n5 c5,.slice A6 n6 c6]] w (fun e w'=>∃ (B0:Option Addr) (N0 D0:Nat) (B1:Option Addr) (N1 D1:Nat) (B2:Option Addr) (N2 D2:Nat) (B3:Option Addr) (N3 D3:Nat) (B4:Option Addr) (N4 D4:Nat) (B5:Option Addr) (N5 D5:Nat),e=.returned (.agg #[iv r.1,.slice B0 N0 D0,.slice B1 N1 D1,.slice B2 N2 D2,.slice B3 N3 D3,.slice B4 N4 D4,.slice B5 N5 D5])∧N0=r.2.1.length∧N1=r.2.2.1.length∧N2=r.2.2.2.1.length∧N3=r.2.2.2.2.1.length∧N4=r.2.2.2.2.2.1.length∧N5=r.2.2.2.2.2.2.length∧St w w' [.row 130 3 (.slice B0 N0 D0) N0 (r.2.1.flatMap eLine),.row 110 2 (.slice B1 N1 D1) N1 (r.2.2.1.flatMap eBus),.row 4 1 (.slice B2 N2 D2) N2 (r.2.2.2.1.flatMap eB),.row 4 1 (.slice B3 N3 D3) N3 (r.2.2.2.2.1.flatMap eB),.row 78 2 (.slice B4 N4 D4) N4 (r.2.2.2.2.2.1.flatMap ePermit),.row 3 1 (.slice B5 N5 D5) N5 (r.2.2.2.2.2.2.flatMap eI)]):=by
 obtain rfl:=h1.len
 obtain rfl:=h2.len
 obtain rfl:=h3.len
 obtain rfl:=h4.len
 obtain rfl:=h5.len
 obtain rfl:=h6.len
 unfold m_laws_toWorld at hM
 refine calls_gx Tryz.func9 Tryz.ntmps9 rfl rfl ?_
 intro a f
 have S:=St.nil w
 refine wsg ?_
 refine op_new (cs:=#[iv x0,.slice A1 x1.length c1,.slice A2 x2.length c2,.slice A3 x3.length c3,.slice A4 x4.length c4,.slice A5 x5.length c5,.slice A6 x6.length c6]) rfl rfl f rfl S (run_box rfl (f.ev rfl) rfl) ?_;clear f S;intro a g101 u f S
 refine op_new (cs:=#[iv 0,.slice none 0 0,.slice none 0 0,.slice none 0 0,.slice none 0 0,.slice none 0 0,.slice none 0 0]) rfl rfl f rfl S (run_allocZ rfl zr43) ?_;clear f S;intro a g102 u f S
 refine wn ?_
 refine wsg ?_
 refine op_new (cs:=#[iv 0,.slice none 0 0,.slice none 0 0,.slice none 0 0,.slice none 0 0,.slice none 0 0,.slice none 0 0]) rfl rfl f rfl S (run_allocZ rfl zr43) ?_;clear f S;intro a g103 u f S
 refine wn ?_
 revert a;refine sr (ov rfl (fun a f=>run_fieldAddr rfl fl32_0 (f.ev rfl) rfl) (ov rfl (fun a f=>run_loadN rfl ag24 (f.ev rfl) rfl ((S.free 2 rfl).cells 0 #[iv x0,.slice A1 x1.length c1] rfl)) fun a f=>?_))
 obtain ⟨p104,h104,hM⟩:=bind_ex hM
 refine op_call rfl rfl f rfl (run_call (vs:=[_]) rfl rfl co31 ⟨(f.ev rfl),trivial⟩) (c_laws_toNet ⟨(S.rc0 h1.rc),rfl⟩ h104) ?_
 rintro e u ⟨B105,n106,d107,rfl,rfl,T⟩
 refine ⟨_,rfl,?_⟩
 clear f;intro a f
 replace S:=S.call1 T;clear T
 revert a;refine ov rfl (fun a f=>run_fieldAddr rfl fl43_0 (f.ev rfl) rfl) fun a f=>?_
 refine op_do rfl rfl (run_store (cs':=#[iv p104.1,.slice B105 p104.2.length d107,.slice none 0 0,.slice none 0 0,.slice none 0 0,.slice none 0 0,.slice none 0 0]) rfl sz37 (f.ev rfl) (f.ev rfl) rfl rfl rfl (S.free 1 rfl) rfl rfl) ?_;replace S:=S.put 1 rfl (#[iv p104.1,.slice B105 p104.2.length d107,.slice none 0 0,.slice none 0 0,.slice none 0 0,.slice none 0 0,.slice none 0 0])
 generalize World.setRow _ _ _=u at S ⊢
 refine wn ?_
 revert a;refine sr (ov rfl (fun a f=>run_fieldAddr rfl fl32_1 (f.ev rfl) rfl) (ov rfl (fun a f=>run_load1 rfl one25 (f.ev rfl) (S.cell 3 rfl rfl)) fun a f=>?_))
 obtain ⟨p108,h108,hM⟩:=bind_ex hM
 refine op_call rfl rfl f rfl (run_call (vs:=[_]) rfl rfl co32 ⟨(f.ev rfl),trivial⟩) (c_laws_toBusS ⟨(S.rc0 h2.rc),rfl⟩ h108) ?_
 rintro e u ⟨B109,n110,d111,rfl,rfl,T⟩
 refine ⟨_,rfl,?_⟩
 clear f;intro a f
 replace S:=S.call1 T;clear T
 revert a;refine ov rfl (fun a f=>run_fieldAddr rfl fl43_1 (f.ev rfl) rfl) fun a f=>?_
 refine op_do rfl rfl (run_store (cs':=#[iv p104.1,.slice B105 p104.2.length d107,.slice B109 p108.length d111,.slice none 0 0,.slice none 0 0,.slice none 0 0,.slice none 0 0]) rfl sz38 (f.ev rfl) (f.ev rfl) rfl rfl rfl (S.free 2 rfl) rfl rfl) ?_;replace S:=S.put 2 rfl (#[iv p104.1,.slice B105 p104.2.length d107,.slice B109 p108.length d111,.slice none 0 0,.slice none 0 0,.slice none 0 0,.slice none 0 0])
 generalize World.setRow _ _ _=u at S ⊢
 refine wn ?_
 revert a;refine sr (ov rfl (fun a f=>run_fieldAddr rfl fl32_2 (f.ev rfl) rfl) (ov rfl (fun a f=>run_loadN rfl ag29 (f.ev rfl) rfl ((S.free 4 rfl).cells 3 #[.slice A3 x3.length c3,.slice A4 x4.length c4,.slice A5 x5.length c5] rfl)) fun a f=>?_))
 obtain ⟨p112,h112,hM⟩:=bind_ex hM
 refine op_call rfl rfl f rfl (run_call (vs:=[_]) rfl rfl co33 ⟨(f.ev rfl),trivial⟩) (c_laws_toWork ⟨(S.rc0 h3.rc),rfl⟩ ⟨(S.rc0 h4.rc),rfl⟩ ⟨(S.rc0 h5.rc),rfl⟩ h112) ?_
 rintro e u ⟨B113,n114,d115,B116,n117,d118,B119,n120,d121,rfl,rfl,rfl,rfl,T⟩
 refine ⟨_,rfl,?_⟩
 clear f;intro a f
 replace S:=S.call3 T;clear T
 revert a;refine ov rfl (fun a f=>run_fieldAddr rfl fl43_2 (f.ev rfl) rfl) fun a f=>?_
 refine op_do rfl rfl (run_store (cs':=#[iv p104.1,.slice B105 p104.2.length d107,.slice B109 p108.length d111,.slice B113 p112.1.length d115,.slice B116 p112.2.1.length d118,.slice B119 p112.2.2.length d121,.slice none 0 0]) rfl sz41 (f.ev rfl) (f.ev rfl) rfl rfl rfl (S.free 5 rfl) rfl rfl) ?_;replace S:=S.put 5 rfl (#[iv p104.1,.slice B105 p104.2.length d107,.slice B109 p108.length d111,.slice B113 p112.1.length d115,.slice B116 p112.2.1.length d118,.slice B119 p112.2.2.length d121,.slice none 0 0])
 generalize World.setRow _ _ _=u at S ⊢
 refine wn ?_
 revert a;refine sr (ov rfl (fun a f=>run_fieldAddr rfl fl32_3 (f.ev rfl) rfl) (ov rfl (fun a f=>run_load1 rfl one30 (f.ev rfl) (S.cell 7 rfl rfl)) fun a f=>?_))
 obtain ⟨p122,h122,hM⟩:=bind_ex hM
 refine op_call rfl rfl f rfl (run_call (vs:=[_]) rfl rfl co34 ⟨(f.ev rfl),trivial⟩) (c_laws_toIntS ⟨(S.rc0 h6.rc),rfl⟩ h122) ?_
 rintro e u ⟨B123,n124,d125,rfl,rfl,T⟩
 refine ⟨_,rfl,?_⟩
 clear f;intro a f
 replace S:=S.call1 T;clear T
 revert a;refine ov rfl (fun a f=>run_fieldAddr rfl fl43_3 (f.ev rfl) rfl) fun a f=>?_
 refine op_do rfl rfl (run_store (cs':=#[iv p104.1,.slice B105 p104.2.length d107,.slice B109 p108.length d111,.slice B113 p112.1.length d115,.slice B116 p112.2.1.length d118,.slice B119 p112.2.2.length d121,.slice B123 p122.length d125]) rfl sz30 (f.ev rfl) (f.ev rfl) rfl rfl rfl (S.free 6 rfl) rfl rfl) ?_;replace S:=S.put 6 rfl (#[iv p104.1,.slice B105 p104.2.length d107,.slice B109 p108.length d111,.slice B113 p112.1.length d115,.slice B116 p112.2.1.length d118,.slice B119 p112.2.2.length d121,.slice B123 p122.length d125])
 generalize World.setRow _ _ _=u at S ⊢
 refine wn ?_
 revert a;refine sr (ov rfl (fun a f=>run_loadN rfl ag43 (f.ev rfl) rfl ((S.free 6 rfl).cells 0 #[iv p104.1,.slice B105 p104.2.length d107,.slice B109 p108.length d111,.slice B113 p112.1.length d115,.slice B116 p112.2.1.length d118,.slice B119 p112.2.2.length d121,.slice B123 p122.length d125] rfl)) fun a f=>?_)
 refine op_do rfl rfl (run_store (cs':=#[iv p104.1,.slice B105 p104.2.length d107,.slice B109 p108.length d111,.slice B113 p112.1.length d115,.slice B116 p112.2.1.length d118,.slice B119 p112.2.2.length d121,.slice B123 p122.length d125]) rfl sz43 (f.ev rfl) (f.ev rfl) rfl rfl rfl (S.free 7 rfl) rfl rfl) ?_;replace S:=S.put 7 rfl (#[iv p104.1,.slice B105 p104.2.length d107,.slice B109 p108.length d111,.slice B113 p112.1.length d115,.slice B116 p112.2.1.length d118,.slice B119 p112.2.2.length d121,.slice B123 p122.length d125])
 generalize World.setRow _ _ _=u at S ⊢
 refine wn ?_
 refine wp_ret ?_
 refine ret1_gw (.inl rfl) f rfl (res_cell (f.ev rfl) (res_loadN ag43 rfl (S.cells 7 rfl 0 #[iv p104.1,.slice B105 p104.2.length d107,.slice B109 p108.length d111,.slice B113 p112.1.length d115,.slice B116 p112.2.1.length d118,.slice B119 p112.2.2.length d121,.slice B123 p122.length d125] rfl))) ?_
 obtain rfl:=Option.some.inj hM
 exact ⟨B105,p104.2.length,d107,B109,p108.length,d111,B113,p112.1.length,d115,B116,p112.2.1.length,d118,B119,p112.2.2.length,d121,B123,p122.length,d125,rfl,rfl,rfl,rfl,rfl,rfl,rfl,S.sel [5,4,1,2,3,0] rfl rfl⟩
theorem c_laws_toWorkDeed {x0:Int} {x1:Int} {x2:Int} {w:World} {r:Int×Int×Int}  (hM : m_laws_toWorkDeed x0 x1 x2=some r) :
  Calls Tryz.prog 19 #[.agg #[iv x0,iv x1,iv x2]] w (fun e w'=>e=.returned (.agg #[iv r.1,iv r.2.1,iv r.2.2])∧St w w' []):=by
 unfold m_laws_toWorkDeed at hM
 refine calls_gx Tryz.func19 Tryz.ntmps19 rfl rfl ?_
 intro a f
 have S:=St.nil w
 refine wsg ?_
 refine op_new (cs:=#[iv x0,iv x1,iv x2]) rfl rfl f rfl S (run_box rfl (f.ev rfl) rfl) ?_;clear f S;intro a g101 u f S
 refine op_new (cs:=#[iv 0,iv 0,iv 0]) rfl rfl f rfl S (run_allocZ rfl zr56) ?_;clear f S;intro a g102 u f S
 refine wn ?_
 refine wsg ?_
 refine op_new (cs:=#[iv 0,iv 0,iv 0]) rfl rfl f rfl S (run_allocZ rfl zr56) ?_;clear f S;intro a g103 u f S
 refine wn ?_
 revert a;refine sr (ov rfl (fun a f=>run_fieldAddr rfl fl53_0 (f.ev rfl) rfl) (ov rfl (fun a f=>run_load1 rfl one3 (f.ev rfl) (S.cell 2 rfl rfl)) (ov rfl (fun a f=>run_fieldAddr rfl fl56_0 (f.ev rfl) rfl) fun a f=>?_)))
 refine op_do rfl rfl (run_store (cs':=#[iv x0,iv 0,iv 0]) rfl sz3 (f.ev rfl) (f.ev rfl) rfl rfl rfl (S.free 0 rfl) rfl rfl) ?_;replace S:=S.put 0 rfl (#[iv x0,iv 0,iv 0])
 generalize World.setRow _ _ _=u at S ⊢
 refine wn ?_
 revert a;refine sr (ov rfl (fun a f=>run_fieldAddr rfl fl53_1 (f.ev rfl) rfl) (ov rfl (fun a f=>run_load1 rfl one3 (f.ev rfl) (S.cell 2 rfl rfl)) (ov rfl (fun a f=>run_fieldAddr rfl fl56_1 (f.ev rfl) rfl) fun a f=>?_)))
 refine op_do rfl rfl (run_store (cs':=#[iv x0,iv x1,iv 0]) rfl sz3 (f.ev rfl) (f.ev rfl) rfl rfl rfl (S.free 0 rfl) rfl rfl) ?_;replace S:=S.put 0 rfl (#[iv x0,iv x1,iv 0])
 generalize World.setRow _ _ _=u at S ⊢
 refine wn ?_
 revert a;refine sr (ov rfl (fun a f=>run_fieldAddr rfl fl53_2 (f.ev rfl) rfl) (ov rfl (fun a f=>run_load1 rfl one3 (f.ev rfl) (S.cell 2 rfl rfl)) (ov rfl (fun a f=>run_fieldAddr rfl fl56_2 (f.ev rfl) rfl) fun a f=>?_)))
 refine op_do rfl rfl (run_store (cs':=#[iv x0,iv x1,iv x2]) rfl sz3 (f.ev rfl) (f.ev rfl) rfl rfl rfl (S.free 0 rfl) rfl rfl) ?_;replace S:=S.put 0 rfl (#[iv x0,iv x1,iv x2])
 generalize World.setRow _ _ _=u at S ⊢
 refine wn ?_
 revert a;refine sr (ov rfl (fun a f=>run_loadN rfl ag56 (f.ev rfl) rfl ((S.free 0 rfl).cells 0 #[iv x0,iv x1,iv x2] rfl)) fun a f=>?_)
 refine op_do rfl rfl (run_store (cs':=#[iv x0,iv x1,iv x2]) rfl sz56 (f.ev rfl) (f.ev rfl) rfl rfl rfl (S.free 1 rfl) rfl rfl) ?_;replace S:=S.put 1 rfl (#[iv x0,iv x1,iv x2])
 generalize World.setRow _ _ _=u at S ⊢
 refine wn ?_
 refine wp_ret ?_
 refine ret1_gw (.inl rfl) f rfl (res_cell (f.ev rfl) (res_loadN ag56 rfl (S.cells 1 rfl 0 #[iv x0,iv x1,iv x2] rfl))) ?_
 obtain rfl:=Option.some.inj hM
 exact ⟨rfl,S.sel [] rfl rfl⟩
theorem c_spec_l1In {x0:Int} {x1:Int} {x2:Int} {w:World} {r:Bool}  (hM : m_spec_l1In x0 x1 x2=some r) :
  Calls Tryz.prog 51 #[iv x0,iv x1,iv x2] w (fun e w'=>e=.returned (.bool r)∧St w w' []):=by
 unfold m_spec_l1In at hM
 refine calls_gx Tryz.func51 Tryz.ntmps51 rfl rfl ?_
 intro a f
 have S:=St.nil w
 revert a;refine sr (ov rfl (fun a f=>run_assign rfl rfl) fun a f=>wn ?_)
 revert a;refine sr (mv rfl rfl (mv rfl rfl (ov rfl (fun a f=>run_geq (f.ev rfl) (f.ev rfl) rfl) (mv rfl rfl fun a f=>?_))))
 revert a;refine gt rfl rfl rfl rfl (fun a f hg=>run_move rfl (f.ev rfl)) (gt rfl rfl rfl rfl (fun a f hg=>run_move rfl (f.ev rfl)) (gt rfl rfl rfl rfl (fun a f hg=>run_leq ((f.ev rfl).trans (gv_t hg)) ((f.ev rfl).trans (gv_t hg)) rfl) fun a f=>?_))
 revert a;refine ov rfl (fun a f=>run_pick_and rfl (f.ev rfl) (fun hp=>((f.ev rfl).trans (gv_t hp))) rfl) (ag rfl rfl fun a f=>wn ?_)
 refine wp_ret ?_
 refine ret1_gw (.inl rfl) f rfl (res_tmp (f.ev rfl)) ?_
 obtain rfl:=Option.some.inj hM
 exact ⟨rfl,S.sel [] rfl rfl⟩
theorem c_spec_NetValid {x0:Int} {x1:List (Int×Int×Int)} {A1:Option Addr} {n1 c1:Nat} {w:World} {r:Bool} (h1:Rt w 3 eLine A1 n1 c1 x1) (hM : m_spec_NetValid x0 x1=some r) :
  Calls Tryz.prog 106 #[.agg #[iv x0,.slice A1 n1 c1]] w (fun e w'=>e=.returned (.bool r)∧St w w' []):=by
 obtain rfl:=h1.len
 unfold m_spec_NetValid at hM
 refine calls_gx Tryz.func106 Tryz.ntmps106 rfl rfl ?_
 intro a f
 have S:=St.nil w
 refine wsg ?_
 refine op_new (cs:=#[iv x0,.slice A1 x1.length c1]) rfl rfl f rfl S (run_box rfl (f.ev rfl) rfl) ?_;clear f S;intro a g101 u f S
 revert a;refine ov rfl (fun a f=>run_assign rfl rfl) fun a f=>wn ?_
 refine ws ?_
 revert a;refine sr (ov rfl (fun a f=>run_fieldAddr rfl fl37_0 (f.ev rfl) rfl) (ov rfl (fun a f=>run_load1 rfl one3 (f.ev rfl) (S.cell 0 rfl rfl)) fun a f=>?_))
 obtain ⟨p102,h102,hM⟩:=bind_ex hM
 refine op_call rfl rfl f rfl (run_call (vs:=[_,_,_]) rfl rfl co51 ⟨(f.ev rfl),rfl,rfl,trivial⟩) (c_spec_l1In  h102) ?_
 rintro e u ⟨rfl,T⟩
 refine ⟨_,rfl,?_⟩
 clear f;intro a f
 replace S:=S.call0 T;clear T
 revert a;refine ov rfl (fun a f=>run_not rfl (f.ev rfl)) (mv rfl rfl fun a f=>?_)
 revert a;refine gf rfl rfl rfl rfl (fun a f hg=>run_fieldAddr rfl fl37_1 (f.ev rfl) rfl) (gf rfl rfl rfl rfl (fun a f hg=>run_load1 rfl one35 ((f.ev rfl).trans (gv_t hg)) (S.cell 0 rfl rfl)) (gf rfl rfl rfl rfl (fun a f hg=>run_lenL rfl rfl Tryz.underlying35 ((f.ev rfl).trans (gv_t hg))) (gf rfl rfl rfl rfl (fun a f hg=>run_gtr ((f.ev rfl).trans (gv_t hg)) rfl rfl) (ov rfl (fun a f=>run_pick_or rfl (f.ev rfl) rfl (fun hp=>((f.ev rfl).trans (gv_t (not_t hp))))) fun a f=>wn ?_))))
 cases hc103:((!p102)||(ltB 10 (x1.length:Int)))
 ·replace hM:=bif_f hc103 hM
  refine cond_f f rfl hc103 ?_
  refine wp_skip ?_
  refine ws ?_
  revert a;refine sr (ov rfl (fun a f=>run_assign rfl rfl) fun a f=>wn ?_)
  obtain ⟨o105,hM106,hM⟩:=bind_ex hM
  refine wp_cut (fun a u=>∃ (p104:Unit),(Sum.inl p104)=o105∧Fr a 56 [(2,.bool false)]∧St w u []) ?_ ?_
  ·have _:=trivial
   refine wp_block ?_
   refine loop_gw (fun m a u=>∃ (p107:Int),m_spec_NetValid_l1 x0 x1 m p107=some _∧Fr a 56 [(1,.pointer (some ⟨g101,0,none⟩)),(2,.bool false),(3,iv p107)]∧St w u [.box g101 37 #[iv x0,.slice A1 x1.length c1]]) FUEL ⟨0,hM106,f.keep _ ⟨rfl,rfl,rfl,trivial⟩,S.sel [0] rfl rfl⟩ ?_
   clear f S hM106;rintro m a u ⟨p107,hM106,f,S⟩
   rcases m with _ | f1
   ·exact none_some hM106
   rw [m_spec_NetValid_l1.eq_2] at hM106
   refine ws ?_
   revert a;refine sr (mv rfl rfl (ov rfl (fun a f=>run_fieldAddr rfl fl37_1 (f.ev rfl) rfl) (ov rfl (fun a f=>run_load1 rfl one35 (f.ev rfl) (S.cell 0 rfl rfl)) (ov rfl (fun a f=>run_lenL rfl rfl Tryz.underlying35 (f.ev rfl)) (ov rfl (fun a f=>run_lss (f.ev rfl) (f.ev rfl) rfl) fun a f=>wn ?_)))))
   cases hc108:(ltB p107 (x1.length:Int))
   ·replace hM106:=bif_f hc108 hM106
    refine cond_f f rfl hc108 ?_
    refine wp_exit ?_
    repeat with_reducible first|apply then_exit|apply in_hit|refine in_miss rfl ?_
    obtain rfl:=Option.some.inj hM106
    exact ⟨(),rfl,f.keep _ ⟨rfl,trivial⟩,S.sel [] rfl rfl⟩
   replace hM106:=bif_t hc108 hM106
   refine cond_t f rfl hc108 ?_
   refine wp_skip ?_
   refine ws ?_
   refine wp_block ?_
   revert a;refine sr (ov rfl (fun a f=>run_fieldAddr rfl fl37_1 (f.ev rfl) rfl) (ov rfl (fun a f=>run_load1 rfl one35 (f.ev rfl) (S.cell 0 rfl rfl)) (mv rfl rfl fun a f=>?_)))
   obtain ⟨hk109,hM106⟩:=chk_ex hM106
   replace hk109:=ixB_t hk109
   revert a;refine ov rfl (fun a f=>run_ix rfl Tryz.underlying35 sz130 (f.ev rfl) (S.rc0 h1.rc) (f.ev rfl) hk109) (ov rfl (fun a f=>run_loadN (cs:=#[iv ((x1.getD p107.toNat (0,0,0)).1),iv ((x1.getD p107.toNat (0,0,0)).2.1),iv ((x1.getD p107.toNat (0,0,0)).2.2)]) rfl ag130 (f.ev rfl) rfl (rd_elN (l:=x1) (S.rc0 h1.rc).rd rfl eLine_len (0,0,0) (ix_ltn hk109 rfl) rfl)) fun a f=>?_)
   refine op_new (cs:=#[iv 0,iv 0,iv 0]) rfl rfl f rfl S (run_allocZ rfl zr130) ?_;clear f S;intro a g110 u f S
   refine op_do rfl rfl (run_store (cs':=#[iv ((x1.getD p107.toNat (0,0,0)).1),iv ((x1.getD p107.toNat (0,0,0)).2.1),iv ((x1.getD p107.toNat (0,0,0)).2.2)]) rfl sz130 (f.ev rfl) (f.ev rfl) rfl rfl rfl (S.free 0 rfl) rfl rfl) ?_;replace S:=S.put 0 rfl (#[iv ((x1.getD p107.toNat (0,0,0)).1),iv ((x1.getD p107.toNat (0,0,0)).2.1),iv ((x1.getD p107.toNat (0,0,0)).2.2)])
   generalize World.setRow _ _ _=u at S ⊢
   refine wn ?_
   revert a;refine sr (ov rfl (fun a f=>run_fieldAddr rfl fl130_0 (f.ev rfl) rfl) (ov rfl (fun a f=>run_load1 rfl one3 (f.ev rfl) (S.cell 0 rfl rfl)) (ov rfl (fun a f=>run_fieldAddr rfl fl37_0 (f.ev rfl) rfl) (ov rfl (fun a f=>run_load1 rfl one3 (f.ev rfl) (S.cell 1 rfl rfl)) (ov rfl (fun a f=>run_sub (z:=w64 (x0-1)) (f.ev rfl) rfl rfl rfl) fun a f=>?_)))))
   obtain ⟨p111,h111,hM106⟩:=bind_ex hM106
   refine op_call rfl rfl f rfl (run_call (vs:=[_,_,_]) rfl rfl co51 ⟨(f.ev rfl),rfl,(f.ev rfl),trivial⟩) (c_spec_l1In  h111) ?_
   rintro e u ⟨rfl,T⟩
   refine ⟨_,rfl,?_⟩
   clear f;intro a f
   replace S:=S.call0 T;clear T
   revert a;refine ov rfl (fun a f=>run_not rfl (f.ev rfl)) (mv rfl rfl fun a f=>?_)
   revert a;refine gf rfl rfl rfl rfl (fun a f hg=>run_fieldAddr rfl fl130_1 (f.ev rfl) rfl) (gf rfl rfl rfl rfl (fun a f hg=>run_load1 rfl one3 ((f.ev rfl).trans (gv_t hg)) (S.cell 0 rfl rfl)) (gf rfl rfl rfl rfl (fun a f hg=>run_fieldAddr rfl fl37_0 (f.ev rfl) rfl) (gf rfl rfl rfl rfl (fun a f hg=>run_load1 rfl one3 ((f.ev rfl).trans (gv_t hg)) (S.cell 1 rfl rfl)) (gf rfl rfl rfl rfl (fun a f hg=>run_sub (z:=w64 (x0-1)) ((f.ev rfl).trans (gv_t hg)) rfl rfl rfl) fun a f=>?_))))
   obtain ⟨p112,h112,hM106⟩:=bind_ex hM106
   refine op_gcall (v:=.bool p112) rfl rfl f rfl S (yf (gw_yield f rfl rfl rfl)) (fun hg=>(run_call (vs:=[iv ((x1.getD p107.toNat (0,0,0)).2.1),iv 0,iv (w64 (x0-1))]) rfl rfl co51 ⟨((f.ev rfl).trans (gv_t hg)),rfl,((f.ev rfl).trans (gv_t hg)),trivial⟩)) (fun hg=>c_spec_l1In (x0:=(x1.getD p107.toNat (0,0,0)).2.1) (x1:=0) (x2:=w64 (x0-1))  (gb_t h112 hg)) ?_;clear f S;intro a u f S
   revert a;refine gf rfl rfl rfl rfl (fun a f hg=>run_not rfl ((f.ev rfl).trans (gv_t hg))) fun a f=>?_
   revert a;refine ov rfl (fun a f=>run_pick_or rfl (f.ev rfl) rfl (fun hp=>((f.ev rfl).trans (gv_t (not_t hp))))) (mv rfl rfl fun a f=>?_)
   revert a;refine gf rfl rfl rfl rfl (fun a f hg=>run_fieldAddr rfl fl130_0 (f.ev rfl) rfl) (gf rfl rfl rfl rfl (fun a f hg=>run_load1 rfl one3 ((f.ev rfl).trans (gv_t hg)) (S.cell 0 rfl rfl)) (gf rfl rfl rfl rfl (fun a f hg=>run_fieldAddr rfl fl130_1 (f.ev rfl) rfl) (gf rfl rfl rfl rfl (fun a f hg=>run_load1 rfl one3 ((f.ev rfl).trans (gv_t hg)) (S.cell 0 rfl rfl)) (gf rfl rfl rfl rfl (fun a f hg=>run_eql ((f.ev rfl).trans (gv_t hg)) ((f.ev rfl).trans (gv_t hg)) rfl) fun a f=>?_))))
   revert a;refine ov rfl (fun a f=>run_pick_or rfl (f.ev rfl) rfl (fun hp=>((f.ev rfl).trans (gv_t (not_t hp))))) (mv rfl rfl fun a f=>?_)
   revert a;refine gf rfl rfl rfl rfl (fun a f hg=>run_fieldAddr rfl fl130_2 (f.ev rfl) rfl) (gf rfl rfl rfl rfl (fun a f hg=>run_load1 rfl one3 ((f.ev rfl).trans (gv_t hg)) (S.cell 0 rfl rfl)) fun a f=>?_)
   obtain ⟨p113,h113,hM106⟩:=bind_ex hM106
   refine op_gcall (v:=.bool p113) rfl rfl f rfl S (yf (gw_yield f rfl rfl rfl)) (fun hg=>(run_call (vs:=[iv ((x1.getD p107.toNat (0,0,0)).2.2),iv 1,iv 999]) rfl rfl co51 ⟨((f.ev rfl).trans (gv_t hg)),rfl,rfl,trivial⟩)) (fun hg=>c_spec_l1In (x0:=(x1.getD p107.toNat (0,0,0)).2.2) (x1:=1) (x2:=999)  (gb_t h113 hg)) ?_;clear f S;intro a u f S
   revert a;refine gf rfl rfl rfl rfl (fun a f hg=>run_not rfl ((f.ev rfl).trans (gv_t hg))) (ov rfl (fun a f=>run_pick_or rfl (f.ev rfl) rfl (fun hp=>((f.ev rfl).trans (gv_t (not_t hp))))) fun a f=>wn ?_)
   cases hc114:((((!p111)||(!p112))||(((x1.getD p107.toNat (0,0,0)).1)==((x1.getD p107.toNat (0,0,0)).2.1)))||(!p113))
   ·replace hM106:=bif_f hc114 hM106
    refine cond_f f rfl hc114 ?_
    refine wp_skip ?_
    revert a;refine rl (mv rfl rfl (ov rfl (fun a f=>run_add (z:=w64 (p107+1)) (f.ev rfl) rfl rfl rfl) (ag rfl rfl fun a f=>wn ?_)))
    exact ⟨f1,Nat.lt_succ_self _,w64 (p107+1),hM106,f.keep _ ⟨rfl,rfl,rfl,trivial⟩,S.sel [1] rfl rfl⟩
   replace hM106:=bif_t hc114 hM106
   refine cond_t f rfl hc114 ?_
   revert a;refine sr (ov rfl (fun a f=>run_assign rfl rfl) fun a f=>wn ?_)
   refine wp_ret ?_
   repeat with_reducible first|apply tr|apply ir|apply nr
   refine ret1_gw (.inl rfl) f rfl (res_tmp (f.ev rfl)) ?_
   obtain rfl:=Option.some.inj hM106
   obtain rfl:=Option.some.inj hM
   exact ⟨rfl,S.sel [] rfl rfl⟩
  rintro a u ⟨p104,rfl,f,S⟩
  replace hM:=elim_l hM
  revert a;refine sr (ov rfl (fun a f=>run_assign rfl rfl) fun a f=>wn ?_)
  refine wp_ret ?_
  refine ret1_gw (.inl rfl) f rfl (res_tmp (f.ev rfl)) ?_
  obtain rfl:=Option.some.inj hM
  exact ⟨rfl,S.sel [] rfl rfl⟩
 replace hM:=bif_t hc103 hM
 refine cond_t f rfl hc103 ?_
 revert a;refine sr (ov rfl (fun a f=>run_assign rfl rfl) fun a f=>wn ?_)
 refine wp_ret ?_
 repeat with_reducible first|apply tr|apply ir|apply nr
 refine ret1_gw (.inl rfl) f rfl (res_tmp (f.ev rfl)) ?_
 obtain rfl:=Option.some.inj hM
 exact ⟨rfl,S.sel [] rfl rfl⟩
theorem c_spec_BusesValid {x0:Int} {x1:List (Int×Int×Int)} {x2:List (Int×Int)} {A1:Option Addr} {n1 c1:Nat} {A2:Option Addr} {n2 c2:Nat} {w:World} {r:Bool} (h1:Rt w 3 eLine A1 n1 c1 x1) (h2:Rt w 2 eBus A2 n2 c2 x2) (hM : m_spec_BusesValid x0 x1 x2=some r) :
  Calls Tryz.prog 68 #[.agg #[iv x0,.slice A1 n1 c1],.slice A2 n2 c2] w (fun e w'=>e=.returned (.bool r)∧St w w' []):=by
 obtain rfl:=h1.len
 obtain rfl:=h2.len
 unfold m_spec_BusesValid at hM
 refine calls_gx Tryz.func68 Tryz.ntmps68 rfl rfl ?_
 intro a f
 have S:=St.nil w
 refine wsg ?_
 refine op_new (cs:=#[iv x0,.slice A1 x1.length c1]) rfl rfl f rfl S (run_box rfl (f.ev rfl) rfl) ?_;clear f S;intro a g101 u f S
 revert a;refine ov rfl (fun a f=>run_assign rfl rfl) fun a f=>wn ?_
 refine ws ?_
 revert a;refine sr (ov rfl (fun a f=>run_assign rfl rfl) fun a f=>wn ?_)
 obtain ⟨o103,hM104,hM⟩:=bind_ex hM
 refine wp_cut (fun a u=>∃ (p102:Unit),(Sum.inl p102)=o103∧Fr a 37 [(1,.slice A2 x2.length c2),(2,.pointer (some ⟨g101,0,none⟩)),(4,.bool false)]∧St w u [.box g101 37 #[iv x0,.slice A1 x1.length c1]]) ?_ ?_
 ·have _:=trivial
  refine wp_block ?_
  refine loop_gw (fun m a u=>∃ (p105:Int),m_spec_BusesValid_l1 x2 m p105=some _∧Fr a 37 [(1,.slice A2 x2.length c2),(2,.pointer (some ⟨g101,0,none⟩)),(4,.bool false),(5,iv p105)]∧St w u [.box g101 37 #[iv x0,.slice A1 x1.length c1]]) FUEL ⟨0,hM104,f.keep _ ⟨rfl,rfl,rfl,rfl,trivial⟩,S.sel [0] rfl rfl⟩ ?_
  clear f S hM104;rintro m a u ⟨p105,hM104,f,S⟩
  rcases m with _ | f1
  ·exact none_some hM104
  rw [m_spec_BusesValid_l1.eq_2] at hM104
  refine ws ?_
  revert a;refine sr (mv rfl rfl (mv rfl rfl (ov rfl (fun a f=>run_lenL rfl rfl Tryz.underlying38 (f.ev rfl)) (ov rfl (fun a f=>run_lss (f.ev rfl) (f.ev rfl) rfl) fun a f=>wn ?_))))
  cases hc106:(ltB p105 (x2.length:Int))
  ·replace hM104:=bif_f hc106 hM104
   refine cond_f f rfl hc106 ?_
   refine wp_exit ?_
   repeat with_reducible first|apply then_exit|apply in_hit|refine in_miss rfl ?_
   obtain rfl:=Option.some.inj hM104
   exact ⟨(),rfl,f.keep _ ⟨rfl,rfl,rfl,trivial⟩,S.sel [0] rfl rfl⟩
  replace hM104:=bif_t hc106 hM104
  refine cond_t f rfl hc106 ?_
  refine wp_skip ?_
  refine ws ?_
  refine wp_block ?_
  revert a;refine sr (mv rfl rfl (mv rfl rfl fun a f=>?_))
  obtain ⟨hk107,hM104⟩:=chk_ex hM104
  replace hk107:=ixB_t hk107
  revert a;refine ov rfl (fun a f=>run_ix rfl Tryz.underlying38 sz110 (f.ev rfl) (S.rc0 h2.rc) (f.ev rfl) hk107) (ov rfl (fun a f=>run_fieldAddr rfl fl110_0 (f.ev rfl) rfl) (ov rfl (fun a f=>run_load1 rfl one3 (f.ev rfl) (rd_el0 (l:=x2) (S.rc0 h2.rc).rd rfl eBus_len (0,0) (ix_ltn hk107 rfl) rfl)) fun a f=>?_))
  obtain ⟨p108,h108,hM104⟩:=bind_ex hM104
  refine op_call rfl rfl f rfl (run_call (vs:=[_,_,_]) rfl rfl co51 ⟨(f.ev rfl),rfl,rfl,trivial⟩) (c_spec_l1In  h108) ?_
  rintro e u ⟨rfl,T⟩
  refine ⟨_,rfl,?_⟩
  clear f;intro a f
  replace S:=S.call0 T;clear T
  revert a;refine ov rfl (fun a f=>run_not rfl (f.ev rfl)) (mv rfl rfl fun a f=>?_)
  revert a;refine gf rfl rfl rfl rfl (fun a f hg=>run_move rfl (f.ev rfl)) (gf rfl rfl rfl rfl (fun a f hg=>run_move rfl (f.ev rfl)) fun a f=>?_)
  obtain ⟨hk109,hM104⟩:=chk_ex hM104
  replace hk109:=fun hg=>ixB_t (imp_t hk109 hg)
  revert a;refine gf rfl rfl rfl rfl (fun a f hg=>run_ix rfl Tryz.underlying38 sz110 ((f.ev rfl).trans (gv_t hg)) (S.rc0 h2.rc) ((f.ev rfl).trans (gv_t hg)) (hk109 hg)) (gf rfl rfl rfl rfl (fun a f hg=>run_fieldAddr rfl fl110_1 ((f.ev rfl).trans (gv_t hg)) rfl) (gf rfl rfl rfl rfl (fun a f hg=>run_load1 rfl one3 ((f.ev rfl).trans (gv_t hg)) (rd_el (l:=x2) (S.rc0 h2.rc).rd rfl eBus_len (0,0) (ix_ltn (hk109 hg) rfl) rfl)) fun a f=>?_))
  obtain ⟨p110,h110,hM104⟩:=bind_ex hM104
  refine op_gcall (v:=.bool p110) rfl rfl f rfl S (yf (gw_yield f rfl rfl rfl)) (fun hg=>(run_call (vs:=[iv ((x2.getD p105.toNat (0,0)).2),iv 0,iv 999]) rfl rfl co51 ⟨((f.ev rfl).trans (gv_t hg)),rfl,rfl,trivial⟩)) (fun hg=>c_spec_l1In (x0:=(x2.getD p105.toNat (0,0)).2) (x1:=0) (x2:=999)  (gb_t h110 hg)) ?_;clear f S;intro a u f S
  revert a;refine gf rfl rfl rfl rfl (fun a f hg=>run_not rfl ((f.ev rfl).trans (gv_t hg))) (ov rfl (fun a f=>run_pick_or rfl (f.ev rfl) rfl (fun hp=>((f.ev rfl).trans (gv_t (not_t hp))))) fun a f=>wn ?_)
  cases hc111:((!p108)||(!p110))
  ·replace hM104:=bif_f hc111 hM104
   refine cond_f f rfl hc111 ?_
   refine wp_skip ?_
   revert a;refine rl (mv rfl rfl (ov rfl (fun a f=>run_add (z:=w64 (p105+1)) (f.ev rfl) rfl rfl rfl) (ag rfl rfl fun a f=>wn ?_)))
   exact ⟨f1,Nat.lt_succ_self _,w64 (p105+1),hM104,f.keep _ ⟨rfl,rfl,rfl,rfl,trivial⟩,S.sel [0] rfl rfl⟩
  replace hM104:=bif_t hc111 hM104
  refine cond_t f rfl hc111 ?_
  revert a;refine sr (ov rfl (fun a f=>run_assign rfl rfl) fun a f=>wn ?_)
  refine wp_ret ?_
  repeat with_reducible first|apply tr|apply ir|apply nr
  refine ret1_gw (.inl rfl) f rfl (res_tmp (f.ev rfl)) ?_
  obtain rfl:=Option.some.inj hM104
  obtain rfl:=Option.some.inj hM
  exact ⟨rfl,S.sel [] rfl rfl⟩
 rintro a u ⟨p102,rfl,f,S⟩
 replace hM:=elim_l hM
 revert a;refine sr (ov rfl (fun a f=>run_loadN rfl ag37 (f.ev rfl) rfl ((S.free 0 rfl).cells 0 #[iv x0,.slice A1 x1.length c1] rfl)) fun a f=>?_)
 obtain ⟨p112,h112,hM⟩:=bind_ex hM
 refine op_call rfl rfl f rfl (run_call (vs:=[_]) rfl rfl co106 ⟨(f.ev rfl),trivial⟩) (c_spec_NetValid ⟨(S.rc0 h1.rc),rfl⟩ h112) ?_
 rintro e u ⟨rfl,T⟩
 refine ⟨_,rfl,?_⟩
 clear f;intro a f
 replace S:=S.call0 T;clear T
 revert a;refine mv rfl rfl (gt rfl rfl rfl rfl (fun a f hg=>run_move rfl (f.ev rfl)) (gt rfl rfl rfl rfl (fun a f hg=>run_lenL rfl rfl Tryz.underlying38 ((f.ev rfl).trans (gv_t hg))) (gt rfl rfl rfl rfl (fun a f hg=>run_fieldAddr rfl fl37_0 (f.ev rfl) rfl) (gt rfl rfl rfl rfl (fun a f hg=>run_load1 rfl one3 ((f.ev rfl).trans (gv_t hg)) (S.cell 0 rfl rfl)) (gt rfl rfl rfl rfl (fun a f hg=>run_eql ((f.ev rfl).trans (gv_t hg)) ((f.ev rfl).trans (gv_t hg)) rfl) fun a f=>?_)))))
 revert a;refine ov rfl (fun a f=>run_pick_and rfl (f.ev rfl) (fun hp=>((f.ev rfl).trans (gv_t hp))) rfl) (ag rfl rfl fun a f=>wn ?_)
 refine wp_ret ?_
 refine ret1_gw (.inl rfl) f rfl (res_tmp (f.ev rfl)) ?_
 obtain rfl:=Option.some.inj hM
 exact ⟨rfl,S.sel [] rfl rfl⟩
theorem c_spec_l12Find {x0:List (Int×Int)} {x1:Int} {x2:Int} {A0:Option Addr} {n0 c0:Nat} {w:World} {r:Int} (h0:Rt w 2 ePermit A0 n0 c0 x0) (hM : m_spec_l12Find x0 x1 x2=some r) :
  Calls Tryz.prog 90 #[.slice A0 n0 c0,.agg #[iv x1,iv x2]] w (fun e w'=>e=.returned (iv r)∧St w w' []):=by
 obtain rfl:=h0.len
 unfold m_spec_l12Find at hM
 refine calls_gx Tryz.func90 Tryz.ntmps90 rfl rfl ?_
 intro a f
 have S:=St.nil w
 refine wsg ?_
 refine op_new (cs:=#[iv x1,iv x2]) rfl rfl f rfl S (run_box rfl (f.ev rfl) rfl) ?_;clear f S;intro a g101 u f S
 revert a;refine ov rfl (fun a f=>run_assign rfl rfl) fun a f=>wn ?_
 refine ws ?_
 revert a;refine sr (ov rfl (fun a f=>run_assign rfl rfl) fun a f=>wn ?_)
 obtain ⟨o103,hM104,hM⟩:=bind_ex hM
 refine wp_cut (fun a u=>∃ (p102:Unit),(Sum.inl p102)=o103∧Fr a 19 [(4,iv 0)]∧St w u []) ?_ ?_
 ·have _:=trivial
  refine wp_block ?_
  refine loop_gw (fun m a u=>∃ (p105:Int),m_spec_l12Find_l1 x0 x1 x2 m p105=some _∧Fr a 19 [(0,.slice A0 x0.length c0),(3,.pointer (some ⟨g101,0,none⟩)),(4,iv 0),(5,iv p105)]∧St w u [.box g101 78 #[iv x1,iv x2]]) FUEL ⟨0,hM104,f.keep _ ⟨rfl,rfl,rfl,rfl,trivial⟩,S.sel [0] rfl rfl⟩ ?_
  clear f S hM104;rintro m a u ⟨p105,hM104,f,S⟩
  rcases m with _ | f1
  ·exact none_some hM104
  rw [m_spec_l12Find_l1.eq_2] at hM104
  refine ws ?_
  revert a;refine sr (mv rfl rfl (mv rfl rfl (ov rfl (fun a f=>run_lenL rfl rfl Tryz.underlying39 (f.ev rfl)) (ov rfl (fun a f=>run_lss (f.ev rfl) (f.ev rfl) rfl) fun a f=>wn ?_))))
  cases hc106:(ltB p105 (x0.length:Int))
  ·replace hM104:=bif_f hc106 hM104
   refine cond_f f rfl hc106 ?_
   refine wp_exit ?_
   repeat with_reducible first|apply then_exit|apply in_hit|refine in_miss rfl ?_
   obtain rfl:=Option.some.inj hM104
   exact ⟨(),rfl,f.keep _ ⟨rfl,trivial⟩,S.sel [] rfl rfl⟩
  replace hM104:=bif_t hc106 hM104
  refine cond_t f rfl hc106 ?_
  refine wp_skip ?_
  refine ws ?_
  refine wp_block ?_
  refine ws ?_
  obtain ⟨hk107,hM104⟩:=chk_ex hM104
  replace hk107:=ixB_t hk107
  refine region_gw (D:=[12,13,14,15,16,17]) (Lr:=[.box g101 78 #[iv x1,iv x2]]) (deps:=(fun | 0=>[12] | 1=>[13] | 2=>[14] | 3=>[15] | 4=>[16] | 5=>[17] | _=>[])) (rd:=(fun _=>[])) (zr:=(fun _=>[]))
   (φ:=fun i vs=>match i,vs with | 0,[v12]=>v12=.slice A0 x0.length c0 | 1,[v13]=>v13=iv p105 | 2,[v14]=>v14=.pointer (some ⟨adB A0,adO A0+p105.toNat*2,none⟩) | 3,[v15]=>v15=.agg #[iv ((x0.getD p105.toNat (0,0)).1),iv ((x0.getD p105.toNat (0,0)).2)] | 4,[v16]=>v16=.agg #[iv x1,iv x2] | 5,[v17]=>v17=.bool ((((x0.getD p105.toNat (0,0)).1)==x1)&&(((x0.getD p105.toNat (0,0)).2)==x2)) | _,_=>True)
   (C:=fun _ _=>[])
   (κ:=(fun _=>none)) (Z:=(fun _=>[])) mixed f (by kernel_rfl) S ?_ ?_
  ·refine ⟨?_,?_,?_,?_,?_,?_,trivial⟩
   ·intro a u X hB hu p hr hz hl S
    exact .inl ⟨rfl,_,u,(run_move rfl (f.evB hB rfl rfl)),rfl,S⟩
   ·intro a u X hB hu p hr hz hl S
    exact .inl ⟨rfl,_,u,(run_move rfl (f.evB hB rfl rfl)),rfl,S⟩
   ·intro a u X hB hu p hr hz hl S
    exact .inl ⟨rfl,_,u,(run_ix rfl Tryz.underlying39 sz78 (ev_sl (p 0 rfl)) (S.rc0 h0.rc) (ev_sl (p 1 rfl)) hk107),rfl,S⟩
   ·intro a u X hB hu p hr hz hl S
    exact .inl ⟨rfl,_,u,(run_loadN (cs:=#[iv ((x0.getD p105.toNat (0,0)).1),iv ((x0.getD p105.toNat (0,0)).2)]) rfl ag78 (ev_sl (p 2 rfl)) rfl (rd_elN (l:=x0) (S.rc0 h0.rc).rd rfl ePermit_len (0,0) (ix_ltn hk107 rfl) rfl)),rfl,S⟩
   ·intro a u X hB hu p hr hz hl S
    exact .inl ⟨rfl,_,u,(run_loadN rfl ag78 (f.evB hB rfl rfl) rfl ((gr_box S hl 0 rfl).cells 0 #[iv x1,iv x2] rfl)),rfl,S⟩
   intro a u X hB hu p hr hz hl S
   exact .inl ⟨rfl,_,u,(run_eqlA (ev_sl (p 3 rfl)) (ev_sl (p 4 rfl)) rfl eg78 eq78),rfl,S⟩
  intro a u hB hp S
  obtain ⟨q0,q1,q2,q3,q4,q5,-⟩:=hp
  replace S:St w u [.box g101 78 #[iv x1,iv x2]]:=S
  have f:=f.region hB [(12,_),(13,_),(14,_),(15,_),(16,_),(17,_)] (allSl_mem ⟨q0,q1,q2,q3,q4,q5,trivial⟩) rfl
  clear hB q0 q1 q2 q3 q4 q5
  cases hc108:((((x0.getD p105.toNat (0,0)).1)==x1)&&(((x0.getD p105.toNat (0,0)).2)==x2))
  ·replace hM104:=bif_f hc108 hM104
   refine cond_f f rfl hc108 ?_
   refine wp_skip ?_
   revert a;refine rl (mv rfl rfl (ov rfl (fun a f=>run_add (z:=w64 (p105+1)) (f.ev rfl) rfl rfl rfl) (ag rfl rfl fun a f=>wn ?_)))
   exact ⟨f1,Nat.lt_succ_self _,w64 (p105+1),hM104,f.keep _ ⟨rfl,rfl,rfl,rfl,trivial⟩,S.sel [0] rfl rfl⟩
  replace hM104:=bif_t hc108 hM104
  refine cond_t f rfl hc108 ?_
  revert a;refine sr (mv rfl rfl (ag rfl rfl fun a f=>wn ?_))
  refine wp_ret ?_
  repeat with_reducible first|apply tr|apply ir|apply nr
  refine ret1_gw (.inl rfl) f rfl (res_tmp (f.ev rfl)) ?_
  obtain rfl:=Option.some.inj hM104
  obtain rfl:=Option.some.inj hM
  exact ⟨rfl,S.sel [] rfl rfl⟩
 rintro a u ⟨p102,rfl,f,S⟩
 replace hM:=elim_l hM
 revert a;refine sr (ov rfl (fun a f=>run_assign rfl rfl) fun a f=>wn ?_)
 refine wp_ret ?_
 refine ret1_gw (.inl rfl) f rfl (res_tmp (f.ev rfl)) ?_
 obtain rfl:=Option.some.inj hM
 exact ⟨rfl,S.sel [] rfl rfl⟩
theorem c_spec_WorkValid {x0:List Bool} {x1:List Bool} {x2:List (Int×Int)} {A0:Option Addr} {n0 c0:Nat} {A1:Option Addr} {n1 c1:Nat} {A2:Option Addr} {n2 c2:Nat} {w:World} {r:Bool} (h0:Rt w 1 eB A0 n0 c0 x0) (h1:Rt w 1 eB A1 n1 c1 x1) (h2:Rt w 2 ePermit A2 n2 c2 x2) (hM : m_spec_WorkValid x0 x1 x2=some r) :
  Calls Tryz.prog 69 #[.agg #[.slice A0 n0 c0,.slice A1 n1 c1,.slice A2 n2 c2]] w (fun e w'=>e=.returned (.bool r)∧St w w' []):=by
 obtain rfl:=h0.len
 obtain rfl:=h1.len
 obtain rfl:=h2.len
 unfold m_spec_WorkValid at hM
 refine calls_gx Tryz.func69 Tryz.ntmps69 rfl rfl ?_
 intro a f
 have S:=St.nil w
 refine wsg ?_
 refine op_new (cs:=#[.slice A0 x0.length c0,.slice A1 x1.length c1,.slice A2 x2.length c2]) rfl rfl f rfl S (run_box rfl (f.ev rfl) rfl) ?_;clear f S;intro a g101 u f S
 revert a;refine ov rfl (fun a f=>run_assign rfl rfl) fun a f=>wn ?_
 refine ws ?_
 revert a;refine sr (ov rfl (fun a f=>run_fieldAddr rfl fl41_0 (f.ev rfl) rfl) (ov rfl (fun a f=>run_load1 rfl one26 (f.ev rfl) (S.cell 0 rfl rfl)) (ov rfl (fun a f=>run_lenL rfl rfl Tryz.underlying26 (f.ev rfl)) fun a f=>?_)))
 obtain ⟨p102,h102,hM⟩:=bind_ex hM
 refine op_call rfl rfl f rfl (run_call (vs:=[_,_,_]) rfl rfl co51 ⟨(f.ev rfl),rfl,rfl,trivial⟩) (c_spec_l1In  h102) ?_
 rintro e u ⟨rfl,T⟩
 refine ⟨_,rfl,?_⟩
 clear f;intro a f
 replace S:=S.call0 T;clear T
 revert a;refine ov rfl (fun a f=>run_not rfl (f.ev rfl)) (mv rfl rfl fun a f=>?_)
 revert a;refine gf rfl rfl rfl rfl (fun a f hg=>run_fieldAddr rfl fl41_0 (f.ev rfl) rfl) (gf rfl rfl rfl rfl (fun a f hg=>run_load1 rfl one26 ((f.ev rfl).trans (gv_t hg)) (S.cell 0 rfl rfl)) (gf rfl rfl rfl rfl (fun a f hg=>run_lenL rfl rfl Tryz.underlying26 ((f.ev rfl).trans (gv_t hg))) (gf rfl rfl rfl rfl (fun a f hg=>run_fieldAddr rfl fl41_1 (f.ev rfl) rfl) (gf rfl rfl rfl rfl (fun a f hg=>run_load1 rfl one26 ((f.ev rfl).trans (gv_t hg)) (S.cell 0 rfl rfl)) (gf rfl rfl rfl rfl (fun a f hg=>run_lenL rfl rfl Tryz.underlying26 ((f.ev rfl).trans (gv_t hg))) (gf rfl rfl rfl rfl (fun a f hg=>run_neq ((f.ev rfl).trans (gv_t hg)) ((f.ev rfl).trans (gv_t hg)) rfl) fun a f=>?_))))))
 revert a;refine ov rfl (fun a f=>run_pick_or rfl (f.ev rfl) rfl (fun hp=>((f.ev rfl).trans (gv_t (not_t hp))))) (mv rfl rfl fun a f=>?_)
 revert a;refine gf rfl rfl rfl rfl (fun a f hg=>run_fieldAddr rfl fl41_2 (f.ev rfl) rfl) (gf rfl rfl rfl rfl (fun a f hg=>run_load1 rfl one39 ((f.ev rfl).trans (gv_t hg)) (S.cell 0 rfl rfl)) (gf rfl rfl rfl rfl (fun a f hg=>run_lenL rfl rfl Tryz.underlying39 ((f.ev rfl).trans (gv_t hg))) (gf rfl rfl rfl rfl (fun a f hg=>run_gtr ((f.ev rfl).trans (gv_t hg)) rfl rfl) (ov rfl (fun a f=>run_pick_or rfl (f.ev rfl) rfl (fun hp=>((f.ev rfl).trans (gv_t (not_t hp))))) fun a f=>wn ?_))))
 cases hc103:(((!p102)||((x0.length:Int) != (x1.length:Int)))||(ltB 6 (x2.length:Int)))
 ·replace hM:=bif_f hc103 hM
  refine cond_f f rfl hc103 ?_
  refine wp_skip ?_
  refine ws ?_
  revert a;refine sr (ov rfl (fun a f=>run_assign rfl rfl) fun a f=>wn ?_)
  obtain ⟨o105,hM106,hM⟩:=bind_ex hM
  refine wp_cut (fun a u=>∃ (p104:Unit),(Sum.inl p104)=o105∧Fr a 88 [(1,.pointer (some ⟨g101,0,none⟩)),(2,.bool false)]∧St w u [.box g101 41 #[.slice A0 x0.length c0,.slice A1 x1.length c1,.slice A2 x2.length c2]]) ?_ ?_
  ·have _:=trivial
   refine wp_block ?_
   refine loop_gw (fun m a u=>∃ (p107:Int),m_spec_WorkValid_l1 x0 x1 m p107=some _∧Fr a 88 [(1,.pointer (some ⟨g101,0,none⟩)),(2,.bool false),(3,iv p107)]∧St w u [.box g101 41 #[.slice A0 x0.length c0,.slice A1 x1.length c1,.slice A2 x2.length c2]]) FUEL ⟨0,hM106,f.keep _ ⟨rfl,rfl,rfl,trivial⟩,S.sel [0] rfl rfl⟩ ?_
   clear f S hM106;rintro m a u ⟨p107,hM106,f,S⟩
   rcases m with _ | f1
   ·exact none_some hM106
   rw [m_spec_WorkValid_l1.eq_2] at hM106
   refine ws ?_
   revert a;refine sr (mv rfl rfl (ov rfl (fun a f=>run_fieldAddr rfl fl41_0 (f.ev rfl) rfl) (ov rfl (fun a f=>run_load1 rfl one26 (f.ev rfl) (S.cell 0 rfl rfl)) (ov rfl (fun a f=>run_lenL rfl rfl Tryz.underlying26 (f.ev rfl)) (ov rfl (fun a f=>run_lss (f.ev rfl) (f.ev rfl) rfl) fun a f=>wn ?_)))))
   cases hc108:(ltB p107 (x0.length:Int))
   ·replace hM106:=bif_f hc108 hM106
    refine cond_f f rfl hc108 ?_
    refine wp_exit ?_
    repeat with_reducible first|apply then_exit|apply in_hit|refine in_miss rfl ?_
    obtain rfl:=Option.some.inj hM106
    exact ⟨(),rfl,f.keep _ ⟨rfl,rfl,trivial⟩,S.sel [0] rfl rfl⟩
   replace hM106:=bif_t hc108 hM106
   refine cond_t f rfl hc108 ?_
   refine wp_skip ?_
   refine ws ?_
   refine wp_block ?_
   revert a;refine sr (ov rfl (fun a f=>run_fieldAddr rfl fl41_0 (f.ev rfl) rfl) (ov rfl (fun a f=>run_load1 rfl one26 (f.ev rfl) (S.cell 0 rfl rfl)) (mv rfl rfl fun a f=>?_)))
   obtain ⟨hk109,hM106⟩:=chk_ex hM106
   replace hk109:=ixB_t hk109
   revert a;refine ov rfl (fun a f=>run_ix rfl Tryz.underlying26 sz4 (f.ev rfl) (S.rc0 h0.rc) (f.ev rfl) hk109) (ov rfl (fun a f=>run_load1 rfl one4 (f.ev rfl) (rd_el0 (l:=x0) (S.rc0 h0.rc).rd rfl eB_len false (ix_ltn hk109 rfl) rfl)) (mv rfl rfl fun a f=>?_))
   revert a;refine gt rfl rfl rfl rfl (fun a f hg=>run_fieldAddr rfl fl41_1 (f.ev rfl) rfl) (gt rfl rfl rfl rfl (fun a f hg=>run_load1 rfl one26 ((f.ev rfl).trans (gv_t hg)) (S.cell 0 rfl rfl)) (gt rfl rfl rfl rfl (fun a f hg=>run_move rfl (f.ev rfl)) fun a f=>?_))
   obtain ⟨hk110,hM106⟩:=chk_ex hM106
   replace hk110:=fun hg=>ixB_t (imp_t hk110 hg)
   revert a;refine gt rfl rfl rfl rfl (fun a f hg=>run_ix rfl Tryz.underlying26 sz4 ((f.ev rfl).trans (gv_t hg)) (S.rc0 h1.rc) ((f.ev rfl).trans (gv_t hg)) (hk110 hg)) (gt rfl rfl rfl rfl (fun a f hg=>run_load1 rfl one4 ((f.ev rfl).trans (gv_t hg)) (rd_el0 (l:=x1) (S.rc0 h1.rc).rd rfl eB_len false (ix_ltn (hk110 hg) rfl) rfl)) (ov rfl (fun a f=>run_pick_and rfl (f.ev rfl) (fun hp=>((f.ev rfl).trans (gv_t hp))) rfl) fun a f=>wn ?_))
   cases hc111:((x0.getD p107.toNat false)&&(x1.getD p107.toNat false))
   ·replace hM106:=bif_f hc111 hM106
    refine cond_f f rfl hc111 ?_
    refine wp_skip ?_
    revert a;refine rl (mv rfl rfl (ov rfl (fun a f=>run_add (z:=w64 (p107+1)) (f.ev rfl) rfl rfl rfl) (ag rfl rfl fun a f=>wn ?_)))
    exact ⟨f1,Nat.lt_succ_self _,w64 (p107+1),hM106,f.keep _ ⟨rfl,rfl,rfl,trivial⟩,S.sel [0] rfl rfl⟩
   replace hM106:=bif_t hc111 hM106
   refine cond_t f rfl hc111 ?_
   revert a;refine sr (ov rfl (fun a f=>run_assign rfl rfl) fun a f=>wn ?_)
   refine wp_ret ?_
   repeat with_reducible first|apply tr|apply ir|apply nr
   refine ret1_gw (.inl rfl) f rfl (res_tmp (f.ev rfl)) ?_
   obtain rfl:=Option.some.inj hM106
   obtain rfl:=Option.some.inj hM
   exact ⟨rfl,S.sel [] rfl rfl⟩
  rintro a u ⟨p104,rfl,f,S⟩
  replace hM:=elim_l hM
  refine ws ?_
  revert a;refine sr (ov rfl (fun a f=>run_assign rfl rfl) fun a f=>wn ?_)
  obtain ⟨o113,hM114,hM⟩:=bind_ex hM
  refine wp_cut (fun a u=>∃ (p112:Unit),(Sum.inl p112)=o113∧Fr a 88 [(2,.bool false)]∧St w u []) ?_ ?_
  ·have _:=trivial
   refine wp_block ?_
   refine loop_gw (fun m a u=>∃ (p115:Int),m_spec_WorkValid_l2 x0 x1 x2 m p115=some _∧Fr a 88 [(1,.pointer (some ⟨g101,0,none⟩)),(2,.bool false),(4,iv p115)]∧St w u [.box g101 41 #[.slice A0 x0.length c0,.slice A1 x1.length c1,.slice A2 x2.length c2]]) FUEL ⟨0,hM114,f.keep _ ⟨rfl,rfl,rfl,trivial⟩,S.sel [0] rfl rfl⟩ ?_
   clear f S hM114;rintro m a u ⟨p115,hM114,f,S⟩
   rcases m with _ | f2
   ·exact none_some hM114
   rw [m_spec_WorkValid_l2.eq_2] at hM114
   refine ws ?_
   revert a;refine sr (mv rfl rfl (ov rfl (fun a f=>run_fieldAddr rfl fl41_2 (f.ev rfl) rfl) (ov rfl (fun a f=>run_load1 rfl one39 (f.ev rfl) (S.cell 0 rfl rfl)) (ov rfl (fun a f=>run_lenL rfl rfl Tryz.underlying39 (f.ev rfl)) (ov rfl (fun a f=>run_lss (f.ev rfl) (f.ev rfl) rfl) fun a f=>wn ?_)))))
   cases hc116:(ltB p115 (x2.length:Int))
   ·replace hM114:=bif_f hc116 hM114
    refine cond_f f rfl hc116 ?_
    refine wp_exit ?_
    repeat with_reducible first|apply then_exit|apply in_hit|refine in_miss rfl ?_
    obtain rfl:=Option.some.inj hM114
    exact ⟨(),rfl,f.keep _ ⟨rfl,trivial⟩,S.sel [] rfl rfl⟩
   replace hM114:=bif_t hc116 hM114
   refine cond_t f rfl hc116 ?_
   refine wp_skip ?_
   refine ws ?_
   refine wp_block ?_
   revert a;refine sr (ov rfl (fun a f=>run_fieldAddr rfl fl41_2 (f.ev rfl) rfl) (ov rfl (fun a f=>run_load1 rfl one39 (f.ev rfl) (S.cell 0 rfl rfl)) (mv rfl rfl fun a f=>?_)))
   obtain ⟨hk117,hM114⟩:=chk_ex hM114
   replace hk117:=ixB_t hk117
   revert a;refine ov rfl (fun a f=>run_ix rfl Tryz.underlying39 sz78 (f.ev rfl) (S.rc0 h2.rc) (f.ev rfl) hk117) (ov rfl (fun a f=>run_loadN (cs:=#[iv ((x2.getD p115.toNat (0,0)).1),iv ((x2.getD p115.toNat (0,0)).2)]) rfl ag78 (f.ev rfl) rfl (rd_elN (l:=x2) (S.rc0 h2.rc).rd rfl ePermit_len (0,0) (ix_ltn hk117 rfl) rfl)) fun a f=>?_)
   refine op_new (cs:=#[iv 0,iv 0]) rfl rfl f rfl S (run_allocZ rfl zr78) ?_;clear f S;intro a g118 u f S
   refine op_do rfl rfl (run_store (cs':=#[iv ((x2.getD p115.toNat (0,0)).1),iv ((x2.getD p115.toNat (0,0)).2)]) rfl sz78 (f.ev rfl) (f.ev rfl) rfl rfl rfl (S.free 0 rfl) rfl rfl) ?_;replace S:=S.put 0 rfl (#[iv ((x2.getD p115.toNat (0,0)).1),iv ((x2.getD p115.toNat (0,0)).2)])
   generalize World.setRow _ _ _=u at S ⊢
   refine wn ?_
   revert a;refine sr (ov rfl (fun a f=>run_fieldAddr rfl fl78_0 (f.ev rfl) rfl) (ov rfl (fun a f=>run_load1 rfl one3 (f.ev rfl) (S.cell 0 rfl rfl)) fun a f=>?_))
   obtain ⟨p119,h119,hM114⟩:=bind_ex hM114
   refine op_call rfl rfl f rfl (run_call (vs:=[_,_,_]) rfl rfl co51 ⟨(f.ev rfl),rfl,rfl,trivial⟩) (c_spec_l1In  h119) ?_
   rintro e u ⟨rfl,T⟩
   refine ⟨_,rfl,?_⟩
   clear f;intro a f
   replace S:=S.call0 T;clear T
   revert a;refine ov rfl (fun a f=>run_not rfl (f.ev rfl)) (mv rfl rfl fun a f=>?_)
   revert a;refine gf rfl rfl rfl rfl (fun a f hg=>run_fieldAddr rfl fl78_1 (f.ev rfl) rfl) (gf rfl rfl rfl rfl (fun a f hg=>run_load1 rfl one3 ((f.ev rfl).trans (gv_t hg)) (S.cell 0 rfl rfl)) (gf rfl rfl rfl rfl (fun a f hg=>run_fieldAddr rfl fl41_0 (f.ev rfl) rfl) (gf rfl rfl rfl rfl (fun a f hg=>run_load1 rfl one26 ((f.ev rfl).trans (gv_t hg)) (S.cell 1 rfl rfl)) (gf rfl rfl rfl rfl (fun a f hg=>run_lenL rfl rfl Tryz.underlying26 ((f.ev rfl).trans (gv_t hg))) (gf rfl rfl rfl rfl (fun a f hg=>run_sub (z:=w64 ((x0.length:Int)-1)) ((f.ev rfl).trans (gv_t hg)) rfl rfl rfl) fun a f=>?_)))))
   obtain ⟨p120,h120,hM114⟩:=bind_ex hM114
   refine op_gcall (v:=.bool p120) rfl rfl f rfl S (yf (gw_yield f rfl rfl rfl)) (fun hg=>(run_call (vs:=[iv ((x2.getD p115.toNat (0,0)).2),iv 0,iv (w64 ((x0.length:Int)-1))]) rfl rfl co51 ⟨((f.ev rfl).trans (gv_t hg)),rfl,((f.ev rfl).trans (gv_t hg)),trivial⟩)) (fun hg=>c_spec_l1In (x0:=(x2.getD p115.toNat (0,0)).2) (x1:=0) (x2:=w64 ((x0.length:Int)-1))  (gb_t h120 hg)) ?_;clear f S;intro a u f S
   revert a;refine gf rfl rfl rfl rfl (fun a f hg=>run_not rfl ((f.ev rfl).trans (gv_t hg))) fun a f=>?_
   revert a;refine ov rfl (fun a f=>run_pick_or rfl (f.ev rfl) rfl (fun hp=>((f.ev rfl).trans (gv_t (not_t hp))))) (mv rfl rfl fun a f=>?_)
   revert a;refine gf rfl rfl rfl rfl (fun a f hg=>run_fieldAddr rfl fl41_1 (f.ev rfl) rfl) (gf rfl rfl rfl rfl (fun a f hg=>run_load1 rfl one26 ((f.ev rfl).trans (gv_t hg)) (S.cell 1 rfl rfl)) (gf rfl rfl rfl rfl (fun a f hg=>run_fieldAddr rfl fl78_1 (f.ev rfl) rfl) (gf rfl rfl rfl rfl (fun a f hg=>run_load1 rfl one3 ((f.ev rfl).trans (gv_t hg)) (S.cell 0 rfl rfl)) fun a f=>?_)))
   obtain ⟨hk121,hM114⟩:=chk_ex hM114
   replace hk121:=fun hg=>ixB_t (imp_t hk121 hg)
   revert a;refine gf rfl rfl rfl rfl (fun a f hg=>run_ix rfl Tryz.underlying26 sz4 ((f.ev rfl).trans (gv_t hg)) (S.rc0 h1.rc) ((f.ev rfl).trans (gv_t hg)) (hk121 hg)) (gf rfl rfl rfl rfl (fun a f hg=>run_load1 rfl one4 ((f.ev rfl).trans (gv_t hg)) (rd_el0 (l:=x1) (S.rc0 h1.rc).rd rfl eB_len false (ix_ltn (hk121 hg) rfl) rfl)) (gf rfl rfl rfl rfl (fun a f hg=>run_not rfl ((f.ev rfl).trans (gv_t hg))) fun a f=>?_))
   revert a;refine ov rfl (fun a f=>run_pick_or rfl (f.ev rfl) rfl (fun hp=>((f.ev rfl).trans (gv_t (not_t hp))))) (mv rfl rfl fun a f=>?_)
   revert a;refine gf rfl rfl rfl rfl (fun a f hg=>run_fieldAddr rfl fl41_2 (f.ev rfl) rfl) (gf rfl rfl rfl rfl (fun a f hg=>run_load1 rfl one39 ((f.ev rfl).trans (gv_t hg)) (S.cell 1 rfl rfl)) (gf rfl rfl rfl rfl (fun a f hg=>run_loadN rfl ag78 (f.ev rfl) rfl ((S.free 0 rfl).cells 0 #[iv ((x2.getD p115.toNat (0,0)).1),iv ((x2.getD p115.toNat (0,0)).2)] rfl)) fun a f=>?_))
   obtain ⟨p122,h122,hM114⟩:=bind_ex hM114
   refine op_gcall (v:=iv p122) rfl rfl f rfl S (yf (gw_yield f rfl rfl rfl)) (fun hg=>(run_call (vs:=[.slice A2 x2.length c2,.agg #[iv ((x2.getD p115.toNat (0,0)).1),iv ((x2.getD p115.toNat (0,0)).2)]]) rfl rfl co90 ⟨((f.ev rfl).trans (gv_t hg)),((f.ev rfl).trans (gv_t hg)),trivial⟩)) (fun hg=>c_spec_l12Find (x0:=x2) (x1:=(x2.getD p115.toNat (0,0)).1) (x2:=(x2.getD p115.toNat (0,0)).2) ⟨(S.rc0 h2.rc),rfl⟩ (gb_t h122 hg)) ?_;clear f S;intro a u f S
   revert a;refine gf rfl rfl rfl rfl (fun a f hg=>run_move rfl (f.ev rfl)) (gf rfl rfl rfl rfl (fun a f hg=>run_lss ((f.ev rfl).trans (gv_t hg)) ((f.ev rfl).trans (gv_t hg)) rfl) (ov rfl (fun a f=>run_pick_or rfl (f.ev rfl) rfl (fun hp=>((f.ev rfl).trans (gv_t (not_t hp))))) fun a f=>wn ?_))
   cases hc123:((((!p119)||(!p120))||(!(x1.getD (((x2.getD p115.toNat (0,0)).2).toNat) false)))||(ltB p122 p115))
   ·replace hM114:=bif_f hc123 hM114
    refine cond_f f rfl hc123 ?_
    refine wp_skip ?_
    revert a;refine rl (mv rfl rfl (ov rfl (fun a f=>run_add (z:=w64 (p115+1)) (f.ev rfl) rfl rfl rfl) (ag rfl rfl fun a f=>wn ?_)))
    exact ⟨f2,Nat.lt_succ_self _,w64 (p115+1),hM114,f.keep _ ⟨rfl,rfl,rfl,trivial⟩,S.sel [1] rfl rfl⟩
   replace hM114:=bif_t hc123 hM114
   refine cond_t f rfl hc123 ?_
   revert a;refine sr (ov rfl (fun a f=>run_assign rfl rfl) fun a f=>wn ?_)
   refine wp_ret ?_
   repeat with_reducible first|apply tr|apply ir|apply nr
   refine ret1_gw (.inl rfl) f rfl (res_tmp (f.ev rfl)) ?_
   obtain rfl:=Option.some.inj hM114
   obtain rfl:=Option.some.inj hM
   exact ⟨rfl,S.sel [] rfl rfl⟩
  rintro a u ⟨p112,rfl,f,S⟩
  replace hM:=elim_l hM
  revert a;refine sr (ov rfl (fun a f=>run_assign rfl rfl) fun a f=>wn ?_)
  refine wp_ret ?_
  refine ret1_gw (.inl rfl) f rfl (res_tmp (f.ev rfl)) ?_
  obtain rfl:=Option.some.inj hM
  exact ⟨rfl,S.sel [] rfl rfl⟩
 replace hM:=bif_t hc103 hM
 refine cond_t f rfl hc103 ?_
 revert a;refine sr (ov rfl (fun a f=>run_assign rfl rfl) fun a f=>wn ?_)
 refine wp_ret ?_
 repeat with_reducible first|apply tr|apply ir|apply nr
 refine ret1_gw (.inl rfl) f rfl (res_tmp (f.ev rfl)) ?_
 obtain rfl:=Option.some.inj hM
 exact ⟨rfl,S.sel [] rfl rfl⟩
theorem c_spec_StateValid {x0:Int} {x1:List (Int×Int×Int)} {x2:List Bool} {A1:Option Addr} {n1 c1:Nat} {A2:Option Addr} {n2 c2:Nat} {w:World} {r:Bool} (h1:Rt w 3 eLine A1 n1 c1 x1) (h2:Rt w 1 eB A2 n2 c2 x2) (hM : m_spec_StateValid x0 x1 x2=some r) :
  Calls Tryz.prog 125 #[.agg #[iv x0,.slice A1 n1 c1],.slice A2 n2 c2] w (fun e w'=>e=.returned (.bool r)∧St w w' []):=by
 obtain rfl:=h1.len
 obtain rfl:=h2.len
 unfold m_spec_StateValid at hM
 refine calls_gx Tryz.func125 Tryz.ntmps125 rfl rfl ?_
 intro a f
 have S:=St.nil w
 refine wsg ?_
 refine op_new (cs:=#[iv x0,.slice A1 x1.length c1]) rfl rfl f rfl S (run_box rfl (f.ev rfl) rfl) ?_;clear f S;intro a g101 u f S
 revert a;refine ov rfl (fun a f=>run_assign rfl rfl) fun a f=>wn ?_
 revert a;refine sr (ov rfl (fun a f=>run_loadN rfl ag37 (f.ev rfl) rfl ((S.free 0 rfl).cells 0 #[iv x0,.slice A1 x1.length c1] rfl)) fun a f=>?_)
 obtain ⟨p102,h102,hM⟩:=bind_ex hM
 refine op_call rfl rfl f rfl (run_call (vs:=[_]) rfl rfl co106 ⟨(f.ev rfl),trivial⟩) (c_spec_NetValid ⟨(S.rc0 h1.rc),rfl⟩ h102) ?_
 rintro e u ⟨rfl,T⟩
 refine ⟨_,rfl,?_⟩
 clear f;intro a f
 replace S:=S.call0 T;clear T
 revert a;refine mv rfl rfl (gt rfl rfl rfl rfl (fun a f hg=>run_move rfl (f.ev rfl)) (gt rfl rfl rfl rfl (fun a f hg=>run_lenL rfl rfl Tryz.underlying26 ((f.ev rfl).trans (gv_t hg))) (gt rfl rfl rfl rfl (fun a f hg=>run_fieldAddr rfl fl37_1 (f.ev rfl) rfl) (gt rfl rfl rfl rfl (fun a f hg=>run_load1 rfl one35 ((f.ev rfl).trans (gv_t hg)) (S.cell 0 rfl rfl)) (gt rfl rfl rfl rfl (fun a f hg=>run_lenL rfl rfl Tryz.underlying35 ((f.ev rfl).trans (gv_t hg))) (gt rfl rfl rfl rfl (fun a f hg=>run_eql ((f.ev rfl).trans (gv_t hg)) ((f.ev rfl).trans (gv_t hg)) rfl) fun a f=>?_))))))
 revert a;refine ov rfl (fun a f=>run_pick_and rfl (f.ev rfl) (fun hp=>((f.ev rfl).trans (gv_t hp))) rfl) (ag rfl rfl fun a f=>wn ?_)
 refine wp_ret ?_
 refine ret1_gw (.inl rfl) f rfl (res_tmp (f.ev rfl)) ?_
 obtain rfl:=Option.some.inj hM
 exact ⟨rfl,S.sel [] rfl rfl⟩
theorem c_spec_l5Ok {x0:Int} {x1:List (Int×Int×Int)} {x2:List Bool} {x3:List (Int×Int)} {A1:Option Addr} {n1 c1:Nat} {A2:Option Addr} {n2 c2:Nat} {A3:Option Addr} {n3 c3:Nat} {w:World} {r:Bool} (h1:Rt w 3 eLine A1 n1 c1 x1) (h2:Rt w 1 eB A2 n2 c2 x2) (h3:Rt w 2 eBus A3 n3 c3 x3) (hM : m_spec_l5Ok x0 x1 x2 x3=some r) :
  Calls Tryz.prog 91 #[.agg #[iv x0,.slice A1 n1 c1],.slice A2 n2 c2,.slice A3 n3 c3] w (fun e w'=>e=.returned (.bool r)∧St w w' []):=by
 obtain rfl:=h1.len
 obtain rfl:=h2.len
 obtain rfl:=h3.len
 unfold m_spec_l5Ok at hM
 refine calls_gx Tryz.func91 Tryz.ntmps91 rfl rfl ?_
 intro a f
 have S:=St.nil w
 refine wsg ?_
 refine op_new (cs:=#[iv x0,.slice A1 x1.length c1]) rfl rfl f rfl S (run_box rfl (f.ev rfl) rfl) ?_;clear f S;intro a g101 u f S
 revert a;refine ov rfl (fun a f=>run_assign rfl rfl) fun a f=>wn ?_
 revert a;refine sr (ov rfl (fun a f=>run_loadN rfl ag37 (f.ev rfl) rfl ((S.free 0 rfl).cells 0 #[iv x0,.slice A1 x1.length c1] rfl)) (mv rfl rfl fun a f=>?_))
 obtain ⟨p102,h102,hM⟩:=bind_ex hM
 refine op_call rfl rfl f rfl (run_call (vs:=[_,_]) rfl rfl co125 ⟨(f.ev rfl),(f.ev rfl),trivial⟩) (c_spec_StateValid ⟨(S.rc0 h1.rc),rfl⟩ ⟨(S.rc0 h2.rc),rfl⟩ h102) ?_
 rintro e u ⟨rfl,T⟩
 refine ⟨_,rfl,?_⟩
 clear f;intro a f
 replace S:=S.call0 T;clear T
 revert a;refine mv rfl rfl (gt rfl rfl rfl rfl (fun a f hg=>run_loadN rfl ag37 (f.ev rfl) rfl ((S.free 0 rfl).cells 0 #[iv x0,.slice A1 x1.length c1] rfl)) (gt rfl rfl rfl rfl (fun a f hg=>run_move rfl (f.ev rfl)) fun a f=>?_))
 obtain ⟨p103,h103,hM⟩:=bind_ex hM
 refine op_gcall (v:=.bool p103) rfl rfl f rfl S (yt (gw_yield f rfl rfl rfl)) (fun hg=>(run_call (vs:=[.agg #[iv x0,.slice A1 x1.length c1],.slice A3 x3.length c3]) rfl rfl co68 ⟨((f.ev rfl).trans (gv_t hg)),((f.ev rfl).trans (gv_t hg)),trivial⟩)) (fun hg=>c_spec_BusesValid (x0:=x0) (x1:=x1) (x2:=x3) ⟨(S.rc0 h1.rc),rfl⟩ ⟨(S.rc0 h3.rc),rfl⟩ (gb_t h103 hg)) ?_;clear f S;intro a u f S
 revert a;refine ov rfl (fun a f=>run_pick_and rfl (f.ev rfl) (fun hp=>((f.ev rfl).trans (gv_t hp))) rfl) (ag rfl rfl fun a f=>wn ?_)
 refine wp_ret ?_
 refine ret1_gw (.inl rfl) f rfl (res_tmp (f.ev rfl)) ?_
 obtain rfl:=Option.some.inj hM
 exact ⟨rfl,S.sel [] rfl rfl⟩
theorem c_spec_l2Copy {x0:List Bool} {A0:Option Addr} {n0 c0:Nat} {w:World} {r:List Bool} (h0:Rt w 1 eB A0 n0 c0 x0) (hM : m_spec_l2Copy x0=some r) :
  Calls Tryz.prog 124 #[.slice A0 n0 c0] w (fun e w'=>∃ (B0:Option Addr) (N0 D0:Nat),e=.returned (.slice B0 N0 D0)∧N0=r.length∧St w w' [.row 4 1 (.slice B0 N0 D0) N0 (r.flatMap eB)]):=by
 obtain rfl:=h0.len
 unfold m_spec_l2Copy at hM
 refine calls_gx Tryz.func124 Tryz.ntmps124 rfl rfl ?_
 intro a f
 have S:=St.nil w
 revert a;refine sr (ov rfl (fun a f=>run_assign rfl rfl) fun a f=>wn ?_)
 refine wsg ?_
 refine op_newrow (cs:=#[]) (size:=1) rfl rfl f rfl S (run_buildSlice0 rfl Tryz.underlying26 (congrArg Option.isSome sz4)) rfl (Nat.zero_le _) ?_;clear f S;intro a g101 u f S
 revert a;refine mv rfl rfl fun a f=>?_
 obtain ⟨hk104,hM⟩:=chk_ex hM
 replace hk104:=apB_t hk104
 refine op_appendL (lx:=[]) (ly:=x0) rfl rfl f rfl S rfl (f.ev rfl) (f.ev rfl) (i:=0) rfl rfl Tryz.underlying26 inf4 rfl (by decide) (S.rc0 h0.rc).rd rfl eB_one hk104 (by decide) ?_;clear f S;intro a B102 d103 u f S
 revert a;refine ag rfl rfl fun a f=>wn ?_
 refine wp_ret ?_
 refine ret1_gw (.inl rfl) f rfl (res_tmp (f.ev rfl)) ?_
 obtain rfl:=Option.some.inj hM
 exact ⟨B102,((([]:List Bool)++x0).length),d103,rfl,rfl,S.sel [0] rfl rfl⟩
theorem c_spec_SwitchLine {x0:Int} {x1:List (Int×Int×Int)} {x2:List Bool} {x3:Int} {x4:Bool} {A1:Option Addr} {n1 c1:Nat} {A2:Option Addr} {n2 c2:Nat} {w:World} {r:List Bool×Bool} (h1:Rt w 3 eLine A1 n1 c1 x1) (h2:Rt w 1 eB A2 n2 c2 x2) (hM : m_spec_SwitchLine x0 x1 x2 x3 x4=some r) :
  Calls Tryz.prog 145 #[.agg #[iv x0,.slice A1 n1 c1],.slice A2 n2 c2,iv x3,.bool x4] w (fun e w'=>∃ (B0:Option Addr) (N0 D0:Nat),e=.returned (.tuple #[.slice B0 N0 D0,.bool r.2])∧N0=r.1.length∧St w w' [.row 4 1 (.slice B0 N0 D0) N0 (r.1.flatMap eB)]):=by
 obtain rfl:=h1.len
 obtain rfl:=h2.len
 unfold m_spec_SwitchLine at hM
 refine calls_gx Tryz.func145 Tryz.ntmps145 rfl rfl ?_
 intro a f
 have S:=St.nil w
 refine wsg ?_
 refine op_new (cs:=#[iv x0,.slice A1 x1.length c1]) rfl rfl f rfl S (run_box rfl (f.ev rfl) rfl) ?_;clear f S;intro a g101 u f S
 revert a;refine ov rfl (fun a f=>run_assign rfl rfl) (ov rfl (fun a f=>run_assign rfl rfl) fun a f=>wn ?_)
 refine ws ?_
 revert a;refine sr (ov rfl (fun a f=>run_loadN rfl ag37 (f.ev rfl) rfl ((S.free 0 rfl).cells 0 #[iv x0,.slice A1 x1.length c1] rfl)) (mv rfl rfl fun a f=>?_))
 obtain ⟨p102,h102,hM⟩:=bind_ex hM
 refine op_call rfl rfl f rfl (run_call (vs:=[_,_]) rfl rfl co125 ⟨(f.ev rfl),(f.ev rfl),trivial⟩) (c_spec_StateValid ⟨(S.rc0 h1.rc),rfl⟩ ⟨(S.rc0 h2.rc),rfl⟩ h102) ?_
 rintro e u ⟨rfl,T⟩
 refine ⟨_,rfl,?_⟩
 clear f;intro a f
 replace S:=S.call0 T;clear T
 revert a;refine ov rfl (fun a f=>run_not rfl (f.ev rfl)) fun a f=>wn ?_
 cases hc103:(p102)
 ·replace hM:=bif_f hc103 hM
  refine cond_t f rfl (not_t hc103) ?_
  refine wsg ?_
  refine op_newrow (cs:=#[]) (size:=1) rfl rfl f rfl S (run_buildSlice0 rfl Tryz.underlying26 (congrArg Option.isSome sz4)) rfl (Nat.zero_le _) ?_;clear f S;intro a g104 u f S
  revert a;refine ag rfl rfl (ov rfl (fun a f=>run_assign rfl rfl) fun a f=>wn ?_)
  refine wp_ret ?_
  repeat with_reducible first|apply tr|apply ir|apply nr
  refine ret2_gw (.inl rfl) f rfl (res_tmp (f.ev rfl)) (res_tmp (f.ev rfl)) ?_
  obtain rfl:=Option.some.inj hM
  exact ⟨(some ⟨g104,0,none⟩),0,0,rfl,rfl,S.sel [0] rfl rfl⟩
 replace hM:=bif_t hc103 hM
 refine cond_f f rfl (not_f hc103) ?_
 refine wp_skip ?_
 revert a;refine sr (mv rfl rfl fun a f=>?_)
 obtain ⟨p105,h105,hM⟩:=bind_ex hM
 refine op_call rfl rfl f rfl (run_call (vs:=[_]) rfl rfl co124 ⟨(f.ev rfl),trivial⟩) (c_spec_l2Copy ⟨(S.rc0 h2.rc),rfl⟩ h105) ?_
 rintro e u ⟨B106,n107,d108,rfl,rfl,T⟩
 refine ⟨_,rfl,?_⟩
 clear f;intro a f
 replace S:=S.call1 T;clear T
 revert a;refine ag rfl rfl fun a f=>wn ?_
 refine ws ?_
 revert a;refine sr (mv rfl rfl (mv rfl rfl (ov rfl (fun a f=>run_lenL rfl rfl Tryz.underlying26 (f.ev rfl)) (ov rfl (fun a f=>run_sub (z:=w64 ((x2.length:Int)-1)) (f.ev rfl) rfl rfl rfl) fun a f=>?_))))
 obtain ⟨p109,h109,hM⟩:=bind_ex hM
 refine op_call rfl rfl f rfl (run_call (vs:=[_,_,_]) rfl rfl co51 ⟨(f.ev rfl),rfl,(f.ev rfl),trivial⟩) (c_spec_l1In  h109) ?_
 rintro e u ⟨rfl,T⟩
 refine ⟨_,rfl,?_⟩
 clear f;intro a f
 replace S:=S.call0 T;clear T
 revert a;refine ov rfl (fun a f=>run_not rfl (f.ev rfl)) fun a f=>wn ?_
 cases hc110:(p109)
 ·replace hM:=bif_f hc110 hM
  refine cond_t f rfl (not_t hc110) ?_
  revert a;refine sr (mv rfl rfl (ag rfl rfl (ov rfl (fun a f=>run_assign rfl rfl) fun a f=>wn ?_)))
  refine wp_ret ?_
  repeat with_reducible first|apply tr|apply ir|apply nr
  refine ret2_gw (.inl rfl) f rfl (res_tmp (f.ev rfl)) (res_tmp (f.ev rfl)) ?_
  obtain rfl:=Option.some.inj hM
  exact ⟨B106,p105.length,d108,rfl,rfl,S.sel [0] rfl rfl⟩
 replace hM:=bif_t hc110 hM
 refine cond_f f rfl (not_f hc110) ?_
 refine wp_skip ?_
 revert a;refine sr (mv rfl rfl (mv rfl rfl (mv rfl rfl fun a f=>?_)))
 obtain ⟨hk111,hM⟩:=chk_ex hM
 replace hk111:=ixB_t hk111
 revert a;refine ov rfl (fun a f=>run_ix rfl Tryz.underlying26 sz4 (f.ev rfl) (S.rc 0 rfl) (f.ev rfl) hk111) fun a f=>?_
 obtain ⟨w',hrun,S'⟩:=run_storeElN (P:=Tryz.prog) (ρ:=a.eval) (y0:=x4) (off:=0) S 4 (.tmp 28) (.tmp 27) (i:=0) sz4 (f.ev rfl) (f.ev rfl) rfl rfl rfl rfl rfl eB_len false (ix_ltn hk111 rfl) rfl rfl
 refine op_do rfl rfl (hrun _ rfl) ?_;clear hrun S;have S:=S';clear S';generalize w'=u at S ⊢
 refine wn ?_
 revert a;refine sr (mv rfl rfl (ag rfl rfl (ov rfl (fun a f=>run_assign rfl rfl) fun a f=>wn ?_)))
 refine wp_ret ?_
 refine ret2_gw (.inl rfl) f rfl (res_tmp (f.ev rfl)) (res_tmp (f.ev rfl)) ?_
 obtain rfl:=Option.some.inj hM
 exact ⟨B106,p105.length,d108,rfl,(len_set rfl),S.sel [0] rfl rfl⟩
theorem c_spec_l3Reach {x0:Int} {x1:List (Int×Int×Int)} {x2:List Bool} {x3:Int} {A1:Option Addr} {n1 c1:Nat} {A2:Option Addr} {n2 c2:Nat} {w:World} {r:List Bool} (h1:Rt w 3 eLine A1 n1 c1 x1) (h2:Rt w 1 eB A2 n2 c2 x2) (hM : m_spec_l3Reach x0 x1 x2 x3=some r) :
  Calls Tryz.prog 146 #[.agg #[iv x0,.slice A1 n1 c1],.slice A2 n2 c2,iv x3] w (fun e w'=>∃ (B0:Option Addr) (N0 D0:Nat),e=.returned (.slice B0 N0 D0)∧N0=r.length∧St w w' [.row 4 1 (.slice B0 N0 D0) N0 (r.flatMap eB)]):=by
 obtain rfl:=h1.len
 obtain rfl:=h2.len
 unfold m_spec_l3Reach at hM
 refine calls_gx Tryz.func146 Tryz.ntmps146 rfl rfl ?_
 intro a f
 have S:=St.nil w
 refine wsg ?_
 refine op_new (cs:=#[iv x0,.slice A1 x1.length c1]) rfl rfl f rfl S (run_box rfl (f.ev rfl) rfl) ?_;clear f S;intro a g101 u f S
 revert a;refine ov rfl (fun a f=>run_assign rfl rfl) fun a f=>wn ?_
 revert a;refine sr (ov rfl (fun a f=>run_fieldAddr rfl fl37_0 (f.ev rfl) rfl) (ov rfl (fun a f=>run_load1 rfl one3 (f.ev rfl) (S.cell 0 rfl rfl)) fun a f=>?_))
 obtain ⟨hk103,hM⟩:=chk_ex hM
 replace hk103:=mkB_t hk103
 refine op_newrowL (m:=x0.toNat) (ls:=List.replicate x0.toNat false) (e:=eB) rfl rfl f rfl S (run_makeL rfl (f.ev rfl) (f.ev rfl) Tryz.underlying26 inf4 eB_len rfl (by decide) hk103) List.length_replicate eB_len (by rw [List.length_replicate];omega) ?_;clear f S;intro a g102 u f S
 revert a;refine ag rfl rfl fun a f=>wn ?_
 revert a;refine sr (mv rfl rfl (mv rfl rfl fun a f=>?_))
 obtain ⟨hk104,hM⟩:=chk_ex hM
 replace hk104:=ixB_t hk104
 revert a;refine ov rfl (fun a f=>run_indexAddr (b:=adB (some ⟨g102,0,none⟩)) (off:=adO (some ⟨g102,0,none⟩)) rfl Tryz.underlying26 sz4 ((f.ev rfl).trans (congrArg (fun A=>Value.slice A x0.toNat x0.toNat) ((S.rc 0 rfl).rd.ad (ix_pos hk104)))) (f.ev rfl) hk104.1 hk104.2 (k':=adO (some ⟨g102,0,none⟩)+x3.toNat*1) rfl) fun a f=>?_
 obtain ⟨w',hrun,S'⟩:=run_storeElN (P:=Tryz.prog) (ρ:=a.eval) (y0:=true) (off:=0) S 4 (.tmp 16) (.const (.bool true)) (i:=0) sz4 (f.ev rfl) rfl rfl rfl rfl rfl List.length_replicate.symm eB_len false (ix_ltn hk104 List.length_replicate.symm) rfl rfl
 refine op_do rfl rfl (hrun _ rfl) ?_;clear hrun S;have S:=S';clear S';generalize w'=u at S ⊢
 refine wn ?_
 refine ws ?_
 revert a;refine sr (ov rfl (fun a f=>run_assign rfl rfl) fun a f=>wn ?_)
 obtain ⟨o106,hM108,hM⟩:=bind_ex hM
 refine wp_cut (fun a u=>∃ (p105:List Bool),p105=o106∧x0.toNat=p105.length∧Fr a 62 [(6,.slice none 0 0),(7,.slice (some ⟨g102,0,none⟩) x0.toNat x0.toNat)]∧St w u [.row 4 1 (.slice (some ⟨g102,0,none⟩) x0.toNat x0.toNat) x0.toNat (p105.flatMap eB)]) ?_ ?_
 ·have _:=trivial
  refine wp_block ?_
  refine loop_gw (fun m a u=>∃ (p109:List Bool×Int),m_spec_l3Reach_l1 x0 x1 x2 m p109=some _∧x0.toNat=p109.1.length∧Fr a 62 [(1,.slice A2 x2.length c2),(3,.pointer (some ⟨g101,0,none⟩)),(6,.slice none 0 0),(7,.slice (some ⟨g102,0,none⟩) x0.toNat x0.toNat),(8,iv p109.2)]∧St w u [.box g101 37 #[iv x0,.slice A1 x1.length c1],.row 4 1 (.slice (some ⟨g102,0,none⟩) x0.toNat x0.toNat) x0.toNat (p109.1.flatMap eB)]) FUEL ⟨((List.replicate x0.toNat false).set x3.toNat true,0),hM108,(len_set List.length_replicate.symm),f.keep _ ⟨rfl,rfl,rfl,rfl,rfl,trivial⟩,S.sel [1,0] rfl rfl⟩ ?_
  clear f S hM108;rintro m a u ⟨p109,hM108,hn110,f,S⟩
  rcases m with _ | f1
  ·exact none_some hM108
  rw [m_spec_l3Reach_l1.eq_2] at hM108
  refine ws ?_
  revert a;refine sr (mv rfl rfl (ov rfl (fun a f=>run_fieldAddr rfl fl37_0 (f.ev rfl) rfl) (ov rfl (fun a f=>run_load1 rfl one3 (f.ev rfl) (S.cell 0 rfl rfl)) (ov rfl (fun a f=>run_lss (f.ev rfl) (f.ev rfl) rfl) fun a f=>wn ?_))))
  cases hc111:(ltB p109.2 x0)
  ·replace hM108:=bif_f hc111 hM108
   refine cond_f f rfl hc111 ?_
   refine wp_exit ?_
   repeat with_reducible first|apply then_exit|apply in_hit|refine in_miss rfl ?_
   obtain rfl:=Option.some.inj hM108
   exact ⟨p109.1,rfl,hn110,f.keep _ ⟨rfl,rfl,trivial⟩,S.sel [1] rfl rfl⟩
  replace hM108:=bif_t hc111 hM108
  refine cond_t f rfl hc111 ?_
  refine wp_skip ?_
  refine ws ?_
  refine wp_block ?_
  revert a;refine sr (ov rfl (fun a f=>run_assign rfl rfl) fun a f=>wn ?_)
  obtain ⟨o113,hM115,hM108⟩:=bind_ex hM108
  refine wp_cut (fun a u=>∃ (p112:List Bool),p112=o113∧x0.toNat=p112.length∧Fr a 62 [(1,.slice A2 x2.length c2),(3,.pointer (some ⟨g101,0,none⟩)),(6,.slice none 0 0),(7,.slice (some ⟨g102,0,none⟩) x0.toNat x0.toNat),(8,iv p109.2)]∧St w u [.box g101 37 #[iv x0,.slice A1 x1.length c1],.row 4 1 (.slice (some ⟨g102,0,none⟩) x0.toNat x0.toNat) x0.toNat (p112.flatMap eB)]) ?_ ?_
  ·have _:=trivial
   refine wp_block ?_
   refine loop_gw (fun m a u=>∃ (p116:List Bool×Int),m_spec_l3Reach_l2 x0 x1 x2 m p116=some _∧x0.toNat=p116.1.length∧Fr a 62 [(1,.slice A2 x2.length c2),(3,.pointer (some ⟨g101,0,none⟩)),(6,.slice none 0 0),(7,.slice (some ⟨g102,0,none⟩) x0.toNat x0.toNat),(8,iv p109.2),(9,iv p116.2)]∧St w u [.box g101 37 #[iv x0,.slice A1 x1.length c1],.row 4 1 (.slice (some ⟨g102,0,none⟩) x0.toNat x0.toNat) x0.toNat (p116.1.flatMap eB)]) FUEL ⟨(p109.1,0),hM115,hn110,f.keep _ ⟨rfl,rfl,rfl,rfl,rfl,rfl,trivial⟩,S.sel [0,1] rfl rfl⟩ ?_
   clear f S hM115;rintro m a u ⟨p116,hM115,hn117,f,S⟩
   rcases m with _ | f2
   ·exact none_some hM115
   rw [m_spec_l3Reach_l2.eq_2] at hM115
   refine ws ?_
   revert a;refine sr (mv rfl rfl (ov rfl (fun a f=>run_fieldAddr rfl fl37_1 (f.ev rfl) rfl) (ov rfl (fun a f=>run_load1 rfl one35 (f.ev rfl) (S.cell 0 rfl rfl)) (ov rfl (fun a f=>run_lenL rfl rfl Tryz.underlying35 (f.ev rfl)) (ov rfl (fun a f=>run_lss (f.ev rfl) (f.ev rfl) rfl) fun a f=>wn ?_)))))
   cases hc118:(ltB p116.2 (x1.length:Int))
   ·replace hM115:=bif_f hc118 hM115
    refine cond_f f rfl hc118 ?_
    refine wp_exit ?_
    repeat with_reducible first|apply then_exit|apply in_hit|refine in_miss rfl ?_
    obtain rfl:=Option.some.inj hM115
    exact ⟨p116.1,rfl,hn117,f.keep _ ⟨rfl,rfl,rfl,rfl,rfl,trivial⟩,S.sel [0,1] rfl rfl⟩
   replace hM115:=bif_t hc118 hM115
   refine cond_t f rfl hc118 ?_
   refine wp_skip ?_
   refine ws ?_
   refine wp_block ?_
   revert a;refine sr (ov rfl (fun a f=>run_fieldAddr rfl fl37_1 (f.ev rfl) rfl) (ov rfl (fun a f=>run_load1 rfl one35 (f.ev rfl) (S.cell 0 rfl rfl)) (mv rfl rfl fun a f=>?_)))
   obtain ⟨hk119,hM115⟩:=chk_ex hM115
   replace hk119:=ixB_t hk119
   revert a;refine ov rfl (fun a f=>run_ix rfl Tryz.underlying35 sz130 (f.ev rfl) (S.rc0 h1.rc) (f.ev rfl) hk119) (ov rfl (fun a f=>run_loadN (cs:=#[iv ((x1.getD p116.2.toNat (0,0,0)).1),iv ((x1.getD p116.2.toNat (0,0,0)).2.1),iv ((x1.getD p116.2.toNat (0,0,0)).2.2)]) rfl ag130 (f.ev rfl) rfl (rd_elN (l:=x1) (S.rc0 h1.rc).rd rfl eLine_len (0,0,0) (ix_ltn hk119 rfl) rfl)) fun a f=>?_)
   refine op_new (cs:=#[iv 0,iv 0,iv 0]) rfl rfl f rfl S (run_allocZ rfl zr130) ?_;clear f S;intro a g120 u f S
   refine op_do rfl rfl (run_store (cs':=#[iv ((x1.getD p116.2.toNat (0,0,0)).1),iv ((x1.getD p116.2.toNat (0,0,0)).2.1),iv ((x1.getD p116.2.toNat (0,0,0)).2.2)]) rfl sz130 (f.ev rfl) (f.ev rfl) rfl rfl rfl (S.free 0 rfl) rfl rfl) ?_;replace S:=S.put 0 rfl (#[iv ((x1.getD p116.2.toNat (0,0,0)).1),iv ((x1.getD p116.2.toNat (0,0,0)).2.1),iv ((x1.getD p116.2.toNat (0,0,0)).2.2)])
   generalize World.setRow _ _ _=u at S ⊢
   refine wn ?_
   revert a;refine sr (mv rfl rfl (mv rfl rfl fun a f=>?_))
   obtain ⟨hk121,hM115⟩:=chk_ex hM115
   replace hk121:=ixB_t hk121
   revert a;refine ov rfl (fun a f=>run_ix rfl Tryz.underlying26 sz4 (f.ev rfl) (S.rc0 h2.rc) (f.ev rfl) hk121) (ov rfl (fun a f=>run_load1 rfl one4 (f.ev rfl) (rd_el0 (l:=x2) (S.rc0 h2.rc).rd rfl eB_len false (ix_ltn hk121 rfl) rfl)) (mv rfl rfl fun a f=>?_))
   revert a;refine gt rfl rfl rfl rfl (fun a f hg=>run_move rfl (f.ev rfl)) (gt rfl rfl rfl rfl (fun a f hg=>run_fieldAddr rfl fl130_0 (f.ev rfl) rfl) (gt rfl rfl rfl rfl (fun a f hg=>run_load1 rfl one3 ((f.ev rfl).trans (gv_t hg)) (S.cell 0 rfl rfl)) fun a f=>?_))
   obtain ⟨hk122,hM115⟩:=chk_ex hM115
   replace hk122:=fun hg=>ixB_t (imp_t hk122 hg)
   revert a;refine gt rfl rfl rfl rfl (fun a f hg=>run_indexAddr (b:=adB (some ⟨g102,0,none⟩)) (off:=adO (some ⟨g102,0,none⟩)) rfl Tryz.underlying26 sz4 (((f.ev rfl).trans (gv_t hg)).trans (congrArg (fun A=>Value.slice A x0.toNat x0.toNat) ((S.rc 2 rfl).rd.ad (ix_pos (hk122 hg))))) ((f.ev rfl).trans (gv_t hg)) (hk122 hg).1 (hk122 hg).2 (k':=adO (some ⟨g102,0,none⟩)+(((x1.getD p116.2.toNat (0,0,0)).1).toNat)*1) rfl) (gt rfl rfl rfl rfl (fun a f hg=>run_load1 rfl one4 ((f.ev rfl).trans (gv_t hg)) (rd_el0 (l:=p116.1) (S.rc 2 rfl).rd hn117 eB_len false (ix_ltn (hk122 hg) hn117) rfl)) (gt rfl rfl rfl rfl (fun a f hg=>run_move rfl ((f.ev rfl).trans (gv_t hg))) fun a f=>?_))
   refine op_gv (v:=.slice (some ⟨g102,0,none⟩) x0.toNat x0.toNat) rfl rfl f rfl (yfG (gw_yieldG f rfl rfl rfl)) (fun hg=>(run_move rfl (f.ev rfl))) ?_;clear f;intro a f
   refine op_gv (v:=.pointer (some ⟨g120,1,none⟩)) rfl rfl f rfl (yfG (gw_yieldG f rfl rfl rfl)) (fun hg=>(run_fieldAddr rfl fl130_1 (f.ev rfl) rfl)) ?_;clear f;intro a f
   refine op_gv (v:=iv ((x1.getD p116.2.toNat (0,0,0)).2.1)) rfl rfl f rfl (yfG (gw_yieldG f rfl rfl rfl)) (fun hg=>(run_load1 rfl one3 ((f.ev rfl).trans (gv_t hg)) (S.cell 0 rfl rfl))) ?_;clear f;intro a f
   obtain ⟨hk123,hM115⟩:=chk_ex hM115
   replace hk123:=fun hg=>ixB_t (imp_t hk123 hg)
   refine op_gv (v:=.pointer (some ⟨adB (some ⟨g102,0,none⟩),adO (some ⟨g102,0,none⟩)+(((x1.getD p116.2.toNat (0,0,0)).2.1).toNat)*1,none⟩)) rfl rfl f rfl (yfG (gw_yieldG f rfl rfl rfl)) (fun hg=>(run_indexAddr (b:=adB (some ⟨g102,0,none⟩)) (off:=adO (some ⟨g102,0,none⟩)) rfl Tryz.underlying26 sz4 (((f.ev rfl).trans (gv_t hg)).trans (congrArg (fun A=>Value.slice A x0.toNat x0.toNat) ((S.rc 2 rfl).rd.ad (ix_pos (hk123 hg))))) ((f.ev rfl).trans (gv_t hg)) (hk123 hg).1 (hk123 hg).2 (k':=adO (some ⟨g102,0,none⟩)+(((x1.getD p116.2.toNat (0,0,0)).2.1).toNat)*1) rfl)) ?_;clear f;intro a f
   refine op_gv (v:=.bool (p116.1.getD (((x1.getD p116.2.toNat (0,0,0)).2.1).toNat) false)) rfl rfl f rfl (yfG (gw_yieldG f rfl rfl rfl)) (fun hg=>(run_load1 rfl one4 ((f.ev rfl).trans (gv_t hg)) (rd_el0 (l:=p116.1) (S.rc 2 rfl).rd hn117 eB_len false (ix_ltn (hk123 hg) hn117) rfl))) ?_;clear f;intro a f
   revert a;refine gt rfl rfl rfl rfl (fun a f hg=>run_pick_or rfl ((f.ev rfl).trans (gv_t hg)) rfl (fun hp=>((f.ev rfl).trans (gv_t (and_i hg (not_t hp)))))) (ov rfl (fun a f=>run_pick_and rfl (f.ev rfl) (fun hp=>((f.ev rfl).trans (gv_t hp))) rfl) fun a f=>wn ?_)
   obtain ⟨o125,hM127,hM115⟩:=bind_ex hM115
   refine wp_cut (fun a u=>∃ (p124:List Bool),p124=o125∧x0.toNat=p124.length∧Fr a 62 [(1,.slice A2 x2.length c2),(3,.pointer (some ⟨g101,0,none⟩)),(6,.slice none 0 0),(7,.slice (some ⟨g102,0,none⟩) x0.toNat x0.toNat),(8,iv p109.2),(9,iv p116.2)]∧St w u [.box g101 37 #[iv x0,.slice A1 x1.length c1],.row 4 1 (.slice (some ⟨g102,0,none⟩) x0.toNat x0.toNat) x0.toNat (p124.flatMap eB)]) ?_ ?_
   ·have _:=trivial
    cases hc128:((x2.getD p116.2.toNat false)&&((p116.1.getD (((x1.getD p116.2.toNat (0,0,0)).1).toNat) false)||(p116.1.getD (((x1.getD p116.2.toNat (0,0,0)).2.1).toNat) false)))
    ·replace hM127:=bif_f hc128 hM127
     refine cond_f f rfl hc128 ?_
     refine wp_skip ?_
     obtain rfl:=Option.some.inj hM127
     exact ⟨p116.1,rfl,hn117,f.keep _ ⟨rfl,rfl,rfl,rfl,rfl,rfl,trivial⟩,S.sel [1,2] rfl rfl⟩
    replace hM127:=bif_t hc128 hM127
    refine cond_t f rfl hc128 ?_
    revert a;refine sr (mv rfl rfl (ov rfl (fun a f=>run_fieldAddr rfl fl130_0 (f.ev rfl) rfl) (ov rfl (fun a f=>run_load1 rfl one3 (f.ev rfl) (S.cell 0 rfl rfl)) fun a f=>?_)))
    obtain ⟨hk129,hM127⟩:=chk_ex hM127
    replace hk129:=ixB_t hk129
    revert a;refine ov rfl (fun a f=>run_indexAddr (b:=adB (some ⟨g102,0,none⟩)) (off:=adO (some ⟨g102,0,none⟩)) rfl Tryz.underlying26 sz4 ((f.ev rfl).trans (congrArg (fun A=>Value.slice A x0.toNat x0.toNat) ((S.rc 2 rfl).rd.ad (ix_pos hk129)))) (f.ev rfl) hk129.1 hk129.2 (k':=adO (some ⟨g102,0,none⟩)+(((x1.getD p116.2.toNat (0,0,0)).1).toNat)*1) rfl) fun a f=>?_
    obtain ⟨w',hrun,S'⟩:=run_storeElN (P:=Tryz.prog) (ρ:=a.eval) (y0:=true) (off:=0) S 4 (.tmp 56) (.const (.bool true)) (i:=2) sz4 (f.ev rfl) rfl rfl rfl rfl rfl hn117 eB_len false (ix_ltn hk129 hn117) rfl rfl
    refine op_do rfl rfl (hrun _ rfl) ?_;clear hrun S;have S:=S';clear S';generalize w'=u at S ⊢
    refine wn ?_
    revert a;refine rl (mv rfl rfl (ov rfl (fun a f=>run_fieldAddr rfl fl130_1 (f.ev rfl) rfl) (ov rfl (fun a f=>run_load1 rfl one3 (f.ev rfl) (S.cell 0 rfl rfl)) fun a f=>?_)))
    obtain ⟨hk130,hM127⟩:=chk_ex hM127
    replace hk130:=ixB_t hk130
    revert a;refine ov rfl (fun a f=>run_indexAddr (b:=adB (some ⟨g102,0,none⟩)) (off:=adO (some ⟨g102,0,none⟩)) rfl Tryz.underlying26 sz4 ((f.ev rfl).trans (congrArg (fun A=>Value.slice A x0.toNat x0.toNat) ((S.rc 2 rfl).rd.ad (ix_pos hk130)))) (f.ev rfl) hk130.1 hk130.2 (k':=adO (some ⟨g102,0,none⟩)+(((x1.getD p116.2.toNat (0,0,0)).2.1).toNat)*1) rfl) fun a f=>?_
    obtain ⟨w',hrun,S'⟩:=run_storeElN (P:=Tryz.prog) (ρ:=a.eval) (y0:=true) (off:=0) S 4 (.tmp 60) (.const (.bool true)) (i:=2) sz4 (f.ev rfl) rfl rfl rfl rfl rfl (len_set hn117) eB_len false (ix_ltn hk130 (len_set hn117)) rfl rfl
    refine op_do rfl rfl (hrun _ rfl) ?_;clear hrun S;have S:=S';clear S';generalize w'=u at S ⊢
    refine wn ?_
    obtain rfl:=Option.some.inj hM127
    exact ⟨(p116.1.set (((x1.getD p116.2.toNat (0,0,0)).1).toNat) true).set (((x1.getD p116.2.toNat (0,0,0)).2.1).toNat) true,rfl,(len_set (len_set hn117)),f.keep _ ⟨rfl,rfl,rfl,rfl,rfl,rfl,trivial⟩,S.sel [1,2] rfl rfl⟩
   rintro a u ⟨p124,rfl,hn126,f,S⟩
   revert a;refine rl (mv rfl rfl (ov rfl (fun a f=>run_add (z:=w64 (p116.2+1)) (f.ev rfl) rfl rfl rfl) (ag rfl rfl fun a f=>wn ?_)))
   exact ⟨f2,Nat.lt_succ_self _,(p124,w64 (p116.2+1)),hM115,hn126,f.keep _ ⟨rfl,rfl,rfl,rfl,rfl,rfl,trivial⟩,S.sel [0,1] rfl rfl⟩
  rintro a u ⟨p112,rfl,hn114,f,S⟩
  revert a;refine rl (mv rfl rfl (ov rfl (fun a f=>run_add (z:=w64 (p109.2+1)) (f.ev rfl) rfl rfl rfl) (ag rfl rfl fun a f=>wn ?_)))
  exact ⟨f1,Nat.lt_succ_self _,(p112,w64 (p109.2+1)),hM108,hn114,f.keep _ ⟨rfl,rfl,rfl,rfl,rfl,trivial⟩,S.sel [0,1] rfl rfl⟩
 rintro a u ⟨p105,rfl,hn107,f,S⟩
 revert a;refine sr (mv rfl rfl (ag rfl rfl fun a f=>wn ?_))
 refine wp_ret ?_
 refine ret1_gw (.inl rfl) f rfl (res_tmp (f.ev rfl)) ?_
 obtain rfl:=Option.some.inj hM
 exact ⟨(some ⟨g102,0,none⟩),x0.toNat,x0.toNat,rfl,hn107,S.sel [0] rfl rfl⟩
theorem c_spec_Reached {x0:Int} {x1:List (Int×Int×Int)} {x2:List Bool} {x3:Int} {A1:Option Addr} {n1 c1:Nat} {A2:Option Addr} {n2 c2:Nat} {w:World} {r:List Int} (h1:Rt w 3 eLine A1 n1 c1 x1) (h2:Rt w 1 eB A2 n2 c2 x2) (hM : m_spec_Reached x0 x1 x2 x3=some r) :
  Calls Tryz.prog 127 #[.agg #[iv x0,.slice A1 n1 c1],.slice A2 n2 c2,iv x3] w (fun e w'=>∃ (B0:Option Addr) (N0 D0:Nat),e=.returned (.slice B0 N0 D0)∧N0=r.length∧St w w' [.row 3 1 (.slice B0 N0 D0) N0 (r.flatMap eI)]):=by
 obtain rfl:=h1.len
 obtain rfl:=h2.len
 unfold m_spec_Reached at hM
 refine calls_gx Tryz.func127 Tryz.ntmps127 rfl rfl ?_
 intro a f
 have S:=St.nil w
 refine wsg ?_
 refine op_new (cs:=#[iv x0,.slice A1 x1.length c1]) rfl rfl f rfl S (run_box rfl (f.ev rfl) rfl) ?_;clear f S;intro a g101 u f S
 revert a;refine ov rfl (fun a f=>run_assign rfl rfl) fun a f=>wn ?_
 refine wsg ?_
 refine op_newrow (cs:=#[]) (size:=1) rfl rfl f rfl S (run_buildSlice0 rfl Tryz.underlying30 (congrArg Option.isSome sz3)) rfl (Nat.zero_le _) ?_;clear f S;intro a g102 u f S
 revert a;refine ag rfl rfl fun a f=>wn ?_
 refine ws ?_
 revert a;refine sr (ov rfl (fun a f=>run_loadN rfl ag37 (f.ev rfl) rfl ((S.free 1 rfl).cells 0 #[iv x0,.slice A1 x1.length c1] rfl)) (mv rfl rfl fun a f=>?_))
 obtain ⟨p103,h103,hM⟩:=bind_ex hM
 refine op_call rfl rfl f rfl (run_call (vs:=[_,_]) rfl rfl co125 ⟨(f.ev rfl),(f.ev rfl),trivial⟩) (c_spec_StateValid ⟨(S.rc0 h1.rc),rfl⟩ ⟨(S.rc0 h2.rc),rfl⟩ h103) ?_
 rintro e u ⟨rfl,T⟩
 refine ⟨_,rfl,?_⟩
 clear f;intro a f
 replace S:=S.call0 T;clear T
 revert a;refine ov rfl (fun a f=>run_not rfl (f.ev rfl)) (mv rfl rfl fun a f=>?_)
 revert a;refine gf rfl rfl rfl rfl (fun a f hg=>run_move rfl (f.ev rfl)) (gf rfl rfl rfl rfl (fun a f hg=>run_fieldAddr rfl fl37_0 (f.ev rfl) rfl) (gf rfl rfl rfl rfl (fun a f hg=>run_load1 rfl one3 ((f.ev rfl).trans (gv_t hg)) (S.cell 1 rfl rfl)) (gf rfl rfl rfl rfl (fun a f hg=>run_sub (z:=w64 (x0-1)) ((f.ev rfl).trans (gv_t hg)) rfl rfl rfl) fun a f=>?_)))
 obtain ⟨p104,h104,hM⟩:=bind_ex hM
 refine op_gcall (v:=.bool p104) rfl rfl f rfl S (yf (gw_yield f rfl rfl rfl)) (fun hg=>(run_call (vs:=[iv x3,iv 0,iv (w64 (x0-1))]) rfl rfl co51 ⟨((f.ev rfl).trans (gv_t hg)),rfl,((f.ev rfl).trans (gv_t hg)),trivial⟩)) (fun hg=>c_spec_l1In (x0:=x3) (x1:=0) (x2:=w64 (x0-1))  (gb_t h104 hg)) ?_;clear f S;intro a u f S
 revert a;refine gf rfl rfl rfl rfl (fun a f hg=>run_not rfl ((f.ev rfl).trans (gv_t hg))) (ov rfl (fun a f=>run_pick_or rfl (f.ev rfl) rfl (fun hp=>((f.ev rfl).trans (gv_t (not_t hp))))) fun a f=>wn ?_)
 cases hc105:((!p103)||(!p104))
 ·replace hM:=bif_f hc105 hM
  refine cond_f f rfl hc105 ?_
  refine wp_skip ?_
  revert a;refine sr (ov rfl (fun a f=>run_loadN rfl ag37 (f.ev rfl) rfl ((S.free 1 rfl).cells 0 #[iv x0,.slice A1 x1.length c1] rfl)) (mv rfl rfl (mv rfl rfl fun a f=>?_)))
  obtain ⟨p106,h106,hM⟩:=bind_ex hM
  refine op_call rfl rfl f rfl (run_call (vs:=[_,_,_]) rfl rfl co146 ⟨(f.ev rfl),(f.ev rfl),(f.ev rfl),trivial⟩) (c_spec_l3Reach ⟨(S.rc0 h1.rc),rfl⟩ ⟨(S.rc0 h2.rc),rfl⟩ h106) ?_
  rintro e u ⟨B107,n108,d109,rfl,rfl,T⟩
  refine ⟨_,rfl,?_⟩
  clear f;intro a f
  replace S:=S.call1 T;clear T
  revert a;refine ag rfl rfl fun a f=>wn ?_
  refine ws ?_
  revert a;refine sr (ov rfl (fun a f=>run_assign rfl rfl) fun a f=>wn ?_)
  obtain ⟨o111,hM114,hM⟩:=bind_ex hM
  refine wp_cut (fun a u=>∃ (p110:List Int) (B112:Option Addr) (d113:Nat),p110=o111∧Fr a 43 [(6,.slice none 0 0),(7,.slice B112 p110.length d113)]∧St w u [.row 3 1 (.slice B112 p110.length d113) p110.length (p110.flatMap eI)]) ?_ ?_
  ·have _:=trivial
   refine wp_block ?_
   refine loop_gw (fun m a u=>∃ (p115:List Int×Int) (B116:Option Addr) (d117:Nat),m_spec_Reached_l1 x0 p106 m p115=some _∧Fr a 43 [(3,.pointer (some ⟨g101,0,none⟩)),(6,.slice none 0 0),(7,.slice B116 p115.1.length d117),(8,.slice B107 p106.length d109),(9,iv p115.2)]∧St w u [.box g101 37 #[iv x0,.slice A1 x1.length c1],.row 3 1 (.slice B116 p115.1.length d117) p115.1.length (p115.1.flatMap eI),.row 4 1 (.slice B107 p106.length d109) p106.length (p106.flatMap eB)]) FUEL ⟨(([]:List Int),0),(some ⟨g102,0,none⟩),0,hM114,f.keep _ ⟨rfl,rfl,rfl,rfl,rfl,trivial⟩,S.sel [2,1,0] rfl rfl⟩ ?_
   clear f S hM114;rintro m a u ⟨p115,B116,d117,hM114,f,S⟩
   rcases m with _ | f1
   ·exact none_some hM114
   rw [m_spec_Reached_l1.eq_2] at hM114
   refine ws ?_
   revert a;refine sr (mv rfl rfl (ov rfl (fun a f=>run_fieldAddr rfl fl37_0 (f.ev rfl) rfl) (ov rfl (fun a f=>run_load1 rfl one3 (f.ev rfl) (S.cell 0 rfl rfl)) (ov rfl (fun a f=>run_lss (f.ev rfl) (f.ev rfl) rfl) fun a f=>wn ?_))))
   cases hc118:(ltB p115.2 x0)
   ·replace hM114:=bif_f hc118 hM114
    refine cond_f f rfl hc118 ?_
    refine wp_exit ?_
    repeat with_reducible first|apply then_exit|apply in_hit|refine in_miss rfl ?_
    obtain rfl:=Option.some.inj hM114
    exact ⟨p115.1,B116,d117,rfl,f.keep _ ⟨rfl,rfl,trivial⟩,S.sel [1] rfl rfl⟩
   replace hM114:=bif_t hc118 hM114
   refine cond_t f rfl hc118 ?_
   refine wp_skip ?_
   refine ws ?_
   refine wp_block ?_
   revert a;refine sr (mv rfl rfl (mv rfl rfl fun a f=>?_))
   obtain ⟨hk119,hM114⟩:=chk_ex hM114
   replace hk119:=ixB_t hk119
   revert a;refine ov rfl (fun a f=>run_ix rfl Tryz.underlying26 sz4 (f.ev rfl) (S.rc 2 rfl) (f.ev rfl) hk119) (ov rfl (fun a f=>run_load1 rfl one4 (f.ev rfl) (rd_el0 (l:=p106) (S.rc 2 rfl).rd rfl eB_len false (ix_ltn hk119 rfl) rfl)) fun a f=>wn ?_)
   obtain ⟨o121,hM124,hM114⟩:=bind_ex hM114
   refine wp_cut (fun a u=>∃ (p120:List Int) (B122:Option Addr) (d123:Nat),p120=o121∧Fr a 43 [(3,.pointer (some ⟨g101,0,none⟩)),(6,.slice none 0 0),(7,.slice B122 p120.length d123),(8,.slice B107 p106.length d109),(9,iv p115.2)]∧St w u [.box g101 37 #[iv x0,.slice A1 x1.length c1],.row 3 1 (.slice B122 p120.length d123) p120.length (p120.flatMap eI),.row 4 1 (.slice B107 p106.length d109) p106.length (p106.flatMap eB)]) ?_ ?_
   ·have _:=trivial
    cases hc125:(p106.getD p115.2.toNat false)
    ·replace hM124:=bif_f hc125 hM124
     refine cond_f f rfl hc125 ?_
     refine wp_skip ?_
     obtain rfl:=Option.some.inj hM124
     exact ⟨p115.1,B116,d117,rfl,f.keep _ ⟨rfl,rfl,rfl,rfl,rfl,trivial⟩,S.sel [0,1,2] rfl rfl⟩
    replace hM124:=bif_t hc125 hM124
    refine cond_t f rfl hc125 ?_
    revert a;refine rl (mv rfl rfl (mv rfl rfl fun a f=>?_))
    refine op_newrowL (ls:=(([p115.2]:List Int):List Int)) (e:=eI) rfl rfl f rfl S (run_buildS (vs:=[(0,iv p115.2)]) rfl ⟨⟨rfl,(f.ev rfl)⟩,trivial⟩ (bs30_1_0 rfl)) rfl eI_len (Nat.le_of_ble_eq_true rfl) ?_;clear f S;intro a g126 u f S
    obtain ⟨hk129,hM124⟩:=chk_ex hM124
    replace hk129:=apB_t hk129
    refine op_appendL (lx:=p115.1) (ly:=([p115.2]:List Int)) rfl rfl f rfl S rfl (f.ev rfl) (f.ev rfl) (i:=2) rfl rfl Tryz.underlying30 inf3 rfl (by decide) (S.rc 0 rfl).rd rfl eI_one hk129 (by decide) ?_;clear f S;intro a B127 d128 u f S
    revert a;refine ag rfl rfl fun a f=>wn ?_
    obtain rfl:=Option.some.inj hM124
    exact ⟨p115.1++([p115.2]:List Int),B127,d128,rfl,f.keep _ ⟨rfl,rfl,rfl,rfl,rfl,trivial⟩,S.sel [1,2,3] rfl rfl⟩
   rintro a u ⟨p120,B122,d123,rfl,f,S⟩
   revert a;refine rl (mv rfl rfl (ov rfl (fun a f=>run_add (z:=w64 (p115.2+1)) (f.ev rfl) rfl rfl rfl) (ag rfl rfl fun a f=>wn ?_)))
   exact ⟨f1,Nat.lt_succ_self _,(p120,w64 (p115.2+1)),B122,d123,hM114,f.keep _ ⟨rfl,rfl,rfl,rfl,rfl,trivial⟩,S.sel [0,1,2] rfl rfl⟩
  rintro a u ⟨p110,B112,d113,rfl,f,S⟩
  revert a;refine sr (mv rfl rfl (ag rfl rfl fun a f=>wn ?_))
  refine wp_ret ?_
  refine ret1_gw (.inl rfl) f rfl (res_tmp (f.ev rfl)) ?_
  obtain rfl:=Option.some.inj hM
  exact ⟨B112,p110.length,d113,rfl,rfl,S.sel [0] rfl rfl⟩
 replace hM:=bif_t hc105 hM
 refine cond_t f rfl hc105 ?_
 revert a;refine sr (mv rfl rfl (ag rfl rfl fun a f=>wn ?_))
 refine wp_ret ?_
 repeat with_reducible first|apply tr|apply ir|apply nr
 refine ret1_gw (.inl rfl) f rfl (res_tmp (f.ev rfl)) ?_
 obtain rfl:=Option.some.inj hM
 exact ⟨(some ⟨g102,0,none⟩),0,0,rfl,rfl,S.sel [0] rfl rfl⟩
end Go.Proofs.YtcmnjaccapbhfaaGreat
