/- Calls return what the models say. -/
import Derived.Test.YtcmnjaccapbhfaaGreatQSq
import Derived.Test.YtcmnjaccapbhfaaGreatQDa7
namespace Go.Proofs.YtcmnjaccapbhfaaGreat
open Go.ChangeShapes Go.WideShapes Go.ChangeAt Go.RowKit
set_option linter.unusedVariables false
set_option maxHeartbeats 4000000
set_option linter.unusedSimpArgs false
theorem c_spec_WorldCalm {x0:Int} {x1:List (Int×Int×Int)} {x2:List (Int×Int)} {x3:List Bool} {x4:List Bool} {x5:List (Int×Int)} {x6:List Int} {A1:Option Addr} {n1 c1:Nat} {A2:Option Addr} {n2 c2:Nat} {A3:Option Addr} {n3 c3:Nat} {A4:Option Addr} {n4 c4:Nat} {A5:Option Addr} {n5 c5:Nat} {A6:Option Addr} {n6 c6:Nat} {w:World} {r:Bool} (h1:Rt w 3 eLine A1 n1 c1 x1) (h2:Rt w 2 eBus A2 n2 c2 x2) (h3:Rt w 1 eB A3 n3 c3 x3) (h4:Rt w 1 eB A4 n4 c4 x4) (h5:Rt w 2 ePermit A5 n5 c5 x5) (h6:Rt w 1 eI A6 n6 c6 x6) (hM : m_spec_WorldCalm x0 x1 x2 x3 x4 x5 x6=some r) :
  Calls Tryz.prog 8 #[.agg #[iv x0,.slice A1 n1 c1,.slice A2 n2 c2,.slice A3 n3 c3,.slice A4 n4 c4,.slice A5 n5 c5,.slice A6 n6 c6]] w (fun e w'=>e=.returned (.bool r)∧St w w' []):=by
 obtain rfl:=h1.len
 obtain rfl:=h2.len
 obtain rfl:=h3.len
 obtain rfl:=h4.len
 obtain rfl:=h5.len
 obtain rfl:=h6.len
 unfold m_spec_WorldCalm at hM
 refine calls_gx Tryz.func8 Tryz.ntmps8 rfl rfl ?_
 intro a f
 have S:=St.nil w
 refine wsg ?_
 refine op_new (cs:=#[iv x0,.slice A1 x1.length c1,.slice A2 x2.length c2,.slice A3 x3.length c3,.slice A4 x4.length c4,.slice A5 x5.length c5,.slice A6 x6.length c6]) rfl rfl f rfl S (run_box rfl (f.ev rfl) rfl) ?_;clear f S;intro a g101 u f S
 revert a;refine ov rfl (fun a f=>run_assign rfl rfl) fun a f=>wn ?_
 refine ws ?_
 obtain ⟨o103,hM104,hM⟩:=bind_ex hM
 refine wp_cut (fun a u=>∃ (p102:Bool),p102=o103∧Fr a 11 [(2,.bool p102)]∧St w u []) ?_ ?_
 ·have _:=trivial
  revert a;refine rl (ov rfl (fun a f=>run_loadN rfl ag43 (f.ev rfl) rfl ((S.free 0 rfl).cells 0 #[iv x0,.slice A1 x1.length c1,.slice A2 x2.length c2,.slice A3 x3.length c3,.slice A4 x4.length c4,.slice A5 x5.length c5,.slice A6 x6.length c6] rfl)) fun a f=>?_)
  obtain ⟨p105,h105,hM104⟩:=bind_ex hM104
  refine op_call rfl rfl f rfl (run_call (vs:=[_]) rfl rfl co30 ⟨(f.ev rfl),trivial⟩) (c_spec_WorldValid ⟨(S.rc0 h1.rc),rfl⟩ ⟨(S.rc0 h2.rc),rfl⟩ ⟨(S.rc0 h3.rc),rfl⟩ ⟨(S.rc0 h4.rc),rfl⟩ ⟨(S.rc0 h5.rc),rfl⟩ ⟨(S.rc0 h6.rc),rfl⟩ h105) ?_
  rintro e u ⟨rfl,T⟩
  refine ⟨_,rfl,?_⟩
  clear f;intro a f
  replace S:=S.call0 T;clear T
  revert a;refine mv rfl rfl (gt rfl rfl rfl rfl (fun a f hg=>run_loadN rfl ag43 (f.ev rfl) rfl ((S.free 0 rfl).cells 0 #[iv x0,.slice A1 x1.length c1,.slice A2 x2.length c2,.slice A3 x3.length c3,.slice A4 x4.length c4,.slice A5 x5.length c5,.slice A6 x6.length c6] rfl)) fun a f=>?_)
  cases hc106:(p105)
  ·replace hM104:=bif_f hc106 hM104
   refine op_skipped rfl ((gw_yield f rfl rfl rfl).trans (congrArg some hc106)) rfl rfl f rfl ?_;clear f;intro a f
   refine op_skipped rfl ((gw_yield f rfl rfl rfl).trans (congrArg some hc106)) rfl rfl f rfl ?_;clear f;intro a f
   refine op_skipped rfl ((gw_yield f rfl rfl rfl).trans (congrArg some hc106)) rfl rfl f rfl ?_;clear f;intro a f
   revert a;refine ov rfl (fun a f=>run_pick_f rfl (f.ev rfl) hc106 rfl) (ag rfl rfl fun a f=>wn ?_)
   obtain rfl:=Option.some.inj hM104
   exact ⟨false,rfl,f.keep _ ⟨rfl,trivial⟩,S.sel [] rfl rfl⟩
  replace hM104:=bif_t hc106 hM104
  refine op_guarded rfl ((gw_yield f rfl rfl rfl).trans (congrArg some hc106)) ?_
  obtain ⟨p107,h107,hM104⟩:=bind_ex hM104
  refine op_call rfl rfl f rfl (run_call (vs:=[_]) rfl rfl co12 ⟨((f.ev rfl).trans (gv_t hc106)),trivial⟩) (c_spec_HealDeeds ⟨(S.rc0 h1.rc),rfl⟩ ⟨(S.rc0 h2.rc),rfl⟩ ⟨(S.rc0 h3.rc),rfl⟩ ⟨(S.rc0 h4.rc),rfl⟩ ⟨(S.rc0 h5.rc),rfl⟩ ⟨(S.rc0 h6.rc),rfl⟩ h107) ?_
  rintro e u ⟨B108,n109,d110,rfl,rfl,T⟩
  refine ⟨_,rfl,?_⟩
  clear f;intro a f
  replace S:=S.call1 T;clear T
  refine op_guarded rfl ((gw_yield f rfl rfl rfl).trans (congrArg some hc106)) ?_
  revert a;refine ov rfl (fun a f=>run_lenL rfl rfl Tryz.underlying47 (f.ev rfl)) fun a f=>?_
  refine op_guarded rfl ((gw_yield f rfl rfl rfl).trans (congrArg some hc106)) ?_
  revert a;refine ov rfl (fun a f=>run_eql (f.ev rfl) rfl rfl) (ov rfl (fun a f=>run_pick_t rfl (f.ev rfl) hc106 (f.ev rfl)) (ag rfl rfl fun a f=>wn ?_))
  obtain rfl:=Option.some.inj hM104
  exact ⟨(p107.length:Int)==0,rfl,f.keep _ ⟨rfl,trivial⟩,S.sel [] rfl rfl⟩
 rintro a u ⟨p102,rfl,f,S⟩
 refine wp_ret ?_
 refine ret1_gw (.inl rfl) f rfl (res_tmp (f.ev rfl)) ?_
 obtain rfl:=Option.some.inj hM
 exact ⟨rfl,S.sel [] rfl rfl⟩
theorem c_impl_WorldCalm {x0:Int} {x1:List (Int×Int×Int)} {x2:List (Int×Int)} {x3:List Bool} {x4:List Bool} {x5:List (Int×Int)} {x6:List Int} {A1:Option Addr} {n1 c1:Nat} {A2:Option Addr} {n2 c2:Nat} {A3:Option Addr} {n3 c3:Nat} {A4:Option Addr} {n4 c4:Nat} {A5:Option Addr} {n5 c5:Nat} {A6:Option Addr} {n6 c6:Nat} {w:World} {r:Bool} (h1:Rt w 3 eLine A1 n1 c1 x1) (h2:Rt w 2 eBus A2 n2 c2 x2) (h3:Rt w 1 eB A3 n3 c3 x3) (h4:Rt w 1 eB A4 n4 c4 x4) (h5:Rt w 2 ePermit A5 n5 c5 x5) (h6:Rt w 1 eI A6 n6 c6 x6) (hM : m_impl_WorldCalm x0 x1 x2 x3 x4 x5 x6=some r) :
  Calls Tryz.prog 10 #[.agg #[iv x0,.slice A1 n1 c1,.slice A2 n2 c2,.slice A3 n3 c3,.slice A4 n4 c4,.slice A5 n5 c5,.slice A6 n6 c6]] w (fun e w'=>e=.returned (.bool r)∧St w w' []):=by
 obtain rfl:=h1.len
 obtain rfl:=h2.len
 obtain rfl:=h3.len
 obtain rfl:=h4.len
 obtain rfl:=h5.len
 obtain rfl:=h6.len
 unfold m_impl_WorldCalm at hM
 refine calls_gx Tryz.func10 Tryz.ntmps10 rfl rfl ?_
 intro a f
 have S:=St.nil w
 refine wsg ?_
 refine op_new (cs:=#[iv x0,.slice A1 x1.length c1,.slice A2 x2.length c2,.slice A3 x3.length c3,.slice A4 x4.length c4,.slice A5 x5.length c5,.slice A6 x6.length c6]) rfl rfl f rfl S (run_box rfl (f.ev rfl) rfl) ?_;clear f S;intro a g101 u f S
 revert a;refine ov rfl (fun a f=>run_assign rfl rfl) fun a f=>wn ?_
 refine ws ?_
 obtain ⟨o103,hM104,hM⟩:=bind_ex hM
 refine wp_cut (fun a u=>∃ (p102:Bool),p102=o103∧Fr a 11 [(2,.bool p102)]∧St w u []) ?_ ?_
 ·have _:=trivial
  revert a;refine rl (ov rfl (fun a f=>run_loadN rfl ag43 (f.ev rfl) rfl ((S.free 0 rfl).cells 0 #[iv x0,.slice A1 x1.length c1,.slice A2 x2.length c2,.slice A3 x3.length c3,.slice A4 x4.length c4,.slice A5 x5.length c5,.slice A6 x6.length c6] rfl)) fun a f=>?_)
  obtain ⟨p105,h105,hM104⟩:=bind_ex hM104
  refine op_call rfl rfl f rfl (run_call (vs:=[_]) rfl rfl co35 ⟨(f.ev rfl),trivial⟩) (c_impl_WorldValid ⟨(S.rc0 h1.rc),rfl⟩ ⟨(S.rc0 h2.rc),rfl⟩ ⟨(S.rc0 h3.rc),rfl⟩ ⟨(S.rc0 h4.rc),rfl⟩ ⟨(S.rc0 h5.rc),rfl⟩ ⟨(S.rc0 h6.rc),rfl⟩ h105) ?_
  rintro e u ⟨rfl,T⟩
  refine ⟨_,rfl,?_⟩
  clear f;intro a f
  replace S:=S.call0 T;clear T
  revert a;refine mv rfl rfl (gt rfl rfl rfl rfl (fun a f hg=>run_loadN rfl ag43 (f.ev rfl) rfl ((S.free 0 rfl).cells 0 #[iv x0,.slice A1 x1.length c1,.slice A2 x2.length c2,.slice A3 x3.length c3,.slice A4 x4.length c4,.slice A5 x5.length c5,.slice A6 x6.length c6] rfl)) fun a f=>?_)
  cases hc106:(p105)
  ·replace hM104:=bif_f hc106 hM104
   refine op_skipped rfl ((gw_yield f rfl rfl rfl).trans (congrArg some hc106)) rfl rfl f rfl ?_;clear f;intro a f
   refine op_skipped rfl ((gw_yield f rfl rfl rfl).trans (congrArg some hc106)) rfl rfl f rfl ?_;clear f;intro a f
   refine op_skipped rfl ((gw_yield f rfl rfl rfl).trans (congrArg some hc106)) rfl rfl f rfl ?_;clear f;intro a f
   revert a;refine ov rfl (fun a f=>run_pick_f rfl (f.ev rfl) hc106 rfl) (ag rfl rfl fun a f=>wn ?_)
   obtain rfl:=Option.some.inj hM104
   exact ⟨false,rfl,f.keep _ ⟨rfl,trivial⟩,S.sel [] rfl rfl⟩
  replace hM104:=bif_t hc106 hM104
  refine op_guarded rfl ((gw_yield f rfl rfl rfl).trans (congrArg some hc106)) ?_
  obtain ⟨p107,h107,hM104⟩:=bind_ex hM104
  refine op_call rfl rfl f rfl (run_call (vs:=[_]) rfl rfl co13 ⟨((f.ev rfl).trans (gv_t hc106)),trivial⟩) (c_impl_HealDeeds ⟨(S.rc0 h1.rc),rfl⟩ ⟨(S.rc0 h2.rc),rfl⟩ ⟨(S.rc0 h3.rc),rfl⟩ ⟨(S.rc0 h4.rc),rfl⟩ ⟨(S.rc0 h5.rc),rfl⟩ ⟨(S.rc0 h6.rc),rfl⟩ h107) ?_
  rintro e u ⟨B108,n109,d110,rfl,rfl,T⟩
  refine ⟨_,rfl,?_⟩
  clear f;intro a f
  replace S:=S.call1 T;clear T
  refine op_guarded rfl ((gw_yield f rfl rfl rfl).trans (congrArg some hc106)) ?_
  revert a;refine ov rfl (fun a f=>run_lenL rfl rfl Tryz.underlying47 (f.ev rfl)) fun a f=>?_
  refine op_guarded rfl ((gw_yield f rfl rfl rfl).trans (congrArg some hc106)) ?_
  revert a;refine ov rfl (fun a f=>run_eql (f.ev rfl) rfl rfl) (ov rfl (fun a f=>run_pick_t rfl (f.ev rfl) hc106 (f.ev rfl)) (ag rfl rfl fun a f=>wn ?_))
  obtain rfl:=Option.some.inj hM104
  exact ⟨(p107.length:Int)==0,rfl,f.keep _ ⟨rfl,trivial⟩,S.sel [] rfl rfl⟩
 rintro a u ⟨p102,rfl,f,S⟩
 refine wp_ret ?_
 refine ret1_gw (.inl rfl) f rfl (res_tmp (f.ev rfl)) ?_
 obtain rfl:=Option.some.inj hM
 exact ⟨rfl,S.sel [] rfl rfl⟩
theorem c_laws_FnExactWorldCalm {x0:Int} {x1:List (Int×Int×Int)} {x2:List (Int×Int)} {x3:List Bool} {x4:List Bool} {x5:List (Int×Int)} {x6:List Int} {A1:Option Addr} {n1 c1:Nat} {A2:Option Addr} {n2 c2:Nat} {A3:Option Addr} {n3 c3:Nat} {A4:Option Addr} {n4 c4:Nat} {A5:Option Addr} {n5 c5:Nat} {A6:Option Addr} {n6 c6:Nat} {w:World} {r:Bool} (h1:Rt w 3 eLLine A1 n1 c1 x1) (h2:Rt w 2 eLBus A2 n2 c2 x2) (h3:Rt w 1 eB A3 n3 c3 x3) (h4:Rt w 1 eB A4 n4 c4 x4) (h5:Rt w 2 eLPermit A5 n5 c5 x5) (h6:Rt w 1 eI A6 n6 c6 x6) (hM : m_laws_FnExactWorldCalm x0 x1 x2 x3 x4 x5 x6=some r) :
  Calls Tryz.prog 3 #[.agg #[iv x0,.slice A1 n1 c1,.slice A2 n2 c2,.slice A3 n3 c3,.slice A4 n4 c4,.slice A5 n5 c5,.slice A6 n6 c6]] w (fun e w'=>e=.returned (.bool r)∧St w w' []):=by
 obtain rfl:=h1.len
 obtain rfl:=h2.len
 obtain rfl:=h3.len
 obtain rfl:=h4.len
 obtain rfl:=h5.len
 obtain rfl:=h6.len
 unfold m_laws_FnExactWorldCalm at hM
 refine calls_gx Tryz.func3 Tryz.ntmps3 rfl rfl ?_
 intro a f
 have S:=St.nil w
 refine wsg ?_
 refine op_new (cs:=#[iv x0,.slice A1 x1.length c1,.slice A2 x2.length c2,.slice A3 x3.length c3,.slice A4 x4.length c4,.slice A5 x5.length c5,.slice A6 x6.length c6]) rfl rfl f rfl S (run_box rfl (f.ev rfl) rfl) ?_;clear f S;intro a g101 u f S
 revert a;refine ov rfl (fun a f=>run_assign rfl rfl) fun a f=>wn ?_
 revert a;refine sr (ov rfl (fun a f=>run_assign rfl rfl) fun a f=>wn ?_)
 revert a;refine sr (ov rfl (fun a f=>run_loadN rfl ag32 (f.ev rfl) rfl ((S.free 0 rfl).cells 0 #[iv x0,.slice A1 x1.length c1,.slice A2 x2.length c2,.slice A3 x3.length c3,.slice A4 x4.length c4,.slice A5 x5.length c5,.slice A6 x6.length c6] rfl)) (mv rfl rfl fun a f=>?_))
 obtain ⟨p102,h102,hM⟩:=bind_ex hM
 refine op_call rfl rfl f rfl (run_call (vs:=[_,_]) rfl rfl co7 ⟨(f.ev rfl),(f.ev rfl),trivial⟩) (c_laws_szWorld ⟨(S.rc0 h1.rc),rfl⟩ ⟨(S.rc0 h2.rc),rfl⟩ ⟨(S.rc0 h3.rc),rfl⟩ ⟨(S.rc0 h4.rc),rfl⟩ ⟨(S.rc0 h5.rc),rfl⟩ ⟨(S.rc0 h6.rc),rfl⟩ h102) ?_
 rintro e u ⟨rfl,T⟩
 refine ⟨_,rfl,?_⟩
 clear f;intro a f
 replace S:=S.call0 T;clear T
 revert a;refine ag rfl rfl fun a f=>wn ?_
 refine ws ?_
 revert a;refine sr (mv rfl rfl (ov rfl (fun a f=>run_lss (f.ev rfl) rfl rfl) fun a f=>wn ?_))
 cases hc103:(ltB p102 0)
 ·replace hM:=bif_f hc103 hM
  refine cond_f f rfl hc103 ?_
  refine wp_skip ?_
  revert a;refine sr (ov rfl (fun a f=>run_loadN rfl ag32 (f.ev rfl) rfl ((S.free 0 rfl).cells 0 #[iv x0,.slice A1 x1.length c1,.slice A2 x2.length c2,.slice A3 x3.length c3,.slice A4 x4.length c4,.slice A5 x5.length c5,.slice A6 x6.length c6] rfl)) fun a f=>?_)
  obtain ⟨p104,h104,hM⟩:=bind_ex hM
  refine op_call rfl rfl f rfl (run_call (vs:=[_]) rfl rfl co9 ⟨(f.ev rfl),trivial⟩) (c_laws_toWorld ⟨(S.rc0 h1.rc),rfl⟩ ⟨(S.rc0 h2.rc),rfl⟩ ⟨(S.rc0 h3.rc),rfl⟩ ⟨(S.rc0 h4.rc),rfl⟩ ⟨(S.rc0 h5.rc),rfl⟩ ⟨(S.rc0 h6.rc),rfl⟩ h104) ?_
  rintro e u ⟨B105,n106,d107,B108,n109,d110,B111,n112,d113,B114,n115,d116,B117,n118,d119,B120,n121,d122,rfl,rfl,rfl,rfl,rfl,rfl,rfl,T⟩
  refine ⟨_,rfl,?_⟩
  clear f;intro a f
  replace S:=S.call6 T;clear T
  obtain ⟨p123,h123,hM⟩:=bind_ex hM
  refine op_call rfl rfl f rfl (run_call (vs:=[_]) rfl rfl co8 ⟨(f.ev rfl),trivial⟩) (c_spec_WorldCalm ⟨(S.rc 0 rfl),rfl⟩ ⟨(S.rc 1 rfl),rfl⟩ ⟨(S.rc 2 rfl),rfl⟩ ⟨(S.rc 3 rfl),rfl⟩ ⟨(S.rc 4 rfl),rfl⟩ ⟨(S.rc 5 rfl),rfl⟩ h123) ?_
  rintro e u ⟨rfl,T⟩
  refine ⟨_,rfl,?_⟩
  clear f;intro a f
  replace S:=S.call0 T;clear T
  revert a;refine ag rfl rfl fun a f=>wn ?_
  revert a;refine sr (ov rfl (fun a f=>run_loadN rfl ag32 (f.ev rfl) rfl ((S.free 6 rfl).cells 0 #[iv x0,.slice A1 x1.length c1,.slice A2 x2.length c2,.slice A3 x3.length c3,.slice A4 x4.length c4,.slice A5 x5.length c5,.slice A6 x6.length c6] rfl)) fun a f=>?_)
  obtain ⟨p124,h124,hM⟩:=bind_ex hM
  refine op_call rfl rfl f rfl (run_call (vs:=[_]) rfl rfl co9 ⟨(f.ev rfl),trivial⟩) (c_laws_toWorld ⟨(S.rc0 h1.rc),rfl⟩ ⟨(S.rc0 h2.rc),rfl⟩ ⟨(S.rc0 h3.rc),rfl⟩ ⟨(S.rc0 h4.rc),rfl⟩ ⟨(S.rc0 h5.rc),rfl⟩ ⟨(S.rc0 h6.rc),rfl⟩ h124) ?_
  rintro e u ⟨B125,n126,d127,B128,n129,d130,B131,n132,d133,B134,n135,d136,B137,n138,d139,B140,n141,d142,rfl,rfl,rfl,rfl,rfl,rfl,rfl,T⟩
  refine ⟨_,rfl,?_⟩
  clear f;intro a f
  replace S:=S.call6 T;clear T
  refine op_new (cs:=#[iv 0,.slice none 0 0,.slice none 0 0,.slice none 0 0,.slice none 0 0,.slice none 0 0,.slice none 0 0]) rfl rfl f rfl S (run_allocZ rfl zr43) ?_;clear f S;intro a g143 u f S
  refine op_do rfl rfl (run_store (cs':=#[iv p124.1,.slice B125 p124.2.1.length d127,.slice B128 p124.2.2.1.length d130,.slice B131 p124.2.2.2.1.length d133,.slice B134 p124.2.2.2.2.1.length d136,.slice B137 p124.2.2.2.2.2.1.length d139,.slice B140 p124.2.2.2.2.2.2.length d142]) rfl sz43 (f.ev rfl) (f.ev rfl) rfl rfl rfl (S.free 0 rfl) rfl rfl) ?_;replace S:=S.put 0 rfl (#[iv p124.1,.slice B125 p124.2.1.length d127,.slice B128 p124.2.2.1.length d130,.slice B131 p124.2.2.2.1.length d133,.slice B134 p124.2.2.2.2.1.length d136,.slice B137 p124.2.2.2.2.2.1.length d139,.slice B140 p124.2.2.2.2.2.2.length d142])
  generalize World.setRow _ _ _=u at S ⊢
  refine wn ?_
  revert a;refine sr (ov rfl (fun a f=>run_loadN rfl ag43 (f.ev rfl) rfl ((S.free 0 rfl).cells 0 #[iv p124.1,.slice B125 p124.2.1.length d127,.slice B128 p124.2.2.1.length d130,.slice B131 p124.2.2.2.1.length d133,.slice B134 p124.2.2.2.2.1.length d136,.slice B137 p124.2.2.2.2.2.1.length d139,.slice B140 p124.2.2.2.2.2.2.length d142] rfl)) fun a f=>?_)
  obtain ⟨p144,h144,hM⟩:=bind_ex hM
  refine op_call rfl rfl f rfl (run_call (vs:=[_]) rfl rfl co10 ⟨(f.ev rfl),trivial⟩) (c_impl_WorldCalm ⟨(S.rc 1 rfl),rfl⟩ ⟨(S.rc 2 rfl),rfl⟩ ⟨(S.rc 3 rfl),rfl⟩ ⟨(S.rc 4 rfl),rfl⟩ ⟨(S.rc 5 rfl),rfl⟩ ⟨(S.rc 6 rfl),rfl⟩ h144) ?_
  rintro e u ⟨rfl,T⟩
  refine ⟨_,rfl,?_⟩
  clear f;intro a f
  replace S:=S.call0 T;clear T
  revert a;refine ag rfl rfl fun a f=>wn ?_
  refine ws ?_
  revert a;refine sr (mv rfl rfl (mv rfl rfl (ov rfl (fun a f=>run_neqB (f.ev rfl) (f.ev rfl) Tryz.underlying4 rfl) fun a f=>wn ?_)))
  cases hc145:(p144 != p123)
  ·replace hM:=bif_f hc145 hM
   refine cond_f f rfl hc145 ?_
   refine wp_skip ?_
   refine ws ?_
   refine ws ?_
   obtain ⟨p146,h146,hM⟩:=bind_ex hM
   obtain ⟨p165,h165,hM⟩:=bind_ex hM
   refine region_gw (D:=[22,23,24,25,26]) (Lr:=[.box g143 43 #[iv p124.1,.slice B125 p124.2.1.length d127,.slice B128 p124.2.2.1.length d130,.slice B131 p124.2.2.2.1.length d133,.slice B134 p124.2.2.2.2.1.length d136,.slice B137 p124.2.2.2.2.2.1.length d139,.slice B140 p124.2.2.2.2.2.2.length d142],.row 130 3 (.slice B125 p124.2.1.length d127) p124.2.1.length (p124.2.1.flatMap eLine),.row 110 2 (.slice B128 p124.2.2.1.length d130) p124.2.2.1.length (p124.2.2.1.flatMap eBus),.row 4 1 (.slice B131 p124.2.2.2.1.length d133) p124.2.2.2.1.length (p124.2.2.2.1.flatMap eB),.row 4 1 (.slice B134 p124.2.2.2.2.1.length d136) p124.2.2.2.2.1.length (p124.2.2.2.2.1.flatMap eB),.row 78 2 (.slice B137 p124.2.2.2.2.2.1.length d139) p124.2.2.2.2.2.1.length (p124.2.2.2.2.2.1.flatMap ePermit),.row 3 1 (.slice B140 p124.2.2.2.2.2.2.length d142) p124.2.2.2.2.2.2.length (p124.2.2.2.2.2.2.flatMap eI),.row 130 3 (.slice B105 p104.2.1.length d107) p104.2.1.length (p104.2.1.flatMap eLine),.row 110 2 (.slice B108 p104.2.2.1.length d110) p104.2.2.1.length (p104.2.2.1.flatMap eBus),.row 4 1 (.slice B111 p104.2.2.2.1.length d113) p104.2.2.2.1.length (p104.2.2.2.1.flatMap eB),.row 4 1 (.slice B114 p104.2.2.2.2.1.length d116) p104.2.2.2.2.1.length (p104.2.2.2.2.1.flatMap eB),.row 78 2 (.slice B117 p104.2.2.2.2.2.1.length d119) p104.2.2.2.2.2.1.length (p104.2.2.2.2.2.1.flatMap ePermit),.row 3 1 (.slice B120 p104.2.2.2.2.2.2.length d122) p104.2.2.2.2.2.2.length (p104.2.2.2.2.2.2.flatMap eI),.box g101 32 #[iv x0,.slice A1 x1.length c1,.slice A2 x2.length c2,.slice A3 x3.length c3,.slice A4 x4.length c4,.slice A5 x5.length c5,.slice A6 x6.length c6]]) (deps:=(fun | 0=>[22] | 1=>[23] | 2=>[24] | 3=>[25] | 4=>[26] | _=>[])) (rd:=(fun | 3=>[2] | _=>[])) (zr:=(fun _=>[]))
    (φ:=fun i vs=>match i,vs with | 0,[v22]=>v22=.agg #[iv p124.1,.slice B125 p124.2.1.length d127,.slice B128 p124.2.2.1.length d130,.slice B131 p124.2.2.2.1.length d133,.slice B134 p124.2.2.2.2.1.length d136,.slice B137 p124.2.2.2.2.2.1.length d139,.slice B140 p124.2.2.2.2.2.2.length d142] | 1,[v23]=>v23=.agg #[iv x0,.slice A1 x1.length c1,.slice A2 x2.length c2,.slice A3 x3.length c3,.slice A4 x4.length c4,.slice A5 x5.length c5,.slice A6 x6.length c6] | 2,[v24]=>v24=.agg #[iv p146.1,.slice (slA (vtup v24 1)) p146.2.1.length (slC (vtup v24 1)),.slice (slA (vtup v24 2)) p146.2.2.1.length (slC (vtup v24 2)),.slice (slA (vtup v24 3)) p146.2.2.2.1.length (slC (vtup v24 3)),.slice (slA (vtup v24 4)) p146.2.2.2.2.1.length (slC (vtup v24 4)),.slice (slA (vtup v24 5)) p146.2.2.2.2.2.1.length (slC (vtup v24 5)),.slice (slA (vtup v24 6)) p146.2.2.2.2.2.2.length (slC (vtup v24 6))] | 3,[v25]=>v25=.bool p165 | 4,[v26]=>v26=.bool (!p165) | _,_=>True)
    (C:=fun i vs=>match i,vs with | 2,[v24]=>[.row 130 3 (.slice (slA (vtup v24 1)) p146.2.1.length (slC (vtup v24 1))) p146.2.1.length (p146.2.1.flatMap eLine),.row 110 2 (.slice (slA (vtup v24 2)) p146.2.2.1.length (slC (vtup v24 2))) p146.2.2.1.length (p146.2.2.1.flatMap eBus),.row 4 1 (.slice (slA (vtup v24 3)) p146.2.2.2.1.length (slC (vtup v24 3))) p146.2.2.2.1.length (p146.2.2.2.1.flatMap eB),.row 4 1 (.slice (slA (vtup v24 4)) p146.2.2.2.2.1.length (slC (vtup v24 4))) p146.2.2.2.2.1.length (p146.2.2.2.2.1.flatMap eB),.row 78 2 (.slice (slA (vtup v24 5)) p146.2.2.2.2.2.1.length (slC (vtup v24 5))) p146.2.2.2.2.2.1.length (p146.2.2.2.2.2.1.flatMap ePermit),.row 3 1 (.slice (slA (vtup v24 6)) p146.2.2.2.2.2.2.length (slC (vtup v24 6))) p146.2.2.2.2.2.2.length (p146.2.2.2.2.2.2.flatMap eI)] | _,_=>[])
    (κ:=(fun _=>none)) (Z:=(fun _=>[])) mixed f (by kernel_rfl) S ?_ ?_
   ·refine ⟨?_,?_,?_,?_,?_,trivial⟩
    ·intro a u X hB hu p hr hz hl S
     exact .inl ⟨rfl,_,u,(run_loadN rfl ag43 (f.evB hB rfl rfl) rfl ((gr_box S hl 0 rfl).cells 0 #[iv p124.1,.slice B125 p124.2.1.length d127,.slice B128 p124.2.2.1.length d130,.slice B131 p124.2.2.2.1.length d133,.slice B134 p124.2.2.2.2.1.length d136,.slice B137 p124.2.2.2.2.2.1.length d139,.slice B140 p124.2.2.2.2.2.2.length d142] rfl)),rfl,S⟩
    ·intro a u X hB hu p hr hz hl S
     exact .inl ⟨rfl,_,u,(run_loadN rfl ag32 (f.evB hB rfl rfl) rfl ((gr_box S hl 13 rfl).cells 0 #[iv x0,.slice A1 x1.length c1,.slice A2 x2.length c2,.slice A3 x3.length c3,.slice A4 x4.length c4,.slice A5 x5.length c5,.slice A6 x6.length c6] rfl)),rfl,S⟩
    ·intro a u X hB hu p hr hz hl S
     refine .inr (.inr (.inl ⟨rfl,_,_,(run_call (vs:=[.agg #[iv x0,.slice A1 x1.length c1,.slice A2 x2.length c2,.slice A3 x3.length c3,.slice A4 x4.length c4,.slice A5 x5.length c5,.slice A6 x6.length c6]]) rfl rfl co9 ⟨(ev_sl (p 1 rfl)),trivial⟩),?_⟩))
     refine Calls.mono (c_laws_toWorld (x0:=x0) (x1:=x1) (x2:=x2) (x3:=x3) (x4:=x4) (x5:=x5) (x6:=x6) ⟨(S.rc0 h1.rc),rfl⟩ ⟨(S.rc0 h2.rc),rfl⟩ ⟨(S.rc0 h3.rc),rfl⟩ ⟨(S.rc0 h4.rc),rfl⟩ ⟨(S.rc0 h5.rc),rfl⟩ ⟨(S.rc0 h6.rc),rfl⟩ h146) ?_
     rintro e w1 ⟨B147,n148,d149,B150,n151,d152,B153,n154,d155,B156,n157,d158,B159,n160,d161,B162,n163,d164,rfl,rfl,rfl,rfl,rfl,rfl,rfl,T⟩
     exact ⟨_,rfl,rfl,S.call6 T⟩
    ·intro a u X hB hu p hr hz hl S
     refine .inr (.inr (.inl ⟨rfl,_,_,(run_call (vs:=[.agg #[iv p124.1,.slice B125 p124.2.1.length d127,.slice B128 p124.2.2.1.length d130,.slice B131 p124.2.2.2.1.length d133,.slice B134 p124.2.2.2.2.1.length d136,.slice B137 p124.2.2.2.2.2.1.length d139,.slice B140 p124.2.2.2.2.2.2.length d142],.agg #[iv p146.1,.slice (slA (vtup (sl a 24) 1)) p146.2.1.length (slC (vtup (sl a 24) 1)),.slice (slA (vtup (sl a 24) 2)) p146.2.2.1.length (slC (vtup (sl a 24) 2)),.slice (slA (vtup (sl a 24) 3)) p146.2.2.2.1.length (slC (vtup (sl a 24) 3)),.slice (slA (vtup (sl a 24) 4)) p146.2.2.2.2.1.length (slC (vtup (sl a 24) 4)),.slice (slA (vtup (sl a 24) 5)) p146.2.2.2.2.2.1.length (slC (vtup (sl a 24) 5)),.slice (slA (vtup (sl a 24) 6)) p146.2.2.2.2.2.2.length (slC (vtup (sl a 24) 6))]]) rfl rfl co11 ⟨(ev_sl (p 0 rfl)),(ev_sl (p 2 rfl)),trivial⟩),?_⟩))
     refine Calls.mono (c_laws_eqWorld (x0:=p124.1) (x1:=p124.2.1) (x2:=p124.2.2.1) (x3:=p124.2.2.2.1) (x4:=p124.2.2.2.2.1) (x5:=p124.2.2.2.2.2.1) (x6:=p124.2.2.2.2.2.2) (x7:=p146.1) (x8:=p146.2.1) (x9:=p146.2.2.1) (x10:=p146.2.2.2.1) (x11:=p146.2.2.2.2.1) (x12:=p146.2.2.2.2.2.1) (x13:=p146.2.2.2.2.2.2) ⟨(gr_rc S hl 1 rfl),rfl⟩ ⟨(gr_rc S hl 2 rfl),rfl⟩ ⟨(gr_rc S hl 3 rfl),rfl⟩ ⟨(gr_rc S hl 4 rfl),rfl⟩ ⟨(gr_rc S hl 5 rfl),rfl⟩ ⟨(gr_rc S hl 6 rfl),rfl⟩ ⟨(own_rc (show Ow _ _ _ _ _ _ from S.mem (List.mem_append_right _ (hr 2 (List.mem_of_getElem? (i:=0) rfl) _ (List.mem_of_getElem? (i:=0) rfl))))),rfl⟩ ⟨(own_rc (show Ow _ _ _ _ _ _ from S.mem (List.mem_append_right _ (hr 2 (List.mem_of_getElem? (i:=0) rfl) _ (List.mem_of_getElem? (i:=1) rfl))))),rfl⟩ ⟨(own_rc (show Ow _ _ _ _ _ _ from S.mem (List.mem_append_right _ (hr 2 (List.mem_of_getElem? (i:=0) rfl) _ (List.mem_of_getElem? (i:=2) rfl))))),rfl⟩ ⟨(own_rc (show Ow _ _ _ _ _ _ from S.mem (List.mem_append_right _ (hr 2 (List.mem_of_getElem? (i:=0) rfl) _ (List.mem_of_getElem? (i:=3) rfl))))),rfl⟩ ⟨(own_rc (show Ow _ _ _ _ _ _ from S.mem (List.mem_append_right _ (hr 2 (List.mem_of_getElem? (i:=0) rfl) _ (List.mem_of_getElem? (i:=4) rfl))))),rfl⟩ ⟨(own_rc (show Ow _ _ _ _ _ _ from S.mem (List.mem_append_right _ (hr 2 (List.mem_of_getElem? (i:=0) rfl) _ (List.mem_of_getElem? (i:=5) rfl))))),rfl⟩ h165) ?_
     rintro e w1 ⟨rfl,T⟩
     exact ⟨_,rfl,rfl,S.call0 T⟩
    intro a u X hB hu p hr hz hl S
    exact .inl ⟨rfl,_,u,(run_not rfl (ev_sl (p 3 rfl))),rfl,S⟩
   intro a u hB hp S
   obtain ⟨q0,q1,q2,q3,q4,-⟩:=hp
   replace S:St w u [.row 130 3 (.slice (slA (vtup (sl a 24) 1)) p146.2.1.length (slC (vtup (sl a 24) 1))) p146.2.1.length (p146.2.1.flatMap eLine),.row 110 2 (.slice (slA (vtup (sl a 24) 2)) p146.2.2.1.length (slC (vtup (sl a 24) 2))) p146.2.2.1.length (p146.2.2.1.flatMap eBus),.row 4 1 (.slice (slA (vtup (sl a 24) 3)) p146.2.2.2.1.length (slC (vtup (sl a 24) 3))) p146.2.2.2.1.length (p146.2.2.2.1.flatMap eB),.row 4 1 (.slice (slA (vtup (sl a 24) 4)) p146.2.2.2.2.1.length (slC (vtup (sl a 24) 4))) p146.2.2.2.2.1.length (p146.2.2.2.2.1.flatMap eB),.row 78 2 (.slice (slA (vtup (sl a 24) 5)) p146.2.2.2.2.2.1.length (slC (vtup (sl a 24) 5))) p146.2.2.2.2.2.1.length (p146.2.2.2.2.2.1.flatMap ePermit),.row 3 1 (.slice (slA (vtup (sl a 24) 6)) p146.2.2.2.2.2.2.length (slC (vtup (sl a 24) 6))) p146.2.2.2.2.2.2.length (p146.2.2.2.2.2.2.flatMap eI),.box g143 43 #[iv p124.1,.slice B125 p124.2.1.length d127,.slice B128 p124.2.2.1.length d130,.slice B131 p124.2.2.2.1.length d133,.slice B134 p124.2.2.2.2.1.length d136,.slice B137 p124.2.2.2.2.2.1.length d139,.slice B140 p124.2.2.2.2.2.2.length d142],.row 130 3 (.slice B125 p124.2.1.length d127) p124.2.1.length (p124.2.1.flatMap eLine),.row 110 2 (.slice B128 p124.2.2.1.length d130) p124.2.2.1.length (p124.2.2.1.flatMap eBus),.row 4 1 (.slice B131 p124.2.2.2.1.length d133) p124.2.2.2.1.length (p124.2.2.2.1.flatMap eB),.row 4 1 (.slice B134 p124.2.2.2.2.1.length d136) p124.2.2.2.2.1.length (p124.2.2.2.2.1.flatMap eB),.row 78 2 (.slice B137 p124.2.2.2.2.2.1.length d139) p124.2.2.2.2.2.1.length (p124.2.2.2.2.2.1.flatMap ePermit),.row 3 1 (.slice B140 p124.2.2.2.2.2.2.length d142) p124.2.2.2.2.2.2.length (p124.2.2.2.2.2.2.flatMap eI),.row 130 3 (.slice B105 p104.2.1.length d107) p104.2.1.length (p104.2.1.flatMap eLine),.row 110 2 (.slice B108 p104.2.2.1.length d110) p104.2.2.1.length (p104.2.2.1.flatMap eBus),.row 4 1 (.slice B111 p104.2.2.2.1.length d113) p104.2.2.2.1.length (p104.2.2.2.1.flatMap eB),.row 4 1 (.slice B114 p104.2.2.2.2.1.length d116) p104.2.2.2.2.1.length (p104.2.2.2.2.1.flatMap eB),.row 78 2 (.slice B117 p104.2.2.2.2.2.1.length d119) p104.2.2.2.2.2.1.length (p104.2.2.2.2.2.1.flatMap ePermit),.row 3 1 (.slice B120 p104.2.2.2.2.2.2.length d122) p104.2.2.2.2.2.2.length (p104.2.2.2.2.2.2.flatMap eI),.box g101 32 #[iv x0,.slice A1 x1.length c1,.slice A2 x2.length c2,.slice A3 x3.length c3,.slice A4 x4.length c4,.slice A5 x5.length c5,.slice A6 x6.length c6]]:=S
   have f:=f.region hB [(22,.agg #[iv p124.1,.slice B125 p124.2.1.length d127,.slice B128 p124.2.2.1.length d130,.slice B131 p124.2.2.2.1.length d133,.slice B134 p124.2.2.2.2.1.length d136,.slice B137 p124.2.2.2.2.2.1.length d139,.slice B140 p124.2.2.2.2.2.2.length d142]),(23,.agg #[iv x0,.slice A1 x1.length c1,.slice A2 x2.length c2,.slice A3 x3.length c3,.slice A4 x4.length c4,.slice A5 x5.length c5,.slice A6 x6.length c6]),(24,.agg #[iv p146.1,.slice (slA (vtup (sl a 24) 1)) p146.2.1.length (slC (vtup (sl a 24) 1)),.slice (slA (vtup (sl a 24) 2)) p146.2.2.1.length (slC (vtup (sl a 24) 2)),.slice (slA (vtup (sl a 24) 3)) p146.2.2.2.1.length (slC (vtup (sl a 24) 3)),.slice (slA (vtup (sl a 24) 4)) p146.2.2.2.2.1.length (slC (vtup (sl a 24) 4)),.slice (slA (vtup (sl a 24) 5)) p146.2.2.2.2.2.1.length (slC (vtup (sl a 24) 5)),.slice (slA (vtup (sl a 24) 6)) p146.2.2.2.2.2.2.length (slC (vtup (sl a 24) 6))]),(25,.bool p165),(26,.bool (!p165))] (allSl_mem ⟨q0,q1,q2,q3,q4,trivial⟩) rfl
   clear hB q0 q1 q2 q3 q4
   generalize slA (vtup (sl a 24) 1)=B166 at *
   generalize slC (vtup (sl a 24) 1)=d167 at *
   generalize slA (vtup (sl a 24) 2)=B168 at *
   generalize slC (vtup (sl a 24) 2)=d169 at *
   generalize slA (vtup (sl a 24) 3)=B170 at *
   generalize slC (vtup (sl a 24) 3)=d171 at *
   generalize slA (vtup (sl a 24) 4)=B172 at *
   generalize slC (vtup (sl a 24) 4)=d173 at *
   generalize slA (vtup (sl a 24) 5)=B174 at *
   generalize slC (vtup (sl a 24) 5)=d175 at *
   generalize slA (vtup (sl a 24) 6)=B176 at *
   generalize slC (vtup (sl a 24) 6)=d177 at *
   cases hc178:(p165)
   ·replace hM:=bif_f hc178 hM
    refine cond_t f rfl (not_t hc178) ?_
    revert a;refine sr (ov rfl (fun a f=>run_assign rfl rfl) fun a f=>wn ?_)
    refine wp_ret ?_
    repeat with_reducible first|apply tr|apply ir|apply nr
    refine ret1_gw (.inl rfl) f rfl (res_tmp (f.ev rfl)) ?_
    obtain rfl:=Option.some.inj hM
    exact ⟨rfl,S.sel [] rfl rfl⟩
   replace hM:=bif_t hc178 hM
   refine cond_f f rfl (not_f hc178) ?_
   refine wp_skip ?_
   revert a;refine sr (ov rfl (fun a f=>run_assign rfl rfl) fun a f=>wn ?_)
   refine wp_ret ?_
   refine ret1_gw (.inl rfl) f rfl (res_tmp (f.ev rfl)) ?_
   obtain rfl:=Option.some.inj hM
   exact ⟨rfl,S.sel [] rfl rfl⟩
  replace hM:=bif_t hc145 hM
  refine cond_t f rfl hc145 ?_
  revert a;refine sr (ov rfl (fun a f=>run_assign rfl rfl) fun a f=>wn ?_)
  refine wp_ret ?_
  repeat with_reducible first|apply tr|apply ir|apply nr
  refine ret1_gw (.inl rfl) f rfl (res_tmp (f.ev rfl)) ?_
  obtain rfl:=Option.some.inj hM
  exact ⟨rfl,S.sel [] rfl rfl⟩
 replace hM:=bif_t hc103 hM
 refine cond_t f rfl hc103 ?_
 revert a;refine sr (ov rfl (fun a f=>run_assign rfl rfl) fun a f=>wn ?_)
 refine wp_ret ?_
 repeat with_reducible first|apply tr|apply ir|apply nr
 refine ret1_gw (.inl rfl) f rfl (res_tmp (f.ev rfl)) ?_
 obtain rfl:=Option.some.inj hM
 exact ⟨rfl,S.sel [] rfl rfl⟩
end Go.Proofs.YtcmnjaccapbhfaaGreat
