/- Calls return what the models say. -/
import Derived.Test.YtcmnjaccapbhfaaGreatQSq
import Derived.Test.YtcmnjaccapbhfaaGreatQDa4
namespace Go.Proofs.YtcmnjaccapbhfaaGreat
open Go.ChangeShapes Go.WideShapes Go.ChangeAt Go.RowKit
set_option linter.unusedVariables false
set_option maxHeartbeats 4000000
set_option linter.unusedSimpArgs false
theorem c_impl_fedValid {x0:Int} {x1:List (Int×Int×Int)} {x2:List Bool} {x3:List (Int×Int)} {A1:Option Addr} {n1 c1:Nat} {A2:Option Addr} {n2 c2:Nat} {A3:Option Addr} {n3 c3:Nat} {w:World} {r:Bool} (h1:Rt w 3 eLine A1 n1 c1 x1) (h2:Rt w 1 eB A2 n2 c2 x2) (h3:Rt w 2 eBus A3 n3 c3 x3) (hM : m_impl_fedValid x0 x1 x2 x3=some r) :
  Calls Tryz.prog 119 #[.agg #[iv x0,.slice A1 n1 c1],.slice A2 n2 c2,.slice A3 n3 c3] w (fun e w'=>e=.returned (.bool r)∧St w w' []):=by
 obtain rfl:=h1.len
 obtain rfl:=h2.len
 obtain rfl:=h3.len
 unfold m_impl_fedValid at hM
 refine calls_gx Tryz.func119 Tryz.ntmps119 rfl rfl ?_
 intro a f
 have S:=St.nil w
 refine wsg ?_
 refine op_new (cs:=#[iv x0,.slice A1 x1.length c1]) rfl rfl f rfl S (run_box rfl (f.ev rfl) rfl) ?_;clear f S;intro a g101 u f S
 revert a;refine ov rfl (fun a f=>run_assign rfl rfl) fun a f=>wn ?_
 revert a;refine sr (ov rfl (fun a f=>run_loadN rfl ag37 (f.ev rfl) rfl ((S.free 0 rfl).cells 0 #[iv x0,.slice A1 x1.length c1] rfl)) (mv rfl rfl fun a f=>?_))
 obtain ⟨p102,h102,hM⟩:=bind_ex hM
 refine op_call rfl rfl f rfl (run_call (vs:=[_,_]) rfl rfl co142 ⟨(f.ev rfl),(f.ev rfl),trivial⟩) (c_impl_StateValid ⟨(S.rc0 h1.rc),rfl⟩ ⟨(S.rc0 h2.rc),rfl⟩ h102) ?_
 rintro e u ⟨rfl,T⟩
 refine ⟨_,rfl,?_⟩
 clear f;intro a f
 replace S:=S.call0 T;clear T
 revert a;refine mv rfl rfl (gt rfl rfl rfl rfl (fun a f hg=>run_loadN rfl ag37 (f.ev rfl) rfl ((S.free 0 rfl).cells 0 #[iv x0,.slice A1 x1.length c1] rfl)) (gt rfl rfl rfl rfl (fun a f hg=>run_move rfl (f.ev rfl)) fun a f=>?_))
 obtain ⟨p103,h103,hM⟩:=bind_ex hM
 refine op_gcall (v:=.bool p103) rfl rfl f rfl S (yt (gw_yield f rfl rfl rfl)) (fun hg=>(run_call (vs:=[.agg #[iv x0,.slice A1 x1.length c1],.slice A3 x3.length c3]) rfl rfl co74 ⟨((f.ev rfl).trans (gv_t hg)),((f.ev rfl).trans (gv_t hg)),trivial⟩)) (fun hg=>c_impl_BusesValid (x0:=x0) (x1:=x1) (x2:=x3) ⟨(S.rc0 h1.rc),rfl⟩ ⟨(S.rc0 h3.rc),rfl⟩ (gb_t h103 hg)) ?_;clear f S;intro a u f S
 revert a;refine ov rfl (fun a f=>run_pick_and rfl (f.ev rfl) (fun hp=>((f.ev rfl).trans (gv_t hp))) rfl) (ag rfl rfl fun a f=>wn ?_)
 refine wp_ret ?_
 refine ret1_gw (.inl rfl) f rfl (res_tmp (f.ev rfl)) ?_
 obtain rfl:=Option.some.inj hM
 exact ⟨rfl,S.sel [] rfl rfl⟩
theorem c_impl_newUnion {x0:Int} {w:World} {r:List Int}  (hM : m_impl_newUnion x0=some r) :
  Calls Tryz.prog 150 #[iv x0] w (fun e w'=>∃ (B0:Option Addr) (N0 D0:Nat),e=.returned (.slice B0 N0 D0)∧N0=r.length∧St w w' [.row 3 1 (.slice B0 N0 D0) N0 (r.flatMap eI)]):=by
 unfold m_impl_newUnion at hM
 refine calls_gx Tryz.func150 Tryz.ntmps150 rfl rfl ?_
 intro a f
 have S:=St.nil w
 revert a;refine sr (ov rfl (fun a f=>run_assign rfl rfl) fun a f=>wn ?_)
 revert a;refine sr (mv rfl rfl fun a f=>?_)
 obtain ⟨hk102,hM⟩:=chk_ex hM
 replace hk102:=mkB_t hk102
 refine op_newrowL (m:=x0.toNat) (ls:=List.replicate x0.toNat 0) (e:=eI) rfl rfl f rfl S (run_makeL rfl (f.ev rfl) (f.ev rfl) Tryz.underlying171 inf3 eI_len rfl (by decide) hk102) List.length_replicate eI_len (by rw [List.length_replicate];omega) ?_;clear f S;intro a g101 u f S
 revert a;refine ag rfl rfl fun a f=>wn ?_
 refine ws ?_
 revert a;refine sr (mv rfl rfl (ov rfl (fun a f=>run_lenL rfl rfl Tryz.underlying171 (f.ev rfl)) (ov rfl (fun a f=>run_move rfl rfl) fun a f=>wn ?_)))
 obtain ⟨o104,hM106,hM⟩:=bind_ex hM
 refine wp_cut (fun a u=>∃ (p103:List Int),p103=o104∧x0.toNat=p103.length∧Fr a 18 [(2,.slice none 0 0),(3,.slice (some ⟨g101,0,none⟩) x0.toNat x0.toNat)]∧St w u [.row 3 1 (.slice (some ⟨g101,0,none⟩) x0.toNat x0.toNat) x0.toNat (p103.flatMap eI)]) ?_ ?_
 ·have _:=trivial
  refine wp_block ?_
  refine loop_gw (fun m a u=>∃ (p107:List Int×Int),m_impl_newUnion_l1 x0 m p107=some _∧x0.toNat=p107.1.length∧Fr a 18 [(2,.slice none 0 0),(3,.slice (some ⟨g101,0,none⟩) x0.toNat x0.toNat),(8,iv (x0.toNat:Int)),(9,iv p107.2)]∧St w u [.row 3 1 (.slice (some ⟨g101,0,none⟩) x0.toNat x0.toNat) x0.toNat (p107.1.flatMap eI)]) FUEL ⟨(List.replicate x0.toNat 0,0),hM106,List.length_replicate.symm,f.keep _ ⟨rfl,rfl,rfl,rfl,trivial⟩,S.sel [0] rfl rfl⟩ ?_
  clear f S hM106;rintro m a u ⟨p107,hM106,hn108,f,S⟩
  rcases m with _ | f1
  ·exact none_some hM106
  rw [m_impl_newUnion_l1.eq_2] at hM106
  revert a;refine sr (ov rfl (fun a f=>run_lss (f.ev rfl) (f.ev rfl) rfl) fun a f=>wn ?_)
  refine ws ?_
  cases hc109:(ltB p107.2 (x0.toNat:Int))
  ·replace hM106:=bif_f hc109 hM106
   refine cond_f f rfl hc109 ?_
   refine wp_exit ?_
   repeat with_reducible first|apply then_exit|apply in_hit|refine in_miss rfl ?_
   obtain rfl:=Option.some.inj hM106
   exact ⟨p107.1,rfl,hn108,f.keep _ ⟨rfl,rfl,trivial⟩,S.sel [0] rfl rfl⟩
  replace hM106:=bif_t hc109 hM106
  refine cond_t f rfl hc109 ?_
  refine wp_skip ?_
  refine ws ?_
  refine wp_block ?_
  revert a;refine sr (mv rfl rfl (ag rfl rfl fun a f=>wn ?_))
  revert a;refine rl (mv rfl rfl (mv rfl rfl (mv rfl rfl fun a f=>?_)))
  obtain ⟨hk110,hM106⟩:=chk_ex hM106
  replace hk110:=ixB_t hk110
  revert a;refine ov rfl (fun a f=>run_indexAddr (b:=adB (some ⟨g101,0,none⟩)) (off:=adO (some ⟨g101,0,none⟩)) rfl Tryz.underlying171 sz3 ((f.ev rfl).trans (congrArg (fun A=>Value.slice A x0.toNat x0.toNat) ((S.rc 0 rfl).rd.ad (ix_pos hk110)))) (f.ev rfl) hk110.1 hk110.2 (k':=adO (some ⟨g101,0,none⟩)+p107.2.toNat*1) rfl) fun a f=>?_
  obtain ⟨w',hrun,S'⟩:=run_storeElN (P:=Tryz.prog) (ρ:=a.eval) (y0:=p107.2) (off:=0) S 3 (.tmp 15) (.tmp 14) (i:=0) sz3 (f.ev rfl) (f.ev rfl) rfl rfl rfl rfl hn108 eI_len 0 (ix_ltn hk110 hn108) rfl rfl
  refine op_do rfl rfl (hrun _ rfl) ?_;clear hrun S;have S:=S';clear S';generalize w'=u at S ⊢
  refine wn ?_
  revert a;refine rl (ov rfl (fun a f=>run_add (z:=w64 (p107.2+1)) (f.ev rfl) rfl rfl rfl) (mv rfl rfl fun a f=>wn ?_))
  exact ⟨f1,Nat.lt_succ_self _,(p107.1.set p107.2.toNat p107.2,w64 (p107.2+1)),hM106,(len_set hn108),f.keep _ ⟨rfl,rfl,rfl,rfl,trivial⟩,S.sel [0] rfl rfl⟩
 rintro a u ⟨p103,rfl,hn105,f,S⟩
 revert a;refine sr (mv rfl rfl (ag rfl rfl fun a f=>wn ?_))
 refine wp_ret ?_
 refine ret1_gw (.inl rfl) f rfl (res_tmp (f.ev rfl)) ?_
 obtain rfl:=Option.some.inj hM
 exact ⟨(some ⟨g101,0,none⟩),x0.toNat,x0.toNat,rfl,hn105,S.sel [0] rfl rfl⟩
theorem c_impl_union_find {x0:List Int} {x1:Int} {A0:Option Addr} {n0 c0:Nat} {w:World} {r:Int×List Int} {w0:World} {X:List Asn} (h0 : n0=x0.length) (S:St w0 w (Asn.row 3 1 (.slice A0 n0 c0) n0 (x0.flatMap eI) :: X)) (hM : m_impl_union_find x0 x1=some r) :
  Calls Tryz.prog 156 #[.slice A0 n0 c0,iv x1] w (fun e w'=>e=.returned (iv r.1)∧n0=r.2.length∧St w0 w' (Asn.row 3 1 (.slice A0 n0 c0) n0 (r.2.flatMap eI) :: X)):=by
 obtain rfl:=h0
 unfold m_impl_union_find at hM
 refine calls_gx Tryz.func156 Tryz.ntmps156 rfl rfl ?_
 intro a f
 revert a;refine sr (ov rfl (fun a f=>run_assign rfl rfl) fun a f=>wn ?_)
 refine ws ?_
 obtain ⟨o102,hM104,hM⟩:=bind_ex hM
 refine wp_cut (fun a u=>∃ (p101:Int×List Int),p101=o102∧x0.length=p101.2.length∧Fr a 26 [(1,iv p101.1),(4,iv 0)]∧St w0 u (Asn.row 3 1 (.slice A0 x0.length c0) x0.length (p101.2.flatMap eI) :: X)) ?_ ?_
 ·have _:=trivial
  refine wp_block ?_
  refine loop_gw (fun m a u=>∃ (p105:List Int×Int),m_impl_union_find_l1 x0 m p105=some _∧x0.length=p105.1.length∧Fr a 26 [(0,.slice A0 x0.length c0),(1,iv p105.2),(4,iv 0)]∧St w0 u (Asn.row 3 1 (.slice A0 x0.length c0) x0.length (p105.1.flatMap eI) :: X)) FUEL ⟨(x0,x1),hM104,rfl,f.keep _ ⟨rfl,rfl,rfl,trivial⟩,S.selT (M:=[.row 3 1 (.slice A0 x0.length c0) x0.length (x0.flatMap eI)]) 1 [0] rfl rfl rfl⟩ ?_
  clear f S hM104;rintro m a u ⟨p105,hM104,hn106,f,S⟩
  rcases m with _ | f1
  ·exact none_some hM104
  rw [m_impl_union_find_l1.eq_2] at hM104
  refine ws ?_
  revert a;refine sr (mv rfl rfl (mv rfl rfl fun a f=>?_))
  obtain ⟨hk107,hM104⟩:=chk_ex hM104
  replace hk107:=ixB_t hk107
  revert a;refine ov rfl (fun a f=>run_ix rfl Tryz.underlying171 sz3 (f.ev rfl) (S.rc 0 rfl) (f.ev rfl) hk107) (ov rfl (fun a f=>run_load1 rfl one3 (f.ev rfl) (rd_el0 (l:=p105.1) (S.rc 0 rfl).rd hn106 eI_len 0 (ix_ltn hk107 hn106) rfl)) (mv rfl rfl (ov rfl (fun a f=>run_neq (f.ev rfl) (f.ev rfl) rfl) fun a f=>wn ?_)))
  cases hc108:((p105.1.getD p105.2.toNat 0) != p105.2)
  ·replace hM104:=bif_f hc108 hM104
   refine cond_f f rfl hc108 ?_
   refine wp_exit ?_
   repeat with_reducible first|apply then_exit|apply in_hit|refine in_miss rfl ?_
   obtain rfl:=Option.some.inj hM104
   exact ⟨(p105.2,p105.1),rfl,hn106,f.keep _ ⟨rfl,rfl,trivial⟩,S.selT (M:=[.row 3 1 (.slice A0 x0.length c0) x0.length (p105.1.flatMap eI)]) 1 [0] rfl rfl rfl⟩
  replace hM104:=bif_t hc108 hM104
  refine cond_t f rfl hc108 ?_
  refine wp_skip ?_
  refine wp_block ?_
  revert a;refine sr (mv rfl rfl (mv rfl rfl (mv rfl rfl (mv rfl rfl (mv rfl rfl fun a f=>?_)))))
  obtain ⟨hk109,hM104⟩:=chk_ex hM104
  replace hk109:=ixB_t hk109
  revert a;refine ov rfl (fun a f=>run_ix rfl Tryz.underlying171 sz3 (f.ev rfl) (S.rc 0 rfl) (f.ev rfl) hk109) (ov rfl (fun a f=>run_load1 rfl one3 (f.ev rfl) (rd_el0 (l:=p105.1) (S.rc 0 rfl).rd hn106 eI_len 0 (ix_ltn hk109 hn106) rfl)) fun a f=>?_)
  obtain ⟨hk110,hM104⟩:=chk_ex hM104
  replace hk110:=ixB_t hk110
  revert a;refine ov rfl (fun a f=>run_ix rfl Tryz.underlying171 sz3 (f.ev rfl) (S.rc 0 rfl) (f.ev rfl) hk110) (ov rfl (fun a f=>run_load1 rfl one3 (f.ev rfl) (rd_el0 (l:=p105.1) (S.rc 0 rfl).rd hn106 eI_len 0 (ix_ltn hk110 hn106) rfl)) fun a f=>?_)
  obtain ⟨hk111,hM104⟩:=chk_ex hM104
  replace hk111:=ixB_t hk111
  revert a;refine ov rfl (fun a f=>run_ix rfl Tryz.underlying171 sz3 (f.ev rfl) (S.rc 0 rfl) (f.ev rfl) hk111) fun a f=>?_
  obtain ⟨w',hrun,S'⟩:=run_storeElN (P:=Tryz.prog) (ρ:=a.eval) (y0:=(p105.1.getD ((p105.1.getD p105.2.toNat 0).toNat) 0)) (off:=0) S 3 (.tmp 20) (.tmp 19) (i:=0) sz3 (f.ev rfl) (f.ev rfl) rfl rfl rfl rfl hn106 eI_len 0 (ix_ltn hk111 hn106) rfl rfl
  refine op_do rfl rfl (hrun _ rfl) ?_;clear hrun S;have S:=S';clear S';generalize w'=u at S ⊢
  refine wn ?_
  revert a;refine rl (mv rfl rfl (mv rfl rfl fun a f=>?_))
  obtain ⟨hk112,hM104⟩:=chk_ex hM104
  replace hk112:=ixB_t hk112
  revert a;refine ov rfl (fun a f=>run_ix rfl Tryz.underlying171 sz3 (f.ev rfl) (S.rc 0 rfl) (f.ev rfl) hk112) (ov rfl (fun a f=>run_load1 rfl one3 (f.ev rfl) (rd_el0 (l:=p105.1.set p105.2.toNat (p105.1.getD ((p105.1.getD p105.2.toNat 0).toNat) 0)) (S.rc 0 rfl).rd (len_set hn106) eI_len 0 (ix_ltn hk112 (len_set hn106)) rfl)) (ag rfl rfl fun a f=>wn ?_))
  exact ⟨f1,Nat.lt_succ_self _,(p105.1.set p105.2.toNat (p105.1.getD ((p105.1.getD p105.2.toNat 0).toNat) 0),((p105.1.set p105.2.toNat (p105.1.getD ((p105.1.getD p105.2.toNat 0).toNat) 0)).getD p105.2.toNat 0)),hM104,(len_set hn106),f.keep _ ⟨rfl,rfl,rfl,trivial⟩,S.selT (M:=[.row 3 1 (.slice A0 x0.length c0) x0.length ((p105.1.set p105.2.toNat (p105.1.getD ((p105.1.getD p105.2.toNat 0).toNat) 0)).flatMap eI)]) 1 [0] rfl rfl rfl⟩
 rintro a u ⟨p101,rfl,hn103,f,S⟩
 revert a;refine sr (mv rfl rfl (ag rfl rfl fun a f=>wn ?_))
 refine wp_ret ?_
 refine ret1_gw (.inl rfl) f rfl (res_tmp (f.ev rfl)) ?_
 obtain rfl:=Option.some.inj hM
 exact ⟨rfl,hn103,S.selT (M:=[.row 3 1 (.slice A0 x0.length c0) x0.length (p101.2.flatMap eI)]) 1 [0] rfl rfl rfl⟩
theorem c_impl_union_same {x0:List Int} {x1:Int} {x2:Int} {A0:Option Addr} {n0 c0:Nat} {w:World} {r:Bool×List Int} {w0:World} {X:List Asn} (h0 : n0=x0.length) (S:St w0 w (Asn.row 3 1 (.slice A0 n0 c0) n0 (x0.flatMap eI) :: X)) (hM : m_impl_union_same x0 x1 x2=some r) :
  Calls Tryz.prog 151 #[.slice A0 n0 c0,iv x1,iv x2] w (fun e w'=>e=.returned (.bool r.1)∧n0=r.2.length∧St w0 w' (Asn.row 3 1 (.slice A0 n0 c0) n0 (r.2.flatMap eI) :: X)):=by
 obtain rfl:=h0
 unfold m_impl_union_same at hM
 refine calls_gx Tryz.func151 Tryz.ntmps151 rfl rfl ?_
 intro a f
 revert a;refine sr (ov rfl (fun a f=>run_assign rfl rfl) fun a f=>wn ?_)
 revert a;refine sr (mv rfl rfl (mv rfl rfl fun a f=>?_))
 obtain ⟨p101,h101,hM⟩:=bind_ex hM
 refine op_call rfl rfl f rfl (run_call (vs:=[_,_]) rfl rfl co156 ⟨(f.ev rfl),(f.ev rfl),trivial⟩) (c_impl_union_find rfl (show St w0 _ (Asn.row 3 1 (.slice A0 x0.length c0) x0.length (x0.flatMap eI) :: X) from S.selT (M:=[.row 3 1 (.slice A0 x0.length c0) x0.length (x0.flatMap eI)]) 1 [0] rfl rfl rfl) h101) ?_
 rintro e u ⟨rfl,hn102,T⟩
 refine ⟨_,rfl,?_⟩
 clear f;intro a f
 clear S;have S:=T;clear T
 revert a;refine mv rfl rfl (mv rfl rfl fun a f=>?_)
 obtain ⟨p103,h103,hM⟩:=bind_ex hM
 refine op_call rfl rfl f rfl (run_call (vs:=[_,_]) rfl rfl co156 ⟨(f.ev rfl),(f.ev rfl),trivial⟩) (c_impl_union_find hn102 (show St w0 _ (Asn.row 3 1 (.slice A0 x0.length c0) x0.length (p101.2.flatMap eI) :: X) from S.selT (M:=[.row 3 1 (.slice A0 x0.length c0) x0.length (p101.2.flatMap eI)]) 1 [0] rfl rfl rfl) h103) ?_
 rintro e u ⟨rfl,hn104,T⟩
 refine ⟨_,rfl,?_⟩
 clear f;intro a f
 clear S;have S:=T;clear T
 revert a;refine ov rfl (fun a f=>run_eql (f.ev rfl) (f.ev rfl) rfl) (ag rfl rfl fun a f=>wn ?_)
 refine wp_ret ?_
 refine ret1_gw (.inl rfl) f rfl (res_tmp (f.ev rfl)) ?_
 obtain rfl:=Option.some.inj hM
 exact ⟨rfl,hn104,S.selT (M:=[.row 3 1 (.slice A0 x0.length c0) x0.length (p103.2.flatMap eI)]) 1 [0] rfl rfl rfl⟩
theorem c_impl_union_join {x0:List Int} {x1:Int} {x2:Int} {A0:Option Addr} {n0 c0:Nat} {w:World} {r:List Int} {w0:World} {X:List Asn} (h0 : n0=x0.length) (S:St w0 w (Asn.row 3 1 (.slice A0 n0 c0) n0 (x0.flatMap eI) :: X)) (hM : m_impl_union_join x0 x1 x2=some r) :
  Calls Tryz.prog 152 #[.slice A0 n0 c0,iv x1,iv x2] w (fun e w'=>e=.returned (.tuple #[])∧n0=r.length∧St w0 w' (Asn.row 3 1 (.slice A0 n0 c0) n0 (r.flatMap eI) :: X)):=by
 obtain rfl:=h0
 unfold m_impl_union_join at hM
 refine calls_gx Tryz.func152 Tryz.ntmps152 rfl rfl ?_
 intro a f
 revert a;refine sr (mv rfl rfl (mv rfl rfl fun a f=>?_))
 obtain ⟨p101,h101,hM⟩:=bind_ex hM
 refine op_call rfl rfl f rfl (run_call (vs:=[_,_]) rfl rfl co156 ⟨(f.ev rfl),(f.ev rfl),trivial⟩) (c_impl_union_find rfl (show St w0 _ (Asn.row 3 1 (.slice A0 x0.length c0) x0.length (x0.flatMap eI) :: X) from S.selT (M:=[.row 3 1 (.slice A0 x0.length c0) x0.length (x0.flatMap eI)]) 1 [0] rfl rfl rfl) h101) ?_
 rintro e u ⟨rfl,hn102,T⟩
 refine ⟨_,rfl,?_⟩
 clear f;intro a f
 clear S;have S:=T;clear T
 revert a;refine mv rfl rfl (mv rfl rfl fun a f=>?_)
 obtain ⟨p103,h103,hM⟩:=bind_ex hM
 refine op_call rfl rfl f rfl (run_call (vs:=[_,_]) rfl rfl co156 ⟨(f.ev rfl),(f.ev rfl),trivial⟩) (c_impl_union_find hn102 (show St w0 _ (Asn.row 3 1 (.slice A0 x0.length c0) x0.length (p101.2.flatMap eI) :: X) from S.selT (M:=[.row 3 1 (.slice A0 x0.length c0) x0.length (p101.2.flatMap eI)]) 1 [0] rfl rfl rfl) h103) ?_
 rintro e u ⟨rfl,hn104,T⟩
 refine ⟨_,rfl,?_⟩
 clear f;intro a f
 clear S;have S:=T;clear T
 revert a;refine ag rfl rfl (ag rfl rfl fun a f=>wn ?_)
 revert a;refine rl (mv rfl rfl (mv rfl rfl (mv rfl rfl (ov rfl (fun a f=>run_max rfl (f.ev rfl) (f.ev rfl)) (mv rfl rfl (mv rfl rfl (ov rfl (fun a f=>run_min rfl (f.ev rfl) (f.ev rfl)) fun a f=>?_)))))))
 obtain ⟨hk105,hM⟩:=chk_ex hM
 replace hk105:=ixB_t hk105
 revert a;refine ov rfl (fun a f=>run_ix rfl Tryz.underlying171 sz3 (f.ev rfl) (S.rc 0 rfl) (f.ev rfl) hk105) fun a f=>?_
 obtain ⟨w',hrun,S'⟩:=run_storeElN (P:=Tryz.prog) (ρ:=a.eval) (y0:=min p101.1 p103.1) (off:=0) S 3 (.tmp 19) (.tmp 18) (i:=0) sz3 (f.ev rfl) (f.ev rfl) rfl rfl rfl rfl hn104 eI_len 0 (ix_ltn hk105 hn104) rfl rfl
 refine op_do rfl rfl (hrun _ rfl) ?_;clear hrun S;have S:=S';clear S';generalize w'=u at S ⊢
 refine wn ?_
 refine ret0_gw (.inr rfl) f rfl  ?_
 obtain rfl:=Option.some.inj hM
 exact ⟨rfl,(len_set hn104),S.selT (M:=[.row 3 1 (.slice A0 x0.length c0) x0.length ((p103.2.set ((max p101.1 p103.1).toNat) (min p101.1 p103.1)).flatMap eI)]) 1 [0] rfl rfl rfl⟩
theorem c_impl_hasCycle {x0:Int} {x1:List (Int×Int×Int)} {x2:List Bool} {A1:Option Addr} {n1 c1:Nat} {A2:Option Addr} {n2 c2:Nat} {w:World} {r:Bool} (h1:Rt w 3 eLine A1 n1 c1 x1) (h2:Rt w 1 eB A2 n2 c2 x2) (hM : m_impl_hasCycle x0 x1 x2=some r) :
  Calls Tryz.prog 137 #[.agg #[iv x0,.slice A1 n1 c1],.slice A2 n2 c2] w (fun e w'=>e=.returned (.bool r)∧St w w' []):=by
 obtain rfl:=h1.len
 obtain rfl:=h2.len
 unfold m_impl_hasCycle at hM
 refine calls_gx Tryz.func137 Tryz.ntmps137 rfl rfl ?_
 intro a f
 have S:=St.nil w
 refine wsg ?_
 refine op_new (cs:=#[iv x0,.slice A1 x1.length c1]) rfl rfl f rfl S (run_box rfl (f.ev rfl) rfl) ?_;clear f S;intro a g101 u f S
 revert a;refine ov rfl (fun a f=>run_assign rfl rfl) fun a f=>wn ?_
 revert a;refine sr (ov rfl (fun a f=>run_fieldAddr rfl fl37_0 (f.ev rfl) rfl) (ov rfl (fun a f=>run_load1 rfl one3 (f.ev rfl) (S.cell 0 rfl rfl)) fun a f=>?_))
 obtain ⟨p102,h102,hM⟩:=bind_ex hM
 refine op_call rfl rfl f rfl (run_call (vs:=[_]) rfl rfl co150 ⟨(f.ev rfl),trivial⟩) (c_impl_newUnion  h102) ?_
 rintro e u ⟨B103,n104,d105,rfl,rfl,T⟩
 refine ⟨_,rfl,?_⟩
 clear f;intro a f
 replace S:=S.call1 T;clear T
 revert a;refine ag rfl rfl fun a f=>wn ?_
 refine ws ?_
 revert a;refine sr (ov rfl (fun a f=>run_fieldAddr rfl fl37_1 (f.ev rfl) rfl) (ov rfl (fun a f=>run_load1 rfl one35 (f.ev rfl) (S.cell 1 rfl rfl)) (ov rfl (fun a f=>run_lenL rfl rfl Tryz.underlying35 (f.ev rfl)) (ov rfl (fun a f=>run_move rfl rfl) fun a f=>wn ?_))))
 obtain ⟨o107,hM108,hM⟩:=bind_ex hM
 refine wp_cut (fun a u=>∃ (p106:Unit),(Sum.inl p106)=o107∧Fr a 36 [(4,.bool false)]∧St w u []) ?_ ?_
 ·have _:=trivial
  refine wp_block ?_
  refine loop_gw (fun m a u=>∃ (p109:List Int×Int),m_impl_hasCycle_l1 x1 x2 m p109=some _∧p102.length=p109.1.length∧Fr a 36 [(1,.slice A2 x2.length c2),(4,.bool false),(5,.slice B103 p102.length d105),(12,.slice A1 x1.length c1),(13,iv (x1.length:Int)),(14,iv p109.2)]∧St w u [.row 3 1 (.slice B103 p102.length d105) p102.length (p109.1.flatMap eI)]) FUEL ⟨(p102,0),hM108,rfl,f.keep _ ⟨rfl,rfl,rfl,rfl,rfl,rfl,trivial⟩,S.sel [0] rfl rfl⟩ ?_
  clear f S hM108;rintro m a u ⟨p109,hM108,hn110,f,S⟩
  rcases m with _ | f1
  ·exact none_some hM108
  rw [m_impl_hasCycle_l1.eq_2] at hM108
  revert a;refine sr (ov rfl (fun a f=>run_lss (f.ev rfl) (f.ev rfl) rfl) fun a f=>wn ?_)
  refine ws ?_
  cases hc111:(ltB p109.2 (x1.length:Int))
  ·replace hM108:=bif_f hc111 hM108
   refine cond_f f rfl hc111 ?_
   refine wp_exit ?_
   repeat with_reducible first|apply then_exit|apply in_hit|refine in_miss rfl ?_
   obtain rfl:=Option.some.inj hM108
   exact ⟨(),rfl,f.keep _ ⟨rfl,trivial⟩,S.sel [] rfl rfl⟩
  replace hM108:=bif_t hc111 hM108
  refine cond_t f rfl hc111 ?_
  refine wp_skip ?_
  refine ws ?_
  refine wp_block ?_
  revert a;refine sr (mv rfl rfl fun a f=>?_)
  obtain ⟨hk112,hM108⟩:=chk_ex hM108
  replace hk112:=ixB_t hk112
  revert a;refine ov rfl (fun a f=>run_ix rfl Tryz.underlying35 sz130 (f.ev rfl) (S.rc0 h1.rc) (f.ev rfl) hk112) (ov rfl (fun a f=>run_loadN (cs:=#[iv ((x1.getD p109.2.toNat (0,0,0)).1),iv ((x1.getD p109.2.toNat (0,0,0)).2.1),iv ((x1.getD p109.2.toNat (0,0,0)).2.2)]) rfl ag130 (f.ev rfl) rfl (rd_elN (l:=x1) (S.rc0 h1.rc).rd rfl eLine_len (0,0,0) (ix_ltn hk112 rfl) rfl)) fun a f=>?_)
  refine op_new (cs:=#[iv 0,iv 0,iv 0]) rfl rfl f rfl S (run_allocZ rfl zr130) ?_;clear f S;intro a g113 u f S
  revert a;refine ag rfl rfl fun a f=>?_
  refine op_do rfl rfl (run_store (cs':=#[iv ((x1.getD p109.2.toNat (0,0,0)).1),iv ((x1.getD p109.2.toNat (0,0,0)).2.1),iv ((x1.getD p109.2.toNat (0,0,0)).2.2)]) rfl sz130 (f.ev rfl) (f.ev rfl) rfl rfl rfl (S.free 0 rfl) rfl rfl) ?_;replace S:=S.put 0 rfl (#[iv ((x1.getD p109.2.toNat (0,0,0)).1),iv ((x1.getD p109.2.toNat (0,0,0)).2.1),iv ((x1.getD p109.2.toNat (0,0,0)).2.2)])
  generalize World.setRow _ _ _=u at S ⊢
  refine wn ?_
  revert a;refine sr (mv rfl rfl (mv rfl rfl fun a f=>?_))
  obtain ⟨hk114,hM108⟩:=chk_ex hM108
  replace hk114:=ixB_t hk114
  revert a;refine ov rfl (fun a f=>run_ix rfl Tryz.underlying26 sz4 (f.ev rfl) (S.rc0 h2.rc) (f.ev rfl) hk114) (ov rfl (fun a f=>run_load1 rfl one4 (f.ev rfl) (rd_el0 (l:=x2) (S.rc0 h2.rc).rd rfl eB_len false (ix_ltn hk114 rfl) rfl)) fun a f=>wn ?_)
  obtain ⟨o116,hM118,hM108⟩:=bind_ex hM108
  refine wp_cut (fun a u=>∃ (p115:List Int),(Sum.inl p115)=o116∧p102.length=p115.length∧Fr a 36 [(1,.slice A2 x2.length c2),(4,.bool false),(5,.slice B103 p102.length d105),(12,.slice A1 x1.length c1),(13,iv (x1.length:Int)),(14,iv p109.2)]∧St w u [.row 3 1 (.slice B103 p102.length d105) p102.length (p115.flatMap eI)]) ?_ ?_
  ·have _:=trivial
   cases hc119:(x2.getD p109.2.toNat false)
   ·replace hM118:=bif_f hc119 hM118
    refine cond_f f rfl hc119 ?_
    refine wp_skip ?_
    obtain rfl:=Option.some.inj hM118
    exact ⟨p109.1,rfl,hn110,f.keep _ ⟨rfl,rfl,rfl,rfl,rfl,rfl,trivial⟩,S.sel [1] rfl rfl⟩
   replace hM118:=bif_t hc119 hM118
   refine cond_t f rfl hc119 ?_
   refine ws ?_
   revert a;refine sr (mv rfl rfl (ov rfl (fun a f=>run_fieldAddr rfl fl130_0 (f.ev rfl) rfl) (ov rfl (fun a f=>run_load1 rfl one3 (f.ev rfl) (S.cell 0 rfl rfl)) (ov rfl (fun a f=>run_fieldAddr rfl fl130_1 (f.ev rfl) rfl) (ov rfl (fun a f=>run_load1 rfl one3 (f.ev rfl) (S.cell 0 rfl rfl)) fun a f=>?_)))))
   obtain ⟨p120,h120,hM118⟩:=bind_ex hM118
   refine op_call rfl rfl f rfl (run_call (vs:=[_,_,_]) rfl rfl co151 ⟨(f.ev rfl),(f.ev rfl),(f.ev rfl),trivial⟩) (c_impl_union_same hn110 (show St w _ [.row 3 1 (.slice B103 p102.length d105) p102.length (p109.1.flatMap eI),.box g113 130 #[iv ((x1.getD p109.2.toNat (0,0,0)).1),iv ((x1.getD p109.2.toNat (0,0,0)).2.1),iv ((x1.getD p109.2.toNat (0,0,0)).2.2)]] from S.sel [1,0] rfl rfl) h120) ?_
   rintro e u ⟨rfl,hn121,T⟩
   refine ⟨_,rfl,?_⟩
   clear f;intro a f
   clear S;have S:=T;clear T
   refine wn ?_
   cases hc122:(p120.1)
   ·replace hM118:=bif_f hc122 hM118
    refine cond_f f rfl hc122 ?_
    refine wp_skip ?_
    revert a;refine rl (mv rfl rfl (ov rfl (fun a f=>run_fieldAddr rfl fl130_0 (f.ev rfl) rfl) (ov rfl (fun a f=>run_load1 rfl one3 (f.ev rfl) (S.cell 1 rfl rfl)) (ov rfl (fun a f=>run_fieldAddr rfl fl130_1 (f.ev rfl) rfl) (ov rfl (fun a f=>run_load1 rfl one3 (f.ev rfl) (S.cell 1 rfl rfl)) fun a f=>?_)))))
    obtain ⟨p123,h123,hM118⟩:=bind_ex hM118
    refine op_call rfl rfl f rfl (run_call (vs:=[_,_,_]) rfl rfl co152 ⟨(f.ev rfl),(f.ev rfl),(f.ev rfl),trivial⟩) (c_impl_union_join hn121 (show St w _ [.row 3 1 (.slice B103 p102.length d105) p102.length (p120.2.flatMap eI),.box g113 130 #[iv ((x1.getD p109.2.toNat (0,0,0)).1),iv ((x1.getD p109.2.toNat (0,0,0)).2.1),iv ((x1.getD p109.2.toNat (0,0,0)).2.2)]] from S.sel [0,1] rfl rfl) h123) ?_
    rintro e u ⟨rfl,hn124,T⟩
    refine ⟨_,rfl,?_⟩
    clear f;intro a f
    clear S;have S:=T;clear T
    refine wn ?_
    obtain rfl:=Option.some.inj hM118
    exact ⟨p123,rfl,hn124,f.keep _ ⟨rfl,rfl,rfl,rfl,rfl,rfl,trivial⟩,S.sel [0] rfl rfl⟩
   replace hM118:=bif_t hc122 hM118
   refine cond_t f rfl hc122 ?_
   revert a;refine sr (ov rfl (fun a f=>run_assign rfl rfl) fun a f=>wn ?_)
   refine wp_ret ?_
   repeat with_reducible first|apply tr|apply ir|apply nr
   refine ret1_gw (.inl rfl) f rfl (res_tmp (f.ev rfl)) ?_
   obtain rfl:=Option.some.inj hM118
   obtain rfl:=Option.some.inj hM108
   obtain rfl:=Option.some.inj hM
   exact ⟨rfl,S.sel [] rfl rfl⟩
  rintro a u ⟨p115,rfl,hn117,f,S⟩
  replace hM108:=elim_l hM108
  revert a;refine rl (ov rfl (fun a f=>run_add (z:=w64 (p109.2+1)) (f.ev rfl) rfl rfl rfl) (mv rfl rfl fun a f=>wn ?_))
  exact ⟨f1,Nat.lt_succ_self _,(p115,w64 (p109.2+1)),hM108,hn117,f.keep _ ⟨rfl,rfl,rfl,rfl,rfl,rfl,trivial⟩,S.sel [0] rfl rfl⟩
 rintro a u ⟨p106,rfl,f,S⟩
 replace hM:=elim_l hM
 revert a;refine sr (ov rfl (fun a f=>run_assign rfl rfl) fun a f=>wn ?_)
 refine wp_ret ?_
 refine ret1_gw (.inl rfl) f rfl (res_tmp (f.ev rfl)) ?_
 obtain rfl:=Option.some.inj hM
 exact ⟨rfl,S.sel [] rfl rfl⟩
theorem c_impl_Line_other {x0:Int} {x1:Int} {x2:Int} {x3:Int} {w:World} {r:Int}  (hM : m_impl_Line_other x0 x1 x2 x3=some r) :
  Calls Tryz.prog 153 #[.agg #[iv x0,iv x1,iv x2],iv x3] w (fun e w'=>e=.returned (iv r)∧St w w' []):=by
 unfold m_impl_Line_other at hM
 refine calls_gx Tryz.func153 Tryz.ntmps153 rfl rfl ?_
 intro a f
 have S:=St.nil w
 refine wsg ?_
 refine op_new (cs:=#[iv x0,iv x1,iv x2]) rfl rfl f rfl S (run_box rfl (f.ev rfl) rfl) ?_;clear f S;intro a g101 u f S
 revert a;refine ov rfl (fun a f=>run_assign rfl rfl) fun a f=>wn ?_
 refine ws ?_
 revert a;refine sr (mv rfl rfl fun a f=>wn ?_)
 refine wp_block ?_
 revert a;refine sr (ov rfl (fun a f=>run_fieldAddr rfl fl130_0 (f.ev rfl) rfl) (ov rfl (fun a f=>run_load1 rfl one3 (f.ev rfl) (S.cell 0 rfl rfl)) (ov rfl (fun a f=>run_eql (f.ev rfl) (f.ev rfl) rfl) (ag rfl rfl fun a f=>wn ?_))))
 cases hc102:(x3==x0)
 ·replace hM:=bif_f hc102 hM
  refine cond_f f rfl hc102 ?_
  revert a;refine sr (ov rfl (fun a f=>run_fieldAddr rfl fl130_1 (f.ev rfl) rfl) (ov rfl (fun a f=>run_load1 rfl one3 (f.ev rfl) (S.cell 0 rfl rfl)) (ov rfl (fun a f=>run_eql (f.ev rfl) (f.ev rfl) rfl) (ag rfl rfl fun a f=>wn ?_))))
  cases hc103:(x3==x1)
  ·replace hM:=bif_f hc103 hM
   refine cond_f f rfl hc103 ?_
   refine wp_skip ?_
   revert a;refine sr (ov rfl (fun a f=>run_assign rfl rfl) fun a f=>wn ?_)
   refine wp_ret ?_
   refine ret1_gw (.inl rfl) f rfl (res_tmp (f.ev rfl)) ?_
   obtain rfl:=Option.some.inj hM
   exact ⟨rfl,S.sel [] rfl rfl⟩
  replace hM:=bif_t hc103 hM
  refine cond_t f rfl hc103 ?_
  revert a;refine sr (ov rfl (fun a f=>run_fieldAddr rfl fl130_0 (f.ev rfl) rfl) (ov rfl (fun a f=>run_load1 rfl one3 (f.ev rfl) (S.cell 0 rfl rfl)) (ag rfl rfl fun a f=>wn ?_)))
  refine wp_ret ?_
  repeat with_reducible first|apply tr|apply ir|apply nr
  refine ret1_gw (.inl rfl) f rfl (res_tmp (f.ev rfl)) ?_
  obtain rfl:=Option.some.inj hM
  exact ⟨rfl,S.sel [] rfl rfl⟩
 replace hM:=bif_t hc102 hM
 refine cond_t f rfl hc102 ?_
 revert a;refine sr (ov rfl (fun a f=>run_fieldAddr rfl fl130_1 (f.ev rfl) rfl) (ov rfl (fun a f=>run_load1 rfl one3 (f.ev rfl) (S.cell 0 rfl rfl)) (ag rfl rfl fun a f=>wn ?_)))
 refine wp_ret ?_
 repeat with_reducible first|apply tr|apply ir|apply nr
 refine ret1_gw (.inl rfl) f rfl (res_tmp (f.ev rfl)) ?_
 obtain rfl:=Option.some.inj hM
 exact ⟨rfl,S.sel [] rfl rfl⟩
theorem c_impl_tree_search {x0:Int} {x1:List (Int×Int×Int)} {x2:List Int} {x3:List Int} {x4:List Int} {x5:List Bool} {x6:Int} {A1:Option Addr} {n1 c1:Nat} {Y1:Asn} {A2:Option Addr} {n2 c2:Nat} {A3:Option Addr} {n3 c3:Nat} {A4:Option Addr} {n4 c4:Nat} {g0:Nat} {A5:Option Addr} {n5 c5:Nat} {w:World} {r:Int×List Int×List Int×List Int} {w0:World} {X:List Asn} (h1 : n1=x1.length) (hY1 : ∀ u,Y1.holds u→Rc u 3 A1 n1 c1 (x1.flatMap eLine)) (h2 : n2=x2.length) (h3 : n3=x3.length) (h4 : n4=x4.length) (h5:Rt w0 1 eB A5 n5 c5 x5) (S:St w0 w (Asn.box g0 145 #[iv x0,.slice A1 n1 c1,.slice A2 n2 c2,.slice A3 n3 c3,.slice A4 n4 c4] :: Y1 :: Asn.row 3 1 (.slice A2 n2 c2) n2 (x2.flatMap eI) :: Asn.row 3 1 (.slice A3 n3 c3) n3 (x3.flatMap eI) :: Asn.row 3 1 (.slice A4 n4 c4) n4 (x4.flatMap eI) :: X)) (hM : m_impl_tree_search x0 x1 x2 x3 x4 x5 x6=some r) :
  Calls Tryz.prog 138 #[.pointer (some ⟨g0,0,none⟩),.slice A5 n5 c5,iv x6] w (fun e w'=>∃ (B0:Option Addr) (N0 D0:Nat) (B1:Option Addr) (N1 D1:Nat) (B2:Option Addr) (N2 D2:Nat),e=.returned (.tuple #[])∧N0=r.2.1.length∧N1=r.2.2.1.length∧N2=r.2.2.2.length∧St w0 w' (Asn.box g0 145 #[iv r.1,.slice A1 n1 c1,.slice B0 N0 D0,.slice B1 N1 D1,.slice B2 N2 D2] :: Asn.row 3 1 (.slice B0 N0 D0) N0 (r.2.1.flatMap eI) :: Asn.row 3 1 (.slice B1 N1 D1) N1 (r.2.2.1.flatMap eI) :: Asn.row 3 1 (.slice B2 N2 D2) N2 (r.2.2.2.flatMap eI) :: Y1 :: X)):=by
 obtain rfl:=h1
 obtain rfl:=h2
 obtain rfl:=h3
 obtain rfl:=h4
 obtain rfl:=h5.len
 unfold m_impl_tree_search at hM
 refine calls_gx Tryz.func138 Tryz.ntmps138 rfl rfl ?_
 intro a f
 revert a;refine sr (mv rfl rfl (ov rfl (fun a f=>run_nilCheck rfl (f.ev rfl)) (ov rfl (fun a f=>run_fieldAddr rfl fl145_3 (f.ev rfl) rfl) (ov rfl (fun a f=>run_load1 rfl one30 (f.ev rfl) (S.cell 0 rfl rfl)) (ov rfl (fun a f=>run_lenL rfl rfl Tryz.underlying30 (f.ev rfl)) (ag rfl rfl fun a f=>wn ?_))))))
 revert a;refine sr (mv rfl rfl (mv rfl rfl (ov rfl (fun a f=>run_nilCheck rfl (f.ev rfl)) (ov rfl (fun a f=>run_fieldAddr rfl fl145_3 (f.ev rfl) rfl) (ov rfl (fun a f=>run_load1 rfl one30 (f.ev rfl) (S.cell 0 rfl rfl)) (mv rfl rfl fun a f=>?_))))))
 refine op_newrowL (ls:=(([x6]:List Int):List Int)) (e:=eI) rfl rfl f rfl S (run_buildS (vs:=[(0,iv x6)]) rfl ⟨⟨rfl,(f.ev rfl)⟩,trivial⟩ (bs30_1_0 rfl)) rfl eI_len (Nat.le_of_ble_eq_true rfl) ?_;clear f S;intro a g101 u f S
 obtain ⟨hk104,hM⟩:=chk_ex hM
 replace hk104:=apB_t hk104
 refine op_appendL (lx:=x4) (ly:=([x6]:List Int)) rfl rfl f rfl S rfl (f.ev rfl) (f.ev rfl) (i:=5) rfl rfl Tryz.underlying30 inf3 rfl (by decide) (S.rc 0 rfl).rd rfl eI_one hk104 (by decide) ?_;clear f S;intro a B102 d103 u f S
 revert a;refine ov rfl (fun a f=>run_nilCheck rfl (f.ev rfl)) (ov rfl (fun a f=>run_fieldAddr rfl fl145_3 (f.ev rfl) rfl) fun a f=>?_)
 refine op_do rfl rfl (run_store (cs':=#[iv x0,.slice A1 x1.length c1,.slice A2 x2.length c2,.slice A3 x3.length c3,.slice B102 ((x4++([x6]:List Int)).length) d103]) rfl sz30 (f.ev rfl) (f.ev rfl) rfl rfl rfl (S.free 1 rfl) rfl rfl) ?_;replace S:=S.put 1 rfl (#[iv x0,.slice A1 x1.length c1,.slice A2 x2.length c2,.slice A3 x3.length c3,.slice B102 ((x4++([x6]:List Int)).length) d103])
 generalize World.setRow _ _ _=u at S ⊢
 refine wn ?_
 obtain ⟨o106,hM111,hM⟩:=bind_ex hM
 refine wp_cut (fun a u=>∃ (p105:List Int×List Int×List Int) (B109:Option Addr) (d110:Nat),p105=o106∧x2.length=p105.1.length∧x3.length=p105.2.1.length∧Fr a 99 []∧St w0 u (Asn.box g0 145 #[iv x0,.slice A1 x1.length c1,.slice A2 x2.length c2,.slice A3 x3.length c3,.slice B109 p105.2.2.length d110] :: Y1 :: Asn.row 3 1 (.slice A2 x2.length c2) x2.length (p105.1.flatMap eI) :: Asn.row 3 1 (.slice A3 x3.length c3) x3.length (p105.2.1.flatMap eI) :: Asn.row 3 1 (.slice B109 p105.2.2.length d110) p105.2.2.length (p105.2.2.flatMap eI) :: X)) ?_ ?_
 ·have _:=trivial
  refine wp_block ?_
  refine loop_gw (fun m a u=>∃ (p112:Int×List Int×List Int×List Int) (B115:Option Addr) (d116:Nat),m_impl_tree_search_l1 x1 x2 x3 x5 x6 m p112=some _∧x2.length=p112.2.1.length∧x3.length=p112.2.2.1.length∧Fr a 99 [(0,.pointer (some ⟨g0,0,none⟩)),(1,.slice A5 x5.length c5),(2,iv x6),(6,iv p112.1)]∧St w0 u (Asn.box g0 145 #[iv x0,.slice A1 x1.length c1,.slice A2 x2.length c2,.slice A3 x3.length c3,.slice B115 p112.2.2.2.length d116] :: Y1 :: Asn.row 3 1 (.slice A2 x2.length c2) x2.length (p112.2.1.flatMap eI) :: Asn.row 3 1 (.slice A3 x3.length c3) x3.length (p112.2.2.1.flatMap eI) :: Asn.row 3 1 (.slice B115 p112.2.2.2.length d116) p112.2.2.2.length (p112.2.2.2.flatMap eI) :: X)) FUEL ⟨((x4.length:Int),x2,x3,x4++([x6]:List Int)),B102,d103,hM111,rfl,rfl,f.keep _ ⟨rfl,rfl,rfl,rfl,trivial⟩,S.selT (M:=[.box g0 145 #[iv x0,.slice A1 x1.length c1,.slice A2 x2.length c2,.slice A3 x3.length c3,.slice B102 ((x4++([x6]:List Int)).length) d103],Y1,.row 3 1 (.slice A2 x2.length c2) x2.length (x2.flatMap eI),.row 3 1 (.slice A3 x3.length c3) x3.length (x3.flatMap eI),.row 3 1 (.slice B102 ((x4++([x6]:List Int)).length) d103) ((x4++([x6]:List Int)).length) ((x4++([x6]:List Int)).flatMap eI)]) 6 [1,2,3,4,5] rfl rfl rfl⟩ ?_
  clear f S hM111;rintro m a u ⟨p112,B115,d116,hM111,hn113,hn114,f,S⟩
  rcases m with _ | f1
  ·exact none_some hM111
  rw [m_impl_tree_search_l1.eq_2] at hM111
  refine ws ?_
  revert a;refine sr (mv rfl rfl (mv rfl rfl (ov rfl (fun a f=>run_nilCheck rfl (f.ev rfl)) (ov rfl (fun a f=>run_fieldAddr rfl fl145_3 (f.ev rfl) rfl) (ov rfl (fun a f=>run_load1 rfl one30 (f.ev rfl) (S.cell 0 rfl rfl)) (ov rfl (fun a f=>run_lenL rfl rfl Tryz.underlying30 (f.ev rfl)) (ov rfl (fun a f=>run_lss (f.ev rfl) (f.ev rfl) rfl) fun a f=>wn ?_)))))))
  cases hc117:(ltB p112.1 (p112.2.2.2.length:Int))
  ·replace hM111:=bif_f hc117 hM111
   refine cond_f f rfl hc117 ?_
   refine wp_exit ?_
   repeat with_reducible first|apply then_exit|apply in_hit|refine in_miss rfl ?_
   obtain rfl:=Option.some.inj hM111
   exact ⟨(p112.2.1,p112.2.2.1,p112.2.2.2),B115,d116,rfl,hn113,hn114,f.keep _ trivial,S.selT (M:=[.box g0 145 #[iv x0,.slice A1 x1.length c1,.slice A2 x2.length c2,.slice A3 x3.length c3,.slice B115 p112.2.2.2.length d116],Y1,.row 3 1 (.slice A2 x2.length c2) x2.length (p112.2.1.flatMap eI),.row 3 1 (.slice A3 x3.length c3) x3.length (p112.2.2.1.flatMap eI),.row 3 1 (.slice B115 p112.2.2.2.length d116) p112.2.2.2.length (p112.2.2.2.flatMap eI)]) 5 [0,1,2,3,4] rfl rfl rfl⟩
  replace hM111:=bif_t hc117 hM111
  refine cond_t f rfl hc117 ?_
  refine wp_skip ?_
  refine ws ?_
  refine wp_block ?_
  revert a;refine sr (mv rfl rfl (ov rfl (fun a f=>run_nilCheck rfl (f.ev rfl)) (ov rfl (fun a f=>run_fieldAddr rfl fl145_3 (f.ev rfl) rfl) (ov rfl (fun a f=>run_load1 rfl one30 (f.ev rfl) (S.cell 0 rfl rfl)) (mv rfl rfl fun a f=>?_)))))
  obtain ⟨hk118,hM111⟩:=chk_ex hM111
  replace hk118:=ixB_t hk118
  revert a;refine ov rfl (fun a f=>run_ix rfl Tryz.underlying30 sz3 (f.ev rfl) (S.rc 4 rfl) (f.ev rfl) hk118) (ov rfl (fun a f=>run_load1 rfl one3 (f.ev rfl) (rd_el0 (l:=p112.2.2.2) (S.rc 4 rfl).rd rfl eI_len 0 (ix_ltn hk118 rfl) rfl)) (ag rfl rfl fun a f=>wn ?_))
  revert a;refine sr (mv rfl rfl (ov rfl (fun a f=>run_nilCheck rfl (f.ev rfl)) (ov rfl (fun a f=>run_fieldAddr rfl fl145_0 (f.ev rfl) rfl) (ov rfl (fun a f=>run_fieldAddr rfl fl37_1 (f.ev rfl) rfl) (ov rfl (fun a f=>run_load1 rfl one35 (f.ev rfl) (S.cell 0 rfl rfl)) (ov rfl (fun a f=>run_lenL rfl rfl Tryz.underlying35 (f.ev rfl)) (ov rfl (fun a f=>run_move rfl rfl) fun a f=>wn ?_)))))))
  obtain ⟨o120,hM125,hM111⟩:=bind_ex hM111
  refine wp_cut (fun a u=>∃ (p119:List Int×List Int×List Int) (B123:Option Addr) (d124:Nat),p119=o120∧x2.length=p119.1.length∧x3.length=p119.2.1.length∧Fr a 99 [(0,.pointer (some ⟨g0,0,none⟩)),(1,.slice A5 x5.length c5),(2,iv x6),(6,iv p112.1)]∧St w0 u (Asn.box g0 145 #[iv x0,.slice A1 x1.length c1,.slice A2 x2.length c2,.slice A3 x3.length c3,.slice B123 p119.2.2.length d124] :: Y1 :: Asn.row 3 1 (.slice A2 x2.length c2) x2.length (p119.1.flatMap eI) :: Asn.row 3 1 (.slice A3 x3.length c3) x3.length (p119.2.1.flatMap eI) :: Asn.row 3 1 (.slice B123 p119.2.2.length d124) p119.2.2.length (p119.2.2.flatMap eI) :: X)) ?_ ?_
  ·have _:=trivial
   refine wp_block ?_
   refine loop_gw (fun m a u=>∃ (p126:Int×List Int×List Int×List Int) (B129:Option Addr) (d130:Nat),m_impl_tree_search_l2 x1 x2 x3 x5 x6 p112 m p126=some _∧x2.length=p126.2.1.length∧x3.length=p126.2.2.1.length∧Fr a 99 [(0,.pointer (some ⟨g0,0,none⟩)),(1,.slice A5 x5.length c5),(2,iv x6),(6,iv p112.1),(7,iv (p112.2.2.2.getD p112.1.toNat 0)),(46,.slice A1 x1.length c1),(47,iv (x1.length:Int)),(48,iv p126.1)]∧St w0 u (Asn.box g0 145 #[iv x0,.slice A1 x1.length c1,.slice A2 x2.length c2,.slice A3 x3.length c3,.slice B129 p126.2.2.2.length d130] :: Y1 :: Asn.row 3 1 (.slice A2 x2.length c2) x2.length (p126.2.1.flatMap eI) :: Asn.row 3 1 (.slice A3 x3.length c3) x3.length (p126.2.2.1.flatMap eI) :: Asn.row 3 1 (.slice B129 p126.2.2.2.length d130) p126.2.2.2.length (p126.2.2.2.flatMap eI) :: X)) FUEL ⟨(0,p112.2.1,p112.2.2.1,p112.2.2.2),B115,d116,hM125,hn113,hn114,f.keep _ ⟨rfl,rfl,rfl,rfl,rfl,rfl,rfl,rfl,trivial⟩,S.selT (M:=[.box g0 145 #[iv x0,.slice A1 x1.length c1,.slice A2 x2.length c2,.slice A3 x3.length c3,.slice B115 p112.2.2.2.length d116],Y1,.row 3 1 (.slice A2 x2.length c2) x2.length (p112.2.1.flatMap eI),.row 3 1 (.slice A3 x3.length c3) x3.length (p112.2.2.1.flatMap eI),.row 3 1 (.slice B115 p112.2.2.2.length d116) p112.2.2.2.length (p112.2.2.2.flatMap eI)]) 5 [0,1,2,3,4] rfl rfl rfl⟩ ?_
   clear f S hM125;rintro m a u ⟨p126,B129,d130,hM125,hn127,hn128,f,S⟩
   rcases m with _ | f2
   ·exact none_some hM125
   rw [m_impl_tree_search_l2.eq_2] at hM125
   revert a;refine sr (ov rfl (fun a f=>run_lss (f.ev rfl) (f.ev rfl) rfl) fun a f=>wn ?_)
   refine ws ?_
   cases hc131:(ltB p126.1 (x1.length:Int))
   ·replace hM125:=bif_f hc131 hM125
    refine cond_f f rfl hc131 ?_
    refine wp_exit ?_
    repeat with_reducible first|apply then_exit|apply in_hit|refine in_miss rfl ?_
    obtain rfl:=Option.some.inj hM125
    exact ⟨(p126.2.1,p126.2.2.1,p126.2.2.2),B129,d130,rfl,hn127,hn128,f.keep _ ⟨rfl,rfl,rfl,rfl,trivial⟩,S.selT (M:=[.box g0 145 #[iv x0,.slice A1 x1.length c1,.slice A2 x2.length c2,.slice A3 x3.length c3,.slice B129 p126.2.2.2.length d130],Y1,.row 3 1 (.slice A2 x2.length c2) x2.length (p126.2.1.flatMap eI),.row 3 1 (.slice A3 x3.length c3) x3.length (p126.2.2.1.flatMap eI),.row 3 1 (.slice B129 p126.2.2.2.length d130) p126.2.2.2.length (p126.2.2.2.flatMap eI)]) 5 [0,1,2,3,4] rfl rfl rfl⟩
   replace hM125:=bif_t hc131 hM125
   refine cond_t f rfl hc131 ?_
   refine wp_skip ?_
   refine ws ?_
   refine wp_block ?_
   revert a;refine sr (mv rfl rfl fun a f=>?_)
   obtain ⟨hk132,hM125⟩:=chk_ex hM125
   replace hk132:=ixB_t hk132
   revert a;refine ov rfl (fun a f=>run_indexAddr (b:=adB A1) (off:=adO A1) rfl Tryz.underlying35 sz130 ((f.ev rfl).trans (congrArg (fun A=>Value.slice A x1.length c1) ((hY1 _ (S.get (i:=1) rfl)).rd.ad (ix_pos hk132)))) (f.ev rfl) hk132.1 hk132.2 (k':=adO A1+p126.1.toNat*3) rfl) (ov rfl (fun a f=>run_loadN (cs:=#[iv ((x1.getD p126.1.toNat (0,0,0)).1),iv ((x1.getD p126.1.toNat (0,0,0)).2.1),iv ((x1.getD p126.1.toNat (0,0,0)).2.2)]) rfl ag130 (f.ev rfl) rfl (rd_elN (l:=x1) (hY1 _ (S.get (i:=1) rfl)).rd rfl eLine_len (0,0,0) (ix_ltn hk132 rfl) rfl)) fun a f=>?_)
   refine op_new (cs:=#[iv 0,iv 0,iv 0]) rfl rfl f rfl S (run_allocZ rfl zr130) ?_;clear f S;intro a g133 u f S
   revert a;refine ag rfl rfl fun a f=>?_
   refine op_do rfl rfl (run_store (cs':=#[iv ((x1.getD p126.1.toNat (0,0,0)).1),iv ((x1.getD p126.1.toNat (0,0,0)).2.1),iv ((x1.getD p126.1.toNat (0,0,0)).2.2)]) rfl sz130 (f.ev rfl) (f.ev rfl) rfl rfl rfl (S.free 0 rfl) rfl rfl) ?_;replace S:=S.put 0 rfl (#[iv ((x1.getD p126.1.toNat (0,0,0)).1),iv ((x1.getD p126.1.toNat (0,0,0)).2.1),iv ((x1.getD p126.1.toNat (0,0,0)).2.2)])
   generalize World.setRow _ _ _=u at S ⊢
   refine wn ?_
   revert a;refine sr (ov rfl (fun a f=>run_loadN rfl ag130 (f.ev rfl) rfl ((S.free 0 rfl).cells 0 #[iv ((x1.getD p126.1.toNat (0,0,0)).1),iv ((x1.getD p126.1.toNat (0,0,0)).2.1),iv ((x1.getD p126.1.toNat (0,0,0)).2.2)] rfl)) (mv rfl rfl fun a f=>?_))
   obtain ⟨p134,h134,hM125⟩:=bind_ex hM125
   refine op_call rfl rfl f rfl (run_call (vs:=[_,_]) rfl rfl co153 ⟨(f.ev rfl),(f.ev rfl),trivial⟩) (c_impl_Line_other  h134) ?_
   rintro e u ⟨rfl,T⟩
   refine ⟨_,rfl,?_⟩
   clear f;intro a f
   replace S:=S.call0 T;clear T
   revert a;refine ag rfl rfl fun a f=>wn ?_
   revert a;refine sr (mv rfl rfl (mv rfl rfl fun a f=>?_))
   obtain ⟨hk135,hM125⟩:=chk_ex hM125
   replace hk135:=ixB_t hk135
   revert a;refine ov rfl (fun a f=>run_ix rfl Tryz.underlying26 sz4 (f.ev rfl) (S.rc0 h5.rc) (f.ev rfl) hk135) (ov rfl (fun a f=>run_load1 rfl one4 (f.ev rfl) (rd_el0 (l:=x5) (S.rc0 h5.rc).rd rfl eB_len false (ix_ltn hk135 rfl) rfl)) (mv rfl rfl fun a f=>?_))
   revert a;refine gt rfl rfl rfl rfl (fun a f hg=>run_move rfl (f.ev rfl)) (gt rfl rfl rfl rfl (fun a f hg=>run_geq ((f.ev rfl).trans (gv_t hg)) rfl rfl) fun a f=>?_)
   revert a;refine ov rfl (fun a f=>run_pick_and rfl (f.ev rfl) (fun hp=>((f.ev rfl).trans (gv_t hp))) rfl) (mv rfl rfl fun a f=>?_)
   revert a;refine gt rfl rfl rfl rfl (fun a f hg=>run_move rfl (f.ev rfl)) (gt rfl rfl rfl rfl (fun a f hg=>run_nilCheck rfl ((f.ev rfl).trans (gv_t hg))) (gt rfl rfl rfl rfl (fun a f hg=>run_fieldAddr rfl fl145_1 ((f.ev rfl).trans (gv_t hg)) rfl) (gt rfl rfl rfl rfl (fun a f hg=>run_load1 rfl one30 ((f.ev rfl).trans (gv_t hg)) (S.cell 1 rfl rfl)) (gt rfl rfl rfl rfl (fun a f hg=>run_move rfl (f.ev rfl)) fun a f=>?_))))
   obtain ⟨hk136,hM125⟩:=chk_ex hM125
   replace hk136:=fun hg=>ixB_t (imp_t hk136 hg)
   revert a;refine gt rfl rfl rfl rfl (fun a f hg=>run_ix rfl Tryz.underlying30 sz3 ((f.ev rfl).trans (gv_t hg)) (S.rc 3 rfl) ((f.ev rfl).trans (gv_t hg)) (hk136 hg)) (gt rfl rfl rfl rfl (fun a f hg=>run_load1 rfl one3 ((f.ev rfl).trans (gv_t hg)) (rd_el0 (l:=p126.2.1) (S.rc 3 rfl).rd hn127 eI_len 0 (ix_ltn (hk136 hg) hn127) rfl)) (gt rfl rfl rfl rfl (fun a f hg=>run_lss ((f.ev rfl).trans (gv_t hg)) rfl rfl) (ov rfl (fun a f=>run_pick_and rfl (f.ev rfl) (fun hp=>((f.ev rfl).trans (gv_t hp))) rfl) fun a f=>wn ?_)))
   obtain ⟨o138,hM143,hM125⟩:=bind_ex hM125
   refine wp_cut (fun a u=>∃ (p137:List Int×List Int×List Int) (B141:Option Addr) (d142:Nat),p137=o138∧x2.length=p137.1.length∧x3.length=p137.2.1.length∧Fr a 99 [(0,.pointer (some ⟨g0,0,none⟩)),(1,.slice A5 x5.length c5),(2,iv x6),(6,iv p112.1),(7,iv (p112.2.2.2.getD p112.1.toNat 0)),(46,.slice A1 x1.length c1),(47,iv (x1.length:Int)),(48,iv p126.1)]∧St w0 u (Asn.box g0 145 #[iv x0,.slice A1 x1.length c1,.slice A2 x2.length c2,.slice A3 x3.length c3,.slice B141 p137.2.2.length d142] :: Y1 :: Asn.row 3 1 (.slice A2 x2.length c2) x2.length (p137.1.flatMap eI) :: Asn.row 3 1 (.slice A3 x3.length c3) x3.length (p137.2.1.flatMap eI) :: Asn.row 3 1 (.slice B141 p137.2.2.length d142) p137.2.2.length (p137.2.2.flatMap eI) :: X)) ?_ ?_
   ·have _:=trivial
    cases hc144:(((x5.getD p126.1.toNat false)&&(leB 0 p134))&&(ltB (p126.2.1.getD p134.toNat 0) 0))
    ·replace hM143:=bif_f hc144 hM143
     refine cond_f f rfl hc144 ?_
     refine wp_skip ?_
     obtain rfl:=Option.some.inj hM143
     exact ⟨(p126.2.1,p126.2.2.1,p126.2.2.2),B129,d130,rfl,hn127,hn128,f.keep _ ⟨rfl,rfl,rfl,rfl,rfl,rfl,rfl,rfl,trivial⟩,S.selT (M:=[.box g0 145 #[iv x0,.slice A1 x1.length c1,.slice A2 x2.length c2,.slice A3 x3.length c3,.slice B129 p126.2.2.2.length d130],Y1,.row 3 1 (.slice A2 x2.length c2) x2.length (p126.2.1.flatMap eI),.row 3 1 (.slice A3 x3.length c3) x3.length (p126.2.2.1.flatMap eI),.row 3 1 (.slice B129 p126.2.2.2.length d130) p126.2.2.2.length (p126.2.2.2.flatMap eI)]) 6 [1,2,3,4,5] rfl rfl rfl⟩
    replace hM143:=bif_t hc144 hM143
    refine cond_t f rfl hc144 ?_
    refine ws ?_
    obtain ⟨hk145,hM143⟩:=chk_ex hM143
    replace hk145:=ixB_t hk145
    obtain ⟨hk146,hM143⟩:=chk_ex hM143
    replace hk146:=ixB_t hk146
    refine region_gw (D:=[74,75,76,77,78,79,80,81,82,83,84,85,86,87]) (Lr:=(Asn.box g133 130 #[iv ((x1.getD p126.1.toNat (0,0,0)).1),iv ((x1.getD p126.1.toNat (0,0,0)).2.1),iv ((x1.getD p126.1.toNat (0,0,0)).2.2)] :: Asn.box g0 145 #[iv x0,.slice A1 x1.length c1,.slice A2 x2.length c2,.slice A3 x3.length c3,.slice B129 p126.2.2.2.length d130] :: Y1 :: Asn.row 3 1 (.slice B129 p126.2.2.2.length d130) p126.2.2.2.length (p126.2.2.2.flatMap eI) :: X)) (deps:=(fun | 0=>[74] | 1=>[75] | 2=>[76] | 3=>[77] | 4=>[78] | 5=>[79] | 6=>[80] | 7=>[81] | 8=>[82] | 9=>[83] | 10=>[84] | 11=>[85] | 12=>[86] | 13=>[86] | 14=>[87] | 15=>[87] | _=>[])) (rd:=(fun _=>[])) (zr:=(fun | 12=>[13] | 14=>[15] | _=>[]))
     (φ:=fun i vs=>match i,vs with | 0,[v74]=>v74=.pointer (some ⟨g0,0,none⟩) | 1,[v75]=>v75=.pointer (some ⟨g0,0,none⟩) | 2,[v76]=>v76=.pointer (some ⟨g0,2,none⟩) | 3,[v77]=>v77=.slice A2 x2.length c2 | 4,[v78]=>v78=iv p134 | 5,[v79]=>v79=.pointer (some ⟨g0,0,none⟩) | 6,[v80]=>v80=.pointer (some ⟨g0,0,none⟩) | 7,[v81]=>v81=.pointer (some ⟨g0,3,none⟩) | 8,[v82]=>v82=.slice A3 x3.length c3 | 9,[v83]=>v83=iv p134 | 10,[v84]=>v84=iv x6 | 11,[v85]=>v85=iv p126.1 | 12,[v86]=>v86=.pointer (some ⟨adB A2,adO A2+p134.toNat*1,none⟩) | 14,[v87]=>v87=.pointer (some ⟨adB A3,adO A3+p134.toNat*1,none⟩) | _,_=>True)
     (C:=fun i vs=>match i,vs with | 13,[v86]=>[.row 3 1 (.slice A2 x2.length c2) x2.length ((p126.2.1.set p134.toNat x6).flatMap eI)] | 15,[v87]=>[.row 3 1 (.slice A3 x3.length c3) x3.length ((p126.2.2.1.set p134.toNat p126.1).flatMap eI)] | _,_=>[])
     (κ:=(fun _=>none)) (Z:=(fun | 13=>[.row 3 1 (.slice A2 x2.length c2) x2.length (p126.2.1.flatMap eI)] | 15=>[.row 3 1 (.slice A3 x3.length c3) x3.length (p126.2.2.1.flatMap eI)] | _=>[])) mixed f (by kernel_rfl) (show St w0 _ (Asn.row 3 1 (.slice A2 x2.length c2) x2.length (p126.2.1.flatMap eI) :: Asn.row 3 1 (.slice A3 x3.length c3) x3.length (p126.2.2.1.flatMap eI) :: Asn.box g133 130 #[iv ((x1.getD p126.1.toNat (0,0,0)).1),iv ((x1.getD p126.1.toNat (0,0,0)).2.1),iv ((x1.getD p126.1.toNat (0,0,0)).2.2)] :: Asn.box g0 145 #[iv x0,.slice A1 x1.length c1,.slice A2 x2.length c2,.slice A3 x3.length c3,.slice B129 p126.2.2.2.length d130] :: Y1 :: Asn.row 3 1 (.slice B129 p126.2.2.2.length d130) p126.2.2.2.length (p126.2.2.2.flatMap eI) :: X) from S.selT (M:=[.row 3 1 (.slice A2 x2.length c2) x2.length (p126.2.1.flatMap eI),.row 3 1 (.slice A3 x3.length c3) x3.length (p126.2.2.1.flatMap eI),.box g133 130 #[iv ((x1.getD p126.1.toNat (0,0,0)).1),iv ((x1.getD p126.1.toNat (0,0,0)).2.1),iv ((x1.getD p126.1.toNat (0,0,0)).2.2)],.box g0 145 #[iv x0,.slice A1 x1.length c1,.slice A2 x2.length c2,.slice A3 x3.length c3,.slice B129 p126.2.2.2.length d130],Y1,.row 3 1 (.slice B129 p126.2.2.2.length d130) p126.2.2.2.length (p126.2.2.2.flatMap eI)]) 6 [3,4,0,1,2,5] rfl rfl rfl) ?_ ?_
    ·refine ⟨?_,?_,?_,?_,?_,?_,?_,?_,?_,?_,?_,?_,?_,?_,?_,?_,trivial⟩
     ·intro a u X' hB hu hp hr hz hl S
      replace S:St w0 u ([]++X'):=S
      exact .inl ⟨rfl,.pointer (some ⟨g0,0,none⟩),u,(run_move rfl (f.evB hB rfl rfl)),rfl,S⟩
     ·intro a u X' hB hu hp hr hz hl S
      replace S:St w0 u ([]++X'):=S
      have e74 : sl a 74=.pointer (some ⟨g0,0,none⟩):=hp 0 rfl
      exact .inl ⟨rfl,.pointer (some ⟨g0,0,none⟩),u,(run_nilCheck rfl (ev_sl e74)),rfl,S⟩
     ·intro a u X' hB hu hp hr hz hl S
      replace S:St w0 u ([]++X'):=S
      have e75 : sl a 75=.pointer (some ⟨g0,0,none⟩):=hp 1 rfl
      exact .inl ⟨rfl,.pointer (some ⟨g0,2,none⟩),u,(run_fieldAddr rfl fl145_1 (ev_sl e75) rfl),rfl,S⟩
     ·intro a u X' hB hu hp hr hz hl S
      replace S:St w0 u ([]++X'):=S
      have e76 : sl a 76=.pointer (some ⟨g0,2,none⟩):=hp 2 rfl
      exact .inl ⟨rfl,.slice A2 x2.length c2,u,(run_load1 rfl one30 (ev_sl e76) ((gr_box S hl 1 rfl).cell rfl)),rfl,S⟩
     ·intro a u X' hB hu hp hr hz hl S
      replace S:St w0 u ([]++X'):=S
      exact .inl ⟨rfl,iv p134,u,(run_move rfl (f.evB hB rfl rfl)),rfl,S⟩
     ·intro a u X' hB hu hp hr hz hl S
      replace S:St w0 u ([]++X'):=S
      exact .inl ⟨rfl,.pointer (some ⟨g0,0,none⟩),u,(run_move rfl (f.evB hB rfl rfl)),rfl,S⟩
     ·intro a u X' hB hu hp hr hz hl S
      replace S:St w0 u ([]++X'):=S
      have e79 : sl a 79=.pointer (some ⟨g0,0,none⟩):=hp 5 rfl
      exact .inl ⟨rfl,.pointer (some ⟨g0,0,none⟩),u,(run_nilCheck rfl (ev_sl e79)),rfl,S⟩
     ·intro a u X' hB hu hp hr hz hl S
      replace S:St w0 u ([]++X'):=S
      have e80 : sl a 80=.pointer (some ⟨g0,0,none⟩):=hp 6 rfl
      exact .inl ⟨rfl,.pointer (some ⟨g0,3,none⟩),u,(run_fieldAddr rfl fl145_2 (ev_sl e80) rfl),rfl,S⟩
     ·intro a u X' hB hu hp hr hz hl S
      replace S:St w0 u ([]++X'):=S
      have e81 : sl a 81=.pointer (some ⟨g0,3,none⟩):=hp 7 rfl
      exact .inl ⟨rfl,.slice A3 x3.length c3,u,(run_load1 rfl one30 (ev_sl e81) ((gr_box S hl 1 rfl).cell rfl)),rfl,S⟩
     ·intro a u X' hB hu hp hr hz hl S
      replace S:St w0 u ([]++X'):=S
      exact .inl ⟨rfl,iv p134,u,(run_move rfl (f.evB hB rfl rfl)),rfl,S⟩
     ·intro a u X' hB hu hp hr hz hl S
      replace S:St w0 u ([]++X'):=S
      exact .inl ⟨rfl,iv x6,u,(run_move rfl (f.evB hB rfl rfl)),rfl,S⟩
     ·intro a u X' hB hu hp hr hz hl S
      replace S:St w0 u ([]++X'):=S
      exact .inl ⟨rfl,iv p126.1,u,(run_move rfl (f.evB hB rfl rfl)),rfl,S⟩
     ·intro a u X' hB hu hp hr hz hl S
      replace S:St w0 u ([]++X'):=S
      have e77 : sl a 77=.slice A2 x2.length c2:=hp 3 rfl
      have e78 : sl a 78=iv p134:=hp 4 rfl
      exact .inl ⟨rfl,.pointer (some ⟨adB A2,adO A2+p134.toNat*1,none⟩),u,(run_indexAddr (b:=adB A2) (off:=adO A2) rfl Tryz.underlying30 sz3 ((ev_sl e77).trans (congrArg (fun A=>Value.slice A x2.length c2) ((own_rc (show Ow _ _ _ _ _ _ from S.mem (List.mem_append_right _ (hz 13 (List.mem_of_getElem? (i:=0) rfl) _ (List.mem_of_getElem? (i:=0) rfl))))).rd.ad (ix_pos hk145)))) (ev_sl e78) hk145.1 hk145.2 (k':=adO A2+p134.toNat*1) rfl),rfl,S⟩
     ·intro a u X' hB hu hp hr hz hl S
      replace S:St w0 u ([.row 3 1 (.slice A2 x2.length c2) x2.length (p126.2.1.flatMap eI)]++X'):=S
      have e84 : sl a 84=iv x6:=hp 10 rfl
      have e86 : sl a 86=.pointer (some ⟨adB A2,adO A2+p134.toNat*1,none⟩):=hp 12 rfl
      obtain ⟨w',hrun,S'⟩:=run_storeElN (P:=Tryz.prog) (ρ:=a.eval) (y0:=x6) (off:=0) S 3 (.tmp 86) (.tmp 84) (i:=0) sz3 (ev_sl e86) (ev_sl e84) rfl rfl rfl rfl hn127 eI_len 0 (ix_ltn hk145 hn127) rfl rfl
      exact .inr (.inl ⟨rfl,w',hrun _ rfl,trivial,S'⟩)
     ·intro a u X' hB hu hp hr hz hl S
      replace S:St w0 u ([]++X'):=S
      have e82 : sl a 82=.slice A3 x3.length c3:=hp 8 rfl
      have e83 : sl a 83=iv p134:=hp 9 rfl
      exact .inl ⟨rfl,.pointer (some ⟨adB A3,adO A3+p134.toNat*1,none⟩),u,(run_indexAddr (b:=adB A3) (off:=adO A3) rfl Tryz.underlying30 sz3 ((ev_sl e82).trans (congrArg (fun A=>Value.slice A x3.length c3) ((own_rc (show Ow _ _ _ _ _ _ from S.mem (List.mem_append_right _ (hz 15 (List.mem_of_getElem? (i:=0) rfl) _ (List.mem_of_getElem? (i:=0) rfl))))).rd.ad (ix_pos hk146)))) (ev_sl e83) hk146.1 hk146.2 (k':=adO A3+p134.toNat*1) rfl),rfl,S⟩
     intro a u X' hB hu hp hr hz hl S
     replace S:St w0 u ([.row 3 1 (.slice A3 x3.length c3) x3.length (p126.2.2.1.flatMap eI)]++X'):=S
     have e85 : sl a 85=iv p126.1:=hp 11 rfl
     have e87 : sl a 87=.pointer (some ⟨adB A3,adO A3+p134.toNat*1,none⟩):=hp 14 rfl
     obtain ⟨w',hrun,S'⟩:=run_storeElN (P:=Tryz.prog) (ρ:=a.eval) (y0:=p126.1) (off:=0) S 3 (.tmp 87) (.tmp 85) (i:=0) sz3 (ev_sl e87) (ev_sl e85) rfl rfl rfl rfl hn128 eI_len 0 (ix_ltn hk146 hn128) rfl rfl
     exact .inr (.inl ⟨rfl,w',hrun _ rfl,trivial,S'⟩)
    intro a u hB hp S
    obtain ⟨q0,q1,q2,q3,q4,q5,q6,q7,q8,q9,q10,q11,q12,q13,q14,q15,-⟩:=hp
    replace S:St w0 u (Asn.row 3 1 (.slice A2 x2.length c2) x2.length ((p126.2.1.set p134.toNat x6).flatMap eI) :: Asn.row 3 1 (.slice A3 x3.length c3) x3.length ((p126.2.2.1.set p134.toNat p126.1).flatMap eI) :: Asn.box g133 130 #[iv ((x1.getD p126.1.toNat (0,0,0)).1),iv ((x1.getD p126.1.toNat (0,0,0)).2.1),iv ((x1.getD p126.1.toNat (0,0,0)).2.2)] :: Asn.box g0 145 #[iv x0,.slice A1 x1.length c1,.slice A2 x2.length c2,.slice A3 x3.length c3,.slice B129 p126.2.2.2.length d130] :: Y1 :: Asn.row 3 1 (.slice B129 p126.2.2.2.length d130) p126.2.2.2.length (p126.2.2.2.flatMap eI) :: X):=S
    have f:=f.region hB [(74,_),(75,_),(76,_),(77,_),(78,_),(79,_),(80,_),(81,_),(82,_),(83,_),(84,_),(85,_),(86,_),(87,_)] (allSl_mem ⟨q0,q1,q2,q3,q4,q5,q6,q7,q8,q9,q10,q11,q12,q14,trivial⟩) rfl
    clear hB q0 q1 q2 q3 q4 q5 q6 q7 q8 q9 q10 q11 q12 q13 q14 q15
    revert a;refine rl (mv rfl rfl (mv rfl rfl (ov rfl (fun a f=>run_nilCheck rfl (f.ev rfl)) (ov rfl (fun a f=>run_fieldAddr rfl fl145_3 (f.ev rfl) rfl) (ov rfl (fun a f=>run_load1 rfl one30 (f.ev rfl) (S.cell 3 rfl rfl)) (mv rfl rfl fun a f=>?_))))))
    refine op_newrowL (ls:=(([p134]:List Int):List Int)) (e:=eI) rfl rfl f rfl S (run_buildS (vs:=[(0,iv p134)]) rfl ⟨⟨rfl,(f.ev rfl)⟩,trivial⟩ (bs30_1_0 rfl)) rfl eI_len (Nat.le_of_ble_eq_true rfl) ?_;clear f S;intro a g147 u f S
    obtain ⟨hk150,hM143⟩:=chk_ex hM143
    replace hk150:=apB_t hk150
    refine op_appendL (lx:=p126.2.2.2) (ly:=([p134]:List Int)) rfl rfl f rfl S rfl (f.ev rfl) (f.ev rfl) (i:=6) rfl rfl Tryz.underlying30 inf3 rfl (by decide) (S.rc 0 rfl).rd rfl eI_one hk150 (by decide) ?_;clear f S;intro a B148 d149 u f S
    revert a;refine ov rfl (fun a f=>run_nilCheck rfl (f.ev rfl)) (ov rfl (fun a f=>run_fieldAddr rfl fl145_3 (f.ev rfl) rfl) fun a f=>?_)
    refine op_do rfl rfl (run_store (cs':=#[iv x0,.slice A1 x1.length c1,.slice A2 x2.length c2,.slice A3 x3.length c3,.slice B148 ((p126.2.2.2++([p134]:List Int)).length) d149]) rfl sz30 (f.ev rfl) (f.ev rfl) rfl rfl rfl (S.free 4 rfl) rfl rfl) ?_;replace S:=S.put 4 rfl (#[iv x0,.slice A1 x1.length c1,.slice A2 x2.length c2,.slice A3 x3.length c3,.slice B148 ((p126.2.2.2++([p134]:List Int)).length) d149])
    generalize World.setRow _ _ _=u at S ⊢
    refine wn ?_
    obtain rfl:=Option.some.inj hM143
    exact ⟨(p126.2.1.set p134.toNat x6,p126.2.2.1.set p134.toNat p126.1,p126.2.2.2++([p134]:List Int)),B148,d149,rfl,(len_set hn127),(len_set hn128),f.keep _ ⟨rfl,rfl,rfl,rfl,rfl,rfl,rfl,rfl,trivial⟩,S.selT (M:=[.box g0 145 #[iv x0,.slice A1 x1.length c1,.slice A2 x2.length c2,.slice A3 x3.length c3,.slice B148 ((p126.2.2.2++([p134]:List Int)).length) d149],Y1,.row 3 1 (.slice A2 x2.length c2) x2.length ((p126.2.1.set p134.toNat x6).flatMap eI),.row 3 1 (.slice A3 x3.length c3) x3.length ((p126.2.2.1.set p134.toNat p126.1).flatMap eI),.row 3 1 (.slice B148 ((p126.2.2.2++([p134]:List Int)).length) d149) ((p126.2.2.2++([p134]:List Int)).length) ((p126.2.2.2++([p134]:List Int)).flatMap eI)]) 7 [4,5,1,2,6] rfl rfl rfl⟩
   rintro a u ⟨p137,B141,d142,rfl,hn139,hn140,f,S⟩
   revert a;refine rl (ov rfl (fun a f=>run_add (z:=w64 (p126.1+1)) (f.ev rfl) rfl rfl rfl) (mv rfl rfl fun a f=>wn ?_))
   exact ⟨f2,Nat.lt_succ_self _,(w64 (p126.1+1),p137.1,p137.2.1,p137.2.2),B141,d142,hM125,hn139,hn140,f.keep _ ⟨rfl,rfl,rfl,rfl,rfl,rfl,rfl,rfl,trivial⟩,S.selT (M:=[.box g0 145 #[iv x0,.slice A1 x1.length c1,.slice A2 x2.length c2,.slice A3 x3.length c3,.slice B141 p137.2.2.length d142],Y1,.row 3 1 (.slice A2 x2.length c2) x2.length (p137.1.flatMap eI),.row 3 1 (.slice A3 x3.length c3) x3.length (p137.2.1.flatMap eI),.row 3 1 (.slice B141 p137.2.2.length d142) p137.2.2.length (p137.2.2.flatMap eI)]) 5 [0,1,2,3,4] rfl rfl rfl⟩
  rintro a u ⟨p119,B123,d124,rfl,hn121,hn122,f,S⟩
  revert a;refine rl (mv rfl rfl (ov rfl (fun a f=>run_add (z:=w64 (p112.1+1)) (f.ev rfl) rfl rfl rfl) (ag rfl rfl fun a f=>wn ?_)))
  exact ⟨f1,Nat.lt_succ_self _,(w64 (p112.1+1),p119.1,p119.2.1,p119.2.2),B123,d124,hM111,hn121,hn122,f.keep _ ⟨rfl,rfl,rfl,rfl,trivial⟩,S.selT (M:=[.box g0 145 #[iv x0,.slice A1 x1.length c1,.slice A2 x2.length c2,.slice A3 x3.length c3,.slice B123 p119.2.2.length d124],Y1,.row 3 1 (.slice A2 x2.length c2) x2.length (p119.1.flatMap eI),.row 3 1 (.slice A3 x3.length c3) x3.length (p119.2.1.flatMap eI),.row 3 1 (.slice B123 p119.2.2.length d124) p119.2.2.length (p119.2.2.flatMap eI)]) 5 [0,1,2,3,4] rfl rfl rfl⟩
 rintro a u ⟨p105,B109,d110,rfl,hn107,hn108,f,S⟩
 refine ret0_gw (.inr rfl) f rfl  ?_
 obtain rfl:=Option.some.inj hM
 exact ⟨A2,x2.length,c2,A3,x3.length,c3,B109,p105.2.2.length,d110,rfl,hn107,hn108,rfl,S.selT (M:=[.box g0 145 #[iv x0,.slice A1 x1.length c1,.slice A2 x2.length c2,.slice A3 x3.length c3,.slice B109 p105.2.2.length d110],.row 3 1 (.slice A2 x2.length c2) x2.length (p105.1.flatMap eI),.row 3 1 (.slice A3 x3.length c3) x3.length (p105.2.1.flatMap eI),.row 3 1 (.slice B109 p105.2.2.length d110) p105.2.2.length (p105.2.2.flatMap eI),Y1]) 5 [0,2,3,4,1] rfl rfl rfl⟩
theorem c_impl_treeOf {x0:Int} {x1:List (Int×Int×Int)} {x2:List Bool} {x3:List (Int×Int)} {A1:Option Addr} {n1 c1:Nat} {A2:Option Addr} {n2 c2:Nat} {A3:Option Addr} {n3 c3:Nat} {w:World} {r:Int×Bool×List Int×List Int×List Int×Bool} (h1:Rt w 3 eLine A1 n1 c1 x1) (h2:Rt w 1 eB A2 n2 c2 x2) (h3:Rt w 2 eBus A3 n3 c3 x3) (hM : m_impl_treeOf x0 x1 x2 x3=some r) :
  Calls Tryz.prog 111 #[.agg #[iv x0,.slice A1 n1 c1],.slice A2 n2 c2,.slice A3 n3 c3] w (fun e w'=>∃ (B0:Option Addr) (N0 D0:Nat) (B1:Option Addr) (N1 D1:Nat) (B2:Option Addr) (N2 D2:Nat),e=.returned (.tuple #[.agg #[iv r.1,.slice (ifA r.2.1 A1) (ifN r.2.1 n1) (ifN r.2.1 c1),.slice B0 N0 D0,.slice B1 N1 D1,.slice B2 N2 D2],.bool r.2.2.2.2.2])∧N0=r.2.2.1.length∧N1=r.2.2.2.1.length∧N2=r.2.2.2.2.1.length∧St w w' [.row 3 1 (.slice B0 N0 D0) N0 (r.2.2.1.flatMap eI),.row 3 1 (.slice B1 N1 D1) N1 (r.2.2.2.1.flatMap eI),.row 3 1 (.slice B2 N2 D2) N2 (r.2.2.2.2.1.flatMap eI)]):=by
 obtain rfl:=h1.len
 obtain rfl:=h2.len
 obtain rfl:=h3.len
 unfold m_impl_treeOf at hM
 refine calls_gx Tryz.func111 Tryz.ntmps111 rfl rfl ?_
 intro a f
 have S:=St.nil w
 refine wsg ?_
 refine op_new (cs:=#[iv x0,.slice A1 x1.length c1]) rfl rfl f rfl S (run_box rfl (f.ev rfl) rfl) ?_;clear f S;intro a g101 u f S
 refine op_new (cs:=#[iv 0,.slice none 0 0,.slice none 0 0,.slice none 0 0,.slice none 0 0]) rfl rfl f rfl S (run_allocZ rfl zr145) ?_;clear f S;intro a g102 u f S
 revert a;refine ov rfl (fun a f=>run_assign rfl rfl) fun a f=>wn ?_
 refine ws ?_
 revert a;refine sr (ov rfl (fun a f=>run_loadN rfl ag37 (f.ev rfl) rfl ((S.free 1 rfl).cells 0 #[iv x0,.slice A1 x1.length c1] rfl)) (mv rfl rfl (mv rfl rfl fun a f=>?_)))
 obtain ⟨p103,h103,hM⟩:=bind_ex hM
 refine op_call rfl rfl f rfl (run_call (vs:=[_,_,_]) rfl rfl co119 ⟨(f.ev rfl),(f.ev rfl),(f.ev rfl),trivial⟩) (c_impl_fedValid ⟨(S.rc0 h1.rc),rfl⟩ ⟨(S.rc0 h2.rc),rfl⟩ ⟨(S.rc0 h3.rc),rfl⟩ h103) ?_
 rintro e u ⟨rfl,T⟩
 refine ⟨_,rfl,?_⟩
 clear f;intro a f
 replace S:=S.call0 T;clear T
 revert a;refine ov rfl (fun a f=>run_not rfl (f.ev rfl)) (mv rfl rfl fun a f=>?_)
 revert a;refine gf rfl rfl rfl rfl (fun a f hg=>run_loadN rfl ag37 (f.ev rfl) rfl ((S.free 1 rfl).cells 0 #[iv x0,.slice A1 x1.length c1] rfl)) (gf rfl rfl rfl rfl (fun a f hg=>run_move rfl (f.ev rfl)) fun a f=>?_)
 obtain ⟨p104,h104,hM⟩:=bind_ex hM
 refine op_gcall (v:=.bool p104) rfl rfl f rfl S (yf (gw_yield f rfl rfl rfl)) (fun hg=>(run_call (vs:=[.agg #[iv x0,.slice A1 x1.length c1],.slice A2 x2.length c2]) rfl rfl co137 ⟨((f.ev rfl).trans (gv_t hg)),((f.ev rfl).trans (gv_t hg)),trivial⟩)) (fun hg=>c_impl_hasCycle (x0:=x0) (x1:=x1) (x2:=x2) ⟨(S.rc0 h1.rc),rfl⟩ ⟨(S.rc0 h2.rc),rfl⟩ (gb_t h104 hg)) ?_;clear f S;intro a u f S
 revert a;refine ov rfl (fun a f=>run_pick_or rfl (f.ev rfl) rfl (fun hp=>((f.ev rfl).trans (gv_t (not_t hp))))) fun a f=>wn ?_
 cases hc105:((!p103)||p104)
 ·replace hM:=bif_f hc105 hM
  refine cond_f f rfl hc105 ?_
  refine wp_skip ?_
  refine ws ?_
  obtain ⟨hk106,hM⟩:=chk_ex hM
  replace hk106:=mkB_t hk106
  obtain ⟨hk107,hM⟩:=chk_ex hM
  replace hk107:=mkB_t hk107
  refine region_gw (D:=[23,24,25,26,27,28,29,30,8]) (Lr:=[.box g102 145 #[iv 0,.slice none 0 0,.slice none 0 0,.slice none 0 0,.slice none 0 0],.box g101 37 #[iv x0,.slice A1 x1.length c1]]) (deps:=(fun | 0=>[23] | 1=>[24] | 2=>[25] | 3=>[26] | 4=>[27] | 5=>[28] | 6=>[29] | 7=>[30,26,29] | 8=>[8] | 9=>[8,26,29] | _=>[])) (rd:=(fun _=>[])) (zr:=(fun _=>[]))
   (φ:=fun i vs=>match i,vs with | 0,[v23]=>v23=.agg #[iv x0,.slice A1 x1.length c1] | 1,[v24]=>v24=.pointer (some ⟨g101,0,none⟩) | 2,[v25]=>v25=iv x0 | 3,[v26]=>v26=.slice (slA v26) x0.toNat x0.toNat | 4,[v27]=>v27=.pointer (some ⟨g101,0,none⟩) | 5,[v28]=>v28=iv x0 | 6,[v29]=>v29=.slice (slA v29) x0.toNat x0.toNat | 7,[v30,v26,v29]=>v30=.agg #[iv x0,.slice A1 x1.length c1,.slice (slA v26) x0.toNat x0.toNat,.slice (slA v29) x0.toNat x0.toNat,.slice none 0 0] | 8,[v8]=>v8=.pointer (some ⟨ptB v8,0,none⟩) | _,_=>True)
   (C:=fun i vs=>match i,vs with | 3,[v26]=>[.row 3 1 (.slice (slA v26) x0.toNat x0.toNat) x0.toNat ((List.replicate x0.toNat 0).flatMap eI)] | 6,[v29]=>[.row 3 1 (.slice (slA v29) x0.toNat x0.toNat) x0.toNat ((List.replicate x0.toNat 0).flatMap eI)] | 8,[v8]=>[.box (ptB v8) 145 #[iv 0,.slice none 0 0,.slice none 0 0,.slice none 0 0,.slice none 0 0]] | 9,[v8,v26,v29]=>[.box (ptB v8) 145 #[iv x0,.slice A1 x1.length c1,.slice (slA v26) x0.toNat x0.toNat,.slice (slA v29) x0.toNat x0.toNat,.slice none 0 0]] | _,_=>[])
   (κ:=(fun | 8=>some 9 | _=>none)) (Z:=(fun _=>[])) mixed f (by kernel_rfl) S ?_ ?_
  ·refine ⟨?_,?_,?_,?_,?_,?_,?_,?_,?_,?_,trivial⟩
   ·intro a u X hB hu p hr hz hl S
    exact .inl ⟨rfl,_,u,(run_loadN rfl ag37 (f.evB hB rfl rfl) rfl ((gr_box S hl 1 rfl).cells 0 #[iv x0,.slice A1 x1.length c1] rfl)),rfl,S⟩
   ·intro a u X hB hu p hr hz hl S
    exact .inl ⟨rfl,_,u,(run_fieldAddr rfl fl37_0 (f.evB hB rfl rfl) rfl),rfl,S⟩
   ·intro a u X hB hu p hr hz hl S
    exact .inl ⟨rfl,_,u,(run_load1 rfl one3 (ev_sl (p 1 rfl)) ((gr_box S hl 1 rfl).cell rfl)),rfl,S⟩
   ·intro a u X hB hu p hr hz hl S
    exact .inl ⟨rfl,_,_,run_makeL (e:=eI) rfl (ev_sl (p 2 rfl)) (ev_sl (p 2 rfl)) Tryz.underlying30 inf3 eI_len rfl (by decide) hk106,rfl,S.newrowL (e:=eI) List.length_replicate eI_len (by rw [List.length_replicate];omega)⟩
   ·intro a u X hB hu p hr hz hl S
    exact .inl ⟨rfl,_,u,(run_fieldAddr rfl fl37_0 (f.evB hB rfl rfl) rfl),rfl,S⟩
   ·intro a u X hB hu p hr hz hl S
    exact .inl ⟨rfl,_,u,(run_load1 rfl one3 (ev_sl (p 4 rfl)) ((gr_box S hl 1 rfl).cell rfl)),rfl,S⟩
   ·intro a u X hB hu p hr hz hl S
    exact .inl ⟨rfl,_,_,run_makeL (e:=eI) rfl (ev_sl (p 5 rfl)) (ev_sl (p 5 rfl)) Tryz.underlying30 inf3 eI_len rfl (by decide) hk107,rfl,S.newrowL (e:=eI) List.length_replicate eI_len (by rw [List.length_replicate];omega)⟩
   ·intro a u X hB hu p hr hz hl S
    exact .inl ⟨rfl,_,u,(run_build (vs:=[(0,.agg #[iv x0,.slice A1 x1.length c1]),(1,.slice (slA (sl a 26)) x0.toNat x0.toNat),(2,.slice (slA (sl a 29)) x0.toNat x0.toNat)]) rfl ⟨⟨rfl,(ev_sl (p 0 rfl))⟩,⟨rfl,(ev_sl (p 3 rfl))⟩,⟨rfl,(ev_sl (p 6 rfl))⟩,trivial⟩ (bd145_0x2_1_2 rfl rfl)),rfl,S⟩
   ·intro a u X hB hu p hr hz hl S
    exact .inl ⟨rfl,_,_,(run_allocZ rfl zr145),rfl,S.alloc _ _⟩
   intro a u X hB hu p hr hz hl S
   replace S:St w u ([.box (ptB (sl a 8)) 145 #[iv 0,.slice none 0 0,.slice none 0 0,.slice none 0 0,.slice none 0 0]]++X):=S
   exact .inr (.inl ⟨rfl,_,run_store (cs':=#[iv x0,.slice A1 x1.length c1,.slice (slA (sl a 26)) x0.toNat x0.toNat,.slice (slA (sl a 29)) x0.toNat x0.toNat,.slice none 0 0]) rfl sz145 (ev_sl (p 8 rfl)) (ev_sl (p 7 rfl)) rfl rfl rfl (S.free 0 rfl) rfl rfl,trivial,S.put 0 rfl (#[iv x0,.slice A1 x1.length c1,.slice (slA (sl a 26)) x0.toNat x0.toNat,.slice (slA (sl a 29)) x0.toNat x0.toNat,.slice none 0 0])⟩)
  intro a u hB hp S
  obtain ⟨q0,q1,q2,q3,q4,q5,q6,q7,q8,q9,-⟩:=hp
  replace S:St w u [.row 3 1 (.slice (slA (sl a 26)) x0.toNat x0.toNat) x0.toNat ((List.replicate x0.toNat 0).flatMap eI),.row 3 1 (.slice (slA (sl a 29)) x0.toNat x0.toNat) x0.toNat ((List.replicate x0.toNat 0).flatMap eI),.box (ptB (sl a 8)) 145 #[iv x0,.slice A1 x1.length c1,.slice (slA (sl a 26)) x0.toNat x0.toNat,.slice (slA (sl a 29)) x0.toNat x0.toNat,.slice none 0 0],.box g102 145 #[iv 0,.slice none 0 0,.slice none 0 0,.slice none 0 0,.slice none 0 0],.box g101 37 #[iv x0,.slice A1 x1.length c1]]:=S
  have f:=f.region hB [(23,.agg #[iv x0,.slice A1 x1.length c1]),(24,.pointer (some ⟨g101,0,none⟩)),(25,iv x0),(26,.slice (slA (sl a 26)) x0.toNat x0.toNat),(27,.pointer (some ⟨g101,0,none⟩)),(28,iv x0),(29,.slice (slA (sl a 29)) x0.toNat x0.toNat),(30,.agg #[iv x0,.slice A1 x1.length c1,.slice (slA (sl a 26)) x0.toNat x0.toNat,.slice (slA (sl a 29)) x0.toNat x0.toNat,.slice none 0 0]),(8,.pointer (some ⟨ptB (sl a 8),0,none⟩))] (allSl_mem ⟨q0,q1,q2,q3,q4,q5,q6,q7,q8,trivial⟩) rfl
  clear hB q0 q1 q2 q3 q4 q5 q6 q7 q8 q9
  generalize slA (sl a 26)=B108 at *
  generalize slA (sl a 29)=B109 at *
  generalize ptB (sl a 8)=g110 at *
  refine ws ?_
  revert a;refine sr (ov rfl (fun a f=>run_fieldAddr rfl fl37_0 (f.ev rfl) rfl) (ov rfl (fun a f=>run_load1 rfl one3 (f.ev rfl) (S.cell 4 rfl rfl)) (ov rfl (fun a f=>run_move rfl rfl) fun a f=>wn ?_)))
  obtain ⟨o112,hM115,hM⟩:=bind_ex hM
  refine wp_cut (fun a u=>∃ (p111:List Int×List Int),p111=o112∧x0.toNat=p111.1.length∧x0.toNat=p111.2.length∧Fr a 72 [(1,.slice A2 x2.length c2),(2,.slice A3 x3.length c3),(6,.pointer (some ⟨g102,0,none⟩)),(7,.bool false),(8,.pointer (some ⟨g110,0,none⟩))]∧St w u [.box g110 145 #[iv x0,.slice A1 x1.length c1,.slice B108 x0.toNat x0.toNat,.slice B109 x0.toNat x0.toNat,.slice none 0 0],.box g102 145 #[iv 0,.slice none 0 0,.slice none 0 0,.slice none 0 0,.slice none 0 0],.row 3 1 (.slice B108 x0.toNat x0.toNat) x0.toNat (p111.1.flatMap eI),.row 3 1 (.slice B109 x0.toNat x0.toNat) x0.toNat (p111.2.flatMap eI)]) ?_ ?_
  ·have _:=trivial
   refine wp_block ?_
   refine loop_gw (fun m a u=>∃ (p116:Int×List Int×List Int),m_impl_treeOf_l1 x0 m p116=some _∧x0.toNat=p116.2.1.length∧x0.toNat=p116.2.2.length∧Fr a 72 [(1,.slice A2 x2.length c2),(2,.slice A3 x3.length c3),(6,.pointer (some ⟨g102,0,none⟩)),(7,.bool false),(8,.pointer (some ⟨g110,0,none⟩)),(32,iv x0),(33,iv p116.1)]∧St w u [.box g110 145 #[iv x0,.slice A1 x1.length c1,.slice B108 x0.toNat x0.toNat,.slice B109 x0.toNat x0.toNat,.slice none 0 0],.box g102 145 #[iv 0,.slice none 0 0,.slice none 0 0,.slice none 0 0,.slice none 0 0],.row 3 1 (.slice B108 x0.toNat x0.toNat) x0.toNat (p116.2.1.flatMap eI),.row 3 1 (.slice B109 x0.toNat x0.toNat) x0.toNat (p116.2.2.flatMap eI)]) FUEL ⟨(0,List.replicate x0.toNat 0,List.replicate x0.toNat 0),hM115,List.length_replicate.symm,List.length_replicate.symm,f.keep _ ⟨rfl,rfl,rfl,rfl,rfl,rfl,rfl,trivial⟩,S.sel [2,3,0,1] rfl rfl⟩ ?_
   clear f S hM115;rintro m a u ⟨p116,hM115,hn117,hn118,f,S⟩
   rcases m with _ | f1
   ·exact none_some hM115
   rw [m_impl_treeOf_l1.eq_2] at hM115
   revert a;refine sr (ov rfl (fun a f=>run_lss (f.ev rfl) (f.ev rfl) rfl) fun a f=>wn ?_)
   refine ws ?_
   cases hc119:(ltB p116.1 x0)
   ·replace hM115:=bif_f hc119 hM115
    refine cond_f f rfl hc119 ?_
    refine wp_exit ?_
    repeat with_reducible first|apply then_exit|apply in_hit|refine in_miss rfl ?_
    obtain rfl:=Option.some.inj hM115
    exact ⟨(p116.2.1,p116.2.2),rfl,hn117,hn118,f.keep _ ⟨rfl,rfl,rfl,rfl,rfl,trivial⟩,S.sel [0,1,2,3] rfl rfl⟩
   replace hM115:=bif_t hc119 hM115
   refine cond_t f rfl hc119 ?_
   refine wp_skip ?_
   refine ws ?_
   refine wp_block ?_
   revert a;refine sr (mv rfl rfl (ag rfl rfl fun a f=>wn ?_))
   revert a;refine rl (ov rfl (fun a f=>run_fieldAddr rfl fl145_1 (f.ev rfl) rfl) (ov rfl (fun a f=>run_load1 rfl one30 (f.ev rfl) (S.cell 0 rfl rfl)) (mv rfl rfl (ov rfl (fun a f=>run_fieldAddr rfl fl145_2 (f.ev rfl) rfl) (ov rfl (fun a f=>run_load1 rfl one30 (f.ev rfl) (S.cell 0 rfl rfl)) (mv rfl rfl fun a f=>?_))))))
   obtain ⟨hk120,hM115⟩:=chk_ex hM115
   replace hk120:=ixB_t hk120
   revert a;refine ov rfl (fun a f=>run_ix rfl Tryz.underlying30 sz3 (f.ev rfl) (S.rc 2 rfl) (f.ev rfl) hk120) fun a f=>?_
   obtain ⟨w',hrun,S'⟩:=run_storeElN (P:=Tryz.prog) (ρ:=a.eval) (y0:=-1) (off:=0) S 3 (.tmp 42) (.const (iv (-1))) (i:=2) sz3 (f.ev rfl) rfl rfl rfl rfl rfl hn117 eI_len 0 (ix_ltn hk120 hn117) rfl rfl
   refine op_do rfl rfl (hrun _ rfl) ?_;clear hrun S;have S:=S';clear S';generalize w'=u at S ⊢
   obtain ⟨hk121,hM115⟩:=chk_ex hM115
   replace hk121:=ixB_t hk121
   revert a;refine ov rfl (fun a f=>run_ix rfl Tryz.underlying30 sz3 (f.ev rfl) (S.rc 3 rfl) (f.ev rfl) hk121) fun a f=>?_
   obtain ⟨w',hrun,S'⟩:=run_storeElN (P:=Tryz.prog) (ρ:=a.eval) (y0:=-1) (off:=0) S 3 (.tmp 43) (.const (iv (-1))) (i:=3) sz3 (f.ev rfl) rfl rfl rfl rfl rfl hn118 eI_len 0 (ix_ltn hk121 hn118) rfl rfl
   refine op_do rfl rfl (hrun _ rfl) ?_;clear hrun S;have S:=S';clear S';generalize w'=u at S ⊢
   refine wn ?_
   revert a;refine rl (ov rfl (fun a f=>run_add (z:=w64 (p116.1+1)) (f.ev rfl) rfl rfl rfl) (mv rfl rfl fun a f=>wn ?_))
   exact ⟨f1,Nat.lt_succ_self _,(w64 (p116.1+1),p116.2.1.set p116.1.toNat (-1),p116.2.2.set p116.1.toNat (-1)),hM115,(len_set hn117),(len_set hn118),f.keep _ ⟨rfl,rfl,rfl,rfl,rfl,rfl,rfl,trivial⟩,S.sel [0,1,2,3] rfl rfl⟩
  rintro a u ⟨p111,rfl,hn113,hn114,f,S⟩
  refine ws ?_
  revert a;refine sr (mv rfl rfl (ov rfl (fun a f=>run_lenL rfl rfl Tryz.underlying38 (f.ev rfl)) (ov rfl (fun a f=>run_move rfl rfl) fun a f=>wn ?_)))
  obtain ⟨o123,hM130,hM⟩:=bind_ex hM
  refine wp_cut (fun a u=>∃ (p122:Int×List Int×List Int×List Int) (B124:Option Addr) (d125:Nat) (B126:Option Addr) (d127:Nat) (B128:Option Addr) (d129:Nat),(Sum.inl p122)=o123∧Fr a 72 [(6,.pointer (some ⟨g102,0,none⟩)),(7,.bool false),(8,.pointer (some ⟨g110,0,none⟩))]∧St w u [.box g110 145 #[iv p122.1,.slice A1 x1.length c1,.slice B124 p122.2.1.length d125,.slice B126 p122.2.2.1.length d127,.slice B128 p122.2.2.2.length d129],.box g102 145 #[iv 0,.slice none 0 0,.slice none 0 0,.slice none 0 0,.slice none 0 0],.row 3 1 (.slice B124 p122.2.1.length d125) p122.2.1.length (p122.2.1.flatMap eI),.row 3 1 (.slice B126 p122.2.2.1.length d127) p122.2.2.1.length (p122.2.2.1.flatMap eI),.row 3 1 (.slice B128 p122.2.2.2.length d129) p122.2.2.2.length (p122.2.2.2.flatMap eI)]) ?_ ?_
  ·have _:=trivial
   refine wp_block ?_
   try rw [show x0.toNat=p111.1.length from hn113] at f
   try rw [show x0.toNat=p111.2.length from hn114] at f
   replace S:=S.nilrow 3 1
   have er0 : x0.toNat=p111.1.length:=hn113
   have er1 : x0.toNat=p111.2.length:=hn114
   replace S:=S.cast (L':=[.row 3 1 (.slice none 0 0) 0 (([]:List Int).flatMap eI),.box g110 145 #[iv x0,.slice A1 x1.length c1,.slice B108 p111.1.length p111.1.length,.slice B109 p111.2.length p111.2.length,.slice none 0 0],.box g102 145 #[iv 0,.slice none 0 0,.slice none 0 0,.slice none 0 0,.slice none 0 0],.row 3 1 (.slice B108 p111.1.length p111.1.length) p111.1.length (p111.1.flatMap eI),.row 3 1 (.slice B109 p111.2.length p111.2.length) p111.2.length (p111.2.flatMap eI)]) (by simp only [← er0,← er1] <;> rfl)
   refine loop_gw (fun m a u=>∃ (p131:Int×Int×List Int×List Int×List Int) (B132:Option Addr) (d133:Nat) (B134:Option Addr) (d135:Nat) (B136:Option Addr) (d137:Nat),m_impl_treeOf_l2 x1 x2 x3 m p131=some _∧Fr a 72 [(1,.slice A2 x2.length c2),(6,.pointer (some ⟨g102,0,none⟩)),(7,.bool false),(8,.pointer (some ⟨g110,0,none⟩)),(45,.slice A3 x3.length c3),(46,iv (x3.length:Int)),(47,iv p131.1)]∧St w u [.box g110 145 #[iv p131.2.1,.slice A1 x1.length c1,.slice B132 p131.2.2.1.length d133,.slice B134 p131.2.2.2.1.length d135,.slice B136 p131.2.2.2.2.length d137],.box g102 145 #[iv 0,.slice none 0 0,.slice none 0 0,.slice none 0 0,.slice none 0 0],.row 3 1 (.slice B132 p131.2.2.1.length d133) p131.2.2.1.length (p131.2.2.1.flatMap eI),.row 3 1 (.slice B134 p131.2.2.2.1.length d135) p131.2.2.2.1.length (p131.2.2.2.1.flatMap eI),.row 3 1 (.slice B136 p131.2.2.2.2.length d137) p131.2.2.2.2.length (p131.2.2.2.2.flatMap eI)]) FUEL ⟨(0,x0,p111.1,p111.2,([]:List Int)),B108,p111.1.length,B109,p111.2.length,none,0,hM130,f.keep _ ⟨rfl,rfl,rfl,rfl,rfl,rfl,rfl,trivial⟩,S.sel [1,2,3,4,0] rfl rfl⟩ ?_
   clear f S hM130;rintro m a u ⟨p131,B132,d133,B134,d135,B136,d137,hM130,f,S⟩
   rcases m with _ | f2
   ·exact none_some hM130
   rw [m_impl_treeOf_l2.eq_2] at hM130
   revert a;refine sr (ov rfl (fun a f=>run_lss (f.ev rfl) (f.ev rfl) rfl) fun a f=>wn ?_)
   refine ws ?_
   cases hc138:(ltB p131.1 (x3.length:Int))
   ·replace hM130:=bif_f hc138 hM130
    refine cond_f f rfl hc138 ?_
    refine wp_exit ?_
    repeat with_reducible first|apply then_exit|apply in_hit|refine in_miss rfl ?_
    obtain rfl:=Option.some.inj hM130
    exact ⟨(p131.2.1,p131.2.2.1,p131.2.2.2.1,p131.2.2.2.2),B132,d133,B134,d135,B136,d137,rfl,f.keep _ ⟨rfl,rfl,rfl,trivial⟩,S.sel [0,1,2,3,4] rfl rfl⟩
   replace hM130:=bif_t hc138 hM130
   refine cond_t f rfl hc138 ?_
   refine wp_skip ?_
   refine ws ?_
   obtain ⟨o140,hM147,hM130⟩:=bind_ex hM130
   refine wp_cut (fun a u=>∃ (p139:Int×List Int×List Int×List Int) (B141:Option Addr) (d142:Nat) (B143:Option Addr) (d144:Nat) (B145:Option Addr) (d146:Nat),(Sum.inl p139)=o140∧Fr a 72 [(1,.slice A2 x2.length c2),(6,.pointer (some ⟨g102,0,none⟩)),(7,.bool false),(8,.pointer (some ⟨g110,0,none⟩)),(45,.slice A3 x3.length c3),(46,iv (x3.length:Int)),(47,iv p131.1)]∧St w u [.box g110 145 #[iv p139.1,.slice A1 x1.length c1,.slice B141 p139.2.1.length d142,.slice B143 p139.2.2.1.length d144,.slice B145 p139.2.2.2.length d146],.box g102 145 #[iv 0,.slice none 0 0,.slice none 0 0,.slice none 0 0,.slice none 0 0],.row 3 1 (.slice B141 p139.2.1.length d142) p139.2.1.length (p139.2.1.flatMap eI),.row 3 1 (.slice B143 p139.2.2.1.length d144) p139.2.2.1.length (p139.2.2.1.flatMap eI),.row 3 1 (.slice B145 p139.2.2.2.length d146) p139.2.2.2.length (p139.2.2.2.flatMap eI)]) ?_ ?_
   ·have _:=trivial
    refine wp_block ?_
    revert a;refine sr (mv rfl rfl fun a f=>?_)
    obtain ⟨hk148,hM147⟩:=chk_ex hM147
    replace hk148:=ixB_t hk148
    revert a;refine ov rfl (fun a f=>run_ix rfl Tryz.underlying38 sz110 (f.ev rfl) (S.rc0 h3.rc) (f.ev rfl) hk148) (ov rfl (fun a f=>run_loadN (cs:=#[iv ((x3.getD p131.1.toNat (0,0)).1),iv ((x3.getD p131.1.toNat (0,0)).2)]) rfl ag110 (f.ev rfl) rfl (rd_elN (l:=x3) (S.rc0 h3.rc).rd rfl eBus_len (0,0) (ix_ltn hk148 rfl) rfl)) fun a f=>?_)
    refine op_new (cs:=#[iv 0,iv 0]) rfl rfl f rfl S (run_allocZ rfl zr110) ?_;clear f S;intro a g149 u f S
    revert a;refine ag rfl rfl fun a f=>?_
    refine op_do rfl rfl (run_store (cs':=#[iv ((x3.getD p131.1.toNat (0,0)).1),iv ((x3.getD p131.1.toNat (0,0)).2)]) rfl sz110 (f.ev rfl) (f.ev rfl) rfl rfl rfl (S.free 0 rfl) rfl rfl) ?_;replace S:=S.put 0 rfl (#[iv ((x3.getD p131.1.toNat (0,0)).1),iv ((x3.getD p131.1.toNat (0,0)).2)])
    generalize World.setRow _ _ _=u at S ⊢
    refine wn ?_
    refine ws ?_
    revert a;refine sr (ov rfl (fun a f=>run_fieldAddr rfl fl110_0 (f.ev rfl) rfl) (ov rfl (fun a f=>run_load1 rfl one3 (f.ev rfl) (S.cell 0 rfl rfl)) (ov rfl (fun a f=>run_eql (f.ev rfl) rfl rfl) fun a f=>wn ?_)))
    cases hc150:(((x3.getD p131.1.toNat (0,0)).1)==0)
    ·replace hM147:=bif_f hc150 hM147
     refine cond_f f rfl hc150 ?_
     refine wp_skip ?_
     refine ws ?_
     revert a;refine sr (ov rfl (fun a f=>run_fieldAddr rfl fl145_1 (f.ev rfl) rfl) (ov rfl (fun a f=>run_load1 rfl one30 (f.ev rfl) (S.cell 1 rfl rfl)) (mv rfl rfl fun a f=>?_)))
     obtain ⟨hk151,hM147⟩:=chk_ex hM147
     replace hk151:=ixB_t hk151
     revert a;refine ov rfl (fun a f=>run_ix rfl Tryz.underlying30 sz3 (f.ev rfl) (S.rc 3 rfl) (f.ev rfl) hk151) (ov rfl (fun a f=>run_load1 rfl one3 (f.ev rfl) (rd_el0 (l:=p131.2.2.1) (S.rc 3 rfl).rd rfl eI_len 0 (ix_ltn hk151 rfl) rfl)) (ov rfl (fun a f=>run_geq (f.ev rfl) rfl rfl) fun a f=>wn ?_))
     cases hc152:(leB 0 (p131.2.2.1.getD p131.1.toNat 0))
     ·replace hM147:=bif_f hc152 hM147
      refine cond_f f rfl hc152 ?_
      refine wp_skip ?_
      revert a;refine sr (ov rfl (fun a f=>run_fieldAddr rfl fl145_1 (f.ev rfl) rfl) (ov rfl (fun a f=>run_load1 rfl one30 (f.ev rfl) (S.cell 1 rfl rfl)) (mv rfl rfl (mv rfl rfl fun a f=>?_))))
      obtain ⟨hk153,hM147⟩:=chk_ex hM147
      replace hk153:=ixB_t hk153
      revert a;refine ov rfl (fun a f=>run_ix rfl Tryz.underlying30 sz3 (f.ev rfl) (S.rc 3 rfl) (f.ev rfl) hk153) fun a f=>?_
      obtain ⟨w',hrun,S'⟩:=run_storeElN (P:=Tryz.prog) (ρ:=a.eval) (y0:=p131.1) (off:=0) S 3 (.tmp 66) (.tmp 65) (i:=3) sz3 (f.ev rfl) (f.ev rfl) rfl rfl rfl rfl rfl eI_len 0 (ix_ltn hk153 rfl) rfl rfl
      refine op_do rfl rfl (hrun _ rfl) ?_;clear hrun S;have S:=S';clear S';generalize w'=u at S ⊢
      refine wn ?_
      revert a;refine rl (mv rfl rfl (mv rfl rfl fun a f=>?_))
      replace S:=S.addold h1.rc (by decide)
      obtain ⟨p154,h154,hM147⟩:=bind_ex hM147
      refine op_call rfl rfl f rfl (run_call (vs:=[_,_,_]) rfl rfl co138 ⟨(f.ev rfl),(f.ev rfl),(f.ev rfl),trivial⟩) (c_impl_tree_search (Y1:=.old w.heap.size 3 (.slice A1 x1.length c1) x1.length (x1.flatMap eLine)) rfl (fun u h=>(old_rc h)) (len_set rfl) rfl rfl ⟨h2.rc,rfl⟩ (show St w _ [.box g110 145 #[iv p131.2.1,.slice A1 x1.length c1,.slice B132 p131.2.2.1.length d133,.slice B134 p131.2.2.2.1.length d135,.slice B136 p131.2.2.2.2.length d137],.old w.heap.size 3 (.slice A1 x1.length c1) x1.length (x1.flatMap eLine),.row 3 1 (.slice B132 p131.2.2.1.length d133) p131.2.2.1.length ((p131.2.2.1.set p131.1.toNat p131.1).flatMap eI),.row 3 1 (.slice B134 p131.2.2.2.1.length d135) p131.2.2.2.1.length (p131.2.2.2.1.flatMap eI),.row 3 1 (.slice B136 p131.2.2.2.2.length d137) p131.2.2.2.2.length (p131.2.2.2.2.flatMap eI),.box g149 110 #[iv ((x3.getD p131.1.toNat (0,0)).1),iv ((x3.getD p131.1.toNat (0,0)).2)],.box g102 145 #[iv 0,.slice none 0 0,.slice none 0 0,.slice none 0 0,.slice none 0 0]] from S.sel [2,0,4,5,6,1,3] rfl rfl) h154) ?_
      rintro e u ⟨B155,n156,d157,B158,n159,d160,B161,n162,d163,rfl,rfl,rfl,rfl,T⟩
      refine ⟨_,rfl,?_⟩
      clear f;intro a f
      clear S;have S:=T;clear T
      refine wn ?_
      obtain rfl:=Option.some.inj hM147
      exact ⟨(p154.1,p154.2.1,p154.2.2.1,p154.2.2.2),B155,d157,B158,d160,B161,d163,rfl,f.keep _ ⟨rfl,rfl,rfl,rfl,rfl,rfl,rfl,trivial⟩,S.sel [0,6,1,2,3] rfl rfl⟩
     replace hM147:=bif_t hc152 hM147
     refine cond_t f rfl hc152 ?_
     revert a;refine sr (ov rfl (fun a f=>run_build (vs:=[]) rfl trivial (bd145 )) fun a f=>?_)
     refine op_do rfl rfl (run_store (cs':=#[iv 0,.slice none 0 0,.slice none 0 0,.slice none 0 0,.slice none 0 0]) rfl sz145 (f.ev rfl) (f.ev rfl) rfl rfl rfl (S.free 2 rfl) rfl rfl) ?_;replace S:=S.put 2 rfl (#[iv 0,.slice none 0 0,.slice none 0 0,.slice none 0 0,.slice none 0 0])
     generalize World.setRow _ _ _=u at S ⊢
     revert a;refine ov rfl (fun a f=>run_assign rfl rfl) fun a f=>wn ?_
     refine wp_ret ?_
     repeat with_reducible first|apply tr|apply ir|apply nr
     refine ret2_gw (.inl rfl) f rfl (res_cell (f.ev rfl) (res_loadN ag145 rfl (S.cells 2 rfl 0 #[iv 0,.slice none 0 0,.slice none 0 0,.slice none 0 0,.slice none 0 0] rfl))) (res_tmp (f.ev rfl)) ?_
     obtain rfl:=Option.some.inj hM147
     obtain rfl:=Option.some.inj hM130
     obtain rfl:=Option.some.inj hM
     replace S:=S.nilrow 3 1
     replace S:=S.nilrow 3 1
     replace S:=S.nilrow 3 1
     exact ⟨none,0,0,none,0,0,none,0,0,rfl,rfl,rfl,rfl,S.sel [2,1,0] rfl rfl⟩
    replace hM147:=bif_t hc150 hM147
    refine cond_t f rfl hc150 ?_
    refine wp_exit ?_
    repeat with_reducible first|apply then_exit|apply in_hit|refine in_miss rfl ?_
    obtain rfl:=Option.some.inj hM147
    exact ⟨(p131.2.1,p131.2.2.1,p131.2.2.2.1,p131.2.2.2.2),B132,d133,B134,d135,B136,d137,rfl,f.keep _ ⟨rfl,rfl,rfl,rfl,rfl,rfl,rfl,trivial⟩,S.sel [1,2,3,4,5] rfl rfl⟩
   rintro a u ⟨p139,B141,d142,B143,d144,B145,d146,rfl,f,S⟩
   replace hM130:=elim_l hM130
   revert a;refine rl (ov rfl (fun a f=>run_add (z:=w64 (p131.1+1)) (f.ev rfl) rfl rfl rfl) (mv rfl rfl fun a f=>wn ?_))
   exact ⟨f2,Nat.lt_succ_self _,(w64 (p131.1+1),p139.1,p139.2.1,p139.2.2.1,p139.2.2.2),B141,d142,B143,d144,B145,d146,hM130,f.keep _ ⟨rfl,rfl,rfl,rfl,rfl,rfl,rfl,trivial⟩,S.sel [0,1,2,3,4] rfl rfl⟩
  rintro a u ⟨p122,B124,d125,B126,d127,B128,d129,rfl,f,S⟩
  replace hM:=elim_l hM
  revert a;refine sr (ov rfl (fun a f=>run_loadN rfl ag145 (f.ev rfl) rfl ((S.free 0 rfl).cells 0 #[iv p122.1,.slice A1 x1.length c1,.slice B124 p122.2.1.length d125,.slice B126 p122.2.2.1.length d127,.slice B128 p122.2.2.2.length d129] rfl)) fun a f=>?_)
  refine op_do rfl rfl (run_store (cs':=#[iv p122.1,.slice A1 x1.length c1,.slice B124 p122.2.1.length d125,.slice B126 p122.2.2.1.length d127,.slice B128 p122.2.2.2.length d129]) rfl sz145 (f.ev rfl) (f.ev rfl) rfl rfl rfl (S.free 1 rfl) rfl rfl) ?_;replace S:=S.put 1 rfl (#[iv p122.1,.slice A1 x1.length c1,.slice B124 p122.2.1.length d125,.slice B126 p122.2.2.1.length d127,.slice B128 p122.2.2.2.length d129])
  generalize World.setRow _ _ _=u at S ⊢
  revert a;refine ov rfl (fun a f=>run_assign rfl rfl) fun a f=>wn ?_
  refine wp_ret ?_
  refine ret2_gw (.inl rfl) f rfl (res_cell (f.ev rfl) (res_loadN ag145 rfl (S.cells 1 rfl 0 #[iv p122.1,.slice A1 x1.length c1,.slice B124 p122.2.1.length d125,.slice B126 p122.2.2.1.length d127,.slice B128 p122.2.2.2.length d129] rfl))) (res_tmp (f.ev rfl)) ?_
  obtain rfl:=Option.some.inj hM
  exact ⟨B124,p122.2.1.length,d125,B126,p122.2.2.1.length,d127,B128,p122.2.2.2.length,d129,rfl,rfl,rfl,rfl,S.sel [2,3,4] rfl rfl⟩
 replace hM:=bif_t hc105 hM
 refine cond_t f rfl hc105 ?_
 revert a;refine sr (ov rfl (fun a f=>run_build (vs:=[]) rfl trivial (bd145 )) fun a f=>?_)
 refine op_do rfl rfl (run_store (cs':=#[iv 0,.slice none 0 0,.slice none 0 0,.slice none 0 0,.slice none 0 0]) rfl sz145 (f.ev rfl) (f.ev rfl) rfl rfl rfl (S.free 0 rfl) rfl rfl) ?_;replace S:=S.put 0 rfl (#[iv 0,.slice none 0 0,.slice none 0 0,.slice none 0 0,.slice none 0 0])
 generalize World.setRow _ _ _=u at S ⊢
 revert a;refine ov rfl (fun a f=>run_assign rfl rfl) fun a f=>wn ?_
 refine wp_ret ?_
 repeat with_reducible first|apply tr|apply ir|apply nr
 refine ret2_gw (.inl rfl) f rfl (res_cell (f.ev rfl) (res_loadN ag145 rfl (S.cells 0 rfl 0 #[iv 0,.slice none 0 0,.slice none 0 0,.slice none 0 0,.slice none 0 0] rfl))) (res_tmp (f.ev rfl)) ?_
 obtain rfl:=Option.some.inj hM
 replace S:=S.nilrow 3 1
 replace S:=S.nilrow 3 1
 replace S:=S.nilrow 3 1
 exact ⟨none,0,0,none,0,0,none,0,0,rfl,rfl,rfl,rfl,S.sel [2,1,0] rfl rfl⟩
theorem c_impl_Radial {x0:Int} {x1:List (Int×Int×Int)} {x2:List Bool} {x3:List (Int×Int)} {A1:Option Addr} {n1 c1:Nat} {A2:Option Addr} {n2 c2:Nat} {A3:Option Addr} {n3 c3:Nat} {w:World} {r:Bool} (h1:Rt w 3 eLine A1 n1 c1 x1) (h2:Rt w 1 eB A2 n2 c2 x2) (h3:Rt w 2 eBus A3 n3 c3 x3) (hM : m_impl_Radial x0 x1 x2 x3=some r) :
  Calls Tryz.prog 76 #[.agg #[iv x0,.slice A1 n1 c1],.slice A2 n2 c2,.slice A3 n3 c3] w (fun e w'=>e=.returned (.bool r)∧St w w' []):=by
 obtain rfl:=h1.len
 obtain rfl:=h2.len
 obtain rfl:=h3.len
 unfold m_impl_Radial at hM
 refine calls_gx Tryz.func76 Tryz.ntmps76 rfl rfl ?_
 intro a f
 have S:=St.nil w
 refine wsg ?_
 refine op_new (cs:=#[iv x0,.slice A1 x1.length c1]) rfl rfl f rfl S (run_box rfl (f.ev rfl) rfl) ?_;clear f S;intro a g101 u f S
 revert a;refine ov rfl (fun a f=>run_assign rfl rfl) fun a f=>wn ?_
 revert a;refine sr (ov rfl (fun a f=>run_loadN rfl ag37 (f.ev rfl) rfl ((S.free 0 rfl).cells 0 #[iv x0,.slice A1 x1.length c1] rfl)) (mv rfl rfl (mv rfl rfl fun a f=>?_)))
 obtain ⟨p102,h102,hM⟩:=bind_ex hM
 refine op_call rfl rfl f rfl (run_call (vs:=[_,_,_]) rfl rfl co111 ⟨(f.ev rfl),(f.ev rfl),(f.ev rfl),trivial⟩) (c_impl_treeOf ⟨(S.rc0 h1.rc),rfl⟩ ⟨(S.rc0 h2.rc),rfl⟩ ⟨(S.rc0 h3.rc),rfl⟩ h102) ?_
 rintro e u ⟨B103,n104,d105,B106,n107,d108,B109,n110,d111,rfl,rfl,rfl,rfl,T⟩
 refine ⟨_,rfl,?_⟩
 clear f;intro a f
 replace S:=S.call3 T;clear T
 revert a;refine mv rfl rfl (ov rfl (fun a f=>run_extract rfl (f.ev rfl) rfl) (ov rfl (fun a f=>run_extract rfl (f.ev rfl) rfl) fun a f=>?_))
 refine op_new (cs:=#[iv 0,.slice none 0 0,.slice none 0 0,.slice none 0 0,.slice none 0 0]) rfl rfl f rfl S (run_allocZ rfl zr145) ?_;clear f S;intro a g112 u f S
 refine op_do rfl rfl (run_store (cs':=#[iv p102.1,.slice (ifA p102.2.1 A1) (ifN p102.2.1 x1.length) (ifN p102.2.1 c1),.slice B103 p102.2.2.1.length d105,.slice B106 p102.2.2.2.1.length d108,.slice B109 p102.2.2.2.2.1.length d111]) rfl sz145 (f.ev rfl) (f.ev rfl) rfl rfl rfl (S.free 0 rfl) rfl rfl) ?_;replace S:=S.put 0 rfl (#[iv p102.1,.slice (ifA p102.2.1 A1) (ifN p102.2.1 x1.length) (ifN p102.2.1 c1),.slice B103 p102.2.2.1.length d105,.slice B106 p102.2.2.2.1.length d108,.slice B109 p102.2.2.2.2.1.length d111])
 generalize World.setRow _ _ _=u at S ⊢
 revert a;refine ag rfl rfl fun a f=>wn ?_
 revert a;refine sr (mv rfl rfl (ag rfl rfl fun a f=>wn ?_))
 refine wp_ret ?_
 refine ret1_gw (.inl rfl) f rfl (res_tmp (f.ev rfl)) ?_
 obtain rfl:=Option.some.inj hM
 exact ⟨rfl,S.sel [] rfl rfl⟩
theorem c_impl_WorldValid {x0:Int} {x1:List (Int×Int×Int)} {x2:List (Int×Int)} {x3:List Bool} {x4:List Bool} {x5:List (Int×Int)} {x6:List Int} {A1:Option Addr} {n1 c1:Nat} {A2:Option Addr} {n2 c2:Nat} {A3:Option Addr} {n3 c3:Nat} {A4:Option Addr} {n4 c4:Nat} {A5:Option Addr} {n5 c5:Nat} {A6:Option Addr} {n6 c6:Nat} {w:World} {r:Bool} (h1:Rt w 3 eLine A1 n1 c1 x1) (h2:Rt w 2 eBus A2 n2 c2 x2) (h3:Rt w 1 eB A3 n3 c3 x3) (h4:Rt w 1 eB A4 n4 c4 x4) (h5:Rt w 2 ePermit A5 n5 c5 x5) (h6:Rt w 1 eI A6 n6 c6 x6) (hM : m_impl_WorldValid x0 x1 x2 x3 x4 x5 x6=some r) :
  Calls Tryz.prog 35 #[.agg #[iv x0,.slice A1 n1 c1,.slice A2 n2 c2,.slice A3 n3 c3,.slice A4 n4 c4,.slice A5 n5 c5,.slice A6 n6 c6]] w (fun e w'=>e=.returned (.bool r)∧St w w' []):=by
 obtain rfl:=h1.len
 obtain rfl:=h2.len
 obtain rfl:=h3.len
 obtain rfl:=h4.len
 obtain rfl:=h5.len
 obtain rfl:=h6.len
 unfold m_impl_WorldValid at hM
 refine calls_gx Tryz.func35 Tryz.ntmps35 rfl rfl ?_
 intro a f
 have S:=St.nil w
 refine wsg ?_
 refine op_new (cs:=#[iv x0,.slice A1 x1.length c1,.slice A2 x2.length c2,.slice A3 x3.length c3,.slice A4 x4.length c4,.slice A5 x5.length c5,.slice A6 x6.length c6]) rfl rfl f rfl S (run_box rfl (f.ev rfl) rfl) ?_;clear f S;intro a g101 u f S
 revert a;refine ov rfl (fun a f=>run_assign rfl rfl) fun a f=>wn ?_
 refine ws ?_
 revert a;refine sr (ov rfl (fun a f=>run_fieldAddr rfl fl43_0 (f.ev rfl) rfl) (ov rfl (fun a f=>run_loadN rfl ag37 (f.ev rfl) rfl ((S.free 0 rfl).cells 0 #[iv x0,.slice A1 x1.length c1] rfl)) (ov rfl (fun a f=>run_fieldAddr rfl fl43_1 (f.ev rfl) rfl) (ov rfl (fun a f=>run_load1 rfl one38 (f.ev rfl) (S.cell 0 rfl rfl)) fun a f=>?_))))
 obtain ⟨p102,h102,hM⟩:=bind_ex hM
 refine op_call rfl rfl f rfl (run_call (vs:=[_,_]) rfl rfl co74 ⟨(f.ev rfl),(f.ev rfl),trivial⟩) (c_impl_BusesValid ⟨(S.rc0 h1.rc),rfl⟩ ⟨(S.rc0 h2.rc),rfl⟩ h102) ?_
 rintro e u ⟨rfl,T⟩
 refine ⟨_,rfl,?_⟩
 clear f;intro a f
 replace S:=S.call0 T;clear T
 revert a;refine ov rfl (fun a f=>run_not rfl (f.ev rfl)) (mv rfl rfl fun a f=>?_)
 revert a;refine gf rfl rfl rfl rfl (fun a f hg=>run_fieldAddr rfl fl43_2 (f.ev rfl) rfl) (gf rfl rfl rfl rfl (fun a f hg=>run_loadN rfl ag41 ((f.ev rfl).trans (gv_t hg)) rfl ((S.free 0 rfl).cells 3 #[.slice A3 x3.length c3,.slice A4 x4.length c4,.slice A5 x5.length c5] rfl)) fun a f=>?_)
 obtain ⟨p103,h103,hM⟩:=bind_ex hM
 refine op_gcall (v:=.bool p103) rfl rfl f rfl S (yf (gw_yield f rfl rfl rfl)) (fun hg=>(run_call (vs:=[.agg #[.slice A3 x3.length c3,.slice A4 x4.length c4,.slice A5 x5.length c5]]) rfl rfl co75 ⟨((f.ev rfl).trans (gv_t hg)),trivial⟩)) (fun hg=>c_impl_WorkValid (x0:=x3) (x1:=x4) (x2:=x5) ⟨(S.rc0 h3.rc),rfl⟩ ⟨(S.rc0 h4.rc),rfl⟩ ⟨(S.rc0 h5.rc),rfl⟩ (gb_t h103 hg)) ?_;clear f S;intro a u f S
 revert a;refine gf rfl rfl rfl rfl (fun a f hg=>run_not rfl ((f.ev rfl).trans (gv_t hg))) fun a f=>?_
 revert a;refine ov rfl (fun a f=>run_pick_or rfl (f.ev rfl) rfl (fun hp=>((f.ev rfl).trans (gv_t (not_t hp))))) (mv rfl rfl fun a f=>?_)
 revert a;refine gf rfl rfl rfl rfl (fun a f hg=>run_fieldAddr rfl fl43_2 (f.ev rfl) rfl) (gf rfl rfl rfl rfl (fun a f hg=>run_fieldAddr rfl fl41_0 ((f.ev rfl).trans (gv_t hg)) rfl) (gf rfl rfl rfl rfl (fun a f hg=>run_load1 rfl one26 ((f.ev rfl).trans (gv_t hg)) (S.cell 0 rfl rfl)) (gf rfl rfl rfl rfl (fun a f hg=>run_lenL rfl rfl Tryz.underlying26 ((f.ev rfl).trans (gv_t hg))) (gf rfl rfl rfl rfl (fun a f hg=>run_fieldAddr rfl fl43_0 (f.ev rfl) rfl) (gf rfl rfl rfl rfl (fun a f hg=>run_fieldAddr rfl fl37_1 ((f.ev rfl).trans (gv_t hg)) rfl) (gf rfl rfl rfl rfl (fun a f hg=>run_load1 rfl one35 ((f.ev rfl).trans (gv_t hg)) (S.cell 0 rfl rfl)) (gf rfl rfl rfl rfl (fun a f hg=>run_lenL rfl rfl Tryz.underlying35 ((f.ev rfl).trans (gv_t hg))) (gf rfl rfl rfl rfl (fun a f hg=>run_neq ((f.ev rfl).trans (gv_t hg)) ((f.ev rfl).trans (gv_t hg)) rfl) (ov rfl (fun a f=>run_pick_or rfl (f.ev rfl) rfl (fun hp=>((f.ev rfl).trans (gv_t (not_t hp))))) fun a f=>wn ?_)))))))))
 cases hc104:(((!p102)||(!p103))||((x3.length:Int) != (x1.length:Int)))
 ·replace hM:=bif_f hc104 hM
  refine cond_f f rfl hc104 ?_
  refine wp_skip ?_
  refine ws ?_
  revert a;refine sr (ov rfl (fun a f=>run_fieldAddr rfl fl43_3 (f.ev rfl) rfl) (ov rfl (fun a f=>run_load1 rfl one30 (f.ev rfl) (S.cell 0 rfl rfl)) (ov rfl (fun a f=>run_lenL rfl rfl Tryz.underlying30 (f.ev rfl)) (ov rfl (fun a f=>run_move rfl rfl) fun a f=>wn ?_))))
  obtain ⟨o106,hM107,hM⟩:=bind_ex hM
  refine wp_cut (fun a u=>∃ (p105:Unit),(Sum.inl p105)=o106∧Fr a 72 [(1,.pointer (some ⟨g101,0,none⟩)),(2,.bool false)]∧St w u [.box g101 43 #[iv x0,.slice A1 x1.length c1,.slice A2 x2.length c2,.slice A3 x3.length c3,.slice A4 x4.length c4,.slice A5 x5.length c5,.slice A6 x6.length c6]]) ?_ ?_
  ·have _:=trivial
   refine wp_block ?_
   refine loop_gw (fun m a u=>∃ (p108:Int),m_impl_WorldValid_l1 x0 x1 x3 x6 m p108=some _∧Fr a 72 [(1,.pointer (some ⟨g101,0,none⟩)),(2,.bool false),(29,.slice A6 x6.length c6),(30,iv (x6.length:Int)),(31,iv p108)]∧St w u [.box g101 43 #[iv x0,.slice A1 x1.length c1,.slice A2 x2.length c2,.slice A3 x3.length c3,.slice A4 x4.length c4,.slice A5 x5.length c5,.slice A6 x6.length c6]]) FUEL ⟨0,hM107,f.keep _ ⟨rfl,rfl,rfl,rfl,rfl,trivial⟩,S.sel [0] rfl rfl⟩ ?_
   clear f S hM107;rintro m a u ⟨p108,hM107,f,S⟩
   rcases m with _ | f1
   ·exact none_some hM107
   rw [m_impl_WorldValid_l1.eq_2] at hM107
   revert a;refine sr (ov rfl (fun a f=>run_lss (f.ev rfl) (f.ev rfl) rfl) fun a f=>wn ?_)
   refine ws ?_
   cases hc109:(ltB p108 (x6.length:Int))
   ·replace hM107:=bif_f hc109 hM107
    refine cond_f f rfl hc109 ?_
    refine wp_exit ?_
    repeat with_reducible first|apply then_exit|apply in_hit|refine in_miss rfl ?_
    obtain rfl:=Option.some.inj hM107
    exact ⟨(),rfl,f.keep _ ⟨rfl,rfl,trivial⟩,S.sel [0] rfl rfl⟩
   replace hM107:=bif_t hc109 hM107
   refine cond_t f rfl hc109 ?_
   refine wp_skip ?_
   refine ws ?_
   refine wp_block ?_
   revert a;refine sr (mv rfl rfl fun a f=>?_)
   obtain ⟨hk110,hM107⟩:=chk_ex hM107
   replace hk110:=ixB_t hk110
   revert a;refine ov rfl (fun a f=>run_ix rfl Tryz.underlying30 sz3 (f.ev rfl) (S.rc0 h6.rc) (f.ev rfl) hk110) (ov rfl (fun a f=>run_load1 rfl one3 (f.ev rfl) (rd_el0 (l:=x6) (S.rc0 h6.rc).rd rfl eI_len 0 (ix_ltn hk110 rfl) rfl)) (ag rfl rfl (ag rfl rfl fun a f=>wn ?_)))
   revert a;refine sr (ov rfl (fun a f=>run_fieldAddr rfl fl43_0 (f.ev rfl) rfl) (ov rfl (fun a f=>run_loadN rfl ag37 (f.ev rfl) rfl ((S.free 0 rfl).cells 0 #[iv x0,.slice A1 x1.length c1] rfl)) (mv rfl rfl fun a f=>?_)))
   obtain ⟨p111,h111,hM107⟩:=bind_ex hM107
   refine op_call rfl rfl f rfl (run_call (vs:=[_,_]) rfl rfl co59 ⟨(f.ev rfl),(f.ev rfl),trivial⟩) (c_impl_Net_hasLine ⟨(S.rc0 h1.rc),rfl⟩ h111) ?_
   rintro e u ⟨rfl,T⟩
   refine ⟨_,rfl,?_⟩
   clear f;intro a f
   replace S:=S.call0 T;clear T
   revert a;refine ov rfl (fun a f=>run_not rfl (f.ev rfl)) (mv rfl rfl fun a f=>?_)
   revert a;refine gf rfl rfl rfl rfl (fun a f hg=>run_fieldAddr rfl fl43_2 (f.ev rfl) rfl) (gf rfl rfl rfl rfl (fun a f hg=>run_fieldAddr rfl fl41_0 ((f.ev rfl).trans (gv_t hg)) rfl) (gf rfl rfl rfl rfl (fun a f hg=>run_load1 rfl one26 ((f.ev rfl).trans (gv_t hg)) (S.cell 0 rfl rfl)) (gf rfl rfl rfl rfl (fun a f hg=>run_move rfl (f.ev rfl)) fun a f=>?_)))
   obtain ⟨hk112,hM107⟩:=chk_ex hM107
   replace hk112:=fun hg=>ixB_t (imp_t hk112 hg)
   revert a;refine gf rfl rfl rfl rfl (fun a f hg=>run_ix rfl Tryz.underlying26 sz4 ((f.ev rfl).trans (gv_t hg)) (S.rc0 h3.rc) ((f.ev rfl).trans (gv_t hg)) (hk112 hg)) (gf rfl rfl rfl rfl (fun a f hg=>run_load1 rfl one4 ((f.ev rfl).trans (gv_t hg)) (rd_el0 (l:=x3) (S.rc0 h3.rc).rd rfl eB_len false (ix_ltn (hk112 hg) rfl) rfl)) fun a f=>?_)
   revert a;refine ov rfl (fun a f=>run_pick_or rfl (f.ev rfl) rfl (fun hp=>((f.ev rfl).trans (gv_t (not_t hp))))) (mv rfl rfl fun a f=>?_)
   revert a;refine gf rfl rfl rfl rfl (fun a f hg=>run_move rfl (f.ev rfl)) (gf rfl rfl rfl rfl (fun a f hg=>run_gtr ((f.ev rfl).trans (gv_t hg)) rfl rfl) (gf rfl rfl rfl rfl (fun a f hg=>run_move rfl ((f.ev rfl).trans (gv_t hg))) fun a f=>?_))
   refine op_gv (v:=iv (x6.getD p108.toNat 0)) rfl rfl f rfl (ytG (gw_yieldG f rfl rfl rfl)) (fun hg=>(run_move rfl (f.ev rfl))) ?_;clear f;intro a f
   refine op_gv (v:=.pointer (some ⟨g101,6,none⟩)) rfl rfl f rfl (ytG (gw_yieldG f rfl rfl rfl)) (fun hg=>(run_fieldAddr rfl fl43_3 (f.ev rfl) rfl)) ?_;clear f;intro a f
   refine op_gv (v:=.slice A6 x6.length c6) rfl rfl f rfl (ytG (gw_yieldG f rfl rfl rfl)) (fun hg=>(run_load1 rfl one30 ((f.ev rfl).trans (gv_t hg)) (S.cell 0 rfl rfl))) ?_;clear f;intro a f
   refine op_gv (v:=iv p108) rfl rfl f rfl (ytG (gw_yieldG f rfl rfl rfl)) (fun hg=>(run_move rfl (f.ev rfl))) ?_;clear f;intro a f
   refine op_gv (v:=iv (w64 (p108-1))) rfl rfl f rfl (ytG (gw_yieldG f rfl rfl rfl)) (fun hg=>(run_sub (z:=w64 (p108-1)) ((f.ev rfl).trans (gv_t hg)) rfl rfl rfl)) ?_;clear f;intro a f
   obtain ⟨hk113,hM107⟩:=chk_ex hM107
   replace hk113:=fun hg=>ixB_t (imp_t hk113 hg)
   refine op_gv (v:=.pointer (some ⟨adB A6,adO A6+((w64 (p108-1)).toNat)*1,none⟩)) rfl rfl f rfl (ytG (gw_yieldG f rfl rfl rfl)) (fun hg=>(run_ix rfl Tryz.underlying30 sz3 ((f.ev rfl).trans (gv_t hg)) (S.rc0 h6.rc) ((f.ev rfl).trans (gv_t hg)) (hk113 hg))) ?_;clear f;intro a f
   refine op_gv (v:=iv (x6.getD ((w64 (p108-1)).toNat) 0)) rfl rfl f rfl (ytG (gw_yieldG f rfl rfl rfl)) (fun hg=>(run_load1 rfl one3 ((f.ev rfl).trans (gv_t hg)) (rd_el0 (l:=x6) (S.rc0 h6.rc).rd rfl eI_len 0 (ix_ltn (hk113 hg) rfl) rfl))) ?_;clear f;intro a f
   refine op_gv (v:=.bool (leB (x6.getD p108.toNat 0) (x6.getD ((w64 (p108-1)).toNat) 0))) rfl rfl f rfl (ytG (gw_yieldG f rfl rfl rfl)) (fun hg=>(run_leq ((f.ev rfl).trans (gv_t hg)) ((f.ev rfl).trans (gv_t hg)) rfl)) ?_;clear f;intro a f
   revert a;refine gf rfl rfl rfl rfl (fun a f hg=>run_pick_and rfl ((f.ev rfl).trans (gv_t hg)) (fun hp=>((f.ev rfl).trans (gv_t (and_i hg hp)))) rfl) (ov rfl (fun a f=>run_pick_or rfl (f.ev rfl) rfl (fun hp=>((f.ev rfl).trans (gv_t (not_t hp))))) fun a f=>wn ?_)
   cases hc114:(((!p111)||(x3.getD ((x6.getD p108.toNat 0).toNat) false))||((ltB 0 p108)&&(leB (x6.getD p108.toNat 0) (x6.getD ((w64 (p108-1)).toNat) 0))))
   ·replace hM107:=bif_f hc114 hM107
    refine cond_f f rfl hc114 ?_
    refine wp_skip ?_
    revert a;refine rl (ov rfl (fun a f=>run_add (z:=w64 (p108+1)) (f.ev rfl) rfl rfl rfl) (mv rfl rfl fun a f=>wn ?_))
    exact ⟨f1,Nat.lt_succ_self _,w64 (p108+1),hM107,f.keep _ ⟨rfl,rfl,rfl,rfl,rfl,trivial⟩,S.sel [0] rfl rfl⟩
   replace hM107:=bif_t hc114 hM107
   refine cond_t f rfl hc114 ?_
   revert a;refine sr (ov rfl (fun a f=>run_assign rfl rfl) fun a f=>wn ?_)
   refine wp_ret ?_
   repeat with_reducible first|apply tr|apply ir|apply nr
   refine ret1_gw (.inl rfl) f rfl (res_tmp (f.ev rfl)) ?_
   obtain rfl:=Option.some.inj hM107
   obtain rfl:=Option.some.inj hM
   exact ⟨rfl,S.sel [] rfl rfl⟩
  rintro a u ⟨p105,rfl,f,S⟩
  replace hM:=elim_l hM
  revert a;refine sr (ov rfl (fun a f=>run_fieldAddr rfl fl43_0 (f.ev rfl) rfl) (ov rfl (fun a f=>run_loadN rfl ag37 (f.ev rfl) rfl ((S.free 0 rfl).cells 0 #[iv x0,.slice A1 x1.length c1] rfl)) (ov rfl (fun a f=>run_fieldAddr rfl fl43_2 (f.ev rfl) rfl) (ov rfl (fun a f=>run_fieldAddr rfl fl41_0 (f.ev rfl) rfl) (ov rfl (fun a f=>run_load1 rfl one26 (f.ev rfl) (S.cell 0 rfl rfl)) (ov rfl (fun a f=>run_fieldAddr rfl fl43_1 (f.ev rfl) rfl) (ov rfl (fun a f=>run_load1 rfl one38 (f.ev rfl) (S.cell 0 rfl rfl)) fun a f=>?_)))))))
  obtain ⟨p115,h115,hM⟩:=bind_ex hM
  refine op_call rfl rfl f rfl (run_call (vs:=[_,_,_]) rfl rfl co76 ⟨(f.ev rfl),(f.ev rfl),(f.ev rfl),trivial⟩) (c_impl_Radial ⟨(S.rc0 h1.rc),rfl⟩ ⟨(S.rc0 h3.rc),rfl⟩ ⟨(S.rc0 h2.rc),rfl⟩ h115) ?_
  rintro e u ⟨rfl,T⟩
  refine ⟨_,rfl,?_⟩
  clear f;intro a f
  replace S:=S.call0 T;clear T
  revert a;refine ag rfl rfl fun a f=>wn ?_
  refine wp_ret ?_
  refine ret1_gw (.inl rfl) f rfl (res_tmp (f.ev rfl)) ?_
  obtain rfl:=Option.some.inj hM
  exact ⟨rfl,S.sel [] rfl rfl⟩
 replace hM:=bif_t hc104 hM
 refine cond_t f rfl hc104 ?_
 revert a;refine sr (ov rfl (fun a f=>run_assign rfl rfl) fun a f=>wn ?_)
 refine wp_ret ?_
 repeat with_reducible first|apply tr|apply ir|apply nr
 refine ret1_gw (.inl rfl) f rfl (res_tmp (f.ev rfl)) ?_
 obtain rfl:=Option.some.inj hM
 exact ⟨rfl,S.sel [] rfl rfl⟩
theorem c_impl_Work_returns {x0:List Bool} {x1:List Bool} {x2:List (Int×Int)} {A0:Option Addr} {n0 c0:Nat} {A1:Option Addr} {n1 c1:Nat} {A2:Option Addr} {n2 c2:Nat} {w:World} {r:List (Int×Int×Int)} (h0:Rt w 1 eB A0 n0 c0 x0) (h1:Rt w 1 eB A1 n1 c1 x1) (h2:Rt w 2 ePermit A2 n2 c2 x2) (hM : m_impl_Work_returns x0 x1 x2=some r) :
  Calls Tryz.prog 42 #[.agg #[.slice A0 n0 c0,.slice A1 n1 c1,.slice A2 n2 c2]] w (fun e w'=>∃ (B0:Option Addr) (N0 D0:Nat),e=.returned (.slice B0 N0 D0)∧N0=r.length∧St w w' [.row 56 3 (.slice B0 N0 D0) N0 (r.flatMap eWorkDeed)]):=by
 obtain rfl:=h0.len
 obtain rfl:=h1.len
 obtain rfl:=h2.len
 unfold m_impl_Work_returns at hM
 refine calls_gx Tryz.func42 Tryz.ntmps42 rfl rfl ?_
 intro a f
 have S:=St.nil w
 refine wsg ?_
 refine op_new (cs:=#[.slice A0 x0.length c0,.slice A1 x1.length c1,.slice A2 x2.length c2]) rfl rfl f rfl S (run_box rfl (f.ev rfl) rfl) ?_;clear f S;intro a g101 u f S
 revert a;refine ov rfl (fun a f=>run_assign rfl rfl) fun a f=>wn ?_
 revert a;refine sr (ov rfl (fun a f=>run_assign rfl rfl) fun a f=>wn ?_)
 refine ws ?_
 revert a;refine sr (ov rfl (fun a f=>run_fieldAddr rfl fl41_2 (f.ev rfl) rfl) (ov rfl (fun a f=>run_load1 rfl one39 (f.ev rfl) (S.cell 0 rfl rfl)) (ov rfl (fun a f=>run_lenL rfl rfl Tryz.underlying39 (f.ev rfl)) (ov rfl (fun a f=>run_move rfl rfl) fun a f=>wn ?_))))
 obtain ⟨o103,hM106,hM⟩:=bind_ex hM
 refine wp_cut (fun a u=>∃ (p102:List (Int×Int×Int)) (B104:Option Addr) (d105:Nat),p102=o103∧Fr a 23 [(2,.slice none 0 0),(3,.slice B104 p102.length d105)]∧St w u [.row 56 3 (.slice B104 p102.length d105) p102.length (p102.flatMap eWorkDeed)]) ?_ ?_
 ·have _:=trivial
  refine wp_block ?_
  replace S:=S.nilrow 56 3
  refine loop_gw (fun m a u=>∃ (p107:List (Int×Int×Int)×Int) (B108:Option Addr) (d109:Nat),m_impl_Work_returns_l1 x2 m p107=some _∧Fr a 23 [(2,.slice none 0 0),(3,.slice B108 p107.1.length d109),(7,.slice A2 x2.length c2),(8,iv (x2.length:Int)),(9,iv p107.2)]∧St w u [.row 56 3 (.slice B108 p107.1.length d109) p107.1.length (p107.1.flatMap eWorkDeed)]) FUEL ⟨(([]:List (Int×Int×Int)),0),none,0,hM106,f.keep _ ⟨rfl,rfl,rfl,rfl,rfl,trivial⟩,S.sel [0] rfl rfl⟩ ?_
  clear f S hM106;rintro m a u ⟨p107,B108,d109,hM106,f,S⟩
  rcases m with _ | f1
  ·exact none_some hM106
  rw [m_impl_Work_returns_l1.eq_2] at hM106
  revert a;refine sr (ov rfl (fun a f=>run_lss (f.ev rfl) (f.ev rfl) rfl) fun a f=>wn ?_)
  refine ws ?_
  cases hc110:(ltB p107.2 (x2.length:Int))
  ·replace hM106:=bif_f hc110 hM106
   refine cond_f f rfl hc110 ?_
   refine wp_exit ?_
   repeat with_reducible first|apply then_exit|apply in_hit|refine in_miss rfl ?_
   obtain rfl:=Option.some.inj hM106
   exact ⟨p107.1,B108,d109,rfl,f.keep _ ⟨rfl,rfl,trivial⟩,S.sel [0] rfl rfl⟩
  replace hM106:=bif_t hc110 hM106
  refine cond_t f rfl hc110 ?_
  refine wp_skip ?_
  refine ws ?_
  refine wp_block ?_
  refine wsg ?_
  obtain ⟨hk111,hM106⟩:=chk_ex hM106
  replace hk111:=ixB_t hk111
  revert a;refine ov rfl (fun a f=>run_ix rfl Tryz.underlying39 sz78 (f.ev rfl) (S.rc0 h2.rc) (f.ev rfl) hk111) (ov rfl (fun a f=>run_loadN (cs:=#[iv ((x2.getD p107.2.toNat (0,0)).1),iv ((x2.getD p107.2.toNat (0,0)).2)]) rfl ag78 (f.ev rfl) rfl (rd_elN (l:=x2) (S.rc0 h2.rc).rd rfl ePermit_len (0,0) (ix_ltn hk111 rfl) rfl)) fun a f=>?_)
  refine op_new (cs:=#[iv 0,iv 0]) rfl rfl f rfl S (run_allocZ rfl zr78) ?_;clear f S;intro a g112 u f S
  refine op_do rfl rfl (run_store (cs':=#[iv ((x2.getD p107.2.toNat (0,0)).1),iv ((x2.getD p107.2.toNat (0,0)).2)]) rfl sz78 (f.ev rfl) (f.ev rfl) rfl rfl rfl (S.free 0 rfl) rfl rfl) ?_;replace S:=S.put 0 rfl (#[iv ((x2.getD p107.2.toNat (0,0)).1),iv ((x2.getD p107.2.toNat (0,0)).2)])
  generalize World.setRow _ _ _=u at S ⊢
  refine wn ?_
  revert a;refine rl (mv rfl rfl (ov rfl (fun a f=>run_fieldAddr rfl fl78_1 (f.ev rfl) rfl) (ov rfl (fun a f=>run_load1 rfl one3 (f.ev rfl) (S.cell 0 rfl rfl)) (ov rfl (fun a f=>run_fieldAddr rfl fl78_0 (f.ev rfl) rfl) (ov rfl (fun a f=>run_load1 rfl one3 (f.ev rfl) (S.cell 0 rfl rfl)) (ov rfl (fun a f=>run_build (vs:=[(0,iv 5),(1,iv ((x2.getD p107.2.toNat (0,0)).2)),(2,iv ((x2.getD p107.2.toNat (0,0)).1))]) rfl ⟨⟨rfl,rfl⟩,⟨rfl,(f.ev rfl)⟩,⟨rfl,(f.ev rfl)⟩,trivial⟩ (bd56_0_1_2 rfl rfl rfl)) fun a f=>?_))))))
  refine op_newrowL (ls:=(([(5,(x2.getD p107.2.toNat (0,0)).2,(x2.getD p107.2.toNat (0,0)).1)]:List (Int×Int×Int)):List (Int×Int×Int))) (e:=eWorkDeed) rfl rfl f rfl S (run_buildS (vs:=[(0,.agg #[iv 5,iv ((x2.getD p107.2.toNat (0,0)).2),iv ((x2.getD p107.2.toNat (0,0)).1)])]) rfl ⟨⟨rfl,(f.ev rfl)⟩,trivial⟩ (bs47_1_3 )) rfl eWorkDeed_len (Nat.le_of_ble_eq_true rfl) ?_;clear f S;intro a g113 u f S
  obtain ⟨hk116,hM106⟩:=chk_ex hM106
  replace hk116:=apB_t hk116
  refine op_appendL (lx:=p107.1) (ly:=([(5,(x2.getD p107.2.toNat (0,0)).2,(x2.getD p107.2.toNat (0,0)).1)]:List (Int×Int×Int))) rfl rfl f rfl S rfl (f.ev rfl) (f.ev rfl) (i:=2) rfl rfl Tryz.underlying47 inf56 rfl (by decide) (S.rc 0 rfl).rd rfl eWorkDeed_one hk116 (by decide) ?_;clear f S;intro a B114 d115 u f S
  revert a;refine ag rfl rfl fun a f=>wn ?_
  revert a;refine rl (ov rfl (fun a f=>run_add (z:=w64 (p107.2+1)) (f.ev rfl) rfl rfl rfl) (mv rfl rfl fun a f=>wn ?_))
  exact ⟨f1,Nat.lt_succ_self _,(p107.1++([(5,(x2.getD p107.2.toNat (0,0)).2,(x2.getD p107.2.toNat (0,0)).1)]:List (Int×Int×Int)),w64 (p107.2+1)),B114,d115,hM106,f.keep _ ⟨rfl,rfl,rfl,rfl,rfl,trivial⟩,S.sel [2] rfl rfl⟩
 rintro a u ⟨p102,B104,d105,rfl,f,S⟩
 revert a;refine sr (mv rfl rfl (ag rfl rfl fun a f=>wn ?_))
 refine wp_ret ?_
 refine ret1_gw (.inl rfl) f rfl (res_tmp (f.ev rfl)) ?_
 obtain rfl:=Option.some.inj hM
 exact ⟨B104,p102.length,d105,rfl,rfl,S.sel [0] rfl rfl⟩
theorem c_slices_Clone_bool_bool {x0:List Bool} {A0:Option Addr} {n0 c0:Nat} {w:World} {r:List Bool} (h0:Rt w 1 eB A0 n0 c0 x0) (hM : m_slices_Clone_bool_bool x0=some r) :
  Calls Tryz.prog 43 #[.slice A0 n0 c0] w (fun e w'=>∃ (B0:Option Addr) (N0 D0:Nat),e=.returned (.slice B0 N0 D0)∧N0=r.length∧St w w' [.row 4 1 (.slice B0 N0 D0) N0 (r.flatMap eB)]):=by
 obtain rfl:=h0.len
 unfold m_slices_Clone_bool_bool at hM
 obtain ⟨hk,hM⟩:=chk_ex hM
 replace hk:=apB_t hk
 obtain rfl:=Option.some.inj hM
 refine calls_gx Tryz.func43 Tryz.ntmps43 rfl rfl ?_
 intro a f
 have S:=St.nil w
 revert a;refine sr (ov rfl (fun a f=>run_assign rfl rfl) fun a f=>wn ?_)
 refine ws ?_
 revert a;refine sr (mv rfl rfl (ov rfl (fun a f=>run_eqlNil rfl Tryz.underlying26 (f.ev rfl) rfl) fun a f=>wn ?_))
 cases hc101:(Option.isNone A0)
 ·have hx:=trivial
  refine cond_f f rfl hc101 ?_
  refine wp_skip ?_
  refine wsg ?_
  refine op_newrow (cs:=#[]) (size:=1) rfl rfl f rfl S (run_buildSlice0 rfl Tryz.underlying26 (congrArg Option.isSome sz4)) rfl (Nat.zero_le _) ?_;clear f S;intro a g102 u f S
  revert a;refine mv rfl rfl fun a f=>?_
  have hk105:=hk
  refine op_appendL (lx:=[]) (ly:=x0) rfl rfl f rfl S rfl (f.ev rfl) (f.ev rfl) (i:=0) rfl rfl Tryz.underlying26 inf4 rfl (by decide) (S.rc0 h0.rc).rd rfl eB_one hk105 (by decide) ?_;clear f S;intro a B103 d104 u f S
  revert a;refine ag rfl rfl fun a f=>wn ?_
  refine wp_ret ?_
  refine ret1_gw (.inl rfl) f rfl (res_tmp (f.ev rfl)) ?_
  exact ⟨B103,((([]:List Bool)++x0).length),d104,rfl,rfl,S.sel [0] rfl rfl⟩
 have hx:=nil_none h0.rc.rd rfl hc101
 refine cond_t f rfl hc101 ?_
 revert a;refine sr (ov rfl (fun a f=>run_assign rfl rfl) fun a f=>wn ?_)
 refine wp_ret ?_
 repeat with_reducible first|apply tr|apply ir|apply nr
 refine ret1_gw (.inl rfl) f rfl (res_tmp (f.ev rfl)) ?_
 subst hx
 replace S:=S.nilrow 4 1
 exact ⟨none,0,0,rfl,rfl,S.sel [0] rfl rfl⟩
theorem c_impl_deedsFor {x0:Int} {x1:List Bool} {x2:Bool} {A1:Option Addr} {n1 c1:Nat} {w:World} {r:List (Int×Int×Int)} (h1:Rt w 1 eB A1 n1 c1 x1) (hM : m_impl_deedsFor x0 x1 x2=some r) :
  Calls Tryz.prog 44 #[iv x0,.slice A1 n1 c1,.bool x2] w (fun e w'=>∃ (B0:Option Addr) (N0 D0:Nat),e=.returned (.slice B0 N0 D0)∧N0=r.length∧St w w' [.row 56 3 (.slice B0 N0 D0) N0 (r.flatMap eWorkDeed)]):=by
 obtain rfl:=h1.len
 unfold m_impl_deedsFor at hM
 refine calls_gx Tryz.func44 Tryz.ntmps44 rfl rfl ?_
 intro a f
 have S:=St.nil w
 revert a;refine sr (ov rfl (fun a f=>run_assign rfl rfl) fun a f=>wn ?_)
 revert a;refine sr (ov rfl (fun a f=>run_assign rfl rfl) fun a f=>wn ?_)
 refine ws ?_
 revert a;refine sr (mv rfl rfl (ov rfl (fun a f=>run_lenL rfl rfl Tryz.underlying26 (f.ev rfl)) (ov rfl (fun a f=>run_move rfl rfl) fun a f=>wn ?_)))
 obtain ⟨o102,hM105,hM⟩:=bind_ex hM
 refine wp_cut (fun a u=>∃ (p101:List (Int×Int×Int)) (B103:Option Addr) (d104:Nat),p101=o102∧Fr a 28 [(6,.slice none 0 0),(7,.slice B103 p101.length d104)]∧St w u [.row 56 3 (.slice B103 p101.length d104) p101.length (p101.flatMap eWorkDeed)]) ?_ ?_
 ·have _:=trivial
  refine wp_block ?_
  replace S:=S.nilrow 56 3
  refine loop_gw (fun m a u=>∃ (p106:List (Int×Int×Int)×Int) (B107:Option Addr) (d108:Nat),m_impl_deedsFor_l1 x0 x1 x2 m p106=some _∧Fr a 28 [(0,iv x0),(2,.bool x2),(6,.slice none 0 0),(7,.slice B107 p106.1.length d108),(10,.slice A1 x1.length c1),(11,iv (x1.length:Int)),(12,iv p106.2)]∧St w u [.row 56 3 (.slice B107 p106.1.length d108) p106.1.length (p106.1.flatMap eWorkDeed)]) FUEL ⟨(([]:List (Int×Int×Int)),0),none,0,hM105,f.keep _ ⟨rfl,rfl,rfl,rfl,rfl,rfl,rfl,trivial⟩,S.sel [0] rfl rfl⟩ ?_
  clear f S hM105;rintro m a u ⟨p106,B107,d108,hM105,f,S⟩
  rcases m with _ | f1
  ·exact none_some hM105
  rw [m_impl_deedsFor_l1.eq_2] at hM105
  revert a;refine sr (ov rfl (fun a f=>run_lss (f.ev rfl) (f.ev rfl) rfl) fun a f=>wn ?_)
  refine ws ?_
  cases hc109:(ltB p106.2 (x1.length:Int))
  ·replace hM105:=bif_f hc109 hM105
   refine cond_f f rfl hc109 ?_
   refine wp_exit ?_
   repeat with_reducible first|apply then_exit|apply in_hit|refine in_miss rfl ?_
   obtain rfl:=Option.some.inj hM105
   exact ⟨p106.1,B107,d108,rfl,f.keep _ ⟨rfl,rfl,trivial⟩,S.sel [0] rfl rfl⟩
  replace hM105:=bif_t hc109 hM105
  refine cond_t f rfl hc109 ?_
  refine wp_skip ?_
  refine ws ?_
  refine wp_block ?_
  revert a;refine sr (mv rfl rfl fun a f=>?_)
  obtain ⟨hk110,hM105⟩:=chk_ex hM105
  replace hk110:=ixB_t hk110
  revert a;refine ov rfl (fun a f=>run_ix rfl Tryz.underlying26 sz4 (f.ev rfl) (S.rc0 h1.rc) (f.ev rfl) hk110) (ov rfl (fun a f=>run_load1 rfl one4 (f.ev rfl) (rd_el0 (l:=x1) (S.rc0 h1.rc).rd rfl eB_len false (ix_ltn hk110 rfl) rfl)) (ag rfl rfl (ag rfl rfl fun a f=>wn ?_)))
  revert a;refine sr (mv rfl rfl (mv rfl rfl (ov rfl (fun a f=>run_eqlB (f.ev rfl) (f.ev rfl) Tryz.underlying4 rfl) fun a f=>wn ?_)))
  obtain ⟨o112,hM115,hM105⟩:=bind_ex hM105
  refine wp_cut (fun a u=>∃ (p111:List (Int×Int×Int)) (B113:Option Addr) (d114:Nat),p111=o112∧Fr a 28 [(0,iv x0),(2,.bool x2),(6,.slice none 0 0),(7,.slice B113 p111.length d114),(10,.slice A1 x1.length c1),(11,iv (x1.length:Int)),(12,iv p106.2)]∧St w u [.row 56 3 (.slice B113 p111.length d114) p111.length (p111.flatMap eWorkDeed)]) ?_ ?_
  ·have _:=trivial
   cases hc116:((x1.getD p106.2.toNat false)==x2)
   ·replace hM115:=bif_f hc116 hM115
    refine cond_f f rfl hc116 ?_
    refine wp_skip ?_
    obtain rfl:=Option.some.inj hM115
    exact ⟨p106.1,B107,d108,rfl,f.keep _ ⟨rfl,rfl,rfl,rfl,rfl,rfl,rfl,trivial⟩,S.sel [0] rfl rfl⟩
   replace hM115:=bif_t hc116 hM115
   refine cond_t f rfl hc116 ?_
   revert a;refine rl (mv rfl rfl (mv rfl rfl (mv rfl rfl (ov rfl (fun a f=>run_build (vs:=[(0,iv x0),(1,iv p106.2)]) rfl ⟨⟨rfl,(f.ev rfl)⟩,⟨rfl,(f.ev rfl)⟩,trivial⟩ (bd56_0_1 rfl rfl)) fun a f=>?_))))
   refine op_newrowL (ls:=(([(x0,p106.2,0)]:List (Int×Int×Int)):List (Int×Int×Int))) (e:=eWorkDeed) rfl rfl f rfl S (run_buildS (vs:=[(0,.agg #[iv x0,iv p106.2,iv 0])]) rfl ⟨⟨rfl,(f.ev rfl)⟩,trivial⟩ (bs47_1_3 )) rfl eWorkDeed_len (Nat.le_of_ble_eq_true rfl) ?_;clear f S;intro a g117 u f S
   obtain ⟨hk120,hM115⟩:=chk_ex hM115
   replace hk120:=apB_t hk120
   refine op_appendL (lx:=p106.1) (ly:=([(x0,p106.2,0)]:List (Int×Int×Int))) rfl rfl f rfl S rfl (f.ev rfl) (f.ev rfl) (i:=1) rfl rfl Tryz.underlying47 inf56 rfl (by decide) (S.rc 0 rfl).rd rfl eWorkDeed_one hk120 (by decide) ?_;clear f S;intro a B118 d119 u f S
   revert a;refine ag rfl rfl fun a f=>wn ?_
   obtain rfl:=Option.some.inj hM115
   exact ⟨p106.1++([(x0,p106.2,0)]:List (Int×Int×Int)),B118,d119,rfl,f.keep _ ⟨rfl,rfl,rfl,rfl,rfl,rfl,rfl,trivial⟩,S.sel [1] rfl rfl⟩
  rintro a u ⟨p111,B113,d114,rfl,f,S⟩
  revert a;refine rl (ov rfl (fun a f=>run_add (z:=w64 (p106.2+1)) (f.ev rfl) rfl rfl rfl) (mv rfl rfl fun a f=>wn ?_))
  exact ⟨f1,Nat.lt_succ_self _,(p111,w64 (p106.2+1)),B113,d114,hM105,f.keep _ ⟨rfl,rfl,rfl,rfl,rfl,rfl,rfl,trivial⟩,S.sel [0] rfl rfl⟩
 rintro a u ⟨p101,B103,d104,rfl,f,S⟩
 revert a;refine sr (mv rfl rfl (ag rfl rfl fun a f=>wn ?_))
 refine wp_ret ?_
 refine ret1_gw (.inl rfl) f rfl (res_tmp (f.ev rfl)) ?_
 obtain rfl:=Option.some.inj hM
 exact ⟨B103,p101.length,d104,rfl,rfl,S.sel [0] rfl rfl⟩
theorem c_impl_stateOf {x0:Int} {x1:Int} {w:World} {r:List Bool}  (hM : m_impl_stateOf x0 x1=some r) :
  Calls Tryz.prog 120 #[iv x0,iv x1] w (fun e w'=>∃ (B0:Option Addr) (N0 D0:Nat),e=.returned (.slice B0 N0 D0)∧N0=r.length∧St w w' [.row 4 1 (.slice B0 N0 D0) N0 (r.flatMap eB)]):=by
 unfold m_impl_stateOf at hM
 refine calls_gx Tryz.func120 Tryz.ntmps120 rfl rfl ?_
 intro a f
 have S:=St.nil w
 revert a;refine sr (ov rfl (fun a f=>run_assign rfl rfl) fun a f=>wn ?_)
 revert a;refine sr (mv rfl rfl fun a f=>?_)
 obtain ⟨hk102,hM⟩:=chk_ex hM
 replace hk102:=mkB_t hk102
 refine op_newrowL (m:=x1.toNat) (ls:=List.replicate x1.toNat false) (e:=eB) rfl rfl f rfl S (run_makeL rfl (f.ev rfl) (f.ev rfl) Tryz.underlying26 inf4 eB_len rfl (by decide) hk102) List.length_replicate eB_len (by rw [List.length_replicate];omega) ?_;clear f S;intro a g101 u f S
 revert a;refine ag rfl rfl fun a f=>wn ?_
 refine ws ?_
 revert a;refine sr (mv rfl rfl (ov rfl (fun a f=>run_lenL rfl rfl Tryz.underlying26 (f.ev rfl)) (ov rfl (fun a f=>run_move rfl rfl) fun a f=>wn ?_)))
 obtain ⟨o104,hM106,hM⟩:=bind_ex hM
 refine wp_cut (fun a u=>∃ (p103:List Bool),p103=o104∧x1.toNat=p103.length∧Fr a 24 [(4,.slice none 0 0),(5,.slice (some ⟨g101,0,none⟩) x1.toNat x1.toNat)]∧St w u [.row 4 1 (.slice (some ⟨g101,0,none⟩) x1.toNat x1.toNat) x1.toNat (p103.flatMap eB)]) ?_ ?_
 ·have _:=trivial
  refine wp_block ?_
  refine loop_gw (fun m a u=>∃ (p107:List Bool×Int),m_impl_stateOf_l1 x0 x1 m p107=some _∧x1.toNat=p107.1.length∧Fr a 24 [(0,iv x0),(4,.slice none 0 0),(5,.slice (some ⟨g101,0,none⟩) x1.toNat x1.toNat),(10,iv (x1.toNat:Int)),(11,iv p107.2)]∧St w u [.row 4 1 (.slice (some ⟨g101,0,none⟩) x1.toNat x1.toNat) x1.toNat (p107.1.flatMap eB)]) FUEL ⟨(List.replicate x1.toNat false,0),hM106,List.length_replicate.symm,f.keep _ ⟨rfl,rfl,rfl,rfl,rfl,trivial⟩,S.sel [0] rfl rfl⟩ ?_
  clear f S hM106;rintro m a u ⟨p107,hM106,hn108,f,S⟩
  rcases m with _ | f1
  ·exact none_some hM106
  rw [m_impl_stateOf_l1.eq_2] at hM106
  revert a;refine sr (ov rfl (fun a f=>run_lss (f.ev rfl) (f.ev rfl) rfl) fun a f=>wn ?_)
  refine ws ?_
  cases hc109:(ltB p107.2 (x1.toNat:Int))
  ·replace hM106:=bif_f hc109 hM106
   refine cond_f f rfl hc109 ?_
   refine wp_exit ?_
   repeat with_reducible first|apply then_exit|apply in_hit|refine in_miss rfl ?_
   obtain rfl:=Option.some.inj hM106
   exact ⟨p107.1,rfl,hn108,f.keep _ ⟨rfl,rfl,trivial⟩,S.sel [0] rfl rfl⟩
  replace hM106:=bif_t hc109 hM106
  refine cond_t f rfl hc109 ?_
  refine wp_skip ?_
  refine ws ?_
  refine wp_block ?_
  revert a;refine sr (mv rfl rfl (ag rfl rfl fun a f=>wn ?_))
  revert a;refine rl (mv rfl rfl (mv rfl rfl (mv rfl rfl (mv rfl rfl fun a f=>?_))))
  obtain ⟨hk110,hM106⟩:=chk_ex hM106
  replace hk110:=nnB_t hk110
  revert a;refine ov rfl (fun a f=>run_shr (f.ev rfl) (f.ev rfl) rfl hk110) (ov rfl (fun a f=>run_band (f.ev rfl) rfl rfl) (ov rfl (fun a f=>run_eql (f.ev rfl) rfl rfl) fun a f=>?_))
  obtain ⟨hk111,hM106⟩:=chk_ex hM106
  replace hk111:=ixB_t hk111
  revert a;refine ov rfl (fun a f=>run_indexAddr (b:=adB (some ⟨g101,0,none⟩)) (off:=adO (some ⟨g101,0,none⟩)) rfl Tryz.underlying26 sz4 ((f.ev rfl).trans (congrArg (fun A=>Value.slice A x1.toNat x1.toNat) ((S.rc 0 rfl).rd.ad (ix_pos hk111)))) (f.ev rfl) hk111.1 hk111.2 (k':=adO (some ⟨g101,0,none⟩)+p107.2.toNat*1) rfl) fun a f=>?_
  obtain ⟨w',hrun,S'⟩:=run_storeElN (P:=Tryz.prog) (ρ:=a.eval) (y0:=(bitsAnd .i64 (bitsShr .i64 x0 p107.2) 1)==1) (off:=0) S 4 (.tmp 21) (.tmp 20) (i:=0) sz4 (f.ev rfl) (f.ev rfl) rfl rfl rfl rfl hn108 eB_len false (ix_ltn hk111 hn108) rfl rfl
  refine op_do rfl rfl (hrun _ rfl) ?_;clear hrun S;have S:=S';clear S';generalize w'=u at S ⊢
  refine wn ?_
  revert a;refine rl (ov rfl (fun a f=>run_add (z:=w64 (p107.2+1)) (f.ev rfl) rfl rfl rfl) (mv rfl rfl fun a f=>wn ?_))
  exact ⟨f1,Nat.lt_succ_self _,(p107.1.set p107.2.toNat ((bitsAnd .i64 (bitsShr .i64 x0 p107.2) 1)==1),w64 (p107.2+1)),hM106,(len_set hn108),f.keep _ ⟨rfl,rfl,rfl,rfl,rfl,trivial⟩,S.sel [0] rfl rfl⟩
 rintro a u ⟨p103,rfl,hn105,f,S⟩
 revert a;refine sr (mv rfl rfl (ag rfl rfl fun a f=>wn ?_))
 refine wp_ret ?_
 refine ret1_gw (.inl rfl) f rfl (res_tmp (f.ev rfl)) ?_
 obtain rfl:=Option.some.inj hM
 exact ⟨(some ⟨g101,0,none⟩),x1.toNat,x1.toNat,rfl,hn105,S.sel [0] rfl rfl⟩
theorem c_impl_unionOf {x0:Int} {x1:List (Int×Int×Int)} {x2:List Bool} {A1:Option Addr} {n1 c1:Nat} {A2:Option Addr} {n2 c2:Nat} {w:World} {r:List Int} (h1:Rt w 3 eLine A1 n1 c1 x1) (h2:Rt w 1 eB A2 n2 c2 x2) (hM : m_impl_unionOf x0 x1 x2=some r) :
  Calls Tryz.prog 155 #[.agg #[iv x0,.slice A1 n1 c1],.slice A2 n2 c2] w (fun e w'=>∃ (B0:Option Addr) (N0 D0:Nat),e=.returned (.slice B0 N0 D0)∧N0=r.length∧St w w' [.row 3 1 (.slice B0 N0 D0) N0 (r.flatMap eI)]):=by
 obtain rfl:=h1.len
 obtain rfl:=h2.len
 unfold m_impl_unionOf at hM
 refine calls_gx Tryz.func155 Tryz.ntmps155 rfl rfl ?_
 intro a f
 have S:=St.nil w
 refine wsg ?_
 refine op_new (cs:=#[iv x0,.slice A1 x1.length c1]) rfl rfl f rfl S (run_box rfl (f.ev rfl) rfl) ?_;clear f S;intro a g101 u f S
 revert a;refine ov rfl (fun a f=>run_assign rfl rfl) fun a f=>wn ?_
 revert a;refine sr (ov rfl (fun a f=>run_fieldAddr rfl fl37_0 (f.ev rfl) rfl) (ov rfl (fun a f=>run_load1 rfl one3 (f.ev rfl) (S.cell 0 rfl rfl)) fun a f=>?_))
 obtain ⟨p102,h102,hM⟩:=bind_ex hM
 refine op_call rfl rfl f rfl (run_call (vs:=[_]) rfl rfl co150 ⟨(f.ev rfl),trivial⟩) (c_impl_newUnion  h102) ?_
 rintro e u ⟨B103,n104,d105,rfl,rfl,T⟩
 refine ⟨_,rfl,?_⟩
 clear f;intro a f
 replace S:=S.call1 T;clear T
 revert a;refine ag rfl rfl fun a f=>wn ?_
 refine ws ?_
 revert a;refine sr (ov rfl (fun a f=>run_fieldAddr rfl fl37_1 (f.ev rfl) rfl) (ov rfl (fun a f=>run_load1 rfl one35 (f.ev rfl) (S.cell 1 rfl rfl)) (ov rfl (fun a f=>run_lenL rfl rfl Tryz.underlying35 (f.ev rfl)) (ov rfl (fun a f=>run_move rfl rfl) fun a f=>wn ?_))))
 obtain ⟨o107,hM109,hM⟩:=bind_ex hM
 refine wp_cut (fun a u=>∃ (p106:List Int),p106=o107∧p102.length=p106.length∧Fr a 31 [(4,.slice none 0 0),(5,.slice B103 p102.length d105)]∧St w u [.row 3 1 (.slice B103 p102.length d105) p102.length (p106.flatMap eI)]) ?_ ?_
 ·have _:=trivial
  refine wp_block ?_
  refine loop_gw (fun m a u=>∃ (p110:List Int×Int),m_impl_unionOf_l1 x1 x2 m p110=some _∧p102.length=p110.1.length∧Fr a 31 [(1,.slice A2 x2.length c2),(4,.slice none 0 0),(5,.slice B103 p102.length d105),(12,.slice A1 x1.length c1),(13,iv (x1.length:Int)),(14,iv p110.2)]∧St w u [.row 3 1 (.slice B103 p102.length d105) p102.length (p110.1.flatMap eI)]) FUEL ⟨(p102,0),hM109,rfl,f.keep _ ⟨rfl,rfl,rfl,rfl,rfl,rfl,trivial⟩,S.sel [0] rfl rfl⟩ ?_
  clear f S hM109;rintro m a u ⟨p110,hM109,hn111,f,S⟩
  rcases m with _ | f1
  ·exact none_some hM109
  rw [m_impl_unionOf_l1.eq_2] at hM109
  revert a;refine sr (ov rfl (fun a f=>run_lss (f.ev rfl) (f.ev rfl) rfl) fun a f=>wn ?_)
  refine ws ?_
  cases hc112:(ltB p110.2 (x1.length:Int))
  ·replace hM109:=bif_f hc112 hM109
   refine cond_f f rfl hc112 ?_
   refine wp_exit ?_
   repeat with_reducible first|apply then_exit|apply in_hit|refine in_miss rfl ?_
   obtain rfl:=Option.some.inj hM109
   exact ⟨p110.1,rfl,hn111,f.keep _ ⟨rfl,rfl,trivial⟩,S.sel [0] rfl rfl⟩
  replace hM109:=bif_t hc112 hM109
  refine cond_t f rfl hc112 ?_
  refine wp_skip ?_
  refine ws ?_
  refine wp_block ?_
  revert a;refine sr (mv rfl rfl fun a f=>?_)
  obtain ⟨hk113,hM109⟩:=chk_ex hM109
  replace hk113:=ixB_t hk113
  revert a;refine ov rfl (fun a f=>run_ix rfl Tryz.underlying35 sz130 (f.ev rfl) (S.rc0 h1.rc) (f.ev rfl) hk113) (ov rfl (fun a f=>run_loadN (cs:=#[iv ((x1.getD p110.2.toNat (0,0,0)).1),iv ((x1.getD p110.2.toNat (0,0,0)).2.1),iv ((x1.getD p110.2.toNat (0,0,0)).2.2)]) rfl ag130 (f.ev rfl) rfl (rd_elN (l:=x1) (S.rc0 h1.rc).rd rfl eLine_len (0,0,0) (ix_ltn hk113 rfl) rfl)) fun a f=>?_)
  refine op_new (cs:=#[iv 0,iv 0,iv 0]) rfl rfl f rfl S (run_allocZ rfl zr130) ?_;clear f S;intro a g114 u f S
  revert a;refine ag rfl rfl fun a f=>?_
  refine op_do rfl rfl (run_store (cs':=#[iv ((x1.getD p110.2.toNat (0,0,0)).1),iv ((x1.getD p110.2.toNat (0,0,0)).2.1),iv ((x1.getD p110.2.toNat (0,0,0)).2.2)]) rfl sz130 (f.ev rfl) (f.ev rfl) rfl rfl rfl (S.free 0 rfl) rfl rfl) ?_;replace S:=S.put 0 rfl (#[iv ((x1.getD p110.2.toNat (0,0,0)).1),iv ((x1.getD p110.2.toNat (0,0,0)).2.1),iv ((x1.getD p110.2.toNat (0,0,0)).2.2)])
  generalize World.setRow _ _ _=u at S ⊢
  refine wn ?_
  revert a;refine sr (mv rfl rfl (mv rfl rfl fun a f=>?_))
  obtain ⟨hk115,hM109⟩:=chk_ex hM109
  replace hk115:=ixB_t hk115
  revert a;refine ov rfl (fun a f=>run_ix rfl Tryz.underlying26 sz4 (f.ev rfl) (S.rc0 h2.rc) (f.ev rfl) hk115) (ov rfl (fun a f=>run_load1 rfl one4 (f.ev rfl) (rd_el0 (l:=x2) (S.rc0 h2.rc).rd rfl eB_len false (ix_ltn hk115 rfl) rfl)) fun a f=>wn ?_)
  obtain ⟨o117,hM119,hM109⟩:=bind_ex hM109
  refine wp_cut (fun a u=>∃ (p116:List Int),p116=o117∧p102.length=p116.length∧Fr a 31 [(1,.slice A2 x2.length c2),(4,.slice none 0 0),(5,.slice B103 p102.length d105),(12,.slice A1 x1.length c1),(13,iv (x1.length:Int)),(14,iv p110.2)]∧St w u [.row 3 1 (.slice B103 p102.length d105) p102.length (p116.flatMap eI)]) ?_ ?_
  ·have _:=trivial
   cases hc120:(x2.getD p110.2.toNat false)
   ·replace hM119:=bif_f hc120 hM119
    refine cond_f f rfl hc120 ?_
    refine wp_skip ?_
    obtain rfl:=Option.some.inj hM119
    exact ⟨p110.1,rfl,hn111,f.keep _ ⟨rfl,rfl,rfl,rfl,rfl,rfl,trivial⟩,S.sel [1] rfl rfl⟩
   replace hM119:=bif_t hc120 hM119
   refine cond_t f rfl hc120 ?_
   revert a;refine rl (mv rfl rfl (ov rfl (fun a f=>run_fieldAddr rfl fl130_0 (f.ev rfl) rfl) (ov rfl (fun a f=>run_load1 rfl one3 (f.ev rfl) (S.cell 0 rfl rfl)) (ov rfl (fun a f=>run_fieldAddr rfl fl130_1 (f.ev rfl) rfl) (ov rfl (fun a f=>run_load1 rfl one3 (f.ev rfl) (S.cell 0 rfl rfl)) fun a f=>?_)))))
   obtain ⟨p121,h121,hM119⟩:=bind_ex hM119
   refine op_call rfl rfl f rfl (run_call (vs:=[_,_,_]) rfl rfl co152 ⟨(f.ev rfl),(f.ev rfl),(f.ev rfl),trivial⟩) (c_impl_union_join hn111 (show St w _ [.row 3 1 (.slice B103 p102.length d105) p102.length (p110.1.flatMap eI),.box g114 130 #[iv ((x1.getD p110.2.toNat (0,0,0)).1),iv ((x1.getD p110.2.toNat (0,0,0)).2.1),iv ((x1.getD p110.2.toNat (0,0,0)).2.2)]] from S.sel [1,0] rfl rfl) h121) ?_
   rintro e u ⟨rfl,hn122,T⟩
   refine ⟨_,rfl,?_⟩
   clear f;intro a f
   clear S;have S:=T;clear T
   refine wn ?_
   obtain rfl:=Option.some.inj hM119
   exact ⟨p121,rfl,hn122,f.keep _ ⟨rfl,rfl,rfl,rfl,rfl,rfl,trivial⟩,S.sel [0] rfl rfl⟩
  rintro a u ⟨p116,rfl,hn118,f,S⟩
  revert a;refine rl (ov rfl (fun a f=>run_add (z:=w64 (p110.2+1)) (f.ev rfl) rfl rfl rfl) (mv rfl rfl fun a f=>wn ?_))
  exact ⟨f1,Nat.lt_succ_self _,(p116,w64 (p110.2+1)),hM109,hn118,f.keep _ ⟨rfl,rfl,rfl,rfl,rfl,rfl,trivial⟩,S.sel [0] rfl rfl⟩
 rintro a u ⟨p106,rfl,hn108,f,S⟩
 revert a;refine sr (mv rfl rfl (ag rfl rfl fun a f=>wn ?_))
 refine wp_ret ?_
 refine ret1_gw (.inl rfl) f rfl (res_tmp (f.ev rfl)) ?_
 obtain rfl:=Option.some.inj hM
 exact ⟨B103,p102.length,d105,rfl,hn108,S.sel [0] rfl rfl⟩
end Go.Proofs.YtcmnjaccapbhfaaGreat
