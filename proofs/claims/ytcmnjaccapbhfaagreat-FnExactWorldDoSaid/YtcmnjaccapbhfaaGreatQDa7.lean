/- Calls return what the models say. -/
import Derived.Test.YtcmnjaccapbhfaaGreatQSq
import Derived.Test.YtcmnjaccapbhfaaGreatQDa6
namespace Go.Proofs.YtcmnjaccapbhfaaGreat
open Go.ChangeShapes Go.WideShapes Go.ChangeAt Go.RowKit
set_option linter.unusedVariables false
set_option maxHeartbeats 4000000
set_option linter.unusedSimpArgs false
theorem c_laws_markBusS {x0:List (Int×Int)} {x1:Int} {A0:Option Addr} {n0 c0:Nat} {w:World} {r:Int×List (Int×Int)} {w0:World} {X:List Asn} (h0 : n0=x0.length) (S:St w0 w (Asn.row 110 2 (.slice A0 n0 c0) n0 (x0.flatMap eBus) :: X)) (hM : m_laws_markBusS x0 x1=some r) :
  Calls Tryz.prog 48 #[.slice A0 n0 c0,iv x1] w (fun e w'=>e=.returned (iv r.1)∧n0=r.2.length∧St w0 w' (Asn.row 110 2 (.slice A0 n0 c0) n0 (r.2.flatMap eBus) :: X)):=by
 obtain rfl:=h0
 unfold m_laws_markBusS at hM
 refine calls_gx Tryz.func48 Tryz.ntmps48 rfl rfl ?_
 intro a f
 revert a;refine sr (ov rfl (fun a f=>run_assign rfl rfl) fun a f=>wn ?_)
 refine ws ?_
 revert a;refine sr (ov rfl (fun a f=>run_assign rfl rfl) fun a f=>wn ?_)
 obtain ⟨o102,hM104,hM⟩:=bind_ex hM
 refine wp_cut (fun a u=>∃ (p101:Int×List (Int×Int)),p101=o102∧x0.length=p101.2.length∧Fr a 27 [(1,iv p101.1),(4,iv 0)]∧St w0 u (Asn.row 110 2 (.slice A0 x0.length c0) x0.length (p101.2.flatMap eBus) :: X)) ?_ ?_
 ·have _:=trivial
  refine wp_block ?_
  refine loop_gw (fun m a u=>∃ (p105:List (Int×Int)×Int×Int),m_laws_markBusS_l1 x0 m p105=some _∧x0.length=p105.1.length∧Fr a 27 [(0,.slice A0 x0.length c0),(1,iv p105.2.1),(4,iv 0),(5,iv p105.2.2)]∧St w0 u (Asn.row 110 2 (.slice A0 x0.length c0) x0.length (p105.1.flatMap eBus) :: X)) FUEL ⟨(x0,x1,0),hM104,rfl,f.keep _ ⟨rfl,rfl,rfl,rfl,trivial⟩,S.selT (M:=[.row 110 2 (.slice A0 x0.length c0) x0.length (x0.flatMap eBus)]) 1 [0] rfl rfl rfl⟩ ?_
  clear f S hM104;rintro m a u ⟨p105,hM104,hn106,f,S⟩
  rcases m with _ | f1
  ·exact none_some hM104
  rw [m_laws_markBusS_l1.eq_2] at hM104
  refine ws ?_
  revert a;refine sr (mv rfl rfl (mv rfl rfl (ov rfl (fun a f=>run_lenL rfl rfl Tryz.underlying38 (f.ev rfl)) (ov rfl (fun a f=>run_lss (f.ev rfl) (f.ev rfl) rfl) fun a f=>wn ?_))))
  cases hc107:(ltB p105.2.2 (x0.length:Int))
  ·replace hM104:=bif_f hc107 hM104
   refine cond_f f rfl hc107 ?_
   refine wp_exit ?_
   repeat with_reducible first|apply then_exit|apply in_hit|refine in_miss rfl ?_
   obtain rfl:=Option.some.inj hM104
   exact ⟨(p105.2.1,p105.1),rfl,hn106,f.keep _ ⟨rfl,rfl,trivial⟩,S.selT (M:=[.row 110 2 (.slice A0 x0.length c0) x0.length (p105.1.flatMap eBus)]) 1 [0] rfl rfl rfl⟩
  replace hM104:=bif_t hc107 hM104
  refine cond_t f rfl hc107 ?_
  refine wp_skip ?_
  refine ws ?_
  refine wp_block ?_
  revert a;refine sr (mv rfl rfl (mv rfl rfl (mv rfl rfl fun a f=>?_)))
  obtain ⟨hk108,hM104⟩:=chk_ex hM104
  replace hk108:=ixB_t hk108
  revert a;refine ov rfl (fun a f=>run_ix rfl Tryz.underlying38 sz110 (f.ev rfl) (S.rc 0 rfl) (f.ev rfl) hk108) (ov rfl (fun a f=>run_fieldAddr rfl fl110_0 (f.ev rfl) rfl) fun a f=>?_)
  obtain ⟨w',hrun,S'⟩:=run_storeElN (P:=Tryz.prog) (ρ:=a.eval) (y0:=(p105.2.1,(p105.1.getD p105.2.2.toNat (0,0)).2)) (off:=0) S 3 (.tmp 16) (.tmp 14) (i:=0) sz3 (f.ev rfl) (f.ev rfl) rfl rfl rfl rfl hn106 eBus_len (0,0) (ix_ltn hk108 hn106) rfl rfl
  refine op_do rfl rfl (hrun _ rfl) ?_;clear hrun S;have S:=S';clear S';generalize w'=u at S ⊢
  refine wn ?_
  revert a;refine sr (mv rfl rfl (ov rfl (fun a f=>run_add (z:=w64 (p105.2.1+1)) (f.ev rfl) rfl rfl rfl) (ag rfl rfl fun a f=>wn ?_)))
  revert a;refine sr (mv rfl rfl (mv rfl rfl (mv rfl rfl fun a f=>?_)))
  obtain ⟨hk109,hM104⟩:=chk_ex hM104
  replace hk109:=ixB_t hk109
  revert a;refine ov rfl (fun a f=>run_ix rfl Tryz.underlying38 sz110 (f.ev rfl) (S.rc 0 rfl) (f.ev rfl) hk109) (ov rfl (fun a f=>run_fieldAddr rfl fl110_1 (f.ev rfl) rfl) fun a f=>?_)
  obtain ⟨w',hrun,S'⟩:=run_storeEl2 (P:=Tryz.prog) (ρ:=a.eval) (l:=p105.1) (y0:=(p105.2.1,(p105.1.getD p105.2.2.toNat (0,0)).2)) (y1:=(p105.2.1,w64 (p105.2.1+1))) (off:=1) S 3 (.tmp 23) (.tmp 21) (i:=0) sz3 (f.ev rfl) (f.ev rfl) rfl rfl rfl rfl hn106 eBus_len (ix_ltn hk109 hn106) rfl rfl
  refine op_do rfl rfl (hrun _ rfl) ?_;clear hrun S;have S:=S';clear S';generalize w'=u at S ⊢
  refine wn ?_
  revert a;refine rl (mv rfl rfl (ov rfl (fun a f=>run_add (z:=w64 ((w64 (p105.2.1+1))+1)) (f.ev rfl) rfl rfl rfl) (ag rfl rfl fun a f=>wn ?_)))
  revert a;refine rl (mv rfl rfl (ov rfl (fun a f=>run_add (z:=w64 (p105.2.2+1)) (f.ev rfl) rfl rfl rfl) (ag rfl rfl fun a f=>wn ?_)))
  exact ⟨f1,Nat.lt_succ_self _,(p105.1.set p105.2.2.toNat (p105.2.1,w64 (p105.2.1+1)),w64 ((w64 (p105.2.1+1))+1),w64 (p105.2.2+1)),hM104,(len_set hn106),f.keep _ ⟨rfl,rfl,rfl,rfl,trivial⟩,S.selT (M:=[.row 110 2 (.slice A0 x0.length c0) x0.length ((p105.1.set p105.2.2.toNat (p105.2.1,w64 (p105.2.1+1))).flatMap eBus)]) 1 [0] rfl rfl rfl⟩
 rintro a u ⟨p101,rfl,hn103,f,S⟩
 revert a;refine sr (mv rfl rfl (ag rfl rfl fun a f=>wn ?_))
 refine wp_ret ?_
 refine ret1_gw (.inl rfl) f rfl (res_tmp (f.ev rfl)) ?_
 obtain rfl:=Option.some.inj hM
 exact ⟨rfl,hn103,S.selT (M:=[.row 110 2 (.slice A0 x0.length c0) x0.length (p101.2.flatMap eBus)]) 1 [0] rfl rfl rfl⟩
theorem c_laws_markBoolS {x0:List Bool} {x1:Int} {A0:Option Addr} {n0 c0:Nat} {w:World} {r:Int×List Bool} {w0:World} {X:List Asn} (h0 : n0=x0.length) (S:St w0 w (Asn.row 4 1 (.slice A0 n0 c0) n0 (x0.flatMap eB) :: X)) (hM : m_laws_markBoolS x0 x1=some r) :
  Calls Tryz.prog 86 #[.slice A0 n0 c0,iv x1] w (fun e w'=>e=.returned (iv r.1)∧n0=r.2.length∧St w0 w' (Asn.row 4 1 (.slice A0 n0 c0) n0 (r.2.flatMap eB) :: X)):=by
 obtain rfl:=h0
 unfold m_laws_markBoolS at hM
 refine calls_gx Tryz.func86 Tryz.ntmps86 rfl rfl ?_
 intro a f
 revert a;refine sr (ov rfl (fun a f=>run_assign rfl rfl) fun a f=>wn ?_)
 refine ws ?_
 revert a;refine sr (ov rfl (fun a f=>run_assign rfl rfl) fun a f=>wn ?_)
 obtain ⟨o102,hM104,hM⟩:=bind_ex hM
 refine wp_cut (fun a u=>∃ (p101:Int×List Bool),p101=o102∧x0.length=p101.2.length∧Fr a 21 [(1,iv p101.1),(4,iv 0)]∧St w0 u (Asn.row 4 1 (.slice A0 x0.length c0) x0.length (p101.2.flatMap eB) :: X)) ?_ ?_
 ·have _:=trivial
  refine wp_block ?_
  refine loop_gw (fun m a u=>∃ (p105:List Bool×Int×Int),m_laws_markBoolS_l1 x0 m p105=some _∧x0.length=p105.1.length∧Fr a 21 [(0,.slice A0 x0.length c0),(1,iv p105.2.1),(4,iv 0),(5,iv p105.2.2)]∧St w0 u (Asn.row 4 1 (.slice A0 x0.length c0) x0.length (p105.1.flatMap eB) :: X)) FUEL ⟨(x0,x1,0),hM104,rfl,f.keep _ ⟨rfl,rfl,rfl,rfl,trivial⟩,S.selT (M:=[.row 4 1 (.slice A0 x0.length c0) x0.length (x0.flatMap eB)]) 1 [0] rfl rfl rfl⟩ ?_
  clear f S hM104;rintro m a u ⟨p105,hM104,hn106,f,S⟩
  rcases m with _ | f1
  ·exact none_some hM104
  rw [m_laws_markBoolS_l1.eq_2] at hM104
  refine ws ?_
  revert a;refine sr (mv rfl rfl (mv rfl rfl (ov rfl (fun a f=>run_lenL rfl rfl Tryz.underlying26 (f.ev rfl)) (ov rfl (fun a f=>run_lss (f.ev rfl) (f.ev rfl) rfl) fun a f=>wn ?_))))
  cases hc107:(ltB p105.2.2 (x0.length:Int))
  ·replace hM104:=bif_f hc107 hM104
   refine cond_f f rfl hc107 ?_
   refine wp_exit ?_
   repeat with_reducible first|apply then_exit|apply in_hit|refine in_miss rfl ?_
   obtain rfl:=Option.some.inj hM104
   exact ⟨(p105.2.1,p105.1),rfl,hn106,f.keep _ ⟨rfl,rfl,trivial⟩,S.selT (M:=[.row 4 1 (.slice A0 x0.length c0) x0.length (p105.1.flatMap eB)]) 1 [0] rfl rfl rfl⟩
  replace hM104:=bif_t hc107 hM104
  refine cond_t f rfl hc107 ?_
  refine wp_skip ?_
  refine ws ?_
  refine wp_block ?_
  revert a;refine sr (mv rfl rfl (mv rfl rfl (mv rfl rfl (ov rfl (fun a f=>run_rem (z:=Int.tmod p105.2.1 3) (f.ev rfl) rfl rfl (by decide) rfl) (ov rfl (fun a f=>run_eql (f.ev rfl) rfl rfl) fun a f=>?_)))))
  obtain ⟨hk108,hM104⟩:=chk_ex hM104
  replace hk108:=ixB_t hk108
  revert a;refine ov rfl (fun a f=>run_ix rfl Tryz.underlying26 sz4 (f.ev rfl) (S.rc 0 rfl) (f.ev rfl) hk108) fun a f=>?_
  obtain ⟨w',hrun,S'⟩:=run_storeElN (P:=Tryz.prog) (ρ:=a.eval) (y0:=(Int.tmod p105.2.1 3)==0) (off:=0) S 4 (.tmp 17) (.tmp 16) (i:=0) sz4 (f.ev rfl) (f.ev rfl) rfl rfl rfl rfl hn106 eB_len false (ix_ltn hk108 hn106) rfl rfl
  refine op_do rfl rfl (hrun _ rfl) ?_;clear hrun S;have S:=S';clear S';generalize w'=u at S ⊢
  refine wn ?_
  revert a;refine rl (mv rfl rfl (ov rfl (fun a f=>run_add (z:=w64 (p105.2.1+1)) (f.ev rfl) rfl rfl rfl) (ag rfl rfl fun a f=>wn ?_)))
  revert a;refine rl (mv rfl rfl (ov rfl (fun a f=>run_add (z:=w64 (p105.2.2+1)) (f.ev rfl) rfl rfl rfl) (ag rfl rfl fun a f=>wn ?_)))
  exact ⟨f1,Nat.lt_succ_self _,(p105.1.set p105.2.2.toNat ((Int.tmod p105.2.1 3)==0),w64 (p105.2.1+1),w64 (p105.2.2+1)),hM104,(len_set hn106),f.keep _ ⟨rfl,rfl,rfl,rfl,trivial⟩,S.selT (M:=[.row 4 1 (.slice A0 x0.length c0) x0.length ((p105.1.set p105.2.2.toNat ((Int.tmod p105.2.1 3)==0)).flatMap eB)]) 1 [0] rfl rfl rfl⟩
 rintro a u ⟨p101,rfl,hn103,f,S⟩
 revert a;refine sr (mv rfl rfl (ag rfl rfl fun a f=>wn ?_))
 refine wp_ret ?_
 refine ret1_gw (.inl rfl) f rfl (res_tmp (f.ev rfl)) ?_
 obtain rfl:=Option.some.inj hM
 exact ⟨rfl,hn103,S.selT (M:=[.row 4 1 (.slice A0 x0.length c0) x0.length (p101.2.flatMap eB)]) 1 [0] rfl rfl rfl⟩
theorem c_laws_markPermitS {x0:List (Int×Int)} {x1:Int} {A0:Option Addr} {n0 c0:Nat} {w:World} {r:Int×List (Int×Int)} {w0:World} {X:List Asn} (h0 : n0=x0.length) (S:St w0 w (Asn.row 78 2 (.slice A0 n0 c0) n0 (x0.flatMap ePermit) :: X)) (hM : m_laws_markPermitS x0 x1=some r) :
  Calls Tryz.prog 87 #[.slice A0 n0 c0,iv x1] w (fun e w'=>e=.returned (iv r.1)∧n0=r.2.length∧St w0 w' (Asn.row 78 2 (.slice A0 n0 c0) n0 (r.2.flatMap ePermit) :: X)):=by
 obtain rfl:=h0
 unfold m_laws_markPermitS at hM
 refine calls_gx Tryz.func87 Tryz.ntmps87 rfl rfl ?_
 intro a f
 revert a;refine sr (ov rfl (fun a f=>run_assign rfl rfl) fun a f=>wn ?_)
 refine ws ?_
 revert a;refine sr (ov rfl (fun a f=>run_assign rfl rfl) fun a f=>wn ?_)
 obtain ⟨o102,hM104,hM⟩:=bind_ex hM
 refine wp_cut (fun a u=>∃ (p101:Int×List (Int×Int)),p101=o102∧x0.length=p101.2.length∧Fr a 27 [(1,iv p101.1),(4,iv 0)]∧St w0 u (Asn.row 78 2 (.slice A0 x0.length c0) x0.length (p101.2.flatMap ePermit) :: X)) ?_ ?_
 ·have _:=trivial
  refine wp_block ?_
  refine loop_gw (fun m a u=>∃ (p105:List (Int×Int)×Int×Int),m_laws_markPermitS_l1 x0 m p105=some _∧x0.length=p105.1.length∧Fr a 27 [(0,.slice A0 x0.length c0),(1,iv p105.2.1),(4,iv 0),(5,iv p105.2.2)]∧St w0 u (Asn.row 78 2 (.slice A0 x0.length c0) x0.length (p105.1.flatMap ePermit) :: X)) FUEL ⟨(x0,x1,0),hM104,rfl,f.keep _ ⟨rfl,rfl,rfl,rfl,trivial⟩,S.selT (M:=[.row 78 2 (.slice A0 x0.length c0) x0.length (x0.flatMap ePermit)]) 1 [0] rfl rfl rfl⟩ ?_
  clear f S hM104;rintro m a u ⟨p105,hM104,hn106,f,S⟩
  rcases m with _ | f1
  ·exact none_some hM104
  rw [m_laws_markPermitS_l1.eq_2] at hM104
  refine ws ?_
  revert a;refine sr (mv rfl rfl (mv rfl rfl (ov rfl (fun a f=>run_lenL rfl rfl Tryz.underlying39 (f.ev rfl)) (ov rfl (fun a f=>run_lss (f.ev rfl) (f.ev rfl) rfl) fun a f=>wn ?_))))
  cases hc107:(ltB p105.2.2 (x0.length:Int))
  ·replace hM104:=bif_f hc107 hM104
   refine cond_f f rfl hc107 ?_
   refine wp_exit ?_
   repeat with_reducible first|apply then_exit|apply in_hit|refine in_miss rfl ?_
   obtain rfl:=Option.some.inj hM104
   exact ⟨(p105.2.1,p105.1),rfl,hn106,f.keep _ ⟨rfl,rfl,trivial⟩,S.selT (M:=[.row 78 2 (.slice A0 x0.length c0) x0.length (p105.1.flatMap ePermit)]) 1 [0] rfl rfl rfl⟩
  replace hM104:=bif_t hc107 hM104
  refine cond_t f rfl hc107 ?_
  refine wp_skip ?_
  refine ws ?_
  refine wp_block ?_
  revert a;refine sr (mv rfl rfl (mv rfl rfl (mv rfl rfl fun a f=>?_)))
  obtain ⟨hk108,hM104⟩:=chk_ex hM104
  replace hk108:=ixB_t hk108
  revert a;refine ov rfl (fun a f=>run_ix rfl Tryz.underlying39 sz78 (f.ev rfl) (S.rc 0 rfl) (f.ev rfl) hk108) (ov rfl (fun a f=>run_fieldAddr rfl fl78_0 (f.ev rfl) rfl) fun a f=>?_)
  obtain ⟨w',hrun,S'⟩:=run_storeElN (P:=Tryz.prog) (ρ:=a.eval) (y0:=(p105.2.1,(p105.1.getD p105.2.2.toNat (0,0)).2)) (off:=0) S 3 (.tmp 16) (.tmp 14) (i:=0) sz3 (f.ev rfl) (f.ev rfl) rfl rfl rfl rfl hn106 ePermit_len (0,0) (ix_ltn hk108 hn106) rfl rfl
  refine op_do rfl rfl (hrun _ rfl) ?_;clear hrun S;have S:=S';clear S';generalize w'=u at S ⊢
  refine wn ?_
  revert a;refine sr (mv rfl rfl (ov rfl (fun a f=>run_add (z:=w64 (p105.2.1+1)) (f.ev rfl) rfl rfl rfl) (ag rfl rfl fun a f=>wn ?_)))
  revert a;refine sr (mv rfl rfl (mv rfl rfl (mv rfl rfl fun a f=>?_)))
  obtain ⟨hk109,hM104⟩:=chk_ex hM104
  replace hk109:=ixB_t hk109
  revert a;refine ov rfl (fun a f=>run_ix rfl Tryz.underlying39 sz78 (f.ev rfl) (S.rc 0 rfl) (f.ev rfl) hk109) (ov rfl (fun a f=>run_fieldAddr rfl fl78_1 (f.ev rfl) rfl) fun a f=>?_)
  obtain ⟨w',hrun,S'⟩:=run_storeEl2 (P:=Tryz.prog) (ρ:=a.eval) (l:=p105.1) (y0:=(p105.2.1,(p105.1.getD p105.2.2.toNat (0,0)).2)) (y1:=(p105.2.1,w64 (p105.2.1+1))) (off:=1) S 3 (.tmp 23) (.tmp 21) (i:=0) sz3 (f.ev rfl) (f.ev rfl) rfl rfl rfl rfl hn106 ePermit_len (ix_ltn hk109 hn106) rfl rfl
  refine op_do rfl rfl (hrun _ rfl) ?_;clear hrun S;have S:=S';clear S';generalize w'=u at S ⊢
  refine wn ?_
  revert a;refine rl (mv rfl rfl (ov rfl (fun a f=>run_add (z:=w64 ((w64 (p105.2.1+1))+1)) (f.ev rfl) rfl rfl rfl) (ag rfl rfl fun a f=>wn ?_)))
  revert a;refine rl (mv rfl rfl (ov rfl (fun a f=>run_add (z:=w64 (p105.2.2+1)) (f.ev rfl) rfl rfl rfl) (ag rfl rfl fun a f=>wn ?_)))
  exact ⟨f1,Nat.lt_succ_self _,(p105.1.set p105.2.2.toNat (p105.2.1,w64 (p105.2.1+1)),w64 ((w64 (p105.2.1+1))+1),w64 (p105.2.2+1)),hM104,(len_set hn106),f.keep _ ⟨rfl,rfl,rfl,rfl,trivial⟩,S.selT (M:=[.row 78 2 (.slice A0 x0.length c0) x0.length ((p105.1.set p105.2.2.toNat (p105.2.1,w64 (p105.2.1+1))).flatMap ePermit)]) 1 [0] rfl rfl rfl⟩
 rintro a u ⟨p101,rfl,hn103,f,S⟩
 revert a;refine sr (mv rfl rfl (ag rfl rfl fun a f=>wn ?_))
 refine wp_ret ?_
 refine ret1_gw (.inl rfl) f rfl (res_tmp (f.ev rfl)) ?_
 obtain rfl:=Option.some.inj hM
 exact ⟨rfl,hn103,S.selT (M:=[.row 78 2 (.slice A0 x0.length c0) x0.length (p101.2.flatMap ePermit)]) 1 [0] rfl rfl rfl⟩
theorem c_laws_markWork {x0:List Bool} {x1:List Bool} {x2:List (Int×Int)} {x3:Int} {A0:Option Addr} {n0 c0:Nat} {A1:Option Addr} {n1 c1:Nat} {A2:Option Addr} {n2 c2:Nat} {w:World} {r:Int×List Bool×List Bool×List (Int×Int)} {w0:World} {X:List Asn} (h0 : n0=x0.length) (h1 : n1=x1.length) (h2 : n2=x2.length) (S:St w0 w (Asn.row 4 1 (.slice A0 n0 c0) n0 (x0.flatMap eB) :: Asn.row 4 1 (.slice A1 n1 c1) n1 (x1.flatMap eB) :: Asn.row 78 2 (.slice A2 n2 c2) n2 (x2.flatMap ePermit) :: X)) (hM : m_laws_markWork x0 x1 x2 x3=some r) :
  Calls Tryz.prog 49 #[.agg #[.slice A0 n0 c0,.slice A1 n1 c1,.slice A2 n2 c2],iv x3] w (fun e w'=>e=.returned (iv r.1)∧n0=r.2.1.length∧n1=r.2.2.1.length∧n2=r.2.2.2.length∧St w0 w' (Asn.row 4 1 (.slice A0 n0 c0) n0 (r.2.1.flatMap eB) :: Asn.row 4 1 (.slice A1 n1 c1) n1 (r.2.2.1.flatMap eB) :: Asn.row 78 2 (.slice A2 n2 c2) n2 (r.2.2.2.flatMap ePermit) :: X)):=by
 obtain rfl:=h0
 obtain rfl:=h1
 obtain rfl:=h2
 unfold m_laws_markWork at hM
 refine calls_gx Tryz.func49 Tryz.ntmps49 rfl rfl ?_
 intro a f
 refine wsg ?_
 refine op_new (cs:=#[.slice A0 x0.length c0,.slice A1 x1.length c1,.slice A2 x2.length c2]) rfl rfl f rfl S (run_box rfl (f.ev rfl) rfl) ?_;clear f S;intro a g101 u f S
 revert a;refine ov rfl (fun a f=>run_assign rfl rfl) fun a f=>wn ?_
 revert a;refine sr (ov rfl (fun a f=>run_fieldAddr rfl fl41_0 (f.ev rfl) rfl) (ov rfl (fun a f=>run_load1 rfl one26 (f.ev rfl) (S.cell 0 rfl rfl)) (mv rfl rfl fun a f=>?_)))
 obtain ⟨p102,h102,hM⟩:=bind_ex hM
 refine op_call rfl rfl f rfl (run_call (vs:=[_,_]) rfl rfl co86 ⟨(f.ev rfl),(f.ev rfl),trivial⟩) (c_laws_markBoolS rfl (show St w0 _ (Asn.row 4 1 (.slice A0 x0.length c0) x0.length (x0.flatMap eB) :: Asn.box g101 41 #[.slice A0 x0.length c0,.slice A1 x1.length c1,.slice A2 x2.length c2] :: Asn.row 4 1 (.slice A1 x1.length c1) x1.length (x1.flatMap eB) :: Asn.row 78 2 (.slice A2 x2.length c2) x2.length (x2.flatMap ePermit) :: X) from S.selT (M:=[.row 4 1 (.slice A0 x0.length c0) x0.length (x0.flatMap eB),.box g101 41 #[.slice A0 x0.length c0,.slice A1 x1.length c1,.slice A2 x2.length c2],.row 4 1 (.slice A1 x1.length c1) x1.length (x1.flatMap eB),.row 78 2 (.slice A2 x2.length c2) x2.length (x2.flatMap ePermit)]) 4 [1,0,2,3] rfl rfl rfl) h102) ?_
 rintro e u ⟨rfl,hn103,T⟩
 refine ⟨_,rfl,?_⟩
 clear f;intro a f
 clear S;have S:=T;clear T
 revert a;refine ag rfl rfl fun a f=>wn ?_
 revert a;refine sr (ov rfl (fun a f=>run_fieldAddr rfl fl41_1 (f.ev rfl) rfl) (ov rfl (fun a f=>run_load1 rfl one26 (f.ev rfl) (S.cell 1 rfl rfl)) (mv rfl rfl fun a f=>?_)))
 obtain ⟨p104,h104,hM⟩:=bind_ex hM
 refine op_call rfl rfl f rfl (run_call (vs:=[_,_]) rfl rfl co86 ⟨(f.ev rfl),(f.ev rfl),trivial⟩) (c_laws_markBoolS rfl (show St w0 _ (Asn.row 4 1 (.slice A1 x1.length c1) x1.length (x1.flatMap eB) :: Asn.row 4 1 (.slice A0 x0.length c0) x0.length (p102.2.flatMap eB) :: Asn.box g101 41 #[.slice A0 x0.length c0,.slice A1 x1.length c1,.slice A2 x2.length c2] :: Asn.row 78 2 (.slice A2 x2.length c2) x2.length (x2.flatMap ePermit) :: X) from S.selT (M:=[.row 4 1 (.slice A1 x1.length c1) x1.length (x1.flatMap eB),.row 4 1 (.slice A0 x0.length c0) x0.length (p102.2.flatMap eB),.box g101 41 #[.slice A0 x0.length c0,.slice A1 x1.length c1,.slice A2 x2.length c2],.row 78 2 (.slice A2 x2.length c2) x2.length (x2.flatMap ePermit)]) 4 [2,0,1,3] rfl rfl rfl) h104) ?_
 rintro e u ⟨rfl,hn105,T⟩
 refine ⟨_,rfl,?_⟩
 clear f;intro a f
 clear S;have S:=T;clear T
 revert a;refine ag rfl rfl fun a f=>wn ?_
 revert a;refine sr (ov rfl (fun a f=>run_fieldAddr rfl fl41_2 (f.ev rfl) rfl) (ov rfl (fun a f=>run_load1 rfl one39 (f.ev rfl) (S.cell 2 rfl rfl)) (mv rfl rfl fun a f=>?_)))
 obtain ⟨p106,h106,hM⟩:=bind_ex hM
 refine op_call rfl rfl f rfl (run_call (vs:=[_,_]) rfl rfl co87 ⟨(f.ev rfl),(f.ev rfl),trivial⟩) (c_laws_markPermitS rfl (show St w0 _ (Asn.row 78 2 (.slice A2 x2.length c2) x2.length (x2.flatMap ePermit) :: Asn.row 4 1 (.slice A1 x1.length c1) x1.length (p104.2.flatMap eB) :: Asn.row 4 1 (.slice A0 x0.length c0) x0.length (p102.2.flatMap eB) :: Asn.box g101 41 #[.slice A0 x0.length c0,.slice A1 x1.length c1,.slice A2 x2.length c2] :: X) from S.selT (M:=[.row 78 2 (.slice A2 x2.length c2) x2.length (x2.flatMap ePermit),.row 4 1 (.slice A1 x1.length c1) x1.length (p104.2.flatMap eB),.row 4 1 (.slice A0 x0.length c0) x0.length (p102.2.flatMap eB),.box g101 41 #[.slice A0 x0.length c0,.slice A1 x1.length c1,.slice A2 x2.length c2]]) 4 [3,0,1,2] rfl rfl rfl) h106) ?_
 rintro e u ⟨rfl,hn107,T⟩
 refine ⟨_,rfl,?_⟩
 clear f;intro a f
 clear S;have S:=T;clear T
 revert a;refine ag rfl rfl fun a f=>wn ?_
 revert a;refine sr (mv rfl rfl (ag rfl rfl fun a f=>wn ?_))
 refine wp_ret ?_
 refine ret1_gw (.inl rfl) f rfl (res_tmp (f.ev rfl)) ?_
 obtain rfl:=Option.some.inj hM
 exact ⟨rfl,hn103,hn105,hn107,S.selT (M:=[.row 4 1 (.slice A0 x0.length c0) x0.length (p102.2.flatMap eB),.row 4 1 (.slice A1 x1.length c1) x1.length (p104.2.flatMap eB),.row 78 2 (.slice A2 x2.length c2) x2.length (p106.2.flatMap ePermit)]) 4 [2,1,0] rfl rfl rfl⟩
theorem c_laws_markIntS {x0:List Int} {x1:Int} {A0:Option Addr} {n0 c0:Nat} {w:World} {r:Int×List Int} {w0:World} {X:List Asn} (h0 : n0=x0.length) (S:St w0 w (Asn.row 3 1 (.slice A0 n0 c0) n0 (x0.flatMap eI) :: X)) (hM : m_laws_markIntS x0 x1=some r) :
  Calls Tryz.prog 50 #[.slice A0 n0 c0,iv x1] w (fun e w'=>e=.returned (iv r.1)∧n0=r.2.length∧St w0 w' (Asn.row 3 1 (.slice A0 n0 c0) n0 (r.2.flatMap eI) :: X)):=by
 obtain rfl:=h0
 unfold m_laws_markIntS at hM
 refine calls_gx Tryz.func50 Tryz.ntmps50 rfl rfl ?_
 intro a f
 revert a;refine sr (ov rfl (fun a f=>run_assign rfl rfl) fun a f=>wn ?_)
 refine ws ?_
 revert a;refine sr (ov rfl (fun a f=>run_assign rfl rfl) fun a f=>wn ?_)
 obtain ⟨o102,hM104,hM⟩:=bind_ex hM
 refine wp_cut (fun a u=>∃ (p101:Int×List Int),p101=o102∧x0.length=p101.2.length∧Fr a 19 [(1,iv p101.1),(4,iv 0)]∧St w0 u (Asn.row 3 1 (.slice A0 x0.length c0) x0.length (p101.2.flatMap eI) :: X)) ?_ ?_
 ·have _:=trivial
  refine wp_block ?_
  refine loop_gw (fun m a u=>∃ (p105:List Int×Int×Int),m_laws_markIntS_l1 x0 m p105=some _∧x0.length=p105.1.length∧Fr a 19 [(0,.slice A0 x0.length c0),(1,iv p105.2.1),(4,iv 0),(5,iv p105.2.2)]∧St w0 u (Asn.row 3 1 (.slice A0 x0.length c0) x0.length (p105.1.flatMap eI) :: X)) FUEL ⟨(x0,x1,0),hM104,rfl,f.keep _ ⟨rfl,rfl,rfl,rfl,trivial⟩,S.selT (M:=[.row 3 1 (.slice A0 x0.length c0) x0.length (x0.flatMap eI)]) 1 [0] rfl rfl rfl⟩ ?_
  clear f S hM104;rintro m a u ⟨p105,hM104,hn106,f,S⟩
  rcases m with _ | f1
  ·exact none_some hM104
  rw [m_laws_markIntS_l1.eq_2] at hM104
  refine ws ?_
  revert a;refine sr (mv rfl rfl (mv rfl rfl (ov rfl (fun a f=>run_lenL rfl rfl Tryz.underlying30 (f.ev rfl)) (ov rfl (fun a f=>run_lss (f.ev rfl) (f.ev rfl) rfl) fun a f=>wn ?_))))
  cases hc107:(ltB p105.2.2 (x0.length:Int))
  ·replace hM104:=bif_f hc107 hM104
   refine cond_f f rfl hc107 ?_
   refine wp_exit ?_
   repeat with_reducible first|apply then_exit|apply in_hit|refine in_miss rfl ?_
   obtain rfl:=Option.some.inj hM104
   exact ⟨(p105.2.1,p105.1),rfl,hn106,f.keep _ ⟨rfl,rfl,trivial⟩,S.selT (M:=[.row 3 1 (.slice A0 x0.length c0) x0.length (p105.1.flatMap eI)]) 1 [0] rfl rfl rfl⟩
  replace hM104:=bif_t hc107 hM104
  refine cond_t f rfl hc107 ?_
  refine wp_skip ?_
  refine ws ?_
  refine wp_block ?_
  revert a;refine sr (mv rfl rfl (mv rfl rfl (mv rfl rfl fun a f=>?_)))
  obtain ⟨hk108,hM104⟩:=chk_ex hM104
  replace hk108:=ixB_t hk108
  revert a;refine ov rfl (fun a f=>run_ix rfl Tryz.underlying30 sz3 (f.ev rfl) (S.rc 0 rfl) (f.ev rfl) hk108) fun a f=>?_
  obtain ⟨w',hrun,S'⟩:=run_storeElN (P:=Tryz.prog) (ρ:=a.eval) (y0:=p105.2.1) (off:=0) S 3 (.tmp 15) (.tmp 14) (i:=0) sz3 (f.ev rfl) (f.ev rfl) rfl rfl rfl rfl hn106 eI_len 0 (ix_ltn hk108 hn106) rfl rfl
  refine op_do rfl rfl (hrun _ rfl) ?_;clear hrun S;have S:=S';clear S';generalize w'=u at S ⊢
  refine wn ?_
  revert a;refine rl (mv rfl rfl (ov rfl (fun a f=>run_add (z:=w64 (p105.2.1+1)) (f.ev rfl) rfl rfl rfl) (ag rfl rfl fun a f=>wn ?_)))
  revert a;refine rl (mv rfl rfl (ov rfl (fun a f=>run_add (z:=w64 (p105.2.2+1)) (f.ev rfl) rfl rfl rfl) (ag rfl rfl fun a f=>wn ?_)))
  exact ⟨f1,Nat.lt_succ_self _,(p105.1.set p105.2.2.toNat p105.2.1,w64 (p105.2.1+1),w64 (p105.2.2+1)),hM104,(len_set hn106),f.keep _ ⟨rfl,rfl,rfl,rfl,trivial⟩,S.selT (M:=[.row 3 1 (.slice A0 x0.length c0) x0.length ((p105.1.set p105.2.2.toNat p105.2.1).flatMap eI)]) 1 [0] rfl rfl rfl⟩
 rintro a u ⟨p101,rfl,hn103,f,S⟩
 revert a;refine sr (mv rfl rfl (ag rfl rfl fun a f=>wn ?_))
 refine wp_ret ?_
 refine ret1_gw (.inl rfl) f rfl (res_tmp (f.ev rfl)) ?_
 obtain rfl:=Option.some.inj hM
 exact ⟨rfl,hn103,S.selT (M:=[.row 3 1 (.slice A0 x0.length c0) x0.length (p101.2.flatMap eI)]) 1 [0] rfl rfl rfl⟩
theorem c_laws_markWorld {x0:Int} {x1:List (Int×Int×Int)} {x2:List (Int×Int)} {x3:List Bool} {x4:List Bool} {x5:List (Int×Int)} {x6:List Int} {x7:Int} {A1:Option Addr} {n1 c1:Nat} {A2:Option Addr} {n2 c2:Nat} {A3:Option Addr} {n3 c3:Nat} {A4:Option Addr} {n4 c4:Nat} {A5:Option Addr} {n5 c5:Nat} {A6:Option Addr} {n6 c6:Nat} {w:World} {r:Int×List (Int×Int×Int)×List (Int×Int)×List Bool×List Bool×List (Int×Int)×List Int} {w0:World} {X:List Asn} (h1 : n1=x1.length) (h2 : n2=x2.length) (h3 : n3=x3.length) (h4 : n4=x4.length) (h5 : n5=x5.length) (h6 : n6=x6.length) (S:St w0 w (Asn.row 130 3 (.slice A1 n1 c1) n1 (x1.flatMap eLine) :: Asn.row 110 2 (.slice A2 n2 c2) n2 (x2.flatMap eBus) :: Asn.row 4 1 (.slice A3 n3 c3) n3 (x3.flatMap eB) :: Asn.row 4 1 (.slice A4 n4 c4) n4 (x4.flatMap eB) :: Asn.row 78 2 (.slice A5 n5 c5) n5 (x5.flatMap ePermit) :: Asn.row 3 1 (.slice A6 n6 c6) n6 (x6.flatMap eI) :: X)) (hM : m_laws_markWorld x0 x1 x2 x3 x4 x5 x6 x7=some r) :
  Calls Tryz.prog 15 #[.agg #[iv x0,.slice A1 n1 c1,.slice A2 n2 c2,.slice A3 n3 c3,.slice A4 n4 c4,.slice A5 n5 c5,.slice A6 n6 c6],iv x7] w (fun e w'=>e=.returned (iv r.1)∧n1=r.2.1.length∧n2=r.2.2.1.length∧n3=r.2.2.2.1.length∧n4=r.2.2.2.2.1.length∧n5=r.2.2.2.2.2.1.length∧n6=r.2.2.2.2.2.2.length∧St w0 w' (Asn.row 130 3 (.slice A1 n1 c1) n1 (r.2.1.flatMap eLine) :: Asn.row 110 2 (.slice A2 n2 c2) n2 (r.2.2.1.flatMap eBus) :: Asn.row 4 1 (.slice A3 n3 c3) n3 (r.2.2.2.1.flatMap eB) :: Asn.row 4 1 (.slice A4 n4 c4) n4 (r.2.2.2.2.1.flatMap eB) :: Asn.row 78 2 (.slice A5 n5 c5) n5 (r.2.2.2.2.2.1.flatMap ePermit) :: Asn.row 3 1 (.slice A6 n6 c6) n6 (r.2.2.2.2.2.2.flatMap eI) :: X)):=by
 obtain rfl:=h1
 obtain rfl:=h2
 obtain rfl:=h3
 obtain rfl:=h4
 obtain rfl:=h5
 obtain rfl:=h6
 unfold m_laws_markWorld at hM
 refine calls_gx Tryz.func15 Tryz.ntmps15 rfl rfl ?_
 intro a f
 refine wsg ?_
 refine op_new (cs:=#[iv x0,.slice A1 x1.length c1,.slice A2 x2.length c2,.slice A3 x3.length c3,.slice A4 x4.length c4,.slice A5 x5.length c5,.slice A6 x6.length c6]) rfl rfl f rfl S (run_box rfl (f.ev rfl) rfl) ?_;clear f S;intro a g101 u f S
 revert a;refine ov rfl (fun a f=>run_assign rfl rfl) fun a f=>wn ?_
 revert a;refine sr (ov rfl (fun a f=>run_fieldAddr rfl fl43_0 (f.ev rfl) rfl) (ov rfl (fun a f=>run_loadN rfl ag37 (f.ev rfl) rfl ((S.free 0 rfl).cells 0 #[iv x0,.slice A1 x1.length c1] rfl)) (mv rfl rfl fun a f=>?_)))
 obtain ⟨p102,h102,hM⟩:=bind_ex hM
 refine op_call rfl rfl f rfl (run_call (vs:=[_,_]) rfl rfl co47 ⟨(f.ev rfl),(f.ev rfl),trivial⟩) (c_laws_markNet rfl (show St w0 _ (Asn.row 130 3 (.slice A1 x1.length c1) x1.length (x1.flatMap eLine) :: Asn.box g101 43 #[iv x0,.slice A1 x1.length c1,.slice A2 x2.length c2,.slice A3 x3.length c3,.slice A4 x4.length c4,.slice A5 x5.length c5,.slice A6 x6.length c6] :: Asn.row 110 2 (.slice A2 x2.length c2) x2.length (x2.flatMap eBus) :: Asn.row 4 1 (.slice A3 x3.length c3) x3.length (x3.flatMap eB) :: Asn.row 4 1 (.slice A4 x4.length c4) x4.length (x4.flatMap eB) :: Asn.row 78 2 (.slice A5 x5.length c5) x5.length (x5.flatMap ePermit) :: Asn.row 3 1 (.slice A6 x6.length c6) x6.length (x6.flatMap eI) :: X) from S.selT (M:=[.row 130 3 (.slice A1 x1.length c1) x1.length (x1.flatMap eLine),.box g101 43 #[iv x0,.slice A1 x1.length c1,.slice A2 x2.length c2,.slice A3 x3.length c3,.slice A4 x4.length c4,.slice A5 x5.length c5,.slice A6 x6.length c6],.row 110 2 (.slice A2 x2.length c2) x2.length (x2.flatMap eBus),.row 4 1 (.slice A3 x3.length c3) x3.length (x3.flatMap eB),.row 4 1 (.slice A4 x4.length c4) x4.length (x4.flatMap eB),.row 78 2 (.slice A5 x5.length c5) x5.length (x5.flatMap ePermit),.row 3 1 (.slice A6 x6.length c6) x6.length (x6.flatMap eI)]) 7 [1,0,2,3,4,5,6] rfl rfl rfl) h102) ?_
 rintro e u ⟨rfl,hn103,T⟩
 refine ⟨_,rfl,?_⟩
 clear f;intro a f
 clear S;have S:=T;clear T
 revert a;refine ag rfl rfl fun a f=>wn ?_
 revert a;refine sr (ov rfl (fun a f=>run_fieldAddr rfl fl43_1 (f.ev rfl) rfl) (ov rfl (fun a f=>run_load1 rfl one38 (f.ev rfl) (S.cell 1 rfl rfl)) (mv rfl rfl fun a f=>?_)))
 obtain ⟨p104,h104,hM⟩:=bind_ex hM
 refine op_call rfl rfl f rfl (run_call (vs:=[_,_]) rfl rfl co48 ⟨(f.ev rfl),(f.ev rfl),trivial⟩) (c_laws_markBusS rfl (show St w0 _ (Asn.row 110 2 (.slice A2 x2.length c2) x2.length (x2.flatMap eBus) :: Asn.row 130 3 (.slice A1 x1.length c1) x1.length (p102.2.flatMap eLine) :: Asn.box g101 43 #[iv x0,.slice A1 x1.length c1,.slice A2 x2.length c2,.slice A3 x3.length c3,.slice A4 x4.length c4,.slice A5 x5.length c5,.slice A6 x6.length c6] :: Asn.row 4 1 (.slice A3 x3.length c3) x3.length (x3.flatMap eB) :: Asn.row 4 1 (.slice A4 x4.length c4) x4.length (x4.flatMap eB) :: Asn.row 78 2 (.slice A5 x5.length c5) x5.length (x5.flatMap ePermit) :: Asn.row 3 1 (.slice A6 x6.length c6) x6.length (x6.flatMap eI) :: X) from S.selT (M:=[.row 110 2 (.slice A2 x2.length c2) x2.length (x2.flatMap eBus),.row 130 3 (.slice A1 x1.length c1) x1.length (p102.2.flatMap eLine),.box g101 43 #[iv x0,.slice A1 x1.length c1,.slice A2 x2.length c2,.slice A3 x3.length c3,.slice A4 x4.length c4,.slice A5 x5.length c5,.slice A6 x6.length c6],.row 4 1 (.slice A3 x3.length c3) x3.length (x3.flatMap eB),.row 4 1 (.slice A4 x4.length c4) x4.length (x4.flatMap eB),.row 78 2 (.slice A5 x5.length c5) x5.length (x5.flatMap ePermit),.row 3 1 (.slice A6 x6.length c6) x6.length (x6.flatMap eI)]) 7 [2,0,1,3,4,5,6] rfl rfl rfl) h104) ?_
 rintro e u ⟨rfl,hn105,T⟩
 refine ⟨_,rfl,?_⟩
 clear f;intro a f
 clear S;have S:=T;clear T
 revert a;refine ag rfl rfl fun a f=>wn ?_
 revert a;refine sr (ov rfl (fun a f=>run_fieldAddr rfl fl43_2 (f.ev rfl) rfl) (ov rfl (fun a f=>run_loadN rfl ag41 (f.ev rfl) rfl ((S.free 2 rfl).cells 3 #[.slice A3 x3.length c3,.slice A4 x4.length c4,.slice A5 x5.length c5] rfl)) (mv rfl rfl fun a f=>?_)))
 obtain ⟨p106,h106,hM⟩:=bind_ex hM
 refine op_call rfl rfl f rfl (run_call (vs:=[_,_]) rfl rfl co49 ⟨(f.ev rfl),(f.ev rfl),trivial⟩) (c_laws_markWork rfl rfl rfl (show St w0 _ (Asn.row 4 1 (.slice A3 x3.length c3) x3.length (x3.flatMap eB) :: Asn.row 4 1 (.slice A4 x4.length c4) x4.length (x4.flatMap eB) :: Asn.row 78 2 (.slice A5 x5.length c5) x5.length (x5.flatMap ePermit) :: Asn.row 110 2 (.slice A2 x2.length c2) x2.length (p104.2.flatMap eBus) :: Asn.row 130 3 (.slice A1 x1.length c1) x1.length (p102.2.flatMap eLine) :: Asn.box g101 43 #[iv x0,.slice A1 x1.length c1,.slice A2 x2.length c2,.slice A3 x3.length c3,.slice A4 x4.length c4,.slice A5 x5.length c5,.slice A6 x6.length c6] :: Asn.row 3 1 (.slice A6 x6.length c6) x6.length (x6.flatMap eI) :: X) from S.selT (M:=[.row 4 1 (.slice A3 x3.length c3) x3.length (x3.flatMap eB),.row 4 1 (.slice A4 x4.length c4) x4.length (x4.flatMap eB),.row 78 2 (.slice A5 x5.length c5) x5.length (x5.flatMap ePermit),.row 110 2 (.slice A2 x2.length c2) x2.length (p104.2.flatMap eBus),.row 130 3 (.slice A1 x1.length c1) x1.length (p102.2.flatMap eLine),.box g101 43 #[iv x0,.slice A1 x1.length c1,.slice A2 x2.length c2,.slice A3 x3.length c3,.slice A4 x4.length c4,.slice A5 x5.length c5,.slice A6 x6.length c6],.row 3 1 (.slice A6 x6.length c6) x6.length (x6.flatMap eI)]) 7 [3,4,5,0,1,2,6] rfl rfl rfl) h106) ?_
 rintro e u ⟨rfl,hn107,hn108,hn109,T⟩
 refine ⟨_,rfl,?_⟩
 clear f;intro a f
 clear S;have S:=T;clear T
 revert a;refine ag rfl rfl fun a f=>wn ?_
 revert a;refine sr (ov rfl (fun a f=>run_fieldAddr rfl fl43_3 (f.ev rfl) rfl) (ov rfl (fun a f=>run_load1 rfl one30 (f.ev rfl) (S.cell 5 rfl rfl)) (mv rfl rfl fun a f=>?_)))
 obtain ⟨p110,h110,hM⟩:=bind_ex hM
 refine op_call rfl rfl f rfl (run_call (vs:=[_,_]) rfl rfl co50 ⟨(f.ev rfl),(f.ev rfl),trivial⟩) (c_laws_markIntS rfl (show St w0 _ (Asn.row 3 1 (.slice A6 x6.length c6) x6.length (x6.flatMap eI) :: Asn.row 4 1 (.slice A3 x3.length c3) x3.length (p106.2.1.flatMap eB) :: Asn.row 4 1 (.slice A4 x4.length c4) x4.length (p106.2.2.1.flatMap eB) :: Asn.row 78 2 (.slice A5 x5.length c5) x5.length (p106.2.2.2.flatMap ePermit) :: Asn.row 110 2 (.slice A2 x2.length c2) x2.length (p104.2.flatMap eBus) :: Asn.row 130 3 (.slice A1 x1.length c1) x1.length (p102.2.flatMap eLine) :: Asn.box g101 43 #[iv x0,.slice A1 x1.length c1,.slice A2 x2.length c2,.slice A3 x3.length c3,.slice A4 x4.length c4,.slice A5 x5.length c5,.slice A6 x6.length c6] :: X) from S.selT (M:=[.row 3 1 (.slice A6 x6.length c6) x6.length (x6.flatMap eI),.row 4 1 (.slice A3 x3.length c3) x3.length (p106.2.1.flatMap eB),.row 4 1 (.slice A4 x4.length c4) x4.length (p106.2.2.1.flatMap eB),.row 78 2 (.slice A5 x5.length c5) x5.length (p106.2.2.2.flatMap ePermit),.row 110 2 (.slice A2 x2.length c2) x2.length (p104.2.flatMap eBus),.row 130 3 (.slice A1 x1.length c1) x1.length (p102.2.flatMap eLine),.box g101 43 #[iv x0,.slice A1 x1.length c1,.slice A2 x2.length c2,.slice A3 x3.length c3,.slice A4 x4.length c4,.slice A5 x5.length c5,.slice A6 x6.length c6]]) 7 [6,0,1,2,3,4,5] rfl rfl rfl) h110) ?_
 rintro e u ⟨rfl,hn111,T⟩
 refine ⟨_,rfl,?_⟩
 clear f;intro a f
 clear S;have S:=T;clear T
 revert a;refine ag rfl rfl fun a f=>wn ?_
 revert a;refine sr (mv rfl rfl (ag rfl rfl fun a f=>wn ?_))
 refine wp_ret ?_
 refine ret1_gw (.inl rfl) f rfl (res_tmp (f.ev rfl)) ?_
 obtain rfl:=Option.some.inj hM
 exact ⟨rfl,hn103,hn105,hn107,hn108,hn109,hn111,S.selT (M:=[.row 130 3 (.slice A1 x1.length c1) x1.length (p102.2.flatMap eLine),.row 110 2 (.slice A2 x2.length c2) x2.length (p104.2.flatMap eBus),.row 4 1 (.slice A3 x3.length c3) x3.length (p106.2.1.flatMap eB),.row 4 1 (.slice A4 x4.length c4) x4.length (p106.2.2.1.flatMap eB),.row 78 2 (.slice A5 x5.length c5) x5.length (p106.2.2.2.flatMap ePermit),.row 3 1 (.slice A6 x6.length c6) x6.length (p110.2.flatMap eI)]) 7 [5,4,1,2,3,0] rfl rfl rfl⟩
theorem c_laws_heldLineS {x0:List (Int×Int×Int)} {x1:Int} {A0:Option Addr} {n0 c0:Nat} {w:World} {r:Int} (h0:Rt w 3 eLine A0 n0 c0 x0) (hM : m_laws_heldLineS x0 x1=some r) :
  Calls Tryz.prog 103 #[.slice A0 n0 c0,iv x1] w (fun e w'=>e=.returned (iv r)∧St w w' []):=by
 obtain rfl:=h0.len
 unfold m_laws_heldLineS at hM
 refine calls_gx Tryz.func103 Tryz.ntmps103 rfl rfl ?_
 intro a f
 have S:=St.nil w
 revert a;refine sr (ov rfl (fun a f=>run_assign rfl rfl) fun a f=>wn ?_)
 refine ws ?_
 revert a;refine sr (ov rfl (fun a f=>run_assign rfl rfl) fun a f=>wn ?_)
 obtain ⟨o102,hM103,hM⟩:=bind_ex hM
 refine wp_cut (fun a u=>∃ (p101:Int),(Sum.inl p101)=o102∧Fr a 40 [(1,iv p101),(4,iv 0)]∧St w u []) ?_ ?_
 ·have _:=trivial
  refine wp_block ?_
  refine loop_gw (fun m a u=>∃ (p104:Int×Int),m_laws_heldLineS_l1 x0 m p104=some _∧Fr a 40 [(0,.slice A0 x0.length c0),(1,iv p104.1),(4,iv 0),(5,iv p104.2)]∧St w u []) FUEL ⟨(x1,0),hM103,f.keep _ ⟨rfl,rfl,rfl,rfl,trivial⟩,S.sel [] rfl rfl⟩ ?_
  clear f S hM103;rintro m a u ⟨p104,hM103,f,S⟩
  rcases m with _ | f1
  ·exact none_some hM103
  rw [m_laws_heldLineS_l1.eq_2] at hM103
  refine ws ?_
  revert a;refine sr (mv rfl rfl (mv rfl rfl (ov rfl (fun a f=>run_lenL rfl rfl Tryz.underlying35 (f.ev rfl)) (ov rfl (fun a f=>run_lss (f.ev rfl) (f.ev rfl) rfl) fun a f=>wn ?_))))
  cases hc105:(ltB p104.2 (x0.length:Int))
  ·replace hM103:=bif_f hc105 hM103
   refine cond_f f rfl hc105 ?_
   refine wp_exit ?_
   repeat with_reducible first|apply then_exit|apply in_hit|refine in_miss rfl ?_
   obtain rfl:=Option.some.inj hM103
   exact ⟨p104.1,rfl,f.keep _ ⟨rfl,rfl,trivial⟩,S.sel [] rfl rfl⟩
  replace hM103:=bif_t hc105 hM103
  refine cond_t f rfl hc105 ?_
  refine wp_skip ?_
  refine ws ?_
  refine wp_block ?_
  refine ws ?_
  revert a;refine sr (mv rfl rfl (mv rfl rfl fun a f=>?_))
  obtain ⟨hk106,hM103⟩:=chk_ex hM103
  replace hk106:=ixB_t hk106
  revert a;refine ov rfl (fun a f=>run_ix rfl Tryz.underlying35 sz130 (f.ev rfl) (S.rc0 h0.rc) (f.ev rfl) hk106) (ov rfl (fun a f=>run_fieldAddr rfl fl130_0 (f.ev rfl) rfl) (ov rfl (fun a f=>run_load1 rfl one3 (f.ev rfl) (rd_el0 (l:=x0) (S.rc0 h0.rc).rd rfl eLine_len (0,0,0) (ix_ltn hk106 rfl) rfl)) (mv rfl rfl (ov rfl (fun a f=>run_neq (f.ev rfl) (f.ev rfl) rfl) fun a f=>wn ?_))))
  cases hc107:(((x0.getD p104.2.toNat (0,0,0)).1) != p104.1)
  ·replace hM103:=bif_f hc107 hM103
   refine cond_f f rfl hc107 ?_
   refine wp_skip ?_
   revert a;refine sr (mv rfl rfl (ov rfl (fun a f=>run_add (z:=w64 (p104.1+1)) (f.ev rfl) rfl rfl rfl) (ag rfl rfl fun a f=>wn ?_)))
   refine ws ?_
   revert a;refine sr (mv rfl rfl (mv rfl rfl fun a f=>?_))
   obtain ⟨hk108,hM103⟩:=chk_ex hM103
   replace hk108:=ixB_t hk108
   revert a;refine ov rfl (fun a f=>run_ix rfl Tryz.underlying35 sz130 (f.ev rfl) (S.rc0 h0.rc) (f.ev rfl) hk108) (ov rfl (fun a f=>run_fieldAddr rfl fl130_1 (f.ev rfl) rfl) (ov rfl (fun a f=>run_load1 rfl one3 (f.ev rfl) (rd_el (l:=x0) (S.rc0 h0.rc).rd rfl eLine_len (0,0,0) (ix_ltn hk108 rfl) rfl)) (mv rfl rfl (ov rfl (fun a f=>run_neq (f.ev rfl) (f.ev rfl) rfl) fun a f=>wn ?_))))
   cases hc109:(((x0.getD p104.2.toNat (0,0,0)).2.1) != (w64 (p104.1+1)))
   ·replace hM103:=bif_f hc109 hM103
    refine cond_f f rfl hc109 ?_
    refine wp_skip ?_
    revert a;refine sr (mv rfl rfl (ov rfl (fun a f=>run_add (z:=w64 ((w64 (p104.1+1))+1)) (f.ev rfl) rfl rfl rfl) (ag rfl rfl fun a f=>wn ?_)))
    refine ws ?_
    revert a;refine sr (mv rfl rfl (mv rfl rfl fun a f=>?_))
    obtain ⟨hk110,hM103⟩:=chk_ex hM103
    replace hk110:=ixB_t hk110
    revert a;refine ov rfl (fun a f=>run_ix rfl Tryz.underlying35 sz130 (f.ev rfl) (S.rc0 h0.rc) (f.ev rfl) hk110) (ov rfl (fun a f=>run_fieldAddr rfl fl130_2 (f.ev rfl) rfl) (ov rfl (fun a f=>run_load1 rfl one3 (f.ev rfl) (rd_el (l:=x0) (S.rc0 h0.rc).rd rfl eLine_len (0,0,0) (ix_ltn hk110 rfl) rfl)) (mv rfl rfl (ov rfl (fun a f=>run_neq (f.ev rfl) (f.ev rfl) rfl) fun a f=>wn ?_))))
    cases hc111:(((x0.getD p104.2.toNat (0,0,0)).2.2) != (w64 ((w64 (p104.1+1))+1)))
    ·replace hM103:=bif_f hc111 hM103
     refine cond_f f rfl hc111 ?_
     refine wp_skip ?_
     revert a;refine rl (mv rfl rfl (ov rfl (fun a f=>run_add (z:=w64 ((w64 ((w64 (p104.1+1))+1))+1)) (f.ev rfl) rfl rfl rfl) (ag rfl rfl fun a f=>wn ?_)))
     revert a;refine rl (mv rfl rfl (ov rfl (fun a f=>run_add (z:=w64 (p104.2+1)) (f.ev rfl) rfl rfl rfl) (ag rfl rfl fun a f=>wn ?_)))
     exact ⟨f1,Nat.lt_succ_self _,(w64 ((w64 ((w64 (p104.1+1))+1))+1),w64 (p104.2+1)),hM103,f.keep _ ⟨rfl,rfl,rfl,rfl,trivial⟩,S.sel [] rfl rfl⟩
    replace hM103:=bif_t hc111 hM103
    refine cond_t f rfl hc111 ?_
    revert a;refine sr (ov rfl (fun a f=>run_assign rfl rfl) fun a f=>wn ?_)
    refine wp_ret ?_
    repeat with_reducible first|apply tr|apply ir|apply nr
    refine ret1_gw (.inl rfl) f rfl (res_tmp (f.ev rfl)) ?_
    obtain rfl:=Option.some.inj hM103
    obtain rfl:=Option.some.inj hM
    exact ⟨rfl,S.sel [] rfl rfl⟩
   replace hM103:=bif_t hc109 hM103
   refine cond_t f rfl hc109 ?_
   revert a;refine sr (ov rfl (fun a f=>run_assign rfl rfl) fun a f=>wn ?_)
   refine wp_ret ?_
   repeat with_reducible first|apply tr|apply ir|apply nr
   refine ret1_gw (.inl rfl) f rfl (res_tmp (f.ev rfl)) ?_
   obtain rfl:=Option.some.inj hM103
   obtain rfl:=Option.some.inj hM
   exact ⟨rfl,S.sel [] rfl rfl⟩
  replace hM103:=bif_t hc107 hM103
  refine cond_t f rfl hc107 ?_
  revert a;refine sr (ov rfl (fun a f=>run_assign rfl rfl) fun a f=>wn ?_)
  refine wp_ret ?_
  repeat with_reducible first|apply tr|apply ir|apply nr
  refine ret1_gw (.inl rfl) f rfl (res_tmp (f.ev rfl)) ?_
  obtain rfl:=Option.some.inj hM103
  obtain rfl:=Option.some.inj hM
  exact ⟨rfl,S.sel [] rfl rfl⟩
 rintro a u ⟨p101,rfl,f,S⟩
 replace hM:=elim_l hM
 revert a;refine sr (mv rfl rfl (ag rfl rfl fun a f=>wn ?_))
 refine wp_ret ?_
 refine ret1_gw (.inl rfl) f rfl (res_tmp (f.ev rfl)) ?_
 obtain rfl:=Option.some.inj hM
 exact ⟨rfl,S.sel [] rfl rfl⟩
theorem c_laws_heldNet {x0:Int} {x1:List (Int×Int×Int)} {x2:Int} {A1:Option Addr} {n1 c1:Nat} {w:World} {r:Int} (h1:Rt w 3 eLine A1 n1 c1 x1) (hM : m_laws_heldNet x0 x1 x2=some r) :
  Calls Tryz.prog 61 #[.agg #[iv x0,.slice A1 n1 c1],iv x2] w (fun e w'=>e=.returned (iv r)∧St w w' []):=by
 obtain rfl:=h1.len
 unfold m_laws_heldNet at hM
 refine calls_gx Tryz.func61 Tryz.ntmps61 rfl rfl ?_
 intro a f
 have S:=St.nil w
 refine wsg ?_
 refine op_new (cs:=#[iv x0,.slice A1 x1.length c1]) rfl rfl f rfl S (run_box rfl (f.ev rfl) rfl) ?_;clear f S;intro a g101 u f S
 revert a;refine ov rfl (fun a f=>run_assign rfl rfl) fun a f=>wn ?_
 revert a;refine sr (ov rfl (fun a f=>run_fieldAddr rfl fl37_1 (f.ev rfl) rfl) (ov rfl (fun a f=>run_load1 rfl one35 (f.ev rfl) (S.cell 0 rfl rfl)) (mv rfl rfl fun a f=>?_)))
 obtain ⟨p102,h102,hM⟩:=bind_ex hM
 refine op_call rfl rfl f rfl (run_call (vs:=[_,_]) rfl rfl co103 ⟨(f.ev rfl),(f.ev rfl),trivial⟩) (c_laws_heldLineS ⟨(S.rc0 h1.rc),rfl⟩ h102) ?_
 rintro e u ⟨rfl,T⟩
 refine ⟨_,rfl,?_⟩
 clear f;intro a f
 replace S:=S.call0 T;clear T
 revert a;refine ag rfl rfl fun a f=>wn ?_
 refine ws ?_
 revert a;refine sr (mv rfl rfl (ov rfl (fun a f=>run_lss (f.ev rfl) rfl rfl) fun a f=>wn ?_))
 cases hc103:(ltB p102 0)
 ·replace hM:=bif_f hc103 hM
  refine cond_f f rfl hc103 ?_
  refine wp_skip ?_
  revert a;refine sr (mv rfl rfl (ag rfl rfl fun a f=>wn ?_))
  refine wp_ret ?_
  refine ret1_gw (.inl rfl) f rfl (res_tmp (f.ev rfl)) ?_
  obtain rfl:=Option.some.inj hM
  exact ⟨rfl,S.sel [] rfl rfl⟩
 replace hM:=bif_t hc103 hM
 refine cond_t f rfl hc103 ?_
 revert a;refine sr (ov rfl (fun a f=>run_assign rfl rfl) fun a f=>wn ?_)
 refine wp_ret ?_
 repeat with_reducible first|apply tr|apply ir|apply nr
 refine ret1_gw (.inl rfl) f rfl (res_tmp (f.ev rfl)) ?_
 obtain rfl:=Option.some.inj hM
 exact ⟨rfl,S.sel [] rfl rfl⟩
theorem c_laws_heldBusS {x0:List (Int×Int)} {x1:Int} {A0:Option Addr} {n0 c0:Nat} {w:World} {r:Int} (h0:Rt w 2 eBus A0 n0 c0 x0) (hM : m_laws_heldBusS x0 x1=some r) :
  Calls Tryz.prog 62 #[.slice A0 n0 c0,iv x1] w (fun e w'=>e=.returned (iv r)∧St w w' []):=by
 obtain rfl:=h0.len
 unfold m_laws_heldBusS at hM
 refine calls_gx Tryz.func62 Tryz.ntmps62 rfl rfl ?_
 intro a f
 have S:=St.nil w
 revert a;refine sr (ov rfl (fun a f=>run_assign rfl rfl) fun a f=>wn ?_)
 refine ws ?_
 revert a;refine sr (ov rfl (fun a f=>run_assign rfl rfl) fun a f=>wn ?_)
 obtain ⟨o102,hM103,hM⟩:=bind_ex hM
 refine wp_cut (fun a u=>∃ (p101:Int),(Sum.inl p101)=o102∧Fr a 31 [(1,iv p101),(4,iv 0)]∧St w u []) ?_ ?_
 ·have _:=trivial
  refine wp_block ?_
  refine loop_gw (fun m a u=>∃ (p104:Int×Int),m_laws_heldBusS_l1 x0 m p104=some _∧Fr a 31 [(0,.slice A0 x0.length c0),(1,iv p104.1),(4,iv 0),(5,iv p104.2)]∧St w u []) FUEL ⟨(x1,0),hM103,f.keep _ ⟨rfl,rfl,rfl,rfl,trivial⟩,S.sel [] rfl rfl⟩ ?_
  clear f S hM103;rintro m a u ⟨p104,hM103,f,S⟩
  rcases m with _ | f1
  ·exact none_some hM103
  rw [m_laws_heldBusS_l1.eq_2] at hM103
  refine ws ?_
  revert a;refine sr (mv rfl rfl (mv rfl rfl (ov rfl (fun a f=>run_lenL rfl rfl Tryz.underlying38 (f.ev rfl)) (ov rfl (fun a f=>run_lss (f.ev rfl) (f.ev rfl) rfl) fun a f=>wn ?_))))
  cases hc105:(ltB p104.2 (x0.length:Int))
  ·replace hM103:=bif_f hc105 hM103
   refine cond_f f rfl hc105 ?_
   refine wp_exit ?_
   repeat with_reducible first|apply then_exit|apply in_hit|refine in_miss rfl ?_
   obtain rfl:=Option.some.inj hM103
   exact ⟨p104.1,rfl,f.keep _ ⟨rfl,rfl,trivial⟩,S.sel [] rfl rfl⟩
  replace hM103:=bif_t hc105 hM103
  refine cond_t f rfl hc105 ?_
  refine wp_skip ?_
  refine ws ?_
  refine wp_block ?_
  refine ws ?_
  revert a;refine sr (mv rfl rfl (mv rfl rfl fun a f=>?_))
  obtain ⟨hk106,hM103⟩:=chk_ex hM103
  replace hk106:=ixB_t hk106
  revert a;refine ov rfl (fun a f=>run_ix rfl Tryz.underlying38 sz110 (f.ev rfl) (S.rc0 h0.rc) (f.ev rfl) hk106) (ov rfl (fun a f=>run_fieldAddr rfl fl110_0 (f.ev rfl) rfl) (ov rfl (fun a f=>run_load1 rfl one3 (f.ev rfl) (rd_el0 (l:=x0) (S.rc0 h0.rc).rd rfl eBus_len (0,0) (ix_ltn hk106 rfl) rfl)) (mv rfl rfl (ov rfl (fun a f=>run_neq (f.ev rfl) (f.ev rfl) rfl) fun a f=>wn ?_))))
  cases hc107:(((x0.getD p104.2.toNat (0,0)).1) != p104.1)
  ·replace hM103:=bif_f hc107 hM103
   refine cond_f f rfl hc107 ?_
   refine wp_skip ?_
   revert a;refine sr (mv rfl rfl (ov rfl (fun a f=>run_add (z:=w64 (p104.1+1)) (f.ev rfl) rfl rfl rfl) (ag rfl rfl fun a f=>wn ?_)))
   refine ws ?_
   revert a;refine sr (mv rfl rfl (mv rfl rfl fun a f=>?_))
   obtain ⟨hk108,hM103⟩:=chk_ex hM103
   replace hk108:=ixB_t hk108
   revert a;refine ov rfl (fun a f=>run_ix rfl Tryz.underlying38 sz110 (f.ev rfl) (S.rc0 h0.rc) (f.ev rfl) hk108) (ov rfl (fun a f=>run_fieldAddr rfl fl110_1 (f.ev rfl) rfl) (ov rfl (fun a f=>run_load1 rfl one3 (f.ev rfl) (rd_el (l:=x0) (S.rc0 h0.rc).rd rfl eBus_len (0,0) (ix_ltn hk108 rfl) rfl)) (mv rfl rfl (ov rfl (fun a f=>run_neq (f.ev rfl) (f.ev rfl) rfl) fun a f=>wn ?_))))
   cases hc109:(((x0.getD p104.2.toNat (0,0)).2) != (w64 (p104.1+1)))
   ·replace hM103:=bif_f hc109 hM103
    refine cond_f f rfl hc109 ?_
    refine wp_skip ?_
    revert a;refine rl (mv rfl rfl (ov rfl (fun a f=>run_add (z:=w64 ((w64 (p104.1+1))+1)) (f.ev rfl) rfl rfl rfl) (ag rfl rfl fun a f=>wn ?_)))
    revert a;refine rl (mv rfl rfl (ov rfl (fun a f=>run_add (z:=w64 (p104.2+1)) (f.ev rfl) rfl rfl rfl) (ag rfl rfl fun a f=>wn ?_)))
    exact ⟨f1,Nat.lt_succ_self _,(w64 ((w64 (p104.1+1))+1),w64 (p104.2+1)),hM103,f.keep _ ⟨rfl,rfl,rfl,rfl,trivial⟩,S.sel [] rfl rfl⟩
   replace hM103:=bif_t hc109 hM103
   refine cond_t f rfl hc109 ?_
   revert a;refine sr (ov rfl (fun a f=>run_assign rfl rfl) fun a f=>wn ?_)
   refine wp_ret ?_
   repeat with_reducible first|apply tr|apply ir|apply nr
   refine ret1_gw (.inl rfl) f rfl (res_tmp (f.ev rfl)) ?_
   obtain rfl:=Option.some.inj hM103
   obtain rfl:=Option.some.inj hM
   exact ⟨rfl,S.sel [] rfl rfl⟩
  replace hM103:=bif_t hc107 hM103
  refine cond_t f rfl hc107 ?_
  revert a;refine sr (ov rfl (fun a f=>run_assign rfl rfl) fun a f=>wn ?_)
  refine wp_ret ?_
  repeat with_reducible first|apply tr|apply ir|apply nr
  refine ret1_gw (.inl rfl) f rfl (res_tmp (f.ev rfl)) ?_
  obtain rfl:=Option.some.inj hM103
  obtain rfl:=Option.some.inj hM
  exact ⟨rfl,S.sel [] rfl rfl⟩
 rintro a u ⟨p101,rfl,f,S⟩
 replace hM:=elim_l hM
 revert a;refine sr (mv rfl rfl (ag rfl rfl fun a f=>wn ?_))
 refine wp_ret ?_
 refine ret1_gw (.inl rfl) f rfl (res_tmp (f.ev rfl)) ?_
 obtain rfl:=Option.some.inj hM
 exact ⟨rfl,S.sel [] rfl rfl⟩
theorem c_laws_heldBoolS {x0:List Bool} {x1:Int} {A0:Option Addr} {n0 c0:Nat} {w:World} {r:Int} (h0:Rt w 1 eB A0 n0 c0 x0) (hM : m_laws_heldBoolS x0 x1=some r) :
  Calls Tryz.prog 104 #[.slice A0 n0 c0,iv x1] w (fun e w'=>e=.returned (iv r)∧St w w' []):=by
 obtain rfl:=h0.len
 unfold m_laws_heldBoolS at hM
 refine calls_gx Tryz.func104 Tryz.ntmps104 rfl rfl ?_
 intro a f
 have S:=St.nil w
 revert a;refine sr (ov rfl (fun a f=>run_assign rfl rfl) fun a f=>wn ?_)
 refine ws ?_
 revert a;refine sr (ov rfl (fun a f=>run_assign rfl rfl) fun a f=>wn ?_)
 obtain ⟨o102,hM103,hM⟩:=bind_ex hM
 refine wp_cut (fun a u=>∃ (p101:Int),(Sum.inl p101)=o102∧Fr a 23 [(1,iv p101),(4,iv 0)]∧St w u []) ?_ ?_
 ·have _:=trivial
  refine wp_block ?_
  refine loop_gw (fun m a u=>∃ (p104:Int×Int),m_laws_heldBoolS_l1 x0 m p104=some _∧Fr a 23 [(0,.slice A0 x0.length c0),(1,iv p104.1),(4,iv 0),(5,iv p104.2)]∧St w u []) FUEL ⟨(x1,0),hM103,f.keep _ ⟨rfl,rfl,rfl,rfl,trivial⟩,S.sel [] rfl rfl⟩ ?_
  clear f S hM103;rintro m a u ⟨p104,hM103,f,S⟩
  rcases m with _ | f1
  ·exact none_some hM103
  rw [m_laws_heldBoolS_l1.eq_2] at hM103
  refine ws ?_
  revert a;refine sr (mv rfl rfl (mv rfl rfl (ov rfl (fun a f=>run_lenL rfl rfl Tryz.underlying26 (f.ev rfl)) (ov rfl (fun a f=>run_lss (f.ev rfl) (f.ev rfl) rfl) fun a f=>wn ?_))))
  cases hc105:(ltB p104.2 (x0.length:Int))
  ·replace hM103:=bif_f hc105 hM103
   refine cond_f f rfl hc105 ?_
   refine wp_exit ?_
   repeat with_reducible first|apply then_exit|apply in_hit|refine in_miss rfl ?_
   obtain rfl:=Option.some.inj hM103
   exact ⟨p104.1,rfl,f.keep _ ⟨rfl,rfl,trivial⟩,S.sel [] rfl rfl⟩
  replace hM103:=bif_t hc105 hM103
  refine cond_t f rfl hc105 ?_
  refine wp_skip ?_
  refine ws ?_
  refine wp_block ?_
  refine ws ?_
  revert a;refine sr (mv rfl rfl (mv rfl rfl fun a f=>?_))
  obtain ⟨hk106,hM103⟩:=chk_ex hM103
  replace hk106:=ixB_t hk106
  revert a;refine ov rfl (fun a f=>run_ix rfl Tryz.underlying26 sz4 (f.ev rfl) (S.rc0 h0.rc) (f.ev rfl) hk106) (ov rfl (fun a f=>run_load1 rfl one4 (f.ev rfl) (rd_el0 (l:=x0) (S.rc0 h0.rc).rd rfl eB_len false (ix_ltn hk106 rfl) rfl)) (mv rfl rfl (ov rfl (fun a f=>run_rem (z:=Int.tmod p104.1 3) (f.ev rfl) rfl rfl (by decide) rfl) (ov rfl (fun a f=>run_eql (f.ev rfl) rfl rfl) (ov rfl (fun a f=>run_neqB (f.ev rfl) (f.ev rfl) Tryz.underlying4 rfl) fun a f=>wn ?_)))))
  cases hc107:((x0.getD p104.2.toNat false) != ((Int.tmod p104.1 3)==0))
  ·replace hM103:=bif_f hc107 hM103
   refine cond_f f rfl hc107 ?_
   refine wp_skip ?_
   revert a;refine rl (mv rfl rfl (ov rfl (fun a f=>run_add (z:=w64 (p104.1+1)) (f.ev rfl) rfl rfl rfl) (ag rfl rfl fun a f=>wn ?_)))
   revert a;refine rl (mv rfl rfl (ov rfl (fun a f=>run_add (z:=w64 (p104.2+1)) (f.ev rfl) rfl rfl rfl) (ag rfl rfl fun a f=>wn ?_)))
   exact ⟨f1,Nat.lt_succ_self _,(w64 (p104.1+1),w64 (p104.2+1)),hM103,f.keep _ ⟨rfl,rfl,rfl,rfl,trivial⟩,S.sel [] rfl rfl⟩
  replace hM103:=bif_t hc107 hM103
  refine cond_t f rfl hc107 ?_
  revert a;refine sr (ov rfl (fun a f=>run_assign rfl rfl) fun a f=>wn ?_)
  refine wp_ret ?_
  repeat with_reducible first|apply tr|apply ir|apply nr
  refine ret1_gw (.inl rfl) f rfl (res_tmp (f.ev rfl)) ?_
  obtain rfl:=Option.some.inj hM103
  obtain rfl:=Option.some.inj hM
  exact ⟨rfl,S.sel [] rfl rfl⟩
 rintro a u ⟨p101,rfl,f,S⟩
 replace hM:=elim_l hM
 revert a;refine sr (mv rfl rfl (ag rfl rfl fun a f=>wn ?_))
 refine wp_ret ?_
 refine ret1_gw (.inl rfl) f rfl (res_tmp (f.ev rfl)) ?_
 obtain rfl:=Option.some.inj hM
 exact ⟨rfl,S.sel [] rfl rfl⟩
theorem c_laws_heldPermitS {x0:List (Int×Int)} {x1:Int} {A0:Option Addr} {n0 c0:Nat} {w:World} {r:Int} (h0:Rt w 2 ePermit A0 n0 c0 x0) (hM : m_laws_heldPermitS x0 x1=some r) :
  Calls Tryz.prog 105 #[.slice A0 n0 c0,iv x1] w (fun e w'=>e=.returned (iv r)∧St w w' []):=by
 obtain rfl:=h0.len
 unfold m_laws_heldPermitS at hM
 refine calls_gx Tryz.func105 Tryz.ntmps105 rfl rfl ?_
 intro a f
 have S:=St.nil w
 revert a;refine sr (ov rfl (fun a f=>run_assign rfl rfl) fun a f=>wn ?_)
 refine ws ?_
 revert a;refine sr (ov rfl (fun a f=>run_assign rfl rfl) fun a f=>wn ?_)
 obtain ⟨o102,hM103,hM⟩:=bind_ex hM
 refine wp_cut (fun a u=>∃ (p101:Int),(Sum.inl p101)=o102∧Fr a 31 [(1,iv p101),(4,iv 0)]∧St w u []) ?_ ?_
 ·have _:=trivial
  refine wp_block ?_
  refine loop_gw (fun m a u=>∃ (p104:Int×Int),m_laws_heldPermitS_l1 x0 m p104=some _∧Fr a 31 [(0,.slice A0 x0.length c0),(1,iv p104.1),(4,iv 0),(5,iv p104.2)]∧St w u []) FUEL ⟨(x1,0),hM103,f.keep _ ⟨rfl,rfl,rfl,rfl,trivial⟩,S.sel [] rfl rfl⟩ ?_
  clear f S hM103;rintro m a u ⟨p104,hM103,f,S⟩
  rcases m with _ | f1
  ·exact none_some hM103
  rw [m_laws_heldPermitS_l1.eq_2] at hM103
  refine ws ?_
  revert a;refine sr (mv rfl rfl (mv rfl rfl (ov rfl (fun a f=>run_lenL rfl rfl Tryz.underlying39 (f.ev rfl)) (ov rfl (fun a f=>run_lss (f.ev rfl) (f.ev rfl) rfl) fun a f=>wn ?_))))
  cases hc105:(ltB p104.2 (x0.length:Int))
  ·replace hM103:=bif_f hc105 hM103
   refine cond_f f rfl hc105 ?_
   refine wp_exit ?_
   repeat with_reducible first|apply then_exit|apply in_hit|refine in_miss rfl ?_
   obtain rfl:=Option.some.inj hM103
   exact ⟨p104.1,rfl,f.keep _ ⟨rfl,rfl,trivial⟩,S.sel [] rfl rfl⟩
  replace hM103:=bif_t hc105 hM103
  refine cond_t f rfl hc105 ?_
  refine wp_skip ?_
  refine ws ?_
  refine wp_block ?_
  refine ws ?_
  revert a;refine sr (mv rfl rfl (mv rfl rfl fun a f=>?_))
  obtain ⟨hk106,hM103⟩:=chk_ex hM103
  replace hk106:=ixB_t hk106
  revert a;refine ov rfl (fun a f=>run_ix rfl Tryz.underlying39 sz78 (f.ev rfl) (S.rc0 h0.rc) (f.ev rfl) hk106) (ov rfl (fun a f=>run_fieldAddr rfl fl78_0 (f.ev rfl) rfl) (ov rfl (fun a f=>run_load1 rfl one3 (f.ev rfl) (rd_el0 (l:=x0) (S.rc0 h0.rc).rd rfl ePermit_len (0,0) (ix_ltn hk106 rfl) rfl)) (mv rfl rfl (ov rfl (fun a f=>run_neq (f.ev rfl) (f.ev rfl) rfl) fun a f=>wn ?_))))
  cases hc107:(((x0.getD p104.2.toNat (0,0)).1) != p104.1)
  ·replace hM103:=bif_f hc107 hM103
   refine cond_f f rfl hc107 ?_
   refine wp_skip ?_
   revert a;refine sr (mv rfl rfl (ov rfl (fun a f=>run_add (z:=w64 (p104.1+1)) (f.ev rfl) rfl rfl rfl) (ag rfl rfl fun a f=>wn ?_)))
   refine ws ?_
   revert a;refine sr (mv rfl rfl (mv rfl rfl fun a f=>?_))
   obtain ⟨hk108,hM103⟩:=chk_ex hM103
   replace hk108:=ixB_t hk108
   revert a;refine ov rfl (fun a f=>run_ix rfl Tryz.underlying39 sz78 (f.ev rfl) (S.rc0 h0.rc) (f.ev rfl) hk108) (ov rfl (fun a f=>run_fieldAddr rfl fl78_1 (f.ev rfl) rfl) (ov rfl (fun a f=>run_load1 rfl one3 (f.ev rfl) (rd_el (l:=x0) (S.rc0 h0.rc).rd rfl ePermit_len (0,0) (ix_ltn hk108 rfl) rfl)) (mv rfl rfl (ov rfl (fun a f=>run_neq (f.ev rfl) (f.ev rfl) rfl) fun a f=>wn ?_))))
   cases hc109:(((x0.getD p104.2.toNat (0,0)).2) != (w64 (p104.1+1)))
   ·replace hM103:=bif_f hc109 hM103
    refine cond_f f rfl hc109 ?_
    refine wp_skip ?_
    revert a;refine rl (mv rfl rfl (ov rfl (fun a f=>run_add (z:=w64 ((w64 (p104.1+1))+1)) (f.ev rfl) rfl rfl rfl) (ag rfl rfl fun a f=>wn ?_)))
    revert a;refine rl (mv rfl rfl (ov rfl (fun a f=>run_add (z:=w64 (p104.2+1)) (f.ev rfl) rfl rfl rfl) (ag rfl rfl fun a f=>wn ?_)))
    exact ⟨f1,Nat.lt_succ_self _,(w64 ((w64 (p104.1+1))+1),w64 (p104.2+1)),hM103,f.keep _ ⟨rfl,rfl,rfl,rfl,trivial⟩,S.sel [] rfl rfl⟩
   replace hM103:=bif_t hc109 hM103
   refine cond_t f rfl hc109 ?_
   revert a;refine sr (ov rfl (fun a f=>run_assign rfl rfl) fun a f=>wn ?_)
   refine wp_ret ?_
   repeat with_reducible first|apply tr|apply ir|apply nr
   refine ret1_gw (.inl rfl) f rfl (res_tmp (f.ev rfl)) ?_
   obtain rfl:=Option.some.inj hM103
   obtain rfl:=Option.some.inj hM
   exact ⟨rfl,S.sel [] rfl rfl⟩
  replace hM103:=bif_t hc107 hM103
  refine cond_t f rfl hc107 ?_
  revert a;refine sr (ov rfl (fun a f=>run_assign rfl rfl) fun a f=>wn ?_)
  refine wp_ret ?_
  repeat with_reducible first|apply tr|apply ir|apply nr
  refine ret1_gw (.inl rfl) f rfl (res_tmp (f.ev rfl)) ?_
  obtain rfl:=Option.some.inj hM103
  obtain rfl:=Option.some.inj hM
  exact ⟨rfl,S.sel [] rfl rfl⟩
 rintro a u ⟨p101,rfl,f,S⟩
 replace hM:=elim_l hM
 revert a;refine sr (mv rfl rfl (ag rfl rfl fun a f=>wn ?_))
 refine wp_ret ?_
 refine ret1_gw (.inl rfl) f rfl (res_tmp (f.ev rfl)) ?_
 obtain rfl:=Option.some.inj hM
 exact ⟨rfl,S.sel [] rfl rfl⟩
theorem c_laws_heldWork {x0:List Bool} {x1:List Bool} {x2:List (Int×Int)} {x3:Int} {A0:Option Addr} {n0 c0:Nat} {A1:Option Addr} {n1 c1:Nat} {A2:Option Addr} {n2 c2:Nat} {w:World} {r:Int} (h0:Rt w 1 eB A0 n0 c0 x0) (h1:Rt w 1 eB A1 n1 c1 x1) (h2:Rt w 2 ePermit A2 n2 c2 x2) (hM : m_laws_heldWork x0 x1 x2 x3=some r) :
  Calls Tryz.prog 63 #[.agg #[.slice A0 n0 c0,.slice A1 n1 c1,.slice A2 n2 c2],iv x3] w (fun e w'=>e=.returned (iv r)∧St w w' []):=by
 obtain rfl:=h0.len
 obtain rfl:=h1.len
 obtain rfl:=h2.len
 unfold m_laws_heldWork at hM
 refine calls_gx Tryz.func63 Tryz.ntmps63 rfl rfl ?_
 intro a f
 have S:=St.nil w
 refine wsg ?_
 refine op_new (cs:=#[.slice A0 x0.length c0,.slice A1 x1.length c1,.slice A2 x2.length c2]) rfl rfl f rfl S (run_box rfl (f.ev rfl) rfl) ?_;clear f S;intro a g101 u f S
 revert a;refine ov rfl (fun a f=>run_assign rfl rfl) fun a f=>wn ?_
 revert a;refine sr (ov rfl (fun a f=>run_fieldAddr rfl fl41_0 (f.ev rfl) rfl) (ov rfl (fun a f=>run_load1 rfl one26 (f.ev rfl) (S.cell 0 rfl rfl)) (mv rfl rfl fun a f=>?_)))
 obtain ⟨p102,h102,hM⟩:=bind_ex hM
 refine op_call rfl rfl f rfl (run_call (vs:=[_,_]) rfl rfl co104 ⟨(f.ev rfl),(f.ev rfl),trivial⟩) (c_laws_heldBoolS ⟨(S.rc0 h0.rc),rfl⟩ h102) ?_
 rintro e u ⟨rfl,T⟩
 refine ⟨_,rfl,?_⟩
 clear f;intro a f
 replace S:=S.call0 T;clear T
 revert a;refine ag rfl rfl fun a f=>wn ?_
 refine ws ?_
 revert a;refine sr (mv rfl rfl (ov rfl (fun a f=>run_lss (f.ev rfl) rfl rfl) fun a f=>wn ?_))
 cases hc103:(ltB p102 0)
 ·replace hM:=bif_f hc103 hM
  refine cond_f f rfl hc103 ?_
  refine wp_skip ?_
  revert a;refine sr (ov rfl (fun a f=>run_fieldAddr rfl fl41_1 (f.ev rfl) rfl) (ov rfl (fun a f=>run_load1 rfl one26 (f.ev rfl) (S.cell 0 rfl rfl)) (mv rfl rfl fun a f=>?_)))
  obtain ⟨p104,h104,hM⟩:=bind_ex hM
  refine op_call rfl rfl f rfl (run_call (vs:=[_,_]) rfl rfl co104 ⟨(f.ev rfl),(f.ev rfl),trivial⟩) (c_laws_heldBoolS ⟨(S.rc0 h1.rc),rfl⟩ h104) ?_
  rintro e u ⟨rfl,T⟩
  refine ⟨_,rfl,?_⟩
  clear f;intro a f
  replace S:=S.call0 T;clear T
  revert a;refine ag rfl rfl fun a f=>wn ?_
  refine ws ?_
  revert a;refine sr (mv rfl rfl (ov rfl (fun a f=>run_lss (f.ev rfl) rfl rfl) fun a f=>wn ?_))
  cases hc105:(ltB p104 0)
  ·replace hM:=bif_f hc105 hM
   refine cond_f f rfl hc105 ?_
   refine wp_skip ?_
   revert a;refine sr (ov rfl (fun a f=>run_fieldAddr rfl fl41_2 (f.ev rfl) rfl) (ov rfl (fun a f=>run_load1 rfl one39 (f.ev rfl) (S.cell 0 rfl rfl)) (mv rfl rfl fun a f=>?_)))
   obtain ⟨p106,h106,hM⟩:=bind_ex hM
   refine op_call rfl rfl f rfl (run_call (vs:=[_,_]) rfl rfl co105 ⟨(f.ev rfl),(f.ev rfl),trivial⟩) (c_laws_heldPermitS ⟨(S.rc0 h2.rc),rfl⟩ h106) ?_
   rintro e u ⟨rfl,T⟩
   refine ⟨_,rfl,?_⟩
   clear f;intro a f
   replace S:=S.call0 T;clear T
   revert a;refine ag rfl rfl fun a f=>wn ?_
   refine ws ?_
   revert a;refine sr (mv rfl rfl (ov rfl (fun a f=>run_lss (f.ev rfl) rfl rfl) fun a f=>wn ?_))
   cases hc107:(ltB p106 0)
   ·replace hM:=bif_f hc107 hM
    refine cond_f f rfl hc107 ?_
    refine wp_skip ?_
    revert a;refine sr (mv rfl rfl (ag rfl rfl fun a f=>wn ?_))
    refine wp_ret ?_
    refine ret1_gw (.inl rfl) f rfl (res_tmp (f.ev rfl)) ?_
    obtain rfl:=Option.some.inj hM
    exact ⟨rfl,S.sel [] rfl rfl⟩
   replace hM:=bif_t hc107 hM
   refine cond_t f rfl hc107 ?_
   revert a;refine sr (ov rfl (fun a f=>run_assign rfl rfl) fun a f=>wn ?_)
   refine wp_ret ?_
   repeat with_reducible first|apply tr|apply ir|apply nr
   refine ret1_gw (.inl rfl) f rfl (res_tmp (f.ev rfl)) ?_
   obtain rfl:=Option.some.inj hM
   exact ⟨rfl,S.sel [] rfl rfl⟩
  replace hM:=bif_t hc105 hM
  refine cond_t f rfl hc105 ?_
  revert a;refine sr (ov rfl (fun a f=>run_assign rfl rfl) fun a f=>wn ?_)
  refine wp_ret ?_
  repeat with_reducible first|apply tr|apply ir|apply nr
  refine ret1_gw (.inl rfl) f rfl (res_tmp (f.ev rfl)) ?_
  obtain rfl:=Option.some.inj hM
  exact ⟨rfl,S.sel [] rfl rfl⟩
 replace hM:=bif_t hc103 hM
 refine cond_t f rfl hc103 ?_
 revert a;refine sr (ov rfl (fun a f=>run_assign rfl rfl) fun a f=>wn ?_)
 refine wp_ret ?_
 repeat with_reducible first|apply tr|apply ir|apply nr
 refine ret1_gw (.inl rfl) f rfl (res_tmp (f.ev rfl)) ?_
 obtain rfl:=Option.some.inj hM
 exact ⟨rfl,S.sel [] rfl rfl⟩
theorem c_laws_heldIntS {x0:List Int} {x1:Int} {A0:Option Addr} {n0 c0:Nat} {w:World} {r:Int} (h0:Rt w 1 eI A0 n0 c0 x0) (hM : m_laws_heldIntS x0 x1=some r) :
  Calls Tryz.prog 64 #[.slice A0 n0 c0,iv x1] w (fun e w'=>e=.returned (iv r)∧St w w' []):=by
 obtain rfl:=h0.len
 unfold m_laws_heldIntS at hM
 refine calls_gx Tryz.func64 Tryz.ntmps64 rfl rfl ?_
 intro a f
 have S:=St.nil w
 revert a;refine sr (ov rfl (fun a f=>run_assign rfl rfl) fun a f=>wn ?_)
 refine ws ?_
 revert a;refine sr (ov rfl (fun a f=>run_assign rfl rfl) fun a f=>wn ?_)
 obtain ⟨o102,hM103,hM⟩:=bind_ex hM
 refine wp_cut (fun a u=>∃ (p101:Int),(Sum.inl p101)=o102∧Fr a 21 [(1,iv p101),(4,iv 0)]∧St w u []) ?_ ?_
 ·have _:=trivial
  refine wp_block ?_
  refine loop_gw (fun m a u=>∃ (p104:Int×Int),m_laws_heldIntS_l1 x0 m p104=some _∧Fr a 21 [(0,.slice A0 x0.length c0),(1,iv p104.1),(4,iv 0),(5,iv p104.2)]∧St w u []) FUEL ⟨(x1,0),hM103,f.keep _ ⟨rfl,rfl,rfl,rfl,trivial⟩,S.sel [] rfl rfl⟩ ?_
  clear f S hM103;rintro m a u ⟨p104,hM103,f,S⟩
  rcases m with _ | f1
  ·exact none_some hM103
  rw [m_laws_heldIntS_l1.eq_2] at hM103
  refine ws ?_
  revert a;refine sr (mv rfl rfl (mv rfl rfl (ov rfl (fun a f=>run_lenL rfl rfl Tryz.underlying30 (f.ev rfl)) (ov rfl (fun a f=>run_lss (f.ev rfl) (f.ev rfl) rfl) fun a f=>wn ?_))))
  cases hc105:(ltB p104.2 (x0.length:Int))
  ·replace hM103:=bif_f hc105 hM103
   refine cond_f f rfl hc105 ?_
   refine wp_exit ?_
   repeat with_reducible first|apply then_exit|apply in_hit|refine in_miss rfl ?_
   obtain rfl:=Option.some.inj hM103
   exact ⟨p104.1,rfl,f.keep _ ⟨rfl,rfl,trivial⟩,S.sel [] rfl rfl⟩
  replace hM103:=bif_t hc105 hM103
  refine cond_t f rfl hc105 ?_
  refine wp_skip ?_
  refine ws ?_
  refine wp_block ?_
  refine ws ?_
  revert a;refine sr (mv rfl rfl (mv rfl rfl fun a f=>?_))
  obtain ⟨hk106,hM103⟩:=chk_ex hM103
  replace hk106:=ixB_t hk106
  revert a;refine ov rfl (fun a f=>run_ix rfl Tryz.underlying30 sz3 (f.ev rfl) (S.rc0 h0.rc) (f.ev rfl) hk106) (ov rfl (fun a f=>run_load1 rfl one3 (f.ev rfl) (rd_el0 (l:=x0) (S.rc0 h0.rc).rd rfl eI_len 0 (ix_ltn hk106 rfl) rfl)) (mv rfl rfl (ov rfl (fun a f=>run_neq (f.ev rfl) (f.ev rfl) rfl) fun a f=>wn ?_)))
  cases hc107:((x0.getD p104.2.toNat 0) != p104.1)
  ·replace hM103:=bif_f hc107 hM103
   refine cond_f f rfl hc107 ?_
   refine wp_skip ?_
   revert a;refine rl (mv rfl rfl (ov rfl (fun a f=>run_add (z:=w64 (p104.1+1)) (f.ev rfl) rfl rfl rfl) (ag rfl rfl fun a f=>wn ?_)))
   revert a;refine rl (mv rfl rfl (ov rfl (fun a f=>run_add (z:=w64 (p104.2+1)) (f.ev rfl) rfl rfl rfl) (ag rfl rfl fun a f=>wn ?_)))
   exact ⟨f1,Nat.lt_succ_self _,(w64 (p104.1+1),w64 (p104.2+1)),hM103,f.keep _ ⟨rfl,rfl,rfl,rfl,trivial⟩,S.sel [] rfl rfl⟩
  replace hM103:=bif_t hc107 hM103
  refine cond_t f rfl hc107 ?_
  revert a;refine sr (ov rfl (fun a f=>run_assign rfl rfl) fun a f=>wn ?_)
  refine wp_ret ?_
  repeat with_reducible first|apply tr|apply ir|apply nr
  refine ret1_gw (.inl rfl) f rfl (res_tmp (f.ev rfl)) ?_
  obtain rfl:=Option.some.inj hM103
  obtain rfl:=Option.some.inj hM
  exact ⟨rfl,S.sel [] rfl rfl⟩
 rintro a u ⟨p101,rfl,f,S⟩
 replace hM:=elim_l hM
 revert a;refine sr (mv rfl rfl (ag rfl rfl fun a f=>wn ?_))
 refine wp_ret ?_
 refine ret1_gw (.inl rfl) f rfl (res_tmp (f.ev rfl)) ?_
 obtain rfl:=Option.some.inj hM
 exact ⟨rfl,S.sel [] rfl rfl⟩
theorem c_laws_heldWorld {x0:Int} {x1:List (Int×Int×Int)} {x2:List (Int×Int)} {x3:List Bool} {x4:List Bool} {x5:List (Int×Int)} {x6:List Int} {x7:Int} {A1:Option Addr} {n1 c1:Nat} {A2:Option Addr} {n2 c2:Nat} {A3:Option Addr} {n3 c3:Nat} {A4:Option Addr} {n4 c4:Nat} {A5:Option Addr} {n5 c5:Nat} {A6:Option Addr} {n6 c6:Nat} {w:World} {r:Int} (h1:Rt w 3 eLine A1 n1 c1 x1) (h2:Rt w 2 eBus A2 n2 c2 x2) (h3:Rt w 1 eB A3 n3 c3 x3) (h4:Rt w 1 eB A4 n4 c4 x4) (h5:Rt w 2 ePermit A5 n5 c5 x5) (h6:Rt w 1 eI A6 n6 c6 x6) (hM : m_laws_heldWorld x0 x1 x2 x3 x4 x5 x6 x7=some r) :
  Calls Tryz.prog 21 #[.agg #[iv x0,.slice A1 n1 c1,.slice A2 n2 c2,.slice A3 n3 c3,.slice A4 n4 c4,.slice A5 n5 c5,.slice A6 n6 c6],iv x7] w (fun e w'=>e=.returned (iv r)∧St w w' []):=by
 obtain rfl:=h1.len
 obtain rfl:=h2.len
 obtain rfl:=h3.len
 obtain rfl:=h4.len
 obtain rfl:=h5.len
 obtain rfl:=h6.len
 unfold m_laws_heldWorld at hM
 refine calls_gx Tryz.func21 Tryz.ntmps21 rfl rfl ?_
 intro a f
 have S:=St.nil w
 refine wsg ?_
 refine op_new (cs:=#[iv x0,.slice A1 x1.length c1,.slice A2 x2.length c2,.slice A3 x3.length c3,.slice A4 x4.length c4,.slice A5 x5.length c5,.slice A6 x6.length c6]) rfl rfl f rfl S (run_box rfl (f.ev rfl) rfl) ?_;clear f S;intro a g101 u f S
 revert a;refine ov rfl (fun a f=>run_assign rfl rfl) fun a f=>wn ?_
 revert a;refine sr (ov rfl (fun a f=>run_fieldAddr rfl fl43_0 (f.ev rfl) rfl) (ov rfl (fun a f=>run_loadN rfl ag37 (f.ev rfl) rfl ((S.free 0 rfl).cells 0 #[iv x0,.slice A1 x1.length c1] rfl)) (mv rfl rfl fun a f=>?_)))
 obtain ⟨p102,h102,hM⟩:=bind_ex hM
 refine op_call rfl rfl f rfl (run_call (vs:=[_,_]) rfl rfl co61 ⟨(f.ev rfl),(f.ev rfl),trivial⟩) (c_laws_heldNet ⟨(S.rc0 h1.rc),rfl⟩ h102) ?_
 rintro e u ⟨rfl,T⟩
 refine ⟨_,rfl,?_⟩
 clear f;intro a f
 replace S:=S.call0 T;clear T
 revert a;refine ag rfl rfl fun a f=>wn ?_
 refine ws ?_
 revert a;refine sr (mv rfl rfl (ov rfl (fun a f=>run_lss (f.ev rfl) rfl rfl) fun a f=>wn ?_))
 cases hc103:(ltB p102 0)
 ·replace hM:=bif_f hc103 hM
  refine cond_f f rfl hc103 ?_
  refine wp_skip ?_
  revert a;refine sr (ov rfl (fun a f=>run_fieldAddr rfl fl43_1 (f.ev rfl) rfl) (ov rfl (fun a f=>run_load1 rfl one38 (f.ev rfl) (S.cell 0 rfl rfl)) (mv rfl rfl fun a f=>?_)))
  obtain ⟨p104,h104,hM⟩:=bind_ex hM
  refine op_call rfl rfl f rfl (run_call (vs:=[_,_]) rfl rfl co62 ⟨(f.ev rfl),(f.ev rfl),trivial⟩) (c_laws_heldBusS ⟨(S.rc0 h2.rc),rfl⟩ h104) ?_
  rintro e u ⟨rfl,T⟩
  refine ⟨_,rfl,?_⟩
  clear f;intro a f
  replace S:=S.call0 T;clear T
  revert a;refine ag rfl rfl fun a f=>wn ?_
  refine ws ?_
  revert a;refine sr (mv rfl rfl (ov rfl (fun a f=>run_lss (f.ev rfl) rfl rfl) fun a f=>wn ?_))
  cases hc105:(ltB p104 0)
  ·replace hM:=bif_f hc105 hM
   refine cond_f f rfl hc105 ?_
   refine wp_skip ?_
   revert a;refine sr (ov rfl (fun a f=>run_fieldAddr rfl fl43_2 (f.ev rfl) rfl) (ov rfl (fun a f=>run_loadN rfl ag41 (f.ev rfl) rfl ((S.free 0 rfl).cells 3 #[.slice A3 x3.length c3,.slice A4 x4.length c4,.slice A5 x5.length c5] rfl)) (mv rfl rfl fun a f=>?_)))
   obtain ⟨p106,h106,hM⟩:=bind_ex hM
   refine op_call rfl rfl f rfl (run_call (vs:=[_,_]) rfl rfl co63 ⟨(f.ev rfl),(f.ev rfl),trivial⟩) (c_laws_heldWork ⟨(S.rc0 h3.rc),rfl⟩ ⟨(S.rc0 h4.rc),rfl⟩ ⟨(S.rc0 h5.rc),rfl⟩ h106) ?_
   rintro e u ⟨rfl,T⟩
   refine ⟨_,rfl,?_⟩
   clear f;intro a f
   replace S:=S.call0 T;clear T
   revert a;refine ag rfl rfl fun a f=>wn ?_
   refine ws ?_
   revert a;refine sr (mv rfl rfl (ov rfl (fun a f=>run_lss (f.ev rfl) rfl rfl) fun a f=>wn ?_))
   cases hc107:(ltB p106 0)
   ·replace hM:=bif_f hc107 hM
    refine cond_f f rfl hc107 ?_
    refine wp_skip ?_
    revert a;refine sr (ov rfl (fun a f=>run_fieldAddr rfl fl43_3 (f.ev rfl) rfl) (ov rfl (fun a f=>run_load1 rfl one30 (f.ev rfl) (S.cell 0 rfl rfl)) (mv rfl rfl fun a f=>?_)))
    obtain ⟨p108,h108,hM⟩:=bind_ex hM
    refine op_call rfl rfl f rfl (run_call (vs:=[_,_]) rfl rfl co64 ⟨(f.ev rfl),(f.ev rfl),trivial⟩) (c_laws_heldIntS ⟨(S.rc0 h6.rc),rfl⟩ h108) ?_
    rintro e u ⟨rfl,T⟩
    refine ⟨_,rfl,?_⟩
    clear f;intro a f
    replace S:=S.call0 T;clear T
    revert a;refine ag rfl rfl fun a f=>wn ?_
    refine ws ?_
    revert a;refine sr (mv rfl rfl (ov rfl (fun a f=>run_lss (f.ev rfl) rfl rfl) fun a f=>wn ?_))
    cases hc109:(ltB p108 0)
    ·replace hM:=bif_f hc109 hM
     refine cond_f f rfl hc109 ?_
     refine wp_skip ?_
     revert a;refine sr (mv rfl rfl (ag rfl rfl fun a f=>wn ?_))
     refine wp_ret ?_
     refine ret1_gw (.inl rfl) f rfl (res_tmp (f.ev rfl)) ?_
     obtain rfl:=Option.some.inj hM
     exact ⟨rfl,S.sel [] rfl rfl⟩
    replace hM:=bif_t hc109 hM
    refine cond_t f rfl hc109 ?_
    revert a;refine sr (ov rfl (fun a f=>run_assign rfl rfl) fun a f=>wn ?_)
    refine wp_ret ?_
    repeat with_reducible first|apply tr|apply ir|apply nr
    refine ret1_gw (.inl rfl) f rfl (res_tmp (f.ev rfl)) ?_
    obtain rfl:=Option.some.inj hM
    exact ⟨rfl,S.sel [] rfl rfl⟩
   replace hM:=bif_t hc107 hM
   refine cond_t f rfl hc107 ?_
   revert a;refine sr (ov rfl (fun a f=>run_assign rfl rfl) fun a f=>wn ?_)
   refine wp_ret ?_
   repeat with_reducible first|apply tr|apply ir|apply nr
   refine ret1_gw (.inl rfl) f rfl (res_tmp (f.ev rfl)) ?_
   obtain rfl:=Option.some.inj hM
   exact ⟨rfl,S.sel [] rfl rfl⟩
  replace hM:=bif_t hc105 hM
  refine cond_t f rfl hc105 ?_
  revert a;refine sr (ov rfl (fun a f=>run_assign rfl rfl) fun a f=>wn ?_)
  refine wp_ret ?_
  repeat with_reducible first|apply tr|apply ir|apply nr
  refine ret1_gw (.inl rfl) f rfl (res_tmp (f.ev rfl)) ?_
  obtain rfl:=Option.some.inj hM
  exact ⟨rfl,S.sel [] rfl rfl⟩
 replace hM:=bif_t hc103 hM
 refine cond_t f rfl hc103 ?_
 revert a;refine sr (ov rfl (fun a f=>run_assign rfl rfl) fun a f=>wn ?_)
 refine wp_ret ?_
 repeat with_reducible first|apply tr|apply ir|apply nr
 refine ret1_gw (.inl rfl) f rfl (res_tmp (f.ev rfl)) ?_
 obtain rfl:=Option.some.inj hM
 exact ⟨rfl,S.sel [] rfl rfl⟩
end Go.Proofs.YtcmnjaccapbhfaaGreat
