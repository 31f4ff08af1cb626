/- Calls return what the models say. -/
import Derived.Test.YtcmnjaccapbhfaaGreatQSq
import Derived.Test.YtcmnjaccapbhfaaGreatQDa3
namespace Go.Proofs.YtcmnjaccapbhfaaGreat
open Go.ChangeShapes Go.WideShapes Go.ChangeAt Go.RowKit
set_option linter.unusedVariables false
set_option maxHeartbeats 4000000
set_option linter.unusedSimpArgs false
theorem c_impl_WorkValid {x0:List Bool} {x1:List Bool} {x2:List (Int×Int)} {A0:Option Addr} {n0 c0:Nat} {A1:Option Addr} {n1 c1:Nat} {A2:Option Addr} {n2 c2:Nat} {w:World} {r:Bool} (h0:Rt w 1 eB A0 n0 c0 x0) (h1:Rt w 1 eB A1 n1 c1 x1) (h2:Rt w 2 ePermit A2 n2 c2 x2) (hM : m_impl_WorkValid x0 x1 x2=some r) :
  Calls Tryz.prog 75 #[.agg #[.slice A0 n0 c0,.slice A1 n1 c1,.slice A2 n2 c2]] w (fun e w'=>e=.returned (.bool r)∧St w w' []):=by
 obtain rfl:=h0.len
 obtain rfl:=h1.len
 obtain rfl:=h2.len
 unfold m_impl_WorkValid at hM
 refine calls_gx Tryz.func75 Tryz.ntmps75 rfl rfl ?_
 intro a f
 have S:=St.nil w
 refine wsg ?_
 refine op_new (cs:=#[.slice A0 x0.length c0,.slice A1 x1.length c1,.slice A2 x2.length c2]) rfl rfl f rfl S (run_box rfl (f.ev rfl) rfl) ?_;clear f S;intro a g101 u f S
 revert a;refine ov rfl (fun a f=>run_assign rfl rfl) fun a f=>wn ?_
 refine ws ?_
 revert a;refine sr (ov rfl (fun a f=>run_fieldAddr rfl fl41_0 (f.ev rfl) rfl) (ov rfl (fun a f=>run_load1 rfl one26 (f.ev rfl) (S.cell 0 rfl rfl)) (ov rfl (fun a f=>run_lenL rfl rfl Tryz.underlying26 (f.ev rfl)) (ov rfl (fun a f=>run_lss (f.ev rfl) rfl rfl) (mv rfl rfl fun a f=>?_)))))
 revert a;refine gf rfl rfl rfl rfl (fun a f hg=>run_fieldAddr rfl fl41_0 (f.ev rfl) rfl) (gf rfl rfl rfl rfl (fun a f hg=>run_load1 rfl one26 ((f.ev rfl).trans (gv_t hg)) (S.cell 0 rfl rfl)) (gf rfl rfl rfl rfl (fun a f hg=>run_lenL rfl rfl Tryz.underlying26 ((f.ev rfl).trans (gv_t hg))) (gf rfl rfl rfl rfl (fun a f hg=>run_gtr ((f.ev rfl).trans (gv_t hg)) rfl rfl) fun a f=>?_)))
 revert a;refine ov rfl (fun a f=>run_pick_or rfl (f.ev rfl) rfl (fun hp=>((f.ev rfl).trans (gv_t (not_t hp))))) (mv rfl rfl fun a f=>?_)
 revert a;refine gf rfl rfl rfl rfl (fun a f hg=>run_fieldAddr rfl fl41_1 (f.ev rfl) rfl) (gf rfl rfl rfl rfl (fun a f hg=>run_load1 rfl one26 ((f.ev rfl).trans (gv_t hg)) (S.cell 0 rfl rfl)) (gf rfl rfl rfl rfl (fun a f hg=>run_lenL rfl rfl Tryz.underlying26 ((f.ev rfl).trans (gv_t hg))) (gf rfl rfl rfl rfl (fun a f hg=>run_fieldAddr rfl fl41_0 (f.ev rfl) rfl) (gf rfl rfl rfl rfl (fun a f hg=>run_load1 rfl one26 ((f.ev rfl).trans (gv_t hg)) (S.cell 0 rfl rfl)) (gf rfl rfl rfl rfl (fun a f hg=>run_lenL rfl rfl Tryz.underlying26 ((f.ev rfl).trans (gv_t hg))) (gf rfl rfl rfl rfl (fun a f hg=>run_neq ((f.ev rfl).trans (gv_t hg)) ((f.ev rfl).trans (gv_t hg)) rfl) fun a f=>?_))))))
 revert a;refine ov rfl (fun a f=>run_pick_or rfl (f.ev rfl) rfl (fun hp=>((f.ev rfl).trans (gv_t (not_t hp))))) (mv rfl rfl fun a f=>?_)
 revert a;refine gf rfl rfl rfl rfl (fun a f hg=>run_fieldAddr rfl fl41_2 (f.ev rfl) rfl) (gf rfl rfl rfl rfl (fun a f hg=>run_load1 rfl one39 ((f.ev rfl).trans (gv_t hg)) (S.cell 0 rfl rfl)) (gf rfl rfl rfl rfl (fun a f hg=>run_lenL rfl rfl Tryz.underlying39 ((f.ev rfl).trans (gv_t hg))) (gf rfl rfl rfl rfl (fun a f hg=>run_gtr ((f.ev rfl).trans (gv_t hg)) rfl rfl) (ov rfl (fun a f=>run_pick_or rfl (f.ev rfl) rfl (fun hp=>((f.ev rfl).trans (gv_t (not_t hp))))) fun a f=>wn ?_))))
 cases hc102:((((ltB (x0.length:Int) 1)||(ltB 10 (x0.length:Int)))||((x1.length:Int) != (x0.length:Int)))||(ltB 6 (x2.length:Int)))
 ·replace hM:=bif_f hc102 hM
  refine cond_f f rfl hc102 ?_
  refine wp_skip ?_
  refine ws ?_
  revert a;refine sr (ov rfl (fun a f=>run_fieldAddr rfl fl41_0 (f.ev rfl) rfl) (ov rfl (fun a f=>run_load1 rfl one26 (f.ev rfl) (S.cell 0 rfl rfl)) (ov rfl (fun a f=>run_lenL rfl rfl Tryz.underlying26 (f.ev rfl)) (ov rfl (fun a f=>run_move rfl rfl) fun a f=>wn ?_))))
  obtain ⟨o104,hM105,hM⟩:=bind_ex hM
  refine wp_cut (fun a u=>∃ (p103:Unit),(Sum.inl p103)=o104∧Fr a 97 [(1,.pointer (some ⟨g101,0,none⟩)),(2,.bool false)]∧St w u [.box g101 41 #[.slice A0 x0.length c0,.slice A1 x1.length c1,.slice A2 x2.length c2]]) ?_ ?_
  ·have _:=trivial
   refine wp_block ?_
   refine loop_gw (fun m a u=>∃ (p106:Int),m_impl_WorkValid_l1 x0 x1 m p106=some _∧Fr a 97 [(1,.pointer (some ⟨g101,0,none⟩)),(2,.bool false),(33,iv (x0.length:Int)),(34,iv p106)]∧St w u [.box g101 41 #[.slice A0 x0.length c0,.slice A1 x1.length c1,.slice A2 x2.length c2]]) FUEL ⟨0,hM105,f.keep _ ⟨rfl,rfl,rfl,rfl,trivial⟩,S.sel [0] rfl rfl⟩ ?_
   clear f S hM105;rintro m a u ⟨p106,hM105,f,S⟩
   rcases m with _ | f1
   ·exact none_some hM105
   rw [m_impl_WorkValid_l1.eq_2] at hM105
   revert a;refine sr (ov rfl (fun a f=>run_lss (f.ev rfl) (f.ev rfl) rfl) fun a f=>wn ?_)
   refine ws ?_
   cases hc107:(ltB p106 (x0.length:Int))
   ·replace hM105:=bif_f hc107 hM105
    refine cond_f f rfl hc107 ?_
    refine wp_exit ?_
    repeat with_reducible first|apply then_exit|apply in_hit|refine in_miss rfl ?_
    obtain rfl:=Option.some.inj hM105
    exact ⟨(),rfl,f.keep _ ⟨rfl,rfl,trivial⟩,S.sel [0] rfl rfl⟩
   replace hM105:=bif_t hc107 hM105
   refine cond_t f rfl hc107 ?_
   refine wp_skip ?_
   refine ws ?_
   refine wp_block ?_
   revert a;refine sr (mv rfl rfl (ag rfl rfl fun a f=>wn ?_))
   revert a;refine sr (ov rfl (fun a f=>run_fieldAddr rfl fl41_0 (f.ev rfl) rfl) (ov rfl (fun a f=>run_load1 rfl one26 (f.ev rfl) (S.cell 0 rfl rfl)) (mv rfl rfl fun a f=>?_)))
   obtain ⟨hk108,hM105⟩:=chk_ex hM105
   replace hk108:=ixB_t hk108
   revert a;refine ov rfl (fun a f=>run_ix rfl Tryz.underlying26 sz4 (f.ev rfl) (S.rc0 h0.rc) (f.ev rfl) hk108) (ov rfl (fun a f=>run_load1 rfl one4 (f.ev rfl) (rd_el0 (l:=x0) (S.rc0 h0.rc).rd rfl eB_len false (ix_ltn hk108 rfl) rfl)) (mv rfl rfl fun a f=>?_))
   revert a;refine gt rfl rfl rfl rfl (fun a f hg=>run_fieldAddr rfl fl41_1 (f.ev rfl) rfl) (gt rfl rfl rfl rfl (fun a f hg=>run_load1 rfl one26 ((f.ev rfl).trans (gv_t hg)) (S.cell 0 rfl rfl)) (gt rfl rfl rfl rfl (fun a f hg=>run_move rfl (f.ev rfl)) fun a f=>?_))
   obtain ⟨hk109,hM105⟩:=chk_ex hM105
   replace hk109:=fun hg=>ixB_t (imp_t hk109 hg)
   revert a;refine gt rfl rfl rfl rfl (fun a f hg=>run_ix rfl Tryz.underlying26 sz4 ((f.ev rfl).trans (gv_t hg)) (S.rc0 h1.rc) ((f.ev rfl).trans (gv_t hg)) (hk109 hg)) (gt rfl rfl rfl rfl (fun a f hg=>run_load1 rfl one4 ((f.ev rfl).trans (gv_t hg)) (rd_el0 (l:=x1) (S.rc0 h1.rc).rd rfl eB_len false (ix_ltn (hk109 hg) rfl) rfl)) (ov rfl (fun a f=>run_pick_and rfl (f.ev rfl) (fun hp=>((f.ev rfl).trans (gv_t hp))) rfl) fun a f=>wn ?_))
   cases hc110:((x0.getD p106.toNat false)&&(x1.getD p106.toNat false))
   ·replace hM105:=bif_f hc110 hM105
    refine cond_f f rfl hc110 ?_
    refine wp_skip ?_
    revert a;refine rl (ov rfl (fun a f=>run_add (z:=w64 (p106+1)) (f.ev rfl) rfl rfl rfl) (mv rfl rfl fun a f=>wn ?_))
    exact ⟨f1,Nat.lt_succ_self _,w64 (p106+1),hM105,f.keep _ ⟨rfl,rfl,rfl,rfl,trivial⟩,S.sel [0] rfl rfl⟩
   replace hM105:=bif_t hc110 hM105
   refine cond_t f rfl hc110 ?_
   revert a;refine sr (ov rfl (fun a f=>run_assign rfl rfl) fun a f=>wn ?_)
   refine wp_ret ?_
   repeat with_reducible first|apply tr|apply ir|apply nr
   refine ret1_gw (.inl rfl) f rfl (res_tmp (f.ev rfl)) ?_
   obtain rfl:=Option.some.inj hM105
   obtain rfl:=Option.some.inj hM
   exact ⟨rfl,S.sel [] rfl rfl⟩
  rintro a u ⟨p103,rfl,f,S⟩
  replace hM:=elim_l hM
  refine ws ?_
  revert a;refine sr (ov rfl (fun a f=>run_fieldAddr rfl fl41_2 (f.ev rfl) rfl) (ov rfl (fun a f=>run_load1 rfl one39 (f.ev rfl) (S.cell 0 rfl rfl)) (ov rfl (fun a f=>run_lenL rfl rfl Tryz.underlying39 (f.ev rfl)) (ov rfl (fun a f=>run_move rfl rfl) fun a f=>wn ?_))))
  obtain ⟨o112,hM113,hM⟩:=bind_ex hM
  refine wp_cut (fun a u=>∃ (p111:Unit),(Sum.inl p111)=o112∧Fr a 97 [(2,.bool false)]∧St w u []) ?_ ?_
  ·have _:=trivial
   refine wp_block ?_
   refine loop_gw (fun m a u=>∃ (p114:Int),m_impl_WorkValid_l2 x0 x1 x2 m p114=some _∧Fr a 97 [(1,.pointer (some ⟨g101,0,none⟩)),(2,.bool false),(51,.slice A2 x2.length c2),(52,iv (x2.length:Int)),(53,iv p114)]∧St w u [.box g101 41 #[.slice A0 x0.length c0,.slice A1 x1.length c1,.slice A2 x2.length c2]]) FUEL ⟨0,hM113,f.keep _ ⟨rfl,rfl,rfl,rfl,rfl,trivial⟩,S.sel [0] rfl rfl⟩ ?_
   clear f S hM113;rintro m a u ⟨p114,hM113,f,S⟩
   rcases m with _ | f2
   ·exact none_some hM113
   rw [m_impl_WorkValid_l2.eq_2] at hM113
   revert a;refine sr (ov rfl (fun a f=>run_lss (f.ev rfl) (f.ev rfl) rfl) fun a f=>wn ?_)
   refine ws ?_
   cases hc115:(ltB p114 (x2.length:Int))
   ·replace hM113:=bif_f hc115 hM113
    refine cond_f f rfl hc115 ?_
    refine wp_exit ?_
    repeat with_reducible first|apply then_exit|apply in_hit|refine in_miss rfl ?_
    obtain rfl:=Option.some.inj hM113
    exact ⟨(),rfl,f.keep _ ⟨rfl,trivial⟩,S.sel [] rfl rfl⟩
   replace hM113:=bif_t hc115 hM113
   refine cond_t f rfl hc115 ?_
   refine wp_skip ?_
   refine ws ?_
   refine wp_block ?_
   revert a;refine sr (mv rfl rfl fun a f=>?_)
   obtain ⟨hk116,hM113⟩:=chk_ex hM113
   replace hk116:=ixB_t hk116
   revert a;refine ov rfl (fun a f=>run_ix rfl Tryz.underlying39 sz78 (f.ev rfl) (S.rc0 h2.rc) (f.ev rfl) hk116) (ov rfl (fun a f=>run_loadN (cs:=#[iv ((x2.getD p114.toNat (0,0)).1),iv ((x2.getD p114.toNat (0,0)).2)]) rfl ag78 (f.ev rfl) rfl (rd_elN (l:=x2) (S.rc0 h2.rc).rd rfl ePermit_len (0,0) (ix_ltn hk116 rfl) rfl)) fun a f=>?_)
   refine op_new (cs:=#[iv 0,iv 0]) rfl rfl f rfl S (run_allocZ rfl zr78) ?_;clear f S;intro a g117 u f S
   revert a;refine ag rfl rfl fun a f=>?_
   refine op_do rfl rfl (run_store (cs':=#[iv ((x2.getD p114.toNat (0,0)).1),iv ((x2.getD p114.toNat (0,0)).2)]) rfl sz78 (f.ev rfl) (f.ev rfl) rfl rfl rfl (S.free 0 rfl) rfl rfl) ?_;replace S:=S.put 0 rfl (#[iv ((x2.getD p114.toNat (0,0)).1),iv ((x2.getD p114.toNat (0,0)).2)])
   generalize World.setRow _ _ _=u at S ⊢
   refine wn ?_
   refine ws ?_
   obtain ⟨hk118,hM113⟩:=chk_ex hM113
   replace hk118:=fun hg=>ixB_t (imp_t hk118 hg)
   obtain ⟨hk119,hM113⟩:=chk_ex hM113
   replace hk119:=fun hg=>slB_t (imp_t hk119 hg)
   obtain ⟨p120,h120,hM113⟩:=bind_ex hM113
   refine region_gw (D:=[58,59,60,61,62,63,64,65,66,67,68,69,70,71,72,73,74,75,76,77,78,79,80,81,82,83,84,85,86,87,88,89,90,91,92,93,94,95]) (Lr:=[.box g117 78 #[iv ((x2.getD p114.toNat (0,0)).1),iv ((x2.getD p114.toNat (0,0)).2)],.box g101 41 #[.slice A0 x0.length c0,.slice A1 x1.length c1,.slice A2 x2.length c2]]) (deps:=(fun | 0=>[58] | 1=>[59] | 2=>[60] | 3=>[61] | 4=>[62] | 5=>[63] | 6=>[64] | 7=>[65] | 8=>[66] | 9=>[67] | 10=>[68] | 11=>[69] | 12=>[70] | 13=>[71] | 14=>[72] | 15=>[73] | 16=>[74] | 17=>[75] | 18=>[76] | 19=>[77] | 20=>[78] | 21=>[79] | 22=>[80] | 23=>[81] | 24=>[82] | 25=>[83] | 26=>[84] | 27=>[85] | 28=>[86] | 29=>[87] | 30=>[88] | 31=>[89] | 32=>[90] | 33=>[91] | 34=>[92] | 35=>[93] | 36=>[94] | 37=>[95] | _=>[])) (rd:=(fun _=>[])) (zr:=(fun _=>[]))
    (φ:=fun i vs=>match i,vs with | 0,[v58]=>v58=.pointer (some ⟨g117,0,none⟩) | 1,[v59]=>v59=iv ((x2.getD p114.toNat (0,0)).1) | 2,[v60]=>v60=.bool (ltB ((x2.getD p114.toNat (0,0)).1) 0) | 3,[v61]=>v61=.bool (ltB ((x2.getD p114.toNat (0,0)).1) 0) | 4,[v62]=>v62=gv (!(ltB ((x2.getD p114.toNat (0,0)).1) 0)) (.pointer (some ⟨g117,0,none⟩)) | 5,[v63]=>v63=gv (!(ltB ((x2.getD p114.toNat (0,0)).1) 0)) (iv ((x2.getD p114.toNat (0,0)).1)) | 6,[v64]=>v64=gv (!(ltB ((x2.getD p114.toNat (0,0)).1) 0)) (.bool (ltB 9 ((x2.getD p114.toNat (0,0)).1))) | 7,[v65]=>v65=.bool ((ltB ((x2.getD p114.toNat (0,0)).1) 0)||(ltB 9 ((x2.getD p114.toNat (0,0)).1))) | 8,[v66]=>v66=.bool ((ltB ((x2.getD p114.toNat (0,0)).1) 0)||(ltB 9 ((x2.getD p114.toNat (0,0)).1))) | 9,[v67]=>v67=gv (!((ltB ((x2.getD p114.toNat (0,0)).1) 0)||(ltB 9 ((x2.getD p114.toNat (0,0)).1)))) (.pointer (some ⟨g117,1,none⟩)) | 10,[v68]=>v68=gv (!((ltB ((x2.getD p114.toNat (0,0)).1) 0)||(ltB 9 ((x2.getD p114.toNat (0,0)).1)))) (iv ((x2.getD p114.toNat (0,0)).2)) | 11,[v69]=>v69=gv (!((ltB ((x2.getD p114.toNat (0,0)).1) 0)||(ltB 9 ((x2.getD p114.toNat (0,0)).1)))) (.bool (ltB ((x2.getD p114.toNat (0,0)).2) 0)) | 12,[v70]=>v70=.bool (((ltB ((x2.getD p114.toNat (0,0)).1) 0)||(ltB 9 ((x2.getD p114.toNat (0,0)).1)))||(ltB ((x2.getD p114.toNat (0,0)).2) 0)) | 13,[v71]=>v71=.bool (((ltB ((x2.getD p114.toNat (0,0)).1) 0)||(ltB 9 ((x2.getD p114.toNat (0,0)).1)))||(ltB ((x2.getD p114.toNat (0,0)).2) 0)) | 14,[v72]=>v72=gv (!(((ltB ((x2.getD p114.toNat (0,0)).1) 0)||(ltB 9 ((x2.getD p114.toNat (0,0)).1)))||(ltB ((x2.getD p114.toNat (0,0)).2) 0))) (.pointer (some ⟨g117,1,none⟩)) | 15,[v73]=>v73=gv (!(((ltB ((x2.getD p114.toNat (0,0)).1) 0)||(ltB 9 ((x2.getD p114.toNat (0,0)).1)))||(ltB ((x2.getD p114.toNat (0,0)).2) 0))) (iv ((x2.getD p114.toNat (0,0)).2)) | 16,[v74]=>v74=gv (!(((ltB ((x2.getD p114.toNat (0,0)).1) 0)||(ltB 9 ((x2.getD p114.toNat (0,0)).1)))||(ltB ((x2.getD p114.toNat (0,0)).2) 0))) (.pointer (some ⟨g101,0,none⟩)) | 17,[v75]=>v75=gv (!(((ltB ((x2.getD p114.toNat (0,0)).1) 0)||(ltB 9 ((x2.getD p114.toNat (0,0)).1)))||(ltB ((x2.getD p114.toNat (0,0)).2) 0))) (.slice A0 x0.length c0) | 18,[v76]=>v76=gv (!(((ltB ((x2.getD p114.toNat (0,0)).1) 0)||(ltB 9 ((x2.getD p114.toNat (0,0)).1)))||(ltB ((x2.getD p114.toNat (0,0)).2) 0))) (iv (x0.length:Int)) | 19,[v77]=>v77=gv (!(((ltB ((x2.getD p114.toNat (0,0)).1) 0)||(ltB 9 ((x2.getD p114.toNat (0,0)).1)))||(ltB ((x2.getD p114.toNat (0,0)).2) 0))) (.bool (leB (x0.length:Int) ((x2.getD p114.toNat (0,0)).2))) | 20,[v78]=>v78=.bool ((((ltB ((x2.getD p114.toNat (0,0)).1) 0)||(ltB 9 ((x2.getD p114.toNat (0,0)).1)))||(ltB ((x2.getD p114.toNat (0,0)).2) 0))||(leB (x0.length:Int) ((x2.getD p114.toNat (0,0)).2))) | 21,[v79]=>v79=.bool ((((ltB ((x2.getD p114.toNat (0,0)).1) 0)||(ltB 9 ((x2.getD p114.toNat (0,0)).1)))||(ltB ((x2.getD p114.toNat (0,0)).2) 0))||(leB (x0.length:Int) ((x2.getD p114.toNat (0,0)).2))) | 22,[v80]=>v80=gv (!((((ltB ((x2.getD p114.toNat (0,0)).1) 0)||(ltB 9 ((x2.getD p114.toNat (0,0)).1)))||(ltB ((x2.getD p114.toNat (0,0)).2) 0))||(leB (x0.length:Int) ((x2.getD p114.toNat (0,0)).2)))) (.pointer (some ⟨g101,1,none⟩)) | 23,[v81]=>v81=gv (!((((ltB ((x2.getD p114.toNat (0,0)).1) 0)||(ltB 9 ((x2.getD p114.toNat (0,0)).1)))||(ltB ((x2.getD p114.toNat (0,0)).2) 0))||(leB (x0.length:Int) ((x2.getD p114.toNat (0,0)).2)))) (.slice A1 x1.length c1) | 24,[v82]=>v82=gv (!((((ltB ((x2.getD p114.toNat (0,0)).1) 0)||(ltB 9 ((x2.getD p114.toNat (0,0)).1)))||(ltB ((x2.getD p114.toNat (0,0)).2) 0))||(leB (x0.length:Int) ((x2.getD p114.toNat (0,0)).2)))) (.pointer (some ⟨g117,1,none⟩)) | 25,[v83]=>v83=gv (!((((ltB ((x2.getD p114.toNat (0,0)).1) 0)||(ltB 9 ((x2.getD p114.toNat (0,0)).1)))||(ltB ((x2.getD p114.toNat (0,0)).2) 0))||(leB (x0.length:Int) ((x2.getD p114.toNat (0,0)).2)))) (iv ((x2.getD p114.toNat (0,0)).2)) | 26,[v84]=>v84=gv (!((((ltB ((x2.getD p114.toNat (0,0)).1) 0)||(ltB 9 ((x2.getD p114.toNat (0,0)).1)))||(ltB ((x2.getD p114.toNat (0,0)).2) 0))||(leB (x0.length:Int) ((x2.getD p114.toNat (0,0)).2)))) (.pointer (some ⟨adB A1,adO A1+(((x2.getD p114.toNat (0,0)).2).toNat)*1,none⟩)) | 27,[v85]=>v85=gv (!((((ltB ((x2.getD p114.toNat (0,0)).1) 0)||(ltB 9 ((x2.getD p114.toNat (0,0)).1)))||(ltB ((x2.getD p114.toNat (0,0)).2) 0))||(leB (x0.length:Int) ((x2.getD p114.toNat (0,0)).2)))) (.bool (x1.getD (((x2.getD p114.toNat (0,0)).2).toNat) false)) | 28,[v86]=>v86=gv (!((((ltB ((x2.getD p114.toNat (0,0)).1) 0)||(ltB 9 ((x2.getD p114.toNat (0,0)).1)))||(ltB ((x2.getD p114.toNat (0,0)).2) 0))||(leB (x0.length:Int) ((x2.getD p114.toNat (0,0)).2)))) (.bool (!(x1.getD (((x2.getD p114.toNat (0,0)).2).toNat) false))) | 29,[v87]=>v87=.bool (((((ltB ((x2.getD p114.toNat (0,0)).1) 0)||(ltB 9 ((x2.getD p114.toNat (0,0)).1)))||(ltB ((x2.getD p114.toNat (0,0)).2) 0))||(leB (x0.length:Int) ((x2.getD p114.toNat (0,0)).2)))||(!(x1.getD (((x2.getD p114.toNat (0,0)).2).toNat) false))) | 30,[v88]=>v88=.bool (((((ltB ((x2.getD p114.toNat (0,0)).1) 0)||(ltB 9 ((x2.getD p114.toNat (0,0)).1)))||(ltB ((x2.getD p114.toNat (0,0)).2) 0))||(leB (x0.length:Int) ((x2.getD p114.toNat (0,0)).2)))||(!(x1.getD (((x2.getD p114.toNat (0,0)).2).toNat) false))) | 31,[v89]=>v89=gv (!(((((ltB ((x2.getD p114.toNat (0,0)).1) 0)||(ltB 9 ((x2.getD p114.toNat (0,0)).1)))||(ltB ((x2.getD p114.toNat (0,0)).2) 0))||(leB (x0.length:Int) ((x2.getD p114.toNat (0,0)).2)))||(!(x1.getD (((x2.getD p114.toNat (0,0)).2).toNat) false)))) (.pointer (some ⟨g101,2,none⟩)) | 32,[v90]=>v90=gv (!(((((ltB ((x2.getD p114.toNat (0,0)).1) 0)||(ltB 9 ((x2.getD p114.toNat (0,0)).1)))||(ltB ((x2.getD p114.toNat (0,0)).2) 0))||(leB (x0.length:Int) ((x2.getD p114.toNat (0,0)).2)))||(!(x1.getD (((x2.getD p114.toNat (0,0)).2).toNat) false)))) (.slice A2 x2.length c2) | 33,[v91]=>v91=gv (!(((((ltB ((x2.getD p114.toNat (0,0)).1) 0)||(ltB 9 ((x2.getD p114.toNat (0,0)).1)))||(ltB ((x2.getD p114.toNat (0,0)).2) 0))||(leB (x0.length:Int) ((x2.getD p114.toNat (0,0)).2)))||(!(x1.getD (((x2.getD p114.toNat (0,0)).2).toNat) false)))) (iv p114) | 34,[v92]=>v92=gv (!(((((ltB ((x2.getD p114.toNat (0,0)).1) 0)||(ltB 9 ((x2.getD p114.toNat (0,0)).1)))||(ltB ((x2.getD p114.toNat (0,0)).2) 0))||(leB (x0.length:Int) ((x2.getD p114.toNat (0,0)).2)))||(!(x1.getD (((x2.getD p114.toNat (0,0)).2).toNat) false)))) (.slice (subA c2 ((0:Int).toNat) 2 A2) ((subL x2 0 p114).length) (c2-(0:Int).toNat)) | 35,[v93]=>v93=gv (!(((((ltB ((x2.getD p114.toNat (0,0)).1) 0)||(ltB 9 ((x2.getD p114.toNat (0,0)).1)))||(ltB ((x2.getD p114.toNat (0,0)).2) 0))||(leB (x0.length:Int) ((x2.getD p114.toNat (0,0)).2)))||(!(x1.getD (((x2.getD p114.toNat (0,0)).2).toNat) false)))) (.agg #[iv ((x2.getD p114.toNat (0,0)).1),iv ((x2.getD p114.toNat (0,0)).2)]) | 36,[v94]=>v94=gv (!(((((ltB ((x2.getD p114.toNat (0,0)).1) 0)||(ltB 9 ((x2.getD p114.toNat (0,0)).1)))||(ltB ((x2.getD p114.toNat (0,0)).2) 0))||(leB (x0.length:Int) ((x2.getD p114.toNat (0,0)).2)))||(!(x1.getD (((x2.getD p114.toNat (0,0)).2).toNat) false)))) (.bool p120) | 37,[v95]=>v95=.bool ((((((ltB ((x2.getD p114.toNat (0,0)).1) 0)||(ltB 9 ((x2.getD p114.toNat (0,0)).1)))||(ltB ((x2.getD p114.toNat (0,0)).2) 0))||(leB (x0.length:Int) ((x2.getD p114.toNat (0,0)).2)))||(!(x1.getD (((x2.getD p114.toNat (0,0)).2).toNat) false)))||p120) | _,_=>True)
    (C:=fun _ _=>[])
    (κ:=(fun _=>none)) (Z:=(fun _=>[])) mixed f (by kernel_rfl) S ?_ ?_
   ·refine ⟨?_,?_,?_,?_,?_,?_,?_,?_,?_,?_,?_,?_,?_,?_,?_,?_,?_,?_,?_,?_,?_,?_,?_,?_,?_,?_,?_,?_,?_,?_,?_,?_,?_,?_,?_,?_,?_,?_,trivial⟩
    ·intro a u X hB hu p hr hz hl S
     exact .inl ⟨rfl,_,u,(run_fieldAddr rfl fl78_0 (f.evB hB rfl rfl) rfl),rfl,S⟩
    ·intro a u X hB hu p hr hz hl S
     exact .inl ⟨rfl,_,u,(run_load1 rfl one3 (ev_sl (p 0 rfl)) ((gr_box S hl 0 rfl).cell rfl)),rfl,S⟩
    ·intro a u X hB hu p hr hz hl S
     exact .inl ⟨rfl,_,u,(run_lss (ev_sl (p 1 rfl)) (ev_const _ _) rfl),rfl,S⟩
    ·intro a u X hB hu p hr hz hl S
     exact .inl ⟨rfl,_,u,(run_move rfl (ev_sl (p 2 rfl))),rfl,S⟩
    ·intro a u X hB hu p hr hz hl S
     exact gyf rfl rfl rfl (p 3 rfl) (fun hg=>⟨(gv_f hg).symm,S⟩) fun hg=>⟨_,u,(run_fieldAddr rfl fl78_0 (f.evB hB rfl rfl) rfl),(gv_t hg).symm,S⟩
    ·intro a u X hB hu p hr hz hl S
     exact gyf rfl rfl rfl (p 3 rfl) (fun hg=>⟨(gv_f hg).symm,S⟩) fun hg=>⟨_,u,(run_load1 rfl one3 ((ev_sl (p 4 rfl)).trans (gv_t hg)) ((gr_box S hl 0 rfl).cell rfl)),(gv_t hg).symm,S⟩
    ·intro a u X hB hu p hr hz hl S
     exact gyf rfl rfl rfl (p 3 rfl) (fun hg=>⟨(gv_f hg).symm,S⟩) fun hg=>⟨_,u,(run_gtr ((ev_sl (p 5 rfl)).trans (gv_t hg)) (ev_const _ _) rfl),(gv_t hg).symm,S⟩
    ·intro a u X hB hu p hr hz hl S
     exact .inl ⟨rfl,_,u,(run_pick_or rfl (ev_sl (p 3 rfl)) (ev_const _ _) (fun hp=>((ev_sl (p 6 rfl)).trans (gv_t (not_t hp))))),rfl,S⟩
    ·intro a u X hB hu p hr hz hl S
     exact .inl ⟨rfl,_,u,(run_move rfl (ev_sl (p 7 rfl))),rfl,S⟩
    ·intro a u X hB hu p hr hz hl S
     exact gyf rfl rfl rfl (p 8 rfl) (fun hg=>⟨(gv_f hg).symm,S⟩) fun hg=>⟨_,u,(run_fieldAddr rfl fl78_1 (f.evB hB rfl rfl) rfl),(gv_t hg).symm,S⟩
    ·intro a u X hB hu p hr hz hl S
     exact gyf rfl rfl rfl (p 8 rfl) (fun hg=>⟨(gv_f hg).symm,S⟩) fun hg=>⟨_,u,(run_load1 rfl one3 ((ev_sl (p 9 rfl)).trans (gv_t hg)) ((gr_box S hl 0 rfl).cell rfl)),(gv_t hg).symm,S⟩
    ·intro a u X hB hu p hr hz hl S
     exact gyf rfl rfl rfl (p 8 rfl) (fun hg=>⟨(gv_f hg).symm,S⟩) fun hg=>⟨_,u,(run_lss ((ev_sl (p 10 rfl)).trans (gv_t hg)) (ev_const _ _) rfl),(gv_t hg).symm,S⟩
    ·intro a u X hB hu p hr hz hl S
     exact .inl ⟨rfl,_,u,(run_pick_or rfl (ev_sl (p 8 rfl)) (ev_const _ _) (fun hp=>((ev_sl (p 11 rfl)).trans (gv_t (not_t hp))))),rfl,S⟩
    ·intro a u X hB hu p hr hz hl S
     exact .inl ⟨rfl,_,u,(run_move rfl (ev_sl (p 12 rfl))),rfl,S⟩
    ·intro a u X hB hu p hr hz hl S
     exact gyf rfl rfl rfl (p 13 rfl) (fun hg=>⟨(gv_f hg).symm,S⟩) fun hg=>⟨_,u,(run_fieldAddr rfl fl78_1 (f.evB hB rfl rfl) rfl),(gv_t hg).symm,S⟩
    ·intro a u X hB hu p hr hz hl S
     exact gyf rfl rfl rfl (p 13 rfl) (fun hg=>⟨(gv_f hg).symm,S⟩) fun hg=>⟨_,u,(run_load1 rfl one3 ((ev_sl (p 14 rfl)).trans (gv_t hg)) ((gr_box S hl 0 rfl).cell rfl)),(gv_t hg).symm,S⟩
    ·intro a u X hB hu p hr hz hl S
     exact gyf rfl rfl rfl (p 13 rfl) (fun hg=>⟨(gv_f hg).symm,S⟩) fun hg=>⟨_,u,(run_fieldAddr rfl fl41_0 (f.evB hB rfl rfl) rfl),(gv_t hg).symm,S⟩
    ·intro a u X hB hu p hr hz hl S
     exact gyf rfl rfl rfl (p 13 rfl) (fun hg=>⟨(gv_f hg).symm,S⟩) fun hg=>⟨_,u,(run_load1 rfl one26 ((ev_sl (p 16 rfl)).trans (gv_t hg)) ((gr_box S hl 1 rfl).cell rfl)),(gv_t hg).symm,S⟩
    ·intro a u X hB hu p hr hz hl S
     exact gyf rfl rfl rfl (p 13 rfl) (fun hg=>⟨(gv_f hg).symm,S⟩) fun hg=>⟨_,u,(run_lenL rfl rfl Tryz.underlying26 ((ev_sl (p 17 rfl)).trans (gv_t hg))),(gv_t hg).symm,S⟩
    ·intro a u X hB hu p hr hz hl S
     exact gyf rfl rfl rfl (p 13 rfl) (fun hg=>⟨(gv_f hg).symm,S⟩) fun hg=>⟨_,u,(run_geq ((ev_sl (p 15 rfl)).trans (gv_t hg)) ((ev_sl (p 18 rfl)).trans (gv_t hg)) rfl),(gv_t hg).symm,S⟩
    ·intro a u X hB hu p hr hz hl S
     exact .inl ⟨rfl,_,u,(run_pick_or rfl (ev_sl (p 13 rfl)) (ev_const _ _) (fun hp=>((ev_sl (p 19 rfl)).trans (gv_t (not_t hp))))),rfl,S⟩
    ·intro a u X hB hu p hr hz hl S
     exact .inl ⟨rfl,_,u,(run_move rfl (ev_sl (p 20 rfl))),rfl,S⟩
    ·intro a u X hB hu p hr hz hl S
     exact gyf rfl rfl rfl (p 21 rfl) (fun hg=>⟨(gv_f hg).symm,S⟩) fun hg=>⟨_,u,(run_fieldAddr rfl fl41_1 (f.evB hB rfl rfl) rfl),(gv_t hg).symm,S⟩
    ·intro a u X hB hu p hr hz hl S
     exact gyf rfl rfl rfl (p 21 rfl) (fun hg=>⟨(gv_f hg).symm,S⟩) fun hg=>⟨_,u,(run_load1 rfl one26 ((ev_sl (p 22 rfl)).trans (gv_t hg)) ((gr_box S hl 1 rfl).cell rfl)),(gv_t hg).symm,S⟩
    ·intro a u X hB hu p hr hz hl S
     exact gyf rfl rfl rfl (p 21 rfl) (fun hg=>⟨(gv_f hg).symm,S⟩) fun hg=>⟨_,u,(run_fieldAddr rfl fl78_1 (f.evB hB rfl rfl) rfl),(gv_t hg).symm,S⟩
    ·intro a u X hB hu p hr hz hl S
     exact gyf rfl rfl rfl (p 21 rfl) (fun hg=>⟨(gv_f hg).symm,S⟩) fun hg=>⟨_,u,(run_load1 rfl one3 ((ev_sl (p 24 rfl)).trans (gv_t hg)) ((gr_box S hl 0 rfl).cell rfl)),(gv_t hg).symm,S⟩
    ·intro a u X hB hu p hr hz hl S
     exact gyf rfl rfl rfl (p 21 rfl) (fun hg=>⟨(gv_f hg).symm,S⟩) fun hg=>⟨_,u,(run_indexAddr (b:=adB A1) (off:=adO A1) rfl Tryz.underlying26 sz4 (((ev_sl (p 23 rfl)).trans (gv_t hg)).trans (congrArg (fun A=>Value.slice A x1.length c1) ((S.rc0 h1.rc).rd.ad (ix_pos (hk118 hg))))) ((ev_sl (p 25 rfl)).trans (gv_t hg)) (hk118 hg).1 (hk118 hg).2 (k':=adO A1+(((x2.getD p114.toNat (0,0)).2).toNat)*1) rfl),(gv_t hg).symm,S⟩
    ·intro a u X hB hu p hr hz hl S
     exact gyf rfl rfl rfl (p 21 rfl) (fun hg=>⟨(gv_f hg).symm,S⟩) fun hg=>⟨_,u,(run_load1 rfl one4 ((ev_sl (p 26 rfl)).trans (gv_t hg)) (rd_el0 (l:=x1) (S.rc0 h1.rc).rd rfl eB_len false (ix_ltn (hk118 hg) rfl) rfl)),(gv_t hg).symm,S⟩
    ·intro a u X hB hu p hr hz hl S
     exact gyf rfl rfl rfl (p 21 rfl) (fun hg=>⟨(gv_f hg).symm,S⟩) fun hg=>⟨_,u,(run_not rfl ((ev_sl (p 27 rfl)).trans (gv_t hg))),(gv_t hg).symm,S⟩
    ·intro a u X hB hu p hr hz hl S
     exact .inl ⟨rfl,_,u,(run_pick_or rfl (ev_sl (p 21 rfl)) (ev_const _ _) (fun hp=>((ev_sl (p 28 rfl)).trans (gv_t (not_t hp))))),rfl,S⟩
    ·intro a u X hB hu p hr hz hl S
     exact .inl ⟨rfl,_,u,(run_move rfl (ev_sl (p 29 rfl))),rfl,S⟩
    ·intro a u X hB hu p hr hz hl S
     exact gyf rfl rfl rfl (p 30 rfl) (fun hg=>⟨(gv_f hg).symm,S⟩) fun hg=>⟨_,u,(run_fieldAddr rfl fl41_2 (f.evB hB rfl rfl) rfl),(gv_t hg).symm,S⟩
    ·intro a u X hB hu p hr hz hl S
     exact gyf rfl rfl rfl (p 30 rfl) (fun hg=>⟨(gv_f hg).symm,S⟩) fun hg=>⟨_,u,(run_load1 rfl one39 ((ev_sl (p 31 rfl)).trans (gv_t hg)) ((gr_box S hl 1 rfl).cell rfl)),(gv_t hg).symm,S⟩
    ·intro a u X hB hu p hr hz hl S
     exact gyf rfl rfl rfl (p 30 rfl) (fun hg=>⟨(gv_f hg).symm,S⟩) fun hg=>⟨_,u,(run_move rfl (f.evB hB rfl rfl)),(gv_t hg).symm,S⟩
    ·intro a u X hB hu p hr hz hl S
     exact gyf rfl rfl rfl (p 30 rfl) (fun hg=>⟨(gv_f hg).symm,S⟩) fun hg=>⟨_,u,(run_sliceH (l:=x2) rfl Tryz.underlying39 sz78 ((ev_sl (p 32 rfl)).trans (gv_t hg)) ((ev_sl (p 33 rfl)).trans (gv_t hg)) (hk119 hg) rfl (S.rc0 h2.rc).cap),(gv_t hg).symm,S⟩
    ·intro a u X hB hu p hr hz hl S
     exact gyf rfl rfl rfl (p 30 rfl) (fun hg=>⟨(gv_f hg).symm,S⟩) fun hg=>⟨_,u,(run_loadN rfl ag78 (f.evB hB rfl rfl) rfl ((gr_box S hl 0 rfl).cells 0 #[iv ((x2.getD p114.toNat (0,0)).1),iv ((x2.getD p114.toNat (0,0)).2)] rfl)),(gv_t hg).symm,S⟩
    ·intro a u X hB hu p hr hz hl S
     rcases bb (!(((((ltB ((x2.getD p114.toNat (0,0)).1) 0)||(ltB 9 ((x2.getD p114.toNat (0,0)).1)))||(ltB ((x2.getD p114.toNat (0,0)).2) 0))||(leB (x0.length:Int) ((x2.getD p114.toNat (0,0)).2)))||(!(x1.getD (((x2.getD p114.toNat (0,0)).2).toNat) false)))) with hg | hg
     ·exact .inr (.inr (.inr ⟨gr_eg rfl (yf (gr_yield rfl rfl (p 30 rfl))) hg,(gv_f hg).symm,S⟩))
     refine .inr (.inr (.inl ⟨gr_eg rfl (yf (gr_yield rfl rfl (p 30 rfl))) hg,_,_,(run_call (vs:=[.slice (subA c2 ((0:Int).toNat) 2 A2) ((subL x2 0 p114).length) (c2-(0:Int).toNat),.agg #[iv ((x2.getD p114.toNat (0,0)).1),iv ((x2.getD p114.toNat (0,0)).2)]]) rfl rfl co100 ⟨((ev_sl (p 34 rfl)).trans (gv_t hg)),((ev_sl (p 35 rfl)).trans (gv_t hg)),trivial⟩),?_⟩))
     refine Calls.mono (c_slices_Contains_impl_Permit_impl_Permit (x0:=subL x2 0 p114) (x1:=(x2.getD p114.toNat (0,0)).1) (x2:=(x2.getD p114.toNat (0,0)).2) ⟨(rc_sub ePermit_len (hk119 hg) rfl (S.rc0 h2.rc)),rfl⟩ (gb_t h120 hg)) ?_
     rintro e w1 ⟨rfl,T⟩
     exact ⟨_,rfl,(gv_t hg).symm,S.call0 T⟩
    intro a u X hB hu p hr hz hl S
    exact .inl ⟨rfl,_,u,(run_pick_or rfl (ev_sl (p 30 rfl)) (ev_const _ _) (fun hp=>((ev_sl (p 36 rfl)).trans (gv_t (not_t hp))))),rfl,S⟩
   intro a u hB hp S
   obtain ⟨q0,q1,q2,q3,q4,q5,q6,q7,q8,q9,q10,q11,q12,q13,q14,q15,q16,q17,q18,q19,q20,q21,q22,q23,q24,q25,q26,q27,q28,q29,q30,q31,q32,q33,q34,q35,q36,q37,-⟩:=hp
   replace S:St w u [.box g117 78 #[iv ((x2.getD p114.toNat (0,0)).1),iv ((x2.getD p114.toNat (0,0)).2)],.box g101 41 #[.slice A0 x0.length c0,.slice A1 x1.length c1,.slice A2 x2.length c2]]:=S
   have f:=f.region hB [(58,_),(59,_),(60,_),(61,_),(62,_),(63,_),(64,_),(65,_),(66,_),(67,_),(68,_),(69,_),(70,_),(71,_),(72,_),(73,_),(74,_),(75,_),(76,_),(77,_),(78,_),(79,_),(80,_),(81,_),(82,_),(83,_),(84,_),(85,_),(86,_),(87,_),(88,_),(89,_),(90,_),(91,_),(92,_),(93,_),(94,_),(95,_)] (allSl_mem ⟨q0,q1,q2,q3,q4,q5,q6,q7,q8,q9,q10,q11,q12,q13,q14,q15,q16,q17,q18,q19,q20,q21,q22,q23,q24,q25,q26,q27,q28,q29,q30,q31,q32,q33,q34,q35,q36,q37,trivial⟩) rfl
   clear hB q0 q1 q2 q3 q4 q5 q6 q7 q8 q9 q10 q11 q12 q13 q14 q15 q16 q17 q18 q19 q20 q21 q22 q23 q24 q25 q26 q27 q28 q29 q30 q31 q32 q33 q34 q35 q36 q37
   cases hc121:((((((ltB ((x2.getD p114.toNat (0,0)).1) 0)||(ltB 9 ((x2.getD p114.toNat (0,0)).1)))||(ltB ((x2.getD p114.toNat (0,0)).2) 0))||(leB (x0.length:Int) ((x2.getD p114.toNat (0,0)).2)))||(!(x1.getD (((x2.getD p114.toNat (0,0)).2).toNat) false)))||p120)
   ·replace hM113:=bif_f hc121 hM113
    refine cond_f f rfl hc121 ?_
    refine wp_skip ?_
    revert a;refine rl (ov rfl (fun a f=>run_add (z:=w64 (p114+1)) (f.ev rfl) rfl rfl rfl) (mv rfl rfl fun a f=>wn ?_))
    exact ⟨f2,Nat.lt_succ_self _,w64 (p114+1),hM113,f.keep _ ⟨rfl,rfl,rfl,rfl,rfl,trivial⟩,S.sel [1] rfl rfl⟩
   replace hM113:=bif_t hc121 hM113
   refine cond_t f rfl hc121 ?_
   revert a;refine sr (ov rfl (fun a f=>run_assign rfl rfl) fun a f=>wn ?_)
   refine wp_ret ?_
   repeat with_reducible first|apply tr|apply ir|apply nr
   refine ret1_gw (.inl rfl) f rfl (res_tmp (f.ev rfl)) ?_
   obtain rfl:=Option.some.inj hM113
   obtain rfl:=Option.some.inj hM
   exact ⟨rfl,S.sel [] rfl rfl⟩
  rintro a u ⟨p111,rfl,f,S⟩
  replace hM:=elim_l hM
  revert a;refine sr (ov rfl (fun a f=>run_assign rfl rfl) fun a f=>wn ?_)
  refine wp_ret ?_
  refine ret1_gw (.inl rfl) f rfl (res_tmp (f.ev rfl)) ?_
  obtain rfl:=Option.some.inj hM
  exact ⟨rfl,S.sel [] rfl rfl⟩
 replace hM:=bif_t hc102 hM
 refine cond_t f rfl hc102 ?_
 revert a;refine sr (ov rfl (fun a f=>run_assign rfl rfl) fun a f=>wn ?_)
 refine wp_ret ?_
 repeat with_reducible first|apply tr|apply ir|apply nr
 refine ret1_gw (.inl rfl) f rfl (res_tmp (f.ev rfl)) ?_
 obtain rfl:=Option.some.inj hM
 exact ⟨rfl,S.sel [] rfl rfl⟩
theorem c_impl_Net_hasLine {x0:Int} {x1:List (Int×Int×Int)} {x2:Int} {A1:Option Addr} {n1 c1:Nat} {w:World} {r:Bool} (h1:Rt w 3 eLine A1 n1 c1 x1) (hM : m_impl_Net_hasLine x0 x1 x2=some r) :
  Calls Tryz.prog 59 #[.agg #[iv x0,.slice A1 n1 c1],iv x2] w (fun e w'=>e=.returned (.bool r)∧St w w' []):=by
 obtain rfl:=h1.len
 unfold m_impl_Net_hasLine at hM
 refine calls_gx Tryz.func59 Tryz.ntmps59 rfl rfl ?_
 intro a f
 have S:=St.nil w
 refine wsg ?_
 refine op_new (cs:=#[iv x0,.slice A1 x1.length c1]) rfl rfl f rfl S (run_box rfl (f.ev rfl) rfl) ?_;clear f S;intro a g101 u f S
 revert a;refine ov rfl (fun a f=>run_assign rfl rfl) fun a f=>wn ?_
 revert a;refine sr (mv rfl rfl (ov rfl (fun a f=>run_geq (f.ev rfl) rfl rfl) (mv rfl rfl fun a f=>?_)))
 revert a;refine gt rfl rfl rfl rfl (fun a f hg=>run_move rfl (f.ev rfl)) (gt rfl rfl rfl rfl (fun a f hg=>run_fieldAddr rfl fl37_1 (f.ev rfl) rfl) (gt rfl rfl rfl rfl (fun a f hg=>run_load1 rfl one35 ((f.ev rfl).trans (gv_t hg)) (S.cell 0 rfl rfl)) (gt rfl rfl rfl rfl (fun a f hg=>run_lenL rfl rfl Tryz.underlying35 ((f.ev rfl).trans (gv_t hg))) (gt rfl rfl rfl rfl (fun a f hg=>run_lss ((f.ev rfl).trans (gv_t hg)) ((f.ev rfl).trans (gv_t hg)) rfl) fun a f=>?_))))
 revert a;refine ov rfl (fun a f=>run_pick_and rfl (f.ev rfl) (fun hp=>((f.ev rfl).trans (gv_t hp))) rfl) (ag rfl rfl fun a f=>wn ?_)
 refine wp_ret ?_
 refine ret1_gw (.inl rfl) f rfl (res_tmp (f.ev rfl)) ?_
 obtain rfl:=Option.some.inj hM
 exact ⟨rfl,S.sel [] rfl rfl⟩
theorem c_impl_StateValid {x0:Int} {x1:List (Int×Int×Int)} {x2:List Bool} {A1:Option Addr} {n1 c1:Nat} {A2:Option Addr} {n2 c2:Nat} {w:World} {r:Bool} (h1:Rt w 3 eLine A1 n1 c1 x1) (h2:Rt w 1 eB A2 n2 c2 x2) (hM : m_impl_StateValid x0 x1 x2=some r) :
  Calls Tryz.prog 142 #[.agg #[iv x0,.slice A1 n1 c1],.slice A2 n2 c2] w (fun e w'=>e=.returned (.bool r)∧St w w' []):=by
 obtain rfl:=h1.len
 obtain rfl:=h2.len
 unfold m_impl_StateValid at hM
 refine calls_gx Tryz.func142 Tryz.ntmps142 rfl rfl ?_
 intro a f
 have S:=St.nil w
 refine wsg ?_
 refine op_new (cs:=#[iv x0,.slice A1 x1.length c1]) rfl rfl f rfl S (run_box rfl (f.ev rfl) rfl) ?_;clear f S;intro a g101 u f S
 revert a;refine ov rfl (fun a f=>run_assign rfl rfl) fun a f=>wn ?_
 revert a;refine sr (ov rfl (fun a f=>run_loadN rfl ag37 (f.ev rfl) rfl ((S.free 0 rfl).cells 0 #[iv x0,.slice A1 x1.length c1] rfl)) fun a f=>?_)
 obtain ⟨p102,h102,hM⟩:=bind_ex hM
 refine op_call rfl rfl f rfl (run_call (vs:=[_]) rfl rfl co109 ⟨(f.ev rfl),trivial⟩) (c_impl_NetValid ⟨(S.rc0 h1.rc),rfl⟩ h102) ?_
 rintro e u ⟨rfl,T⟩
 refine ⟨_,rfl,?_⟩
 clear f;intro a f
 replace S:=S.call0 T;clear T
 revert a;refine mv rfl rfl (gt rfl rfl rfl rfl (fun a f hg=>run_move rfl (f.ev rfl)) (gt rfl rfl rfl rfl (fun a f hg=>run_lenL rfl rfl Tryz.underlying26 ((f.ev rfl).trans (gv_t hg))) (gt rfl rfl rfl rfl (fun a f hg=>run_fieldAddr rfl fl37_1 (f.ev rfl) rfl) (gt rfl rfl rfl rfl (fun a f hg=>run_load1 rfl one35 ((f.ev rfl).trans (gv_t hg)) (S.cell 0 rfl rfl)) (gt rfl rfl rfl rfl (fun a f hg=>run_lenL rfl rfl Tryz.underlying35 ((f.ev rfl).trans (gv_t hg))) (gt rfl rfl rfl rfl (fun a f hg=>run_eql ((f.ev rfl).trans (gv_t hg)) ((f.ev rfl).trans (gv_t hg)) rfl) fun a f=>?_))))))
 revert a;refine ov rfl (fun a f=>run_pick_and rfl (f.ev rfl) (fun hp=>((f.ev rfl).trans (gv_t hp))) rfl) (ag rfl rfl fun a f=>wn ?_)
 refine wp_ret ?_
 refine ret1_gw (.inl rfl) f rfl (res_tmp (f.ev rfl)) ?_
 obtain rfl:=Option.some.inj hM
 exact ⟨rfl,S.sel [] rfl rfl⟩
theorem c_impl_fedValid {x0:Int} {x1:List (Int×Int×Int)} {x2:List Bool} {x3:List (Int×Int)} {A1:Option Addr} {n1 c1:Nat} {A2:Option Addr} {n2 c2:Nat} {A3:Option Addr} {n3 c3:Nat} {w:World} {r:Bool} (h1:Rt w 3 eLine A1 n1 c1 x1) (h2:Rt w 1 eB A2 n2 c2 x2) (h3:Rt w 2 eBus A3 n3 c3 x3) (hM : m_impl_fedValid x0 x1 x2 x3=some r) :
  Calls Tryz.prog 119 #[.agg #[iv x0,.slice A1 n1 c1],.slice A2 n2 c2,.slice A3 n3 c3] w (fun e w'=>e=.returned (.bool r)∧St w w' []):=by
 obtain rfl:=h1.len
 obtain rfl:=h2.len
 obtain rfl:=h3.len
 unfold m_impl_fedValid at hM
 refine calls_gx Tryz.func119 Tryz.ntmps119 rfl rfl ?_
 intro a f
 have S:=St.nil w
 refine wsg ?_
 refine op_new (cs:=#[iv x0,.slice A1 x1.length c1]) rfl rfl f rfl S (run_box rfl (f.ev rfl) rfl) ?_;clear f S;intro a g101 u f S
 revert a;refine ov rfl (fun a f=>run_assign rfl rfl) fun a f=>wn ?_
 revert a;refine sr (ov rfl (fun a f=>run_loadN rfl ag37 (f.ev rfl) rfl ((S.free 0 rfl).cells 0 #[iv x0,.slice A1 x1.length c1] rfl)) (mv rfl rfl fun a f=>?_))
 obtain ⟨p102,h102,hM⟩:=bind_ex hM
 refine op_call rfl rfl f rfl (run_call (vs:=[_,_]) rfl rfl co142 ⟨(f.ev rfl),(f.ev rfl),trivial⟩) (c_impl_StateValid ⟨(S.rc0 h1.rc),rfl⟩ ⟨(S.rc0 h2.rc),rfl⟩ h102) ?_
 rintro e u ⟨rfl,T⟩
 refine ⟨_,rfl,?_⟩
 clear f;intro a f
 replace S:=S.call0 T;clear T
 revert a;refine mv rfl rfl (gt rfl rfl rfl rfl (fun a f hg=>run_loadN rfl ag37 (f.ev rfl) rfl ((S.free 0 rfl).cells 0 #[iv x0,.slice A1 x1.length c1] rfl)) (gt rfl rfl rfl rfl (fun a f hg=>run_move rfl (f.ev rfl)) fun a f=>?_))
 obtain ⟨p103,h103,hM⟩:=bind_ex hM
 refine op_gcall (v:=.bool p103) rfl rfl f rfl S (yt (gw_yield f rfl rfl rfl)) (fun hg=>(run_call (vs:=[.agg #[iv x0,.slice A1 x1.length c1],.slice A3 x3.length c3]) rfl rfl co74 ⟨((f.ev rfl).trans (gv_t hg)),((f.ev rfl).trans (gv_t hg)),trivial⟩)) (fun hg=>c_impl_BusesValid (x0:=x0) (x1:=x1) (x2:=x3) ⟨(S.rc0 h1.rc),rfl⟩ ⟨(S.rc0 h3.rc),rfl⟩ (gb_t h103 hg)) ?_;clear f S;intro a u f S
 revert a;refine ov rfl (fun a f=>run_pick_and rfl (f.ev rfl) (fun hp=>((f.ev rfl).trans (gv_t hp))) rfl) (ag rfl rfl fun a f=>wn ?_)
 refine wp_ret ?_
 refine ret1_gw (.inl rfl) f rfl (res_tmp (f.ev rfl)) ?_
 obtain rfl:=Option.some.inj hM
 exact ⟨rfl,S.sel [] rfl rfl⟩
theorem c_impl_newUnion {x0:Int} {w:World} {r:List Int}  (hM : m_impl_newUnion x0=some r) :
  Calls Tryz.prog 150 #[iv x0] w (fun e w'=>∃ (B0:Option Addr) (N0 D0:Nat),e=.returned (.slice B0 N0 D0)∧N0=r.length∧St w w' [.row 3 1 (.slice B0 N0 D0) N0 (r.flatMap eI)]):=by
 unfold m_impl_newUnion at hM
 refine calls_gx Tryz.func150 Tryz.ntmps150 rfl rfl ?_
 intro a f
 have S:=St.nil w
 revert a;refine sr (ov rfl (fun a f=>run_assign rfl rfl) fun a f=>wn ?_)
 revert a;refine sr (mv rfl rfl fun a f=>?_)
 obtain ⟨hk102,hM⟩:=chk_ex hM
 replace hk102:=mkB_t hk102
 refine op_newrowL (m:=x0.toNat) (ls:=List.replicate x0.toNat 0) (e:=eI) rfl rfl f rfl S (run_makeL rfl (f.ev rfl) (f.ev rfl) Tryz.underlying171 inf3 eI_len rfl (by decide) hk102) List.length_replicate eI_len (by rw [List.length_replicate];omega) ?_;clear f S;intro a g101 u f S
 revert a;refine ag rfl rfl fun a f=>wn ?_
 refine ws ?_
 revert a;refine sr (mv rfl rfl (ov rfl (fun a f=>run_lenL rfl rfl Tryz.underlying171 (f.ev rfl)) (ov rfl (fun a f=>run_move rfl rfl) fun a f=>wn ?_)))
 obtain ⟨o104,hM106,hM⟩:=bind_ex hM
 refine wp_cut (fun a u=>∃ (p103:List Int),p103=o104∧x0.toNat=p103.length∧Fr a 18 [(2,.slice none 0 0),(3,.slice (some ⟨g101,0,none⟩) x0.toNat x0.toNat)]∧St w u [.row 3 1 (.slice (some ⟨g101,0,none⟩) x0.toNat x0.toNat) x0.toNat (p103.flatMap eI)]) ?_ ?_
 ·have _:=trivial
  refine wp_block ?_
  refine loop_gw (fun m a u=>∃ (p107:List Int×Int),m_impl_newUnion_l1 x0 m p107=some _∧x0.toNat=p107.1.length∧Fr a 18 [(2,.slice none 0 0),(3,.slice (some ⟨g101,0,none⟩) x0.toNat x0.toNat),(8,iv (x0.toNat:Int)),(9,iv p107.2)]∧St w u [.row 3 1 (.slice (some ⟨g101,0,none⟩) x0.toNat x0.toNat) x0.toNat (p107.1.flatMap eI)]) FUEL ⟨(List.replicate x0.toNat 0,0),hM106,List.length_replicate.symm,f.keep _ ⟨rfl,rfl,rfl,rfl,trivial⟩,S.sel [0] rfl rfl⟩ ?_
  clear f S hM106;rintro m a u ⟨p107,hM106,hn108,f,S⟩
  rcases m with _ | f1
  ·exact none_some hM106
  rw [m_impl_newUnion_l1.eq_2] at hM106
  revert a;refine sr (ov rfl (fun a f=>run_lss (f.ev rfl) (f.ev rfl) rfl) fun a f=>wn ?_)
  refine ws ?_
  cases hc109:(ltB p107.2 (x0.toNat:Int))
  ·replace hM106:=bif_f hc109 hM106
   refine cond_f f rfl hc109 ?_
   refine wp_exit ?_
   repeat with_reducible first|apply then_exit|apply in_hit|refine in_miss rfl ?_
   obtain rfl:=Option.some.inj hM106
   exact ⟨p107.1,rfl,hn108,f.keep _ ⟨rfl,rfl,trivial⟩,S.sel [0] rfl rfl⟩
  replace hM106:=bif_t hc109 hM106
  refine cond_t f rfl hc109 ?_
  refine wp_skip ?_
  refine ws ?_
  refine wp_block ?_
  revert a;refine sr (mv rfl rfl (ag rfl rfl fun a f=>wn ?_))
  revert a;refine rl (mv rfl rfl (mv rfl rfl (mv rfl rfl fun a f=>?_)))
  obtain ⟨hk110,hM106⟩:=chk_ex hM106
  replace hk110:=ixB_t hk110
  revert a;refine ov rfl (fun a f=>run_indexAddr (b:=adB (some ⟨g101,0,none⟩)) (off:=adO (some ⟨g101,0,none⟩)) rfl Tryz.underlying171 sz3 ((f.ev rfl).trans (congrArg (fun A=>Value.slice A x0.toNat x0.toNat) ((S.rc 0 rfl).rd.ad (ix_pos hk110)))) (f.ev rfl) hk110.1 hk110.2 (k':=adO (some ⟨g101,0,none⟩)+p107.2.toNat*1) rfl) fun a f=>?_
  obtain ⟨w',hrun,S'⟩:=run_storeElN (P:=Tryz.prog) (ρ:=a.eval) (y0:=p107.2) (off:=0) S 3 (.tmp 15) (.tmp 14) (i:=0) sz3 (f.ev rfl) (f.ev rfl) rfl rfl rfl rfl hn108 eI_len 0 (ix_ltn hk110 hn108) rfl rfl
  refine op_do rfl rfl (hrun _ rfl) ?_;clear hrun S;have S:=S';clear S';generalize w'=u at S ⊢
  refine wn ?_
  revert a;refine rl (ov rfl (fun a f=>run_add (z:=w64 (p107.2+1)) (f.ev rfl) rfl rfl rfl) (mv rfl rfl fun a f=>wn ?_))
  exact ⟨f1,Nat.lt_succ_self _,(p107.1.set p107.2.toNat p107.2,w64 (p107.2+1)),hM106,(len_set hn108),f.keep _ ⟨rfl,rfl,rfl,rfl,trivial⟩,S.sel [0] rfl rfl⟩
 rintro a u ⟨p103,rfl,hn105,f,S⟩
 revert a;refine sr (mv rfl rfl (ag rfl rfl fun a f=>wn ?_))
 refine wp_ret ?_
 refine ret1_gw (.inl rfl) f rfl (res_tmp (f.ev rfl)) ?_
 obtain rfl:=Option.some.inj hM
 exact ⟨(some ⟨g101,0,none⟩),x0.toNat,x0.toNat,rfl,hn105,S.sel [0] rfl rfl⟩
theorem c_impl_union_find {x0:List Int} {x1:Int} {A0:Option Addr} {n0 c0:Nat} {w:World} {r:Int×List Int} {w0:World} {X:List Asn} (h0 : n0=x0.length) (S:St w0 w (Asn.row 3 1 (.slice A0 n0 c0) n0 (x0.flatMap eI) :: X)) (hM : m_impl_union_find x0 x1=some r) :
  Calls Tryz.prog 156 #[.slice A0 n0 c0,iv x1] w (fun e w'=>e=.returned (iv r.1)∧n0=r.2.length∧St w0 w' (Asn.row 3 1 (.slice A0 n0 c0) n0 (r.2.flatMap eI) :: X)):=by
 obtain rfl:=h0
 unfold m_impl_union_find at hM
 refine calls_gx Tryz.func156 Tryz.ntmps156 rfl rfl ?_
 intro a f
 revert a;refine sr (ov rfl (fun a f=>run_assign rfl rfl) fun a f=>wn ?_)
 refine ws ?_
 obtain ⟨o102,hM104,hM⟩:=bind_ex hM
 refine wp_cut (fun a u=>∃ (p101:Int×List Int),p101=o102∧x0.length=p101.2.length∧Fr a 26 [(1,iv p101.1),(4,iv 0)]∧St w0 u (Asn.row 3 1 (.slice A0 x0.length c0) x0.length (p101.2.flatMap eI) :: X)) ?_ ?_
 ·have _:=trivial
  refine wp_block ?_
  refine loop_gw (fun m a u=>∃ (p105:List Int×Int),m_impl_union_find_l1 x0 m p105=some _∧x0.length=p105.1.length∧Fr a 26 [(0,.slice A0 x0.length c0),(1,iv p105.2),(4,iv 0)]∧St w0 u (Asn.row 3 1 (.slice A0 x0.length c0) x0.length (p105.1.flatMap eI) :: X)) FUEL ⟨(x0,x1),hM104,rfl,f.keep _ ⟨rfl,rfl,rfl,trivial⟩,S.selT (M:=[.row 3 1 (.slice A0 x0.length c0) x0.length (x0.flatMap eI)]) 1 [0] rfl rfl rfl⟩ ?_
  clear f S hM104;rintro m a u ⟨p105,hM104,hn106,f,S⟩
  rcases m with _ | f1
  ·exact none_some hM104
  rw [m_impl_union_find_l1.eq_2] at hM104
  refine ws ?_
  revert a;refine sr (mv rfl rfl (mv rfl rfl fun a f=>?_))
  obtain ⟨hk107,hM104⟩:=chk_ex hM104
  replace hk107:=ixB_t hk107
  revert a;refine ov rfl (fun a f=>run_ix rfl Tryz.underlying171 sz3 (f.ev rfl) (S.rc 0 rfl) (f.ev rfl) hk107) (ov rfl (fun a f=>run_load1 rfl one3 (f.ev rfl) (rd_el0 (l:=p105.1) (S.rc 0 rfl).rd hn106 eI_len 0 (ix_ltn hk107 hn106) rfl)) (mv rfl rfl (ov rfl (fun a f=>run_neq (f.ev rfl) (f.ev rfl) rfl) fun a f=>wn ?_)))
  cases hc108:((p105.1.getD p105.2.toNat 0) != p105.2)
  ·replace hM104:=bif_f hc108 hM104
   refine cond_f f rfl hc108 ?_
   refine wp_exit ?_
   repeat with_reducible first|apply then_exit|apply in_hit|refine in_miss rfl ?_
   obtain rfl:=Option.some.inj hM104
   exact ⟨(p105.2,p105.1),rfl,hn106,f.keep _ ⟨rfl,rfl,trivial⟩,S.selT (M:=[.row 3 1 (.slice A0 x0.length c0) x0.length (p105.1.flatMap eI)]) 1 [0] rfl rfl rfl⟩
  replace hM104:=bif_t hc108 hM104
  refine cond_t f rfl hc108 ?_
  refine wp_skip ?_
  refine wp_block ?_
  revert a;refine sr (mv rfl rfl (mv rfl rfl (mv rfl rfl (mv rfl rfl (mv rfl rfl fun a f=>?_)))))
  obtain ⟨hk109,hM104⟩:=chk_ex hM104
  replace hk109:=ixB_t hk109
  revert a;refine ov rfl (fun a f=>run_ix rfl Tryz.underlying171 sz3 (f.ev rfl) (S.rc 0 rfl) (f.ev rfl) hk109) (ov rfl (fun a f=>run_load1 rfl one3 (f.ev rfl) (rd_el0 (l:=p105.1) (S.rc 0 rfl).rd hn106 eI_len 0 (ix_ltn hk109 hn106) rfl)) fun a f=>?_)
  obtain ⟨hk110,hM104⟩:=chk_ex hM104
  replace hk110:=ixB_t hk110
  revert a;refine ov rfl (fun a f=>run_ix rfl Tryz.underlying171 sz3 (f.ev rfl) (S.rc 0 rfl) (f.ev rfl) hk110) (ov rfl (fun a f=>run_load1 rfl one3 (f.ev rfl) (rd_el0 (l:=p105.1) (S.rc 0 rfl).rd hn106 eI_len 0 (ix_ltn hk110 hn106) rfl)) fun a f=>?_)
  obtain ⟨hk111,hM104⟩:=chk_ex hM104
  replace hk111:=ixB_t hk111
  revert a;refine ov rfl (fun a f=>run_ix rfl Tryz.underlying171 sz3 (f.ev rfl) (S.rc 0 rfl) (f.ev rfl) hk111) fun a f=>?_
  obtain ⟨w',hrun,S'⟩:=run_storeElN (P:=Tryz.prog) (ρ:=a.eval) (y0:=(p105.1.getD ((p105.1.getD p105.2.toNat 0).toNat) 0)) (off:=0) S 3 (.tmp 20) (.tmp 19) (i:=0) sz3 (f.ev rfl) (f.ev rfl) rfl rfl rfl rfl hn106 eI_len 0 (ix_ltn hk111 hn106) rfl rfl
  refine op_do rfl rfl (hrun _ rfl) ?_;clear hrun S;have S:=S';clear S';generalize w'=u at S ⊢
  refine wn ?_
  revert a;refine rl (mv rfl rfl (mv rfl rfl fun a f=>?_))
  obtain ⟨hk112,hM104⟩:=chk_ex hM104
  replace hk112:=ixB_t hk112
  revert a;refine ov rfl (fun a f=>run_ix rfl Tryz.underlying171 sz3 (f.ev rfl) (S.rc 0 rfl) (f.ev rfl) hk112) (ov rfl (fun a f=>run_load1 rfl one3 (f.ev rfl) (rd_el0 (l:=p105.1.set p105.2.toNat (p105.1.getD ((p105.1.getD p105.2.toNat 0).toNat) 0)) (S.rc 0 rfl).rd (len_set hn106) eI_len 0 (ix_ltn hk112 (len_set hn106)) rfl)) (ag rfl rfl fun a f=>wn ?_))
  exact ⟨f1,Nat.lt_succ_self _,(p105.1.set p105.2.toNat (p105.1.getD ((p105.1.getD p105.2.toNat 0).toNat) 0),((p105.1.set p105.2.toNat (p105.1.getD ((p105.1.getD p105.2.toNat 0).toNat) 0)).getD p105.2.toNat 0)),hM104,(len_set hn106),f.keep _ ⟨rfl,rfl,rfl,trivial⟩,S.selT (M:=[.row 3 1 (.slice A0 x0.length c0) x0.length ((p105.1.set p105.2.toNat (p105.1.getD ((p105.1.getD p105.2.toNat 0).toNat) 0)).flatMap eI)]) 1 [0] rfl rfl rfl⟩
 rintro a u ⟨p101,rfl,hn103,f,S⟩
 revert a;refine sr (mv rfl rfl (ag rfl rfl fun a f=>wn ?_))
 refine wp_ret ?_
 refine ret1_gw (.inl rfl) f rfl (res_tmp (f.ev rfl)) ?_
 obtain rfl:=Option.some.inj hM
 exact ⟨rfl,hn103,S.selT (M:=[.row 3 1 (.slice A0 x0.length c0) x0.length (p101.2.flatMap eI)]) 1 [0] rfl rfl rfl⟩
theorem c_impl_union_same {x0:List Int} {x1:Int} {x2:Int} {A0:Option Addr} {n0 c0:Nat} {w:World} {r:Bool×List Int} {w0:World} {X:List Asn} (h0 : n0=x0.length) (S:St w0 w (Asn.row 3 1 (.slice A0 n0 c0) n0 (x0.flatMap eI) :: X)) (hM : m_impl_union_same x0 x1 x2=some r) :
  Calls Tryz.prog 151 #[.slice A0 n0 c0,iv x1,iv x2] w (fun e w'=>e=.returned (.bool r.1)∧n0=r.2.length∧St w0 w' (Asn.row 3 1 (.slice A0 n0 c0) n0 (r.2.flatMap eI) :: X)):=by
 obtain rfl:=h0
 unfold m_impl_union_same at hM
 refine calls_gx Tryz.func151 Tryz.ntmps151 rfl rfl ?_
 intro a f
 revert a;refine sr (ov rfl (fun a f=>run_assign rfl rfl) fun a f=>wn ?_)
 revert a;refine sr (mv rfl rfl (mv rfl rfl fun a f=>?_))
 obtain ⟨p101,h101,hM⟩:=bind_ex hM
 refine op_call rfl rfl f rfl (run_call (vs:=[_,_]) rfl rfl co156 ⟨(f.ev rfl),(f.ev rfl),trivial⟩) (c_impl_union_find rfl (show St w0 _ (Asn.row 3 1 (.slice A0 x0.length c0) x0.length (x0.flatMap eI) :: X) from S.selT (M:=[.row 3 1 (.slice A0 x0.length c0) x0.length (x0.flatMap eI)]) 1 [0] rfl rfl rfl) h101) ?_
 rintro e u ⟨rfl,hn102,T⟩
 refine ⟨_,rfl,?_⟩
 clear f;intro a f
 clear S;have S:=T;clear T
 revert a;refine mv rfl rfl (mv rfl rfl fun a f=>?_)
 obtain ⟨p103,h103,hM⟩:=bind_ex hM
 refine op_call rfl rfl f rfl (run_call (vs:=[_,_]) rfl rfl co156 ⟨(f.ev rfl),(f.ev rfl),trivial⟩) (c_impl_union_find hn102 (show St w0 _ (Asn.row 3 1 (.slice A0 x0.length c0) x0.length (p101.2.flatMap eI) :: X) from S.selT (M:=[.row 3 1 (.slice A0 x0.length c0) x0.length (p101.2.flatMap eI)]) 1 [0] rfl rfl rfl) h103) ?_
 rintro e u ⟨rfl,hn104,T⟩
 refine ⟨_,rfl,?_⟩
 clear f;intro a f
 clear S;have S:=T;clear T
 revert a;refine ov rfl (fun a f=>run_eql (f.ev rfl) (f.ev rfl) rfl) (ag rfl rfl fun a f=>wn ?_)
 refine wp_ret ?_
 refine ret1_gw (.inl rfl) f rfl (res_tmp (f.ev rfl)) ?_
 obtain rfl:=Option.some.inj hM
 exact ⟨rfl,hn104,S.selT (M:=[.row 3 1 (.slice A0 x0.length c0) x0.length (p103.2.flatMap eI)]) 1 [0] rfl rfl rfl⟩
theorem c_impl_union_join {x0:List Int} {x1:Int} {x2:Int} {A0:Option Addr} {n0 c0:Nat} {w:World} {r:List Int} {w0:World} {X:List Asn} (h0 : n0=x0.length) (S:St w0 w (Asn.row 3 1 (.slice A0 n0 c0) n0 (x0.flatMap eI) :: X)) (hM : m_impl_union_join x0 x1 x2=some r) :
  Calls Tryz.prog 152 #[.slice A0 n0 c0,iv x1,iv x2] w (fun e w'=>e=.returned (.tuple #[])∧n0=r.length∧St w0 w' (Asn.row 3 1 (.slice A0 n0 c0) n0 (r.flatMap eI) :: X)):=by
 obtain rfl:=h0
 unfold m_impl_union_join at hM
 refine calls_gx Tryz.func152 Tryz.ntmps152 rfl rfl ?_
 intro a f
 revert a;refine sr (mv rfl rfl (mv rfl rfl fun a f=>?_))
 obtain ⟨p101,h101,hM⟩:=bind_ex hM
 refine op_call rfl rfl f rfl (run_call (vs:=[_,_]) rfl rfl co156 ⟨(f.ev rfl),(f.ev rfl),trivial⟩) (c_impl_union_find rfl (show St w0 _ (Asn.row 3 1 (.slice A0 x0.length c0) x0.length (x0.flatMap eI) :: X) from S.selT (M:=[.row 3 1 (.slice A0 x0.length c0) x0.length (x0.flatMap eI)]) 1 [0] rfl rfl rfl) h101) ?_
 rintro e u ⟨rfl,hn102,T⟩
 refine ⟨_,rfl,?_⟩
 clear f;intro a f
 clear S;have S:=T;clear T
 revert a;refine mv rfl rfl (mv rfl rfl fun a f=>?_)
 obtain ⟨p103,h103,hM⟩:=bind_ex hM
 refine op_call rfl rfl f rfl (run_call (vs:=[_,_]) rfl rfl co156 ⟨(f.ev rfl),(f.ev rfl),trivial⟩) (c_impl_union_find hn102 (show St w0 _ (Asn.row 3 1 (.slice A0 x0.length c0) x0.length (p101.2.flatMap eI) :: X) from S.selT (M:=[.row 3 1 (.slice A0 x0.length c0) x0.length (p101.2.flatMap eI)]) 1 [0] rfl rfl rfl) h103) ?_
 rintro e u ⟨rfl,hn104,T⟩
 refine ⟨_,rfl,?_⟩
 clear f;intro a f
 clear S;have S:=T;clear T
 revert a;refine ag rfl rfl (ag rfl rfl fun a f=>wn ?_)
 revert a;refine rl (mv rfl rfl (mv rfl rfl (mv rfl rfl (ov rfl (fun a f=>run_max rfl (f.ev rfl) (f.ev rfl)) (mv rfl rfl (mv rfl rfl (ov rfl (fun a f=>run_min rfl (f.ev rfl) (f.ev rfl)) fun a f=>?_)))))))
 obtain ⟨hk105,hM⟩:=chk_ex hM
 replace hk105:=ixB_t hk105
 revert a;refine ov rfl (fun a f=>run_ix rfl Tryz.underlying171 sz3 (f.ev rfl) (S.rc 0 rfl) (f.ev rfl) hk105) fun a f=>?_
 obtain ⟨w',hrun,S'⟩:=run_storeElN (P:=Tryz.prog) (ρ:=a.eval) (y0:=min p101.1 p103.1) (off:=0) S 3 (.tmp 19) (.tmp 18) (i:=0) sz3 (f.ev rfl) (f.ev rfl) rfl rfl rfl rfl hn104 eI_len 0 (ix_ltn hk105 hn104) rfl rfl
 refine op_do rfl rfl (hrun _ rfl) ?_;clear hrun S;have S:=S';clear S';generalize w'=u at S ⊢
 refine wn ?_
 refine ret0_gw (.inr rfl) f rfl  ?_
 obtain rfl:=Option.some.inj hM
 exact ⟨rfl,(len_set hn104),S.selT (M:=[.row 3 1 (.slice A0 x0.length c0) x0.length ((p103.2.set ((max p101.1 p103.1).toNat) (min p101.1 p103.1)).flatMap eI)]) 1 [0] rfl rfl rfl⟩
theorem c_impl_hasCycle {x0:Int} {x1:List (Int×Int×Int)} {x2:List Bool} {A1:Option Addr} {n1 c1:Nat} {A2:Option Addr} {n2 c2:Nat} {w:World} {r:Bool} (h1:Rt w 3 eLine A1 n1 c1 x1) (h2:Rt w 1 eB A2 n2 c2 x2) (hM : m_impl_hasCycle x0 x1 x2=some r) :
  Calls Tryz.prog 137 #[.agg #[iv x0,.slice A1 n1 c1],.slice A2 n2 c2] w (fun e w'=>e=.returned (.bool r)∧St w w' []):=by
 obtain rfl:=h1.len
 obtain rfl:=h2.len
 unfold m_impl_hasCycle at hM
 refine calls_gx Tryz.func137 Tryz.ntmps137 rfl rfl ?_
 intro a f
 have S:=St.nil w
 refine wsg ?_
 refine op_new (cs:=#[iv x0,.slice A1 x1.length c1]) rfl rfl f rfl S (run_box rfl (f.ev rfl) rfl) ?_;clear f S;intro a g101 u f S
 revert a;refine ov rfl (fun a f=>run_assign rfl rfl) fun a f=>wn ?_
 revert a;refine sr (ov rfl (fun a f=>run_fieldAddr rfl fl37_0 (f.ev rfl) rfl) (ov rfl (fun a f=>run_load1 rfl one3 (f.ev rfl) (S.cell 0 rfl rfl)) fun a f=>?_))
 obtain ⟨p102,h102,hM⟩:=bind_ex hM
 refine op_call rfl rfl f rfl (run_call (vs:=[_]) rfl rfl co150 ⟨(f.ev rfl),trivial⟩) (c_impl_newUnion  h102) ?_
 rintro e u ⟨B103,n104,d105,rfl,rfl,T⟩
 refine ⟨_,rfl,?_⟩
 clear f;intro a f
 replace S:=S.call1 T;clear T
 revert a;refine ag rfl rfl fun a f=>wn ?_
 refine ws ?_
 revert a;refine sr (ov rfl (fun a f=>run_fieldAddr rfl fl37_1 (f.ev rfl) rfl) (ov rfl (fun a f=>run_load1 rfl one35 (f.ev rfl) (S.cell 1 rfl rfl)) (ov rfl (fun a f=>run_lenL rfl rfl Tryz.underlying35 (f.ev rfl)) (ov rfl (fun a f=>run_move rfl rfl) fun a f=>wn ?_))))
 obtain ⟨o107,hM108,hM⟩:=bind_ex hM
 refine wp_cut (fun a u=>∃ (p106:Unit),(Sum.inl p106)=o107∧Fr a 36 [(4,.bool false)]∧St w u []) ?_ ?_
 ·have _:=trivial
  refine wp_block ?_
  refine loop_gw (fun m a u=>∃ (p109:List Int×Int),m_impl_hasCycle_l1 x1 x2 m p109=some _∧p102.length=p109.1.length∧Fr a 36 [(1,.slice A2 x2.length c2),(4,.bool false),(5,.slice B103 p102.length d105),(12,.slice A1 x1.length c1),(13,iv (x1.length:Int)),(14,iv p109.2)]∧St w u [.row 3 1 (.slice B103 p102.length d105) p102.length (p109.1.flatMap eI)]) FUEL ⟨(p102,0),hM108,rfl,f.keep _ ⟨rfl,rfl,rfl,rfl,rfl,rfl,trivial⟩,S.sel [0] rfl rfl⟩ ?_
  clear f S hM108;rintro m a u ⟨p109,hM108,hn110,f,S⟩
  rcases m with _ | f1
  ·exact none_some hM108
  rw [m_impl_hasCycle_l1.eq_2] at hM108
  revert a;refine sr (ov rfl (fun a f=>run_lss (f.ev rfl) (f.ev rfl) rfl) fun a f=>wn ?_)
  refine ws ?_
  cases hc111:(ltB p109.2 (x1.length:Int))
  ·replace hM108:=bif_f hc111 hM108
   refine cond_f f rfl hc111 ?_
   refine wp_exit ?_
   repeat with_reducible first|apply then_exit|apply in_hit|refine in_miss rfl ?_
   obtain rfl:=Option.some.inj hM108
   exact ⟨(),rfl,f.keep _ ⟨rfl,trivial⟩,S.sel [] rfl rfl⟩
  replace hM108:=bif_t hc111 hM108
  refine cond_t f rfl hc111 ?_
  refine wp_skip ?_
  refine ws ?_
  refine wp_block ?_
  revert a;refine sr (mv rfl rfl fun a f=>?_)
  obtain ⟨hk112,hM108⟩:=chk_ex hM108
  replace hk112:=ixB_t hk112
  revert a;refine ov rfl (fun a f=>run_ix rfl Tryz.underlying35 sz130 (f.ev rfl) (S.rc0 h1.rc) (f.ev rfl) hk112) (ov rfl (fun a f=>run_loadN (cs:=#[iv ((x1.getD p109.2.toNat (0,0,0)).1),iv ((x1.getD p109.2.toNat (0,0,0)).2.1),iv ((x1.getD p109.2.toNat (0,0,0)).2.2)]) rfl ag130 (f.ev rfl) rfl (rd_elN (l:=x1) (S.rc0 h1.rc).rd rfl eLine_len (0,0,0) (ix_ltn hk112 rfl) rfl)) fun a f=>?_)
  refine op_new (cs:=#[iv 0,iv 0,iv 0]) rfl rfl f rfl S (run_allocZ rfl zr130) ?_;clear f S;intro a g113 u f S
  revert a;refine ag rfl rfl fun a f=>?_
  refine op_do rfl rfl (run_store (cs':=#[iv ((x1.getD p109.2.toNat (0,0,0)).1),iv ((x1.getD p109.2.toNat (0,0,0)).2.1),iv ((x1.getD p109.2.toNat (0,0,0)).2.2)]) rfl sz130 (f.ev rfl) (f.ev rfl) rfl rfl rfl (S.free 0 rfl) rfl rfl) ?_;replace S:=S.put 0 rfl (#[iv ((x1.getD p109.2.toNat (0,0,0)).1),iv ((x1.getD p109.2.toNat (0,0,0)).2.1),iv ((x1.getD p109.2.toNat (0,0,0)).2.2)])
  generalize World.setRow _ _ _=u at S ⊢
  refine wn ?_
  revert a;refine sr (mv rfl rfl (mv rfl rfl fun a f=>?_))
  obtain ⟨hk114,hM108⟩:=chk_ex hM108
  replace hk114:=ixB_t hk114
  revert a;refine ov rfl (fun a f=>run_ix rfl Tryz.underlying26 sz4 (f.ev rfl) (S.rc0 h2.rc) (f.ev rfl) hk114) (ov rfl (fun a f=>run_load1 rfl one4 (f.ev rfl) (rd_el0 (l:=x2) (S.rc0 h2.rc).rd rfl eB_len false (ix_ltn hk114 rfl) rfl)) fun a f=>wn ?_)
  obtain ⟨o116,hM118,hM108⟩:=bind_ex hM108
  refine wp_cut (fun a u=>∃ (p115:List Int),(Sum.inl p115)=o116∧p102.length=p115.length∧Fr a 36 [(1,.slice A2 x2.length c2),(4,.bool false),(5,.slice B103 p102.length d105),(12,.slice A1 x1.length c1),(13,iv (x1.length:Int)),(14,iv p109.2)]∧St w u [.row 3 1 (.slice B103 p102.length d105) p102.length (p115.flatMap eI)]) ?_ ?_
  ·have _:=trivial
   cases hc119:(x2.getD p109.2.toNat false)
   ·replace hM118:=bif_f hc119 hM118
    refine cond_f f rfl hc119 ?_
    refine wp_skip ?_
    obtain rfl:=Option.some.inj hM118
    exact ⟨p109.1,rfl,hn110,f.keep _ ⟨rfl,rfl,rfl,rfl,rfl,rfl,trivial⟩,S.sel [1] rfl rfl⟩
   replace hM118:=bif_t hc119 hM118
   refine cond_t f rfl hc119 ?_
   refine ws ?_
   revert a;refine sr (mv rfl rfl (ov rfl (fun a f=>run_fieldAddr rfl fl130_0 (f.ev rfl) rfl) (ov rfl (fun a f=>run_load1 rfl one3 (f.ev rfl) (S.cell 0 rfl rfl)) (ov rfl (fun a f=>run_fieldAddr rfl fl130_1 (f.ev rfl) rfl) (ov rfl (fun a f=>run_load1 rfl one3 (f.ev rfl) (S.cell 0 rfl rfl)) fun a f=>?_)))))
   obtain ⟨p120,h120,hM118⟩:=bind_ex hM118
   refine op_call rfl rfl f rfl (run_call (vs:=[_,_,_]) rfl rfl co151 ⟨(f.ev rfl),(f.ev rfl),(f.ev rfl),trivial⟩) (c_impl_union_same hn110 (show St w _ [.row 3 1 (.slice B103 p102.length d105) p102.length (p109.1.flatMap eI),.box g113 130 #[iv ((x1.getD p109.2.toNat (0,0,0)).1),iv ((x1.getD p109.2.toNat (0,0,0)).2.1),iv ((x1.getD p109.2.toNat (0,0,0)).2.2)]] from S.sel [1,0] rfl rfl) h120) ?_
   rintro e u ⟨rfl,hn121,T⟩
   refine ⟨_,rfl,?_⟩
   clear f;intro a f
   clear S;have S:=T;clear T
   refine wn ?_
   cases hc122:(p120.1)
   ·replace hM118:=bif_f hc122 hM118
    refine cond_f f rfl hc122 ?_
    refine wp_skip ?_
    revert a;refine rl (mv rfl rfl (ov rfl (fun a f=>run_fieldAddr rfl fl130_0 (f.ev rfl) rfl) (ov rfl (fun a f=>run_load1 rfl one3 (f.ev rfl) (S.cell 1 rfl rfl)) (ov rfl (fun a f=>run_fieldAddr rfl fl130_1 (f.ev rfl) rfl) (ov rfl (fun a f=>run_load1 rfl one3 (f.ev rfl) (S.cell 1 rfl rfl)) fun a f=>?_)))))
    obtain ⟨p123,h123,hM118⟩:=bind_ex hM118
    refine op_call rfl rfl f rfl (run_call (vs:=[_,_,_]) rfl rfl co152 ⟨(f.ev rfl),(f.ev rfl),(f.ev rfl),trivial⟩) (c_impl_union_join hn121 (show St w _ [.row 3 1 (.slice B103 p102.length d105) p102.length (p120.2.flatMap eI),.box g113 130 #[iv ((x1.getD p109.2.toNat (0,0,0)).1),iv ((x1.getD p109.2.toNat (0,0,0)).2.1),iv ((x1.getD p109.2.toNat (0,0,0)).2.2)]] from S.sel [0,1] rfl rfl) h123) ?_
    rintro e u ⟨rfl,hn124,T⟩
    refine ⟨_,rfl,?_⟩
    clear f;intro a f
    clear S;have S:=T;clear T
    refine wn ?_
    obtain rfl:=Option.some.inj hM118
    exact ⟨p123,rfl,hn124,f.keep _ ⟨rfl,rfl,rfl,rfl,rfl,rfl,trivial⟩,S.sel [0] rfl rfl⟩
   replace hM118:=bif_t hc122 hM118
   refine cond_t f rfl hc122 ?_
   revert a;refine sr (ov rfl (fun a f=>run_assign rfl rfl) fun a f=>wn ?_)
   refine wp_ret ?_
   repeat with_reducible first|apply tr|apply ir|apply nr
   refine ret1_gw (.inl rfl) f rfl (res_tmp (f.ev rfl)) ?_
   obtain rfl:=Option.some.inj hM118
   obtain rfl:=Option.some.inj hM108
   obtain rfl:=Option.some.inj hM
   exact ⟨rfl,S.sel [] rfl rfl⟩
  rintro a u ⟨p115,rfl,hn117,f,S⟩
  replace hM108:=elim_l hM108
  revert a;refine rl (ov rfl (fun a f=>run_add (z:=w64 (p109.2+1)) (f.ev rfl) rfl rfl rfl) (mv rfl rfl fun a f=>wn ?_))
  exact ⟨f1,Nat.lt_succ_self _,(p115,w64 (p109.2+1)),hM108,hn117,f.keep _ ⟨rfl,rfl,rfl,rfl,rfl,rfl,trivial⟩,S.sel [0] rfl rfl⟩
 rintro a u ⟨p106,rfl,f,S⟩
 replace hM:=elim_l hM
 revert a;refine sr (ov rfl (fun a f=>run_assign rfl rfl) fun a f=>wn ?_)
 refine wp_ret ?_
 refine ret1_gw (.inl rfl) f rfl (res_tmp (f.ev rfl)) ?_
 obtain rfl:=Option.some.inj hM
 exact ⟨rfl,S.sel [] rfl rfl⟩
theorem c_impl_Line_other {x0:Int} {x1:Int} {x2:Int} {x3:Int} {w:World} {r:Int}  (hM : m_impl_Line_other x0 x1 x2 x3=some r) :
  Calls Tryz.prog 153 #[.agg #[iv x0,iv x1,iv x2],iv x3] w (fun e w'=>e=.returned (iv r)∧St w w' []):=by
 unfold m_impl_Line_other at hM
 refine calls_gx Tryz.func153 Tryz.ntmps153 rfl rfl ?_
 intro a f
 have S:=St.nil w
 refine wsg ?_
 refine op_new (cs:=#[iv x0,iv x1,iv x2]) rfl rfl f rfl S (run_box rfl (f.ev rfl) rfl) ?_;clear f S;intro a g101 u f S
 revert a;refine ov rfl (fun a f=>run_assign rfl rfl) fun a f=>wn ?_
 refine ws ?_
 revert a;refine sr (mv rfl rfl fun a f=>wn ?_)
 refine wp_block ?_
 revert a;refine sr (ov rfl (fun a f=>run_fieldAddr rfl fl130_0 (f.ev rfl) rfl) (ov rfl (fun a f=>run_load1 rfl one3 (f.ev rfl) (S.cell 0 rfl rfl)) (ov rfl (fun a f=>run_eql (f.ev rfl) (f.ev rfl) rfl) (ag rfl rfl fun a f=>wn ?_))))
 cases hc102:(x3==x0)
 ·replace hM:=bif_f hc102 hM
  refine cond_f f rfl hc102 ?_
  revert a;refine sr (ov rfl (fun a f=>run_fieldAddr rfl fl130_1 (f.ev rfl) rfl) (ov rfl (fun a f=>run_load1 rfl one3 (f.ev rfl) (S.cell 0 rfl rfl)) (ov rfl (fun a f=>run_eql (f.ev rfl) (f.ev rfl) rfl) (ag rfl rfl fun a f=>wn ?_))))
  cases hc103:(x3==x1)
  ·replace hM:=bif_f hc103 hM
   refine cond_f f rfl hc103 ?_
   refine wp_skip ?_
   revert a;refine sr (ov rfl (fun a f=>run_assign rfl rfl) fun a f=>wn ?_)
   refine wp_ret ?_
   refine ret1_gw (.inl rfl) f rfl (res_tmp (f.ev rfl)) ?_
   obtain rfl:=Option.some.inj hM
   exact ⟨rfl,S.sel [] rfl rfl⟩
  replace hM:=bif_t hc103 hM
  refine cond_t f rfl hc103 ?_
  revert a;refine sr (ov rfl (fun a f=>run_fieldAddr rfl fl130_0 (f.ev rfl) rfl) (ov rfl (fun a f=>run_load1 rfl one3 (f.ev rfl) (S.cell 0 rfl rfl)) (ag rfl rfl fun a f=>wn ?_)))
  refine wp_ret ?_
  repeat with_reducible first|apply tr|apply ir|apply nr
  refine ret1_gw (.inl rfl) f rfl (res_tmp (f.ev rfl)) ?_
  obtain rfl:=Option.some.inj hM
  exact ⟨rfl,S.sel [] rfl rfl⟩
 replace hM:=bif_t hc102 hM
 refine cond_t f rfl hc102 ?_
 revert a;refine sr (ov rfl (fun a f=>run_fieldAddr rfl fl130_1 (f.ev rfl) rfl) (ov rfl (fun a f=>run_load1 rfl one3 (f.ev rfl) (S.cell 0 rfl rfl)) (ag rfl rfl fun a f=>wn ?_)))
 refine wp_ret ?_
 repeat with_reducible first|apply tr|apply ir|apply nr
 refine ret1_gw (.inl rfl) f rfl (res_tmp (f.ev rfl)) ?_
 obtain rfl:=Option.some.inj hM
 exact ⟨rfl,S.sel [] rfl rfl⟩
theorem c_impl_tree_search {x0:Int} {x1:List (Int×Int×Int)} {x2:List Int} {x3:List Int} {x4:List Int} {x5:List Bool} {x6:Int} {A1:Option Addr} {n1 c1:Nat} {Y1:Asn} {A2:Option Addr} {n2 c2:Nat} {A3:Option Addr} {n3 c3:Nat} {A4:Option Addr} {n4 c4:Nat} {g0:Nat} {A5:Option Addr} {n5 c5:Nat} {w:World} {r:Int×List Int×List Int×List Int} {w0:World} {X:List Asn} (h1 : n1=x1.length) (hY1 : ∀ u,Y1.holds u→Rc u 3 A1 n1 c1 (x1.flatMap eLine)) (h2 : n2=x2.length) (h3 : n3=x3.length) (h4 : n4=x4.length) (h5:Rt w0 1 eB A5 n5 c5 x5) (S:St w0 w (Asn.box g0 145 #[iv x0,.slice A1 n1 c1,.slice A2 n2 c2,.slice A3 n3 c3,.slice A4 n4 c4] :: Y1 :: Asn.row 3 1 (.slice A2 n2 c2) n2 (x2.flatMap eI) :: Asn.row 3 1 (.slice A3 n3 c3) n3 (x3.flatMap eI) :: Asn.row 3 1 (.slice A4 n4 c4) n4 (x4.flatMap eI) :: X)) (hM : m_impl_tree_search x0 x1 x2 x3 x4 x5 x6=some r) :
  Calls Tryz.prog 138 #[.pointer (some ⟨g0,0,none⟩),.slice A5 n5 c5,iv x6] w (fun e w'=>∃ (B0:Option Addr) (N0 D0:Nat) (B1:Option Addr) (N1 D1:Nat) (B2:Option Addr) (N2 D2:Nat),e=.returned (.tuple #[])∧N0=r.2.1.length∧N1=r.2.2.1.length∧N2=r.2.2.2.length∧St w0 w' (Asn.box g0 145 #[iv r.1,.slice A1 n1 c1,.slice B0 N0 D0,.slice B1 N1 D1,.slice B2 N2 D2] :: Asn.row 3 1 (.slice B0 N0 D0) N0 (r.2.1.flatMap eI) :: Asn.row 3 1 (.slice B1 N1 D1) N1 (r.2.2.1.flatMap eI) :: Asn.row 3 1 (.slice B2 N2 D2) N2 (r.2.2.2.flatMap eI) :: Y1 :: X)):=by
 obtain rfl:=h1
 obtain rfl:=h2
 obtain rfl:=h3
 obtain rfl:=h4
 obtain rfl:=h5.len
 unfold m_impl_tree_search at hM
 refine calls_gx Tryz.func138 Tryz.ntmps138 rfl rfl ?_
 intro a f
 revert a;refine sr (mv rfl rfl (ov rfl (fun a f=>run_nilCheck rfl (f.ev rfl)) (ov rfl (fun a f=>run_fieldAddr rfl fl145_3 (f.ev rfl) rfl) (ov rfl (fun a f=>run_load1 rfl one30 (f.ev rfl) (S.cell 0 rfl rfl)) (ov rfl (fun a f=>run_lenL rfl rfl Tryz.underlying30 (f.ev rfl)) (ag rfl rfl fun a f=>wn ?_))))))
 revert a;refine sr (mv rfl rfl (mv rfl rfl (ov rfl (fun a f=>run_nilCheck rfl (f.ev rfl)) (ov rfl (fun a f=>run_fieldAddr rfl fl145_3 (f.ev rfl) rfl) (ov rfl (fun a f=>run_load1 rfl one30 (f.ev rfl) (S.cell 0 rfl rfl)) (mv rfl rfl fun a f=>?_))))))
 refine op_newrowL (ls:=(([x6]:List Int):List Int)) (e:=eI) rfl rfl f rfl S (run_buildS (vs:=[(0,iv x6)]) rfl ⟨⟨rfl,(f.ev rfl)⟩,trivial⟩ (bs30_1_0 rfl)) rfl eI_len (Nat.le_of_ble_eq_true rfl) ?_;clear f S;intro a g101 u f S
 obtain ⟨hk104,hM⟩:=chk_ex hM
 replace hk104:=apB_t hk104
 refine op_appendL (lx:=x4) (ly:=([x6]:List Int)) rfl rfl f rfl S rfl (f.ev rfl) (f.ev rfl) (i:=5) rfl rfl Tryz.underlying30 inf3 rfl (by decide) (S.rc 0 rfl).rd rfl eI_one hk104 (by decide) ?_;clear f S;intro a B102 d103 u f S
 revert a;refine ov rfl (fun a f=>run_nilCheck rfl (f.ev rfl)) (ov rfl (fun a f=>run_fieldAddr rfl fl145_3 (f.ev rfl) rfl) fun a f=>?_)
 refine op_do rfl rfl (run_store (cs':=#[iv x0,.slice A1 x1.length c1,.slice A2 x2.length c2,.slice A3 x3.length c3,.slice B102 ((x4++([x6]:List Int)).length) d103]) rfl sz30 (f.ev rfl) (f.ev rfl) rfl rfl rfl (S.free 1 rfl) rfl rfl) ?_;replace S:=S.put 1 rfl (#[iv x0,.slice A1 x1.length c1,.slice A2 x2.length c2,.slice A3 x3.length c3,.slice B102 ((x4++([x6]:List Int)).length) d103])
 generalize World.setRow _ _ _=u at S ⊢
 refine wn ?_
 obtain ⟨o106,hM111,hM⟩:=bind_ex hM
 refine wp_cut (fun a u=>∃ (p105:List Int×List Int×List Int) (B109:Option Addr) (d110:Nat),p105=o106∧x2.length=p105.1.length∧x3.length=p105.2.1.length∧Fr a 99 []∧St w0 u (Asn.box g0 145 #[iv x0,.slice A1 x1.length c1,.slice A2 x2.length c2,.slice A3 x3.length c3,.slice B109 p105.2.2.length d110] :: Y1 :: Asn.row 3 1 (.slice A2 x2.length c2) x2.length (p105.1.flatMap eI) :: Asn.row 3 1 (.slice A3 x3.length c3) x3.length (p105.2.1.flatMap eI) :: Asn.row 3 1 (.slice B109 p105.2.2.length d110) p105.2.2.length (p105.2.2.flatMap eI) :: X)) ?_ ?_
 ·have _:=trivial
  refine wp_block ?_
  refine loop_gw (fun m a u=>∃ (p112:Int×List Int×List Int×List Int) (B115:Option Addr) (d116:Nat),m_impl_tree_search_l1 x1 x2 x3 x5 x6 m p112=some _∧x2.length=p112.2.1.length∧x3.length=p112.2.2.1.length∧Fr a 99 [(0,.pointer (some ⟨g0,0,none⟩)),(1,.slice A5 x5.length c5),(2,iv x6),(6,iv p112.1)]∧St w0 u (Asn.box g0 145 #[iv x0,.slice A1 x1.length c1,.slice A2 x2.length c2,.slice A3 x3.length c3,.slice B115 p112.2.2.2.length d116] :: Y1 :: Asn.row 3 1 (.slice A2 x2.length c2) x2.length (p112.2.1.flatMap eI) :: Asn.row 3 1 (.slice A3 x3.length c3) x3.length (p112.2.2.1.flatMap eI) :: Asn.row 3 1 (.slice B115 p112.2.2.2.length d116) p112.2.2.2.length (p112.2.2.2.flatMap eI) :: X)) FUEL ⟨((x4.length:Int),x2,x3,x4++([x6]:List Int)),B102,d103,hM111,rfl,rfl,f.keep _ ⟨rfl,rfl,rfl,rfl,trivial⟩,S.selT (M:=[.box g0 145 #[iv x0,.slice A1 x1.length c1,.slice A2 x2.length c2,.slice A3 x3.length c3,.slice B102 ((x4++([x6]:List Int)).length) d103],Y1,.row 3 1 (.slice A2 x2.length c2) x2.length (x2.flatMap eI),.row 3 1 (.slice A3 x3.length c3) x3.length (x3.flatMap eI),.row 3 1 (.slice B102 ((x4++([x6]:List Int)).length) d103) ((x4++([x6]:List Int)).length) ((x4++([x6]:List Int)).flatMap eI)]) 6 [1,2,3,4,5] rfl rfl rfl⟩ ?_
  clear f S hM111;rintro m a u ⟨p112,B115,d116,hM111,hn113,hn114,f,S⟩
  rcases m with _ | f1
  ·exact none_some hM111
  rw [m_impl_tree_search_l1.eq_2] at hM111
  refine ws ?_
  revert a;refine sr (mv rfl rfl (mv rfl rfl (ov rfl (fun a f=>run_nilCheck rfl (f.ev rfl)) (ov rfl (fun a f=>run_fieldAddr rfl fl145_3 (f.ev rfl) rfl) (ov rfl (fun a f=>run_load1 rfl one30 (f.ev rfl) (S.cell 0 rfl rfl)) (ov rfl (fun a f=>run_lenL rfl rfl Tryz.underlying30 (f.ev rfl)) (ov rfl (fun a f=>run_lss (f.ev rfl) (f.ev rfl) rfl) fun a f=>wn ?_)))))))
  cases hc117:(ltB p112.1 (p112.2.2.2.length:Int))
  ·replace hM111:=bif_f hc117 hM111
   refine cond_f f rfl hc117 ?_
   refine wp_exit ?_
   repeat with_reducible first|apply then_exit|apply in_hit|refine in_miss rfl ?_
   obtain rfl:=Option.some.inj hM111
   exact ⟨(p112.2.1,p112.2.2.1,p112.2.2.2),B115,d116,rfl,hn113,hn114,f.keep _ trivial,S.selT (M:=[.box g0 145 #[iv x0,.slice A1 x1.length c1,.slice A2 x2.length c2,.slice A3 x3.length c3,.slice B115 p112.2.2.2.length d116],Y1,.row 3 1 (.slice A2 x2.length c2) x2.length (p112.2.1.flatMap eI),.row 3 1 (.slice A3 x3.length c3) x3.length (p112.2.2.1.flatMap eI),.row 3 1 (.slice B115 p112.2.2.2.length d116) p112.2.2.2.length (p112.2.2.2.flatMap eI)]) 5 [0,1,2,3,4] rfl rfl rfl⟩
  replace hM111:=bif_t hc117 hM111
  refine cond_t f rfl hc117 ?_
  refine wp_skip ?_
  refine ws ?_
  refine wp_block ?_
  revert a;refine sr (mv rfl rfl (ov rfl (fun a f=>run_nilCheck rfl (f.ev rfl)) (ov rfl (fun a f=>run_fieldAddr rfl fl145_3 (f.ev rfl) rfl) (ov rfl (fun a f=>run_load1 rfl one30 (f.ev rfl) (S.cell 0 rfl rfl)) (mv rfl rfl fun a f=>?_)))))
  obtain ⟨hk118,hM111⟩:=chk_ex hM111
  replace hk118:=ixB_t hk118
  revert a;refine ov rfl (fun a f=>run_ix rfl Tryz.underlying30 sz3 (f.ev rfl) (S.rc 4 rfl) (f.ev rfl) hk118) (ov rfl (fun a f=>run_load1 rfl one3 (f.ev rfl) (rd_el0 (l:=p112.2.2.2) (S.rc 4 rfl).rd rfl eI_len 0 (ix_ltn hk118 rfl) rfl)) (ag rfl rfl fun a f=>wn ?_))
  revert a;refine sr (mv rfl rfl (ov rfl (fun a f=>run_nilCheck rfl (f.ev rfl)) (ov rfl (fun a f=>run_fieldAddr rfl fl145_0 (f.ev rfl) rfl) (ov rfl (fun a f=>run_fieldAddr rfl fl37_1 (f.ev rfl) rfl) (ov rfl (fun a f=>run_load1 rfl one35 (f.ev rfl) (S.cell 0 rfl rfl)) (ov rfl (fun a f=>run_lenL rfl rfl Tryz.underlying35 (f.ev rfl)) (ov rfl (fun a f=>run_move rfl rfl) fun a f=>wn ?_)))))))
  obtain ⟨o120,hM125,hM111⟩:=bind_ex hM111
  refine wp_cut (fun a u=>∃ (p119:List Int×List Int×List Int) (B123:Option Addr) (d124:Nat),p119=o120∧x2.length=p119.1.length∧x3.length=p119.2.1.length∧Fr a 99 [(0,.pointer (some ⟨g0,0,none⟩)),(1,.slice A5 x5.length c5),(2,iv x6),(6,iv p112.1)]∧St w0 u (Asn.box g0 145 #[iv x0,.slice A1 x1.length c1,.slice A2 x2.length c2,.slice A3 x3.length c3,.slice B123 p119.2.2.length d124] :: Y1 :: Asn.row 3 1 (.slice A2 x2.length c2) x2.length (p119.1.flatMap eI) :: Asn.row 3 1 (.slice A3 x3.length c3) x3.length (p119.2.1.flatMap eI) :: Asn.row 3 1 (.slice B123 p119.2.2.length d124) p119.2.2.length (p119.2.2.flatMap eI) :: X)) ?_ ?_
  ·have _:=trivial
   refine wp_block ?_
   refine loop_gw (fun m a u=>∃ (p126:Int×List Int×List Int×List Int) (B129:Option Addr) (d130:Nat),m_impl_tree_search_l2 x1 x2 x3 x5 x6 p112 m p126=some _∧x2.length=p126.2.1.length∧x3.length=p126.2.2.1.length∧Fr a 99 [(0,.pointer (some ⟨g0,0,none⟩)),(1,.slice A5 x5.length c5),(2,iv x6),(6,iv p112.1),(7,iv (p112.2.2.2.getD p112.1.toNat 0)),(46,.slice A1 x1.length c1),(47,iv (x1.length:Int)),(48,iv p126.1)]∧St w0 u (Asn.box g0 145 #[iv x0,.slice A1 x1.length c1,.slice A2 x2.length c2,.slice A3 x3.length c3,.slice B129 p126.2.2.2.length d130] :: Y1 :: Asn.row 3 1 (.slice A2 x2.length c2) x2.length (p126.2.1.flatMap eI) :: Asn.row 3 1 (.slice A3 x3.length c3) x3.length (p126.2.2.1.flatMap eI) :: Asn.row 3 1 (.slice B129 p126.2.2.2.length d130) p126.2.2.2.length (p126.2.2.2.flatMap eI) :: X)) FUEL ⟨(0,p112.2.1,p112.2.2.1,p112.2.2.2),B115,d116,hM125,hn113,hn114,f.keep _ ⟨rfl,rfl,rfl,rfl,rfl,rfl,rfl,rfl,trivial⟩,S.selT (M:=[.box g0 145 #[iv x0,.slice A1 x1.length c1,.slice A2 x2.length c2,.slice A3 x3.length c3,.slice B115 p112.2.2.2.length d116],Y1,.row 3 1 (.slice A2 x2.length c2) x2.length (p112.2.1.flatMap eI),.row 3 1 (.slice A3 x3.length c3) x3.length (p112.2.2.1.flatMap eI),.row 3 1 (.slice B115 p112.2.2.2.length d116) p112.2.2.2.length (p112.2.2.2.flatMap eI)]) 5 [0,1,2,3,4] rfl rfl rfl⟩ ?_
   clear f S hM125;rintro m a u ⟨p126,B129,d130,hM125,hn127,hn128,f,S⟩
   rcases m with _ | f2
   ·exact none_some hM125
   rw [m_impl_tree_search_l2.eq_2] at hM125
   revert a;refine sr (ov rfl (fun a f=>run_lss (f.ev rfl) (f.ev rfl) rfl) fun a f=>wn ?_)
   refine ws ?_
   cases hc131:(ltB p126.1 (x1.length:Int))
   ·replace hM125:=bif_f hc131 hM125
    refine cond_f f rfl hc131 ?_
    refine wp_exit ?_
    repeat with_reducible first|apply then_exit|apply in_hit|refine in_miss rfl ?_
    obtain rfl:=Option.some.inj hM125
    exact ⟨(p126.2.1,p126.2.2.1,p126.2.2.2),B129,d130,rfl,hn127,hn128,f.keep _ ⟨rfl,rfl,rfl,rfl,trivial⟩,S.selT (M:=[.box g0 145 #[iv x0,.slice A1 x1.length c1,.slice A2 x2.length c2,.slice A3 x3.length c3,.slice B129 p126.2.2.2.length d130],Y1,.row 3 1 (.slice A2 x2.length c2) x2.length (p126.2.1.flatMap eI),.row 3 1 (.slice A3 x3.length c3) x3.length (p126.2.2.1.flatMap eI),.row 3 1 (.slice B129 p126.2.2.2.length d130) p126.2.2.2.length (p126.2.2.2.flatMap eI)]) 5 [0,1,2,3,4] rfl rfl rfl⟩
   replace hM125:=bif_t hc131 hM125
   refine cond_t f rfl hc131 ?_
   refine wp_skip ?_
   refine ws ?_
   refine wp_block ?_
   revert a;refine sr (mv rfl rfl fun a f=>?_)
   obtain ⟨hk132,hM125⟩:=chk_ex hM125
   replace hk132:=ixB_t hk132
   revert a;refine ov rfl (fun a f=>run_indexAddr (b:=adB A1) (off:=adO A1) rfl Tryz.underlying35 sz130 ((f.ev rfl).trans (congrArg (fun A=>Value.slice A x1.length c1) ((hY1 _ (S.get (i:=1) rfl)).rd.ad (ix_pos hk132)))) (f.ev rfl) hk132.1 hk132.2 (k':=adO A1+p126.1.toNat*3) rfl) (ov rfl (fun a f=>run_loadN (cs:=#[iv ((x1.getD p126.1.toNat (0,0,0)).1),iv ((x1.getD p126.1.toNat (0,0,0)).2.1),iv ((x1.getD p126.1.toNat (0,0,0)).2.2)]) rfl ag130 (f.ev rfl) rfl (rd_elN (l:=x1) (hY1 _ (S.get (i:=1) rfl)).rd rfl eLine_len (0,0,0) (ix_ltn hk132 rfl) rfl)) fun a f=>?_)
   refine op_new (cs:=#[iv 0,iv 0,iv 0]) rfl rfl f rfl S (run_allocZ rfl zr130) ?_;clear f S;intro a g133 u f S
   revert a;refine ag rfl rfl fun a f=>?_
   refine op_do rfl rfl (run_store (cs':=#[iv ((x1.getD p126.1.toNat (0,0,0)).1),iv ((x1.getD p126.1.toNat (0,0,0)).2.1),iv ((x1.getD p126.1.toNat (0,0,0)).2.2)]) rfl sz130 (f.ev rfl) (f.ev rfl) rfl rfl rfl (S.free 0 rfl) rfl rfl) ?_;replace S:=S.put 0 rfl (#[iv ((x1.getD p126.1.toNat (0,0,0)).1),iv ((x1.getD p126.1.toNat (0,0,0)).2.1),iv ((x1.getD p126.1.toNat (0,0,0)).2.2)])
   generalize World.setRow _ _ _=u at S ⊢
   refine wn ?_
   revert a;refine sr (ov rfl (fun a f=>run_loadN rfl ag130 (f.ev rfl) rfl ((S.free 0 rfl).cells 0 #[iv ((x1.getD p126.1.toNat (0,0,0)).1),iv ((x1.getD p126.1.toNat (0,0,0)).2.1),iv ((x1.getD p126.1.toNat (0,0,0)).2.2)] rfl)) (mv rfl rfl fun a f=>?_))
   obtain ⟨p134,h134,hM125⟩:=bind_ex hM125
   refine op_call rfl rfl f rfl (run_call (vs:=[_,_]) rfl rfl co153 ⟨(f.ev rfl),(f.ev rfl),trivial⟩) (c_impl_Line_other  h134) ?_
   rintro e u ⟨rfl,T⟩
   refine ⟨_,rfl,?_⟩
   clear f;intro a f
   replace S:=S.call0 T;clear T
   revert a;refine ag rfl rfl fun a f=>wn ?_
   revert a;refine sr (mv rfl rfl (mv rfl rfl fun a f=>?_))
   obtain ⟨hk135,hM125⟩:=chk_ex hM125
   replace hk135:=ixB_t hk135
   revert a;refine ov rfl (fun a f=>run_ix rfl Tryz.underlying26 sz4 (f.ev rfl) (S.rc0 h5.rc) (f.ev rfl) hk135) (ov rfl (fun a f=>run_load1 rfl one4 (f.ev rfl) (rd_el0 (l:=x5) (S.rc0 h5.rc).rd rfl eB_len false (ix_ltn hk135 rfl) rfl)) (mv rfl rfl fun a f=>?_))
   revert a;refine gt rfl rfl rfl rfl (fun a f hg=>run_move rfl (f.ev rfl)) (gt rfl rfl rfl rfl (fun a f hg=>run_geq ((f.ev rfl).trans (gv_t hg)) rfl rfl) fun a f=>?_)
   revert a;refine ov rfl (fun a f=>run_pick_and rfl (f.ev rfl) (fun hp=>((f.ev rfl).trans (gv_t hp))) rfl) (mv rfl rfl fun a f=>?_)
   revert a;refine gt rfl rfl rfl rfl (fun a f hg=>run_move rfl (f.ev rfl)) (gt rfl rfl rfl rfl (fun a f hg=>run_nilCheck rfl ((f.ev rfl).trans (gv_t hg))) (gt rfl rfl rfl rfl (fun a f hg=>run_fieldAddr rfl fl145_1 ((f.ev rfl).trans (gv_t hg)) rfl) (gt rfl rfl rfl rfl (fun a f hg=>run_load1 rfl one30 ((f.ev rfl).trans (gv_t hg)) (S.cell 1 rfl rfl)) (gt rfl rfl rfl rfl (fun a f hg=>run_move rfl (f.ev rfl)) fun a f=>?_))))
   obtain ⟨hk136,hM125⟩:=chk_ex hM125
   replace hk136:=fun hg=>ixB_t (imp_t hk136 hg)
   revert a;refine gt rfl rfl rfl rfl (fun a f hg=>run_ix rfl Tryz.underlying30 sz3 ((f.ev rfl).trans (gv_t hg)) (S.rc 3 rfl) ((f.ev rfl).trans (gv_t hg)) (hk136 hg)) (gt rfl rfl rfl rfl (fun a f hg=>run_load1 rfl one3 ((f.ev rfl).trans (gv_t hg)) (rd_el0 (l:=p126.2.1) (S.rc 3 rfl).rd hn127 eI_len 0 (ix_ltn (hk136 hg) hn127) rfl)) (gt rfl rfl rfl rfl (fun a f hg=>run_lss ((f.ev rfl).trans (gv_t hg)) rfl rfl) (ov rfl (fun a f=>run_pick_and rfl (f.ev rfl) (fun hp=>((f.ev rfl).trans (gv_t hp))) rfl) fun a f=>wn ?_)))
   obtain ⟨o138,hM143,hM125⟩:=bind_ex hM125
   refine wp_cut (fun a u=>∃ (p137:List Int×List Int×List Int) (B141:Option Addr) (d142:Nat),p137=o138∧x2.length=p137.1.length∧x3.length=p137.2.1.length∧Fr a 99 [(0,.pointer (some ⟨g0,0,none⟩)),(1,.slice A5 x5.length c5),(2,iv x6),(6,iv p112.1),(7,iv (p112.2.2.2.getD p112.1.toNat 0)),(46,.slice A1 x1.length c1),(47,iv (x1.length:Int)),(48,iv p126.1)]∧St w0 u (Asn.box g0 145 #[iv x0,.slice A1 x1.length c1,.slice A2 x2.length c2,.slice A3 x3.length c3,.slice B141 p137.2.2.length d142] :: Y1 :: Asn.row 3 1 (.slice A2 x2.length c2) x2.length (p137.1.flatMap eI) :: Asn.row 3 1 (.slice A3 x3.length c3) x3.length (p137.2.1.flatMap eI) :: Asn.row 3 1 (.slice B141 p137.2.2.length d142) p137.2.2.length (p137.2.2.flatMap eI) :: X)) ?_ ?_
   ·have _:=trivial
    cases hc144:(((x5.getD p126.1.toNat false)&&(leB 0 p134))&&(ltB (p126.2.1.getD p134.toNat 0) 0))
    ·replace hM143:=bif_f hc144 hM143
     refine cond_f f rfl hc144 ?_
     refine wp_skip ?_
     obtain rfl:=Option.some.inj hM143
     exact ⟨(p126.2.1,p126.2.2.1,p126.2.2.2),B129,d130,rfl,hn127,hn128,f.keep _ ⟨rfl,rfl,rfl,rfl,rfl,rfl,rfl,rfl,trivial⟩,S.selT (M:=[.box g0 145 #[iv x0,.slice A1 x1.length c1,.slice A2 x2.length c2,.slice A3 x3.length c3,.slice B129 p126.2.2.2.length d130],Y1,.row 3 1 (.slice A2 x2.length c2) x2.length (p126.2.1.flatMap eI),.row 3 1 (.slice A3 x3.length c3) x3.length (p126.2.2.1.flatMap eI),.row 3 1 (.slice B129 p126.2.2.2.length d130) p126.2.2.2.length (p126.2.2.2.flatMap eI)]) 6 [1,2,3,4,5] rfl rfl rfl⟩
    replace hM143:=bif_t hc144 hM143
    refine cond_t f rfl hc144 ?_
    refine ws ?_
    obtain ⟨hk145,hM143⟩:=chk_ex hM143
    replace hk145:=ixB_t hk145
    obtain ⟨hk146,hM143⟩:=chk_ex hM143
    replace hk146:=ixB_t hk146
    refine region_gw (D:=[74,75,76,77,78,79,80,81,82,83,84,85,86,87]) (Lr:=(Asn.box g133 130 #[iv ((x1.getD p126.1.toNat (0,0,0)).1),iv ((x1.getD p126.1.toNat (0,0,0)).2.1),iv ((x1.getD p126.1.toNat (0,0,0)).2.2)] :: Asn.box g0 145 #[iv x0,.slice A1 x1.length c1,.slice A2 x2.length c2,.slice A3 x3.length c3,.slice B129 p126.2.2.2.length d130] :: Y1 :: Asn.row 3 1 (.slice B129 p126.2.2.2.length d130) p126.2.2.2.length (p126.2.2.2.flatMap eI) :: X)) (deps:=(fun | 0=>[74] | 1=>[75] | 2=>[76] | 3=>[77] | 4=>[78] | 5=>[79] | 6=>[80] | 7=>[81] | 8=>[82] | 9=>[83] | 10=>[84] | 11=>[85] | 12=>[86] | 13=>[86] | 14=>[87] | 15=>[87] | _=>[])) (rd:=(fun _=>[])) (zr:=(fun | 12=>[13] | 14=>[15] | _=>[]))
     (φ:=fun i vs=>match i,vs with | 0,[v74]=>v74=.pointer (some ⟨g0,0,none⟩) | 1,[v75]=>v75=.pointer (some ⟨g0,0,none⟩) | 2,[v76]=>v76=.pointer (some ⟨g0,2,none⟩) | 3,[v77]=>v77=.slice A2 x2.length c2 | 4,[v78]=>v78=iv p134 | 5,[v79]=>v79=.pointer (some ⟨g0,0,none⟩) | 6,[v80]=>v80=.pointer (some ⟨g0,0,none⟩) | 7,[v81]=>v81=.pointer (some ⟨g0,3,none⟩) | 8,[v82]=>v82=.slice A3 x3.length c3 | 9,[v83]=>v83=iv p134 | 10,[v84]=>v84=iv x6 | 11,[v85]=>v85=iv p126.1 | 12,[v86]=>v86=.pointer (some ⟨adB A2,adO A2+p134.toNat*1,none⟩) | 14,[v87]=>v87=.pointer (some ⟨adB A3,adO A3+p134.toNat*1,none⟩) | _,_=>True)
     (C:=fun i vs=>match i,vs with | 13,[v86]=>[.row 3 1 (.slice A2 x2.length c2) x2.length ((p126.2.1.set p134.toNat x6).flatMap eI)] | 15,[v87]=>[.row 3 1 (.slice A3 x3.length c3) x3.length ((p126.2.2.1.set p134.toNat p126.1).flatMap eI)] | _,_=>[])
     (κ:=(fun _=>none)) (Z:=(fun | 13=>[.row 3 1 (.slice A2 x2.length c2) x2.length (p126.2.1.flatMap eI)] | 15=>[.row 3 1 (.slice A3 x3.length c3) x3.length (p126.2.2.1.flatMap eI)] | _=>[])) mixed f (by kernel_rfl) (show St w0 _ (Asn.row 3 1 (.slice A2 x2.length c2) x2.length (p126.2.1.flatMap eI) :: Asn.row 3 1 (.slice A3 x3.length c3) x3.length (p126.2.2.1.flatMap eI) :: Asn.box g133 130 #[iv ((x1.getD p126.1.toNat (0,0,0)).1),iv ((x1.getD p126.1.toNat (0,0,0)).2.1),iv ((x1.getD p126.1.toNat (0,0,0)).2.2)] :: Asn.box g0 145 #[iv x0,.slice A1 x1.length c1,.slice A2 x2.length c2,.slice A3 x3.length c3,.slice B129 p126.2.2.2.length d130] :: Y1 :: Asn.row 3 1 (.slice B129 p126.2.2.2.length d130) p126.2.2.2.length (p126.2.2.2.flatMap eI) :: X) from S.selT (M:=[.row 3 1 (.slice A2 x2.length c2) x2.length (p126.2.1.flatMap eI),.row 3 1 (.slice A3 x3.length c3) x3.length (p126.2.2.1.flatMap eI),.box g133 130 #[iv ((x1.getD p126.1.toNat (0,0,0)).1),iv ((x1.getD p126.1.toNat (0,0,0)).2.1),iv ((x1.getD p126.1.toNat (0,0,0)).2.2)],.box g0 145 #[iv x0,.slice A1 x1.length c1,.slice A2 x2.length c2,.slice A3 x3.length c3,.slice B129 p126.2.2.2.length d130],Y1,.row 3 1 (.slice B129 p126.2.2.2.length d130) p126.2.2.2.length (p126.2.2.2.flatMap eI)]) 6 [3,4,0,1,2,5] rfl rfl rfl) ?_ ?_
    ·refine ⟨?_,?_,?_,?_,?_,?_,?_,?_,?_,?_,?_,?_,?_,?_,?_,?_,trivial⟩
     ·intro a u X' hB hu hp hr hz hl S
      replace S:St w0 u ([]++X'):=S
      exact .inl ⟨rfl,.pointer (some ⟨g0,0,none⟩),u,(run_move rfl (f.evB hB rfl rfl)),rfl,S⟩
     ·intro a u X' hB hu hp hr hz hl S
      replace S:St w0 u ([]++X'):=S
      have e74 : sl a 74=.pointer (some ⟨g0,0,none⟩):=hp 0 rfl
      exact .inl ⟨rfl,.pointer (some ⟨g0,0,none⟩),u,(run_nilCheck rfl (ev_sl e74)),rfl,S⟩
     ·intro a u X' hB hu hp hr hz hl S
      replace S:St w0 u ([]++X'):=S
      have e75 : sl a 75=.pointer (some ⟨g0,0,none⟩):=hp 1 rfl
      exact .inl ⟨rfl,.pointer (some ⟨g0,2,none⟩),u,(run_fieldAddr rfl fl145_1 (ev_sl e75) rfl),rfl,S⟩
     ·intro a u X' hB hu hp hr hz hl S
      replace S:St w0 u ([]++X'):=S
      have e76 : sl a 76=.pointer (some ⟨g0,2,none⟩):=hp 2 rfl
      exact .inl ⟨rfl,.slice A2 x2.length c2,u,(run_load1 rfl one30 (ev_sl e76) ((gr_box S hl 1 rfl).cell rfl)),rfl,S⟩
     ·intro a u X' hB hu hp hr hz hl S
      replace S:St w0 u ([]++X'):=S
      exact .inl ⟨rfl,iv p134,u,(run_move rfl (f.evB hB rfl rfl)),rfl,S⟩
     ·intro a u X' hB hu hp hr hz hl S
      replace S:St w0 u ([]++X'):=S
      exact .inl ⟨rfl,.pointer (some ⟨g0,0,none⟩),u,(run_move rfl (f.evB hB rfl rfl)),rfl,S⟩
     ·intro a u X' hB hu hp hr hz hl S
      replace S:St w0 u ([]++X'):=S
      have e79 : sl a 79=.pointer (some ⟨g0,0,none⟩):=hp 5 rfl
      exact .inl ⟨rfl,.pointer (some ⟨g0,0,none⟩),u,(run_nilCheck rfl (ev_sl e79)),rfl,S⟩
     ·intro a u X' hB hu hp hr hz hl S
      replace S:St w0 u ([]++X'):=S
      have e80 : sl a 80=.pointer (some ⟨g0,0,none⟩):=hp 6 rfl
      exact .inl ⟨rfl,.pointer (some ⟨g0,3,none⟩),u,(run_fieldAddr rfl fl145_2 (ev_sl e80) rfl),rfl,S⟩
     ·intro a u X' hB hu hp hr hz hl S
      replace S:St w0 u ([]++X'):=S
      have e81 : sl a 81=.pointer (some ⟨g0,3,none⟩):=hp 7 rfl
      exact .inl ⟨rfl,.slice A3 x3.length c3,u,(run_load1 rfl one30 (ev_sl e81) ((gr_box S hl 1 rfl).cell rfl)),rfl,S⟩
     ·intro a u X' hB hu hp hr hz hl S
      replace S:St w0 u ([]++X'):=S
      exact .inl ⟨rfl,iv p134,u,(run_move rfl (f.evB hB rfl rfl)),rfl,S⟩
     ·intro a u X' hB hu hp hr hz hl S
      replace S:St w0 u ([]++X'):=S
      exact .inl ⟨rfl,iv x6,u,(run_move rfl (f.evB hB rfl rfl)),rfl,S⟩
     ·intro a u X' hB hu hp hr hz hl S
      replace S:St w0 u ([]++X'):=S
      exact .inl ⟨rfl,iv p126.1,u,(run_move rfl (f.evB hB rfl rfl)),rfl,S⟩
     ·intro a u X' hB hu hp hr hz hl S
      replace S:St w0 u ([]++X'):=S
      have e77 : sl a 77=.slice A2 x2.length c2:=hp 3 rfl
      have e78 : sl a 78=iv p134:=hp 4 rfl
      exact .inl ⟨rfl,.pointer (some ⟨adB A2,adO A2+p134.toNat*1,none⟩),u,(run_indexAddr (b:=adB A2) (off:=adO A2) rfl Tryz.underlying30 sz3 ((ev_sl e77).trans (congrArg (fun A=>Value.slice A x2.length c2) ((own_rc (show Ow _ _ _ _ _ _ from S.mem (List.mem_append_right _ (hz 13 (List.mem_of_getElem? (i:=0) rfl) _ (List.mem_of_getElem? (i:=0) rfl))))).rd.ad (ix_pos hk145)))) (ev_sl e78) hk145.1 hk145.2 (k':=adO A2+p134.toNat*1) rfl),rfl,S⟩
     ·intro a u X' hB hu hp hr hz hl S
      replace S:St w0 u ([.row 3 1 (.slice A2 x2.length c2) x2.length (p126.2.1.flatMap eI)]++X'):=S
      have e84 : sl a 84=iv x6:=hp 10 rfl
      have e86 : sl a 86=.pointer (some ⟨adB A2,adO A2+p134.toNat*1,none⟩):=hp 12 rfl
      obtain ⟨w',hrun,S'⟩:=run_storeElN (P:=Tryz.prog) (ρ:=a.eval) (y0:=x6) (off:=0) S 3 (.tmp 86) (.tmp 84) (i:=0) sz3 (ev_sl e86) (ev_sl e84) rfl rfl rfl rfl hn127 eI_len 0 (ix_ltn hk145 hn127) rfl rfl
      exact .inr (.inl ⟨rfl,w',hrun _ rfl,trivial,S'⟩)
     ·intro a u X' hB hu hp hr hz hl S
      replace S:St w0 u ([]++X'):=S
      have e82 : sl a 82=.slice A3 x3.length c3:=hp 8 rfl
      have e83 : sl a 83=iv p134:=hp 9 rfl
      exact .inl ⟨rfl,.pointer (some ⟨adB A3,adO A3+p134.toNat*1,none⟩),u,(run_indexAddr (b:=adB A3) (off:=adO A3) rfl Tryz.underlying30 sz3 ((ev_sl e82).trans (congrArg (fun A=>Value.slice A x3.length c3) ((own_rc (show Ow _ _ _ _ _ _ from S.mem (List.mem_append_right _ (hz 15 (List.mem_of_getElem? (i:=0) rfl) _ (List.mem_of_getElem? (i:=0) rfl))))).rd.ad (ix_pos hk146)))) (ev_sl e83) hk146.1 hk146.2 (k':=adO A3+p134.toNat*1) rfl),rfl,S⟩
     intro a u X' hB hu hp hr hz hl S
     replace S:St w0 u ([.row 3 1 (.slice A3 x3.length c3) x3.length (p126.2.2.1.flatMap eI)]++X'):=S
     have e85 : sl a 85=iv p126.1:=hp 11 rfl
     have e87 : sl a 87=.pointer (some ⟨adB A3,adO A3+p134.toNat*1,none⟩):=hp 14 rfl
     obtain ⟨w',hrun,S'⟩:=run_storeElN (P:=Tryz.prog) (ρ:=a.eval) (y0:=p126.1) (off:=0) S 3 (.tmp 87) (.tmp 85) (i:=0) sz3 (ev_sl e87) (ev_sl e85) rfl rfl rfl rfl hn128 eI_len 0 (ix_ltn hk146 hn128) rfl rfl
     exact .inr (.inl ⟨rfl,w',hrun _ rfl,trivial,S'⟩)
    intro a u hB hp S
    obtain ⟨q0,q1,q2,q3,q4,q5,q6,q7,q8,q9,q10,q11,q12,q13,q14,q15,-⟩:=hp
    replace S:St w0 u (Asn.row 3 1 (.slice A2 x2.length c2) x2.length ((p126.2.1.set p134.toNat x6).flatMap eI) :: Asn.row 3 1 (.slice A3 x3.length c3) x3.length ((p126.2.2.1.set p134.toNat p126.1).flatMap eI) :: Asn.box g133 130 #[iv ((x1.getD p126.1.toNat (0,0,0)).1),iv ((x1.getD p126.1.toNat (0,0,0)).2.1),iv ((x1.getD p126.1.toNat (0,0,0)).2.2)] :: Asn.box g0 145 #[iv x0,.slice A1 x1.length c1,.slice A2 x2.length c2,.slice A3 x3.length c3,.slice B129 p126.2.2.2.length d130] :: Y1 :: Asn.row 3 1 (.slice B129 p126.2.2.2.length d130) p126.2.2.2.length (p126.2.2.2.flatMap eI) :: X):=S
    have f:=f.region hB [(74,_),(75,_),(76,_),(77,_),(78,_),(79,_),(80,_),(81,_),(82,_),(83,_),(84,_),(85,_),(86,_),(87,_)] (allSl_mem ⟨q0,q1,q2,q3,q4,q5,q6,q7,q8,q9,q10,q11,q12,q14,trivial⟩) rfl
    clear hB q0 q1 q2 q3 q4 q5 q6 q7 q8 q9 q10 q11 q12 q13 q14 q15
    revert a;refine rl (mv rfl rfl (mv rfl rfl (ov rfl (fun a f=>run_nilCheck rfl (f.ev rfl)) (ov rfl (fun a f=>run_fieldAddr rfl fl145_3 (f.ev rfl) rfl) (ov rfl (fun a f=>run_load1 rfl one30 (f.ev rfl) (S.cell 3 rfl rfl)) (mv rfl rfl fun a f=>?_))))))
    refine op_newrowL (ls:=(([p134]:List Int):List Int)) (e:=eI) rfl rfl f rfl S (run_buildS (vs:=[(0,iv p134)]) rfl ⟨⟨rfl,(f.ev rfl)⟩,trivial⟩ (bs30_1_0 rfl)) rfl eI_len (Nat.le_of_ble_eq_true rfl) ?_;clear f S;intro a g147 u f S
    obtain ⟨hk150,hM143⟩:=chk_ex hM143
    replace hk150:=apB_t hk150
    refine op_appendL (lx:=p126.2.2.2) (ly:=([p134]:List Int)) rfl rfl f rfl S rfl (f.ev rfl) (f.ev rfl) (i:=6) rfl rfl Tryz.underlying30 inf3 rfl (by decide) (S.rc 0 rfl).rd rfl eI_one hk150 (by decide) ?_;clear f S;intro a B148 d149 u f S
    revert a;refine ov rfl (fun a f=>run_nilCheck rfl (f.ev rfl)) (ov rfl (fun a f=>run_fieldAddr rfl fl145_3 (f.ev rfl) rfl) fun a f=>?_)
    refine op_do rfl rfl (run_store (cs':=#[iv x0,.slice A1 x1.length c1,.slice A2 x2.length c2,.slice A3 x3.length c3,.slice B148 ((p126.2.2.2++([p134]:List Int)).length) d149]) rfl sz30 (f.ev rfl) (f.ev rfl) rfl rfl rfl (S.free 4 rfl) rfl rfl) ?_;replace S:=S.put 4 rfl (#[iv x0,.slice A1 x1.length c1,.slice A2 x2.length c2,.slice A3 x3.length c3,.slice B148 ((p126.2.2.2++([p134]:List Int)).length) d149])
    generalize World.setRow _ _ _=u at S ⊢
    refine wn ?_
    obtain rfl:=Option.some.inj hM143
    exact ⟨(p126.2.1.set p134.toNat x6,p126.2.2.1.set p134.toNat p126.1,p126.2.2.2++([p134]:List Int)),B148,d149,rfl,(len_set hn127),(len_set hn128),f.keep _ ⟨rfl,rfl,rfl,rfl,rfl,rfl,rfl,rfl,trivial⟩,S.selT (M:=[.box g0 145 #[iv x0,.slice A1 x1.length c1,.slice A2 x2.length c2,.slice A3 x3.length c3,.slice B148 ((p126.2.2.2++([p134]:List Int)).length) d149],Y1,.row 3 1 (.slice A2 x2.length c2) x2.length ((p126.2.1.set p134.toNat x6).flatMap eI),.row 3 1 (.slice A3 x3.length c3) x3.length ((p126.2.2.1.set p134.toNat p126.1).flatMap eI),.row 3 1 (.slice B148 ((p126.2.2.2++([p134]:List Int)).length) d149) ((p126.2.2.2++([p134]:List Int)).length) ((p126.2.2.2++([p134]:List Int)).flatMap eI)]) 7 [4,5,1,2,6] rfl rfl rfl⟩
   rintro a u ⟨p137,B141,d142,rfl,hn139,hn140,f,S⟩
   revert a;refine rl (ov rfl (fun a f=>run_add (z:=w64 (p126.1+1)) (f.ev rfl) rfl rfl rfl) (mv rfl rfl fun a f=>wn ?_))
   exact ⟨f2,Nat.lt_succ_self _,(w64 (p126.1+1),p137.1,p137.2.1,p137.2.2),B141,d142,hM125,hn139,hn140,f.keep _ ⟨rfl,rfl,rfl,rfl,rfl,rfl,rfl,rfl,trivial⟩,S.selT (M:=[.box g0 145 #[iv x0,.slice A1 x1.length c1,.slice A2 x2.length c2,.slice A3 x3.length c3,.slice B141 p137.2.2.length d142],Y1,.row 3 1 (.slice A2 x2.length c2) x2.length (p137.1.flatMap eI),.row 3 1 (.slice A3 x3.length c3) x3.length (p137.2.1.flatMap eI),.row 3 1 (.slice B141 p137.2.2.length d142) p137.2.2.length (p137.2.2.flatMap eI)]) 5 [0,1,2,3,4] rfl rfl rfl⟩
  rintro a u ⟨p119,B123,d124,rfl,hn121,hn122,f,S⟩
  revert a;refine rl (mv rfl rfl (ov rfl (fun a f=>run_add (z:=w64 (p112.1+1)) (f.ev rfl) rfl rfl rfl) (ag rfl rfl fun a f=>wn ?_)))
  exact ⟨f1,Nat.lt_succ_self _,(w64 (p112.1+1),p119.1,p119.2.1,p119.2.2),B123,d124,hM111,hn121,hn122,f.keep _ ⟨rfl,rfl,rfl,rfl,trivial⟩,S.selT (M:=[.box g0 145 #[iv x0,.slice A1 x1.length c1,.slice A2 x2.length c2,.slice A3 x3.length c3,.slice B123 p119.2.2.length d124],Y1,.row 3 1 (.slice A2 x2.length c2) x2.length (p119.1.flatMap eI),.row 3 1 (.slice A3 x3.length c3) x3.length (p119.2.1.flatMap eI),.row 3 1 (.slice B123 p119.2.2.length d124) p119.2.2.length (p119.2.2.flatMap eI)]) 5 [0,1,2,3,4] rfl rfl rfl⟩
 rintro a u ⟨p105,B109,d110,rfl,hn107,hn108,f,S⟩
 refine ret0_gw (.inr rfl) f rfl  ?_
 obtain rfl:=Option.some.inj hM
 exact ⟨A2,x2.length,c2,A3,x3.length,c3,B109,p105.2.2.length,d110,rfl,hn107,hn108,rfl,S.selT (M:=[.box g0 145 #[iv x0,.slice A1 x1.length c1,.slice A2 x2.length c2,.slice A3 x3.length c3,.slice B109 p105.2.2.length d110],.row 3 1 (.slice A2 x2.length c2) x2.length (p105.1.flatMap eI),.row 3 1 (.slice A3 x3.length c3) x3.length (p105.2.1.flatMap eI),.row 3 1 (.slice B109 p105.2.2.length d110) p105.2.2.length (p105.2.2.flatMap eI),Y1]) 5 [0,2,3,4,1] rfl rfl rfl⟩
theorem c_impl_treeOf {x0:Int} {x1:List (Int×Int×Int)} {x2:List Bool} {x3:List (Int×Int)} {A1:Option Addr} {n1 c1:Nat} {A2:Option Addr} {n2 c2:Nat} {A3:Option Addr} {n3 c3:Nat} {w:World} {r:Int×Bool×List Int×List Int×List Int×Bool} (h1:Rt w 3 eLine A1 n1 c1 x1) (h2:Rt w 1 eB A2 n2 c2 x2) (h3:Rt w 2 eBus A3 n3 c3 x3) (hM : m_impl_treeOf x0 x1 x2 x3=some r) :
  Calls Tryz.prog 111 #[.agg #[iv x0,.slice A1 n1 c1],.slice A2 n2 c2,.slice A3 n3 c3] w (fun e w'=>∃ (B0:Option Addr) (N0 D0:Nat) (B1:Option Addr) (N1 D1:Nat) (B2:Option Addr) (N2 D2:Nat),e=.returned (.tuple #[.agg #[iv r.1,.slice (ifA r.2.1 A1) (ifN r.2.1 n1) (ifN r.2.1 c1),.slice B0 N0 D0,.slice B1 N1 D1,.slice B2 N2 D2],.bool r.2.2.2.2.2])∧N0=r.2.2.1.length∧N1=r.2.2.2.1.length∧N2=r.2.2.2.2.1.length∧St w w' [.row 3 1 (.slice B0 N0 D0) N0 (r.2.2.1.flatMap eI),.row 3 1 (.slice B1 N1 D1) N1 (r.2.2.2.1.flatMap eI),.row 3 1 (.slice B2 N2 D2) N2 (r.2.2.2.2.1.flatMap eI)]):=by
 obtain rfl:=h1.len
 obtain rfl:=h2.len
 obtain rfl:=h3.len
 unfold m_impl_treeOf at hM
 refine calls_gx Tryz.func111 Tryz.ntmps111 rfl rfl ?_
 intro a f
 have S:=St.nil w
 refine wsg ?_
 refine op_new (cs:=#[iv x0,.slice A1 x1.length c1]) rfl rfl f rfl S (run_box rfl (f.ev rfl) rfl) ?_;clear f S;intro a g101 u f S
 refine op_new (cs:=#[iv 0,.slice none 0 0,.slice none 0 0,.slice none 0 0,.slice none 0 0]) rfl rfl f rfl S (run_allocZ rfl zr145) ?_;clear f S;intro a g102 u f S
 revert a;refine ov rfl (fun a f=>run_assign rfl rfl) fun a f=>wn ?_
 refine ws ?_
 revert a;refine sr (ov rfl (fun a f=>run_loadN rfl ag37 (f.ev rfl) rfl ((S.free 1 rfl).cells 0 #[iv x0,.slice A1 x1.length c1] rfl)) (mv rfl rfl (mv rfl rfl fun a f=>?_)))
 obtain ⟨p103,h103,hM⟩:=bind_ex hM
 refine op_call rfl rfl f rfl (run_call (vs:=[_,_,_]) rfl rfl co119 ⟨(f.ev rfl),(f.ev rfl),(f.ev rfl),trivial⟩) (c_impl_fedValid ⟨(S.rc0 h1.rc),rfl⟩ ⟨(S.rc0 h2.rc),rfl⟩ ⟨(S.rc0 h3.rc),rfl⟩ h103) ?_
 rintro e u ⟨rfl,T⟩
 refine ⟨_,rfl,?_⟩
 clear f;intro a f
 replace S:=S.call0 T;clear T
 revert a;refine ov rfl (fun a f=>run_not rfl (f.ev rfl)) (mv rfl rfl fun a f=>?_)
 revert a;refine gf rfl rfl rfl rfl (fun a f hg=>run_loadN rfl ag37 (f.ev rfl) rfl ((S.free 1 rfl).cells 0 #[iv x0,.slice A1 x1.length c1] rfl)) (gf rfl rfl rfl rfl (fun a f hg=>run_move rfl (f.ev rfl)) fun a f=>?_)
 obtain ⟨p104,h104,hM⟩:=bind_ex hM
 refine op_gcall (v:=.bool p104) rfl rfl f rfl S (yf (gw_yield f rfl rfl rfl)) (fun hg=>(run_call (vs:=[.agg #[iv x0,.slice A1 x1.length c1],.slice A2 x2.length c2]) rfl rfl co137 ⟨((f.ev rfl).trans (gv_t hg)),((f.ev rfl).trans (gv_t hg)),trivial⟩)) (fun hg=>c_impl_hasCycle (x0:=x0) (x1:=x1) (x2:=x2) ⟨(S.rc0 h1.rc),rfl⟩ ⟨(S.rc0 h2.rc),rfl⟩ (gb_t h104 hg)) ?_;clear f S;intro a u f S
 revert a;refine ov rfl (fun a f=>run_pick_or rfl (f.ev rfl) rfl (fun hp=>((f.ev rfl).trans (gv_t (not_t hp))))) fun a f=>wn ?_
 cases hc105:((!p103)||p104)
 ·replace hM:=bif_f hc105 hM
  refine cond_f f rfl hc105 ?_
  refine wp_skip ?_
  refine ws ?_
  obtain ⟨hk106,hM⟩:=chk_ex hM
  replace hk106:=mkB_t hk106
  obtain ⟨hk107,hM⟩:=chk_ex hM
  replace hk107:=mkB_t hk107
  refine region_gw (D:=[23,24,25,26,27,28,29,30,8]) (Lr:=[.box g102 145 #[iv 0,.slice none 0 0,.slice none 0 0,.slice none 0 0,.slice none 0 0],.box g101 37 #[iv x0,.slice A1 x1.length c1]]) (deps:=(fun | 0=>[23] | 1=>[24] | 2=>[25] | 3=>[26] | 4=>[27] | 5=>[28] | 6=>[29] | 7=>[30,26,29] | 8=>[8] | 9=>[8,26,29] | _=>[])) (rd:=(fun _=>[])) (zr:=(fun _=>[]))
   (φ:=fun i vs=>match i,vs with | 0,[v23]=>v23=.agg #[iv x0,.slice A1 x1.length c1] | 1,[v24]=>v24=.pointer (some ⟨g101,0,none⟩) | 2,[v25]=>v25=iv x0 | 3,[v26]=>v26=.slice (slA v26) x0.toNat x0.toNat | 4,[v27]=>v27=.pointer (some ⟨g101,0,none⟩) | 5,[v28]=>v28=iv x0 | 6,[v29]=>v29=.slice (slA v29) x0.toNat x0.toNat | 7,[v30,v26,v29]=>v30=.agg #[iv x0,.slice A1 x1.length c1,.slice (slA v26) x0.toNat x0.toNat,.slice (slA v29) x0.toNat x0.toNat,.slice none 0 0] | 8,[v8]=>v8=.pointer (some ⟨ptB v8,0,none⟩) | _,_=>True)
   (C:=fun i vs=>match i,vs with | 3,[v26]=>[.row 3 1 (.slice (slA v26) x0.toNat x0.toNat) x0.toNat ((List.replicate x0.toNat 0).flatMap eI)] | 6,[v29]=>[.row 3 1 (.slice (slA v29) x0.toNat x0.toNat) x0.toNat ((List.replicate x0.toNat 0).flatMap eI)] | 8,[v8]=>[.box (ptB v8) 145 #[iv 0,.slice none 0 0,.slice none 0 0,.slice none 0 0,.slice none 0 0]] | 9,[v8,v26,v29]=>[.box (ptB v8) 145 #[iv x0,.slice A1 x1.length c1,.slice (slA v26) x0.toNat x0.toNat,.slice (slA v29) x0.toNat x0.toNat,.slice none 0 0]] | _,_=>[])
   (κ:=(fun | 8=>some 9 | _=>none)) (Z:=(fun _=>[])) mixed f (by kernel_rfl) S ?_ ?_
  ·refine ⟨?_,?_,?_,?_,?_,?_,?_,?_,?_,?_,trivial⟩
   ·intro a u X hB hu p hr hz hl S
    exact .inl ⟨rfl,_,u,(run_loadN rfl ag37 (f.evB hB rfl rfl) rfl ((gr_box S hl 1 rfl).cells 0 #[iv x0,.slice A1 x1.length c1] rfl)),rfl,S⟩
   ·intro a u X hB hu p hr hz hl S
    exact .inl ⟨rfl,_,u,(run_fieldAddr rfl fl37_0 (f.evB hB rfl rfl) rfl),rfl,S⟩
   ·intro a u X hB hu p hr hz hl S
    exact .inl ⟨rfl,_,u,(run_load1 rfl one3 (ev_sl (p 1 rfl)) ((gr_box S hl 1 rfl).cell rfl)),rfl,S⟩
   ·intro a u X hB hu p hr hz hl S
    exact .inl ⟨rfl,_,_,run_makeL (e:=eI) rfl (ev_sl (p 2 rfl)) (ev_sl (p 2 rfl)) Tryz.underlying30 inf3 eI_len rfl (by decide) hk106,rfl,S.newrowL (e:=eI) List.length_replicate eI_len (by rw [List.length_replicate];omega)⟩
   ·intro a u X hB hu p hr hz hl S
    exact .inl ⟨rfl,_,u,(run_fieldAddr rfl fl37_0 (f.evB hB rfl rfl) rfl),rfl,S⟩
   ·intro a u X hB hu p hr hz hl S
    exact .inl ⟨rfl,_,u,(run_load1 rfl one3 (ev_sl (p 4 rfl)) ((gr_box S hl 1 rfl).cell rfl)),rfl,S⟩
   ·intro a u X hB hu p hr hz hl S
    exact .inl ⟨rfl,_,_,run_makeL (e:=eI) rfl (ev_sl (p 5 rfl)) (ev_sl (p 5 rfl)) Tryz.underlying30 inf3 eI_len rfl (by decide) hk107,rfl,S.newrowL (e:=eI) List.length_replicate eI_len (by rw [List.length_replicate];omega)⟩
   ·intro a u X hB hu p hr hz hl S
    exact .inl ⟨rfl,_,u,(run_build (vs:=[(0,.agg #[iv x0,.slice A1 x1.length c1]),(1,.slice (slA (sl a 26)) x0.toNat x0.toNat),(2,.slice (slA (sl a 29)) x0.toNat x0.toNat)]) rfl ⟨⟨rfl,(ev_sl (p 0 rfl))⟩,⟨rfl,(ev_sl (p 3 rfl))⟩,⟨rfl,(ev_sl (p 6 rfl))⟩,trivial⟩ (bd145_0x2_1_2 rfl rfl)),rfl,S⟩
   ·intro a u X hB hu p hr hz hl S
    exact .inl ⟨rfl,_,_,(run_allocZ rfl zr145),rfl,S.alloc _ _⟩
   intro a u X hB hu p hr hz hl S
   replace S:St w u ([.box (ptB (sl a 8)) 145 #[iv 0,.slice none 0 0,.slice none 0 0,.slice none 0 0,.slice none 0 0]]++X):=S
   exact .inr (.inl ⟨rfl,_,run_store (cs':=#[iv x0,.slice A1 x1.length c1,.slice (slA (sl a 26)) x0.toNat x0.toNat,.slice (slA (sl a 29)) x0.toNat x0.toNat,.slice none 0 0]) rfl sz145 (ev_sl (p 8 rfl)) (ev_sl (p 7 rfl)) rfl rfl rfl (S.free 0 rfl) rfl rfl,trivial,S.put 0 rfl (#[iv x0,.slice A1 x1.length c1,.slice (slA (sl a 26)) x0.toNat x0.toNat,.slice (slA (sl a 29)) x0.toNat x0.toNat,.slice none 0 0])⟩)
  intro a u hB hp S
  obtain ⟨q0,q1,q2,q3,q4,q5,q6,q7,q8,q9,-⟩:=hp
  replace S:St w u [.row 3 1 (.slice (slA (sl a 26)) x0.toNat x0.toNat) x0.toNat ((List.replicate x0.toNat 0).flatMap eI),.row 3 1 (.slice (slA (sl a 29)) x0.toNat x0.toNat) x0.toNat ((List.replicate x0.toNat 0).flatMap eI),.box (ptB (sl a 8)) 145 #[iv x0,.slice A1 x1.length c1,.slice (slA (sl a 26)) x0.toNat x0.toNat,.slice (slA (sl a 29)) x0.toNat x0.toNat,.slice none 0 0],.box g102 145 #[iv 0,.slice none 0 0,.slice none 0 0,.slice none 0 0,.slice none 0 0],.box g101 37 #[iv x0,.slice A1 x1.length c1]]:=S
  have f:=f.region hB [(23,.agg #[iv x0,.slice A1 x1.length c1]),(24,.pointer (some ⟨g101,0,none⟩)),(25,iv x0),(26,.slice (slA (sl a 26)) x0.toNat x0.toNat),(27,.pointer (some ⟨g101,0,none⟩)),(28,iv x0),(29,.slice (slA (sl a 29)) x0.toNat x0.toNat),(30,.agg #[iv x0,.slice A1 x1.length c1,.slice (slA (sl a 26)) x0.toNat x0.toNat,.slice (slA (sl a 29)) x0.toNat x0.toNat,.slice none 0 0]),(8,.pointer (some ⟨ptB (sl a 8),0,none⟩))] (allSl_mem ⟨q0,q1,q2,q3,q4,q5,q6,q7,q8,trivial⟩) rfl
  clear hB q0 q1 q2 q3 q4 q5 q6 q7 q8 q9
  generalize slA (sl a 26)=B108 at *
  generalize slA (sl a 29)=B109 at *
  generalize ptB (sl a 8)=g110 at *
  refine ws ?_
  revert a;refine sr (ov rfl (fun a f=>run_fieldAddr rfl fl37_0 (f.ev rfl) rfl) (ov rfl (fun a f=>run_load1 rfl one3 (f.ev rfl) (S.cell 4 rfl rfl)) (ov rfl (fun a f=>run_move rfl rfl) fun a f=>wn ?_)))
  obtain ⟨o112,hM115,hM⟩:=bind_ex hM
  refine wp_cut (fun a u=>∃ (p111:List Int×List Int),p111=o112∧x0.toNat=p111.1.length∧x0.toNat=p111.2.length∧Fr a 72 [(1,.slice A2 x2.length c2),(2,.slice A3 x3.length c3),(6,.pointer (some ⟨g102,0,none⟩)),(7,.bool false),(8,.pointer (some ⟨g110,0,none⟩))]∧St w u [.box g110 145 #[iv x0,.slice A1 x1.length c1,.slice B108 x0.toNat x0.toNat,.slice B109 x0.toNat x0.toNat,.slice none 0 0],.box g102 145 #[iv 0,.slice none 0 0,.slice none 0 0,.slice none 0 0,.slice none 0 0],.row 3 1 (.slice B108 x0.toNat x0.toNat) x0.toNat (p111.1.flatMap eI),.row 3 1 (.slice B109 x0.toNat x0.toNat) x0.toNat (p111.2.flatMap eI)]) ?_ ?_
  ·have _:=trivial
   refine wp_block ?_
   refine loop_gw (fun m a u=>∃ (p116:Int×List Int×List Int),m_impl_treeOf_l1 x0 m p116=some _∧x0.toNat=p116.2.1.length∧x0.toNat=p116.2.2.length∧Fr a 72 [(1,.slice A2 x2.length c2),(2,.slice A3 x3.length c3),(6,.pointer (some ⟨g102,0,none⟩)),(7,.bool false),(8,.pointer (some ⟨g110,0,none⟩)),(32,iv x0),(33,iv p116.1)]∧St w u [.box g110 145 #[iv x0,.slice A1 x1.length c1,.slice B108 x0.toNat x0.toNat,.slice B109 x0.toNat x0.toNat,.slice none 0 0],.box g102 145 #[iv 0,.slice none 0 0,.slice none 0 0,.slice none 0 0,.slice none 0 0],.row 3 1 (.slice B108 x0.toNat x0.toNat) x0.toNat (p116.2.1.flatMap eI),.row 3 1 (.slice B109 x0.toNat x0.toNat) x0.toNat (p116.2.2.flatMap eI)]) FUEL ⟨(0,List.replicate x0.toNat 0,List.replicate x0.toNat 0),hM115,List.length_replicate.symm,List.length_replicate.symm,f.keep _ ⟨rfl,rfl,rfl,rfl,rfl,rfl,rfl,trivial⟩,S.sel [2,3,0,1] rfl rfl⟩ ?_
   clear f S hM115;rintro m a u ⟨p116,hM115,hn117,hn118,f,S⟩
   rcases m with _ | f1
   ·exact none_some hM115
   rw [m_impl_treeOf_l1.eq_2] at hM115
   revert a;refine sr (ov rfl (fun a f=>run_lss (f.ev rfl) (f.ev rfl) rfl) fun a f=>wn ?_)
   refine ws ?_
   cases hc119:(ltB p116.1 x0)
   ·replace hM115:=bif_f hc119 hM115
    refine cond_f f rfl hc119 ?_
    refine wp_exit ?_
    repeat with_reducible first|apply then_exit|apply in_hit|refine in_miss rfl ?_
    obtain rfl:=Option.some.inj hM115
    exact ⟨(p116.2.1,p116.2.2),rfl,hn117,hn118,f.keep _ ⟨rfl,rfl,rfl,rfl,rfl,trivial⟩,S.sel [0,1,2,3] rfl rfl⟩
   replace hM115:=bif_t hc119 hM115
   refine cond_t f rfl hc119 ?_
   refine wp_skip ?_
   refine ws ?_
   refine wp_block ?_
   revert a;refine sr (mv rfl rfl (ag rfl rfl fun a f=>wn ?_))
   revert a;refine rl (ov rfl (fun a f=>run_fieldAddr rfl fl145_1 (f.ev rfl) rfl) (ov rfl (fun a f=>run_load1 rfl one30 (f.ev rfl) (S.cell 0 rfl rfl)) (mv rfl rfl (ov rfl (fun a f=>run_fieldAddr rfl fl145_2 (f.ev rfl) rfl) (ov rfl (fun a f=>run_load1 rfl one30 (f.ev rfl) (S.cell 0 rfl rfl)) (mv rfl rfl fun a f=>?_))))))
   obtain ⟨hk120,hM115⟩:=chk_ex hM115
   replace hk120:=ixB_t hk120
   revert a;refine ov rfl (fun a f=>run_ix rfl Tryz.underlying30 sz3 (f.ev rfl) (S.rc 2 rfl) (f.ev rfl) hk120) fun a f=>?_
   obtain ⟨w',hrun,S'⟩:=run_storeElN (P:=Tryz.prog) (ρ:=a.eval) (y0:=-1) (off:=0) S 3 (.tmp 42) (.const (iv (-1))) (i:=2) sz3 (f.ev rfl) rfl rfl rfl rfl rfl hn117 eI_len 0 (ix_ltn hk120 hn117) rfl rfl
   refine op_do rfl rfl (hrun _ rfl) ?_;clear hrun S;have S:=S';clear S';generalize w'=u at S ⊢
   obtain ⟨hk121,hM115⟩:=chk_ex hM115
   replace hk121:=ixB_t hk121
   revert a;refine ov rfl (fun a f=>run_ix rfl Tryz.underlying30 sz3 (f.ev rfl) (S.rc 3 rfl) (f.ev rfl) hk121) fun a f=>?_
   obtain ⟨w',hrun,S'⟩:=run_storeElN (P:=Tryz.prog) (ρ:=a.eval) (y0:=-1) (off:=0) S 3 (.tmp 43) (.const (iv (-1))) (i:=3) sz3 (f.ev rfl) rfl rfl rfl rfl rfl hn118 eI_len 0 (ix_ltn hk121 hn118) rfl rfl
   refine op_do rfl rfl (hrun _ rfl) ?_;clear hrun S;have S:=S';clear S';generalize w'=u at S ⊢
   refine wn ?_
   revert a;refine rl (ov rfl (fun a f=>run_add (z:=w64 (p116.1+1)) (f.ev rfl) rfl rfl rfl) (mv rfl rfl fun a f=>wn ?_))
   exact ⟨f1,Nat.lt_succ_self _,(w64 (p116.1+1),p116.2.1.set p116.1.toNat (-1),p116.2.2.set p116.1.toNat (-1)),hM115,(len_set hn117),(len_set hn118),f.keep _ ⟨rfl,rfl,rfl,rfl,rfl,rfl,rfl,trivial⟩,S.sel [0,1,2,3] rfl rfl⟩
  rintro a u ⟨p111,rfl,hn113,hn114,f,S⟩
  refine ws ?_
  revert a;refine sr (mv rfl rfl (ov rfl (fun a f=>run_lenL rfl rfl Tryz.underlying38 (f.ev rfl)) (ov rfl (fun a f=>run_move rfl rfl) fun a f=>wn ?_)))
  obtain ⟨o123,hM130,hM⟩:=bind_ex hM
  refine wp_cut (fun a u=>∃ (p122:Int×List Int×List Int×List Int) (B124:Option Addr) (d125:Nat) (B126:Option Addr) (d127:Nat) (B128:Option Addr) (d129:Nat),(Sum.inl p122)=o123∧Fr a 72 [(6,.pointer (some ⟨g102,0,none⟩)),(7,.bool false),(8,.pointer (some ⟨g110,0,none⟩))]∧St w u [.box g110 145 #[iv p122.1,.slice A1 x1.length c1,.slice B124 p122.2.1.length d125,.slice B126 p122.2.2.1.length d127,.slice B128 p122.2.2.2.length d129],.box g102 145 #[iv 0,.slice none 0 0,.slice none 0 0,.slice none 0 0,.slice none 0 0],.row 3 1 (.slice B124 p122.2.1.length d125) p122.2.1.length (p122.2.1.flatMap eI),.row 3 1 (.slice B126 p122.2.2.1.length d127) p122.2.2.1.length (p122.2.2.1.flatMap eI),.row 3 1 (.slice B128 p122.2.2.2.length d129) p122.2.2.2.length (p122.2.2.2.flatMap eI)]) ?_ ?_
  ·have _:=trivial
   refine wp_block ?_
   try rw [show x0.toNat=p111.1.length from hn113] at f
   try rw [show x0.toNat=p111.2.length from hn114] at f
   replace S:=S.nilrow 3 1
   have er0 : x0.toNat=p111.1.length:=hn113
   have er1 : x0.toNat=p111.2.length:=hn114
   replace S:=S.cast (L':=[.row 3 1 (.slice none 0 0) 0 (([]:List Int).flatMap eI),.box g110 145 #[iv x0,.slice A1 x1.length c1,.slice B108 p111.1.length p111.1.length,.slice B109 p111.2.length p111.2.length,.slice none 0 0],.box g102 145 #[iv 0,.slice none 0 0,.slice none 0 0,.slice none 0 0,.slice none 0 0],.row 3 1 (.slice B108 p111.1.length p111.1.length) p111.1.length (p111.1.flatMap eI),.row 3 1 (.slice B109 p111.2.length p111.2.length) p111.2.length (p111.2.flatMap eI)]) (by simp only [← er0,← er1] <;> rfl)
   refine loop_gw (fun m a u=>∃ (p131:Int×Int×List Int×List Int×List Int) (B132:Option Addr) (d133:Nat) (B134:Option Addr) (d135:Nat) (B136:Option Addr) (d137:Nat),m_impl_treeOf_l2 x1 x2 x3 m p131=some _∧Fr a 72 [(1,.slice A2 x2.length c2),(6,.pointer (some ⟨g102,0,none⟩)),(7,.bool false),(8,.pointer (some ⟨g110,0,none⟩)),(45,.slice A3 x3.length c3),(46,iv (x3.length:Int)),(47,iv p131.1)]∧St w u [.box g110 145 #[iv p131.2.1,.slice A1 x1.length c1,.slice B132 p131.2.2.1.length d133,.slice B134 p131.2.2.2.1.length d135,.slice B136 p131.2.2.2.2.length d137],.box g102 145 #[iv 0,.slice none 0 0,.slice none 0 0,.slice none 0 0,.slice none 0 0],.row 3 1 (.slice B132 p131.2.2.1.length d133) p131.2.2.1.length (p131.2.2.1.flatMap eI),.row 3 1 (.slice B134 p131.2.2.2.1.length d135) p131.2.2.2.1.length (p131.2.2.2.1.flatMap eI),.row 3 1 (.slice B136 p131.2.2.2.2.length d137) p131.2.2.2.2.length (p131.2.2.2.2.flatMap eI)]) FUEL ⟨(0,x0,p111.1,p111.2,([]:List Int)),B108,p111.1.length,B109,p111.2.length,none,0,hM130,f.keep _ ⟨rfl,rfl,rfl,rfl,rfl,rfl,rfl,trivial⟩,S.sel [1,2,3,4,0] rfl rfl⟩ ?_
   clear f S hM130;rintro m a u ⟨p131,B132,d133,B134,d135,B136,d137,hM130,f,S⟩
   rcases m with _ | f2
   ·exact none_some hM130
   rw [m_impl_treeOf_l2.eq_2] at hM130
   revert a;refine sr (ov rfl (fun a f=>run_lss (f.ev rfl) (f.ev rfl) rfl) fun a f=>wn ?_)
   refine ws ?_
   cases hc138:(ltB p131.1 (x3.length:Int))
   ·replace hM130:=bif_f hc138 hM130
    refine cond_f f rfl hc138 ?_
    refine wp_exit ?_
    repeat with_reducible first|apply then_exit|apply in_hit|refine in_miss rfl ?_
    obtain rfl:=Option.some.inj hM130
    exact ⟨(p131.2.1,p131.2.2.1,p131.2.2.2.1,p131.2.2.2.2),B132,d133,B134,d135,B136,d137,rfl,f.keep _ ⟨rfl,rfl,rfl,trivial⟩,S.sel [0,1,2,3,4] rfl rfl⟩
   replace hM130:=bif_t hc138 hM130
   refine cond_t f rfl hc138 ?_
   refine wp_skip ?_
   refine ws ?_
   obtain ⟨o140,hM147,hM130⟩:=bind_ex hM130
   refine wp_cut (fun a u=>∃ (p139:Int×List Int×List Int×List Int) (B141:Option Addr) (d142:Nat) (B143:Option Addr) (d144:Nat) (B145:Option Addr) (d146:Nat),(Sum.inl p139)=o140∧Fr a 72 [(1,.slice A2 x2.length c2),(6,.pointer (some ⟨g102,0,none⟩)),(7,.bool false),(8,.pointer (some ⟨g110,0,none⟩)),(45,.slice A3 x3.length c3),(46,iv (x3.length:Int)),(47,iv p131.1)]∧St w u [.box g110 145 #[iv p139.1,.slice A1 x1.length c1,.slice B141 p139.2.1.length d142,.slice B143 p139.2.2.1.length d144,.slice B145 p139.2.2.2.length d146],.box g102 145 #[iv 0,.slice none 0 0,.slice none 0 0,.slice none 0 0,.slice none 0 0],.row 3 1 (.slice B141 p139.2.1.length d142) p139.2.1.length (p139.2.1.flatMap eI),.row 3 1 (.slice B143 p139.2.2.1.length d144) p139.2.2.1.length (p139.2.2.1.flatMap eI),.row 3 1 (.slice B145 p139.2.2.2.length d146) p139.2.2.2.length (p139.2.2.2.flatMap eI)]) ?_ ?_
   ·have _:=trivial
    refine wp_block ?_
    revert a;refine sr (mv rfl rfl fun a f=>?_)
    obtain ⟨hk148,hM147⟩:=chk_ex hM147
    replace hk148:=ixB_t hk148
    revert a;refine ov rfl (fun a f=>run_ix rfl Tryz.underlying38 sz110 (f.ev rfl) (S.rc0 h3.rc) (f.ev rfl) hk148) (ov rfl (fun a f=>run_loadN (cs:=#[iv ((x3.getD p131.1.toNat (0,0)).1),iv ((x3.getD p131.1.toNat (0,0)).2)]) rfl ag110 (f.ev rfl) rfl (rd_elN (l:=x3) (S.rc0 h3.rc).rd rfl eBus_len (0,0) (ix_ltn hk148 rfl) rfl)) fun a f=>?_)
    refine op_new (cs:=#[iv 0,iv 0]) rfl rfl f rfl S (run_allocZ rfl zr110) ?_;clear f S;intro a g149 u f S
    revert a;refine ag rfl rfl fun a f=>?_
    refine op_do rfl rfl (run_store (cs':=#[iv ((x3.getD p131.1.toNat (0,0)).1),iv ((x3.getD p131.1.toNat (0,0)).2)]) rfl sz110 (f.ev rfl) (f.ev rfl) rfl rfl rfl (S.free 0 rfl) rfl rfl) ?_;replace S:=S.put 0 rfl (#[iv ((x3.getD p131.1.toNat (0,0)).1),iv ((x3.getD p131.1.toNat (0,0)).2)])
    generalize World.setRow _ _ _=u at S ⊢
    refine wn ?_
    refine ws ?_
    revert a;refine sr (ov rfl (fun a f=>run_fieldAddr rfl fl110_0 (f.ev rfl) rfl) (ov rfl (fun a f=>run_load1 rfl one3 (f.ev rfl) (S.cell 0 rfl rfl)) (ov rfl (fun a f=>run_eql (f.ev rfl) rfl rfl) fun a f=>wn ?_)))
    cases hc150:(((x3.getD p131.1.toNat (0,0)).1)==0)
    ·replace hM147:=bif_f hc150 hM147
     refine cond_f f rfl hc150 ?_
     refine wp_skip ?_
     refine ws ?_
     revert a;refine sr (ov rfl (fun a f=>run_fieldAddr rfl fl145_1 (f.ev rfl) rfl) (ov rfl (fun a f=>run_load1 rfl one30 (f.ev rfl) (S.cell 1 rfl rfl)) (mv rfl rfl fun a f=>?_)))
     obtain ⟨hk151,hM147⟩:=chk_ex hM147
     replace hk151:=ixB_t hk151
     revert a;refine ov rfl (fun a f=>run_ix rfl Tryz.underlying30 sz3 (f.ev rfl) (S.rc 3 rfl) (f.ev rfl) hk151) (ov rfl (fun a f=>run_load1 rfl one3 (f.ev rfl) (rd_el0 (l:=p131.2.2.1) (S.rc 3 rfl).rd rfl eI_len 0 (ix_ltn hk151 rfl) rfl)) (ov rfl (fun a f=>run_geq (f.ev rfl) rfl rfl) fun a f=>wn ?_))
     cases hc152:(leB 0 (p131.2.2.1.getD p131.1.toNat 0))
     ·replace hM147:=bif_f hc152 hM147
      refine cond_f f rfl hc152 ?_
      refine wp_skip ?_
      revert a;refine sr (ov rfl (fun a f=>run_fieldAddr rfl fl145_1 (f.ev rfl) rfl) (ov rfl (fun a f=>run_load1 rfl one30 (f.ev rfl) (S.cell 1 rfl rfl)) (mv rfl rfl (mv rfl rfl fun a f=>?_))))
      obtain ⟨hk153,hM147⟩:=chk_ex hM147
      replace hk153:=ixB_t hk153
      revert a;refine ov rfl (fun a f=>run_ix rfl Tryz.underlying30 sz3 (f.ev rfl) (S.rc 3 rfl) (f.ev rfl) hk153) fun a f=>?_
      obtain ⟨w',hrun,S'⟩:=run_storeElN (P:=Tryz.prog) (ρ:=a.eval) (y0:=p131.1) (off:=0) S 3 (.tmp 66) (.tmp 65) (i:=3) sz3 (f.ev rfl) (f.ev rfl) rfl rfl rfl rfl rfl eI_len 0 (ix_ltn hk153 rfl) rfl rfl
      refine op_do rfl rfl (hrun _ rfl) ?_;clear hrun S;have S:=S';clear S';generalize w'=u at S ⊢
      refine wn ?_
      revert a;refine rl (mv rfl rfl (mv rfl rfl fun a f=>?_))
      replace S:=S.addold h1.rc (by decide)
      obtain ⟨p154,h154,hM147⟩:=bind_ex hM147
      refine op_call rfl rfl f rfl (run_call (vs:=[_,_,_]) rfl rfl co138 ⟨(f.ev rfl),(f.ev rfl),(f.ev rfl),trivial⟩) (c_impl_tree_search (Y1:=.old w.heap.size 3 (.slice A1 x1.length c1) x1.length (x1.flatMap eLine)) rfl (fun u h=>(old_rc h)) (len_set rfl) rfl rfl ⟨h2.rc,rfl⟩ (show St w _ [.box g110 145 #[iv p131.2.1,.slice A1 x1.length c1,.slice B132 p131.2.2.1.length d133,.slice B134 p131.2.2.2.1.length d135,.slice B136 p131.2.2.2.2.length d137],.old w.heap.size 3 (.slice A1 x1.length c1) x1.length (x1.flatMap eLine),.row 3 1 (.slice B132 p131.2.2.1.length d133) p131.2.2.1.length ((p131.2.2.1.set p131.1.toNat p131.1).flatMap eI),.row 3 1 (.slice B134 p131.2.2.2.1.length d135) p131.2.2.2.1.length (p131.2.2.2.1.flatMap eI),.row 3 1 (.slice B136 p131.2.2.2.2.length d137) p131.2.2.2.2.length (p131.2.2.2.2.flatMap eI),.box g149 110 #[iv ((x3.getD p131.1.toNat (0,0)).1),iv ((x3.getD p131.1.toNat (0,0)).2)],.box g102 145 #[iv 0,.slice none 0 0,.slice none 0 0,.slice none 0 0,.slice none 0 0]] from S.sel [2,0,4,5,6,1,3] rfl rfl) h154) ?_
      rintro e u ⟨B155,n156,d157,B158,n159,d160,B161,n162,d163,rfl,rfl,rfl,rfl,T⟩
      refine ⟨_,rfl,?_⟩
      clear f;intro a f
      clear S;have S:=T;clear T
      refine wn ?_
      obtain rfl:=Option.some.inj hM147
      exact ⟨(p154.1,p154.2.1,p154.2.2.1,p154.2.2.2),B155,d157,B158,d160,B161,d163,rfl,f.keep _ ⟨rfl,rfl,rfl,rfl,rfl,rfl,rfl,trivial⟩,S.sel [0,6,1,2,3] rfl rfl⟩
     replace hM147:=bif_t hc152 hM147
     refine cond_t f rfl hc152 ?_
     revert a;refine sr (ov rfl (fun a f=>run_build (vs:=[]) rfl trivial (bd145 )) fun a f=>?_)
     refine op_do rfl rfl (run_store (cs':=#[iv 0,.slice none 0 0,.slice none 0 0,.slice none 0 0,.slice none 0 0]) rfl sz145 (f.ev rfl) (f.ev rfl) rfl rfl rfl (S.free 2 rfl) rfl rfl) ?_;replace S:=S.put 2 rfl (#[iv 0,.slice none 0 0,.slice none 0 0,.slice none 0 0,.slice none 0 0])
     generalize World.setRow _ _ _=u at S ⊢
     revert a;refine ov rfl (fun a f=>run_assign rfl rfl) fun a f=>wn ?_
     refine wp_ret ?_
     repeat with_reducible first|apply tr|apply ir|apply nr
     refine ret2_gw (.inl rfl) f rfl (res_cell (f.ev rfl) (res_loadN ag145 rfl (S.cells 2 rfl 0 #[iv 0,.slice none 0 0,.slice none 0 0,.slice none 0 0,.slice none 0 0] rfl))) (res_tmp (f.ev rfl)) ?_
     obtain rfl:=Option.some.inj hM147
     obtain rfl:=Option.some.inj hM130
     obtain rfl:=Option.some.inj hM
     replace S:=S.nilrow 3 1
     replace S:=S.nilrow 3 1
     replace S:=S.nilrow 3 1
     exact ⟨none,0,0,none,0,0,none,0,0,rfl,rfl,rfl,rfl,S.sel [2,1,0] rfl rfl⟩
    replace hM147:=bif_t hc150 hM147
    refine cond_t f rfl hc150 ?_
    refine wp_exit ?_
    repeat with_reducible first|apply then_exit|apply in_hit|refine in_miss rfl ?_
    obtain rfl:=Option.some.inj hM147
    exact ⟨(p131.2.1,p131.2.2.1,p131.2.2.2.1,p131.2.2.2.2),B132,d133,B134,d135,B136,d137,rfl,f.keep _ ⟨rfl,rfl,rfl,rfl,rfl,rfl,rfl,trivial⟩,S.sel [1,2,3,4,5] rfl rfl⟩
   rintro a u ⟨p139,B141,d142,B143,d144,B145,d146,rfl,f,S⟩
   replace hM130:=elim_l hM130
   revert a;refine rl (ov rfl (fun a f=>run_add (z:=w64 (p131.1+1)) (f.ev rfl) rfl rfl rfl) (mv rfl rfl fun a f=>wn ?_))
   exact ⟨f2,Nat.lt_succ_self _,(w64 (p131.1+1),p139.1,p139.2.1,p139.2.2.1,p139.2.2.2),B141,d142,B143,d144,B145,d146,hM130,f.keep _ ⟨rfl,rfl,rfl,rfl,rfl,rfl,rfl,trivial⟩,S.sel [0,1,2,3,4] rfl rfl⟩
  rintro a u ⟨p122,B124,d125,B126,d127,B128,d129,rfl,f,S⟩
  replace hM:=elim_l hM
  revert a;refine sr (ov rfl (fun a f=>run_loadN rfl ag145 (f.ev rfl) rfl ((S.free 0 rfl).cells 0 #[iv p122.1,.slice A1 x1.length c1,.slice B124 p122.2.1.length d125,.slice B126 p122.2.2.1.length d127,.slice B128 p122.2.2.2.length d129] rfl)) fun a f=>?_)
  refine op_do rfl rfl (run_store (cs':=#[iv p122.1,.slice A1 x1.length c1,.slice B124 p122.2.1.length d125,.slice B126 p122.2.2.1.length d127,.slice B128 p122.2.2.2.length d129]) rfl sz145 (f.ev rfl) (f.ev rfl) rfl rfl rfl (S.free 1 rfl) rfl rfl) ?_;replace S:=S.put 1 rfl (#[iv p122.1,.slice A1 x1.length c1,.slice B124 p122.2.1.length d125,.slice B126 p122.2.2.1.length d127,.slice B128 p122.2.2.2.length d129])
  generalize World.setRow _ _ _=u at S ⊢
  revert a;refine ov rfl (fun a f=>run_assign rfl rfl) fun a f=>wn ?_
  refine wp_ret ?_
  refine ret2_gw (.inl rfl) f rfl (res_cell (f.ev rfl) (res_loadN ag145 rfl (S.cells 1 rfl 0 #[iv p122.1,.slice A1 x1.length c1,.slice B124 p122.2.1.length d125,.slice B126 p122.2.2.1.length d127,.slice B128 p122.2.2.2.length d129] rfl))) (res_tmp (f.ev rfl)) ?_
  obtain rfl:=Option.some.inj hM
  exact ⟨B124,p122.2.1.length,d125,B126,p122.2.2.1.length,d127,B128,p122.2.2.2.length,d129,rfl,rfl,rfl,rfl,S.sel [2,3,4] rfl rfl⟩
 replace hM:=bif_t hc105 hM
 refine cond_t f rfl hc105 ?_
 revert a;refine sr (ov rfl (fun a f=>run_build (vs:=[]) rfl trivial (bd145 )) fun a f=>?_)
 refine op_do rfl rfl (run_store (cs':=#[iv 0,.slice none 0 0,.slice none 0 0,.slice none 0 0,.slice none 0 0]) rfl sz145 (f.ev rfl) (f.ev rfl) rfl rfl rfl (S.free 0 rfl) rfl rfl) ?_;replace S:=S.put 0 rfl (#[iv 0,.slice none 0 0,.slice none 0 0,.slice none 0 0,.slice none 0 0])
 generalize World.setRow _ _ _=u at S ⊢
 revert a;refine ov rfl (fun a f=>run_assign rfl rfl) fun a f=>wn ?_
 refine wp_ret ?_
 repeat with_reducible first|apply tr|apply ir|apply nr
 refine ret2_gw (.inl rfl) f rfl (res_cell (f.ev rfl) (res_loadN ag145 rfl (S.cells 0 rfl 0 #[iv 0,.slice none 0 0,.slice none 0 0,.slice none 0 0,.slice none 0 0] rfl))) (res_tmp (f.ev rfl)) ?_
 obtain rfl:=Option.some.inj hM
 replace S:=S.nilrow 3 1
 replace S:=S.nilrow 3 1
 replace S:=S.nilrow 3 1
 exact ⟨none,0,0,none,0,0,none,0,0,rfl,rfl,rfl,rfl,S.sel [2,1,0] rfl rfl⟩
theorem c_impl_Radial {x0:Int} {x1:List (Int×Int×Int)} {x2:List Bool} {x3:List (Int×Int)} {A1:Option Addr} {n1 c1:Nat} {A2:Option Addr} {n2 c2:Nat} {A3:Option Addr} {n3 c3:Nat} {w:World} {r:Bool} (h1:Rt w 3 eLine A1 n1 c1 x1) (h2:Rt w 1 eB A2 n2 c2 x2) (h3:Rt w 2 eBus A3 n3 c3 x3) (hM : m_impl_Radial x0 x1 x2 x3=some r) :
  Calls Tryz.prog 76 #[.agg #[iv x0,.slice A1 n1 c1],.slice A2 n2 c2,.slice A3 n3 c3] w (fun e w'=>e=.returned (.bool r)∧St w w' []):=by
 obtain rfl:=h1.len
 obtain rfl:=h2.len
 obtain rfl:=h3.len
 unfold m_impl_Radial at hM
 refine calls_gx Tryz.func76 Tryz.ntmps76 rfl rfl ?_
 intro a f
 have S:=St.nil w
 refine wsg ?_
 refine op_new (cs:=#[iv x0,.slice A1 x1.length c1]) rfl rfl f rfl S (run_box rfl (f.ev rfl) rfl) ?_;clear f S;intro a g101 u f S
 revert a;refine ov rfl (fun a f=>run_assign rfl rfl) fun a f=>wn ?_
 revert a;refine sr (ov rfl (fun a f=>run_loadN rfl ag37 (f.ev rfl) rfl ((S.free 0 rfl).cells 0 #[iv x0,.slice A1 x1.length c1] rfl)) (mv rfl rfl (mv rfl rfl fun a f=>?_)))
 obtain ⟨p102,h102,hM⟩:=bind_ex hM
 refine op_call rfl rfl f rfl (run_call (vs:=[_,_,_]) rfl rfl co111 ⟨(f.ev rfl),(f.ev rfl),(f.ev rfl),trivial⟩) (c_impl_treeOf ⟨(S.rc0 h1.rc),rfl⟩ ⟨(S.rc0 h2.rc),rfl⟩ ⟨(S.rc0 h3.rc),rfl⟩ h102) ?_
 rintro e u ⟨B103,n104,d105,B106,n107,d108,B109,n110,d111,rfl,rfl,rfl,rfl,T⟩
 refine ⟨_,rfl,?_⟩
 clear f;intro a f
 replace S:=S.call3 T;clear T
 revert a;refine mv rfl rfl (ov rfl (fun a f=>run_extract rfl (f.ev rfl) rfl) (ov rfl (fun a f=>run_extract rfl (f.ev rfl) rfl) fun a f=>?_))
 refine op_new (cs:=#[iv 0,.slice none 0 0,.slice none 0 0,.slice none 0 0,.slice none 0 0]) rfl rfl f rfl S (run_allocZ rfl zr145) ?_;clear f S;intro a g112 u f S
 refine op_do rfl rfl (run_store (cs':=#[iv p102.1,.slice (ifA p102.2.1 A1) (ifN p102.2.1 x1.length) (ifN p102.2.1 c1),.slice B103 p102.2.2.1.length d105,.slice B106 p102.2.2.2.1.length d108,.slice B109 p102.2.2.2.2.1.length d111]) rfl sz145 (f.ev rfl) (f.ev rfl) rfl rfl rfl (S.free 0 rfl) rfl rfl) ?_;replace S:=S.put 0 rfl (#[iv p102.1,.slice (ifA p102.2.1 A1) (ifN p102.2.1 x1.length) (ifN p102.2.1 c1),.slice B103 p102.2.2.1.length d105,.slice B106 p102.2.2.2.1.length d108,.slice B109 p102.2.2.2.2.1.length d111])
 generalize World.setRow _ _ _=u at S ⊢
 revert a;refine ag rfl rfl fun a f=>wn ?_
 revert a;refine sr (mv rfl rfl (ag rfl rfl fun a f=>wn ?_))
 refine wp_ret ?_
 refine ret1_gw (.inl rfl) f rfl (res_tmp (f.ev rfl)) ?_
 obtain rfl:=Option.some.inj hM
 exact ⟨rfl,S.sel [] rfl rfl⟩
end Go.Proofs.YtcmnjaccapbhfaaGreat
