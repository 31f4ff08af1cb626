/- HealDeeds and WorldCalm of both sides are healP. -/
import Derived.Test.YtcmnjaccapbhfaaGreatQBst
import Derived.Test.YtcmnjaccapbhfaaGreatQWkR
import Derived.Test.YtcmnjaccapbhfaaGreatQWvM
namespace Go.Proofs.YtcmnjaccapbhfaaGreat
set_option linter.unusedVariables false
set_option linter.unusedSimpArgs false
set_option linter.unusedSectionVars false
def ddOf (d:Int×Bool):Dd:=(bif d.2 then (0:Int) else 1,d.1,0)
theorem steps_rest (on:List Bool) (x:Option (List Bool)):(restO on x).1.map ddOf=stepsTo on x:=by
 cases x with
 | none=>rfl
 | some y =>
  show (ordTo on y).map ddOf=offsTo on y on.length++onsTo on y on.length
  unfold ordTo offsTo onsTo
  rw [List.map_append,List.map_map,List.map_map]; rfl
theorem rest_len (on:List Bool) (x:Option (List Bool)):(restO on x).1.length ≤ 2 * on.length:=by
 cases x with
 | none=>simp [restO]
 | some y =>
  have a:=List.length_filter_le (fun i=>on.getD i false && !y.getD i false) (List.range on.length)
  have b:=List.length_filter_le (fun i=>y.getD i false && !on.getD i false) (List.range on.length)
  rw [List.length_range] at a b
  simp only [restO,ordTo,List.length_append,List.length_map]
  omega
theorem fix_snoc (earth:List Bool) (br:List Int) {k:Nat} (hk : k < br.length) : fixOf earth (br.take (k+1))=fixOf earth (br.take k)++((if earth.getD (br.getD k 0).toNat false then [] else [(2,br.getD k 0,0)])++[(4,br.getD k 0,0),(7,br.getD k 0,0),(5,br.getD k 0,0)]):=by
 rw [List.take_succ_eq_append_getElem hk,← getD_ge hk (d:=0)]
 unfold fixOf
 rw [List.flatMap_append]; simp
theorem earthd_snoc (earth:List Bool) (br:List Int) {k:Nat} (hk : k < br.length) : earthd earth (br.take (k+1))=(earthd earth (br.take k)).set (br.getD k 0).toNat true:=by
 rw [List.take_succ_eq_append_getElem hk,← getD_ge hk (d:=0)]
 unfold earthd
 rw [List.foldl_append]; rfl
theorem fixlen (earth:List Bool) : ∀ br:List Int,(fixOf earth br).length ≤ 4 * br.length
 | []=>by simp [fixOf]
 | l :: br=>by
  have:=fixlen earth br
  rw [fix_len]
  simp only [List.length_append,List.length_cons,List.length_nil]
  split <;> simp <;> omega
theorem earthd_keep : ∀ (br:List Int) (earth:List Bool) (m:Nat),(∀ x ∈ br,x.toNat ≠ m) → (earthd earth br).getD m false=earth.getD m false
 | [],_,_,_=>rfl
 | l :: br,earth,m,h=>by
  show (earthd (earth.set l.toNat true) br).getD m false=_
  rw [earthd_keep br _ m fun x hx=>h x (List.mem_cons_of_mem _ hx)]
  have:=h l List.mem_cons_self
  simp [List.getD,List.getElem?_set_ne this]
theorem earthd_get : ∀ (br:List Int) (earth:List Bool) (k:Nat),(∀ x ∈ br,0 ≤ x∧x < (earth.length:Int)) → (earthd earth br).getD k false=(earth.getD k false || decide ((k:Int) ∈ br))
 | [],_,_,_=>by simp [earthd]
 | l :: br,earth,k,h=>by
  show (earthd (earth.set l.toNat true) br).getD k false=_
  have hl:=h l List.mem_cons_self
  rw [earthd_get br _ k fun x hx=>by rw [List.length_set]; exact h x (List.mem_cons_of_mem _ hx)]
  by_cases e:(k:Int)=l
  ·have e2 : l.toNat=k:=by omega
   have:(earth.set l.toNat true).getD k false=true:=by rw [e2]; simp [List.getD,show k < earth.length by omega]
   rw [this]; simp [e]
  ·have e2 : l.toNat ≠ k:=by omega
   have:(earth.set l.toNat true).getD k false=earth.getD k false:=by simp [List.getD,List.getElem?_set_ne e2]
   rw [this]; simp [e]
theorem sor_low {br:List Int} (h : br.Pairwise (·< ·)) (h0 : ∀ x ∈ br,0 ≤ x) : ∀ k,k < br.length → (k:Int) ≤ br.getD k 0
 | 0,hk=>h0 _ (by rw [getD_ge hk]; exact List.getElem_mem hk)
 | k+1,hk=>by
  have:=sor_low h h0 k (by omega)
  have:=adj_of_sorted h hk
  omega
theorem br_len {w:Wd} (h:WdOk w) : w.br.length ≤ w.on.length:=by
 cases hb : w.br.length with
 | zero=>omega
 | succ n =>
  have h1:=sor_low h.sor (fun x hx=>(h.inn x hx).1.1) n (by omega)
  have h2:=(h.inn (w.br.getD n 0) (by rw [getD_ge (show n < w.br.length by omega)]; exact List.getElem_mem _)).1.2
  omega
theorem sor_ne {br:List Int} (h : br.Pairwise (·< ·)) (h0 : ∀ x ∈ br,0 ≤ x) {k:Nat} (hk : k < br.length) : ∀ x ∈ br.take k,x.toNat ≠ (br.getD k 0).toNat:=by
 intro x hx e
 have hk0:=h0 (br.getD k 0) (by rw [getD_ge hk]; exact List.getElem_mem hk)
 have hx0:=h0 x (List.mem_of_mem_take hx)
 have h2:(br.take k++br.drop k).Pairwise (·< ·):=by rw [List.take_append_drop]; exact h
 have:=(List.pairwise_append.1 h2).2.2 x hx (br.getD k 0) (by rw [List.drop_eq_getElem_cons hk,getD_ge hk]; exact List.mem_cons_self)
 omega
theorem iSteps (p:List (Int×Bool)×Bool) (L:List Dd) (h:L.length+p.1.length ≤ 1048576) : m_impl_HealDeeds_l3 p FUEL (L,0)=some (L++p.1.map ddOf):=by
 have hh:=loop_all (m_impl_HealDeeds_l3 p) (fun k=>(L++(p.1.take k).map ddOf,(k:Int))) p.1.length (some (L++p.1.map ddOf)) (by omega) (fun k fuel hk=>?_) (fun fuel=>?_)
 ·simpa using hh
 ·rw [m_impl_HealDeeds_l3.eq_2]
  have ap : ∀ x:Dd,apB (L++(p.1.take k).map ddOf).length ([x]:List Dd).length=true:=fun x=>ap_small (by simp only [List.length_append,List.length_map,List.length_take,List.length_singleton]; omega)
  simp only [lt_dec hk,ix_dec hk,cond_true,chk_true,Int.toNat_natCast,ap,w64_succ (by omega : k < 4611686018427387904)]
  rw [List.take_succ_eq_append_getElem hk,← getD_ge hk (d:=((0,false):Int×Bool)),List.map_append,List.map_cons,List.map_nil,← List.append_assoc]
  unfold ddOf
  cases (p.1.getD k ((0,false):Int×Bool)).2 <;> rfl
 ·rw [m_impl_HealDeeds_l3.eq_2]; simp only [nlt_dec,cond_false,List.take_length]
theorem sSteps (p:List (Int×Bool)×Bool) (L:List Dd) (h:L.length+p.1.length ≤ 1048576) : m_spec_HealDeeds_l4 p FUEL (L,0)=some (L++p.1.map ddOf):=by
 have hh:=loop_all (m_spec_HealDeeds_l4 p) (fun k=>(L++(p.1.take k).map ddOf,(k:Int))) p.1.length (some (L++p.1.map ddOf)) (by omega) (fun k fuel hk=>?_) (fun fuel=>?_)
 ·simpa using hh
 ·rw [m_spec_HealDeeds_l4.eq_2]
  have ap : ∀ x:Dd,apB (L++(p.1.take k).map ddOf).length ([x]:List Dd).length=true:=fun x=>ap_small (by simp only [List.length_append,List.length_map,List.length_take,List.length_singleton]; omega)
  simp only [lt_dec hk,ix_dec hk,cond_true,chk_true,Int.toNat_natCast,ap,w64_succ (by omega : k < 4611686018427387904)]
  rw [List.take_succ_eq_append_getElem hk,← getD_ge hk (d:=((0,false):Int×Bool)),List.map_append,List.map_cons,List.map_nil,← List.append_assoc]
  unfold ddOf
  cases (p.1.getD k ((0,false):Int×Bool)).2 <;> rfl
 ·rw [m_spec_HealDeeds_l4.eq_2]; simp only [nlt_dec,cond_false,List.take_length]
theorem iThree (br:List Int) (p:List Dd×List Bool×Int) (L:List Dd) (h:L.length ≤ 1048576) : m_impl_HealDeeds_l2 br p FUEL (L,0)=some (L++[(4,br.getD p.2.2.toNat 0,0),(7,br.getD p.2.2.toNat 0,0),(5,br.getD p.2.2.toNat 0,0)]):=by
 have hh:=loop_all (m_impl_HealDeeds_l2 br p) (fun k=>(L++(([4,7,5]:List Int).take k).map (fun kd=>(kd,br.getD p.2.2.toNat 0,0)),(k:Int))) 3 (some (L++[(4,br.getD p.2.2.toNat 0,0),(7,br.getD p.2.2.toNat 0,0),(5,br.getD p.2.2.toNat 0,0)])) (by omega) (fun k fuel hk=>?_) (fun fuel=>?_)
 ·simpa using hh
 ·rw [m_impl_HealDeeds_l2.eq_2]
  have ap : ∀ x:Dd,apB (L++(([4,7,5]:List Int).take k).map (fun kd=>(kd,br.getD p.2.2.toNat 0,(0:Int)))).length ([x]:List Dd).length=true:=fun x=>ap_small (by simp only [List.length_append,List.length_map,List.length_take,List.length_singleton]; omega)
  have hlt : ltB (k:Int) 3=true:=decide_eq_true (by omega)
  have hix : ixB (k:Int) 3=true:=ix_dec hk
  simp only [hlt,hix,cond_true,chk_true,Int.toNat_natCast,ap,w64_succ (by omega : k < 4611686018427387904)]
  have : k=0 ∨ k=1 ∨ k=2:=by omega
  rcases this with rfl | rfl | rfl <;> simp
 ·rw [m_impl_HealDeeds_l2.eq_2]; rfl
section
variable {earth:List Bool} {br:List Int} (hs : br.Pairwise (·< ·)) (hi : ∀ x ∈ br,0 ≤ x∧x < (earth.length:Int)) (hb : br.length ≤ 1000) (L:List Dd) (hL:L.length ≤ 1000)
include hs hi hb hL
theorem iFix : m_impl_HealDeeds_l1 br earth FUEL (L,earth,0)=some (L++fixOf earth br,earthd earth br):=by
 have hh:=loop_all (m_impl_HealDeeds_l1 br earth) (fun k=>(L++fixOf earth (br.take k),earthd earth (br.take k),(k:Int))) br.length (some (L++fixOf earth br,earthd earth br)) (by omega) (fun k fuel hk=>?_) (fun fuel=>?_)
 ·simpa [fixOf,earthd] using hh
 ·rw [m_impl_HealDeeds_l1.eq_2]
  have hg:=hi (br.getD k 0) (by rw [getD_ge hk]; exact List.getElem_mem hk)
  have hix : ixB (br.getD k 0) earth.length=true:=by simp only [ixB,Bool.and_eq_true,decide_eq_true_eq]; omega
  have hfl:=fixlen earth (br.take k)
  have htl:(br.take k).length ≤ k:=by rw [List.length_take]; omega
  have hkeep:=earthd_keep (br.take k) earth (br.getD k 0).toNat (sor_ne hs (fun x hx=>(hi x hx).1) hk)
  have ap : ∀ x:Dd,apB (L++fixOf earth (br.take k)).length ([x]:List Dd).length=true:=fun x=>ap_small (by simp only [List.length_append,List.length_singleton]; omega)
  simp only [lt_dec hk,ix_dec hk,cond_true,chk_true,Int.toNat_natCast,hix,ap,w64_succ (by omega : k < 4611686018427387904)]
  rw [hkeep,fix_snoc earth br hk,earthd_snoc earth br hk]
  cases he : earth.getD (br.getD k 0).toNat false
  ·simp only [cond_false,Option.bind_some,Bool.false_eq_true,if_false]
   rw [iThree _ _ _ (by simp only [List.length_append,List.length_singleton]; omega)]
   simp only [Option.bind_some,Int.toNat_natCast,List.append_assoc]
  ·simp only [cond_true,Option.bind_some,if_true]
   rw [iThree _ _ _ (by simp only [List.length_append]; omega),set_true_self (hkeep.trans he)]
   simp only [Option.bind_some,Int.toNat_natCast,List.append_assoc,List.nil_append]
 ·rw [m_impl_HealDeeds_l1.eq_2]; simp only [nlt_dec,cond_false,List.take_length]
theorem sFix : m_spec_HealDeeds_l2 earth br FUEL (L,0)=some (L++fixOf earth br):=by
 have hh:=loop_all (m_spec_HealDeeds_l2 earth br) (fun k=>(L++fixOf earth (br.take k),(k:Int))) br.length (some (L++fixOf earth br)) (by omega) (fun k fuel hk=>?_) (fun fuel=>?_)
 ·simpa [fixOf] using hh
 ·rw [m_spec_HealDeeds_l2.eq_2]
  have hg:=hi (br.getD k 0) (by rw [getD_ge hk]; exact List.getElem_mem hk)
  have hix : ixB (br.getD k 0) earth.length=true:=by simp only [ixB,Bool.and_eq_true,decide_eq_true_eq]; omega
  have hfl:=fixlen earth (br.take k)
  have htl:(br.take k).length ≤ k:=by rw [List.length_take]; omega
  have ap : ∀ x:Dd,apB (L++fixOf earth (br.take k)).length ([x]:List Dd).length=true:=fun x=>ap_small (by simp only [List.length_append,List.length_singleton]; omega)
  have ap3 : ∀ x y z:Dd,apB (L++fixOf earth (br.take k)).length ([x,y,z]:List Dd).length=true:=fun x y z=>ap_small (by simp only [List.length_append,List.length_cons,List.length_nil]; omega)
  have ap4 : ∀ t x y z:Dd,apB (L++fixOf earth (br.take k)++[t]).length ([x,y,z]:List Dd).length=true:=fun t x y z=>ap_small (by simp only [List.length_append,List.length_cons,List.length_nil]; omega)
  simp only [lt_dec hk,ix_dec hk,cond_true,chk_true,Int.toNat_natCast,hix,ap,w64_succ (by omega : k < 4611686018427387904)]
  rw [fix_snoc earth br hk]
  cases he : earth.getD (br.getD k 0).toNat false
  ·simp only [cond_false,Option.bind_some,Bool.false_eq_true,if_false,ap4,chk_true]
   simp only [List.append_assoc]
  ·simp only [cond_true,Option.bind_some,if_true,ap3,chk_true,List.append_assoc,List.nil_append]
 ·rw [m_spec_HealDeeds_l2.eq_2]; simp only [nlt_dec,cond_false,List.take_length]
theorem sEarth (on:List Bool) (hl : earth.length=on.length) (ho : on.length ≤ 1000) : m_spec_HealDeeds_l3 on earth br FUEL (L,0)=some (L++forOf 3 (earthd earth br) true on.length):=by
 have hh:=loop_all (m_spec_HealDeeds_l3 on earth br) (fun k=>(L++forOf 3 (earthd earth br) true k,(k:Int))) on.length (some (L++forOf 3 (earthd earth br) true on.length)) (by omega) (fun k fuel hk=>?_) (fun fuel=>?_)
 ·simpa [forOf] using hh
 ·rw [m_spec_HealDeeds_l3.eq_2]
  have hfl:=for_len 3 (earthd earth br) true k
  have ap : ∀ x:Dd,apB (L++forOf 3 (earthd earth br) true k).length ([x]:List Dd).length=true:=fun x=>ap_small (by simp only [List.length_append,List.length_singleton]; omega)
  have hg:=earthd_get br earth k hi
  simp only [lt_dec hk,ix_dec (show k < earth.length by omega),cond_true,chk_true,Int.toNat_natCast,sHas br _ (by omega),ap,w64_succ (by omega : k < 4611686018427387904),forOf,hg]
  cases earth.getD k false
  ·simp only [Bool.not_false,gb_true,Option.bind_some,Bool.false_or]
   cases decide ((k:Int) ∈ br)
   ·rfl
   ·simp only [cond_true,Option.bind_some,beq_self_eq_true,if_true,List.append_assoc]
  ·simp only [Bool.not_true,gb_false,Option.bind_some,Bool.true_or,cond_true,beq_self_eq_true,if_true,List.append_assoc]
 ·rw [m_spec_HealDeeds_l3.eq_2]; simp only [nlt_dec,cond_false]
end
theorem sRets (pm:Pm) (hp : pm.length ≤ 1000) : m_spec_HealDeeds_l1 pm FUEL (([]:List Dd),0)=some (retsOf pm):=by
 have h:=loop_all (m_spec_HealDeeds_l1 pm) (fun k=>(retsOf (pm.take k),(k:Int))) pm.length (some (retsOf pm)) (by omega) (fun k fuel hk=>?_) (fun fuel=>?_)
 ·rw [show (([]:List (Int×Int×Int)),(0:Int))=(retsOf (pm.take 0),((0:Nat):Int)) from rfl,h]
 ·rw [m_spec_HealDeeds_l1.eq_2]
  have ha : ∀ x:Dd,apB (retsOf (pm.take k)).length ([x]:List Dd).length=true:=fun x=>ap_small (by simp only [retsOf,List.length_map,List.length_take,List.length_singleton]; omega)
  simp only [lt_dec hk,ix_dec hk,chk_true,cond_true,Int.toNat_natCast,ha,w64_succ (by omega : k < 4611686018427387904)]
  rw [rets_take hk]
 ·rw [m_spec_HealDeeds_l1.eq_2]; simp only [nlt_dec,cond_false,List.take_length]
section
variable (b:Int) (ls:List Ln) (pts:List (Int×Int)) (on earth:List Bool) (pm:Pm) (br:List Int) (hp : pts.length ≤ 1048576) (ho : on.length ≤ 1048576) (hm : pm.length ≤ 1048576) (hb : br.length ≤ 1048576)
include hp ho hm hb
theorem iHeal : m_impl_HealDeeds b ls pts on earth pm br=some (if wv ⟨b,ls,pts,on,earth,pm,br⟩ then healP ⟨b,ls,pts,on,earth,pm,br⟩ else []):=by
 unfold m_impl_HealDeeds
 rw [iWv b ls pts on earth pm br hp ho hm hb,Option.bind_some]
 cases hv : wv ⟨b,ls,pts,on,earth,pm,br⟩
 ·rfl
 have hw:=wv_iff.1 hv
 have hbl:=br_len hw
 have hlp:=hw.bus.lp
 have w0:=hw.work.l0; have w1:=hw.work.l1; have we:=hw.work.le; have wp:=hw.work.lp; have hlen:=hw.len
 have hin:=hw.inn; have hsor:=hw.sor
 simp only [Wd.wk] at w0 w1 we wp
 dsimp only at hlp hbl hlen hin hsor
 subst hlp
 have h01 : 1 ≤ ls.length:=by omega
 have hel:=earthd_len br earth
 have hfl:=fixlen earth br
 have hol:=for_len 3 (earthd earth br) true earth.length
 have hrl:=rest_len on (bestP ls on pts)
 have hrt:(retsOf pm).length=pm.length:=by simp [retsOf]
 have a1 : apB ([]:List Bool).length earth.length=true:=ap_small (by simp only [List.length_nil]; omega)
 have a2 : apB (retsOf pm++fixOf earth br).length (forOf 3 (earthd earth br) true earth.length).length=true:=ap_small (by simp only [List.length_append]; omega)
 simp only [cond_true,iRets (on,earth,pm) (show pm.length ≤ 1000 by omega),m_slices_Clone_bool_bool,a1,chk_true,Option.bind_some,if_true]
 rw [iFix hsor (fun x hx=>by have:=(hin x hx).1; omega) (by omega) _ (by omega),Option.bind_some]
 dsimp only
 rw [iFor 3 (earthd earth br) true (by omega),Option.bind_some,hel,a2,chk_true,iRestore ⟨hw.bus.net,hlen⟩ hw.bus h01,Option.bind_some,iSteps _ _ (by simp only [List.length_append]; omega),Option.bind_some,steps_rest]
 simp only [healP,we]
theorem sHeal : m_spec_HealDeeds b ls pts on earth pm br=some (if wv ⟨b,ls,pts,on,earth,pm,br⟩ then healP ⟨b,ls,pts,on,earth,pm,br⟩ else []):=by
 unfold m_spec_HealDeeds
 rw [sWv b ls pts on earth pm br hp ho hm hb,Option.bind_some]
 cases hv : wv ⟨b,ls,pts,on,earth,pm,br⟩
 ·rfl
 have hw:=wv_iff.1 hv
 have hbl:=br_len hw
 have hlp:=hw.bus.lp
 have w0:=hw.work.l0; have w1:=hw.work.l1; have we:=hw.work.le; have wp:=hw.work.lp; have hlen:=hw.len
 have hin:=hw.inn; have hsor:=hw.sor
 simp only [Wd.wk] at w0 w1 we wp
 dsimp only at hlp hbl hlen hin hsor
 subst hlp
 have h01 : 1 ≤ ls.length:=by omega
 have hfl:=fixlen earth br
 have hol:=for_len 3 (earthd earth br) true on.length
 have hrl:=rest_len on (bestP ls on pts)
 have hrt:(retsOf pm).length=pm.length:=by simp [retsOf]
 have hi2 : ∀ x ∈ br,0 ≤ x∧x < (earth.length:Int):=fun x hx=>by have:=(hin x hx).1; omega
 rw [cond_true,sRets pm (by omega),Option.bind_some,sFix hsor hi2 (by omega) _ (by omega),Option.bind_some,sEarth hsor hi2 (by omega) _ (by simp only [List.length_append]; omega) on we (by omega),Option.bind_some,sRestore ⟨hw.bus.net,hlen⟩ hw.bus h01,Option.bind_some,sSteps _ _ (by simp only [List.length_append]; omega),Option.bind_some,steps_rest]
 rfl
theorem iCalm : m_impl_WorldCalm b ls pts on earth pm br=some (wv ⟨b,ls,pts,on,earth,pm,br⟩ && ((healP ⟨b,ls,pts,on,earth,pm,br⟩).length:Int) == 0):=by
 unfold m_impl_WorldCalm
 rw [iWv b ls pts on earth pm br hp ho hm hb,iHeal b ls pts on earth pm br hp ho hm hb,Option.bind_some]
 cases wv ⟨b,ls,pts,on,earth,pm,br⟩ <;> rfl
theorem sCalm : m_spec_WorldCalm b ls pts on earth pm br=some (wv ⟨b,ls,pts,on,earth,pm,br⟩ && ((healP ⟨b,ls,pts,on,earth,pm,br⟩).length:Int) == 0):=by
 unfold m_spec_WorldCalm
 rw [sWv b ls pts on earth pm br hp ho hm hb,sHeal b ls pts on earth pm br hp ho hm hb,Option.bind_some]
 cases wv ⟨b,ls,pts,on,earth,pm,br⟩ <;> rfl
end
theorem core_ExactWorldCalm (b:Int) (ls:List Ln) (pts:List (Int×Int)) (on earth:List Bool) (pm:Pm) (br:List Int) (hl : ls.length ≤ 1048576) (hp : pts.length ≤ 1048576) (ho : on.length ≤ 1048576) (he : earth.length ≤ 1048576) (hm : pm.length ≤ 1048576) (hb : br.length ≤ 1048576) (_ : inR b) (_ : ∀ z ∈ ls,inR z.1∧inR z.2.1∧inR z.2.2) (_ : ∀ z ∈ pts,inR z.1∧inR z.2) (_ : ∀ z ∈ on,True) (_ : ∀ z ∈ earth,True) (_ : ∀ z ∈ pm,inR z.1∧inR z.2) (_ : ∀ z ∈ br,inR z) :
  ∃ r,m_spec_WorldCalm b ls pts on earth pm br=some r∧m_impl_WorldCalm b ls pts on earth pm br=some r :=
 ⟨_,sCalm b ls pts on earth pm br hp ho hm hb,iCalm b ls pts on earth pm br hp ho hm hb⟩
end Go.Proofs.YtcmnjaccapbhfaaGreat
