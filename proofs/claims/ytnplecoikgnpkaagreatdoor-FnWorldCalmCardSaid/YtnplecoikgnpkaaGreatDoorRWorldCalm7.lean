/- Texts of the claim, one behind the other: HlM, RsM, HcD, DaO, Law. -/
import Derived.ChangeSame
import Derived.ChangeMaps5
import Derived.Carry
import Derived.Lib.SmallJoins
import Derived.JoinedOf
import Derived.Test.YtnplecoikgnpkaaGreatDoorRWorldCalm6
namespace Go.Proofs.YtnplecoikgnpkaaGreatDoor
set_option linter.unusedVariables false
set_option linter.unusedSimpArgs false
set_option linter.unusedSectionVars false
def ddOf (d:Int×Bool):Dd:=(bif d.2 then (0:Int) else 1,d.1,0)
theorem steps_rest (on:List Bool) (x:Option (List Bool)):(restO on x).1.map ddOf=stepsTo on x:=by
 cases x with
 | none=>rfl
 | some y =>
  show (ordTo on y).map ddOf=offsTo on y on.length++onsTo on y on.length
  unfold ordTo offsTo onsTo
  rw [List.map_append,List.map_map,List.map_map]; rfl
theorem rest_len (on:List Bool) (x:Option (List Bool)):(restO on x).1.length ≤ 2 * on.length:=by
 cases x with
 | none=>simp [restO]
 | some y =>
  have a:=List.length_filter_le (fun i=>on.getD i false && !y.getD i false) (List.range on.length)
  have b:=List.length_filter_le (fun i=>y.getD i false && !on.getD i false) (List.range on.length)
  rw [List.length_range] at a b
  simp only [restO,ordTo,List.length_append,List.length_map]
  omega
theorem fix_snoc (earth:List Bool) (br:List Int) {k:Nat} (hk : k < br.length) : fixOf earth (br.take (k+1))=fixOf earth (br.take k)++((if earth.getD (br.getD k 0).toNat false then [] else [(2,br.getD k 0,0)])++[(4,br.getD k 0,0),(7,br.getD k 0,0),(5,br.getD k 0,0)]):=by
 rw [List.take_succ_eq_append_getElem hk,← getD_ge hk (d:=0)]
 unfold fixOf
 rw [List.flatMap_append]; simp
theorem earthd_snoc (earth:List Bool) (br:List Int) {k:Nat} (hk : k < br.length) : earthd earth (br.take (k+1))=(earthd earth (br.take k)).set (br.getD k 0).toNat true:=by
 rw [List.take_succ_eq_append_getElem hk,← getD_ge hk (d:=0)]
 unfold earthd
 rw [List.foldl_append]; rfl
theorem fixlen (earth:List Bool) : ∀ br:List Int,(fixOf earth br).length ≤ 4 * br.length
 | []=>by simp [fixOf]
 | l :: br=>by
  have:=fixlen earth br
  rw [fix_len]
  simp only [List.length_append,List.length_cons,List.length_nil]
  split <;> simp <;> omega
theorem earthd_keep : ∀ (br:List Int) (earth:List Bool) (m:Nat),(∀ x ∈ br,x.toNat ≠ m) → (earthd earth br).getD m false=earth.getD m false
 | [],_,_,_=>rfl
 | l :: br,earth,m,h=>by
  show (earthd (earth.set l.toNat true) br).getD m false=_
  rw [earthd_keep br _ m fun x hx=>h x (List.mem_cons_of_mem _ hx)]
  have:=h l List.mem_cons_self
  simp [List.getD,List.getElem?_set_ne this]
theorem earthd_get : ∀ (br:List Int) (earth:List Bool) (k:Nat),(∀ x ∈ br,0 ≤ x∧x < (earth.length:Int)) → (earthd earth br).getD k false=(earth.getD k false || decide ((k:Int) ∈ br))
 | [],_,_,_=>by simp [earthd]
 | l :: br,earth,k,h=>by
  show (earthd (earth.set l.toNat true) br).getD k false=_
  have hl:=h l List.mem_cons_self
  rw [earthd_get br _ k fun x hx=>by rw [List.length_set]; exact h x (List.mem_cons_of_mem _ hx)]
  by_cases e:(k:Int)=l
  ·have e2 : l.toNat=k:=by omega
   have:(earth.set l.toNat true).getD k false=true:=by rw [e2]; simp [List.getD,show k < earth.length by omega]
   rw [this]; simp [e]
  ·have e2 : l.toNat ≠ k:=by omega
   have:(earth.set l.toNat true).getD k false=earth.getD k false:=by simp [List.getD,List.getElem?_set_ne e2]
   rw [this]; simp [e]
theorem sor_low {br:List Int} (h : br.Pairwise (·< ·)) (h0 : ∀ x ∈ br,0 ≤ x) : ∀ k,k < br.length → (k:Int) ≤ br.getD k 0
 | 0,hk=>h0 _ (by rw [getD_ge hk]; exact List.getElem_mem hk)
 | k+1,hk=>by
  have:=sor_low h h0 k (by omega)
  have:=adj_of_sorted h hk
  omega
theorem br_len {w:Wd} (h:WdOk w) : w.br.length ≤ w.on.length:=by
 cases hb : w.br.length with
 | zero=>omega
 | succ n =>
  have h1:=sor_low h.sor (fun x hx=>(h.inn x hx).1.1) n (by omega)
  have h2:=(h.inn (w.br.getD n 0) (by rw [getD_ge (show n < w.br.length by omega)]; exact List.getElem_mem _)).1.2
  omega
theorem sor_ne {br:List Int} (h : br.Pairwise (·< ·)) (h0 : ∀ x ∈ br,0 ≤ x) {k:Nat} (hk : k < br.length) : ∀ x ∈ br.take k,x.toNat ≠ (br.getD k 0).toNat:=by
 intro x hx e
 have hk0:=h0 (br.getD k 0) (by rw [getD_ge hk]; exact List.getElem_mem hk)
 have hx0:=h0 x (List.mem_of_mem_take hx)
 have h2:(br.take k++br.drop k).Pairwise (·< ·):=by rw [List.take_append_drop]; exact h
 have:=(List.pairwise_append.1 h2).2.2 x hx (br.getD k 0) (by rw [List.drop_eq_getElem_cons hk,getD_ge hk]; exact List.mem_cons_self)
 omega
theorem iSteps (p:List (Int×Bool)×Bool) (L:List Dd) (h:L.length+p.1.length ≤ 1048576) : m_impl_HealDeeds_l3 p FUEL (L,0)=some (L++p.1.map ddOf):=by
 have hh:=loop_all (m_impl_HealDeeds_l3 p) (fun k=>(L++(p.1.take k).map ddOf,(k:Int))) p.1.length (some (L++p.1.map ddOf)) (by omega) (fun k fuel hk=>?_) (fun fuel=>?_)
 ·simpa using hh
 ·rw [e_impl_HealDeeds_l3,m_impl_HealDeeds_l3s]
  have ap : ∀ x:Dd,apB (L++(p.1.take k).map ddOf).length ([x]:List Dd).length=true:=fun x=>ap_small (by simp only [List.length_append,List.length_map,List.length_take,List.length_singleton]; omega)
  simp only [lt_dec hk,ix_dec hk,cond_true,chk_true,Int.toNat_natCast,ap,w64_succ (by omega : k < 4611686018427387904)]
  rw [List.take_succ_eq_append_getElem hk,← getD_ge hk (d:=((0,false):Int×Bool)),List.map_append,List.map_cons,List.map_nil,← List.append_assoc]
  unfold ddOf
  cases (p.1.getD k ((0,false):Int×Bool)).2 <;> rfl
 ·rw [e_impl_HealDeeds_l3,m_impl_HealDeeds_l3s]; simp only [nlt_dec,cond_false,List.take_length]
theorem sSteps (p:List (Int×Bool)×Bool) (L:List Dd) (h:L.length+p.1.length ≤ 1048576) : m_spec_HealDeeds_l4 p FUEL (L,0)=some (L++p.1.map ddOf):=by
 have hh:=loop_all (m_spec_HealDeeds_l4 p) (fun k=>(L++(p.1.take k).map ddOf,(k:Int))) p.1.length (some (L++p.1.map ddOf)) (by omega) (fun k fuel hk=>?_) (fun fuel=>?_)
 ·simpa using hh
 ·rw [e_spec_HealDeeds_l4,m_spec_HealDeeds_l4s]
  have ap : ∀ x:Dd,apB (L++(p.1.take k).map ddOf).length ([x]:List Dd).length=true:=fun x=>ap_small (by simp only [List.length_append,List.length_map,List.length_take,List.length_singleton]; omega)
  simp only [lt_dec hk,ix_dec hk,cond_true,chk_true,Int.toNat_natCast,ap,w64_succ (by omega : k < 4611686018427387904)]
  rw [List.take_succ_eq_append_getElem hk,← getD_ge hk (d:=((0,false):Int×Bool)),List.map_append,List.map_cons,List.map_nil,← List.append_assoc]
  unfold ddOf
  cases (p.1.getD k ((0,false):Int×Bool)).2 <;> rfl
 ·rw [e_spec_HealDeeds_l4,m_spec_HealDeeds_l4s]; simp only [nlt_dec,cond_false,List.take_length]
theorem iThree (br:List Int) (p:List Dd×List Bool×Int) (L:List Dd) (h:L.length ≤ 1048576) : m_impl_HealDeeds_l2 br p FUEL (L,0)=some (L++[(4,br.getD p.2.2.toNat 0,0),(7,br.getD p.2.2.toNat 0,0),(5,br.getD p.2.2.toNat 0,0)]):=by
 have hh:=loop_all (m_impl_HealDeeds_l2 br p) (fun k=>(L++(([4,7,5]:List Int).take k).map (fun kd=>(kd,br.getD p.2.2.toNat 0,0)),(k:Int))) 3 (some (L++[(4,br.getD p.2.2.toNat 0,0),(7,br.getD p.2.2.toNat 0,0),(5,br.getD p.2.2.toNat 0,0)])) (by omega) (fun k fuel hk=>?_) (fun fuel=>?_)
 ·simpa using hh
 ·rw [e_impl_HealDeeds_l2,m_impl_HealDeeds_l2s]
  have ap : ∀ x:Dd,apB (L++(([4,7,5]:List Int).take k).map (fun kd=>(kd,br.getD p.2.2.toNat 0,(0:Int)))).length ([x]:List Dd).length=true:=fun x=>ap_small (by simp only [List.length_append,List.length_map,List.length_take,List.length_singleton]; omega)
  have hlt : ltB (k:Int) 3=true:=decide_eq_true (by omega)
  have hix : ixB (k:Int) 3=true:=ix_dec hk
  simp only [hlt,hix,cond_true,chk_true,Int.toNat_natCast,ap,w64_succ (by omega : k < 4611686018427387904)]
  have : k=0 ∨ k=1 ∨ k=2:=by omega
  rcases this with rfl | rfl | rfl <;> simp
 ·rw [e_impl_HealDeeds_l2,m_impl_HealDeeds_l2s]; rfl
section
variable {earth:List Bool} {br:List Int} (hs : br.Pairwise (·< ·)) (hi : ∀ x ∈ br,0 ≤ x∧x < (earth.length:Int)) (hb : br.length ≤ 1000) (L:List Dd) (hL:L.length ≤ 1000)
include hs hi hb hL
theorem iFix : m_impl_HealDeeds_l1 br earth FUEL (L,earth,0)=some (L++fixOf earth br,earthd earth br):=by
 have hh:=loop_all (m_impl_HealDeeds_l1 br earth) (fun k=>(L++fixOf earth (br.take k),earthd earth (br.take k),(k:Int))) br.length (some (L++fixOf earth br,earthd earth br)) (by omega) (fun k fuel hk=>?_) (fun fuel=>?_)
 ·simpa [fixOf,earthd] using hh
 ·rw [e_impl_HealDeeds_l1,m_impl_HealDeeds_l1s]
  have hg:=hi (br.getD k 0) (by rw [getD_ge hk]; exact List.getElem_mem hk)
  have hix : ixB (br.getD k 0) earth.length=true:=by simp only [ixB,Bool.and_eq_true,decide_eq_true_eq]; omega
  have hfl:=fixlen earth (br.take k)
  have htl:(br.take k).length ≤ k:=by rw [List.length_take]; omega
  have hkeep:=earthd_keep (br.take k) earth (br.getD k 0).toNat (sor_ne hs (fun x hx=>(hi x hx).1) hk)
  have ap : ∀ x:Dd,apB (L++fixOf earth (br.take k)).length ([x]:List Dd).length=true:=fun x=>ap_small (by simp only [List.length_append,List.length_singleton]; omega)
  simp only [lt_dec hk,ix_dec hk,cond_true,chk_true,Int.toNat_natCast,hix,ap,w64_succ (by omega : k < 4611686018427387904)]
  rw [hkeep,fix_snoc earth br hk,earthd_snoc earth br hk]
  cases he : earth.getD (br.getD k 0).toNat false
  ·simp only [cond_false,Option.bind_some,Bool.false_eq_true,if_false]
   rw [iThree _ _ _ (by simp only [List.length_append,List.length_singleton]; omega)]
   simp only [Option.bind_some,Int.toNat_natCast,List.append_assoc]
  ·simp only [cond_true,Option.bind_some,if_true]
   rw [iThree _ _ _ (by simp only [List.length_append]; omega),set_true_self (hkeep.trans he)]
   simp only [Option.bind_some,Int.toNat_natCast,List.append_assoc,List.nil_append]
 ·rw [e_impl_HealDeeds_l1,m_impl_HealDeeds_l1s]; simp only [nlt_dec,cond_false,List.take_length]
theorem sFix : m_spec_HealDeeds_l2 earth br FUEL (L,0)=some (L++fixOf earth br):=by
 have hh:=loop_all (m_spec_HealDeeds_l2 earth br) (fun k=>(L++fixOf earth (br.take k),(k:Int))) br.length (some (L++fixOf earth br)) (by omega) (fun k fuel hk=>?_) (fun fuel=>?_)
 ·simpa [fixOf] using hh
 ·rw [e_spec_HealDeeds_l2,m_spec_HealDeeds_l2s]
  have hg:=hi (br.getD k 0) (by rw [getD_ge hk]; exact List.getElem_mem hk)
  have hix : ixB (br.getD k 0) earth.length=true:=by simp only [ixB,Bool.and_eq_true,decide_eq_true_eq]; omega
  have hfl:=fixlen earth (br.take k)
  have htl:(br.take k).length ≤ k:=by rw [List.length_take]; omega
  have ap : ∀ x:Dd,apB (L++fixOf earth (br.take k)).length ([x]:List Dd).length=true:=fun x=>ap_small (by simp only [List.length_append,List.length_singleton]; omega)
  have ap3 : ∀ x y z:Dd,apB (L++fixOf earth (br.take k)).length ([x,y,z]:List Dd).length=true:=fun x y z=>ap_small (by simp only [List.length_append,List.length_cons,List.length_nil]; omega)
  have ap4 : ∀ t x y z:Dd,apB (L++fixOf earth (br.take k)++[t]).length ([x,y,z]:List Dd).length=true:=fun t x y z=>ap_small (by simp only [List.length_append,List.length_cons,List.length_nil]; omega)
  simp only [lt_dec hk,ix_dec hk,cond_true,chk_true,Int.toNat_natCast,hix,ap,w64_succ (by omega : k < 4611686018427387904)]
  rw [fix_snoc earth br hk]
  cases he : earth.getD (br.getD k 0).toNat false
  ·simp only [cond_false,Option.bind_some,Bool.false_eq_true,if_false,ap4,chk_true]
   simp only [List.append_assoc]
  ·simp only [cond_true,Option.bind_some,if_true,ap3,chk_true,List.append_assoc,List.nil_append]
 ·rw [e_spec_HealDeeds_l2,m_spec_HealDeeds_l2s]; simp only [nlt_dec,cond_false,List.take_length]
theorem sEarth (on:List Bool) (hl : earth.length=on.length) (ho : on.length ≤ 1000) : m_spec_HealDeeds_l3 on earth br FUEL (L,0)=some (L++forOf 3 (earthd earth br) true on.length):=by
 have hh:=loop_all (m_spec_HealDeeds_l3 on earth br) (fun k=>(L++forOf 3 (earthd earth br) true k,(k:Int))) on.length (some (L++forOf 3 (earthd earth br) true on.length)) (by omega) (fun k fuel hk=>?_) (fun fuel=>?_)
 ·simpa [forOf] using hh
 ·rw [e_spec_HealDeeds_l3,m_spec_HealDeeds_l3s]
  have hfl:=for_len 3 (earthd earth br) true k
  have ap : ∀ x:Dd,apB (L++forOf 3 (earthd earth br) true k).length ([x]:List Dd).length=true:=fun x=>ap_small (by simp only [List.length_append,List.length_singleton]; omega)
  have hg:=earthd_get br earth k hi
  simp only [lt_dec hk,ix_dec (show k < earth.length by omega),cond_true,chk_true,Int.toNat_natCast,sHas br _ (by omega),ap,w64_succ (by omega : k < 4611686018427387904),forOf,hg]
  cases earth.getD k false
  ·simp only [Bool.not_false,gb_true,Option.bind_some,Bool.false_or]
   cases decide ((k:Int) ∈ br)
   ·rfl
   ·simp only [cond_true,Option.bind_some,beq_self_eq_true,if_true,List.append_assoc]
  ·simp only [Bool.not_true,gb_false,Option.bind_some,Bool.true_or,cond_true,beq_self_eq_true,if_true,List.append_assoc]
 ·rw [e_spec_HealDeeds_l3,m_spec_HealDeeds_l3s]; simp only [nlt_dec,cond_false]
end
theorem sRets (pm:Pm) (hp : pm.length ≤ 1000) : m_spec_HealDeeds_l1 pm FUEL (([]:List Dd),0)=some (retsOf pm):=by
 have h:=loop_all (m_spec_HealDeeds_l1 pm) (fun k=>(retsOf (pm.take k),(k:Int))) pm.length (some (retsOf pm)) (by omega) (fun k fuel hk=>?_) (fun fuel=>?_)
 ·rw [show (([]:List (Int×Int×Int)),(0:Int))=(retsOf (pm.take 0),((0:Nat):Int)) from rfl,h]
 ·rw [e_spec_HealDeeds_l1,m_spec_HealDeeds_l1s]
  have ha : ∀ x:Dd,apB (retsOf (pm.take k)).length ([x]:List Dd).length=true:=fun x=>ap_small (by simp only [retsOf,List.length_map,List.length_take,List.length_singleton]; omega)
  simp only [lt_dec hk,ix_dec hk,chk_true,cond_true,Int.toNat_natCast,ha,w64_succ (by omega : k < 4611686018427387904)]
  rw [rets_take hk]
 ·rw [e_spec_HealDeeds_l1,m_spec_HealDeeds_l1s]; simp only [nlt_dec,cond_false,List.take_length]
theorem heal_len {w:Wd} (h:WdOk w):(healP w).length ≤ 1000:=by
 have h1:=br_len h
 have h2:=fixlen w.earth w.br
 have h3:=for_len 3 (earthd w.earth w.br) true w.on.length
 have h4:=rest_len w.on (bestP w.ls w.on w.pts)
 have h5:=h.work.lp
 have h6:=h.work.l1
 have h7:(stepsTo w.on (bestP w.ls w.on w.pts)).length=(restO w.on (bestP w.ls w.on w.pts)).1.length:=by rw [← steps_rest,List.length_map]
 simp only [Wd.wk] at h5 h6
 simp only [healP,List.length_append,retsOf,List.length_map,h7]
 omega
section
variable (b:Int) (ls:List Ln) (pts:List (Int×Int)) (on earth:List Bool) (pm:Pm) (br:List Int) (hp : pts.length ≤ 1048576) (ho : on.length ≤ 1048576) (hm : pm.length ≤ 1048576) (hb : br.length ≤ 1048576)
include hp ho hm hb
theorem iHeal : m_impl_HealDeeds b ls pts on earth pm br=some (if wv ⟨b,ls,pts,on,earth,pm,br⟩ then healP ⟨b,ls,pts,on,earth,pm,br⟩ else []):=by
 unfold m_impl_HealDeeds
 rw [iWv b ls pts on earth pm br hp ho hm hb,Option.bind_some]
 cases hv : wv ⟨b,ls,pts,on,earth,pm,br⟩
 ·rfl
 have hw:=wv_iff.1 hv
 have hbl:=br_len hw
 have hlp:=hw.bus.lp
 have w0:=hw.work.l0; have w1:=hw.work.l1; have we:=hw.work.le; have wp:=hw.work.lp; have hlen:=hw.len
 have hin:=hw.inn; have hsor:=hw.sor
 simp only [Wd.wk] at w0 w1 we wp
 dsimp only at hlp hbl hlen hin hsor
 subst hlp
 have h01 : 1 ≤ ls.length:=by omega
 have hel:=earthd_len br earth
 have hfl:=fixlen earth br
 have hol:=for_len 3 (earthd earth br) true earth.length
 have hrl:=rest_len on (bestP ls on pts)
 have hrt:(retsOf pm).length=pm.length:=by simp [retsOf]
 have a1 : apB ([]:List Bool).length earth.length=true:=ap_small (by simp only [List.length_nil]; omega)
 have a2 : apB (retsOf pm++fixOf earth br).length (forOf 3 (earthd earth br) true earth.length).length=true:=ap_small (by simp only [List.length_append]; omega)
 simp only [cond_true,iRets (on,earth,pm) (show pm.length ≤ 1000 by omega),m_slices_Clone_bool_bool,a1,chk_true,Option.bind_some,if_true]
 rw [iFix hsor (fun x hx=>by have:=(hin x hx).1; omega) (by omega) _ (by omega),Option.bind_some]
 dsimp only
 rw [iFor 3 (earthd earth br) true (by omega),Option.bind_some,hel,a2,chk_true,iRestore ⟨hw.bus.net,hlen⟩ hw.bus h01,Option.bind_some,iSteps _ _ (by simp only [List.length_append]; omega),Option.bind_some,steps_rest]
 simp only [healP,we]
theorem sHeal : m_spec_HealDeeds b ls pts on earth pm br=some (if wv ⟨b,ls,pts,on,earth,pm,br⟩ then healP ⟨b,ls,pts,on,earth,pm,br⟩ else []):=by
 unfold m_spec_HealDeeds
 rw [sWv b ls pts on earth pm br hp ho hm hb,Option.bind_some]
 cases hv : wv ⟨b,ls,pts,on,earth,pm,br⟩
 ·rfl
 have hw:=wv_iff.1 hv
 have hbl:=br_len hw
 have hlp:=hw.bus.lp
 have w0:=hw.work.l0; have w1:=hw.work.l1; have we:=hw.work.le; have wp:=hw.work.lp; have hlen:=hw.len
 have hin:=hw.inn; have hsor:=hw.sor
 simp only [Wd.wk] at w0 w1 we wp
 dsimp only at hlp hbl hlen hin hsor
 subst hlp
 have h01 : 1 ≤ ls.length:=by omega
 have hfl:=fixlen earth br
 have hol:=for_len 3 (earthd earth br) true on.length
 have hrl:=rest_len on (bestP ls on pts)
 have hrt:(retsOf pm).length=pm.length:=by simp [retsOf]
 have hi2 : ∀ x ∈ br,0 ≤ x∧x < (earth.length:Int):=fun x hx=>by have:=(hin x hx).1; omega
 rw [cond_true,sRets pm (by omega),Option.bind_some,sFix hsor hi2 (by omega) _ (by omega),Option.bind_some,sEarth hsor hi2 (by omega) _ (by simp only [List.length_append]; omega) on we (by omega),Option.bind_some,sRestore ⟨hw.bus.net,hlen⟩ hw.bus h01,Option.bind_some,sSteps _ _ (by simp only [List.length_append]; omega),Option.bind_some,steps_rest]
 rfl
theorem iCalm : m_impl_WorldCalm b ls pts on earth pm br=some (wv ⟨b,ls,pts,on,earth,pm,br⟩ && ((healP ⟨b,ls,pts,on,earth,pm,br⟩).length:Int) == 0):=by
 unfold m_impl_WorldCalm
 rw [iWv b ls pts on earth pm br hp ho hm hb,iHeal b ls pts on earth pm br hp ho hm hb,Option.bind_some]
 cases wv ⟨b,ls,pts,on,earth,pm,br⟩ <;> rfl
theorem sCalm : m_spec_WorldCalm b ls pts on earth pm br=some (wv ⟨b,ls,pts,on,earth,pm,br⟩ && ((healP ⟨b,ls,pts,on,earth,pm,br⟩).length:Int) == 0):=by
 unfold m_spec_WorldCalm
 rw [sWv b ls pts on earth pm br hp ho hm hb,sHeal b ls pts on earth pm br hp ho hm hb,Option.bind_some]
 cases wv ⟨b,ls,pts,on,earth,pm,br⟩ <;> rfl
end
end Go.Proofs.YtnplecoikgnpkaaGreatDoor
namespace Go.Proofs.YtnplecoikgnpkaaGreatDoor
set_option linter.unusedVariables false
set_option linter.unusedSimpArgs false
def hdP (w:Wd):List Dd:=if wv w=true then healP w else []
def rsP (w:Wd):Wd:=(wdRun w (hdP w)).2
theorem hd_len (w:Wd):(hdP w).length ≤ 1000:=by
 unfold hdP
 split
 ·rename_i h; exact heal_len (wv_iff.1 h)
 ·simp
theorem iHeal' {w:Wd} (h:Sm w) : m_impl_HealDeeds w.b w.ls w.pts w.on w.earth w.pm w.br=some (hdP w):=iHeal w.b w.ls w.pts w.on w.earth w.pm w.br h.p h.o h.m h.b
theorem sHeal' {w:Wd} (h:Sm w) : m_spec_HealDeeds w.b w.ls w.pts w.on w.earth w.pm w.br=some (hdP w):=sHeal w.b w.ls w.pts w.on w.earth w.pm w.br h.p h.o h.m h.b
theorem iCalm' {w:Wd} (h:Sm w) : m_impl_WorldCalm w.b w.ls w.pts w.on w.earth w.pm w.br=some (wv w && ((healP w).length:Int) == 0):=iCalm w.b w.ls w.pts w.on w.earth w.pm w.br h.p h.o h.m h.b
theorem sCalm' {w:Wd} (h:Sm w) : m_spec_WorldCalm w.b w.ls w.pts w.on w.earth w.pm w.br=some (wv w && ((healP w).length:Int) == 0):=sCalm w.b w.ls w.pts w.on w.earth w.pm w.br h.p h.o h.m h.b
theorem rs_small (w:Wd):Sm (rsP w):=wdRun_small (w:=w) (hdP w)
theorem iRest {w:Wd} (h:Sm w) : m_impl_WorldRest w.b w.ls w.pts w.on w.earth w.pm w.br=some (o7 (rsP w)):=by
 have hl:=hd_len w
 unfold m_impl_WorldRest
 rw [iHeal' h,Option.bind_some,iWorldRun h (hdP w) (by omega)]
 rfl
theorem sRest {w:Wd} (h:Sm w) : m_spec_WorldRest w.b w.ls w.pts w.on w.earth w.pm w.br=some (o7 (rsP w)):=by
 have hl:=hd_len w
 unfold m_spec_WorldRest
 rw [sHeal' h,Option.bind_some,sWorldRun h (hdP w) (by omega)]
 rfl
theorem rs_of {w:Wd} (h:WdOk w) : rsP w=restP w∧WdOk (restP w):=by
 have e : hdP w=healP w:=by unfold hdP; rw [if_pos (wv_iff.2 h)]
 have h1:=heal_run h
 have h2:=wdRun_ok h (healP w)
 rw [h1] at h2
 unfold rsP
 rw [e,h1]
 exact ⟨rfl,h2⟩
theorem rest_len0 (n:Nat) : ∀ k,forOf 3 (List.replicate n false) true k=[]
 | 0=>rfl
 | k+1=>by
  have:(List.replicate n false).getD k false=false:=by
   simp only [List.getD,List.getElem?_replicate]; split <;> rfl
  simp only [forOf,rest_len0 n k,this]; rfl
theorem steps_self (x:List Bool) : stepsTo x (some x)=[]:=by
 have h : ∀ k,(x.getD k false && !x.getD k false)=false:=fun k=>by cases x.getD k false <;> rfl
 simp [stepsTo,offsTo,onsTo,h]
theorem rest_calm (w:Wd) : healP (restP w)=[]:=by
 have h1 : fixOf (restP w).earth (restP w).br=[]:=rfl
 have h2 : retsOf (restP w).pm=[]:=rfl
 have h3 : earthd (restP w).earth (restP w).br=List.replicate w.on.length false:=rfl
 have h4 : stepsTo (restP w).on (bestP (restP w).ls (restP w).on (restP w).pts)=[]:=by
  show stepsTo ((bestP w.ls w.on w.pts).getD w.on) (bestP w.ls ((bestP w.ls w.on w.pts).getD w.on) w.pts)=[]
  cases hb : bestP w.ls w.on w.pts with
  | none=>simp only [Option.getD_none]; rw [hb]; rfl
  | some x=>simp only [Option.getD_some]; rw [bestP_self hb]; exact steps_self x
 unfold healP
 rw [h1,h2,h3,h4,rest_len0]; rfl
theorem calm_same {w:Wd} (h:WdOk w) (hc : healP w=[]) : restP w=w:=by
 have h1:=heal_run h
 rw [hc] at h1
 have h2 : wdRun w []=(0,w):=by unfold wdRun; rw [if_pos (wv_iff.2 h)]; rfl
 rw [h2] at h1
 exact (congrArg Prod.snd h1).symm
end Go.Proofs.YtnplecoikgnpkaaGreatDoor
namespace Go.Proofs.YtnplecoikgnpkaaGreatDoor
set_option linter.unusedVariables false
set_option linter.unusedSimpArgs false
theorem drawCalm {x0:List Int} (h1 : ∀ z ∈ x0,inU z):Ys (m_spec_DrawWorldCalm x0) fun r=>Sm (of7 r):=by
 unfold m_spec_DrawWorldCalm
 refine ys_bind (drawWorld (code_sub h1) (by omega)) fun r hr=>?_
 refine ys_then (ys_pick (code_sub h1) (by omega) (by omega) fun v v0 v1 _=>?_)
 refine ys_bif (fun _=>?_) (fun _=>ys_some hr.1.sm)
 exact ys_bind (ys_eq (sRest hr.1.sm) (P:=fun q=>Sm (of7 q)) (rs_small _)) fun q hq=>ys_some hq
theorem door_FnWorldCalm (x0 : List Int) (h0 : x0.length ≤ maxLen) (h1 : ∀ z ∈ x0, inU z) : m_laws_FnWorldCalm x0 = some true := by
  unfold m_laws_FnWorldCalm
  rcases Bool.eq_false_or_eq_true (ltB 1048576 (x0.length : Int)) with h | h <;> rw [h]
  · rfl
  obtain ⟨r, e, hz⟩ := drawCalm h1
  obtain ⟨w, rfl⟩ : ∃ w, r = o7 w := ⟨of7 r, rfl⟩
  have hs : Sm w := hz
  have hx := rs_small w
  rw [e]
  simp only [cond_false, Option.bind_some]
  rw [show m_impl_WorldCalm (o7 w).1 (o7 w).2.1 (o7 w).2.2.1 (o7 w).2.2.2.1 (o7 w).2.2.2.2.1 (o7 w).2.2.2.2.2.1 (o7 w).2.2.2.2.2.2 = _ from iCalm' hs, show m_spec_WorldCalm (o7 w).1 (o7 w).2.1 (o7 w).2.2.1 (o7 w).2.2.2.1 (o7 w).2.2.2.2.1 (o7 w).2.2.2.2.2.1 (o7 w).2.2.2.2.2.2 = _ from sCalm' hs, show m_spec_WorldValid (o7 w).1 (o7 w).2.1 (o7 w).2.2.1 (o7 w).2.2.2.1 (o7 w).2.2.2.2.1 (o7 w).2.2.2.2.2.1 (o7 w).2.2.2.2.2.2 = _ from sWv' w hs]
  simp only [Option.bind_some]
  rw [show m_impl_WorldRest (o7 w).1 (o7 w).2.1 (o7 w).2.2.1 (o7 w).2.2.2.1 (o7 w).2.2.2.2.1 (o7 w).2.2.2.2.2.1 (o7 w).2.2.2.2.2.2 = _ from iRest hs]
  simp only [Option.bind_some]
  rw [show m_impl_WorldCalm (o7 (rsP w)).1 (o7 (rsP w)).2.1 (o7 (rsP w)).2.2.1 (o7 (rsP w)).2.2.2.1 (o7 (rsP w)).2.2.2.2.1 (o7 (rsP w)).2.2.2.2.2.1 (o7 (rsP w)).2.2.2.2.2.2 = _ from iCalm' hx, show m_laws_sameWorld (o7 (rsP w)).1 (o7 (rsP w)).2.1 (o7 (rsP w)).2.2.1 (o7 (rsP w)).2.2.2.1 (o7 (rsP w)).2.2.2.2.1 (o7 (rsP w)).2.2.2.2.2.1 (o7 (rsP w)).2.2.2.2.2.2 (o7 w).1 (o7 w).2.1 (o7 w).2.2.1 (o7 w).2.2.2.1 (o7 w).2.2.2.2.1 (o7 w).2.2.2.2.2.1 (o7 w).2.2.2.2.2.2 = _ from sameWorld_eq (rsP w) w hx]
  cases hv : wv w
  · simp [gb, alive_ok]
  have ok : WdOk w := wv_iff.1 hv
  obtain ⟨q1, q2⟩ := rs_of ok
  rw [q1, wv_iff.2 q2, rest_calm]
  by_cases hc : healP w = []
  · have hsame := calm_same ok hc
    have hbr : w.br = [] := by rw [← hsame]; rfl
    rw [hc, wdEq_iff.2 hsame]
    simp [o7, hbr]
  · have hn : (((healP w).length : Int) == 0) = false := by
      rw [beq_eq_false_iff_ne]; intro h0; exact hc (List.eq_nil_of_length_eq_zero (by omega))
    rw [hn]
    simp
end Go.Proofs.YtnplecoikgnpkaaGreatDoor
namespace Go.Proofs.YtnplecoikgnpkaaGreatDoor
open Go.ChangeShapes Go.WideShapes Go.ChangeAt Go.RowKit Go.Deep
set_option linter.unusedVariables false
set_option linter.unusedSimpArgs false
set_option maxRecDepth 100000
section
variable {H:Type} {enc:TypeId×Value → H} {w:World} {base:Nat} {spare:Nat → Bool} {held:Bool}
theorem tr5 {fuel:Nat} {cs:List Value} {x:DataW H×List MemPlace} (h:DataW.trod enc Tryz.prog w base spare held fuel 5 cs=some x) :
  ∃ (y0:Int),cs=[.int .u8 y0]∧inU y0:=by
 obtain ⟨n,rfl,_,hw⟩:=DataW.trod_int Tryz.underlying5 h
 exact ⟨n,rfl,u8_bounds hw⟩
theorem tr22 {fuel:Nat} {cs:List Value} {x:DataW H×List MemPlace} (h:DataW.trod enc Tryz.prog w base spare held fuel 22 cs=some x) :
  ∃ (A0:Option Addr) (y0:List Int) (k0:Nat),cs=[.slice A0 y0.length k0]∧Rc w 1 A0 y0.length k0 (y0.flatMap eU)∧y0.length ≤ maxLen∧(∀ z ∈ y0,inU z):=by
 obtain ⟨A,l,cap,e1,e2,e3,e4⟩:=open_list (fun b : {y:Int // inU y}=>eU b.1) (size:=1) (fun b=>eU_len b.1) (by decide) Tryz.underlying22 (by kernel_rfl) (fun fuel cs x hx=>by
  obtain ⟨z0,rfl,g0⟩:=tr5 hx
  exact ⟨⟨z0,g0⟩,rfl⟩) h
 refine ⟨A,l.map (·.1),cap,by simpa using e1,⟨by simpa [List.flatMap_map] using e2,by simpa using e3⟩,by simpa using Nat.le_trans e3 e4,fun z hz=>?_⟩
 obtain ⟨q,_,rfl⟩:=List.mem_map.1 hz
 exact q.2
theorem op22 {r:Reach} {b0:Nat} {v:Value} {d:DataW H} {p:List MemPlace} (hval:Value.okWide Tryz.prog w r b0 22 v) (h:DataW.Trod enc Tryz.prog w base spare held 22 v d p) :
  ∃ (A0:Option Addr) (y0:List Int) (k0:Nat),v=.slice A0 y0.length k0∧Rc w 1 A0 y0.length k0 (y0.flatMap eU)∧y0.length ≤ maxLen∧(∀ z ∈ y0,inU z):=by
 obtain ⟨A',n',k',rfl⟩:=okWide_slice Tryz.underlying22 hval
 obtain ⟨fuel,hf⟩:=h
 obtain ⟨A0,y0,k0,e,w0,w1,w2⟩:=tr22 hf
 simp [Value.cells] at e
 exact ⟨A0,y0,k0,by simp [e],w0,w1,w2⟩
end
end Go.Proofs.YtnplecoikgnpkaaGreatDoor
namespace Go.Proofs.YtnplecoikgnpkaaGreatDoor
open Go.ChangeShapes Go.WideShapes Go.ChangeAt Go.RowKit
theorem own : ownKnob Tryz.prog.godebug=none:=by kernel_rfl
theorem laidOut : laidOutB Tryz.prog=true:=by kernel_rfl
section
variable {H:Type} {enc:TypeId×Value → H} {P:Program}
theorem trodAll_below (hl : laidOutB P=true) {W W':World} (hb:Below W.heap.size W W') : ∀ {ts:List TypeId} {vs:List Value} {ds:List (DataW H)} {ps:List MemPlace},
  (ts.all fun t=>P.readableRec t && decide (t < P.types.size))=true → DataW.TrodAll enc P W 0 (fun _=>true) true ts vs ds ps → (∀ x ∈ ps,x.block < W.heap.size) →
  DataW.TrodAll enc P W' 0 (fun b=>decide (b < W.heap.size)) true ts vs ds ps
 | [],[],[],_,_,h,_=>h
 | t :: ts,v :: vs,d :: ds,ps,ht,h,hlt=>by
  obtain ⟨p,q,h1,h2,rfl⟩:=h
  simp only [List.all_cons,Bool.and_eq_true,decide_eq_true_eq] at ht
  exact ⟨p,q,Below.trod hl ht.1.1 ht.1.2 h1 hb (fun x hx=>hlt x (by simp [hx])),trodAll_below hl hb (by simpa using ht.2) h2 (fun x hx=>hlt x (by simp [hx])),rfl⟩
theorem law_post {f:Func} {s:ChangeSpec} {W W':World} {args:Array Value} {ds gs:List (DataW H)} {before:List MemPlace} {tb:TypeId} (hl : laidOutB P=true)
  (hW:DataW.Whole enc P f.params.toList s.vars false W args.toList ds gs before)
  (hts:(f.params.toList.all fun t=>P.readableRec t && decide (t < P.types.size))=true) (hvs : s.vars=[]) (hrt : f.resultTypes=#[tb]) (hub:P.underlying tb=some .bool)
  (hfn : s.fn H (ds++[])={ results:=[.lit (.bool true)],args:=ds }) (hb:Below W.heap.size W W') :
  s.post enc P f false true false false W args (.bool true) W':=by
 have hW':=hW
 obtain ⟨p,q,hA,hV,rfl,hfz,hnd⟩:=hW
 rw [hvs] at hV
 obtain ⟨rfl,rfl⟩:=trodVars_none hV
 refine ⟨ds,[],p++[],[],p,[],hW',?_,?_,?_,hb.frame _,fun h=>by cases h⟩
 ·rw [hfn,hrt]
  exact trodAll_cons_mk (shut_bool hub _) trodAll_mk0
 ·rw [hfn]
  exact trodAll_below hl hb hts hA (fun x hx=>hW'.lt x (by simp [hx]))
 ·rw [hfn,hvs]
  rfl
end
end Go.Proofs.YtnplecoikgnpkaaGreatDoor
