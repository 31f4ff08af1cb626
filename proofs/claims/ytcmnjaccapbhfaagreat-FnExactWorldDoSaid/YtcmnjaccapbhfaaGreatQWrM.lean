/- WorldDo, WorldRun: the models are wdDo, wdRun. -/
import Derived.Test.YtcmnjaccapbhfaaGreatQWvM
import Derived.Test.YtcmnjaccapbhfaaGreatQWkD
import Derived.Test.YtcmnjaccapbhfaaGreatQBsM
namespace Go.Proofs.YtcmnjaccapbhfaaGreat
set_option linter.unusedVariables false
set_option linter.unusedSimpArgs false
abbrev W7:=Int×List Ln×List (Int×Int)×List Bool×List Bool×Pm×List Int
def o7 (w:Wd):W7:=(w.b,w.ls,w.pts,w.on,w.earth,w.pm,w.br)
abbrev W8:=Int×List Ln×List (Int×Int)×List Bool×List Bool×Pm×List Int×Bool
def o8 (r:Wd×Bool):W8:=(r.1.b,r.1.ls,r.1.pts,r.1.on,r.1.earth,r.1.pm,r.1.br,r.2)
structure Sm (w:Wd):Prop where
 l : w.ls.length ≤ 1048576
 p : w.pts.length ≤ 1048576
 o : w.on.length ≤ 1048576
 e : w.earth.length ≤ 1048576
 m : w.pm.length ≤ 1048576
 b : w.br.length ≤ 1048576
theorem bl_of {w:Wd} (h:WdOk w) : w.br.length ≤ w.on.length:=by
 have h1 : ∀ k,k < w.br.length → (k:Int) ≤ w.br.getD k 0:=by
  intro k
  induction k with
  | zero =>
   intro hk
   have:=(h.inn (w.br.getD 0 0) (by rw [getD_ge hk]; exact List.getElem_mem hk)).1
   omega
  | succ k ih =>
   intro hk
   have h1:=ih (by omega)
   have h2:=adj_of_sorted h.sor hk
   omega
 rcases Nat.eq_zero_or_pos w.br.length with h0 | h0
 ·omega
 ·have h2:=h1 (w.br.length - 1) (by omega)
  have h3:=(h.inn (w.br.getD (w.br.length - 1) 0) (by rw [getD_ge (by omega)]; exact List.getElem_mem _)).1
  omega
theorem sm_of {w:Wd} (h:WdOk w):Sm w:=by
 have h1:=h.bus.net.ll; have h2:=h.bus.lp; have h3:=h.bus.net.b1; have h4:=h.work.l1; have h5:=h.work.le; have h6:=h.work.lp; have h7:=bl_of h
 simp only [Wd.wk] at h4 h5 h6
 exact ⟨by omega,by omega,by omega,by omega,by omega,by omega⟩
theorem radB_ok {w:Wd} (h:WdOk w) {on':List Bool} (hl : on'.length=w.ls.length) : radB w.b w.ls on' w.pts=radP w.ls on' w.pts:=by
 unfold radB
 rw [okV_iff.2 ⟨⟨h.bus.net,hl⟩,h.bus⟩]; rfl
theorem may_no {w:Wk} {kd a who:Int} (h : kd ≠ 0∧kd ≠ 1∧kd ≠ 2∧kd ≠ 3∧kd ≠ 4∧kd ≠ 5) : wkMay w kd a who=false:=by
 simp [wkMay,h.1,h.2.1,h.2.2.1,h.2.2.2.1,h.2.2.2.2.1,h.2.2.2.2.2]
theorem do_no {w:Wk} (hw:WOk w) {kd a who:Int} (h : kd ≠ 0∧kd ≠ 1∧kd ≠ 2∧kd ≠ 3∧kd ≠ 4∧kd ≠ 5):(wkDo w kd a who).2=false:=by
 rcases do_cases hw kd a who with ⟨_,_,h1,_⟩ | ⟨h1,_⟩
 ·rw [may_no h] at h1; cases h1
 ·rw [h1]
section
variable {w:Wd} (h:Sm w)
include h
theorem iClone7 : m_impl_World_clone w.b w.ls w.pts w.on w.earth w.pm w.br=some (o7 w):=by
 have a1 : apB ([]:List Ln).length w.ls.length=true:=by have:=h.l; simp [apB]; omega
 have a2 : apB ([]:List (Int×Int)).length w.pts.length=true:=by have:=h.p; simp [apB]; omega
 have a3 : apB ([]:List Int).length w.br.length=true:=by have:=h.b; simp [apB]; omega
 have:=wcloneP (w.on,w.earth,w.pm) h.o h.e h.m
 simp only [m_impl_World_clone,m_slices_Clone_impl_Line_impl_Line,m_slices_Clone_impl_Bus_impl_Bus,m_slices_Clone_int_int,a1,a2,a3,chk_true,Option.bind_some,this]
 rfl
theorem sCopy7 : m_spec_l39Copy w.b w.ls w.pts w.on w.earth w.pm w.br=some (o7 w):=by
 have a1 : apB ([]:List Ln).length w.ls.length=true:=by have:=h.l; simp [apB]; omega
 have a2 : apB ([]:List (Int×Int)).length w.pts.length=true:=by have:=h.p; simp [apB]; omega
 have a3 : apB ([]:List Int).length w.br.length=true:=by have:=h.b; simp [apB]; omega
 have:=wcopyP (w.on,w.earth,w.pm) h.o h.e h.m
 simp only [m_spec_l39Copy,a1,a2,a3,chk_true,Option.bind_some,List.nil_append,this]
 rfl
end
section
variable {w:Wd} (h:WdOk w) (kd a who:Int) (ha : 0 ≤ a∧a < (w.on.length:Int))
include h ha
theorem iWdo : ∃ st : W7, m_impl_World_do w.b w.ls w.pts w.on w.earth w.pm w.br kd a who = some ((wdDo w kd a who).2, st) ∧ ((wdDo w kd a who).2 = true → st = o7 (wdDo w kd a who).1) := by
  have sm := sm_of h
  obtain ⟨p, hp, hat⟩ := iBs (x := a) h.sor sm.b
  have hle := hat.le
  have hbl := sm.b
  have hix : ixB a w.on.length = true := decide_eq_true ha
  have hv := wv_iff.2 h
  unfold m_impl_World_do
  rw [hp, Option.bind_some]
  dsimp only
  by_cases k6 : kd = 6
  · subst k6
    by_cases hb : a ∈ w.br
    · have hf : wdDo w 6 a who = (w, false) := by
        unfold wdDo
        rw [if_pos hv, if_pos ha, if_neg (fun e => e.2 hb), if_neg (fun e => absurd e.1 (by decide)), if_neg (fun e => absurd e.1 (by decide)), if_neg (fun e => by rw [do_no h.work (by decide)] at e; cases e.1)]
      rw [hf]
      exact ⟨_, by rw [decide_eq_true hb]; rfl, fun e => by cases e⟩
    · have hf : wdDo w 6 a who = ({ w with on := w.on.set a.toNat false, br := insS a w.br }, true) := by
        unfold wdDo
        rw [if_pos hv, if_pos ha, if_pos ⟨rfl, hb⟩]
      rw [hf]
      have c1 : slB 0 (p : Int) w.br.length = true := decide_eq_true (by omega)
      have c2 : apB w.br.length 1 = true := by simp [apB]; omega
      refine ⟨_, ?_, fun _ => rfl⟩
      rw [decide_eq_false hb]
      simp only [cond_false, show ((6 : Int) == 6) = true from rfl, cond_true, m_slices_Insert_int_int, c1, c2, chk_true, List.length_singleton, show (((1 : Nat) : Int) == 1) = true from rfl, Option.bind_some, hix, Int.toNat_natCast, at_ins h.sor hat hb]
      rfl
  rw [show (kd == 6) = false from by simpa using k6, cond_false]
  by_cases k7 : kd = 7
  · subst k7
    have hh := iHas w.pm who a (by have := sm.m; omega)
    by_cases hb : a ∈ w.br
    · by_cases hm : (who, a) ∈ w.pm
      · have hf : wdDo w 7 a who = ({ w with br := w.br.filter fun x => x != a }, true) := by
          unfold wdDo
          rw [if_pos hv, if_pos ha, if_neg (fun e => absurd e.1 (by decide)), if_pos ⟨rfl, hb, hm⟩]
        rw [hf]
        obtain ⟨hpl, _⟩ := (at_mem h.sor hat).2 hb
        have wk : w64 ((p : Int) + 1) = (p : Int) + 1 := w64_in (by omega) (by omega)
        have b1 : slB (p : Int) ((p : Int) + 1) w.br.length = true := decide_eq_true (by omega)
        have b2 : slB 0 (p : Int) w.br.length = true := decide_eq_true (by omega)
        have b3 : slB ((p : Int) + 1) (w.br.length : Int) w.br.length = true := decide_eq_true (by omega)
        have b4 : ((p : Int) == (p : Int) + 1) = false := by simp; omega
        have s1 : subL w.br 0 (p : Int) = w.br.take p := by simp [subL]
        have s2 : subL w.br ((p : Int) + 1) (w.br.length : Int) = w.br.drop (p + 1) := by
          unfold subL; rw [show ((p : Int) + 1).toNat = p + 1 by omega, List.take_of_length_le (by simp <;> omega)]
        have b5 : apB (w.br.take p).length (w.br.drop (p + 1)).length = true := by simp [apB]; omega
        refine ⟨_, ?_, fun _ => rfl⟩
        rw [decide_eq_true hb, hh, decide_eq_true hm]
        simp only [show ((7 : Int) == 7) = true from rfl, cond_true, Bool.not_true, Bool.not_false, gb_true, Option.bind_some, Bool.or_self, cond_false, m_slices_Delete_int_int, wk, b1, b2, b3, b4, s1, s2, b5, chk_true, at_del h.sor hat hb]
        rfl
      · have hf : wdDo w 7 a who = (w, false) := by
          unfold wdDo
          rw [if_pos hv, if_pos ha, if_neg (fun e => absurd e.1 (by decide)), if_neg (fun e => hm e.2.2), if_neg (fun e => absurd e.1 (by decide)), if_neg (fun e => by rw [do_no h.work (by decide)] at e; cases e.1)]
        rw [hf]
        exact ⟨_, by rw [decide_eq_true hb, hh, decide_eq_false hm]; rfl, fun e => by cases e⟩
    · have hf : wdDo w 7 a who = (w, false) := by
        unfold wdDo
        rw [if_pos hv, if_pos ha, if_neg (fun e => absurd e.1 (by decide)), if_neg (fun e => hb e.2.1), if_neg (fun e => absurd e.1 (by decide)), if_neg (fun e => by rw [do_no h.work (by decide)] at e; cases e.1)]
      rw [hf]
      exact ⟨_, by rw [decide_eq_false hb]; rfl, fun e => by cases e⟩
  rw [show (kd == 7) = false from by simpa using k7, cond_false]
  have hdo := iDo w.wk kd a who sm.o sm.e sm.m
  have hlen := (wkDo_on h.work (kd := kd) (a := a) (who := who)).1
  have hrad : m_impl_Radial w.b w.ls (wkDo w.wk kd a who).1.1 w.pts = some (radP w.ls (wkDo w.wk kd a who).1.1 w.pts) := by
    rw [iRadial _ _ _ _ sm.p, radB_ok h (hlen.trans h.len)]
  by_cases k0 : kd = 0
  · subst k0
    by_cases hb : a ∈ w.br
    · have hf : wdDo w 0 a who = (w, false) := by
        unfold wdDo
        rw [if_pos hv, if_pos ha, if_neg (fun e => absurd e.1 (by decide)), if_neg (fun e => absurd e.1 (by decide)), if_pos ⟨rfl, hb⟩]
      rw [hf]
      exact ⟨_, by rw [decide_eq_true hb]; rfl, fun e => by cases e⟩
    · have hf : wdDo w 0 a who = if (wkDo w.wk 0 a who).2 = true ∧ radP w.ls (wkDo w.wk 0 a who).1.1 w.pts = true then (w.put (wkDo w.wk 0 a who).1, true) else (w, false) := by
        unfold wdDo
        rw [if_pos hv, if_pos ha, if_neg (fun e => absurd e.1 (by decide)), if_neg (fun e => absurd e.1 (by decide)), if_neg (fun e => hb e.2)]
      rw [hf]
      simp only [Wd.wk] at hdo
      rw [decide_eq_false hb]
      simp only [show ((0 : Int) == 0) = true from rfl, cond_true, cond_false, Option.bind_some, Sum.elim_inl, hdo, out4w, show ((0 : Int) != 0) = false from rfl, Bool.not_false, Bool.and_true, Bool.false_or]
      change ∃ st : W7, Option.bind (gb (wkDo w.wk 0 a who).2 (m_impl_Radial w.b w.ls (wkDo w.wk 0 a who).1.1 w.pts)) (fun p127 => some ((wkDo w.wk 0 a who).2 && p127, w.b, w.ls, w.pts, (wkDo w.wk 0 a who).1.1, (wkDo w.wk 0 a who).1.2.1, (wkDo w.wk 0 a who).1.2.2, w.br)) = _ ∧ _
      rw [hrad]
      cases h1 : (wkDo w.wk 0 a who).2
      · exact ⟨_, rfl, fun e => by cases e⟩
      · cases h2 : radP w.ls (wkDo w.wk 0 a who).1.1 w.pts
        · exact ⟨_, rfl, fun e => by cases e⟩
        · exact ⟨_, rfl, fun _ => rfl⟩
  · have hf : wdDo w kd a who = if (wkDo w.wk kd a who).2 = true ∧ radP w.ls (wkDo w.wk kd a who).1.1 w.pts = true then (w.put (wkDo w.wk kd a who).1, true) else (w, false) := by
      unfold wdDo
      rw [if_pos hv, if_pos ha, if_neg (fun e => k6 e.1), if_neg (fun e => k7 e.1), if_neg (fun e => k0 e.1)]
    rw [hf, wkDo_rad h k0]
    have e0 : (kd == 0) = false := by simpa using k0
    have e1 : (kd != 0) = true := by simpa using k0
    simp only [Wd.wk] at hdo
    simp only [e0, cond_false, Option.bind_some, Sum.elim_inl, hdo, out4w, e1, Bool.not_true, Bool.and_false, gb_false, Bool.true_or, Bool.and_true]
    change ∃ st : W7, some ((wkDo w.wk kd a who).2, w.b, w.ls, w.pts, (wkDo w.wk kd a who).1.1, (wkDo w.wk kd a who).1.2.1, (wkDo w.wk kd a who).1.2.2, w.br) = _ ∧ _
    cases h1 : (wkDo w.wk kd a who).2
    · exact ⟨_, rfl, fun e => by cases e⟩
    · exact ⟨_, rfl, fun _ => rfl⟩
end
theorem iWorldDo {w:Wd} (sm:Sm w) (kd a who:Int) : m_impl_WorldDo w.b w.ls w.pts w.on w.earth w.pm w.br kd a who=some (o8 (wdDo w kd a who)):=by
 unfold m_impl_WorldDo
 rw [iWv w.b w.ls w.pts w.on w.earth w.pm w.br sm.p sm.o sm.m sm.b,Option.bind_some]
 cases hv : wv w
 ·unfold wdDo
  rw [if_neg (by rw [hv]; decide)]
  rfl
 rw [cond_true,iClone7 sm,Option.bind_some]
 have h:=wv_iff.1 hv
 simp only [m_impl_Net_hasLine,Option.bind_some]
 by_cases ha : 0 ≤ a∧a < (w.on.length:Int)
 ·have hc:(leB 0 a && ltB a (w.ls.length:Int))=true:=by rw [← h.len]; simp [leB,ltB]; omega
  obtain ⟨st,h1,h2⟩:=iWdo h kd a who ha
  simp only [o7]
  rw [hc,cond_true,h1]
  cases hr:(wdDo w kd a who).2
  ·simp only [Option.bind_some,Bool.not_false,cond_true]
   have hs:=wdDo_same h hr
   have : wdDo w kd a who=(w,false):=Prod.ext hs hr
   rw [this]; rfl
  ·rw [h2 hr]
   simp only [Option.bind_some,Bool.not_true,cond_false,o7,o8,hr]
 ·have hc:(leB 0 a && ltB a (w.ls.length:Int))=false:=by rw [← h.len]; simp [leB,ltB]; omega
  have hf : wdDo w kd a who=(w,false):=by unfold wdDo; rw [if_pos hv,if_neg ha]
  rw [hc,hf]; rfl
def bkL (br:List Int) (a:Int) (k:Nat):List Int:=((List.range k).map fun (i:Nat)=>(i:Int)).filter fun i=>i == a || decide (i ∈ br)
theorem bkL_len (br:List Int) (a:Int) (k:Nat):(bkL br a k).length ≤ k:=by
 unfold bkL
 refine Nat.le_trans (List.length_filter_le _ _) ?_
 simp
theorem bkL_succ (br:List Int) (a:Int) (k:Nat) : bkL br a (k+1)=bif (k:Int) == a || decide ((k:Int) ∈ br) then bkL br a k++[(k:Int)] else bkL br a k:=by
 unfold bkL
 rw [List.range_succ,List.map_append,List.filter_append]
 cases hc:((k:Int) == a || decide ((k:Int) ∈ br)) <;> simp [List.filter_cons,hc]
theorem bkL_eq {w:Wd} (h:WdOk w) {a:Int} (ha : 0 ≤ a∧a < (w.on.length:Int)) : bkL w.br a w.on.length=insS a w.br:=by
 refine sorted_ext ?_ (insS_sorted h.sor) (fun x=>?_)
 ·refine List.Pairwise.sublist List.filter_sublist ?_
  rw [List.pairwise_map]
  exact List.pairwise_lt_range.imp (fun h=>by omega)
 ·unfold bkL
  rw [insS_mem,List.mem_filter,List.mem_map]
  simp only [List.mem_range,Bool.or_eq_true,beq_iff_eq,decide_eq_true_eq]
  constructor
  ·exact fun e=>e.2
  ·intro e
   refine ⟨?_,e⟩
   have : 0 ≤ x∧x < (w.on.length:Int):=by
    rcases e with rfl | e
    ·exact ha
    ·exact (h.inn x e).1
   exact ⟨x.toNat,by omega,by omega⟩
section
variable {w:Wd} (h:WdOk w) {a:Int} (ha : 0 ≤ a∧a < (w.on.length:Int))
include h ha
theorem sBreak : m_spec_l39Break w.b w.ls w.pts w.on w.earth w.pm w.br a=some (o7 { w with on:=w.on.set a.toNat false,br:=insS a w.br }):=by
 have sm:=sm_of h
 have ho:=sm.o; have hb:=sm.b
 have hix : ixB a w.on.length=true:=decide_eq_true ha
 have hh:=loop_all (m_spec_l39Break_l1 w.on w.br a) (fun k=>((k:Int),bkL w.br a k)) w.on.length (some (insS a w.br)) (by omega) (fun k fuel hk=>?_) (fun fuel=>?_)
 ·unfold m_spec_l39Break
  rw [sCopy7 sm]
  simp only [Option.bind_some,o7,hix,chk_true]
  rw [show m_spec_l39Break_l1 w.on w.br a FUEL (0,[])=_ from hh]
  rfl
 ·rw [m_spec_l39Break_l1.eq_2]
  have hl:=bkL_len w.br a k
  have ap : apB (bkL w.br a k).length ([(k:Int)]:List Int).length=true:=by simp [apB]; omega
  simp only [lt_dec hk,cond_true,sHas w.br (k:Int) (by omega),w64_succ (by omega : k < 4611686018427387904),ap,chk_true]
  rw [bkL_succ]
  cases hc:((k:Int) == a)
  ·simp only [Bool.not_false,gb_true,Option.bind_some,Bool.false_or]
   cases decide ((k:Int) ∈ w.br) <;> rfl
  ·simp only [Bool.not_true,gb_false,Option.bind_some,Bool.true_or,cond_true]
 ·rw [m_spec_l39Break_l1.eq_2]
  simp only [nlt_dec,cond_false,bkL_eq h ha]
omit ha in
theorem sMend : m_spec_l39Mend w.b w.ls w.pts w.on w.earth w.pm w.br a=some (o7 { w with br:=w.br.filter fun x=>x != a }):=by
 have sm:=sm_of h
 have hb:=sm.b
 have hh:=loop_all (m_spec_l39Mend_l1 w.br a) (fun k=>((k:Int),(w.br.take k).filter fun x=>x != a)) w.br.length (some (w.br.filter fun x=>x != a)) (by omega) (fun k fuel hk=>?_) (fun fuel=>?_)
 ·unfold m_spec_l39Mend
  rw [sCopy7 sm]
  simp only [Option.bind_some,o7]
  rw [show m_spec_l39Mend_l1 w.br a FUEL (0,[])=_ from hh]
  rfl
 ·rw [m_spec_l39Mend_l1.eq_2]
  have hl:=List.length_filter_le (fun x=>x != a) (w.br.take k)
  rw [List.length_take] at hl
  have ap : ∀ x:Int,apB ((w.br.take k).filter fun x=>x != a).length ([x]:List Int).length=true:=fun x=>by simp only [apB,decide_eq_true_eq,List.length_singleton]; omega
  simp only [lt_dec hk,ix_dec hk,cond_true,chk_true,Int.toNat_natCast,ap,w64_succ (by omega : k < 4611686018427387904)]
  rw [List.take_succ_eq_append_getElem hk,List.filter_append,← getD_ge hk (d:=(0:Int))]
  cases hc:(w.br.getD k 0 != a)
  ·simp only [List.filter_cons,List.filter_nil,hc,Bool.false_eq_true,if_false,cond_false,Option.bind_some,List.append_nil]
  ·simp only [List.filter_cons,List.filter_nil,hc,if_true,cond_true,Option.bind_some]
 ·rw [m_spec_l39Mend_l1.eq_2]
  simp only [nlt_dec,cond_false,List.take_length]
end
theorem held_iff {pm:Pm} {a who:Int} : who ∈ heldOf pm a ↔ (who,a) ∈ pm:=by
 unfold heldOf
 rw [List.mem_map]
 constructor
 ·rintro ⟨p,hp,rfl⟩
  obtain ⟨h1,h2⟩:=List.mem_filter.1 hp
  have : p.2=a:=by simpa using h2
  rw [← this]; exact h1
 ·intro hm
  exact ⟨(who,a),List.mem_filter.2 ⟨hm,by simp⟩,rfl⟩
theorem sWorldDo {w:Wd} (sm:Sm w) (kd a who:Int) : m_spec_WorldDo w.b w.ls w.pts w.on w.earth w.pm w.br kd a who=some (o8 (wdDo w kd a who)):=by
 unfold m_spec_WorldDo
 rw [sWv w.b w.ls w.pts w.on w.earth w.pm w.br sm.p sm.o sm.m sm.b,Option.bind_some]
 cases hv : wv w
 ·unfold wdDo
  rw [if_neg (by rw [hv]; decide)]
  rfl
 rw [cond_true]
 have h:=wv_iff.1 hv
 have hol:=h.work.l1
 simp only [Wd.wk] at hol
 have e1 : w64 ((w.on.length:Int) - 1)=(w.on.length:Int) - 1:=w64_in (by omega) (by omega)
 simp only [m_spec_l1In,e1,Option.bind_some]
 by_cases hna : ¬ (0 ≤ a∧a < (w.on.length:Int))
 ·have hc:(leB 0 a && leB a ((w.on.length:Int) - 1))=false:=by simp [leB]; omega
  have hf : wdDo w kd a who=(w,false):=by unfold wdDo; rw [if_pos hv,if_neg hna]
  rw [hc,hf,cond_false,sCopy7 sm]; rfl
 have ha : 0 ≤ a∧a < (w.on.length:Int):=Classical.byContradiction hna
 have hc:(leB 0 a && leB a ((w.on.length:Int) - 1))=true:=by simp [leB]; omega
 rw [hc,cond_true,sHas w.br a (by have:=sm.b; omega),Option.bind_some]
 by_cases h6 : kd=6∧a ∉ w.br
 ·have hf : wdDo w kd a who=({ w with on:=w.on.set a.toNat false,br:=insS a w.br },true):=by unfold wdDo; rw [if_pos hv,if_pos ha,if_pos h6]
  rw [hf,decide_eq_false h6.2,h6.1,show (((6:Int) == 6) && !false)=true from rfl,cond_true,sBreak h ha]; rfl
 have c6:((kd == 6) && !decide (a ∈ w.br))=false:=by
  cases hk:(kd == 6)
  ·rfl
  ·have : a ∈ w.br:=Classical.byContradiction fun hn=>h6 ⟨by simpa using hk,hn⟩
   rw [decide_eq_true this]; rfl
 rw [c6,cond_false]
 have hheld : m_spec_WorkHeld w.on w.earth w.pm a=some (heldOf w.pm a):=by
  rw [sHeld w.on w.earth w.pm a sm.o sm.m,if_pos (show workV w.on w.earth w.pm=true from wok_iff.2 h.work)]
 have hhl:=held_len w.pm a
 have hml:=sm.m
 have c7:(bif (kd == 7) && decide (a ∈ w.br) then Option.bind (m_spec_WorkHeld w.on w.earth w.pm a) (fun (p133:List Int)=>Option.bind (m_spec_l1Has p133 who) (fun (p137:Bool)=>some p137)) else some false)=some (decide (kd=7∧a ∈ w.br∧(who,a) ∈ w.pm)):=by
  rw [hheld]
  simp only [Option.bind_some,sHas (heldOf w.pm a) who (by omega)]
  by_cases hk : kd=7
  ·subst hk
   by_cases hb : a ∈ w.br
   ·simp [hb,held_iff]
   ·simp [hb]
  ·have:(kd == 7)=false:=by simpa using hk
   simp [this,hk]
 rw [c7,Option.bind_some]
 by_cases h7 : kd=7∧a ∈ w.br∧(who,a) ∈ w.pm
 ·have hf : wdDo w kd a who=({ w with br:=w.br.filter fun x=>x != a },true):=by unfold wdDo; rw [if_pos hv,if_pos ha,if_neg h6,if_pos h7]
  rw [hf,decide_eq_true h7,cond_true,sMend h]; rfl
 rw [decide_eq_false h7,cond_false]
 by_cases h0 : kd=0∧a ∈ w.br
 ·have hf : wdDo w kd a who=(w,false):=by unfold wdDo; rw [if_pos hv,if_pos ha,if_neg h6,if_neg h7,if_pos h0]
  rw [hf,h0.1,decide_eq_true h0.2,show (((0:Int) == 0) && true)=true from rfl,cond_true,sCopy7 sm]; rfl
 have c0:((kd == 0) && decide (a ∈ w.br))=false:=by
  cases hk:(kd == 0)
  ·rfl
  ·have : a ∉ w.br:=fun hn=>h0 ⟨by simpa using hk,hn⟩
   rw [decide_eq_false this]; rfl
 rw [c0,cond_false,sCopy7 sm,Option.bind_some]
 have hdo:=sDo w.wk kd a who sm.o sm.e sm.m
 have hlen:=(wkDo_on h.work (kd:=kd) (a:=a) (who:=who)).1
 have hrad : m_spec_Radial w.b w.ls (wkDo w.wk kd a who).1.1 w.pts=some (radP w.ls (wkDo w.wk kd a who).1.1 w.pts):=by
  rw [sRadial _ _ _ _ sm.p,radB_ok h (hlen.trans h.len)]
 have hf : wdDo w kd a who=if (wkDo w.wk kd a who).2=true∧radP w.ls (wkDo w.wk kd a who).1.1 w.pts=true then (w.put (wkDo w.wk kd a who).1,true) else (w,false):=by
  unfold wdDo
  rw [if_pos hv,if_pos ha,if_neg h6,if_neg h7,if_neg h0]
 rw [hf]
 change Option.bind (m_spec_WorkDo w.wk.1 w.wk.2.1 w.wk.2.2 kd a who) _=_
 rw [hdo,Option.bind_some]
 simp only [out4w,o7,hrad]
 cases h1:(wkDo w.wk kd a who).2
 ·simp only [Bool.not_false,Bool.not_true,gb_false,Option.bind_some,Bool.true_or,cond_true,Bool.false_eq_true,false_and,if_false]; rfl
 ·cases h2 : radP w.ls (wkDo w.wk kd a who).1.1 w.pts
  ·rfl
  ·rfl
theorem sm0:Sm .zero:=⟨by decide,by decide,by decide,by decide,by decide,by decide⟩
theorem wdDo_small {w:Wd} (kd a who:Int):Sm (wdDo w kd a who).1:=by
 cases hv : wv w
 ·unfold wdDo; rw [hv,if_neg (by decide)]; exact sm0
 ·exact sm_of (wdDo_ok (wv_iff.1 hv) kd a who)
theorem core_ExactWorldDo (b:Int) (ls:List Ln) (pts:List (Int×Int)) (on earth:List Bool) (pm:Pm) (br:List Int) (kd a who:Int) (hl : ls.length ≤ 1048576) (hp : pts.length ≤ 1048576) (ho : on.length ≤ 1048576) (he : earth.length ≤ 1048576) (hm : pm.length ≤ 1048576) (hb : br.length ≤ 1048576) (_ : inR b) (_ : ∀ z ∈ ls,inR z.1∧inR z.2.1∧inR z.2.2) (_ : ∀ z ∈ pts,inR z.1∧inR z.2) (_ : ∀ z ∈ on,True) (_ : ∀ z ∈ earth,True) (_ : ∀ z ∈ pm,inR z.1∧inR z.2) (_ : ∀ z ∈ br,inR z) (_ : inR kd) (_ : inR a) (_ : inR who) :
  ∃ r,m_spec_WorldDo b ls pts on earth pm br kd a who=some r∧m_impl_WorldDo b ls pts on earth pm br kd a who=some r∧r.2.1.length ≤ 1048576∧r.2.2.1.length ≤ 1048576∧r.2.2.2.1.length ≤ 1048576∧r.2.2.2.2.1.length ≤ 1048576∧r.2.2.2.2.2.1.length ≤ 1048576∧r.2.2.2.2.2.2.1.length ≤ 1048576:=by
 have sm:Sm ⟨b,ls,pts,on,earth,pm,br⟩:=⟨hl,hp,ho,he,hm,hb⟩
 have s2:=wdDo_small (w:=⟨b,ls,pts,on,earth,pm,br⟩) kd a who
 exact ⟨_,sWorldDo sm kd a who,iWorldDo sm kd a who,s2.l,s2.p,s2.o,s2.e,s2.m,s2.b⟩
end Go.Proofs.YtcmnjaccapbhfaaGreat
