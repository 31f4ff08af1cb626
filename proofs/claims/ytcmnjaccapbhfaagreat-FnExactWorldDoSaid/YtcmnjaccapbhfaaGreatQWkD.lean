/- WorkHeld, WorkDo: the models are heldOf, wkDo. (Taken out of WorkM.) -/
import Derived.Test.YtcmnjaccapbhfaaGreatQWkV
namespace Go.Proofs.YtcmnjaccapbhfaaGreat
set_option linter.unusedVariables false
set_option linter.unusedSimpArgs false
section
variable (on earth:List Bool) (pm:Pm) (line:Int) (ho : on.length ≤ 1048576) (hp : pm.length ≤ 1048576)
include ho hp
theorem sHeld : m_spec_WorkHeld on earth pm line=some (if workV on earth pm then heldOf pm line else []):=by
 unfold m_spec_WorkHeld
 cases hv : workV on earth pm
 ·rw [show FUEL=4611686018427387903+1 from rfl,m_spec_WorkHeld_l1.eq_2]
  simp only [sValid on earth pm ho hp,hv]
  cases ltB (0:Int) (pm.length:Int) <;> simp [gb]
 ·have h:=loop_all (m_spec_WorkHeld_l1 on earth pm line) (fun k=>(heldOf (pm.take k) line,(k:Int))) pm.length (some (heldOf pm line)) (by omega) (fun k fuel hk=>?_) (fun fuel=>?_)
  ·rw [show (([]:List Int),(0:Int))=(heldOf (pm.take 0) line,((0:Nat):Int)) from rfl,h]; rfl
  ·rw [m_spec_WorkHeld_l1.eq_2]
   have hb:=held_len (pm.take k) line
   have ha : ∀ x:Int,apB (heldOf (pm.take k) line).length [x].length=true:=fun x=>by simp [apB]; simp at hb; omega
   simp only [lt_dec hk,ix_dec hk,chk_true,cond_true,Int.toNat_natCast,sValid on earth pm ho hp,hv,gb,Option.bind_some,Bool.and_self,ha,w64_succ (by omega : k < 4611686018427387904)]
   rw [held_step hk]
   cases (pm.getD k (0,0)).2 == line <;> rfl
  ·rw [m_spec_WorkHeld_l1.eq_2]; simp [nlt_dec,gb]
theorem iHeld : m_impl_WorkHeld on earth pm line=some (if workV on earth pm then heldOf pm line else []):=by
 unfold m_impl_WorkHeld
 rw [iValid on earth pm ho hp]
 cases hv : workV on earth pm
 ·rfl
 ·have h:=loop_all (m_impl_WorkHeld_l1 pm line) (fun k=>(heldOf (pm.take k) line,(k:Int))) pm.length (some (heldOf pm line)) (by omega) (fun k fuel hk=>?_) (fun fuel=>?_)
  ·simp only [Option.bind_some,cond_true]
   rw [show (([]:List Int),(0:Int))=(heldOf (pm.take 0) line,((0:Nat):Int)) from rfl,h]; rfl
  ·rw [m_impl_WorkHeld_l1.eq_2]
   have hb:=held_len (pm.take k) line
   have ha : ∀ x:Int,apB (heldOf (pm.take k) line).length [x].length=true:=fun x=>by simp [apB]; simp at hb; omega
   simp only [lt_dec hk,ix_dec hk,chk_true,cond_true,Int.toNat_natCast,ha,w64_succ (by omega : k < 4611686018427387904)]
   rw [held_step hk]
   cases (pm.getD k (0,0)).2 == line <;> rfl
  ·rw [m_impl_WorkHeld_l1.eq_2]; simp [nlt_dec]
end
section
variable (w:Wk) (kd a who:Int) (ho : w.1.length ≤ 1048576) (he : w.2.1.length ≤ 1048576) (hp : w.2.2.length ≤ 1048576)
include ho hp he
omit he in
theorem iMayP (hv : workV w.1 w.2.1 w.2.2=true) (ha : 0 ≤ a∧a < (w.1.length:Int)) : m_impl_Work_may w.1 w.2.1 w.2.2 kd a who=some (wkMay w kd a who):=by
 have ok:=workV_iff.1 hv
 have c1 : ixB a w.1.length=true:=decide_eq_true (by omega)
 have c2 : ixB a w.2.1.length=true:=decide_eq_true (by have:=ok.le; omega)
 unfold m_impl_Work_may wkMay
 rw [c1,c2,iHas _ _ _ (by omega),iHeld _ _ _ _ ho hp,hv]
 simp only [chk_true,Option.bind_some,if_true,nil_dec]
 by_cases k0 : kd=0
 ·subst k0; simp
 by_cases k1 : kd=1
 ·subst k1; simp
 by_cases k2 : kd=2
 ·subst k2; simp
 by_cases k3 : kd=3
 ·subst k3; cases w.2.1.getD a.toNat false <;> simp
 by_cases k4 : kd=4
 ·subst k4
  simp only [show ((4:Int) == 0)=false from rfl,show ((4:Int) == 2)=false from rfl,show ((4:Int) == 1)=false from rfl,show ((4:Int) == 3)=false from rfl,show ((4:Int) == 4)=true from rfl,cond_false,cond_true,Option.bind_some]
  rw [if_neg (by omega),if_neg (by omega),if_neg (by omega),if_pos trivial,inB_le]
  have c6 : ltB (w.2.2.length:Int) 6=decide (w.2.2.length < 6):=by simp only [ltB]; exact decide_eq_decide.2 (by omega)
  rw [c6]
  cases w.2.1.getD a.toNat false <;> cases decide ((who,a) ∈ w.2.2) <;> simp
 by_cases k5 : kd=5
 ·subst k5; simp
 ·have e0:(kd == 0)=false:=by simpa using k0
  have e1:(kd == 1)=false:=by simpa using k1
  have e2:(kd == 2)=false:=by simpa using k2
  have e3:(kd == 3)=false:=by simpa using k3
  have e4:(kd == 4)=false:=by simpa using k4
  have e5:(kd == 5)=false:=by simpa using k5
  simp [k0,k1,k2,k3,k4,k5,e0,e1,e2,e3,e4,e5]
omit he in
theorem sMayP (hv : workV w.1 w.2.1 w.2.2=true) (ha : 0 ≤ a∧a < (w.1.length:Int)) : m_spec_l12May w.1 w.2.1 w.2.2 kd a who=some (wkMay w kd a who):=by
 have ok:=workV_iff.1 hv
 have c1 : ixB a w.1.length=true:=decide_eq_true (by omega)
 have c2 : ixB a w.2.1.length=true:=decide_eq_true (by have:=ok.le; omega)
 have c3 : ltB (fnd w.2.2 (who,a)) 0=!decide ((who,a) ∈ w.2.2):=by rw [← fnd_mem]; rw [Bool.eq_iff_iff]; simp [ltB,leB]
 unfold m_spec_l12May wkMay m_spec_l1In
 rw [c1,c2,sFind _ _ _ (by omega),sHeld _ _ _ _ ho hp,hv]
 simp only [chk_true,Option.bind_some,if_true,nil_dec,Bool.or_true,c3,fnd_mem]
 by_cases k0 : kd=0
 ·subst k0; simp
 by_cases k1 : kd=1
 ·subst k1; simp
 by_cases k2 : kd=2
 ·subst k2; simp
 by_cases k3 : kd=3
 ·subst k3; cases w.2.1.getD a.toNat false <;> simp
 by_cases k4 : kd=4
 ·subst k4
  simp only [show ((4:Int) == 0)=false from rfl,show ((4:Int) == 2)=false from rfl,show ((4:Int) == 1)=false from rfl,show ((4:Int) == 3)=false from rfl,show ((4:Int) == 4)=true from rfl,cond_false,cond_true,Option.bind_some]
  rw [if_neg (by omega),if_neg (by omega),if_neg (by omega),if_pos trivial,inB_le]
  have c6 : ltB (w.2.2.length:Int) 6=decide (w.2.2.length < 6):=by simp only [ltB]; exact decide_eq_decide.2 (by omega)
  rw [c6]
  cases w.2.1.getD a.toNat false <;> simp [gb,Bool.and_assoc]
 by_cases k5 : kd=5
 ·subst k5; simp
 ·have e0:(kd == 0)=false:=by simpa using k0
  have e1:(kd == 1)=false:=by simpa using k1
  have e2:(kd == 2)=false:=by simpa using k2
  have e3:(kd == 3)=false:=by simpa using k3
  have e4:(kd == 4)=false:=by simpa using k4
  have e5:(kd == 5)=false:=by simpa using k5
  simp [k0,k1,k2,k3,k4,k5,e0,e1,e2,e3,e4,e5]
theorem wcloneP : m_impl_Work_clone w.1 w.2.1 w.2.2=some w:=by
 have a1 : apB ([]:List Bool).length w.1.length=true:=by simp [apB]; omega
 have a2 : apB ([]:List Bool).length w.2.1.length=true:=by simp [apB]; omega
 have a3 : apB ([]:Pm).length w.2.2.length=true:=by simp [apB]; omega
 simp only [m_impl_Work_clone,m_slices_Clone_bool_bool,m_slices_Clone_impl_Permit_impl_Permit,a1,a2,a3,chk_true,Option.bind_some]
theorem wcopyP : m_spec_l12Copy w.1 w.2.1 w.2.2=some w:=by
 have a1 : apB ([]:List Bool).length w.1.length=true:=by simp [apB]; omega
 have a2 : apB ([]:List Bool).length w.2.1.length=true:=by simp [apB]; omega
 have a3 : apB ([]:Pm).length w.2.2.length=true:=by simp [apB]; omega
 simp only [m_spec_l12Copy,m_spec_l2Copy,a1,a2,a3,chk_true,Option.bind_some,List.nil_append]
theorem iDo : m_impl_WorkDo w.1 w.2.1 w.2.2 kd a who=some (out4w (wkDo w kd a who)):=by
 unfold m_impl_WorkDo wkDo
 rw [iValid _ _ _ ho hp]
 cases hv : workV w.1 w.2.1 w.2.2
 ·rfl
 have ok:=workV_iff.1 hv
 simp only [Option.bind_some,cond_true,if_true,wcloneP w ho he hp]
 by_cases ha : 0 ≤ a∧a < (w.1.length:Int)
 ·have c0:(ltB a 0 || leB (w.1.length:Int) a)=false:=by simp [ltB,leB]; omega
  have c1 : ixB a w.1.length=true:=decide_eq_true (by omega)
  have c2 : ixB a w.2.1.length=true:=decide_eq_true (by have:=ok.le; omega)
  simp only [c0,Bool.not_false,gb,cond_true,iMayP w kd a who ho hp hv ha,Option.bind_some,Bool.false_or]
  cases hm : wkMay w kd a who
  ·rw [if_neg (fun h=>by cases h.2.2)]; rfl
  rw [if_pos ⟨ha.1,ha.2,rfl⟩]
  simp only [Bool.not_true,cond_false]
  by_cases k0 : kd=0
  ·subst k0; simp [c1,wkPut,out4w]
  by_cases k1 : kd=1
  ·subst k1; simp [c1,wkPut,out4w]
  by_cases k2 : kd=2
  ·subst k2; simp [c2,wkPut,out4w]
  by_cases k3 : kd=3
  ·subst k3; simp [c2,wkPut,out4w]
  by_cases k4 : kd=4
  ·subst k4
   have a4 : apB w.2.2.length 1=true:=by simp [apB]; omega
   simp [wkPut,out4w,a4]
  by_cases k5 : kd=5
  ·subst k5
   have hmem:(who,a) ∈ w.2.2:=by simpa [wkMay] using hm
   rcases fnd_spec w.2.2 (who,a) with ⟨h1,h2⟩ | ⟨k,hk,h1,h2,h3⟩
   ·exact absurd hmem h2
   have wk : w64 ((k:Int)+1)=(k:Int)+1:=w64_in (by omega) (by omega)
   have b1 : slB (k:Int) ((k:Int)+1) w.2.2.length=true:=decide_eq_true (by omega)
   have b2 : slB 0 (k:Int) w.2.2.length=true:=decide_eq_true (by omega)
   have b3 : slB ((k:Int)+1) (w.2.2.length:Int) w.2.2.length=true:=decide_eq_true (by omega)
   have b4:((k:Int) == (k:Int)+1)=false:=by simp; omega
   have s1 : subL w.2.2 0 (k:Int)=w.2.2.take k:=by simp [subL]
   have s2 : subL w.2.2 ((k:Int)+1) (w.2.2.length:Int)=w.2.2.drop (k+1):=by
    unfold subL; rw [show ((k:Int)+1).toNat=k+1 by omega,List.take_of_length_le (by simp <;> omega)]
   have b5 : apB (w.2.2.take k).length (w.2.2.drop (k+1)).length=true:=by simp [apB]; omega
   simp only [show ((5:Int) == 0)=false from rfl,show ((5:Int) == 1)=false from rfl,show ((5:Int) == 2)=false from rfl,show ((5:Int) == 3)=false from rfl,show ((5:Int) == 4)=false from rfl,show ((5:Int) == 5)=true from rfl,cond_false,cond_true,Option.bind_some,iFind w.2.2 who a (by omega),h1,m_slices_Delete_impl_Permit_impl_Permit,wk,b1,b2,b3,b4,s1,s2,b5,chk_true]
   simp [wkPut,out4w,h1]
  ·exfalso
   simp [wkMay,k0,k1,k2,k3,k4,k5] at hm
 ·have c0:(ltB a 0 || leB (w.1.length:Int) a)=true:=by simp [ltB,leB]; omega
  rw [if_neg (fun h=>ha ⟨h.1,h.2.1⟩)]
  simp [c0,gb,out4w]
theorem sDo : m_spec_WorkDo w.1 w.2.1 w.2.2 kd a who=some (out4w (wkDo w kd a who)):=by
 unfold m_spec_WorkDo wkDo m_spec_l1In
 rw [sValid _ _ _ ho hp]
 cases hv : workV w.1 w.2.1 w.2.2
 ·rfl
 have ok:=workV_iff.1 hv
 have w1 : w64 ((w.1.length:Int) - 1)=(w.1.length:Int) - 1:=w64_in (by omega) (by omega)
 simp only [Option.bind_some,cond_true,if_true,wcopyP w ho he hp,w1]
 by_cases ha : 0 ≤ a∧a < (w.1.length:Int)
 ·have c0:(leB 0 a && leB a ((w.1.length:Int) - 1))=true:=by simp [leB]; omega
  have c1 : ixB a w.1.length=true:=decide_eq_true (by omega)
  have c2 : ixB a w.2.1.length=true:=decide_eq_true (by have:=ok.le; omega)
  simp only [c0,Bool.not_true,Bool.not_false,gb,cond_true,sMayP w kd a who ho hp hv ha,Option.bind_some,Bool.false_or]
  cases hm : wkMay w kd a who
  ·rw [if_neg (fun h=>by cases h.2.2)]; rfl
  rw [if_pos ⟨ha.1,ha.2,rfl⟩]
  simp only [Bool.not_true,cond_false]
  by_cases k0 : kd=0
  ·subst k0; simp [c1,wkPut,out4w]
  by_cases k1 : kd=1
  ·subst k1; simp [c1,wkPut,out4w]
  by_cases k2 : kd=2
  ·subst k2; simp [c2,wkPut,out4w]
  by_cases k3 : kd=3
  ·subst k3; simp [c2,wkPut,out4w]
  by_cases k4 : kd=4
  ·subst k4
   have a4 : apB w.2.2.length 1=true:=by simp [apB]; omega
   simp [wkPut,out4w,a4]
  by_cases k5 : kd=5
  ·subst k5
   have hmem:(who,a) ∈ w.2.2:=by simpa [wkMay] using hm
   rcases fnd_spec w.2.2 (who,a) with ⟨h1,h2⟩ | ⟨k,hk,h1,h2,h3⟩
   ·exact absurd hmem h2
   have wk : w64 ((k:Int)+1)=(k:Int)+1:=w64_in (by omega) (by omega)
   have b2 : slB 0 (k:Int) w.2.2.length=true:=decide_eq_true (by omega)
   have b3 : slB ((k:Int)+1) (w.2.2.length:Int) w.2.2.length=true:=decide_eq_true (by omega)
   have s1 : subL w.2.2 0 (k:Int)=w.2.2.take k:=by simp [subL]
   have s2 : subL w.2.2 ((k:Int)+1) (w.2.2.length:Int)=w.2.2.drop (k+1):=by
    unfold subL; rw [show ((k:Int)+1).toNat=k+1 by omega,List.take_of_length_le (by simp <;> omega)]
   have b5 : apB (w.2.2.take k).length (w.2.2.drop (k+1)).length=true:=by simp [apB]; omega
   simp only [show ((5:Int) == 0)=false from rfl,show ((5:Int) == 1)=false from rfl,show ((5:Int) == 2)=false from rfl,show ((5:Int) == 3)=false from rfl,show ((5:Int) == 4)=false from rfl,cond_false,cond_true,Option.bind_some,sFind w.2.2 who a (by omega),h1,wk,b2,b3,s1,s2,b5,chk_true]
   simp [wkPut,out4w,h1]
  ·exfalso
   simp [wkMay,k0,k1,k2,k3,k4,k5] at hm
 ·have c0:(leB 0 a && leB a ((w.1.length:Int) - 1))=false:=by simp [leB]; omega
  rw [if_neg (fun h=>ha ⟨h.1,h.2.1⟩)]
  simp [c0,gb,out4w]
end
end Go.Proofs.YtcmnjaccapbhfaaGreat
