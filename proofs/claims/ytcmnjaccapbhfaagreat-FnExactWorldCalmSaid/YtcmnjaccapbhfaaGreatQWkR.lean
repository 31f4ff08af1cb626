/- The lists of deeds of the program: the models are retsOf, forOf. (Taken out of WorkD.) -/
import Derived.Test.YtcmnjaccapbhfaaGreatQDaM
import Derived.Test.YtcmnjaccapbhfaaGreatQWkP
namespace Go.Proofs.YtcmnjaccapbhfaaGreat
set_option linter.unusedVariables false
set_option linter.unusedSimpArgs false
section
variable (w:Wk) (ho : w.1.length ≤ 1000) (he : w.2.1.length ≤ 1000) (hp : w.2.2.length ≤ 1000)
include ho he hp
omit ho he in
theorem iRets : m_impl_Work_returns w.1 w.2.1 w.2.2=some (retsOf w.2.2):=by
 unfold m_impl_Work_returns
 have h:=loop_all (m_impl_Work_returns_l1 w.2.2) (fun k=>(retsOf (w.2.2.take k),(k:Int))) w.2.2.length (some (retsOf w.2.2)) (by omega) (fun k fuel hk=>?_) (fun fuel=>?_)
 ·rw [show (([]:List (Int×Int×Int)),(0:Int))=(retsOf (w.2.2.take 0),((0:Nat):Int)) from rfl,h]; rfl
 ·rw [m_impl_Work_returns_l1.eq_2]
  have ha : apB (retsOf (w.2.2.take k)).length 1=true:=by simp [apB,retsOf]; omega
  simp only [lt_dec hk,ix_dec hk,chk_true,cond_true,Int.toNat_natCast,List.length_singleton,ha,w64_succ (by omega : k < 4611686018427387904)]
  rw [rets_take hk]
 ·rw [m_impl_Work_returns_l1.eq_2]; simp [nlt_dec]
omit he hp ho in
theorem iFor (kd:Int) (l:List Bool) (b:Bool) (hl : l.length ≤ 1000) : m_impl_deedsFor kd l b=some (forOf kd l b l.length):=by
 unfold m_impl_deedsFor
 have h:=loop_all (m_impl_deedsFor_l1 kd l b) (fun k=>(forOf kd l b k,(k:Int))) l.length (some (forOf kd l b l.length)) (by omega) (fun k fuel hk=>?_) (fun fuel=>?_)
 ·rw [show (([]:List (Int×Int×Int)),(0:Int))=(forOf kd l b 0,((0:Nat):Int)) from rfl,h]; rfl
 ·rw [m_impl_deedsFor_l1.eq_2]
  have hb:=for_len kd l b k
  have ha : apB (forOf kd l b k).length 1=true:=by simp [apB]; omega
  simp only [lt_dec hk,ix_dec hk,chk_true,cond_true,Int.toNat_natCast,List.length_singleton,ha,w64_succ (by omega : k < 4611686018427387904)]
  simp only [forOf]
  cases (l.getD k false == b) <;> rfl
 ·rw [m_impl_deedsFor_l1.eq_2]; simp only [nlt_dec,cond_false]
end
end Go.Proofs.YtcmnjaccapbhfaaGreat
