/- The laws, from what the models give. -/
import Derived.Test.YtcmnjaccapbhfaaGreatQDaH
namespace Go.Proofs.YtcmnjaccapbhfaaGreat
set_option linter.unusedVariables false
set_option linter.unusedSimpArgs false
set_option maxHeartbeats 4000000
theorem exactWorldDo_of (x0:Int) (x1:List (Int×Int×Int)) (x2:List (Int×Int)) (x3:List Bool) (x4:List Bool) (x5:List (Int×Int)) (x6:List Int) (x7:Int) (x8:Int) (x9:Int) (hx1 : x1.length ≤ 9223372036854775807) (hx2 : x2.length ≤ 9223372036854775807) (hx3 : x3.length ≤ 9223372036854775807) (hx4 : x4.length ≤ 9223372036854775807) (hx5 : x5.length ≤ 9223372036854775807) (hx6 : x6.length ≤ 9223372036854775807) (hcore : x1.length ≤ 1048576 → x2.length ≤ 1048576 → x3.length ≤ 1048576 → x4.length ≤ 1048576 → x5.length ≤ 1048576 → x6.length ≤ 1048576 → ∃ r,m_spec_WorldDo x0 x1 x2 x3 x4 x5 x6 x7 x8 x9=some r∧m_impl_WorldDo x0 x1 x2 x3 x4 x5 x6 x7 x8 x9=some r∧r.2.1.length ≤ 1048576∧r.2.2.1.length ≤ 1048576∧r.2.2.2.1.length ≤ 1048576∧r.2.2.2.2.1.length ≤ 1048576∧r.2.2.2.2.2.1.length ≤ 1048576∧r.2.2.2.2.2.2.1.length ≤ 1048576) : m_laws_FnExactWorldDo x0 x1 x2 x3 x4 x5 x6 x7 x8 x9=some true:=by
 unfold m_laws_FnExactWorldDo
 rw [sz_World x0 x1 x2 x3 x4 x5 x6 1048576 hx1 hx2 hx3 hx4 hx5 hx6 (by omega)]
 by_cases s0 : 1048576 < (x1.length:Int)+(x2.length:Int)+(x3.length:Int)+(x4.length:Int)+(x5.length:Int)+(x6.length:Int)
 ·simp [s0,ltB]
 rw [if_neg s0,Option.bind_some,ltB0 (by omega),cond_false]
 obtain ⟨r,hs,hi,b1,b2,b3,b4,b5,b6⟩:=hcore (by omega) (by omega) (by omega) (by omega) (by omega) (by omega)
 simp (disch:=omega) only [Option.bind_some,cond_false,cond_true,hs,hi,bne_self_eq_false,Bool.not_true,Bool.not_false,Bool.or_false,Bool.false_or,Bool.or_self,gb,ltB0,to_Line,to_LineS,to_Net,to_Bus,to_BusS,to_BoolS,to_Permit,to_PermitS,to_Work,to_IntS,to_World,to_WorkDeed,eq_Line,eq_LineS,eq_Net,eq_Bus,eq_BusS,eq_BoolS,eq_Permit,eq_PermitS,eq_Work,eq_IntS,eq_World,mark_LineS,m_laws_markNet,mark_BusS,mark_BoolS,mark_PermitS,m_laws_markWork,mark_IntS,m_laws_markWorld,held_LineS,m_laws_heldNet,held_BusS,held_BoolS,held_PermitS,m_laws_heldWork,held_IntS,m_laws_heldWorld,to_WorkDeedS,eq_WorkDeed,eq_WorkDeedS,mark_WorkDeedS]
end Go.Proofs.YtcmnjaccapbhfaaGreat
