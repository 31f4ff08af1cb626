/- WorkValid: the models are workV. (Taken out of WorkM.) -/
import Derived.Test.YtcmnjaccapbhfaaGreatQDaM
import Derived.Test.YtcmnjaccapbhfaaGreatQWkA
namespace Go.Proofs.YtcmnjaccapbhfaaGreat
set_option linter.unusedVariables false
set_option linter.unusedSimpArgs false
section
variable (l:Pm) (a b:Int) (hn : l.length ≤ 1099511627776)
include hn
theorem sFind : m_spec_l12Find l a b=some (fnd l (a,b)):=by
 unfold m_spec_l12Find fnd
 have h:=loop_first (m_spec_l12Find_l1 l a b) (fun k=>(k:Int)) l.length (fun k=>(l.getD k (0,0)).1 == a && (l.getD k (0,0)).2 == b) (fun k=>some (.inr (k:Int))) (some (.inl ())) hn (fun k fuel hk=>by
  rw [m_spec_l12Find_l1.eq_2]
  simp only [lt_dec hk,ix_dec hk,chk_true,cond_true,Int.toNat_natCast,w64_succ (by omega : k < 4611686018427387904)]) (fun fuel=>by rw [m_spec_l12Find_l1.eq_2]; simp only [nlt_dec,cond_false])
 rw [show m_spec_l12Find_l1 l a b FUEL 0=_ from h]
 cases (List.range l.length).find? (fun k=>(l.getD k (0,0)).1 == a && (l.getD k (0,0)).2 == b) <;> rfl
theorem iFind : m_slices_Index_impl_Permit_impl_Permit l a b=some (fnd l (a,b)):=by
 unfold m_slices_Index_impl_Permit_impl_Permit fnd
 have h:=loop_first (m_slices_Index_impl_Permit_impl_Permit_l1 l a b) (fun k=>(k:Int)) l.length (fun k=>(l.getD k (0,0)).1 == a && (l.getD k (0,0)).2 == b) (fun k=>some (.inr (k:Int))) (some (.inl ())) hn (fun k fuel hk=>by
  rw [m_slices_Index_impl_Permit_impl_Permit_l1.eq_2]
  simp only [lt_dec hk,ix_dec hk,chk_true,cond_true,Int.toNat_natCast,w64_succ (by omega : k < 4611686018427387904)]
  rw [show (a == (l.getD k (0,0)).1)=((l.getD k (0,0)).1 == a) from Bool.beq_comm ..,show (b == (l.getD k (0,0)).2)=((l.getD k (0,0)).2 == b) from Bool.beq_comm ..]) (fun fuel=>by rw [m_slices_Index_impl_Permit_impl_Permit_l1.eq_2]; simp only [nlt_dec,cond_false])
 rw [show m_slices_Index_impl_Permit_impl_Permit_l1 l a b FUEL 0=_ from h]
 cases (List.range l.length).find? (fun k=>(l.getD k (0,0)).1 == a && (l.getD k (0,0)).2 == b) <;> rfl
theorem iHas : m_slices_Contains_impl_Permit_impl_Permit l a b=some (decide ((a,b) ∈ l)):=by
 unfold m_slices_Contains_impl_Permit_impl_Permit
 rw [iFind l a b hn,Option.bind_some,fnd_mem]
end
section
variable (on earth:List Bool) (pm:Pm) (ho : on.length ≤ 1048576) (hp : pm.length ≤ 1048576) (hl : earth.length=on.length)
include ho hl
theorem sV1 : m_spec_WorkValid_l1 on earth FUEL 0=bif (List.range on.length).any (fun k=>on.getD k false && earth.getD k false) then some (.inr false) else some (.inl ()):=by
 have h:=loop_find (m_spec_WorkValid_l1 on earth) (fun k=>(k:Int)) on.length (fun k=>on.getD k false && earth.getD k false) (some (.inr false)) (some (.inl ())) (by omega) (fun k fuel hk=>?_) (fun fuel=>?_)
 ·exact h
 ·rw [m_spec_WorkValid_l1.eq_2]
  simp only [lt_dec hk,ix_dec hk,ix_dec (show k < earth.length by omega),chk_true,cond_true,Int.toNat_natCast,Bool.or_true,w64_succ (by omega : k < 4611686018427387904)]
 ·rw [m_spec_WorkValid_l1.eq_2]; simp only [nlt_dec,cond_false]
theorem iV1 : m_impl_WorkValid_l1 on earth FUEL 0=bif (List.range on.length).any (fun k=>on.getD k false && earth.getD k false) then some (.inr false) else some (.inl ()):=by
 have h:=loop_find (m_impl_WorkValid_l1 on earth) (fun k=>(k:Int)) on.length (fun k=>on.getD k false && earth.getD k false) (some (.inr false)) (some (.inl ())) (by omega) (fun k fuel hk=>?_) (fun fuel=>?_)
 ·exact h
 ·rw [m_impl_WorkValid_l1.eq_2]
  simp only [lt_dec hk,ix_dec hk,ix_dec (show k < earth.length by omega),chk_true,cond_true,Int.toNat_natCast,Bool.or_true,w64_succ (by omega : k < 4611686018427387904)]
 ·rw [m_impl_WorkValid_l1.eq_2]; simp only [nlt_dec,cond_false]
include hp
theorem sV2 : m_spec_WorkValid_l2 on earth pm FUEL 0=bif (List.range pm.length).any (fun k=>!pmOk on earth pm k) then some (.inr false) else some (.inl ()):=by
 have h:=loop_find (m_spec_WorkValid_l2 on earth pm) (fun k=>(k:Int)) pm.length (fun k=>!pmOk on earth pm k) (some (.inr false)) (some (.inl ())) (by omega) (fun k fuel hk=>?_) (fun fuel=>?_)
 ·exact h
 ·rw [m_spec_WorkValid_l2.eq_2]
  simp only [lt_dec hk,ix_dec hk,chk_true,cond_true,Int.toNat_natCast,w64_succ (by omega : k < 4611686018427387904),sFind pm _ _ (by omega),m_spec_l1In]
  have w1 : w64 ((on.length:Int) - 1)=(on.length:Int) - 1:=w64_in (by omega) (by omega)
  have hft:=fnd_take hk
  rw [w1]
  unfold pmOk
  rw [inB_le]
  generalize pm.getD k (0,0)=p at *
  cases h1:(leB 0 p.1 && leB p.1 9)
  ·simp [gb]
  have e2:(leB 0 p.2 && leB p.2 ((on.length:Int) - 1))=(decide (0 ≤ p.2) && decide (p.2 < (on.length:Int))):=by rw [Bool.eq_iff_iff]; simp [leB]; omega
  rw [e2]
  cases h2:(decide (0 ≤ p.2) && decide (p.2 < (on.length:Int)))
  ·simp [gb]
  have hx : ixB p.2 earth.length=true:=by simp at h2; simp [ixB]; omega
  simp only [gb,Option.bind_some,Bool.not_true,Bool.not_false,cond_true,Bool.or_self,hx,Bool.or_true,chk_true,Bool.false_or,Bool.true_and]
  cases earth.getD p.2.toNat false
  ·simp
  ·simp [hft]
 ·rw [m_spec_WorkValid_l2.eq_2]; simp only [nlt_dec,cond_false]
omit ho in
theorem iV2 : m_impl_WorkValid_l2 on earth pm FUEL 0=bif (List.range pm.length).any (fun k=>!pmOk on earth pm k) then some (.inr false) else some (.inl ()):=by
 have h:=loop_find (m_impl_WorkValid_l2 on earth pm) (fun k=>(k:Int)) pm.length (fun k=>!pmOk on earth pm k) (some (.inr false)) (some (.inl ())) (by omega) (fun k fuel hk=>?_) (fun fuel=>?_)
 ·exact h
 ·rw [m_impl_WorkValid_l2.eq_2]
  have hs : slB 0 (k:Int) pm.length=true:=decide_eq_true (by omega)
  have ht : subL pm 0 (k:Int)=pm.take k:=by simp [subL]
  simp only [lt_dec hk,ix_dec hk,chk_true,cond_true,Int.toNat_natCast,w64_succ (by omega : k < 4611686018427387904),hs,ht,Bool.or_true,iHas (pm.take k) _ _ (by simp; omega)]
  unfold pmOk
  rw [inB_le]
  generalize pm.getD k (0,0)=p
  rw [show ((p.1,p.2):Int×Int)=p from rfl]
  cases h1:(leB 0 p.1 && leB p.1 9)
  ·have:(ltB p.1 0 || ltB 9 p.1)=true:=by simp [leB] at h1; simp [ltB]; omega
   simp [gb,this]
  have e1:(ltB p.1 0 || ltB 9 p.1)=false:=by simp [leB] at h1; simp [ltB]; omega
  rw [e1]
  cases h2:(decide (0 ≤ p.2) && decide (p.2 < (on.length:Int)))
  ·have:(ltB p.2 0 || leB (on.length:Int) p.2)=true:=by simp at h2; simp [ltB,leB]; omega
   simp only [Bool.false_or,this,Bool.not_true,Bool.true_or,Bool.not_false,chk_true,gb,cond_false,Option.bind_some,cond_true,Bool.and_false,Bool.false_and]
  have e2:(ltB p.2 0 || leB (on.length:Int) p.2)=false:=by simp at h2; simp [ltB,leB]; omega
  have hx : ixB p.2 earth.length=true:=by simp at h2; simp [ixB]; omega
  simp only [Bool.false_or,e2,gb,Option.bind_some,Bool.not_true,Bool.not_false,cond_true,Bool.or_self,hx,Bool.or_true,chk_true,Bool.true_and]
  cases earth.getD p.2.toNat false <;> simp
 ·rw [m_impl_WorkValid_l2.eq_2]; simp only [nlt_dec,cond_false]
end
section
variable (on earth:List Bool) (pm:Pm) (ho : on.length ≤ 1048576) (hp : pm.length ≤ 1048576)
include ho hp
theorem sValid : m_spec_WorkValid on earth pm=some (workV on earth pm):=by
 unfold m_spec_WorkValid m_spec_l1In workV
 rw [inB_le,lt6,bne_len]
 cases h1:(leB 1 (on.length:Int) && leB (on.length:Int) 10)
 ·simp
 by_cases h2 : earth.length=on.length
 ·rw [show (earth.length == on.length)=true by simpa using h2,show (on.length == earth.length)=true by simpa using h2.symm]
  cases h3 : decide (pm.length ≤ 6)
  ·simp
  simp only [Option.bind_some,Bool.not_true,Bool.or_self,cond_false,sV1 on earth ho h2,sV2 on earth pm ho hp h2,Bool.true_and]
  cases (List.range on.length).any fun k=>on.getD k false && earth.getD k false
  ·cases (List.range pm.length).any fun k=>!pmOk on earth pm k <;> rfl
  ·rfl
 ·rw [show (earth.length == on.length)=false by simpa using h2,show (on.length == earth.length)=false by simpa using fun e=>h2 e.symm]
  simp
theorem iValid : m_impl_WorkValid on earth pm=some (workV on earth pm):=by
 unfold m_impl_WorkValid workV
 rw [inB10,lt6,bne_len]
 cases h1 : ltB (on.length:Int) 1
 ·cases h4 : ltB 10 (on.length:Int)
  ·by_cases h2 : earth.length=on.length
   ·rw [show (earth.length == on.length)=true by simpa using h2]
    cases h3 : decide (pm.length ≤ 6)
    ·simp
    simp only [Option.bind_some,Bool.not_true,Bool.not_false,Bool.or_self,cond_false,iV1 on earth ho h2,iV2 on earth pm hp h2,Bool.true_and]
    cases (List.range on.length).any fun k=>on.getD k false && earth.getD k false
    ·cases (List.range pm.length).any fun k=>!pmOk on earth pm k <;> rfl
    ·rfl
   ·rw [show (earth.length == on.length)=false by simpa using h2]
    simp
  ·simp
 ·simp
end
end Go.Proofs.YtcmnjaccapbhfaaGreat
