/- WorldValid: the models are wv. -/
import Derived.Test.YtcmnjaccapbhfaaGreatQTr
import Derived.Test.YtcmnjaccapbhfaaGreatQWkV
namespace Go.Proofs.YtcmnjaccapbhfaaGreat
set_option linter.unusedVariables false
set_option linter.unusedSimpArgs false
theorem brAt_0 (on:List Bool) (br:List Int) : brAt on br 0=((decide (0 ≤ br.getD 0 0) && decide (br.getD 0 0 < (on.length:Int))) && !on.getD (br.getD 0 0).toNat false):=by
 unfold brAt; simp
theorem brAt_s (on:List Bool) (br:List Int) (j:Nat) : brAt on br (j+1)=((decide (0 ≤ br.getD (j+1) 0) && decide (br.getD (j+1) 0 < (on.length:Int))) && !on.getD (br.getD (j+1) 0).toNat false && !leB (br.getD (j+1) 0) (br.getD j 0)):=by
 unfold brAt
 have : decide (br.getD j 0 < br.getD (j+1) 0)=!leB (br.getD (j+1) 0) (br.getD j 0):=by rw [Bool.eq_iff_iff]; simp [leB]
 simp only [Nat.add_sub_cancel,this]
 have e : decide (j+1=0)=false:=by simp
 rw [e,Bool.false_or]
section
variable (b:Int) (ls:List Ln) (pts:List (Int×Int)) (on earth:List Bool) (pm:Pm) (br:List Int) (hp : pts.length ≤ 1048576) (ho : on.length ≤ 1048576) (hm : pm.length ≤ 1048576) (hb : br.length ≤ 1048576)
include hb
theorem iBr (hl : on.length=ls.length) : m_impl_WorldValid_l1 b ls on br FUEL 0=bif (List.range br.length).any (fun k=>!brAt on br k) then some (.inr false) else some (.inl ()):=by
 have hh:=loop_find (m_impl_WorldValid_l1 b ls on br) (fun k=>(k:Int)) br.length (fun k=>!brAt on br k) (some (.inr false)) (some (.inl ())) (by omega) (fun k fuel hk=>?_) (fun fuel=>?_)
 ·exact hh
 ·rw [m_impl_WorldValid_l1.eq_2]
  simp only [lt_dec hk,ix_dec hk,cond_true,chk_true,Int.toNat_natCast,m_impl_Net_hasLine,Option.bind_some,w64_succ (by omega : k < 4611686018427387904)]
  have e1:(leB 0 (br.getD k 0) && ltB (br.getD k 0) (ls.length:Int))=(decide (0 ≤ br.getD k 0) && decide (br.getD k 0 < (on.length:Int))):=by rw [hl]; rfl
  rw [e1]
  have hx:(decide (0 ≤ br.getD k 0) && decide (br.getD k 0 < (on.length:Int)))=true → ixB (br.getD k 0) on.length=true:=by intro h; simp at h; simp [ixB]; omega
  rcases k with _ | j
  ·rw [brAt_0]
   have : ltB 0 ((0:Nat):Int)=false:=rfl
   simp only [this,Bool.and_false,Bool.not_false,Bool.true_or,chk_true,Bool.or_false]
   cases h1 : decide (0 ≤ br.getD 0 0) && decide (br.getD 0 0 < (on.length:Int))
   ·rfl
   ·rw [hx h1]
    cases on.getD (br.getD 0 0).toNat false <;> rfl
  ·rw [brAt_s]
   have e2 : w64 (((j+1:Nat):Int) - 1)=(j:Int):=by rw [w64_in (by omega) (by omega)]; omega
   have e3 : ltB 0 ((j+1:Nat):Int)=true:=decide_eq_true (by omega)
   simp only [e2,e3,ix_dec (show j < br.length by omega),Bool.or_true,chk_true,Bool.true_and,Int.toNat_natCast]
   cases h1 : decide (0 ≤ br.getD (j+1) 0) && decide (br.getD (j+1) 0 < (on.length:Int))
   ·rfl
   ·rw [hx h1]
    cases on.getD (br.getD (j+1) 0).toNat false <;> cases leB (br.getD (j+1) 0) (br.getD j 0) <;> rfl
 ·rw [m_impl_WorldValid_l1.eq_2]; simp only [nlt_dec,cond_false]
include ho in
theorem sBr : m_spec_WorldValid_l1 on br FUEL 0=bif (List.range br.length).any (fun k=>!brAt on br k) then some (.inr false) else some (.inl ()):=by
 have hh:=loop_find (m_spec_WorldValid_l1 on br) (fun k=>(k:Int)) br.length (fun k=>!brAt on br k) (some (.inr false)) (some (.inl ())) (by omega) (fun k fuel hk=>?_) (fun fuel=>?_)
 ·exact hh
 ·rw [m_spec_WorldValid_l1.eq_2]
  have w1 : w64 ((on.length:Int) - 1)=(on.length:Int) - 1:=w64_in (by omega) (by omega)
  simp only [lt_dec hk,ix_dec hk,cond_true,chk_true,Int.toNat_natCast,m_spec_l1In,Option.bind_some,w64_succ (by omega : k < 4611686018427387904),w1]
  have e1:(leB 0 (br.getD k 0) && leB (br.getD k 0) ((on.length:Int) - 1))=(decide (0 ≤ br.getD k 0) && decide (br.getD k 0 < (on.length:Int))):=by rw [Bool.eq_iff_iff]; simp [leB]; omega
  rw [e1]
  have hx:(decide (0 ≤ br.getD k 0) && decide (br.getD k 0 < (on.length:Int)))=true → ixB (br.getD k 0) on.length=true:=by intro h; simp at h; simp [ixB]; omega
  rcases k with _ | j
  ·rw [brAt_0]
   have : ltB 0 ((0:Nat):Int)=false:=rfl
   simp only [this,Bool.and_false,Bool.not_false,Bool.true_or,chk_true,Bool.or_false,Bool.false_and]
   cases h1 : decide (0 ≤ br.getD 0 0) && decide (br.getD 0 0 < (on.length:Int))
   ·rfl
   ·rw [hx h1]
    cases on.getD (br.getD 0 0).toNat false <;> simp
  ·rw [brAt_s]
   have e2 : w64 (((j+1:Nat):Int) - 1)=(j:Int):=by rw [w64_in (by omega) (by omega)]; omega
   have e3 : ltB 0 ((j+1:Nat):Int)=true:=decide_eq_true (by omega)
   simp only [e2,e3,ix_dec hk,ix_dec (show j < br.length by omega),Bool.or_true,chk_true,Bool.true_and,Int.toNat_natCast]
   cases h1 : decide (0 ≤ br.getD (j+1) 0) && decide (br.getD (j+1) 0 < (on.length:Int))
   ·rfl
   ·rw [hx h1]
    cases on.getD (br.getD (j+1) 0).toNat false <;> cases leB (br.getD (j+1) 0) (br.getD j 0) <;> rfl
 ·rw [m_spec_WorldValid_l1.eq_2]; simp only [nlt_dec,cond_false]
include hp ho hm
theorem iWv : m_impl_WorldValid b ls pts on earth pm br=some (wv ⟨b,ls,pts,on,earth,pm,br⟩):=by
 unfold m_impl_WorldValid wv brV
 rw [iBuses b ls pts hp,iValid on earth pm ho hm]
 have e:((on.length:Int) != (ls.length:Int))=!decide (on.length=ls.length):=by rw [Bool.eq_iff_iff]; simp; omega
 rw [e]
 cases h1 : busesV b ls pts
 ·rfl
 cases h2 : workV on earth pm
 ·rfl
 by_cases h3 : on.length=ls.length
 ·rw [decide_eq_true h3]
  simp only [Option.bind_some,Bool.not_true,Bool.not_false,gb_true,Bool.or_self,cond_false,iBr b ls on br hb h3,iRadial b ls on pts hp]
  have hok : radB b ls on pts=radP ls on pts:=by
   have:=busesV_iff.1 h1
   unfold radB
   rw [okV_iff.2 ⟨⟨this.net,h3⟩,this⟩]; rfl
  rw [hok]
  cases (List.range br.length).any fun k=>!brAt on br k <;> cases radP ls on pts <;> rfl
 ·rw [decide_eq_false h3]; simp
theorem sWv : m_spec_WorldValid b ls pts on earth pm br=some (wv ⟨b,ls,pts,on,earth,pm,br⟩):=by
 unfold m_spec_WorldValid wv brV
 rw [sBuses b ls pts hp,sValid on earth pm ho hm]
 have e:((on.length:Int) != (ls.length:Int))=!decide (on.length=ls.length):=by rw [Bool.eq_iff_iff]; simp; omega
 rw [e]
 cases h1 : busesV b ls pts
 ·rfl
 cases h2 : workV on earth pm
 ·rfl
 by_cases h3 : on.length=ls.length
 ·rw [decide_eq_true h3]
  simp only [Option.bind_some,Bool.not_true,Bool.not_false,gb_true,Bool.or_self,cond_false,sBr on br ho hb,sRadial b ls on pts hp]
  have hok : radB b ls on pts=radP ls on pts:=by
   have:=busesV_iff.1 h1
   unfold radB
   rw [okV_iff.2 ⟨⟨this.net,h3⟩,this⟩]; rfl
  rw [hok]
  cases (List.range br.length).any fun k=>!brAt on br k <;> cases radP ls on pts <;> rfl
 ·rw [decide_eq_false h3]; simp
end
end Go.Proofs.YtcmnjaccapbhfaaGreat
