/- slices.BinarySearch at numbers on a sorted list: where a number stands or belongs. -/
import Derived.Test.YtcmnjaccapbhfaaGreatQDaM
import Derived.Test.YtcmnjaccapbhfaaGreatQPu
import Derived.Test.YtcmnjaccapbhfaaGreatQWl
namespace Go.Proofs.YtcmnjaccapbhfaaGreat
set_option linter.unusedVariables false
set_option linter.unusedSimpArgs false
theorem cmp_less (a b:Int) : m_cmp_Less_int a b=some (ltB a b):=by
 simp [m_cmp_Less_int,m_cmp_isNaN_int,gb]
theorem mid_val {a b:Nat} (h : a+b < 4611686018427387904) : w64 (bitsShr .u64 (wk .u64 (w64 ((a:Int)+(b:Int)))) 1)=(((a+b) / 2:Nat):Int):=by
 have e1 : w64 ((a:Int)+(b:Int))=((a+b:Nat):Int):=by rw [w64_in (by omega) (by omega)]; omega
 have e2 : wk .u64 ((a+b:Nat):Int)=((a+b:Nat):Int):=by
  unfold wk IntKind.wrap
  have:(IntKind.u64).bits=64:=rfl
  simp only [this]
  first
   | (rw [Int.emod_eq_of_lt (by omega) (by omega)]; simp [IntKind.signed])
   | omega
 have e3 : bitsShr .u64 ((a+b:Nat):Int) 1=(((a+b) / 2:Nat):Int):=by
  unfold bitsShr
  rw [show min (1:Int).toNat (IntKind.bits .u64)=1 from rfl,Int.fdiv_eq_ediv_of_nonneg _ (by decide)]
  omega
 rw [e1,e2,e3,w64_in (by omega) (by omega)]
structure At (l:List Int) (x:Int) (p:Nat):Prop where
 le : p ≤ l.length
 lo : ∀ k,k < p → l.getD k 0 < x
 hi : ∀ k,p ≤ k → k < l.length → x ≤ l.getD k 0
theorem bs_loop (l:List Int) (x:Int) (hs : ∀ i j,i < j → j < l.length → l.getD i 0 < l.getD j 0) (hl : l.length ≤ 1048576) : ∀ (d lo hi fuel:Nat),hi - lo=d → d < fuel → lo ≤ hi → hi ≤ l.length → (∀ k,k < lo → l.getD k 0 < x) → (∀ k,hi ≤ k → k < l.length → x ≤ l.getD k 0) →
  ∃ p:Nat,m_slices_BinarySearch_int_int_l1 l x fuel ((lo:Int),(hi:Int))=some (p:Int)∧At l x p:=by
 intro d
 induction d using Nat.strongRecOn with
 | _ d ih =>
  intro lo hi fuel hd hf h1 h2 h3 h4
  obtain ⟨f,rfl⟩ : ∃ f,fuel=f+1:=⟨fuel - 1,by omega⟩
  rw [m_slices_BinarySearch_int_int_l1.eq_2]
  dsimp only
  by_cases hlt : lo < hi
  ·have hm1 : lo ≤ (lo+hi) / 2:=by omega
   have hm2:(lo+hi) / 2 < hi:=by omega
   have hc : ltB (lo:Int) (hi:Int)=true:=decide_eq_true (by omega)
   rw [hc,mid_val (by omega)]
   simp only [cond_true,ix_dec (show (lo+hi) / 2 < l.length by omega),chk_true,Int.toNat_natCast,cmp_less,Option.bind_some,w64_succ (by omega:(lo+hi) / 2 < 4611686018427387904)]
   by_cases hx : l.getD ((lo+hi) / 2) 0 < x
   ·rw [show ltB (l.getD ((lo+hi) / 2) 0) x=true from decide_eq_true hx]
    simp only [cond_true,Option.bind_some]
    refine ih (hi - ((lo+hi) / 2+1)) (by omega) ((lo+hi) / 2+1) hi f rfl (by omega) (by omega) h2 (fun k hk=>?_) h4
    rcases Nat.lt_or_ge k ((lo+hi) / 2) with h | h
    ·have:=hs k _ h (by omega); omega
    ·have : k=(lo+hi) / 2:=by omega
     rw [this]; exact hx
   ·rw [show ltB (l.getD ((lo+hi) / 2) 0) x=false from decide_eq_false hx]
    simp only [cond_false,Option.bind_some]
    refine ih ((lo+hi) / 2 - lo) (by omega) lo ((lo+hi) / 2) f rfl (by omega) hm1 (by omega) h3 (fun k hk hk2=>?_)
    rcases Nat.lt_or_ge ((lo+hi) / 2) k with h | h
    ·have:=hs _ k h hk2; omega
    ·have : k=(lo+hi) / 2:=by omega
     rw [this]; omega
  ·have hc : ltB (lo:Int) (hi:Int)=false:=decide_eq_false (by omega)
   have : lo=hi:=by omega
   subst this
   exact ⟨lo,by rw [hc]; rfl,h2,h3,h4⟩
theorem sor_get {l:List Int} (h : l.Pairwise (·< ·)) : ∀ i j,i < j → j < l.length → l.getD i 0 < l.getD j 0:=by
 intro i j hij hj
 rw [getD_ge (by omega),getD_ge hj]
 exact List.pairwise_iff_getElem.1 h i j (by omega) hj hij
theorem at_mem {l:List Int} {x:Int} {p:Nat} (hs : l.Pairwise (·< ·)) (h:At l x p):(p < l.length∧l.getD p 0=x) ↔ x ∈ l:=by
 constructor
 ·rintro ⟨h1,h2⟩; rw [← h2,getD_ge h1]; exact List.getElem_mem h1
 ·intro hm
  obtain ⟨k,hk,e⟩:=List.getElem_of_mem hm
  have e2 : l.getD k 0=x:=by rw [getD_ge hk]; exact e
  have hk2 : p ≤ k:=by
   rcases Nat.lt_or_ge k p with h3 | h3
   ·have:=h.lo k h3; omega
   ·exact h3
  have h5:=h.hi p (Nat.le_refl p) (by omega)
  by_cases hpk : p=k
  ·subst hpk; exact ⟨hk,e2⟩
  ·have:=sor_get hs p k (by omega) hk; omega
theorem iBs {l:List Int} {x:Int} (hs : l.Pairwise (·< ·)) (hl : l.length ≤ 1048576) : ∃ p:Nat,m_slices_BinarySearch_int_int l x=some ((p:Int),decide (x ∈ l))∧At l x p:=by
 obtain ⟨p,h1,h2⟩:=bs_loop l x (sor_get hs) hl l.length 0 l.length FUEL (by omega) (fuel_gt (by omega)) (by omega) (Nat.le_refl _) (fun k hk=>by omega) (fun k h3 h4=>by omega)
 refine ⟨p,?_,h2⟩
 have hm:=at_mem hs h2
 have hle:=h2.le
 unfold m_slices_BinarySearch_int_int
 rw [show m_slices_BinarySearch_int_int_l1 l x FUEL (0,(l.length:Int))=_ from h1,Option.bind_some]
 by_cases hp : p < l.length
 ·have e1 : ltB (p:Int) (l.length:Int)=true:=decide_eq_true (by omega)
  have e2:(l.getD p 0 == x)=decide (x ∈ l):=by
   rw [Bool.eq_iff_iff,beq_iff_eq,decide_eq_true_eq,← hm]
   exact ⟨fun h=>⟨hp,h⟩,fun h=>h.2⟩
  simp only [e1,ix_dec hp,Bool.or_true,chk_true,Int.toNat_natCast,e2,m_slices_isNaN_int]
  cases decide (x ∈ l) <;> simp [gb]
 ·have e1 : ltB (p:Int) (l.length:Int)=false:=decide_eq_false (by omega)
  have e2 : decide (x ∈ l)=false:=decide_eq_false fun h=>hp (hm.2 h).1
  simp [e1,e2,gb,chk]
theorem at_ins {l:List Int} {x:Int} {p:Nat} (hs : l.Pairwise (·< ·)) (h:At l x p) (hx : x ∉ l) : l.take p++[x]++l.drop p=insS x l:=by
 have hlt : ∀ z ∈ l.take p,z < x:=by
  intro z hz
  obtain ⟨k,hk,rfl⟩:=List.getElem_of_mem hz
  rw [List.length_take] at hk
  rw [List.getElem_take,← getD_ge (d:=0)]
  exact h.lo k (by omega)
 have hgt : ∀ z ∈ l.drop p,x < z:=by
  intro z hz
  obtain ⟨k,hk,rfl⟩:=List.getElem_of_mem hz
  rw [List.length_drop] at hk
  have hm:(l.drop p)[k]'(by rw [List.length_drop]; exact hk) ∈ l:=List.mem_of_mem_drop (List.getElem_mem _)
  have h1:=h.hi (p+k) (by omega) (by omega)
  rw [getD_ge (by omega)] at h1
  rw [List.getElem_drop] at hm ⊢
  have : l[p+k] ≠ x:=fun e=>hx (e ▸ hm)
  omega
 refine sorted_ext ?_ (insS_sorted hs) (fun z=>?_)
 ·rw [List.append_assoc,List.pairwise_append]
  refine ⟨hs.sublist (List.take_sublist _ _),?_,fun a ha b hb=>?_⟩
  ·rw [List.singleton_append,List.pairwise_cons]
   exact ⟨hgt,hs.sublist (List.drop_sublist _ _)⟩
  ·rcases List.mem_append.1 hb with hb | hb
   ·simp at hb; subst hb; exact hlt a ha
   ·have:=hlt a ha; have:=hgt b hb; omega
 ·rw [insS_mem,List.mem_append,List.mem_append,List.mem_singleton]
  have : z ∈ l ↔ z ∈ l.take p ∨ z ∈ l.drop p:=by rw [← List.mem_append,List.take_append_drop]
  rw [this]
  constructor
  ·rintro ((h | h) | h)
   ·exact .inr (.inl h)
   ·exact .inl h
   ·exact .inr (.inr h)
  ·rintro (h | h | h)
   ·exact .inl (.inr h)
   ·exact .inl (.inl h)
   ·exact .inr h
theorem at_del {l:List Int} {x:Int} {p:Nat} (hs : l.Pairwise (·< ·)) (h:At l x p) (hx : x ∈ l) : l.take p++l.drop (p+1)=l.filter fun z=>z != x:=by
 obtain ⟨hp,he⟩:=(at_mem hs h).2 hx
 refine sorted_ext ?_ (hs.sublist List.filter_sublist) (fun z=>?_)
 ·rw [List.pairwise_append]
  refine ⟨hs.sublist (List.take_sublist _ _),hs.sublist (List.drop_sublist _ _),fun a ha b hb=>?_⟩
  have h2:(l.take p++l.drop p).Pairwise (·< ·):=by rw [List.take_append_drop]; exact hs
  exact (List.pairwise_append.1 h2).2.2 a ha b (by rw [List.drop_eq_getElem_cons hp]; exact List.mem_cons_of_mem _ hb)
 ·rw [List.mem_append,List.mem_filter]
  have e : l=l.take p++l[p] :: l.drop (p+1):=by rw [← List.drop_eq_getElem_cons hp,List.take_append_drop]
  have hpx : l[p]=x:=by rw [← getD_ge hp (d:=0)]; exact he
  have h2:(l.take p++l[p] :: l.drop (p+1)).Pairwise (·< ·):=by rw [← e]; exact hs
  have h3:=(List.pairwise_append.1 h2)
  have h4:=List.pairwise_cons.1 h3.2.1
  have hm : z ∈ l ↔ z ∈ l.take p ∨ z=x ∨ z ∈ l.drop (p+1):=by
   conv=>lhs; rw [e]
   rw [List.mem_append,List.mem_cons,hpx]
  rw [hm]
  simp only [bne_iff_ne,ne_eq]
  constructor
  ·rintro (h | h)
   ·exact ⟨.inl h,by have:=h3.2.2 z h l[p] List.mem_cons_self; omega⟩
   ·exact ⟨.inr (.inr h),by have:=h4.1 z h; omega⟩
  ·rintro ⟨h | h | h,hne⟩
   ·exact .inl h
   ·exact absurd h hne
   ·exact .inr h
end Go.Proofs.YtcmnjaccapbhfaaGreat
