/- Plain laws on the models' loops. -/
import Derived.Test.YtcmnjaccapbhfaaGreatQDc
namespace Go.Proofs.YtcmnjaccapbhfaaGreat
set_option linter.unusedVariables false
set_option linter.unusedSimpArgs false
theorem getD_ge {α:Type} {l:List α} {k:Nat} {d : α} (h : k < l.length) : l.getD k d=l[k]:=by simp [List.getD,h]
theorem ltB0 {n:Int} (h : 0 ≤ n) : ltB n 0=false:=by simp [ltB]; omega
theorem w64_succ {k:Nat} (h : k < 4611686018427387904) : w64 ((k:Int)+1)=((k+1:Nat):Int):=by rw [w64_in (by omega) (by omega)]; rfl
theorem w64_id {n:Int} (h : -9223372036854775808 ≤ n∧n ≤ 9223372036854775807) : w64 n=n:=w64_in h.1 h.2
theorem fuel_gt {n:Nat} (h : n ≤ 1099511627776) : n < FUEL:=by unfold FUEL; omega
theorem lt_dec {k n:Nat} (h : k < n) : ltB (k:Int) (n:Int)=true:=by simp [ltB,h]
theorem ix_dec {k n:Nat} (h : k < n) : ixB (k:Int) n=true:=by simp [ixB,h]
theorem nlt_dec {n:Nat} : ltB (n:Int) (n:Int)=false:=by simp [ltB]
theorem inB_le (n lo hi:Int) : inB n lo hi=(leB lo n && leB n hi):=rfl
theorem loop_up {σ Out:Type} (L:Nat → σ → Option Out) (st:Nat → σ) (n:Nat) (out:Option Out) (hstep : ∀ k fuel,k < n → L (fuel+1) (st k)=L fuel (st (k+1))) (hend : ∀ fuel,L (fuel+1) (st n)=out) : ∀ j k fuel,k+j=n → j < fuel → L fuel (st k)=out:=by
 intro j
 induction j with
 | zero =>
  intro k fuel hk hf
  obtain ⟨f,rfl⟩ : ∃ f,fuel=f+1:=⟨fuel - 1,by omega⟩
  obtain rfl : k=n:=by omega
  exact hend f
 | succ j ih =>
  intro k fuel hk hf
  obtain ⟨f,rfl⟩ : ∃ f,fuel=f+1:=⟨fuel - 1,by omega⟩
  rw [hstep k f (by omega)]
  exact ih (k+1) f (by omega) (by omega)
theorem loop_all {σ Out:Type} (L:Nat → σ → Option Out) (st:Nat → σ) (n:Nat) (out:Option Out) (hn : n ≤ 1099511627776) (hstep : ∀ k fuel,k < n → L (fuel+1) (st k)=L fuel (st (k+1))) (hend : ∀ fuel,L (fuel+1) (st n)=out):L FUEL (st 0)=out :=
 loop_up L st n out hstep hend n 0 FUEL (by omega) (fuel_gt hn)
theorem loop_find {σ Out:Type} (L:Nat → σ → Option Out) (st:Nat → σ) (n:Nat) (P:Nat → Bool) (fv out:Option Out) (hn : n ≤ 1099511627776) (hstep : ∀ k fuel,k < n → L (fuel+1) (st k)=bif P k then fv else L fuel (st (k+1))) (hend : ∀ fuel,L (fuel+1) (st n)=out) :
  L FUEL (st 0)=bif (List.range n).any P then fv else out:=by
 have key : ∀ j k fuel,k+j=n → j < fuel → L fuel (st k)=bif (List.range' k j).any P then fv else out:=by
  intro j
  induction j with
  | zero =>
   intro k fuel hk hf
   obtain ⟨f,rfl⟩ : ∃ f,fuel=f+1:=⟨fuel - 1,by omega⟩
   obtain rfl : k=n:=by omega
   simpa using hend f
  | succ j ih =>
   intro k fuel hk hf
   obtain ⟨f,rfl⟩ : ∃ f,fuel=f+1:=⟨fuel - 1,by omega⟩
   rw [hstep k f (by omega),ih (k+1) f (by omega) (by omega),List.range'_succ,List.any_cons]
   cases P k <;> simp
 rw [key n 0 FUEL (by omega) (fuel_gt hn),List.range_eq_range']
theorem any_list {α:Type} (l:List α) (d : α) (p : α → Bool):(List.range l.length).any (fun k=>p (l.getD k d))=l.any p:=by
 rw [Bool.eq_iff_iff,List.any_eq_true,List.any_eq_true]
 constructor
 ·rintro ⟨k,hk,h⟩
  have hk : k < l.length:=by simpa using hk
  exact ⟨l[k],List.getElem_mem hk,by simpa [List.getD,hk] using h⟩
 ·rintro ⟨x,hx,h⟩
  obtain ⟨k,hk,rfl⟩:=List.mem_iff_getElem.1 hx
  exact ⟨k,by simpa using hk,by simpa [List.getD,hk] using h⟩
def marksG {β:Type} (mk:Int → β) (c:Int) (k:Int) (n:Nat):List β:=(List.range n).map fun (j:Nat)=>mk (k+c * (j:Int))
theorem marksG_len {β:Type} (mk:Int → β) (c k:Int) (n:Nat):(marksG mk c k n).length=n:=by simp [marksG]
theorem marksG_get {β:Type} (mk:Int → β) (c k:Int) {n j:Nat} (d : β) (h : j < n):(marksG mk c k n).getD j d=mk (k+c * j):=by simp [marksG,List.getD,h]
theorem marksG_set {β:Type} (mk:Int → β) (c k:Int) (x:List β) {j:Nat} (h : j < x.length):(marksG mk c k j++x.drop j).set j (mk (k+c * j))=marksG mk c k (j+1)++x.drop (j+1):=by
 rw [List.set_append_right _ _ (by rw [marksG_len]; exact Nat.le_refl _),marksG_len,Nat.sub_self,List.drop_eq_getElem_cons h,List.set_cons_zero]
 simp [marksG,List.range_succ]
theorem mark_loop {β:Type} (L:Nat → (List β×Int×Int) → Option (Int×List β)) (mk:Int → β) (c:Int) (hc : 0 ≤ c∧c ≤ 16) (x:List β) (k:Int) (hx : x.length ≤ 1048576) (hk : 0 ≤ k∧k ≤ 33554432)
  (hstep : ∀ fuel (l:List β) (q:Int) (j:Nat),j < x.length → l.length=x.length → 0 ≤ q → q ≤ 134217728 → L (fuel+1) (l,q,(j:Int))=L fuel (l.set j (mk q),q+c,((j+1:Nat):Int)))
  (hend : ∀ fuel (l:List β) (q:Int),l.length=x.length → L (fuel+1) (l,q,(x.length:Int))=some (q,l)) :
  L FUEL (x,k,0)=some (k+c * x.length,marksG mk c k x.length):=by
 have h:=loop_all L (fun j=>(marksG mk c k j++x.drop j,k+c * j,(j:Int))) x.length (some (k+c * x.length,marksG mk c k x.length)) (by omega) (fun j fuel hj=>?_) (fun fuel=>?_)
 ·simpa [marksG] using h
 ·have hq : 0 ≤ c * (j:Int):=Int.mul_nonneg hc.1 (by omega)
  have hq2 : c * (j:Int) ≤ 16 * 1048576:=Int.mul_le_mul hc.2 (by omega) (by omega) (by decide)
  have:=hstep fuel (marksG mk c k j++x.drop j) (k+c * j) j hj (by simp [marksG_len]; omega) (by omega) (by omega)
  rw [this,marksG_set mk c k x hj]
  have e : k+c * ((j+1:Nat):Int)=k+c * j+c:=by rw [Int.natCast_add,Int.mul_add]; omega
  rw [e]
 ·have:=hend fuel (marksG mk c k x.length++x.drop x.length) (k+c * x.length) (by simp [marksG_len])
  simpa using this
theorem held_loop {β:Type} (L:Nat → (Int×Int) → Option (Int ⊕ Int)) (mk:Int → β) (c:Int) (hc : 0 ≤ c∧c ≤ 16) (n:Nat) (k:Int) (hx : n ≤ 1048576) (hk : 0 ≤ k∧k ≤ 33554432)
  (hstep : ∀ fuel (q:Int) (j:Nat),j < n → (∀ d,(marksG mk c k n)[j]?.getD d=mk q) → 0 ≤ q → q ≤ 134217728 → L (fuel+1) (q,(j:Int))=L fuel (q+c,((j+1:Nat):Int)))
  (hend : ∀ fuel (q:Int),L (fuel+1) (q,(n:Int))=some (.inl q)):L FUEL (k,0)=some (.inl (k+c * n)):=by
 have h:=loop_all L (fun j=>(k+c * j,(j:Int))) n (some (.inl (k+c * n))) (by omega) (fun j fuel hj=>?_) (fun fuel=>hend fuel _)
 ·simpa using h
 ·have hq : 0 ≤ c * (j:Int):=Int.mul_nonneg hc.1 (by omega)
  have hq2 : c * (j:Int) ≤ 16 * 1048576:=Int.mul_le_mul hc.2 (by omega) (by omega) (by decide)
  rw [hstep fuel (k+c * j) j hj (fun d=>by simpa [List.getD] using marksG_get mk c k d hj) (by omega) (by omega)]
  have e : k+c * ((j+1:Nat):Int)=k+c * j+c:=by rw [Int.natCast_add,Int.mul_add]; omega
  rw [e]
theorem to_loop {β:Type} (L:Nat → (List β×Int) → Option (List β)) (x:List β) (l0:List β) (hl : l0.length=x.length) (hx : x.length ≤ 1048576)
  (hstep : ∀ fuel (l:List β) (j:Nat) (hj : j < x.length),l.length=x.length → L (fuel+1) (l,(j:Int))=L fuel (l.set j x[j],((j+1:Nat):Int)))
  (hend : ∀ fuel (l:List β),l.length=x.length → L (fuel+1) (l,(x.length:Int))=some l):L FUEL (l0,0)=some x:=by
 have h:=loop_all L (fun j=>(x.take j++l0.drop j,(j:Int))) x.length (some x) (by omega) (fun j fuel hj=>?_) (fun fuel=>?_)
 ·simpa using h
 ·rw [hstep fuel _ j hj (by simp; omega)]
  congr 2
  rw [List.set_append_right _ _ (by simp; omega),List.length_take,Nat.min_eq_left (by omega),Nat.sub_self,List.drop_eq_getElem_cons (by omega : j < l0.length),List.set_cons_zero,List.take_succ_eq_append_getElem hj,List.append_assoc]
  rfl
 ·have:=hend fuel (x.take x.length++l0.drop x.length) (by simp; omega)
  rw [this,List.take_length,List.drop_of_length_le (by omega),List.append_nil]
theorem eq_loop {Out:Type} (L:Nat → Int → Option Out) (n:Nat) (hx : n ≤ 1048576) (out:Option Out) (hstep : ∀ fuel (j:Nat),j < n → L (fuel+1) (j:Int)=L fuel ((j+1:Nat):Int)) (hend : ∀ fuel,L (fuel+1) (n:Int)=out):L FUEL 0=out:=by
 have h:=loop_all L (fun j=>(j:Int)) n out (by omega) (fun j fuel hj=>hstep fuel j hj) hend
 simpa using h
end Go.Proofs.YtcmnjaccapbhfaaGreat
