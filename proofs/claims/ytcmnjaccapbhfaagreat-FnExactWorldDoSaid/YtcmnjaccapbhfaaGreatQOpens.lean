/- How an argument that is a slice is opened: it reads as a list of Lean values. -/
import Derived.Test.YtcmnjaccapbhfaaGreatQSl
import Derived.Deep.Slices
import Derived.ChangeArms
import Derived.OpenShut
namespace Go.Proofs.YtcmnjaccapbhfaaGreat
open Go.ChangeShapes Go.WideShapes Go.ChangeAt Go.RowKit Go.Deep
theorem flatMap_get {α:Type} (f : α → List Value) {size:Nat} (hf : ∀ y,(f y).length=size) : ∀ (l:List α) (i j:Nat),i < l.length → j < size → (l.flatMap f)[i * size+j]?=(l[i]?.bind fun y=>(f y)[j]?)
 | [],i,_,h,_=>by simp at h
 | y :: l,0,j,_,hj=>by
  simp only [List.flatMap_cons,Nat.zero_mul,Nat.zero_add,List.getElem?_cons_zero,Option.bind_some]
  rw [List.getElem?_append_left (by rw [hf]; exact hj)]
 | y :: l,i+1,j,h,hj=>by
  simp only [List.flatMap_cons,List.getElem?_cons_succ]
  rw [List.getElem?_append_right (by rw [hf]; have:=Nat.mul_le_mul_right size (show 1 ≤ i+1 by omega); omega),hf]
  have e:(i+1) * size+j - size=i * size+j:=by rw [Nat.add_mul]; omega
  rw [e]
  exact flatMap_get f hf l i j (by simpa using h) hj
theorem flatMap_length {α:Type} (f : α → List Value) {size:Nat} (hf : ∀ y,(f y).length=size) : ∀ l:List α,(l.flatMap f).length=l.length * size
 | []=>by simp
 | y :: l=>by simp only [List.flatMap_cons,List.length_append,hf,flatMap_length f hf l,List.length_cons,Nat.add_mul]; omega
section
variable {H:Type} {enc:TypeId×Value → H} {P:Program} {w:World} {base:Nat} {spare:Nat → Bool} {held:Bool}
theorem open_list {α:Type} (f : α → List Value) {size:Nat} (hf : ∀ y,(f y).length=size) (hpos : 0 < size) {t e:TypeId} {fuel:Nat} {cs:List Value} {x:DataW H×List MemPlace}
  (ht:P.underlying t=some (.slice e)) (hC:P.cellsOf e=size) (hel : ∀ (fuel:Nat) (cs:List Value) (x:DataW H×List MemPlace),DataW.trod enc P w base spare held fuel e cs=some x → ∃ y : α,cs=f y)
  (h:DataW.trod enc P w base spare held fuel t cs=some x) :
  ∃ (A:Option Addr) (l:List α) (cap:Nat),cs=[.slice A l.length cap]∧Rd w size A l.length (l.flatMap f)∧l.length ≤ cap∧cap ≤ maxLen:=by
 rcases open_slice ht h with ⟨rfl,_⟩ | ⟨a,len,cap,m,n,D,Pl,rfl,hb,hl,hm,hmm,hx,hi⟩
 ·exact ⟨none,[],0,rfl,Rd.nil,Nat.le_refl _,Nat.zero_le _⟩
 rw [hC] at hi
 have hlm : len ≤ m:=by rw [hmm]; split <;> omega
 have hcell : ∀ i,i < len → ∃ y : α,∀ j,j < size → w.cell? ((a.add (i * size)).add j)=(f y)[j]?:=by
  intro i hi'
  obtain ⟨cs',hc,ht'⟩:=hi i (by omega)
  obtain ⟨y,rfl⟩:=hel _ _ _ ht'
  obtain ⟨_,_,hat⟩:=World.cells?_some hc
  exact ⟨y,hat⟩
 have hlist : ∀ k,k ≤ len → ∃ l:List α,l.length=k∧∀ i y,l[i]?=some y → ∀ j,j < size → w.cell? ((a.add (i * size)).add j)=(f y)[j]?:=by
  intro k
  induction k with
  | zero=>intro _; exact ⟨[],rfl,fun i y h=>by simp at h⟩
  | succ k ih =>
   intro hk
   obtain ⟨l,h1,h2⟩:=ih (by omega)
   obtain ⟨y,hy⟩:=hcell k (by omega)
   refine ⟨l++[y],by simp [h1],fun i z hz j hj=>?_⟩
   by_cases hik : i < l.length
   ·rw [List.getElem?_append_left hik] at hz; exact h2 i z hz j hj
   ·rw [List.getElem?_append_right (by omega)] at hz
    have : i=k:=by
     rcases Nat.eq_zero_or_pos (i - l.length) with h0 | h0
     ·omega
     ·rw [List.getElem?_eq_none (by simp; omega)] at hz; cases hz
    subst this
    have hz0 : i - l.length=0:=by omega
    rw [hz0] at hz
    simp at hz
    subst hz
    exact hy j hj
 obtain ⟨l,h1,h2⟩:=hlist len (Nat.le_refl _)
 subst h1
 refine ⟨some a,l,cap,rfl,⟨flatMap_length f hf l,fun hn=>?_⟩,hl,hm⟩
 obtain ⟨b,off,spot⟩:=a
 have hy0:=List.getElem?_eq_getElem hn
 have h00:=h2 0 _ hy0 0 hpos
 have hspot : spot=none:=by
  have hs:(f l[0])[0]?=some ((f l[0])[0]'(by rw [hf]; exact hpos)):=List.getElem?_eq_getElem _
  rw [hs] at h00
  simpa [Addr.add] using World.cell?_spot h00
 subst hspot
 refine ⟨b,off,rfl,fun j u hu=>?_⟩
 have hjl : j < l.length * size:=by
  have:=(List.getElem?_eq_some_iff.1 hu).1
  rwa [flatMap_length f hf] at this
 have hd : j / size < l.length:=Nat.div_lt_of_lt_mul (by rw [Nat.mul_comm]; exact hjl)
 have hr : j % size < size:=Nat.mod_lt _ hpos
 have e : j / size * size+j % size=j:=Nat.div_add_mod' j size
 rw [← e,flatMap_get f hf l _ _ hd hr,List.getElem?_eq_getElem hd] at hu
 have:=h2 (j / size) _ (List.getElem?_eq_getElem hd) (j % size) hr
 rw [Go.WideShapes.add_plain,Go.WideShapes.add_plain] at this
 rw [show off+j=off+j / size * size+j % size from by omega,this]
 exact hu
end
end Go.Proofs.YtcmnjaccapbhfaaGreat
