/- What a call has made so far: blocks and rows of its own, each apart from the others; all that stood before is as it was. -/
import Derived.Test.YtcmnjaccapbhfaaGreatQAppN
import Derived.Test.YtcmnjaccapbhfaaGreatQAppAt
namespace Go.Proofs.YtcmnjaccapbhfaaGreat
open Go.ChangeShapes Go.WideShapes Go.ChangeAt Go.RowKit
inductive Asn where
 | box (g:Nat) (t:TypeId) (cs:Array Value)
 | row (t:TypeId) (size:Nat) (v:Value) (n:Nat) (xs:List Value)
 | old (lo size:Nat) (v:Value) (n:Nat) (xs:List Value)
 | part (size:Nat) (v:Value) (n:Nat) (xs:List Value)
def Asn.foot:Asn → List Nat
 | .box g _ _=>[g]
 | .row _ _ v _ _=>v.ownBlock.toList
 | .old _ _ _ _ _=>[]
 | .part _ v _ _=>v.ownBlock.toList
def Asn.holds (w:World):Asn → Prop
 | .box g t cs=>Bk w g t cs
 | .row t size v n xs=>Ow w t size v n xs
 | .old lo size v n xs=>∃ A c,v=.slice A n c∧n ≤ c∧Rd w size A n xs∧(0 < n → ∀ b o,A=some ⟨b,o,none⟩ → b < lo)
 | .part size v n xs=>(∃ A c,v=.slice A n c∧n ≤ c∧Rd w size A n xs)∧∀ g,v.ownBlock=some g → g < w.heap.size
def Asn.lo:Asn → Nat
 | .old lo _ _ _ _=>lo
 | _=>0
def Asn.wf:Asn → List Nat
 | .part _ _ _ _=>[]
 | a=>a.foot
theorem Asn.wf_sub (a:Asn) : ∀ g ∈ a.wf,g ∈ a.foot:=by
 intro g hg
 cases a with
 | part=>simp [Asn.wf] at hg
 | _=>exact hg
def Asn.far (a b:Asn):Prop:=(∀ g ∈ a.wf,g ∉ b.foot)∧∀ g ∈ b.wf,g ∉ a.foot
theorem Asn.far.symm {a b:Asn} (h : a.far b) : b.far a:=⟨h.2,h.1⟩
theorem Asn.far.nil {a b:Asn} (h : a.foot=[]) : a.far b:=⟨fun g hg=>by have:=a.wf_sub g hg; rw [h] at this; simp at this,fun g hg=>by rw [h]; simp⟩
theorem cell_same {w w':World} {b o:Nat} (h : w'.heap[b]?=w.heap[b]?) : w'.cell? ⟨b,o,none⟩=w.cell? ⟨b,o,none⟩:=by simp [World.cell?,h]
theorem Asn.stab {a:Asn} {w w':World} (h : a.holds w) (hk : ∀ g ∈ a.foot,w'.heap[g]?=w.heap[g]?) (hlo : ∀ g,g < a.lo → w'.heap[g]?=w.heap[g]?) : a.holds w':=by
 cases a with
 | old lo size v n xs =>
  obtain ⟨A,c,e,hc,hr,hb⟩:=h
  refine ⟨A,c,e,hc,⟨hr.1,fun hn=>?_⟩,hb⟩
  obtain ⟨b,off,hA,hcell⟩:=hr.2 hn
  exact ⟨b,off,hA,fun j u hu=>(cell_same (hlo b (hb hn b off hA))).trans (hcell j u hu)⟩
 | part size v n xs =>
  obtain ⟨⟨A,c,rfl,hc,hr⟩,hb⟩:=h
  refine ⟨⟨A,c,rfl,hc,⟨hr.1,fun hn=>?_⟩⟩,fun g hg=>?_⟩
  ·obtain ⟨b,off,hA,hcell⟩:=hr.2 hn
   exact ⟨b,off,hA,fun j u hu=>(cell_same (hk b (by simp [Asn.foot,Value.ownBlock,hA]))).trans (hcell j u hu)⟩
  ·have h1:=hk g (by simp [Asn.foot,hg])
   have h2:=hb g hg
   rw [Array.getElem?_eq_getElem h2] at h1
   exact (Array.getElem?_eq_some_iff.1 h1).1
 | box g t cs=>exact (hk g (by simp [Asn.foot])).trans h
 | row t size v n xs=>exact Ow.kept h fun g hg=>hk g (by simp [Asn.foot,hg])
theorem Asn.foot_lt {a:Asn} {w:World} (h : a.holds w) : ∀ g ∈ a.foot,g < w.heap.size:=by
 intro g hg
 cases a with
 | box b t cs=>simp [Asn.foot] at hg; subst hg; exact blk_lt h
 | row t size v n xs=>exact Ow.lt h g (by simpa [Asn.foot] using hg)
 | old lo size v n xs=>simp [Asn.foot] at hg
 | part size v n xs=>exact h.2 g (by simpa [Asn.foot] using hg)
structure Grown (w w':World) (F:List Nat):Prop where
 os : w'.os=w.os
 tape : w'.tape=w.tape
 output : w'.output=w.output
 size : w.heap.size ≤ w'.heap.size
 block : ∀ k,k < w.heap.size → k ∉ F → w'.heap[k]?=w.heap[k]?
theorem Grown.of_below {w w':World} (h:Below w.heap.size w w'):Grown w w' []:=⟨h.os,h.tape,h.output,h.size,fun k hk _=>h.block k hk⟩
theorem Grown.of_row {w w':World} {row:Option Nat} (h : w.grownBy w' row):Grown w w' row.toList:=⟨h.os,h.tape,h.output,h.size,fun k hk hn=>h.block k hk (fun e=>hn (by simp [← e]))⟩
theorem Grown.set (w:World) (g k:Nat) (u:Value):Grown w (w.setCell ⟨g,k,none⟩ u) [g]:=⟨rfl,rfl,rfl,by simp [World.setCell],fun b _ hn=>Below.heap_setCell w ⟨g,k,none⟩ u b (by simpa using hn)⟩
theorem Grown.trans {a b c:World} {F:List Nat} (h:Grown a b F) (k:Grown b c F):Grown a c F :=
 ⟨k.os.trans h.os,k.tape.trans h.tape,k.output.trans h.output,Nat.le_trans h.size k.size,fun i hi hn=>(k.block i (Nat.lt_of_lt_of_le hi h.size) hn).trans (h.block i hi hn)⟩
structure St (w0 w:World) (L:List Asn):Prop where
 below:Below w0.heap.size w0 w
 all : ∀ a ∈ L,a.holds w∧∀ g ∈ a.foot,w0.heap.size ≤ g
 apart:L.Pairwise Asn.far
 olds : ∀ a ∈ L,a.lo ≤ w0.heap.size
section
variable {w0 w w':World} {L M X:List Asn}
theorem St.nil (w:World):St w w []:=⟨Below.refl _ _,fun _ h=>by simp at h,List.Pairwise.nil,fun _ h=>by simp at h⟩
theorem St.perm (S:St w0 w L) (h:L.Perm M):St w0 w M :=
 ⟨S.below,fun a ha=>S.all a (h.mem_iff.2 ha),(h.pairwise_iff (fun {_ _} h=>h.symm)).1 S.apart,fun a ha=>S.olds a (h.mem_iff.2 ha)⟩
theorem St.sub (S:St w0 w L) (h:M.Sublist L):St w0 w M :=
 ⟨S.below,fun a ha=>S.all a (h.subset ha),S.apart.sublist h,fun a ha=>S.olds a (h.subset ha)⟩
theorem St.drew (S:St w0 w L):St w0 w.drew L:=⟨S.below.drew,S.all,S.apart,S.olds⟩
theorem St.get {i:Nat} {a:Asn} (S:St w0 w L) (h:L[i]?=some a) : a.holds w:=(S.all a (List.mem_of_getElem? h)).1
theorem St.mem {a:Asn} (S:St w0 w L) (h : a ∈ L) : a.holds w:=(S.all a h).1
theorem St.turn {A A':List Asn} {F:List Nat} (S:St w0 w (A++X)) (hg:Grown w w' F) (hF : ∀ g ∈ F,∃ a ∈ A,g ∈ a.wf)
  (hA : ∀ a ∈ A',a.holds w'∧(∀ g ∈ a.foot,(∃ b ∈ A,g ∈ b.foot) ∨ w.heap.size ≤ g)∧∀ g ∈ a.wf,(∃ b ∈ A,g ∈ b.wf) ∨ w.heap.size ≤ g) (hp:A'.Pairwise Asn.far) (hlo : ∀ a ∈ A',a.lo=0):St w0 w' (A'++X):=by
 have hX : ∀ a ∈ X,∀ b ∈ A,b.far a:=fun a ha b hb=>(List.pairwise_append.1 S.apart).2.2 b hb a ha
 refine ⟨⟨hg.os.trans S.below.os,hg.tape.trans S.below.tape,hg.output.trans S.below.output,Nat.le_trans S.below.size hg.size,fun k hk=>?_⟩,fun a ha=>?_,?_,fun a ha=>?_⟩
 ·refine (hg.block k (Nat.lt_of_lt_of_le hk S.below.size) fun hk'=>?_).trans (S.below.block k hk)
  obtain ⟨a,ha,hka⟩:=hF k hk'
  have:=(S.all a (by simp [ha])).2 k (a.wf_sub k hka)
  omega
 ·rcases List.mem_append.1 ha with h | h
  ·refine ⟨(hA a h).1,fun g hgf=>?_⟩
   rcases (hA a h).2.1 g hgf with ⟨b,hb,hgb⟩ | h2
   ·exact (S.all b (by simp [hb])).2 g hgb
   ·exact Nat.le_trans S.below.size h2
  ·have hh:=S.all a (by simp [h])
   refine ⟨Asn.stab hh.1 (fun g hgf=>hg.block g (Asn.foot_lt hh.1 g hgf) fun hgF=>?_) (fun g hgl=>?_),hh.2⟩
   rotate_left
   ·have h3:=S.olds a (by simp [h])
    refine hg.block g (Nat.lt_of_lt_of_le (Nat.lt_of_lt_of_le hgl h3) S.below.size) fun hgF=>?_
    obtain ⟨b,hb,hgb⟩:=hF g hgF
    have:=(S.all b (by simp [hb])).2 g (b.wf_sub g hgb)
    omega
   obtain ⟨b,hb,hgb⟩:=hF g hgF
   exact (hX a h b hb).1 g hgb hgf
 ·rw [List.pairwise_append]
  refine ⟨hp,(List.pairwise_append.1 S.apart).2.1,fun a ha b hb=>⟨fun g hga hgb=>?_,fun g hgb hga=>?_⟩⟩
  ·rcases (hA a ha).2.2 g hga with ⟨c,hc,hgc⟩ | h2
   ·exact (hX b hb c hc).1 g hgc hgb
   ·have:=Asn.foot_lt (S.all b (by simp [hb])).1 g hgb
    omega
  ·rcases (hA a ha).2.1 g hga with ⟨c,hc,hgc⟩ | h2
   ·exact (hX b hb c hc).2 g hgb hgc
   ·have:=Asn.foot_lt (S.all b (by simp [hb])).1 g (b.wf_sub g hgb)
    omega
 ·rcases List.mem_append.1 ha with h | h
  ·rw [hlo a h]; exact Nat.zero_le _
  ·exact S.olds a (by simp [h])
theorem St.call (S:St w0 w L) (T:St w w' M) (h0 : ∀ a ∈ M,a.lo=0:=by simp [Asn.lo]):St w0 w' (M++L) :=
 St.turn (A:=[]) S (Grown.of_below T.below) (fun g h=>by simp at h) (fun a ha=>⟨(T.all a ha).1,fun g hg=>.inr ((T.all a ha).2 g hg),fun g hg=>.inr ((T.all a ha).2 g (a.wf_sub g hg))⟩) T.apart h0
theorem St.alloc (S:St w0 w L) (t:TypeId) (cs:Array Value):St w0 (w.alloc (.cells cs t)) (.box w.heap.size t cs :: L) :=
 St.call S (M:=[.box w.heap.size t cs]) ⟨(Below.refl _ _).alloc (Nat.le_refl _) _,fun a ha=>by
  simp at ha; subst ha; exact ⟨Bk.new _ _ _,fun g hg=>by simp [Asn.foot] at hg; omega⟩,by simp,by simp [Asn.lo]⟩
theorem set_perm {i:Nat} (hi : i < L.length) (b:Asn):(b :: L.eraseIdx i).Perm (L.set i b):=by
 induction L generalizing i with
 | nil=>simp at hi
 | cons x L ih =>
  cases i with
  | zero=>simp
  | succ i =>
   simp only [List.eraseIdx_cons_succ,List.set_cons_succ]
   exact (List.Perm.swap _ _ _).trans (List.Perm.cons _ (ih (by simpa using hi)))
theorem at_perm {i:Nat} {a:Asn} (h:L[i]?=some a):L.Perm (a :: L.eraseIdx i):=by
 obtain ⟨hi,rfl⟩:=List.getElem?_eq_some_iff.1 h
 have:=set_perm hi L[i]
 rw [List.set_getElem_self] at this
 exact this.symm
theorem St.turn1 {i:Nat} {a b:Asn} {F:List Nat} (S:St w0 w L) (hi:L[i]?=some a) (hg:Grown w w' F) (hF : ∀ g ∈ F,g ∈ a.foot) (hb : b.holds w') (hbf : ∀ g ∈ b.foot,g ∈ a.foot ∨ w.heap.size ≤ g) (hlo : b.lo=0:=by rfl) (hwf : a.wf=a.foot:=by rfl):St w0 w' (L.set i b):=by
 obtain ⟨hlt,_⟩:=List.getElem?_eq_some_iff.1 hi
 have S1:St w0 w ([a]++L.eraseIdx i):=S.perm (at_perm hi)
 refine (St.turn (A':=[b]) S1 hg (fun g h=>⟨a,by simp,by rw [hwf]; exact hF g h⟩) (fun c hc=>?_) (by simp) (by simpa using hlo)).perm (set_perm hlt b)
 simp at hc
 subst hc
 exact ⟨hb,fun g hg=>(hbf g hg).imp (fun h=>⟨a,by simp,h⟩) id,fun g hg=>(hbf g (c.wf_sub g hg)).imp (fun h=>⟨a,by simp,by rw [hwf]; exact h⟩) id⟩
theorem St.set {g:Nat} {t:TypeId} {cs:Array Value} (S:St w0 w L) (i:Nat) (hi:L[i]?=some (.box g t cs)) (k:Nat) (u:Value):St w0 (w.setCell ⟨g,k,none⟩ u) (L.set i (.box g t (cs.setIfInBounds k u))) :=
 S.turn1 hi (Grown.set w g k u) (fun _ h=>by simpa [Asn.foot] using h) ((show Bk w g t cs from S.get hi).set_ k u) (fun g h=>.inl (by simpa [Asn.foot] using h))
theorem St.free {g:Nat} {t:TypeId} {cs:Array Value} (S:St w0 w L) (i:Nat) (hi:L[i]?=some (.box g t cs)):Bk w g t cs:=S.get hi
theorem St.own {t:TypeId} {size n:Nat} {v:Value} {xs:List Value} (S:St w0 w L) (i:Nat) (hi:L[i]?=some (.row t size v n xs)):Ow w t size v n xs:=S.get hi
theorem St.rd {t:TypeId} {size n c:Nat} {A:Option Addr} {xs:List Value} (S:St w0 w L) (i:Nat) (hi:L[i]?=some (.row t size (.slice A n c) n xs)):Rd w size A n xs:=(S.own i hi).rd
theorem St.size (S:St w0 w L) : w0.heap.size ≤ w.heap.size:=S.below.size
theorem St.rd0 {size n:Nat} {A:Option Addr} {xs:List Value} (S:St w0 w L) (h:Rd w0 size A n xs):Rd w size A n xs:=h.after S.below
theorem St.of_own {t:TypeId} {size n:Nat} {v:Value} {xs:List Value} (h : w'.ownsRow w.heap.size t size v n xs) (hb:Below w.heap.size w w'):St w w' [.row t size v n xs] :=
 ⟨hb,fun a ha=>by
  simp at ha; subst ha
  exact ⟨Ow.of h,fun g hg=>(h.lt g (by simpa [Asn.foot] using hg)).1⟩,by simp,by simp [Asn.lo]⟩
end
end Go.Proofs.YtcmnjaccapbhfaaGreat
