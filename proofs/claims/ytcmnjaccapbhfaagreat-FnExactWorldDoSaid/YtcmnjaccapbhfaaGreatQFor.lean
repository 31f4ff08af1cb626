/- Forests in plain Lean: lines of which none closes a way; ways from the feeds; what flows through a line. No program in sight. -/
import Derived.Test.YtcmnjaccapbhfaaGreatQIsl
namespace Go.Proofs.YtcmnjaccapbhfaaGreat
set_option linter.unusedVariables false
set_option linter.unusedSimpArgs false
abbrev Ed:=List (Nat×Nat)
def Fo (E:Ed):Prop:=∀ P e Q,E=P++e :: Q → ¬ Cn P e.1 e.2
theorem fo_nil:Fo []:=by
 intro P e Q h
 have:=congrArg List.length h
 simp at this
theorem fo_snoc {E:Ed} {e:Nat×Nat}:Fo (E++[e]) ↔ Fo E∧¬ Cn E e.1 e.2:=by
 constructor
 ·intro h
  exact ⟨fun P f Q hE=>h P f (Q++[e]) (by rw [hE]; simp),h E e [] rfl⟩
 ·rintro ⟨h1,h2⟩ P f Q hE
  rcases List.eq_nil_or_concat Q with rfl | ⟨Q',x,rfl⟩
  ·obtain ⟨rfl,h3⟩:=List.append_inj' hE rfl
   obtain rfl : e=f:=by simpa using h3
   exact h2
  ·have hE':E++[e]=(P++f :: Q')++[x]:=by rw [hE]; simp
   obtain ⟨rfl,h3⟩:=List.append_inj' hE' rfl
   exact h1 P f Q' rfl
theorem fo_rm : ∀ (Q P:Ed) (e:Nat×Nat),Fo (P++e :: Q) → ¬ Cn (P++Q) e.1 e.2:=by
 refine rev_ind (P:=fun Q=>∀ (P:Ed) (e:Nat×Nat),Fo (P++e :: Q) → ¬ Cn (P++Q) e.1 e.2) ?_ ?_
 ·intro P e h
  rw [List.append_nil]; exact h P e [] rfl
 ·rintro Q ⟨x,y⟩ ih P e h hc
  have h':Fo ((P++e :: Q)++[(x,y)]):=by simpa using h
  rw [fo_snoc] at h'
  have hn:=ih P e h'.1
  have M : ∀ {a b:Nat},Cn (P++Q) a b → Cn (P++e :: Q) a b:=fun h=>h.mono fun f hf=>by
   rcases List.mem_append.1 hf with hf | hf <;> simp [hf]
  have he:Cn (P++e :: Q) e.1 e.2:=.one (.inl (by simp))
  rw [← List.append_assoc,cn_snoc] at hc
  rcases hc with hc | ⟨h1,h2⟩ | ⟨h1,h2⟩
  ·exact hn hc
  ·exact h'.2 ((M h1).symm.trans (he.trans (M h2).symm))
  ·exact h'.2 ((M h2).trans (he.symm.trans (M h1)))
theorem fo_sub {E F:Ed} (hs:E.Sublist F) (h:Fo F):Fo E:=by
 intro P e Q hE hc
 subst hE
 obtain ⟨F1,F2,rfl,s1,s2⟩:=List.append_sublist_iff.1 hs
 obtain ⟨G1,G2,rfl,m1,m2⟩:=List.cons_sublist_iff.1 s2
 obtain ⟨H1,H2,rfl⟩:=List.append_of_mem m1
 refine h (F1++H1) e (H2++G2) (by simp) (hc.mono fun f hf=>?_)
 simp [s1.subset hf]
abbrev Ln:=Int×Int×Int
def edgeE (l:Ln):Nat×Nat:=(l.1.toNat,l.2.1.toNat)
def onL (z:List (Ln×Bool)):Ed:=(z.filter (·.2)).map fun p=>edgeE p.1
def onE (ls:List Ln) (on:List Bool):Ed:=onL (ls.zip on)
theorem onL_app (y z:List (Ln×Bool)) : onL (y++z)=onL y++onL z:=by simp [onL]
theorem onL_step {z:List (Ln×Bool)} {k:Nat} (hk : k < z.length) : onL (z.take (k+1))=if z[k].2 then onL (z.take k)++[edgeE z[k].1] else onL (z.take k):=by
 rw [List.take_succ_eq_append_getElem hk,onL_app]
 cases h : z[k].2 <;> simp [onL,h]
theorem onL_cut {z:List (Ln×Bool)} {k:Nat} (hk : k < z.length) : z=z.take k++z[k] :: z.drop (k+1):=by
 rw [← List.drop_eq_getElem_cons hk,List.take_append_drop]
theorem onE_cut {ls:List Ln} {on:List Bool} {k:Nat} (hk : k < ls.length) (hl : on.length=ls.length) (ho : on.getD k false=true) :
  onE ls on=onL ((ls.zip on).take k)++edgeE (ls.getD k (0,0,0)) :: onL ((ls.zip on).drop (k+1)):=by
 have hz : k < (ls.zip on).length:=by simp; omega
 have e:(ls.zip on)[k]=(ls.getD k (0,0,0),true):=by
  rw [getD_ge (by omega : k < on.length)] at ho
  rw [List.getElem_zip,getD_ge hk,ho]
 have h:=onL_cut hz
 unfold onE
 rw [e] at h
 conv=>lhs; rw [h]
 rw [onL_app]
 simp [onL]
theorem onE_off {ls:List Ln} {on:List Bool} {k:Nat} (hk : k < ls.length) (hl : on.length=ls.length) :
  onE ls (on.set k false)=onL ((ls.zip on).take k)++onL ((ls.zip on).drop (k+1)):=by
 have e : ls.zip (on.set k false)=(ls.zip on).take k++(ls[k],false) :: (ls.zip on).drop (k+1):=by
  apply List.ext_getElem
  ·simp; omega
  ·intro i h1 h2
   have hi : i < ls.length:=by simp at h1; omega
   rw [List.getElem_zip,List.getElem_set,List.getElem_append]
   have hkz:((ls.zip on).take k).length=k:=by simp; omega
   split
   ·rename_i hik
    subst hik
    simp [hkz]
   ·split
    ·simp
    ·rename_i h3 h4
     rw [hkz] at h4
     obtain ⟨j,hj⟩ : ∃ j,i - ((ls.zip on).take k).length=j+1:=⟨i - k - 1,by rw [hkz]; omega⟩
     simp only [hj,List.getElem_cons_succ,List.getElem_drop,List.getElem_zip]
     have : k+1+j=i:=by rw [hkz] at hj; omega
     simp [this]
 unfold onE
 rw [e,onL_app]
 simp [onL]
theorem onE_mem {ls:List Ln} {on:List Bool} {e:Nat×Nat} : e ∈ onE ls on ↔ ∃ k,k < ls.length∧on.getD k false=true∧e=edgeE (ls.getD k (0,0,0)):=by
 unfold onE onL
 rw [List.mem_map]
 constructor
 ·rintro ⟨p,hp,rfl⟩
  obtain ⟨h1,h2⟩:=List.mem_filter.1 hp
  obtain ⟨k,hk,rfl⟩:=List.mem_iff_getElem.1 h1
  have hk' : k < ls.length∧k < on.length:=by rw [List.length_zip] at hk; omega
  rw [List.getElem_zip] at h2 ⊢
  exact ⟨k,hk'.1,by rw [getD_ge hk'.2]; exact h2,by rw [getD_ge hk'.1]⟩
 ·rintro ⟨k,hk,ho,rfl⟩
  have hk2 : k < on.length:=by
   rcases Nat.lt_or_ge k on.length with h | h
   ·exact h
   ·rw [List.getD_eq_getElem?_getD,List.getElem?_eq_none h] at ho; simp at ho
  refine ⟨(ls[k],on[k]),List.mem_filter.2 ⟨List.mem_iff_getElem.2 ⟨k,by simp; omega,by simp⟩,?_⟩,by rw [getD_ge hk]⟩
  rw [getD_ge hk2] at ho
  exact ho
theorem onE_sub {ls:List Ln} : ∀ {on on':List Bool},on.length=on'.length → (∀ k,on.getD k false=true → on'.getD k false=true) → (onE ls on).Sublist (onE ls on'):=by
 induction ls with
 | nil=>intro on on' _ _; simp [onE,onL]
 | cons l ls ih =>
  intro on on' hl h
  cases on with
  | nil=>simp [onE,onL]
  | cons b on =>
   cases on' with
   | nil=>simp at hl
   | cons b' on' =>
    have h2:=ih (on:=on) (on':=on') (by simpa using hl) (fun k hk=>by have:=h (k+1); simpa using this (by simpa using hk))
    have h0 : b=true → b'=true:=fun hb=>by have:=h 0; simpa using this (by simpa using hb)
    unfold onE onL at h2 ⊢
    cases b
    ·cases b'
     ·simpa using h2
     ·simpa using h2.trans (List.sublist_cons_self _ _)
    ·rw [h0 rfl]; simpa using h2
def cycP (ls:List Ln) (on:List Bool):Bool:=(List.range ls.length).any fun k=>on.getD k false && labs (onE ls (on.set k false)) (edgeE (ls.getD k (0,0,0))).1 == labs (onE ls (on.set k false)) (edgeE (ls.getD k (0,0,0))).2
def cycB (ls:List Ln) (on:List Bool):Bool:=(List.range ls.length).any fun k=>on.getD k false && labs (onL ((ls.zip on).take k)) (edgeE (ls.getD k (0,0,0))).1 == labs (onL ((ls.zip on).take k)) (edgeE (ls.getD k (0,0,0))).2
theorem fo_take {ls:List Ln} {on:List Bool} (hl : on.length=ls.length) (h : ∀ k,k < ls.length → on.getD k false=true → ¬ Cn (onL ((ls.zip on).take k)) (edgeE (ls.getD k (0,0,0))).1 (edgeE (ls.getD k (0,0,0))).2):Fo (onE ls on):=by
 have : ∀ k,k ≤ ls.length → Fo (onL ((ls.zip on).take k)):=by
  intro k
  induction k with
  | zero=>intro _; exact fo_nil
  | succ k ih =>
   intro hk
   have hz : k < (ls.zip on).length:=by simp; omega
   rw [onL_step hz]
   have e1:(ls.zip on)[k].2=on.getD k false:=by rw [getD_ge (by omega)]; simp
   have e2:(ls.zip on)[k].1=ls.getD k (0,0,0):=by rw [getD_ge (by omega)]; simp
   rw [e1,e2]
   split
   ·rename_i ho
    exact fo_snoc.2 ⟨ih (by omega),h k (by omega) ho⟩
   ·exact ih (by omega)
 have h2:=this ls.length (Nat.le_refl _)
 rwa [List.take_of_length_le (by simp; omega)] at h2
theorem cycB_fo {ls:List Ln} {on:List Bool} (hl : on.length=ls.length) : cycB ls on=false ↔ Fo (onE ls on):=by
 unfold cycB
 rw [List.any_eq_false]
 constructor
 ·intro h
  refine fo_take hl fun k hk ho hc=>h k (by simpa using hk) ?_
  rw [ho,(labs_cn _ _ _).2 hc]; simp
 ·intro h k hk hc
  have hk : k < ls.length:=by simpa using hk
  simp only [Bool.and_eq_true,beq_iff_eq] at hc
  exact h _ _ _ (onE_cut hk hl hc.1) ((labs_cn _ _ _).1 hc.2)
theorem cycP_fo {ls:List Ln} {on:List Bool} (hl : on.length=ls.length) : cycP ls on=false ↔ Fo (onE ls on):=by
 unfold cycP
 rw [List.any_eq_false]
 constructor
 ·intro h
  refine fo_take hl fun k hk ho hc=>h k (by simpa using hk) ?_
  rw [ho,onE_off hk hl,(labs_cn _ _ _).2 (hc.mono fun f hf=>by simp [hf])]; simp
 ·intro h k hk hc
  have hk : k < ls.length:=by simpa using hk
  simp only [Bool.and_eq_true,beq_iff_eq] at hc
  rw [onE_off hk hl] at hc
  rw [onE_cut hk hl hc.1] at h
  exact fo_rm _ _ _ h ((labs_cn _ _ _).1 hc.2)
theorem cyc_eq {ls:List Ln} {on:List Bool} (hl : on.length=ls.length) : cycB ls on=cycP ls on:=by
 cases h : cycP ls on
 ·exact (cycB_fo hl).2 ((cycP_fo hl).1 h)
 ·cases h2 : cycB ls on
  ·rw [(cycP_fo hl).2 ((cycB_fo hl).1 h2)] at h; exact h
  ·rfl
def feedA (pts:List (Int×Int)) (b:Nat):Bool:=decide (0 < (pts.getD b (0,0)).1)
theorem feedA_lt {pts:List (Int×Int)} {b:Nat} (h : feedA pts b=true) : b < pts.length:=by
 rcases Nat.lt_or_ge b pts.length with h1 | h1
 ·exact h1
 ·simp [feedA,List.getElem?_eq_none h1] at h
def twoF (E:Ed) (pts:List (Int×Int)):Bool:=(List.range pts.length).any fun k=>(List.range k).any fun j=>feedA pts k && feedA pts j && labs E j == labs E k
theorem twoF_iff {E:Ed} {pts:List (Int×Int)} : twoF E pts=false ↔ ∀ a b,feedA pts a=true → feedA pts b=true → Cn E a b → a=b:=by
 unfold twoF
 rw [List.any_eq_false]
 constructor
 ·intro h
  have key : ∀ a b,feedA pts a=true → feedA pts b=true → Cn E a b → ¬ a < b:=by
   intro a b ha hb hc hlt
   refine h b (by simpa using feedA_lt hb) (List.any_eq_true.2 ⟨a,by simpa using hlt,?_⟩)
   rw [ha,hb,(labs_cn _ _ _).2 hc]; simp
  intro a b ha hb hc
  have h1:=key a b ha hb hc
  have h2:=key b a hb ha hc.symm
  omega
 ·intro h k hk hc
  obtain ⟨j,hj,h2⟩:=List.any_eq_true.1 hc
  simp only [Bool.and_eq_true,beq_iff_eq] at h2
  have:=h j k h2.1.2 h2.1.1 ((labs_cn _ _ _).1 h2.2)
  have : j < k:=by simpa using hj
  omega
def radP (ls:List Ln) (on:List Bool) (pts:List (Int×Int)):Bool:=!cycP ls on && !twoF (onE ls on) pts
theorem radP_iff {ls:List Ln} {on:List Bool} {pts:List (Int×Int)} (hl : on.length=ls.length) : radP ls on pts=true ↔ Fo (onE ls on)∧∀ a b,feedA pts a=true → feedA pts b=true → Cn (onE ls on) a b → a=b:=by
 unfold radP
 rw [Bool.and_eq_true,Bool.not_eq_true',Bool.not_eq_true',cycP_fo hl,twoF_iff]
theorem radP_sub {ls:List Ln} {on on':List Bool} {pts:List (Int×Int)} (hl : on.length=ls.length) (hl' : on'.length=ls.length) (h : ∀ k,on.getD k false=true → on'.getD k false=true) (hr : radP ls on' pts=true) : radP ls on pts=true:=by
 rw [radP_iff hl'] at hr
 rw [radP_iff hl]
 have hs:=onE_sub (ls:=ls) (hl.trans hl'.symm) h
 exact ⟨fo_sub hs hr.1,fun a b ha hb hc=>hr.2 a b ha hb (hc.mono fun e he=>hs.subset he)⟩
def fedB (E:Ed) (pts:List (Int×Int)) (b:Nat):Bool:=(List.range pts.length).any fun f=>feedA pts f && labs E f == labs E b
theorem fedB_iff {E:Ed} {pts:List (Int×Int)} {b:Nat} : fedB E pts b=true ↔ ∃ f,feedA pts f=true∧Cn E f b:=by
 unfold fedB
 rw [List.any_eq_true]
 constructor
 ·rintro ⟨f,_,h⟩
  simp only [Bool.and_eq_true,beq_iff_eq] at h
  exact ⟨f,h.1,(labs_cn _ _ _).1 h.2⟩
 ·rintro ⟨f,h1,h2⟩
  exact ⟨f,by simpa using feedA_lt h1,by rw [h1,(labs_cn _ _ _).2 h2]; simp⟩
theorem fedB_cn {E:Ed} {pts:List (Int×Int)} {a b:Nat} (h : fedB E pts a=true) (hc:Cn E a b) : fedB E pts b=true:=by
 obtain ⟨f,h1,h2⟩:=fedB_iff.1 h
 exact fedB_iff.2 ⟨f,h1,h2.trans hc⟩
def Lk (ls:List Ln) (on:List Bool) (k b c:Nat):Prop:=k < ls.length∧on.getD k false=true∧(edgeE (ls.getD k (0,0,0))=(b,c) ∨ edgeE (ls.getD k (0,0,0))=(c,b))
structure Par (ls:List Ln) (on:List Bool) (pts:List (Int×Int)) (par:Nat → Int) (rk:Nat → Nat):Prop where
 fed : ∀ b,b < pts.length → fedB (onE ls on) pts b=true → feedA pts b=true ∨ 0 ≤ par b
 feed : ∀ b,feedA pts b=true → par b < 0
 line : ∀ b,0 ≤ par b → ∃ c,Lk ls on (par b).toNat b c∧c < pts.length∧fedB (onE ls on) pts c=true∧rk c < rk b
inductive Way (ls:List Ln) (on:List Bool) (par:Nat → Int):Nat → List Nat → Prop
 | top {b:Nat} : par b < 0 → Way ls on par b []
 | step {b c:Nat} {w:List Nat} : 0 ≤ par b → Lk ls on (par b).toNat b c → Way ls on par c w → Way ls on par b (w++[(par b).toNat])
theorem edge_inj {ls:List Ln} {on:List Bool} {k b c d:Nat} (h:Lk ls on k b c) (h':Lk ls on k b d) : c=d:=by
 obtain ⟨_,_,h⟩:=h
 obtain ⟨_,_,h'⟩:=h'
 rcases h with h | h <;> rcases h' with h' | h' <;> rw [h] at h' <;> simp only [Prod.mk.injEq] at h' <;> omega
theorem Lk.cn {ls:List Ln} {on:List Bool} {k b c:Nat} (h:Lk ls on k b c):Cn (onE ls on) b c:=by
 obtain ⟨h1,h2,h3⟩:=h
 have hm:=onE_mem.2 ⟨k,h1,h2,rfl⟩
 rcases h3 with h3 | h3 <;> rw [h3] at hm
 ·exact .one (.inl hm)
 ·exact .one (.inr hm)
theorem Lk.off {ls:List Ln} {on:List Bool} {k j b c:Nat} (h:Lk ls on k b c) (hj : k ≠ j):Lk ls (on.set j false) k b c:=by
 obtain ⟨h1,h2,h3⟩:=h
 exact ⟨h1,by rw [← h2]; simp [List.getD,List.getElem?_set_ne (Ne.symm hj)],h3⟩
section
variable {ls:List Ln} {on:List Bool} {pts:List (Int×Int)} {par:Nat → Int} {rk:Nat → Nat} (P:Par ls on pts par rk) (hl : on.length=ls.length)
include P
omit P in
theorem Way.uniq {b:Nat} {w v:List Nat} (h:Way ls on par b w):Way ls on par b v → w=v:=by
 induction h generalizing v with
 | top h=>intro h'; cases h' with
  | top _=>rfl
  | step h2 _ _=>omega
 | step h1 h2 _ ih=>intro h'; cases h' with
  | top h3=>omega
  | step h3 h4 h5 =>
   obtain rfl:=edge_inj h2 h4
   rw [ih h5]
theorem Par.up {b c:Nat} (h : 0 ≤ par b) (h2:Lk ls on (par b).toNat b c) : c < pts.length∧fedB (onE ls on) pts c=true∧rk c < rk b:=by
 obtain ⟨d,h3,h4⟩:=P.line b h
 rw [edge_inj h2 h3]; exact h4
theorem Par.inj {b d:Nat} (hb : 0 ≤ par b) (hd : 0 ≤ par d) (h : par b=par d) : b=d:=by
 obtain ⟨c,h1,_,_,h2⟩:=P.line b hb
 obtain ⟨e,h3,_,_,h4⟩:=P.line d hd
 rw [← h] at h3
 obtain ⟨_,_,h1⟩:=h1
 obtain ⟨_,_,h3⟩:=h3
 rcases h1 with h1 | h1 <;> rcases h3 with h3 | h3 <;> rw [h1] at h3 <;> simp only [Prod.mk.injEq] at h3 <;> obtain ⟨rfl,rfl⟩:=h3 <;> first | rfl | omega
theorem Way.mem {b:Nat} {w:List Nat} (h:Way ls on par b w) : ∀ k ∈ w,∃ d,0 ≤ par d∧(par d).toNat=k∧rk d ≤ rk b:=by
 induction h with
 | top _=>intro k hk; simp at hk
 | @step b c w h1 h2 _ ih =>
  intro k hk
  rcases List.mem_append.1 hk with hk | hk
  ·obtain ⟨d,h3,h4,h5⟩:=ih k hk
   exact ⟨d,h3,h4,by have:=(P.up h1 h2).2.2; omega⟩
  ·exact ⟨b,h1,(List.mem_singleton.1 hk).symm,Nat.le_refl _⟩
theorem Way.last {b c:Nat} {w:List Nat} (h1 : 0 ≤ par b) (h2:Lk ls on (par b).toNat b c) (h:Way ls on par c w):(par b).toNat ∉ w:=by
 intro hm
 obtain ⟨d,h3,h4,h5⟩:=Way.mem P h _ hm
 have h6:=(P.up h1 h2).2.2
 have : b=d:=P.inj h1 h3 (by omega)
 subst this; omega
theorem Way.under {b k:Nat} {w:List Nat} (h:Way ls on par b w) (hk : k ∈ w) : ∃ d c v,0 ≤ par d∧(par d).toNat=k∧Lk ls on k d c∧Way ls on par c v∧k ∉ v∧c < pts.length∧fedB (onE ls on) pts c=true∧Cn (onE ls (on.set k false)) d b:=by
 induction h with
 | top _=>simp at hk
 | @step b c w h1 h2 h3 ih =>
  have hc:=P.up h1 h2
  by_cases he : k=(par b).toNat
  ·subst he
   exact ⟨b,c,w,h1,rfl,h2,h3,Way.last P h1 h2 h3,hc.1,hc.2.1,.refl _⟩
  ·have hm : k ∈ w:=by simpa [he] using hk
   obtain ⟨d,e,v,g1,g2,g3,g4,g5,g6,g7,g8⟩:=ih hm
   exact ⟨d,e,v,g1,g2,g3,g4,g5,g6,g7,g8.trans (h2.off (Ne.symm he)).cn.symm⟩
end
end Go.Proofs.YtcmnjaccapbhfaaGreat
