/- Texts of the claim, one behind the other: Hl, FlI, FlS, Bst, WkD, BsM, WrM, LnU, WkR, HlM, RsM, Draw, Yd, Sm, WdD, WdS, DaH, WdL, StTxD, LnV, LnW, LnX, LnD, DaO, Law, LnL. -/
import Derived.ChangeSame
import Derived.ChangeMaps5
import Derived.Carry
import Derived.Lib.SmallJoins
import Derived.JoinedOf
import Derived.HandedShaped
import Derived.LaidMore
import Derived.LaidSub
import Derived.Lib.LaidTab
import Derived.Lib.ItoaMem
import Derived.Shelf.Vars
import Derived.Test.YtjdlgannencchaaGreatDoorRLinesHeal4
namespace Go.Proofs.YtjdlgannencchaaGreatDoor
open Go.ChangeShapes Go.WideShapes Go.ChangeAt Go.RowKit
set_option linter.unusedVariables false
set_option linter.unusedSimpArgs false
set_option linter.unusedSectionVars false
section
variable {σ:Type} (good:σ→Bool) (sv:σ→Int) (ch:σ→Nat)
def wJ (s:Int) (c:Nat):Option σ→Bool
 |none=>true
 |some y=>decide (sv y<s) ||(decide (sv y=s)&&decide (c<ch y))
def wL (a:Option σ) (x:σ):Option σ:=if good x&&wJ sv ch (sv x) (ch x) a then some x else a
def jD (l:List σ):Option σ:=l.foldl (wL good sv ch) none
theorem ve (l:List σ) (x:σ):jD good sv ch (l++ [x])=wL good sv ch (jD good sv ch l) x:=by unfold jD;rw [List.foldl_append];rfl
theorem nL (l:List σ):(∀x∈l,good x=true→ ∃y,jD good sv ch l=some y)∧ ∀y,jD good sv ch l=some y→(y∈l∧good y=true)∧ ∀x∈l,good x=true→sv x<sv y∨(sv x=sv y∧ch y≤ch x):=by
 refine wj (P:=fun l=>(∀x∈l,good x=true→ ∃y,jD good sv ch l=some y)∧ ∀y,jD good sv ch l=some y→(y∈l∧good y=true)∧ ∀x∈l,good x=true→sv x<sv y∨(sv x=sv y∧ch y≤ch x)) ?_ ?_ l
 ·exact ⟨fun x hx=>by simp at hx,fun y hy=>by cases hy⟩
 ·intro l a ih
  rw [ve]
  unfold wL
  cases hg:good a
  ·rw [Bool.false_and,if_neg (by decide)]
   refine ⟨fun x hx hgx=>?_,fun y hy=>?_⟩
   ·rcases List.mem_append.1 hx with hx |hx
    ·exact ih.1 x hx hgx
    ·obtain rfl:x=a:=by simpa using hx
     rw [hg] at hgx;cases hgx
   ·obtain ⟨⟨h1,h2⟩,h3⟩:=ih.2 y hy
    refine ⟨⟨by simp [h1],h2⟩,fun x hx hgx=>?_⟩
    rcases List.mem_append.1 hx with hx |hx
    ·exact h3 x hx hgx
    ·obtain rfl:x=a:=by simpa using hx
     rw [hg] at hgx;cases hgx
  ·rw [Bool.true_and]
   cases hb:jD good sv ch l with
   |none=>
    rw [if_pos (show wJ sv ch (sv a) (ch a) none=true from rfl)]
    refine ⟨fun _ _ _=>⟨a,rfl⟩,fun y hy=>?_⟩
    obtain rfl:a=y:=Option.some.inj hy
    refine ⟨⟨by simp,hg⟩,fun x hx hgx=>?_⟩
    rcases List.mem_append.1 hx with hx |hx
    ·obtain ⟨y,hy⟩:=ih.1 x hx hgx
     rw [hb] at hy;cases hy
    ·obtain rfl:x=a:=by simpa using hx
     exact .inr ⟨rfl,Nat.le_refl _⟩
   |some z=>
    obtain ⟨⟨h1,h2⟩,h3⟩:=ih.2 z hb
    split
    ·rename_i hbet
     simp only [wJ,Bool.or_eq_true,Bool.and_eq_true,decide_eq_true_eq] at hbet
     refine ⟨fun _ _ _=>⟨a,rfl⟩,fun y hy=>?_⟩
     obtain rfl:a=y:=Option.some.inj hy
     refine ⟨⟨by simp,hg⟩,fun x hx hgx=>?_⟩
     rcases List.mem_append.1 hx with hx |hx
     ·have:=h3 x hx hgx;omega
     ·obtain rfl:x=a:=by simpa using hx
      exact .inr ⟨rfl,Nat.le_refl _⟩
    ·rename_i hbet
     simp only [wJ,Bool.or_eq_true,Bool.and_eq_true,decide_eq_true_eq] at hbet
     refine ⟨fun _ _ _=>⟨z,rfl⟩,fun y hy=>?_⟩
     obtain rfl:z=y:=Option.some.inj hy
     refine ⟨⟨by simp [h1],h2⟩,fun x hx hgx=>?_⟩
     rcases List.mem_append.1 hx with hx |hx
     ·exact h3 x hx hgx
     ·obtain rfl:x=a:=by simpa using hx
      omega
end
def cE (n num:Nat):List Bool:=(List.range n).map fun k=>num.testBit k
theorem yf (n num:Nat):(cE n num).length=n:=by simp [cE]
theorem MK {n num k:Nat} (h:k<n):(cE n num).getD k false=num.testBit k:=by simp [cE,List.getD,h]
def rz:List Bool→Nat
 | []=>0
 |b::l=>2*rz l+b.toNat
theorem zt: ∀(l:List Bool) (k:Nat),(rz l).testBit k=l.getD k false
 | [],k=>by simp [rz]
 |b::l,0=>by cases b<;>simp [rz,Nat.testBit_zero]<;>omega
 |b::l,k+1=>by
  rw [Nat.testBit_succ,List.getD_cons_succ,←zt l k]
  congr 1
  cases b<;>simp [rz]<;>omega
theorem EM: ∀l:List Bool,rz l<2 ^ l.length
 | []=>by simp [rz]
 |b::l=>by
  have:=EM l
  have hb:b.toNat≤1:=by cases b<;>simp
  rw [List.length_cons,Nat.pow_succ];simp only [rz];omega
theorem GU (l:List Bool):cE l.length (rz l)=l:=by
 apply List.ext_getElem (by simp [cE])
 intro i h1 h2
 have:=MK (num:=rz l) h2
 rw [ae h1,zt,ae h2] at this
 exact this
def Do (n:Nat):List (List Bool):=(List.range (2 ^ n)).map (cE n)
theorem sV {n:Nat} {l:List Bool}:l∈Do n↔l.length=n:=by
 unfold Do
 rw [List.mem_map]
 constructor
 ·rintro ⟨k,_,rfl⟩;exact yf _ _
 ·rintro rfl;exact ⟨rz l,by simpa using EM l,GU l⟩
def be (E:Ed) (pts:List (Int×Int)):Int:=((List.range pts.length).map fun b=>if oW E pts (·.2) b≤oW E pts (·.1) b then (pts.getD b (0,0)).2 else 0).sum
def iX (ls:List Ln) (on:List Bool) (pts:List (Int×Int)):Bool:=
 iV ls on pts&&(!(List.range ls.length).any fun k=>decide ((ls.getD k (0,0,0)).2.2<lY ls on pts k))&& !(List.range pts.length).any fun b=>bc pts b&&decide ((pts.getD b (0,0)).1<oW (aD ls on) pts (·.2) b)
theorem Ek {ls:List Ln} {on:List Bool} {pts:List (Int×Int)} (h:iX ls on pts=true):iV ls on pts=true:=by
 unfold iX at h
 rw [Bool.and_eq_true,Bool.and_eq_true] at h
 exact h.1.1
def jS (a b:List Bool):List Nat:=(List.range a.length).filter fun k=>a.getD k false !=b.getD k false
theorem Ky {a b:List Bool} (hl:a.length=b.length) (h:(jS a b).length=0):a=b:=by
 have h0:jS a b=[]:=List.eq_nil_of_length_eq_zero h
 apply List.ext_getElem hl
 intro i h1 h2
 have:=List.filter_eq_nil_iff.1 h0 i (by simpa using h1)
 rw [ae h1,ae h2] at this
 simpa using this
theorem IY (a:List Bool):(jS a a).length=0:=by simp [jS]
def gf (ls:List Ln) (on:List Bool) (pts:List (Int×Int)):Option (List Bool):=jD (fun x=>iX ls x pts) (fun x=>be (aD ls x) pts) (fun x=>(jS on x).length) (Do ls.length)
theorem sC {ls:List Ln} {on x:List Bool} {pts:List (Int×Int)} (h:gf ls on pts=some x):x.length=ls.length∧iX ls x pts=true:=by
 have:=((nL _ _ _ _).2 x h).1
 exact ⟨sV.1 this.1,this.2⟩
theorem wI {ls:List Ln} {on x:List Bool} {pts:List (Int×Int)} (h:gf ls on pts=some x):gf ls x pts=some x:=by
 obtain ⟨⟨h1,h2⟩,h3⟩:=(nL _ _ _ _).2 x h
 obtain ⟨y,hy⟩:=(nL (fun y=>iX ls y pts) (fun x=>be (aD ls x) pts) (fun z=>(jS x z).length) (Do ls.length)).1 x h1 h2
 obtain ⟨⟨g1,g2⟩,g3⟩:=(nL _ _ _ _).2 y hy
 have e1:=h3 y g1 g2
 have e2:=g3 x h1 h2
 rw [IY] at e2
 have:x=y:=Ky ((sV.1 h1).trans (sV.1 g1).symm) (by omega)
 rw [this] at hy ⊢
 exact hy
def jJ (on x:List Bool) (k:Nat):List Dd:=((List.range k).filter fun i=>on.getD i false&& !x.getD i false).map fun (i:Nat)=>(1,(i:Int),0)
def qF (on x:List Bool) (k:Nat):List Dd:=((List.range k).filter fun i=>x.getD i false&& !on.getD i false).map fun (i:Nat)=>(0,(i:Int),0)
def fz (earth:List Bool) (br:List Int):List Dd:=br.flatMap fun l=>(if earth.getD l.toNat false then [] else [(2,l,0)])++ [(4,l,0),(7,l,0),(5,l,0)]
def cz (earth:List Bool) (br:List Int):List Bool:=br.foldl (fun e l=>e.set l.toNat true) earth
def oG (on:List Bool) (x:Option (List Bool)):List Dd:=
 match x with
 |none=> []
 |some x=>jJ on x on.length++qF on x on.length
def og (w:Wd):List Dd:=cR w.pm++fz w.earth w.br++em 3 (cz w.earth w.br) true w.on.length++oG w.on (gf w.ls w.on w.pts)
theorem Ge (br:List Int): ∀earth:List Bool,(cz earth br).length=earth.length:=by
 induction br with
 |nil=>intro e;rfl
 |cons l br ih=>intro e;show (cz (e.set l.toNat true) br).length=_;rw [ih];simp
theorem JJ {pm:Pm}: ∀d∈cR pm,d.1≠0∧d.1≠6∧d.1≠7:=by
 intro d hd
 obtain ⟨p,_,rfl⟩:=List.mem_map.1 hd
 exact ⟨by show (5:Int)≠0;decide,by show (5:Int)≠6;decide,by show (5:Int)≠7;decide⟩
theorem xi {kd:Int} {l:List Bool} {b:Bool}: ∀ {k:Nat},∀d∈em kd l b k,d.1=kd
 |0,d,hd=>by simp [em] at hd
 |k+1,d,hd=>by
  simp only [em] at hd
  split at hd
  ·rcases List.mem_append.1 hd with hd |hd
   ·exact xi d hd
   ·obtain rfl:d=_:=by simpa using hd
    rfl
  ·exact xi d hd
theorem ML {w:Wd} (h:WdOk w) (c:Int) {kd a who:Int} (hk:kd≠0∧kd≠6∧kd≠7) (ha:0≤a∧a<(w.on.length:Int)) (hm:dV w.wk kd a who=true):bq (c,w) (kd,a,who)=(c+1,w.put (cg w.wk kd a who)):=by
 have:=uk [(kd,a,who)] (fun d hd=>by obtain rfl:d=_:=by simpa using hd
                                     exact hk) c w h
 rw [List.foldl_cons,List.foldl_nil,List.foldl_cons,List.foldl_nil,pL (s:=(c,w.wk)) h.work ha hm] at this
 exact this
theorem uJ {w:Wd} (h:WdOk w) (c:Int):(cR w.pm).foldl bq (c,w)=(c+((cR w.pm).length:Int),w.put (w.on,w.earth,[])):=by
 rw [uk _ JJ _ _ h,show w.wk=(w.on,w.earth,w.pm) from rfl,Fh w.pm c w.on w.earth h.work]
 simp [cR]
theorem HD (earth:List Bool) (l:Int) (br:List Int):fz earth (l::br)=((if earth.getD l.toNat false then [] else [(2,l,0)])++ [(4,l,0),(7,l,0),(5,l,0)])++fz earth br:=rfl
theorem NY {earth:List Bool} {l:Int} {br:List Int} (h: ∀x∈br,x.toNat≠l.toNat):fz (earth.set l.toNat true) br=fz earth br:=by
 unfold fz
 induction br with
 |nil=>rfl
 |cons x br ih=>
  rw [List.flatMap_cons,List.flatMap_cons,ih fun y hy=>h y (by simp [hy]),dW (Ne.symm (h x (by simp)))]
theorem sy {l:List Bool} {k:Nat} (h:l.getD k false=true):l.set k true=l:=by
 rcases Nat.lt_or_ge k l.length with hk |hk
 ·rw [ae hk] at h
  have:=List.set_getElem_self hk
  rwa [h] at this
 ·rw [QT hk] at h;cases h
theorem NU {w:Wd} (h:WdOk w) {a who:Int} (ha:0≤a∧a<(w.on.length:Int)) (hb:a∈w.br) (hp:(who,a)∈w.pm):bw w 7 a who=({w with br:=w.br.filter fun x=>x !=a},true):=by
 unfold bw
 rw [if_pos (dc.2 h),if_pos ha,if_neg (fun g=>absurd g.1 (by decide)),if_pos ⟨rfl,hb,hp⟩]
theorem Un {w:Wd} (h:WdOk w) {a who:Int} (ha:0≤a∧a<(w.on.length:Int)) (hb:a∉w.br) {k:Wk} (hd:cU w.wk 0 a who=(k,true)) (hr:iV w.ls k.1 w.pts=true):bw w 0 a who=(w.put k,true):=by
 unfold bw
 rw [if_pos (dc.2 h),if_pos ha,if_neg (fun g=>absurd g.1 (by decide)),if_neg (fun g=>absurd g.1 (by decide)),if_neg (fun g=>hb g.2),hd,if_pos ⟨rfl,hr⟩]
theorem Jj {w:Wd} (h:WdOk w) (hp:w.pm=[]) {l:Int} {br:List Int} (hb:w.br=l::br) (c:Int):
 ((if w.earth.getD l.toNat false then [] else [((2:Int),l,(0:Int))])++ [(4,l,0),(7,l,0),(5,l,0)]).foldl bq (c,w)=(c+((((if w.earth.getD l.toNat false then [] else [((2:Int),l,(0:Int))])++ [(4,l,0),(7,l,0),(5,l,0)]:List Dd)).length:Int),{w with earth:=w.earth.set l.toNat true,br:=br}):=by
 have hl:=h.inn l (by rw [hb];simp)
 have hlt:l.toNat<w.earth.length:=by have:=h.work.le;simp only [Wd.wk] at this;omega
 -- the state with the line earthed
 have step1: ∀c,(if w.earth.getD l.toNat false then [] else [((2:Int),l,(0:Int))]).foldl bq (c,w)=(c+(((if w.earth.getD l.toNat false then [] else [((2:Int),l,(0:Int))]:List Dd)).length:Int),{w with earth:=w.earth.set l.toNat true}):=by
  intro c
  cases he:w.earth.getD l.toNat false
  ·simp only [Bool.false_eq_true,if_false]
   have hm:dV w.wk 2 l 0=true:=by
    show (!w.on.getD l.toNat false&& !w.earth.getD l.toNat false)=true
    rw [hl.2,he];rfl
   rw [uk [(2,l,0)] (fun d hd=>by obtain rfl:d=_:=by simpa using hd
                                  exact ⟨by show (2:Int)≠0;decide,by show (2:Int)≠6;decide,by show (2:Int)≠7;decide⟩) _ _ h]
   rw [List.foldl_cons,List.foldl_nil,pL (s:=(c,w.wk)) h.work hl.1 hm]
   rfl
  ·simp only [if_true,List.foldl_nil,List.length_nil]
   rw [sy he];simp
 rw [List.foldl_append,step1]
 have h1:WdOk {w with earth:=w.earth.set l.toNat true}:=by
  have:=gT (if w.earth.getD l.toNat false then [] else [((2:Int),l,(0:Int))]) (s:=((0:Int),w)) h
  rw [step1] at this
  exact this
 generalize hc1:c+(((if w.earth.getD l.toNat false then [] else [((2:Int),l,(0:Int))]:List Dd)).length:Int)=c1
 have hlen:(((if w.earth.getD l.toNat false then [] else [((2:Int),l,(0:Int))])++ [(4,l,0),(7,l,0),(5,l,0)]:List Dd)).length=(((if w.earth.getD l.toNat false then [] else [((2:Int),l,(0:Int))]:List Dd)).length)+3:=by rw [List.length_append];rfl
 rw [hlen]
 clear step1
 generalize hw1:({w with earth:=w.earth.set l.toNat true}:Wd)=w1 at h1
 have e1:w1.earth.getD l.toNat false=true:=by subst hw1;exact oO hlt
 have e2:w1.pm=[]:=by subst hw1;exact hp
 have e3:w1.br=l::br:=by subst hw1;exact hb
 have e4:w1.on=w.on:=by subst hw1;rfl
 have hl1:(0≤l∧l<(w1.on.length:Int)):=by rw [e4];exact hl.1
 -- a permit
 have hm4:dV w1.wk 4 l 0=true:=by
  show (w1.earth.getD l.toNat false&&(yD 0 0 9&& !decide ((0,l)∈w1.pm)&&decide (w1.pm.length<6)))=true
  rw [e1,e2];rfl
 have s4:bq (c1,w1) (4,l,0)=(c1+1,w1.put (w1.on,w1.earth,[(0,l)])):=by
  have:=uk [(4,l,0)] (fun d hd=>by obtain rfl:d=_:=by simpa using hd
                                   exact ⟨by show (4:Int)≠0;decide,by show (4:Int)≠6;decide,by show (4:Int)≠7;decide⟩) c1 w1 h1
  rw [List.foldl_cons,List.foldl_nil,List.foldl_cons,List.foldl_nil,pL (s:=(c1,w1.wk)) h1.work hl1 hm4] at this
  rw [this]
  show (c1+1,w1.put (w1.on,w1.earth,w1.pm++ [(0,l)]))=_
  rw [e2];rfl
 have h2:WdOk (w1.put (w1.on,w1.earth,[(0,l)])):=by
  have:=rV (s:=(c1,w1)) h1 (4,l,0)
  rw [s4] at this;exact this
 -- mended
 have hs:=h1.sor
 rw [e3,List.pairwise_cons] at hs
 have hf:w1.br.filter (fun x=>x !=l)=br:=by
  rw [e3,List.filter_cons_of_neg (by simp),List.filter_eq_self]
  intro x hx
  have:=hs.1 x hx
  simp;omega
 have s7:bq (c1+1,w1.put (w1.on,w1.earth,[(0,l)])) (7,l,0)=(c1+1+1,{w1 with pm:=[(0,l)],br:=br}):=by
  have e:bw (w1.put (w1.on,w1.earth,[(0,l)])) 7 l 0=({w1 with pm:=[(0,l)],br:=br},true):=by
   have:=NU h2 (a:=l) (who:=0) hl1 (show l∈w1.br by rw [e3];simp) (show (0,l)∈ [((0:Int),l)] by simp)
   rw [show List.filter (fun x=>x !=l) (w1.put (w1.on,w1.earth,[(0,l)])).br=br from hf] at this
   exact this
  unfold bq
  dsimp only
  rw [e];rfl
 have h3:WdOk {w1 with pm:=[(0,l)],br:=br}:=by
  have:=rV (s:=(c1+1,w1.put (w1.on,w1.earth,[(0,l)]))) h2 (7,l,0)
  rw [s7] at this;exact this
 -- returned
 have s5:=uJ h3 (c1+1+1)
 rw [List.foldl_cons,s4,List.foldl_cons,s7]
 have e5:cR ({w1 with pm:=[(0,l)],br:=br}:Wd).pm=[(5,l,0)]:=rfl
 rw [e5] at s5
 rw [s5]
 subst hw1
 have:c1+1+1+(([((5:Int),l,(0:Int))]:List Dd).length:Int)=c+(((((if w.earth.getD l.toNat false then [] else [((2:Int),l,(0:Int))]:List Dd)).length)+3:Nat):Int):=by
  rw [←hc1];simp;omega
 rw [this]
 congr 1
 show Wd.put _ (w.on,w.earth.set l.toNat true,[])=_
 rw [←hp];rfl
theorem Er: ∀(br:List Int) (c:Int) (w:Wd),WdOk w→w.pm=[]→w.br=br→(fz w.earth br).foldl bq (c,w)=(c+((fz w.earth br).length:Int),{w with earth:=cz w.earth br,br:=[]})
 | [],c,w,h,hp,hb=>by
  simp only [fz,List.flatMap_nil,List.foldl_nil,List.length_nil,cz]
  rw [←hb];simp
 |l::br,c,w,h,hp,hb=>by
  have h1:=Jj h hp hb c
  have hok:WdOk {w with earth:=w.earth.set l.toNat true,br:=br}:=by
   have:=gT ((if w.earth.getD l.toNat false then [] else [((2:Int),l,(0:Int))])++ [(4,l,0),(7,l,0),(5,l,0)]) (s:=(c,w)) h
   rw [h1] at this;exact this
  have hs:=h.sor
  rw [hb,List.pairwise_cons] at hs
  have hl:=(h.inn l (by rw [hb];simp)).1
  have hset:fz (w.earth.set l.toNat true) br=fz w.earth br:=NY fun x hx=>by have:=hs.1 x hx;omega
  rw [HD,List.foldl_append,h1]
  have h2:=Er br (c+((((if w.earth.getD l.toNat false then [] else [((2:Int),l,(0:Int))])++ [(4,l,0),(7,l,0),(5,l,0)]:List Dd)).length:Int)) {w with earth:=w.earth.set l.toNat true,br:=br} hok hp rfl
  dsimp only at h2
  rw [hset] at h2
  rw [h2]
  refine Prod.ext ?_ rfl
  simp only [List.length_append]
  omega
theorem Gk {w:Wd} (h:WdOk w) (hp:w.pm=[]) (c:Int):(em 3 w.earth true w.on.length).foldl bq (c,w)=(c+((em 3 w.earth true w.on.length).length:Int),{w with earth:=List.replicate w.on.length false}):=by
 have hle:w.earth.length=w.on.length:=h.work.le
 have hw:WOk (w.on,w.earth,[]):=by have:=h.work;rw [show w.wk=(w.on,w.earth,w.pm) from rfl,hp] at this;exact this
 rw [uk _ (fun d hd=>by have:=xi d hd;omega) _ _ h,show w.wk=(w.on,w.earth,w.pm) from rfl,hp,←hle,(yX hw c w.earth.length (Nat.le_refl _)).1,List.drop_length,List.append_nil,hle]
 show (_,Wd.put w (w.on,List.replicate w.on.length false,[]))=_
 rw [←hp];rfl
def mix (n k:Nat) (f g:Nat→Bool):List Bool:=(List.range n).map fun i=>if i<k then f i else g i
theorem rQ (n k:Nat) (f g:Nat→Bool):(mix n k f g).length=n:=by simp [mix]
theorem CG {n k i:Nat} {f g:Nat→Bool} (h:i<n):(mix n k f g).getD i false=if i<k then f i else g i:=by simp [mix,List.getD,h]
theorem CH {n k:Nat} {f g:Nat→Bool} (h:k<n):(mix n k f g).set k (f k)=mix n (k+1) f g:=by
 apply List.ext_getElem (by simp [mix])
 intro i h1 h2
 rw [List.getElem_set]
 simp only [mix,List.getElem_map,List.getElem_range]
 split
 ·rename_i e;subst e;rw [if_pos (by omega)]
 ·by_cases hi:i<k
  ·rw [if_pos hi,if_pos (by omega)]
  ·rw [if_neg hi,if_neg (by omega)]
theorem EG {n k:Nat} {f g:Nat→Bool} (h:f k=g k):mix n k f g=mix n (k+1) f g:=by
 unfold mix
 refine List.map_congr_left fun i _=>?_
 by_cases hi:i<k
 ·rw [if_pos hi,if_pos (by omega)]
 ·rw [if_neg hi]
  by_cases e:i=k
  ·subst e;rw [if_pos (by omega),h]
  ·rw [if_neg (by omega)]
theorem Va (l:List Bool) (f:Nat→Bool):mix l.length 0 f (fun i=>l.getD i false)=l:=by
 apply List.ext_getElem (by simp [mix])
 intro i h1 h2
 simp [mix,List.getD,h2]
theorem Jw (on x:List Bool) (k:Nat):jJ on x (k+1)=jJ on x k++if on.getD k false&& !x.getD k false then [(1,(k:Int),0)] else []:=by
 unfold jJ
 rw [List.range_succ,List.filter_append,List.map_append]
 congr 1
 rw [List.filter_cons]
 cases on.getD k false&& !x.getD k false<;>rfl
theorem Ma (on x:List Bool) (k:Nat):qF on x (k+1)=qF on x k++if x.getD k false&& !on.getD k false then [(0,(k:Int),0)] else []:=by
 unfold qF
 rw [List.range_succ,List.filter_append,List.map_append]
 congr 1
 rw [List.filter_cons]
 cases x.getD k false&& !on.getD k false<;>rfl
theorem zh {w:Wd} (h:WdOk w) {x:List Bool} (c:Int): ∀k,k≤w.on.length→
 (jJ w.on x k).foldl bq (c,w)=(c+((jJ w.on x k).length:Int),{w with on:=mix w.on.length k (fun i=>w.on.getD i false&&x.getD i false) (fun i=>w.on.getD i false)})
 |0,_=>by
  show (c,w)=(c+((jJ w.on x 0).length:Int),_)
  rw [Va];simp [jJ]
 |k+1,hk=>by
  have ih:=zh h (x:=x) c k (by omega)
  have hok:=gT (jJ w.on x k) (s:=(c,w)) h
  rw [ih] at hok
  try dsimp only at hok
  rw [Jw]
  cases hc:w.on.getD k false&& !x.getD k false
  ·simp only [Bool.false_eq_true,if_false,List.append_nil]
   rw [ih]
   refine Prod.ext rfl ?_
   dsimp only
   rw [←EG]
   revert hc;cases w.on.getD k false<;>cases x.getD k false<;>simp
  ·simp only [if_true]
   rw [List.foldl_append,ih,List.length_append]
   generalize hc1:c+((jJ w.on x k).length:Int)=c1 at*
   simp only [Bool.and_eq_true,Bool.not_eq_true'] at hc
   have hm:dV (Wd.wk {w with on:=mix w.on.length k (fun i=>w.on.getD i false&&x.getD i false) (fun i=>w.on.getD i false)}) 1 (k:Int) 0=true:=by
    show (mix w.on.length k (fun i=>w.on.getD i false&&x.getD i false) (fun i=>w.on.getD i false)).getD (k:Int).toNat false=true
    rw [Int.toNat_natCast,CG (by omega),if_neg (by omega)];exact hc.1
   have hst:=ML hok c1 (by decide) (by dsimp only;rw [rQ];omega) hm
   rw [List.foldl_cons,List.foldl_nil,hst]
   refine Prod.ext (by simp only [List.length_singleton];omega) ?_
   show ({w with on:=(mix w.on.length k (fun i=>w.on.getD i false&&x.getD i false) (fun i=>w.on.getD i false)).set (k:Int).toNat false}:Wd)=_
   have:=CH (f:=fun i=>w.on.getD i false&&x.getD i false) (g:=fun i=>w.on.getD i false) (show k<w.on.length by omega)
   try dsimp only at this
   rw [hc.2,Bool.and_false] at this
   rw [Int.toNat_natCast,this]
theorem Es {w:Wd} {y x:List Bool} (hlx:x.length=w.ls.length) (hrx:iV w.ls x w.pts=true) (c:Int) (hly:y.length=w.ls.length):
 WdOk {w with on:=mix y.length 0 (fun i=>x.getD i false) (fun i=>y.getD i false&&x.getD i false),earth:=List.replicate y.length false,pm:=[],br:=[]}→ ∀k,k≤y.length→
 (qF y x k).foldl bq (c,{w with on:=mix y.length 0 (fun i=>x.getD i false) (fun i=>y.getD i false&&x.getD i false),earth:=List.replicate y.length false,pm:=[],br:=[]})=(c+((qF y x k).length:Int),{w with on:=mix y.length k (fun i=>x.getD i false) (fun i=>y.getD i false&&x.getD i false),earth:=List.replicate y.length false,pm:=[],br:=[]})
 |h,0,_=>by simp [qF]
 |h,k+1,hk=>by
  have ih:=Es hlx hrx c hly h k (by omega)
  have hok:=gT (qF y x k) (s:=(c,_)) h
  rw [ih] at hok
  try dsimp only at hok
  rw [Ma]
  cases hc:x.getD k false&& !y.getD k false
  ·simp only [Bool.false_eq_true,if_false,List.append_nil]
   rw [ih]
   refine Prod.ext rfl ?_
   dsimp only
   rw [←EG]
   revert hc;cases y.getD k false<;>cases x.getD k false<;>simp
  ·simp only [if_true]
   rw [List.foldl_append,ih,List.length_append]
   generalize hc1:c+((qF y x k).length:Int)=c1 at*
   simp only [Bool.and_eq_true,Bool.not_eq_true'] at hc
   have hset:=CH (f:=fun i=>x.getD i false) (g:=fun i=>y.getD i false&&x.getD i false) (show k<y.length by omega)
   try dsimp only at hset
   rw [hc.1] at hset
   have hm:dV (mix y.length k (fun i=>x.getD i false) (fun i=>y.getD i false&&x.getD i false),List.replicate y.length false,[]) 0 (k:Int) 0=true:=by
    show (!(mix y.length k (fun i=>x.getD i false) (fun i=>y.getD i false&&x.getD i false)).getD (k:Int).toNat false&& !(List.replicate y.length false).getD (k:Int).toNat false)=true
    rw [Int.toNat_natCast,CG (by omega),if_neg (by omega),hc.2]
    have:(List.replicate y.length false).getD k false=false:=by
     simp only [List.getD,List.getElem?_replicate];split<;>rfl
    rw [this];rfl
   have ha:0≤(k:Int)∧(k:Int)<((mix y.length k (fun i=>x.getD i false) (fun i=>y.getD i false&&x.getD i false)).length:Int):=by rw [rQ];omega
   have hput:cg (mix y.length k (fun i=>x.getD i false) (fun i=>y.getD i false&&x.getD i false),List.replicate y.length false,[]) 0 (k:Int) 0=(mix y.length (k+1) (fun i=>x.getD i false) (fun i=>y.getD i false&&x.getD i false),List.replicate y.length false,[]):=by
    show ((mix y.length k (fun i=>x.getD i false) (fun i=>y.getD i false&&x.getD i false)).set (k:Int).toNat true,List.replicate y.length false,([]:Pm))=_
    rw [Int.toNat_natCast,hset]
   have hdo:cU (mix y.length k (fun i=>x.getD i false) (fun i=>y.getD i false&&x.getD i false),List.replicate y.length false,[]) 0 (k:Int) 0=((mix y.length (k+1) (fun i=>x.getD i false) (fun i=>y.getD i false&&x.getD i false),List.replicate y.length false,[]),true):=by
    rcases mT (w:=(mix y.length k (fun i=>x.getD i false) (fun i=>y.getD i false&&x.getD i false),List.replicate y.length false,[])) hok.work 0 (k:Int) 0 with ⟨g,_⟩ |⟨_,g⟩
    ·rw [g,hput]
    ·exact absurd ⟨ha,hm⟩ g
   have hrad:iV w.ls (mix y.length (k+1) (fun i=>x.getD i false) (fun i=>y.getD i false&&x.getD i false)) w.pts=true:=by
    refine xU (by rw [rQ,hly]) hlx (fun i hi=>?_) hrx
    rcases Nat.lt_or_ge i y.length with h1 |h1
    ·rw [CG h1] at hi
     split at hi
     ·exact hi
     ·rw [Bool.and_eq_true] at hi;exact hi.2
    ·rw [QT (by rw [rQ];exact h1)] at hi;cases hi
   have hstep:bq (c1,{w with on:=mix y.length k (fun i=>x.getD i false) (fun i=>y.getD i false&&x.getD i false),earth:=List.replicate y.length false,pm:=[],br:=[]}) (0,(k:Int),0)=(c1+1,{w with on:=mix y.length (k+1) (fun i=>x.getD i false) (fun i=>y.getD i false&&x.getD i false),earth:=List.replicate y.length false,pm:=[],br:=[]}):=by
    have e:bw {w with on:=mix y.length k (fun i=>x.getD i false) (fun i=>y.getD i false&&x.getD i false),earth:=List.replicate y.length false,pm:=[],br:=[]} 0 (k:Int) 0=({w with on:=mix y.length (k+1) (fun i=>x.getD i false) (fun i=>y.getD i false&&x.getD i false),earth:=List.replicate y.length false,pm:=[],br:=[]},true):=by
     exact Un hok (a:=(k:Int)) (who:=0) ha (by simp) hdo hrad
    unfold bq
    dsimp only
    rw [e];rfl
   rw [List.foldl_cons,List.foldl_nil,hstep]
   exact Prod.ext (by simp only [List.length_singleton];omega) rfl
def fA (w:Wd):Wd:= {w with on:=(gf w.ls w.on w.pts).getD w.on,earth:=List.replicate w.on.length false,pm:=[],br:=[]}
theorem Lj {w:Wd} (h:WdOk w):uj w (og w)=(((og w).length:Int),fA w):=by
 unfold uj
 rw [if_pos (dc.2 h)]
 unfold og
 rw [List.foldl_append,List.foldl_append,List.foldl_append,uJ h 0]
 have k1:WdOk (w.put (w.on,w.earth,[])):=by
  have:=gT (cR w.pm) (s:=(0,w)) h
  rw [uJ h 0] at this;exact this
 generalize hc1:(0:Int)+((cR w.pm).length:Int)=c1
 have e2:(fz w.earth w.br).foldl bq (c1,w.put (w.on,w.earth,[]))=(c1+((fz w.earth w.br).length:Int),⟨w.b,w.ls,w.pts,w.on,cz w.earth w.br,[],[]⟩):=Er w.br c1 (w.put (w.on,w.earth,[])) k1 rfl rfl
 rw [e2]
 have k2:WdOk ⟨w.b,w.ls,w.pts,w.on,cz w.earth w.br,[],[]⟩:=by
  have:=gT (fz w.earth w.br) (s:=(c1,w.put (w.on,w.earth,[]))) k1
  rw [e2] at this;exact this
 generalize hc2:c1+((fz w.earth w.br).length:Int)=c2
 have e3:(em 3 (cz w.earth w.br) true w.on.length).foldl bq (c2,⟨w.b,w.ls,w.pts,w.on,cz w.earth w.br,[],[]⟩)=(c2+((em 3 (cz w.earth w.br) true w.on.length).length:Int),⟨w.b,w.ls,w.pts,w.on,List.replicate w.on.length false,[],[]⟩):=Gk k2 rfl c2
 rw [e3]
 have k3:WdOk ⟨w.b,w.ls,w.pts,w.on,List.replicate w.on.length false,[],[]⟩:=by
  have:=gT (em 3 (cz w.earth w.br) true w.on.length) (s:=(c2,_)) k2
  rw [e3] at this;exact this
 generalize hc3:c2+((em 3 (cz w.earth w.br) true w.on.length).length:Int)=c3
 have hlen: ∀m:Nat,c3+(m:Int)=(((cR w.pm).length+(fz w.earth w.br).length+(em 3 (cz w.earth w.br) true w.on.length).length+m:Nat):Int):=by intro m;omega
 rw [List.length_append,List.length_append,List.length_append,←hlen]
 unfold fA oG
 cases hb:gf w.ls w.on w.pts with
 |none=>exact Prod.ext (Int.add_zero c3).symm rfl
 |some x=>
  obtain ⟨hx1,hx2⟩:=sC hb
  dsimp only
  rw [List.foldl_append]
  have e4:=zh k3 (x:=x) c3 w.on.length (Nat.le_refl _)
  dsimp only at e4
  have k4:=gT (jJ w.on x w.on.length) (s:=(c3,_)) k3
  rw [e4] at k4
  rw [e4]
  dsimp only at k4
  have hm:mix w.on.length w.on.length (fun i=>w.on.getD i false&&x.getD i false) (fun i=>w.on.getD i false)=mix w.on.length 0 (fun i=>x.getD i false) (fun i=>w.on.getD i false&&x.getD i false):=by
   unfold mix
   refine List.map_congr_left fun i hi=>?_
   have:i<w.on.length:=by simpa using hi
   rw [if_pos this,if_neg (by omega)]
  rw [hm] at k4 ⊢
  have e5:=Es (w:=w) hx1 (Ek hx2) (c3+((jJ w.on x w.on.length).length:Int)) h.len k4 w.on.length (Nat.le_refl _)
  rw [e5]
  refine Prod.ext ?_ ?_
  ·dsimp only;rw [List.length_append];omega
  ·dsimp only [Option.getD]
   have hxn:x.length=w.on.length:=hx1.trans h.len.symm
   have:mix w.on.length w.on.length (fun i=>x.getD i false) (fun i=>w.on.getD i false&&x.getD i false)=x:=by
    apply List.ext_getElem (by rw [rQ,hxn])
    intro i h1 h2
    rw [rQ] at h1
    simp [mix,List.getD,h1,h2]
   rw [this]
theorem yi {n:Nat} {f:Nat→Int} {p:Nat→Prop} (hf: ∀b,b<n→0≤f b∧f b≤999):0≤uY n f p∧uY n f p≤999*n:=by
 unfold uY
 induction n with
 |zero=>simp
 |succ n ih=>
  have h1:=ih fun b hb=>hf b (by omega)
  have h2:=hf n (by omega)
  rw [List.range_succ,List.map_append,List.sum_append]
  simp only [List.map_cons,List.map_nil,List.sum_cons,List.sum_nil]
  split<;>omega
def wo (n:Nat) (f:Nat→Int):List Int:=(List.range n).map f
theorem wt (n:Nat) (f:Nat→Int):(wo n f).length=n:=by simp [wo]
theorem wq {n k:Nat} {f:Nat→Int} (h:k<n):(wo n f).getD k 0=f k:=by simp [wo,List.getD,h]
theorem ww {n k:Nat} {f g:Nat→Int} {v:Int} (hk:k<n) (h1:g k=v) (h2: ∀j,j<n→j≠k→g j=f j):(wo n f).set k v=wo n g:=by
 apply List.ext_getElem (by simp [wo])
 intro i a b
 have hi:i<n:=by simpa [wo] using b
 rw [List.getElem_set]
 simp only [wo,List.getElem_map,List.getElem_range]
 split
 ·rename_i e;subst e;exact h1.symm
 ·rename_i e;exact (h2 i hi (Ne.symm e)).symm
theorem rU {n:Nat} {f g:Nat→Int} (h: ∀j,j<n→f j=g j):wo n f=wo n g:=List.map_congr_left fun j hj=>h j (by simpa using hj)
theorem Qj (n:Nat):wo n (fun _=>0)=List.replicate n 0:=by
 apply List.ext_getElem (by simp [wo])
 intro i a b
 simp [wo]
open Classical in
noncomputable def QN (ls:List Ln) (on:List Bool) (pts:List (Int×Int)) (par:Nat→Int) (rk:Nat→Nat) (i k:Nat):Int:=if ∃d,0≤par d∧(par d).toNat=k∧i≤rk d then lY ls on pts k else 0
theorem Gg {b:Int} {ls:List Ln} {on:List Bool} {pts:List (Int×Int)} (h2:BusOk b ls pts) {c:Nat} (h:gk (aD ls on) pts c=true):c<pts.length:=by
 obtain ⟨f,f1,f2⟩:=kb.1 h
 cases f2 with
 |refl=>exact nh f1
 |step _ e=>
  rcases e with e |e
  ·exact (LZ h2 on _ e).2
  ·exact (LZ h2 on _ e).1
theorem Rl {l:List Nat} (h:l.Nodup) {i:Nat} (hi:i<l.length):l.idxOf (l.getD i 0)=i:=by
 rw [ae hi]
 have hm:l.idxOf l[i]<l.length:=List.idxOf_lt_length_iff.2 (List.getElem_mem hi)
 have h1:=List.getElem_idxOf hm
 rw [List.nodup_iff_pairwise_ne,List.pairwise_iff_getElem] at h
 rcases Nat.lt_trichotomy (l.idxOf l[i]) i with h2 |h2 |h2
 ·exact absurd h1 (h _ _ hm hi h2)
 ·exact h2
 ·exact absurd h1.symm (h _ _ hi hm h2)
section
variable {ls:List Ln} {on:List Bool} {pts:List (Int×Int)} {feed parent:List Int} {ord:List Nat} (h1:StOk (pts.length:Int) ls on) (h2:BusOk (pts.length:Int) ls pts) (hr:iV ls on pts=true) (T:TreeOk ls on pts feed parent ord)
include h2 T
theorem Sb: ∀a b,gk (aD ls on) pts a=true→gk (aD ls on) pts b=true→ord.idxOf a=ord.idxOf b→a=b:=by
 intro a b ha hb e
 have ha':=(T.mem a).2 ⟨Gg h2 ha,ha⟩
 have hb':=(T.mem b).2 ⟨Gg h2 hb,hb⟩
 have h3:=List.getElem_idxOf (List.idxOf_lt_length_iff.2 ha')
 have h4:=List.getElem_idxOf (List.idxOf_lt_length_iff.2 hb')
 rw [←h3,←h4]
 congr 1
theorem Qe {d:Nat} (h:0≤parent.getD d (-1)):ord.idxOf d<ord.length:=by
 obtain ⟨c,hc,_⟩:=T.par.line d h
 have hf:gk (aD ls on) pts d=true:=Up.fed T.par ⟨h,hc⟩
 exact List.idxOf_lt_length_iff.2 ((T.mem d).2 ⟨Gg h2 hf,hf⟩)
include h1 hr
theorem Lq:eX (pts.length:Int) ls feed parent (zl ord) pts=some (wo ls.length (lY ls on pts)):=by
 have hll:=h1.net.ll;have hB:=h1.net.b1
 have hol:ord.length≤pts.length:=rR _ ord T.nd fun b hb=>((T.mem b).1 hb).1
 have hf2: ∀c,c<pts.length→0≤(pts.getD c (0,0)).2∧(pts.getD c (0,0)).2≤999:=fun c hc=>(h2.bs c hc).2
 unfold eX
 have m1:sY (ls.length:Int)=true:=by simp [sY];omega
 have m2:sY (pts.length:Int)=true:=by simp [sY];omega
 have w0:ak (((zl ord).length:Int)-1)=(ord.length:Int)-1:=by rw [gH,aW (by omega) (by omega)]
 rw [m1,m2,aa,aa,w0]
 have P:=T.par
 have hh:=ba (eY (pts.length:Int) ls feed parent (zl ord) pts) (fun k=>(wo ls.length (QN ls on pts (fun b=>parent.getD b (-1)) (fun b=>ord.idxOf b) (ord.length-k)),wo pts.length (li ls on pts (fun b=>parent.getD b (-1)) (fun b=>ord.idxOf b) (ord.length-k)),(ord.length:Int)-(k:Int)-1)) ord.length (some (wo ls.length (lY ls on pts))) (by omega) (fun k fuel hk=>?_) (fun fuel=>?_)
 ·have e1:wo ls.length (QN ls on pts (fun b=>parent.getD b (-1)) (fun b=>ord.idxOf b) (ord.length-0))=List.replicate ls.length 0:=by
   rw [←Qj]
   refine rU fun j hj=>?_
   unfold QN
   rw [if_neg]
   rintro ⟨d,d1,_,d3⟩
   have:=Qe h2 T d1
   dsimp only at d3;omega
  have e2:wo pts.length (li ls on pts (fun b=>parent.getD b (-1)) (fun b=>ord.idxOf b) (ord.length-0))=List.replicate pts.length 0:=by
   rw [←Qj]
   refine rU fun j hj=>JT fun b hb=>?_
   rintro (⟨_,hF,hi⟩ |⟨d,d1,d2,_⟩)
   ·have:=List.idxOf_lt_length_iff.2 ((T.mem j).2 ⟨hj,hF⟩)
    dsimp only at hi;omega
   ·have:=Qe h2 T d1.1
    dsimp only at d2;omega
  rw [e1,e2] at hh
  rw [show (ord.length:Int)-1=(ord.length:Int)-((0:Nat):Int)-1 by omega,hh];rfl
 · -- the bus at i
  obtain ⟨i,hi⟩: ∃i,ord.length-k=i+1:=⟨ord.length-k-1,by omega⟩
  have hio:i<ord.length:=by omega
  have e0:(ord.length:Int)-(k:Int)-1=(i:Int):=by omega
  have e3:(ord.length:Int)-((k+1:Nat):Int)-1=(i:Int)-1:=by omega
  have e4:ord.length-(k+1)=i:=by omega
  rw [hi,e0,e3,e4,lT,ee]
  obtain ⟨o,ho⟩: ∃o,ord.getD i 0=o:=⟨_,rfl⟩
  have hom:o∈ord:=by rw [←ho,ae hio];exact List.getElem_mem hio
  obtain ⟨hon,hof⟩:=(T.mem o).1 hom
  have hrk:ord.idxOf o=i:=by rw [←ho];exact Rl T.nd hio
  have hpo:parent.getD o 0=parent.getD o (-1):=by rw [ae (by rw [T.lp];exact hon),ae (by rw [T.lp];exact hon)]
  have hinj:=Sb h2 T
  have hself:=Par.want_self P (i:=i) (o:=o) hrk hon hof
  have hnow:=Par.want_now P (i:=i) (o:=o) hrk hof
  have hb1:0≤jU ls on pts (fun b=>parent.getD b (-1)) o∧jU ls on pts (fun b=>parent.getD b (-1)) o≤999*pts.length:=yi hf2
  have ws:ak (li ls on pts (fun b=>parent.getD b (-1)) (fun b=>ord.idxOf b) (i+1) o+(pts.getD o (0,0)).2)=jU ls on pts (fun b=>parent.getD b (-1)) o:=by rw [hself];exact aW (by omega) (by omega)
  have wi:ak ((i:Int)-1)=(i:Int)-1:=aW (by omega) (by omega)
  have hge:bb 0 (i:Int)=true:=by simp [bb]
  have hxo:aI (o:Int) parent.length=true:=by rw [T.lp];exact ah hon
  simp only [hge,cond_true,gH,ah hio,aa,Int.toNat_natCast,vd,ho,ah hon,hxo,wq hon,ws,wi]
  by_cases hp:0≤parent.getD o (-1)
  ·obtain ⟨c,hlk,hc,hfc,hrc⟩:=P.line o hp
   obtain ⟨j,hj⟩: ∃j:Nat,parent.getD o (-1)=(j:Int):=⟨(parent.getD o (-1)).toNat,by omega⟩
   have hlk':=hlk
   rw [hj,Int.toNat_natCast] at hlk
   have hne:c≠o:=fun e=>by subst e;omega
   have u:Up ls on (fun b=>parent.getD b (-1)) o c:=⟨hp,hlk'⟩
   have hup:=Par.want_up P hinj hrk u
   have habove:ij (pts.length:Int) ls feed parent (zl ord) (o:Int)=some (c:Int):=by
    unfold ij
    rw [hxo,aa,Int.toNat_natCast,hpo,hj,ah hlk.1,aa,Int.toNat_natCast]
    obtain ⟨z,z1,z2⟩:=EU h1 (b:=o) hlk.1
    rw [z1,Option.bind_some]
    rcases z2 with ⟨_,z3⟩ |⟨c',rfl,_,_,z4⟩
    ·exact absurd hlk (z3 c)
    ·rw [z4 c hlk]
   have hgj:bb 0 (parent.getD o 0)=true:=by rw [hpo];simpa [bb] using hp
   have hxj:aI (parent.getD o 0) ls.length=true:=by rw [hpo,hj];exact ah hlk.1
   have hset1:((wo pts.length (li ls on pts (fun b=>parent.getD b (-1)) (fun b=>ord.idxOf b) (i+1))).set o (jU ls on pts (fun b=>parent.getD b (-1)) o)).getD o 0=jU ls on pts (fun b=>parent.getD b (-1)) o:=oO (by rw [wt];exact hon)
   have hset2:((wo pts.length (li ls on pts (fun b=>parent.getD b (-1)) (fun b=>ord.idxOf b) (i+1))).set o (jU ls on pts (fun b=>parent.getD b (-1)) o)).getD c 0=li ls on pts (fun b=>parent.getD b (-1)) (fun b=>ord.idxOf b) (i+1) c:=by rw [dW (Ne.symm hne),wq hc]
   have hb2:0≤li ls on pts (fun b=>parent.getD b (-1)) (fun b=>ord.idxOf b) i c∧li ls on pts (fun b=>parent.getD b (-1)) (fun b=>ord.idxOf b) i c≤999*pts.length:=yi hf2
   have wc:ak (li ls on pts (fun b=>parent.getD b (-1)) (fun b=>ord.idxOf b) (i+1) c+jU ls on pts (fun b=>parent.getD b (-1)) o)=li ls on pts (fun b=>parent.getD b (-1)) (fun b=>ord.idxOf b) i c:=by rw [←hup];exact aW (by omega) (by omega)
   simp only [hgj,cond_true,hxj,aa,habove,Option.bind_some,ah hc,ah hon,Int.toNat_natCast,hset1,hset2,wc]
   congr 2
   ·rw [hpo,hj,Int.toNat_natCast]
    have hfl:lY ls on pts (parent.getD o (-1)).toNat=jU ls on pts (fun b=>parent.getD b (-1)) o:=Par.flow P h1.len hr (d:=o) hp
    have hbel:jU ls on pts (fun b=>parent.getD b (-1)) o=lY ls on pts j:=by
     rw [hj,Int.toNat_natCast] at hfl
     exact hfl.symm
    refine ww hlk.1 ?_ fun k' hk' hne'=>?_
    ·unfold QN
     rw [if_pos ⟨o,hp,by dsimp only;rw [hj];rfl,by dsimp only;omega⟩,hbel]
    ·unfold QN
     by_cases hex: ∃d,0≤(fun b=>parent.getD b (-1)) d∧((fun b=>parent.getD b (-1)) d).toNat=k'∧i+1≤(fun b=>ord.idxOf b) d
     ·rw [if_pos hex]
      obtain ⟨d,d1,d2,d3⟩:=hex
      rw [if_pos ⟨d,d1,d2,by omega⟩]
     ·rw [if_neg hex,if_neg]
      rintro ⟨d,d1,d2,d3⟩
      refine hex ⟨d,d1,d2,?_⟩
      dsimp only at d1 d2 d3 ⊢
      rcases Nat.lt_or_ge i (ord.idxOf d) with h |h
      ·exact h
      ·exfalso
       obtain ⟨c',hc',_⟩:=P.line d d1
       have:d=o:=hinj d o (Up.fed P ⟨d1,hc'⟩) hof (by omega)
       subst this
       rw [hj] at d2
       exact hne' (by simpa using d2.symm)
   ·congr 1
    rw [ww (g:=fun x=>if x=o then jU ls on pts (fun b=>parent.getD b (-1)) o else li ls on pts (fun b=>parent.getD b (-1)) (fun b=>ord.idxOf b) (i+1) x) hon (if_pos rfl) (fun j' _ hj'=>if_neg hj')]
    refine ww hc rfl fun x hx hxc=>?_
    by_cases hxo2:x=o
    ·subst hxo2;rw [if_pos rfl];exact hnow
    ·rw [if_neg hxo2]
     exact Par.want_else P hinj hrk hof hxo2 fun u'=>hxc (u'.inj u).symm.symm
  ·have hgj:bb 0 (parent.getD o 0)=false:=by rw [hpo];simp only [bb,decide_eq_false_iff_not];exact hp
   simp only [hgj,cond_false,Option.bind_some]
   congr 2
   ·refine rU fun k' hk'=>?_
    unfold QN
    by_cases hex: ∃d,0≤(fun b=>parent.getD b (-1)) d∧((fun b=>parent.getD b (-1)) d).toNat=k'∧i+1≤(fun b=>ord.idxOf b) d
    ·rw [if_pos hex]
     obtain ⟨d,d1,d2,d3⟩:=hex
     rw [if_pos ⟨d,d1,d2,by omega⟩]
    ·rw [if_neg hex,if_neg]
     rintro ⟨d,d1,d2,d3⟩
     refine hex ⟨d,d1,d2,?_⟩
     dsimp only at d1 d2 d3 ⊢
     rcases Nat.lt_or_ge i (ord.idxOf d) with h |h
     ·exact h
     ·exfalso
      obtain ⟨c',hc',_⟩:=P.line d d1
      have:d=o:=hinj d o (Up.fed P ⟨d1,hc'⟩) hof (by omega)
      subst this
      exact hp d1
   ·congr 1
    refine ww hon hnow fun x hx hxo2=>?_
    exact Par.want_else P hinj hrk hof hxo2 fun u'=>hp u'.1
 ·rw [lT,ee]
  have e0:bb 0 ((ord.length:Int)-(ord.length:Int)-1)=false:=by simp only [bb,decide_eq_false_iff_not];omega
  simp only [e0,cond_false,Nat.sub_self]
  congr 1
  refine rU fun k hk=>?_
  unfold QN
  by_cases hex: ∃d,0≤(fun b=>parent.getD b (-1)) d∧((fun b=>parent.getD b (-1)) d).toNat=k∧0≤(fun b=>ord.idxOf b) d
  ·rw [if_pos hex]
  ·rw [if_neg hex]
   exact (Par.flow0 P h1.len hr fun d d1 d2=>hex ⟨d,d1,d2,Nat.zero_le _⟩).symm
omit hr in
theorem QZ {b:Nat} (hb:b<pts.length):il (pts.length:Int) ls feed parent (zl ord) pts (b:Int)=some (if bc pts b=true then oW (aD ls on) pts (·.2) b else 0):=by
 have hB:=h1.net.b1
 unfold il
 have hf2: ∀c,c<pts.length→0≤(pts.getD c (0,0)).2∧(pts.getD c (0,0)).2≤999:=fun c hc=>(h2.bs c hc).2
 have hbd: ∀k,k≤pts.length→0≤((List.range k).map fun c=>if feed.getD c 0=(b:Int) then (pts.getD c (0,0)).2 else 0).sum∧((List.range k).map fun c=>if feed.getD c 0=(b:Int) then (pts.getD c (0,0)).2 else 0).sum≤999*k:=by
  intro k
  induction k with
  |zero=>intro _;simp
  |succ k ih=>
   intro hk
   have i1:=ih (by omega)
   have i2:=hf2 k (by omega)
   rw [List.range_succ,List.map_append,List.sum_append]
   simp only [List.map_cons,List.map_nil,List.sum_cons,List.sum_nil]
   split<;>omega
 have hh:=ba (cL feed pts (b:Int)) (fun k=>(((List.range k).map fun c=>if feed.getD c 0=(b:Int) then (pts.getD c (0,0)).2 else 0).sum,(k:Int))) pts.length (some (((List.range pts.length).map fun c=>if feed.getD c 0=(b:Int) then (pts.getD c (0,0)).2 else 0).sum)) (by omega) (fun k fuel hk=>?_) (fun fuel=>?_)
 ·rw [show cL feed pts (b:Int) ao (0,0)=_ from hh,Option.bind_some]
  congr 1
  by_cases hfb:bc pts b=true
  ·rw [if_pos hfb]
   refine pM fun c hc=>?_
   have:=T.fd c b hc
   by_cases e:aN (aD ls on) c=aN (aD ls on) b
   ·rw [if_pos e,if_pos (this.2 ⟨hfb,((kF _ _ _).1 e).symm⟩)]
   ·rw [if_neg e,if_neg fun e2=>e ((kF _ _ _).2 (this.1 e2).2.symm)]
  ·rw [if_neg hfb]
   exact rK fun c hc=>if_neg fun e2=>hfb ((T.fd c b hc).1 e2).1
 ·rw [lU,ef]
  have hx:aI (k:Int) feed.length=true:=by rw [T.lf];exact ah hk
  have i1:=hbd k (by omega)
  have i2:=hf2 k hk
  have wk:ak (((List.range k).map fun c=>if feed.getD c 0=(b:Int) then (pts.getD c (0,0)).2 else 0).sum+(pts.getD k (0,0)).2)=((List.range k).map fun c=>if feed.getD c 0=(b:Int) then (pts.getD c (0,0)).2 else 0).sum+(pts.getD k (0,0)).2:=aW (by omega) (by omega)
  have hlt:am (k:Int) (feed.length:Int)=true:=by rw [T.lf];exact aK hk
  simp only [hlt,cond_true,hx,aa,Int.toNat_natCast,ah hk,wk,ai (by omega:k<4611686018427387904)]
  rw [List.range_succ,List.map_append,List.sum_append]
  simp only [List.map_cons,List.map_nil,List.sum_cons,List.sum_nil]
  by_cases e:feed.getD k 0=(b:Int)
  ·rw [if_pos e,show (feed.getD k 0==(b:Int))=true by rw [e];simp]
   simp
  ·rw [if_neg e,show (feed.getD k 0==(b:Int))=false by simpa using e]
   simp
 ·rw [lU,ef]
  have hlt:am (pts.length:Int) (feed.length:Int)=false:=by rw [T.lf];exact av
  simp only [hlt,cond_false]
theorem UE:iS (pts.length:Int) ls feed parent (zl ord) pts=some (iX ls on pts):=by
 have hll:=h1.net.ll;have hB:=h1.net.b1
 unfold iS iX
 rw [Lq h1 h2 hr T,Option.bind_some,hr]
 have a1:=cc (dp ls (wo ls.length (lY ls on pts))) (fun k=>(k:Int)) ls.length (fun k=>decide ((ls.getD k (0,0,0)).2.2<lY ls on pts k)) (some (.inr false)) (some (.inl ())) (by omega) (fun k fuel hk=>?_) (fun fuel=>?_)
 ·have a2:=cc (dq (pts.length:Int) ls feed parent (zl ord) pts) (fun k=>(k:Int)) pts.length (fun b=>bc pts b&&decide ((pts.getD b (0,0)).1<oW (aD ls on) pts (·.2) b)) (some (.inr false)) (some (.inl ())) (by omega) (fun k fuel hk=>?_) (fun fuel=>?_)
  ·rw [show dp ls (wo ls.length (lY ls on pts)) ao 0=_ from a1,show dq (pts.length:Int) ls feed parent (zl ord) pts ao 0=_ from a2]
   cases (List.range ls.length).any fun k=>decide ((ls.getD k (0,0,0)).2.2<lY ls on pts k)
   ·cases (List.range pts.length).any fun b=>bc pts b&&decide ((pts.getD b (0,0)).1<oW (aD ls on) pts (·.2) b)<;>rfl
   ·rfl
  ·rw [mw,fa]
   simp only [aK hk,ah hk,cond_true,aa,Int.toNat_natCast,QZ h1 h2 T hk,Option.bind_some,ai (by omega:k<4611686018427387904)]
   have:=(h2.bs k hk).1
   cases hfa:bc pts k
   ·have:am (pts.getD k (0,0)).1 (if false=true then oW (aD ls on) pts (·.2) k else 0)=false:=by
     simp only [Bool.false_eq_true,if_false,am,decide_eq_false_iff_not];omega
    rw [this];rfl
   ·rfl
  ·rw [mw,fa];simp only [av,cond_false]
 ·rw [mv,eZ]
  simp only [wt,aK hk,ah hk,cond_true,aa,Int.toNat_natCast,wq hk,ai (by omega:k<4611686018427387904)]
  rfl
 ·rw [mv,eZ];simp only [wt,av,cond_false]
end
theorem Ls (b:Int) (ls:List Ln) (on:List Bool) (pts:List (Int×Int)) (hp:pts.length≤1048576):kK b ls on pts=some (Gx b ls on pts&&iX ls on pts):=by
 obtain ⟨r,r1,r2,r3⟩:=Ly b ls on pts hp
 unfold kK
 rw [r1,Option.bind_some,r2]
 cases hv:rE b ls on pts
 ·simp only [qY,Option.bind_some,Bool.false_and]
  congr 1
  cases ho:Gx b ls on pts
  ·rfl
  ·cases hg:iX ls on pts
   ·rfl
   ·have:=Ek hg
    unfold rE at hv
    rw [ho,this] at hv;cases hv
 ·obtain ⟨g1,g2,ord,g3,T⟩:=r3 hv
  have hv':=hv
  unfold rE at hv'
  rw [Bool.and_eq_true] at hv'
  obtain ⟨h1,h2⟩:=jC.1 hv'.1
  have hlp:=h2.lp
  subst hlp
  rw [g1,g2,g3,show Rm true ls=ls from rfl,UE h1 h2 hv'.2 T,hv'.1]
  simp only [kf,Option.bind_some,Bool.true_and]
section
variable {ls:List Ln} {on:List Bool} {pts:List (Int×Int)} (h1:StOk (pts.length:Int) ls on) (h2:BusOk (pts.length:Int) ls pts)
include h1 h2
end
structure PI (ls:List Ln) (on:List Bool) (pts:List (Int×Int)) (q:Nat→Int):Prop where
 feed: ∀b,b<pts.length→bc pts b=true→q b= -1
 neg: ∀b,b<pts.length→q b= -1→bc pts b=true
 low: ∀b,b<pts.length→ -2≤q b
 hi: ∀b,b<pts.length→0≤q b→(q b).toNat<ls.length
 rk: ∃rk:Nat→Nat,∀b,b<pts.length→0≤q b→ ∃c,Lk ls on (q b).toNat b c∧c<pts.length∧ -2<q c∧rk c<rk b
theorem PI.put {ls:List Ln} {on:List Bool} {pts:List (Int×Int)} {q:Nat→Int} (h:PI ls on pts q) {k b c:Nat} (hb:b<pts.length) (hq:q b= -2) (hl:Lk ls on k b c) (hc:c<pts.length) (hqc: -2<q c):PI ls on pts (fun x=>if x=b then (k:Int) else q x):=by
 obtain ⟨rk,hrk⟩:=h.rk
 have hcb:c≠b:=fun e=>by subst e;omega
 refine ⟨fun x hx hf=>?_,fun x hx he=>?_,fun x hx=>?_,fun x hx h0=>?_,fun x=>if x=b then rk c+1 else rk x,fun x hx h0=>?_⟩
 ·try dsimp only
  split
  ·rename_i e;subst e;have:=h.feed x hx hf;omega
  ·exact h.feed x hx hf
 ·try dsimp only at he
  split at he
  ·omega
  ·exact h.neg x hx he
 ·try dsimp only
  split
  ·omega
  ·exact h.low x hx
 ·try dsimp only at h0 ⊢
  split at h0
  ·rename_i e;rw [if_pos e];simpa using hl.1
  ·rename_i e;rw [if_neg e];exact h.hi x hx h0
 ·try dsimp only at h0 ⊢
  by_cases e:x=b
  ·subst e
   rw [if_pos rfl,if_pos rfl]
   refine ⟨c,by simpa using hl,hc,?_,?_⟩
   ·rw [if_neg hcb];exact hqc
   ·rw [if_neg hcb];omega
  ·rw [if_neg e] at h0 ⊢
   obtain ⟨d,d1,d2,d3,d4⟩:=hrk x hx h0
   have hdb:d≠b:=fun e2=>by subst e2;omega
   refine ⟨d,d1,d2,?_,?_⟩
   ·rw [if_neg hdb];exact d3
   ·rw [if_neg hdb,if_neg e];exact d4
section
variable {ls:List Ln} {on:List Bool} {pts:List (Int×Int)} (h1:StOk (pts.length:Int) ls on) (h2:BusOk (pts.length:Int) ls pts)
include h1 h2
end
theorem Fu (E:Ed) (pts:List (Int×Int)) (f:Int×Int→Int) (p:Nat→Bool) (hl: ∀c,c<pts.length→aN E c<8): ∀k,k≤pts.length→((List.range 8).map fun j=>if p j=true then jg E pts f k j else 0).sum=((List.range k).map fun c=>if p (aN E c)=true then f (pts.getD c (0,0)) else 0).sum
 |0,_=>by
  rw [rK fun j _=>by rw [MO];simp];rfl
 |k+1,hk=>by
  have ih:=Fu E pts f p hl k (by omega)
  have hlk:=hl k (by omega)
  rw [IJ (g:=fun j=>if p j=true then jg E pts f k j else 0) (h:=fun j=>if j=aN E k then (if p j=true then f (pts.getD k (0,0)) else 0) else 0) (fun j _=>by
   rw [Dr]
   by_cases h1:p j=true
   ·rw [if_pos h1,if_pos h1]
    by_cases h2:aN E k=j
    ·rw [if_pos h2,if_pos h2.symm,if_pos h1]
    ·rw [if_neg h2,if_neg (Ne.symm h2)]
   ·rw [if_neg h1,if_neg h1];simp [h1]),ih,II (fun j=>if p j=true then f (pts.getD k (0,0)) else 0) hlk,List.range_succ,List.map_append,List.sum_append]
  simp
theorem MJ {E:Ed} {pts:List (Int×Int)} (hl: ∀c,c<pts.length→aN E c<8):((List.range 8).map fun j=>if bb (jg E pts (·.2) pts.length j) (jg E pts (·.1) pts.length j)=true then jg E pts (·.2) pts.length j else 0).sum=be E pts:=by
 rw [Fu E pts (·.2) (fun j=>bb (jg E pts (·.2) pts.length j) (jg E pts (·.1) pts.length j)) hl pts.length (Nat.le_refl _)]
 unfold be
 refine pM fun b hb=>?_
 rw [GX,GX]
 by_cases h:jg E pts (·.2) pts.length (aN E b)≤jg E pts (·.1) pts.length (aN E b)
 ·rw [if_pos h,if_pos (show bb _ _=true from decide_eq_true h)]
 ·rw [if_neg h,if_neg (by simp only [bb,decide_eq_true_eq];exact h)]
theorem LJ {b:Int} {ls:List Ln} {pts:List (Int×Int)} (h:BusOk b ls pts) (E:Ed): ∀c,c<pts.length→aN E c<8:=by
 intro c hc
 have h1:=(LI E).1 c
 have:=(DO h).1
 omega
theorem HN {b:Int} {ls:List Ln} {on:List Bool} {pts:List (Int×Int)} (h1:StOk b ls on) (h2:BusOk b ls pts):eV b ls on pts=some (be (aD ls on) pts):=by
 have hl8:=LJ h2 (aD ls on)
 obtain ⟨b1,b2⟩:=DO h2
 unfold eV
 rw [PQ h1 h2,Option.bind_some,←MJ hl8]
 have hb: ∀j,0≤jg (aD ls on) pts (·.2) pts.length j∧jg (aD ls on) pts (·.2) pts.length j≤7992:=fun j=>by
  have:=qg (aD ls on) pts (·.2) (fun c hc=>(h2.bs c hc).2) j pts.length (Nat.le_refl _);omega
 generalize hS:jg (aD ls on) pts (·.2) pts.length=S at*
 generalize jg (aD ls on) pts (·.1) pts.length=F at*
 have hbd: ∀k,0≤((List.range k).map fun j=>if bb (S j) (F j)=true then S j else 0).sum∧((List.range k).map fun j=>if bb (S j) (F j)=true then S j else 0).sum≤7992*k:=by
  intro k
  induction k with
  |zero=>simp
  |succ k ih=>
   have:=hb k
   rw [List.range_succ,List.map_append,List.sum_append]
   simp only [List.map_cons,List.map_nil,List.sum_cons,List.sum_nil]
   split<;>omega
 have hh:=ba (cK (MR F S)) (fun k=>(((List.range k).map fun j=>if bb (S j) (F j)=true then S j else 0).sum,(k:Int))) 8 (some (((List.range 8).map fun j=>if bb (S j) (F j)=true then S j else 0).sum)) (by omega) (fun k fuel hk=>?_) (fun fuel=>?_)
 ·rw [show cK (MR F S) ao (0,0)=_ from hh];rfl
 ·rw [lS,eb]
  have i1:=hbd k
  have i2:=hb k
  have w1:ak (((List.range k).map fun j=>if bb (S j) (F j)=true then S j else 0).sum+S k)=((List.range k).map fun j=>if bb (S j) (F j)=true then S j else 0).sum+S k:=aW (by omega) (by omega)
  have hlt:am (k:Int) 8=true:=decide_eq_true (by omega)
  dsimp only [MR]
  simp only [hlt,ah hk,cond_true,aa,Int.toNat_natCast,QS _ hk,w1,ai (by omega:k<4611686018427387904)]
  have e:((List.range (k+1)).map fun j=>if bb (S j) (F j)=true then S j else 0).sum=((List.range k).map fun j=>if bb (S j) (F j)=true then S j else 0).sum+(if bb (S k) (F k)=true then S k else 0):=by
   rw [List.range_succ,List.map_append,List.sum_append];simp
  rw [e]
  cases bb (S k) (F k)<;>simp only [cond_false,cond_true,Option.bind_some,Bool.false_eq_true,if_false,if_true,Int.add_zero,Int.natCast_add,Int.natCast_one,Int.ofNat_one]
 ·rw [lS,eb];rfl
theorem vv {b:Int} {ls:List Ln} {pts:List (Int×Int)} (h:BusOk b ls pts) (E:Ed):0≤be E pts∧be E pts≤7992:=by
 obtain ⟨b1,b2⟩:=DO h
 have: ∀k,k≤pts.length→0≤((List.range k).map fun b=>if oW E pts (·.2) b≤oW E pts (·.1) b then (pts.getD b (0,0)).2 else 0).sum∧((List.range k).map fun b=>if oW E pts (·.2) b≤oW E pts (·.1) b then (pts.getD b (0,0)).2 else 0).sum≤999*k:=by
  intro k
  induction k with
  |zero=>intro _;simp
  |succ k ih=>
   intro hk
   have i1:=ih (by omega)
   have i2:=(h.bs k (by omega)).2
   rw [List.range_succ,List.map_append,List.sum_append]
   simp only [List.map_cons,List.map_nil,List.sum_cons,List.sum_nil]
   split<;>omega
 have h2:=this pts.length (Nat.le_refl _)
 unfold be
 omega
section
variable {a c:List Bool} (hl:a.length=c.length) (ha:a.length≤1048576)
include hl ha
theorem Lp:kJ a c=some (zl (jS a c)):=by
 unfold kJ
 have e:((a.length:Int) !=(c.length:Int))=false:=by rw [hl];simp
 rw [e]
 have hh:=vt (hH a c) a.length (fun k=>a.getD k false !=c.getD k false) some (by omega) (fun k fuel l hk hp=>?_) (fun fuel l=>?_)
 ·rw [hh];rfl
 ·rw [nW,gl]
  simp only [aK hk,ah hk,ah (show k<c.length by omega),cond_true,aa,Int.toNat_natCast,hp,ai (by omega:k<4611686018427387904)]
  cases a.getD k false !=c.getD k false<;>rfl
 ·rw [nW,gl];simp only [av,cond_false]
end
theorem Ip {n:Nat} (h:n≤10):rM .i64 1 (n:Int)=((2 ^ n:Nat):Int):=by
 have:n=0∨n=1∨n=2∨n=3∨n=4∨n=5∨n=6∨n=7∨n=8∨n=9∨n=10:=by omega
 rcases this with rfl |rfl |rfl |rfl |rfl |rfl |rfl |rfl |rfl |rfl |rfl<;>decide
theorem Pk {x k:Nat} (hk:k≤64):gV .i64 (x:Int) (k:Int)=((x>>>k:Nat):Int):=by
 unfold gV
 rw [show min (k:Int).toNat (IntKind.bits .i64)=k by rw [Int.toNat_natCast];exact Nat.min_eq_left hk,Nat.shiftRight_eq_div_pow]
 rw [Int.fdiv_eq_ediv_of_nonneg _ (by exact Int.le_of_lt (Int.pow_pos (by decide)))]
 norm_cast
theorem Ny {x:Nat} (h:x<4611686018427387904):lF .i64 (x:Int) 1=((x % 2:Nat):Int):=by
 have e:lF .i64 (x:Int) 1=ak ((BitVec.ofInt 64 (x:Int)&&&BitVec.ofInt 64 1).toNat:Int):=rfl
 have h1:(BitVec.ofInt 64 (x:Int)).toNat=x:=by rw [BitVec.ofInt_natCast,BitVec.toNat_ofNat,Nat.mod_eq_of_lt (by omega)]
 have h2:(BitVec.ofInt 64 1).toNat=1:=by decide
 rw [e,BitVec.toNat_and,h1,h2,Nat.and_one_is_mod,aW (by omega) (by omega)]
theorem NE {x k:Nat} (hx:x<4611686018427387904) (hk:k≤64):(lF .i64 (gV .i64 (x:Int) (k:Int)) 1==1)=x.testBit k:=by
 have h1:x>>>k≤x:=Nat.shiftRight_le x k
 rw [Pk hk,Ny (by omega)]
 rw [Nat.testBit,Nat.one_and_eq_mod_two]
 rcases Nat.mod_two_eq_zero_or_one (x>>>k) with h |h<;>rw [h]<;>rfl
theorem Lw {x n:Nat} (hx:x<4611686018427387904) (hn:n≤10):kM (x:Int) (n:Int)=some (cE n x):=by
 unfold kM
 have hm:sY (n:Int)=true:=by simp [sY];omega
 rw [hm,aa,Int.toNat_natCast]
 have hh:=ba (eW (x:Int) (n:Int)) (fun k=>(mix n k (fun i=>x.testBit i) (fun _=>false),(k:Int))) n (some (cE n x)) (by omega) (fun k fuel hk=>?_) (fun fuel=>?_)
 ·have e:mix n 0 (fun i=>x.testBit i) (fun _=>false)=List.replicate n false:=by
   apply List.ext_getElem (by simp [mix])
   intro i h1 h2
   simp [mix]
  rw [e] at hh
  rw [show eW (x:Int) (n:Int) ao (List.replicate n false,0)=_ from hh];rfl
 ·rw [nY,gw]
  have hnn:No (k:Int)=true:=by simp [No]
  simp only [Int.toNat_natCast,aK hk,hnn,ah hk,cond_true,aa,NE hx (by omega:k≤64),ai (by omega:k<4611686018427387904)]
  rw [CH (f:=fun i=>x.testBit i) (g:=fun _=>false) hk]
 ·rw [nY,gw]
  simp only [Int.toNat_natCast,av,cond_false]
  congr 1
  unfold mix cE
  refine List.map_congr_left fun i hi=>?_
  rw [if_pos (by simpa using hi)]
def Jf (E:List Bool→Int) (C:List Bool→Nat):Option (List Bool)→List Bool×Int×Int
 |none=>([],-1,0)
 |some y=>(y,E y,(C y:Int))
def Me:Option (List Bool)→List Bool×Bool
 |none=>([],false)
 |some y=>(y,true)
theorem and_zero (x:Int):lF .i64 x 0=0:=by
 unfold lF
 rw [show BitVec.ofInt (IntKind.bits .i64) 0=0#(IntKind.bits .i64) from rfl,BitVec.and_zero];rfl
section
variable {ls:List Ln} {on:List Bool} {pts:List (Int×Int)} (h1:StOk (pts.length:Int) ls on) (h2:BusOk (pts.length:Int) ls pts) (h0:1≤ls.length)
include h1 h2 h0
theorem IW (num:Nat):StOk (pts.length:Int) ls (cE ls.length num)∧(on.length=(cE ls.length num).length)∧Gx (pts.length:Int) ls (cE ls.length num) pts=true:=by
 have e:(cE ls.length num).length=ls.length:=yf _ _
 have hs:StOk (pts.length:Int) ls (cE ls.length num):=⟨h1.net,e⟩
 exact ⟨hs,h1.len.trans e.symm,jC.2 ⟨hs,h2⟩⟩
theorem IU (num:Nat):jD (fun x=>iX ls x pts) (fun x=>be (aD ls x) pts) (fun x=>(jS on x).length) ((List.range (num+1)).map (cE ls.length))=wL (fun x=>iX ls x pts) (fun x=>be (aD ls x) pts) (fun x=>(jS on x).length) (jD (fun x=>iX ls x pts) (fun x=>be (aD ls x) pts) (fun x=>(jS on x).length) ((List.range num).map (cE ls.length))) (cE ls.length num):=by
 rw [List.range_succ,List.map_append];exact ve _ _ _ _ _
theorem PH:dJ (pts.length:Int) ls on pts []=some (Me (gf ls on pts)):=by
 have hll:=h1.net.ll;have hB:=h1.net.b1;have hl:=h1.len
 have hp:2 ^ ls.length≤1024:=by
  have:=Nat.pow_le_pow_right (show 0<2 by decide) hll
  omega
 unfold dJ
 have l1:mE (pts.length:Int) ls [] ao (0,0)=some 0:=by rw [yQ];rfl
 have hnn:No (ls.length:Int)=true:=by simp [No]
 rw [Oj _ ls pts (by omega),jC.2 ⟨h1,h2⟩,Option.bind_some,cond_true,l1,Option.bind_some,hnn,aa]
 have hh:=ba (dh (pts.length:Int) ls on pts 0) (fun num=>((Jf (fun x=>be (aD ls x) pts) (fun x=>(jS on x).length) (jD (fun x=>iX ls x pts) (fun x=>be (aD ls x) pts) (fun x=>(jS on x).length) ((List.range num).map (cE ls.length)))).1,(Jf (fun x=>be (aD ls x) pts) (fun x=>(jS on x).length) (jD (fun x=>iX ls x pts) (fun x=>be (aD ls x) pts) (fun x=>(jS on x).length) ((List.range num).map (cE ls.length)))).2.1,(Jf (fun x=>be (aD ls x) pts) (fun x=>(jS on x).length) (jD (fun x=>iX ls x pts) (fun x=>be (aD ls x) pts) (fun x=>(jS on x).length) ((List.range num).map (cE ls.length)))).2.2,(num:Int))) (2 ^ ls.length)
  (some (Jf (fun x=>be (aD ls x) pts) (fun x=>(jS on x).length) (gf ls on pts)).1) (by omega) (fun num fuel hk=>?_) (fun fuel=>?_)
 ·rw [show dh (pts.length:Int) ls on pts 0 ao (([]:List Bool),-1,0,0)=_ from hh,Option.bind_some]
  cases hb:gf ls on pts with
  |none=>rfl
  |some y=>
   have:=(sC hb).1
   cases y with
   |nil=>simp at this;omega
   |cons z y=>rfl
 ·rw [mj,eG,IU h1 h2 h0]
  obtain ⟨f1,f2,f3⟩:=IW h1 h2 h0 num
  have hsv:=vv h2 (aD ls (cE ls.length num))
  have hcl:(zl (jS on (cE ls.length num))).length=(jS on (cE ls.length num)).length:=gH _
  have hlt:am (num:Int) ((2 ^ ls.length:Nat):Int)=true:=aK hk
  have hne:(!(List.isEmpty (cE ls.length num)))=true:=by
   have:(cE ls.length num).length=ls.length:=yf _ _
   cases hst:cE ls.length num with
   |nil=>rw [hst] at this;simp at this;omega
   |cons=>rfl
  simp only [Ip hll,hlt,cond_true,and_zero,Lw (show num<4611686018427387904 by omega) hll,Option.bind_some,HN f1 h2,Lp f2 (by omega),Ls _ ls _ pts (by omega),f3,Bool.true_and,hcl,hne,aa,ai (by omega:num<4611686018427387904)]
  generalize jD (fun x=>iX ls x pts) (fun x=>be (aD ls x) pts) (fun x=>(jS on x).length) ((List.range num).map (cE ls.length))=a
  have e0:((0:Int) !=0)=false:=rfl
  simp only [e0,cond_false]
  cases a with
  |none=>
   dsimp only [Jf]
   have c1:am (be (aD ls (cE ls.length num)) pts) (-1)=false:=decide_eq_false (by omega)
   have c2:am (-1) (be (aD ls (cE ls.length num)) pts)=true:=decide_eq_true (by omega)
   have hb:wL (fun x=>iX ls x pts) (fun x=>be (aD ls x) pts) (fun x=>(jS on x).length) none (cE ls.length num)=if iX ls (cE ls.length num) pts=true then some (cE ls.length num) else none:=by
    unfold wL wJ;simp only [Bool.and_true]
   simp only [c1,c2,cond_false,Bool.true_or,kf,Option.bind_some,Bool.true_and,hb]
   generalize iX ls (cE ls.length num) pts=g
   cases g<;>rfl
  |some z=>
   have hb:wL (fun x=>iX ls x pts) (fun x=>be (aD ls x) pts) (fun x=>(jS on x).length) (some z) (cE ls.length num)=if (iX ls (cE ls.length num) pts&&(decide (be (aD ls z) pts<be (aD ls (cE ls.length num)) pts) ||(decide (be (aD ls z) pts=be (aD ls (cE ls.length num)) pts)&&decide ((jS on (cE ls.length num)).length<(jS on z).length))))=true then some (cE ls.length num) else some z:=rfl
   rw [hb]
   dsimp only [Jf]
   generalize iX ls (cE ls.length num) pts=g
   by_cases c1:be (aD ls (cE ls.length num)) pts<be (aD ls z) pts
   ·have d1:decide (be (aD ls z) pts<be (aD ls (cE ls.length num)) pts)=false:=decide_eq_false (by omega)
    have d2:decide (be (aD ls z) pts=be (aD ls (cE ls.length num)) pts)=false:=decide_eq_false (by omega)
    rw [show am (be (aD ls (cE ls.length num)) pts) (be (aD ls z) pts)=true from decide_eq_true c1]
    simp only [cond_true,Option.bind_some,d1,d2,Bool.false_and,Bool.or_self,Bool.and_false,Bool.false_eq_true,if_false]
   ·rw [show am (be (aD ls (cE ls.length num)) pts) (be (aD ls z) pts)=false from decide_eq_false c1]
    have d3:(am (be (aD ls z) pts) (be (aD ls (cE ls.length num)) pts) ||am ((jS on (cE ls.length num)).length:Int) ((jS on z).length:Int))=(decide (be (aD ls z) pts<be (aD ls (cE ls.length num)) pts) ||(decide (be (aD ls z) pts=be (aD ls (cE ls.length num)) pts)&&decide ((jS on (cE ls.length num)).length<(jS on z).length))):=by
     rw [Bool.eq_iff_iff];simp only [am,Bool.or_eq_true,Bool.and_eq_true,decide_eq_true_eq];omega
    simp only [cond_false,d3]
    generalize (decide (be (aD ls z) pts<be (aD ls (cE ls.length num)) pts) ||(decide (be (aD ls z) pts=be (aD ls (cE ls.length num)) pts)&&decide ((jS on (cE ls.length num)).length<(jS on z).length)))=d
    cases d<;>cases g<;>rfl
 ·rw [mj,eG]
  simp only [Ip hll,av,cond_false]
  rfl
end
theorem lL {m n:Nat} (h:m+n≤1099511627776):bp m n=true:=by simp only [bp,decide_eq_true_eq];omega
def ET (a b:List Bool):List (Int×Bool):=(((List.range a.length).filter fun i=>a.getD i false&& !b.getD i false).map fun (i:Nat)=>((i:Int),false))++(((List.range a.length).filter fun i=>b.getD i false&& !a.getD i false).map fun (i:Nat)=>((i:Int),true))
def HI (n:Nat) (p:Nat→Bool) (t:Bool):List (Int×Bool):=((List.range n).filter p).map fun (i:Nat)=>((i:Int),t)
theorem Ux (n:Nat) (p:Nat→Bool) (t:Bool):HI (n+1) p t=if p n then HI n p t++ [((n:Int),t)] else HI n p t:=by
 unfold HI
 rw [List.range_succ,List.filter_append,List.filter_cons,List.filter_nil]
 cases p n<;>simp
theorem vW (n:Nat) (p:Nat→Bool) (t:Bool):(HI n p t).length≤n:=by
 unfold HI
 rw [List.length_map]
 have:=List.length_filter_le p (List.range n)
 rwa [List.length_range] at this
section
variable {a c:List Bool} (hl:a.length=c.length) (ha:a.length≤10)
include hl ha
theorem Ri:kL a c=some (ET a c):=by
 unfold kL
 have e:((a.length:Int) !=(c.length:Int))=false:=by rw [hl];simp
 have e2:am 10 (a.length:Int)=false:=decide_eq_false (by omega)
 rw [e,e2]
 have hh:=ba (eM a c) (fun k=>(HI k (fun i=>a.getD i false&& !c.getD i false) false,HI k (fun i=>c.getD i false&& !a.getD i false) true,(k:Int))) a.length (some (HI a.length (fun i=>a.getD i false&& !c.getD i false) false,HI a.length (fun i=>c.getD i false&& !a.getD i false) true)) (by omega) (fun k fuel hk=>?_) (fun fuel=>?_)
 ·have g1:=vW a.length (fun i=>a.getD i false&& !c.getD i false) false
  have g2:=vW a.length (fun i=>c.getD i false&& !a.getD i false) true
  have ap:bp (HI a.length (fun i=>a.getD i false&& !c.getD i false) false).length (HI a.length (fun i=>c.getD i false&& !a.getD i false) true).length=true:=lL (by omega)
  simp only [Bool.or_self,cond_false]
  rw [show eM a c ao (([]:List (Int×Bool)),([]:List (Int×Bool)),0)=_ from hh,Option.bind_some,ap];rfl
 ·rw [nX,gm]
  have g1:=vW k (fun i=>a.getD i false&& !c.getD i false) false
  have g2:=vW k (fun i=>c.getD i false&& !a.getD i false) true
  have p1: ∀x:Int×Bool,bp (HI k (fun i=>a.getD i false&& !c.getD i false) false).length ([x]:List (Int×Bool)).length=true:=fun x=>lL (by simp only [List.length_singleton];omega)
  have p2: ∀x:Int×Bool,bp (HI k (fun i=>c.getD i false&& !a.getD i false) true).length ([x]:List (Int×Bool)).length=true:=fun x=>lL (by simp only [List.length_singleton];omega)
  simp only [aK hk,ah hk,ah (show k<c.length by omega),cond_true,aa,Bool.or_true,Int.toNat_natCast,p1,p2,Ux,ai (by omega:k<4611686018427387904)]
  cases a.getD k false<;>cases c.getD k false<;>rfl
 ·rw [nX,gm];simp only [av,cond_false]
end
def xV (on:List Bool):Option (List Bool)→List (Int×Bool)×Bool
 |none=>([],false)
 |some y=>(ET on y,true)
section
variable {ls:List Ln} {on:List Bool} {pts:List (Int×Int)} (h1:StOk (pts.length:Int) ls on) (h2:BusOk (pts.length:Int) ls pts) (h0:1≤ls.length)
include h1 h2 h0
theorem Lt:fC (pts.length:Int) ls on pts []=some (xV on (gf ls on pts)):=by
 have hll:=h1.net.ll;have hl:=h1.len
 unfold fC
 rw [PH h1 h2 h0,Option.bind_some]
 cases hb:gf ls on pts with
 |none=>rfl
 |some y=>
  have hy:=(sC hb).1
  dsimp only [Me,xV]
  rw [Ri (hl.trans hy.symm) (by omega)];rfl
end
section
variable (on earth:List Bool) (pm:Pm) (line:Int) (ho:on.length≤1048576) (hp:pm.length≤1048576)
include ho hp
theorem Qg:db on earth pm line=some (if jR on earth pm then cA pm line else []):=by
 unfold db
 cases hv:jR on earth pm
 ·rw [yQ,jG,dt]
  simp only [Di on earth pm ho hp,hv]
  cases am (0:Int) (pm.length:Int)<;>simp [gb]
 ·have h:=ba (gC on earth pm line) (fun k=>(cA (pm.take k) line,(k:Int))) pm.length (some (cA pm line)) (by omega) (fun k fuel hk=>?_) (fun fuel=>?_)
  ·rw [show (([]:List Int),(0:Int))=(cA (pm.take 0) line,((0:Nat):Int)) from rfl,h];rfl
  ·rw [jG,dt]
   have hb:=xl (pm.take k) line
   have ha: ∀x:Int,bp (cA (pm.take k) line).length [x].length=true:=fun x=>by simp [bp];simp at hb;omega
   simp only [aK hk,ah hk,aa,cond_true,Int.toNat_natCast,Di on earth pm ho hp,hv,gb,Option.bind_some,Bool.and_self,ha,ai (by omega:k<4611686018427387904)]
   rw [zi hk]
   cases (pm.getD k (0,0)).2==line<;>rfl
  ·rw [jG,dt];simp [av,gb]
theorem UG:jr on earth pm line=some (if jR on earth pm then cA pm line else []):=by
 unfold jr
 rw [Gm on earth pm ho hp]
 cases hv:jR on earth pm
 ·rfl
 ·have h:=ba (gn pm line) (fun k=>(cA (pm.take k) line,(k:Int))) pm.length (some (cA pm line)) (by omega) (fun k fuel hk=>?_) (fun fuel=>?_)
  ·simp only [Option.bind_some,cond_true]
   rw [show (([]:List Int),(0:Int))=(cA (pm.take 0) line,((0:Nat):Int)) from rfl,h];rfl
  ·rw [mU,fE]
   have hb:=xl (pm.take k) line
   have ha: ∀x:Int,bp (cA (pm.take k) line).length [x].length=true:=fun x=>by simp [bp];simp at hb;omega
   simp only [aK hk,ah hk,aa,cond_true,Int.toNat_natCast,ha,ai (by omega:k<4611686018427387904)]
   rw [zi hk]
   cases (pm.getD k (0,0)).2==line<;>rfl
  ·rw [mU,fE];simp [av]
end
section
variable (w:Wk) (kd a who:Int) (ho:w.1.length≤1048576) (he:w.2.1.length≤1048576) (hp:w.2.2.length≤1048576)
include ho hp he
omit he in
theorem UJ (hv:jR w.1 w.2.1 w.2.2=true) (ha:0≤a∧a<(w.1.length:Int)):js w.1 w.2.1 w.2.2 kd a who=some (dV w kd a who):=by
 have ok:=pN.1 hv
 have c1:aI a w.1.length=true:=decide_eq_true (by omega)
 have c2:aI a w.2.1.length=true:=decide_eq_true (by have:=ok.le;omega)
 unfold js dV
 rw [c1,c2,Ra _ _ _ (by omega),UG _ _ _ _ ho hp,hv]
 simp only [aa,Option.bind_some,if_true,Ig]
 by_cases k0:kd=0
 ·subst k0;simp
 by_cases k1:kd=1
 ·subst k1;simp
 by_cases k2:kd=2
 ·subst k2;simp
 by_cases k3:kd=3
 ·subst k3;cases w.2.1.getD a.toNat false<;>simp
 by_cases k4:kd=4
 ·subst k4
  simp only [show ((4:Int)==0)=false from rfl,show ((4:Int)==2)=false from rfl,show ((4:Int)==1)=false from rfl,show ((4:Int)==3)=false from rfl,show ((4:Int)==4)=true from rfl,cond_false,cond_true,Option.bind_some]
  rw [if_neg (by omega),if_neg (by omega),if_neg (by omega),if_pos trivial,lw]
  have c6:am (w.2.2.length:Int) 6=decide (w.2.2.length<6):=by simp only [am];exact decide_eq_decide.2 (by omega)
  rw [c6]
  cases w.2.1.getD a.toNat false<;>cases decide ((who,a)∈w.2.2)<;>simp
 by_cases k5:kd=5
 ·subst k5;simp
 ·have e0:(kd==0)=false:=by simpa using k0
  have e1:(kd==1)=false:=by simpa using k1
  have e2:(kd==2)=false:=by simpa using k2
  have e3:(kd==3)=false:=by simpa using k3
  have e4:(kd==4)=false:=by simpa using k4
  have e5:(kd==5)=false:=by simpa using k5
  simp [k0,k1,k2,k3,k4,k5,e0,e1,e2,e3,e4,e5]
omit he in
theorem Vq (hv:jR w.1 w.2.1 w.2.2=true) (ha:0≤a∧a<(w.1.length:Int)):lJ w.1 w.2.1 w.2.2 kd a who=some (dV w kd a who):=by
 have ok:=pN.1 hv
 have c1:aI a w.1.length=true:=decide_eq_true (by omega)
 have c2:aI a w.2.1.length=true:=decide_eq_true (by have:=ok.le;omega)
 have c3:am (Ke w.2.2 (who,a)) 0= !decide ((who,a)∈w.2.2):=by rw [←Cv];rw [Bool.eq_iff_iff];simp [am,bb]
 unfold lJ dV aw
 rw [c1,c2,MG _ _ _ (by omega),Qg _ _ _ _ ho hp,hv]
 simp only [aa,Option.bind_some,if_true,Ig,Bool.or_true,c3,Cv]
 by_cases k0:kd=0
 ·subst k0;simp
 by_cases k1:kd=1
 ·subst k1;simp
 by_cases k2:kd=2
 ·subst k2;simp
 by_cases k3:kd=3
 ·subst k3;cases w.2.1.getD a.toNat false<;>simp
 by_cases k4:kd=4
 ·subst k4
  simp only [show ((4:Int)==0)=false from rfl,show ((4:Int)==2)=false from rfl,show ((4:Int)==1)=false from rfl,show ((4:Int)==3)=false from rfl,show ((4:Int)==4)=true from rfl,cond_false,cond_true,Option.bind_some]
  rw [if_neg (by omega),if_neg (by omega),if_neg (by omega),if_pos trivial,lw]
  have c6:am (w.2.2.length:Int) 6=decide (w.2.2.length<6):=by simp only [am];exact decide_eq_decide.2 (by omega)
  rw [c6]
  cases w.2.1.getD a.toNat false<;>simp [gb,Bool.and_assoc]
 by_cases k5:kd=5
 ·subst k5;simp
 ·have e0:(kd==0)=false:=by simpa using k0
  have e1:(kd==1)=false:=by simpa using k1
  have e2:(kd==2)=false:=by simpa using k2
  have e3:(kd==3)=false:=by simpa using k3
  have e4:(kd==4)=false:=by simpa using k4
  have e5:(kd==5)=false:=by simpa using k5
  simp [k0,k1,k2,k3,k4,k5,e0,e1,e2,e3,e4,e5]
theorem IN:eR w.1 w.2.1 w.2.2=some w:=by
 have a1:bp ([]:List Bool).length w.1.length=true:=by simp [bp];omega
 have a2:bp ([]:List Bool).length w.2.1.length=true:=by simp [bp];omega
 have a3:bp ([]:Pm).length w.2.2.length=true:=by simp [bp];omega
 simp only [eR,aM,aF,a1,a2,a3,aa,Option.bind_some]
theorem MZ:iI w.1 w.2.1 w.2.2=some w:=by
 have a1:bp ([]:List Bool).length w.1.length=true:=by simp [bp];omega
 have a2:bp ([]:List Bool).length w.2.1.length=true:=by simp [bp];omega
 have a3:bp ([]:Pm).length w.2.2.length=true:=by simp [bp];omega
 simp only [iI,gS,a1,a2,a3,aa,Option.bind_some,List.nil_append]
theorem XI:lI w.1 w.2.1 w.2.2 kd a who=some (kT (cU w kd a who)):=by
 unfold lI cU
 rw [Gm _ _ _ ho hp]
 cases hv:jR w.1 w.2.1 w.2.2
 ·rfl
 have ok:=pN.1 hv
 simp only [Option.bind_some,cond_true,if_true,IN w ho he hp]
 by_cases ha:0≤a∧a<(w.1.length:Int)
 ·have c0:(am a 0 ||bb (w.1.length:Int) a)=false:=by simp [am,bb];omega
  have c1:aI a w.1.length=true:=decide_eq_true (by omega)
  have c2:aI a w.2.1.length=true:=decide_eq_true (by have:=ok.le;omega)
  simp only [c0,Bool.not_false,gb,cond_true,UJ w kd a who ho hp hv ha,Option.bind_some,Bool.false_or]
  cases hm:dV w kd a who
  ·rw [if_neg (fun h=>by cases h.2.2)];rfl
  rw [if_pos ⟨ha.1,ha.2,rfl⟩]
  simp only [Bool.not_true,cond_false]
  by_cases k0:kd=0
  ·subst k0;simp [c1,cg,kT]
  by_cases k1:kd=1
  ·subst k1;simp [c1,cg,kT]
  by_cases k2:kd=2
  ·subst k2;simp [c2,cg,kT]
  by_cases k3:kd=3
  ·subst k3;simp [c2,cg,kT]
  by_cases k4:kd=4
  ·subst k4
   have a4:bp w.2.2.length 1=true:=by simp [bp];omega
   simp [cg,kT,a4]
  by_cases k5:kd=5
  ·subst k5
   have hmem:(who,a)∈w.2.2:=by simpa [dV] using hm
   rcases pz w.2.2 (who,a) with ⟨h1,h2⟩ |⟨k,hk,h1,h2,h3⟩
   ·exact absurd hmem h2
   have wk:ak ((k:Int)+1)=(k:Int)+1:=aW (by omega) (by omega)
   have b1:sU (k:Int) ((k:Int)+1) w.2.2.length=true:=decide_eq_true (by omega)
   have b2:sU 0 (k:Int) w.2.2.length=true:=decide_eq_true (by omega)
   have b3:sU ((k:Int)+1) (w.2.2.length:Int) w.2.2.length=true:=decide_eq_true (by omega)
   have b4:((k:Int)==(k:Int)+1)=false:=by simp;omega
   have s1:ac w.2.2 0 (k:Int)=w.2.2.take k:=by simp [ac]
   have s2:ac w.2.2 ((k:Int)+1) (w.2.2.length:Int)=w.2.2.drop (k+1):=by
    unfold ac;rw [show ((k:Int)+1).toNat=k+1 by omega,List.take_of_length_le (by simp<;>omega)]
   have b5:bp (w.2.2.take k).length (w.2.2.drop (k+1)).length=true:=by simp [bp];omega
   simp only [show ((5:Int)==0)=false from rfl,show ((5:Int)==1)=false from rfl,show ((5:Int)==2)=false from rfl,show ((5:Int)==3)=false from rfl,show ((5:Int)==4)=false from rfl,show ((5:Int)==5)=true from rfl,cond_false,cond_true,Option.bind_some,PJ w.2.2 who a (by omega),h1,aB,wk,b1,b2,b3,b4,s1,s2,b5,aa]
   simp [cg,kT,h1]
  ·exfalso
   simp [dV,k0,k1,k2,k3,k4,k5] at hm
 ·have c0:(am a 0 ||bb (w.1.length:Int) a)=true:=by simp [am,bb];omega
  rw [if_neg (fun h=>ha ⟨h.1,h.2.1⟩)]
  simp [c0,gb,kT]
theorem XR:jk w.1 w.2.1 w.2.2 kd a who=some (kT (cU w kd a who)):=by
 unfold jk cU aw
 rw [Di _ _ _ ho hp]
 cases hv:jR w.1 w.2.1 w.2.2
 ·rfl
 have ok:=pN.1 hv
 have w1:ak ((w.1.length:Int)-1)=(w.1.length:Int)-1:=aW (by omega) (by omega)
 simp only [Option.bind_some,cond_true,if_true,MZ w ho he hp,w1]
 by_cases ha:0≤a∧a<(w.1.length:Int)
 ·have c0:(bb 0 a&&bb a ((w.1.length:Int)-1))=true:=by simp [bb];omega
  have c1:aI a w.1.length=true:=decide_eq_true (by omega)
  have c2:aI a w.2.1.length=true:=decide_eq_true (by have:=ok.le;omega)
  simp only [c0,Bool.not_true,Bool.not_false,gb,cond_true,Vq w kd a who ho hp hv ha,Option.bind_some,Bool.false_or]
  cases hm:dV w kd a who
  ·rw [if_neg (fun h=>by cases h.2.2)];rfl
  rw [if_pos ⟨ha.1,ha.2,rfl⟩]
  simp only [Bool.not_true,cond_false]
  by_cases k0:kd=0
  ·subst k0;simp [c1,cg,kT]
  by_cases k1:kd=1
  ·subst k1;simp [c1,cg,kT]
  by_cases k2:kd=2
  ·subst k2;simp [c2,cg,kT]
  by_cases k3:kd=3
  ·subst k3;simp [c2,cg,kT]
  by_cases k4:kd=4
  ·subst k4
   have a4:bp w.2.2.length 1=true:=by simp [bp];omega
   simp [cg,kT,a4]
  by_cases k5:kd=5
  ·subst k5
   have hmem:(who,a)∈w.2.2:=by simpa [dV] using hm
   rcases pz w.2.2 (who,a) with ⟨h1,h2⟩ |⟨k,hk,h1,h2,h3⟩
   ·exact absurd hmem h2
   have wk:ak ((k:Int)+1)=(k:Int)+1:=aW (by omega) (by omega)
   have b2:sU 0 (k:Int) w.2.2.length=true:=decide_eq_true (by omega)
   have b3:sU ((k:Int)+1) (w.2.2.length:Int) w.2.2.length=true:=decide_eq_true (by omega)
   have s1:ac w.2.2 0 (k:Int)=w.2.2.take k:=by simp [ac]
   have s2:ac w.2.2 ((k:Int)+1) (w.2.2.length:Int)=w.2.2.drop (k+1):=by
    unfold ac;rw [show ((k:Int)+1).toNat=k+1 by omega,List.take_of_length_le (by simp<;>omega)]
   have b5:bp (w.2.2.take k).length (w.2.2.drop (k+1)).length=true:=by simp [bp];omega
   simp only [show ((5:Int)==0)=false from rfl,show ((5:Int)==1)=false from rfl,show ((5:Int)==2)=false from rfl,show ((5:Int)==3)=false from rfl,show ((5:Int)==4)=false from rfl,cond_false,cond_true,Option.bind_some,MG w.2.2 who a (by omega),h1,wk,b2,b3,s1,s2,b5,aa]
   simp [cg,kT,h1]
  ·exfalso
   simp [dV,k0,k1,k2,k3,k4,k5] at hm
 ·have c0:(bb 0 a&&bb a ((w.1.length:Int)-1))=false:=by simp [bb];omega
  rw [if_neg (fun h=>ha ⟨h.1,h.2.1⟩)]
  simp [c0,gb,kT]
end
theorem Kz (a b:Int):kI a b=some (am a b):=by
 simp [kI,jo,gb]
theorem OF {a b:Nat} (h:a+b<4611686018427387904):ak (gV .u64 (wk .u64 (ak ((a:Int)+(b:Int)))) 1)=(((a+b) / 2:Nat):Int):=by
 have e1:ak ((a:Int)+(b:Int))=((a+b:Nat):Int):=by rw [aW (by omega) (by omega)];omega
 have e2:wk .u64 ((a+b:Nat):Int)=((a+b:Nat):Int):=by
  unfold wk IntKind.wrap
  have:(IntKind.u64).bits=64:=rfl
  simp only [this]
  first
   |(rw [Int.emod_eq_of_lt (by omega) (by omega)];simp [IntKind.signed])
   |omega
 have e3:gV .u64 ((a+b:Nat):Int) 1=(((a+b) / 2:Nat):Int):=by
  unfold gV
  rw [show min (1:Int).toNat (IntKind.bits .u64)=1 from rfl,Int.fdiv_eq_ediv_of_nonneg _ (by decide)]
  omega
 rw [e1,e2,e3,aW (by omega) (by omega)]
structure At (l:List Int) (x:Int) (p:Nat):Prop where
 le:p≤l.length
 lo: ∀k,k<p→l.getD k 0<x
 hi: ∀k,p≤k→k<l.length→x≤l.getD k 0
theorem NK (l:List Int) (x:Int) (hs: ∀i j,i<j→j<l.length→l.getD i 0<l.getD j 0) (hl:l.length≤1048576): ∀(d lo hi fuel:Nat),hi-lo=d→d<fuel→lo≤hi→hi≤l.length→(∀k,k<lo→l.getD k 0<x)→(∀k,hi≤k→k<l.length→x≤l.getD k 0)→
 ∃p:Nat,aU l x fuel ((lo:Int),(hi:Int))=some (p:Int)∧At l x p:=by
 intro d
 induction d using Nat.strongRecOn with
 |_ d ih=>
  intro lo hi fuel hd hf h1 h2 h3 h4
  obtain ⟨f,rfl⟩: ∃f,fuel=f+1:=⟨fuel-1,by omega⟩
  rw [ka,bR]
  dsimp only
  by_cases hlt:lo<hi
  ·have hm1:lo≤(lo+hi) / 2:=by omega
   have hm2:(lo+hi) / 2<hi:=by omega
   have hc:am (lo:Int) (hi:Int)=true:=decide_eq_true (by omega)
   rw [hc,OF (by omega)]
   simp only [cond_true,ah (show (lo+hi) / 2<l.length by omega),aa,Int.toNat_natCast,Kz,Option.bind_some,ai (by omega:(lo+hi) / 2<4611686018427387904)]
   by_cases hx:l.getD ((lo+hi) / 2) 0<x
   ·rw [show am (l.getD ((lo+hi) / 2) 0) x=true from decide_eq_true hx]
    simp only [cond_true,Option.bind_some]
    refine ih (hi-((lo+hi) / 2+1)) (by omega) ((lo+hi) / 2+1) hi f rfl (by omega) (by omega) h2 (fun k hk=>?_) h4
    rcases Nat.lt_or_ge k ((lo+hi) / 2) with h |h
    ·have:=hs k _ h (by omega);omega
    ·have:k=(lo+hi) / 2:=by omega
     rw [this];exact hx
   ·rw [show am (l.getD ((lo+hi) / 2) 0) x=false from decide_eq_false hx]
    simp only [cond_false,Option.bind_some]
    refine ih ((lo+hi) / 2-lo) (by omega) lo ((lo+hi) / 2) f rfl (by omega) hm1 (by omega) h3 (fun k hk hk2=>?_)
    rcases Nat.lt_or_ge ((lo+hi) / 2) k with h |h
    ·have:=hs _ k h hk2;omega
    ·have:k=(lo+hi) / 2:=by omega
     rw [this];omega
  ·have hc:am (lo:Int) (hi:Int)=false:=decide_eq_false (by omega)
   have:lo=hi:=by omega
   subst this
   exact ⟨lo,by rw [hc];rfl,h2,h3,h4⟩
theorem IF {l:List Int} (h:l.Pairwise (· < ·)): ∀i j,i<j→j<l.length→l.getD i 0<l.getD j 0:=by
 intro i j hij hj
 rw [ae (by omega),ae hj]
 exact List.pairwise_iff_getElem.1 h i j (by omega) hj hij
theorem FP {l:List Int} {x:Int} {p:Nat} (hs:l.Pairwise (· < ·)) (h:At l x p):(p<l.length∧l.getD p 0=x)↔x∈l:=by
 constructor
 ·rintro ⟨h1,h2⟩;rw [←h2,ae h1];exact List.getElem_mem h1
 ·intro hm
  obtain ⟨k,hk,e⟩:=List.getElem_of_mem hm
  have e2:l.getD k 0=x:=by rw [ae hk];exact e
  have hk2:p≤k:=by
   rcases Nat.lt_or_ge k p with h3 |h3
   ·have:=h.lo k h3;omega
   ·exact h3
  have h5:=h.hi p (Nat.le_refl p) (by omega)
  by_cases hpk:p=k
  ·subst hpk;exact ⟨hk,e2⟩
  ·have:=IF hs p k (by omega) hk;omega
theorem XG {l:List Int} {x:Int} (hs:l.Pairwise (· < ·)) (hl:l.length≤1048576): ∃p:Nat,bC l x=some ((p:Int),decide (x∈l))∧At l x p:=by
 obtain ⟨p,h1,h2⟩:=NK l x (IF hs) hl l.length 0 l.length ao (by omega) (mG (by omega)) (by omega) (Nat.le_refl _) (fun k hk=>by omega) (fun k h3 h4=>by omega)
 refine ⟨p,?_,h2⟩
 have hm:=FP hs h2
 have hle:=h2.le
 unfold bC
 rw [show aU l x ao (0,(l.length:Int))=_ from h1,Option.bind_some]
 by_cases hp:p<l.length
 ·have e1:am (p:Int) (l.length:Int)=true:=decide_eq_true (by omega)
  have e2:(l.getD p 0==x)=decide (x∈l):=by
   rw [Bool.eq_iff_iff,beq_iff_eq,decide_eq_true_eq,←hm]
   exact ⟨fun h=>⟨hp,h⟩,fun h=>h.2⟩
  simp only [e1,ah hp,Bool.or_true,aa,Int.toNat_natCast,e2,gA]
  cases decide (x∈l)<;>simp [gb]
 ·have e1:am (p:Int) (l.length:Int)=false:=decide_eq_false (by omega)
  have e2:decide (x∈l)=false:=decide_eq_false fun h=>hp (hm.2 h).1
  simp [e1,e2,gb,au]
theorem Qw {l:List Int} {x:Int} {p:Nat} (hs:l.Pairwise (· < ·)) (h:At l x p) (hx:x∉l):l.take p++ [x]++l.drop p=xw x l:=by
 have hlt: ∀z∈l.take p,z<x:=by
  intro z hz
  obtain ⟨k,hk,rfl⟩:=List.getElem_of_mem hz
  rw [List.length_take] at hk
  rw [List.getElem_take,←ae (d:=0)]
  exact h.lo k (by omega)
 have hgt: ∀z∈l.drop p,x<z:=by
  intro z hz
  obtain ⟨k,hk,rfl⟩:=List.getElem_of_mem hz
  rw [List.length_drop] at hk
  have hm:(l.drop p)[k]'(by rw [List.length_drop];exact hk)∈l:=List.mem_of_mem_drop (List.getElem_mem _)
  have h1:=h.hi (p+k) (by omega) (by omega)
  rw [ae (by omega)] at h1
  rw [List.getElem_drop] at hm ⊢
  have:l[p+k]≠x:=fun e=>hx (e▸hm)
  omega
 refine qf ?_ (ra hs) (fun z=>?_)
 ·rw [List.append_assoc,List.pairwise_append]
  refine ⟨hs.sublist (List.take_sublist _ _),?_,fun a ha b hb=>?_⟩
  ·rw [List.singleton_append,List.pairwise_cons]
   exact ⟨hgt,hs.sublist (List.drop_sublist _ _)⟩
  ·rcases List.mem_append.1 hb with hb |hb
   ·simp at hb;subst hb;exact hlt a ha
   ·have:=hlt a ha;have:=hgt b hb;omega
 ·rw [xx,List.mem_append,List.mem_append,List.mem_singleton]
  have:z∈l↔z∈l.take p∨z∈l.drop p:=by rw [←List.mem_append,List.take_append_drop]
  rw [this]
  constructor
  ·rintro ((h |h) |h)
   ·exact .inr (.inl h)
   ·exact .inl h
   ·exact .inr (.inr h)
  ·rintro (h |h |h)
   ·exact .inl (.inr h)
   ·exact .inl (.inl h)
   ·exact .inr h
theorem Qv {l:List Int} {x:Int} {p:Nat} (hs:l.Pairwise (· < ·)) (h:At l x p) (hx:x∈l):l.take p++l.drop (p+1)=l.filter fun z=>z !=x:=by
 obtain ⟨hp,he⟩:=(FP hs h).2 hx
 refine qf ?_ (hs.sublist List.filter_sublist) (fun z=>?_)
 ·rw [List.pairwise_append]
  refine ⟨hs.sublist (List.take_sublist _ _),hs.sublist (List.drop_sublist _ _),fun a ha b hb=>?_⟩
  have h2:(l.take p++l.drop p).Pairwise (· < ·):=by rw [List.take_append_drop];exact hs
  exact (List.pairwise_append.1 h2).2.2 a ha b (by rw [List.drop_eq_getElem_cons hp];exact List.mem_cons_of_mem _ hb)
 ·rw [List.mem_append,List.mem_filter]
  have e:l=l.take p++l[p]::l.drop (p+1):=by rw [←List.drop_eq_getElem_cons hp,List.take_append_drop]
  have hpx:l[p]=x:=by rw [←ae hp (d:=0)];exact he
  have h2:(l.take p++l[p]::l.drop (p+1)).Pairwise (· < ·):=by rw [←e];exact hs
  have h3:=(List.pairwise_append.1 h2)
  have h4:=List.pairwise_cons.1 h3.2.1
  have hm:z∈l↔z∈l.take p∨z=x∨z∈l.drop (p+1):=by
   conv=>lhs;rw [e]
   rw [List.mem_append,List.mem_cons,hpx]
  rw [hm]
  simp only [bne_iff_ne,ne_eq]
  constructor
  ·rintro (h |h)
   ·exact ⟨.inl h,by have:=h3.2.2 z h l[p] List.mem_cons_self;omega⟩
   ·exact ⟨.inr (.inr h),by have:=h4.1 z h;omega⟩
  ·rintro ⟨h |h |h,hne⟩
   ·exact .inl h
   ·exact absurd h hne
   ·exact .inr h
abbrev W7:=Int×List Ln×List (Int×Int)×List Bool×List Bool×Pm×List Int
def o7 (w:Wd):W7:=(w.b,w.ls,w.pts,w.on,w.earth,w.pm,w.br)
abbrev W8:=Int×List Ln×List (Int×Int)×List Bool×List Bool×Pm×List Int×Bool
def o8 (r:Wd×Bool):W8:=(r.1.b,r.1.ls,r.1.pts,r.1.on,r.1.earth,r.1.pm,r.1.br,r.2)
structure Sm (w:Wd):Prop where
 l:w.ls.length≤1048576
 p:w.pts.length≤1048576
 o:w.on.length≤1048576
 e:w.earth.length≤1048576
 m:w.pm.length≤1048576
 b:w.br.length≤1048576
theorem Kr {w:Wd} (h:WdOk w):w.br.length≤w.on.length:=by
 have h1: ∀k,k<w.br.length→(k:Int)≤w.br.getD k 0:=by
  intro k
  induction k with
  |zero=>
   intro hk
   have:=(h.inn (w.br.getD 0 0) (by rw [ae hk];exact List.getElem_mem hk)).1
   omega
  |succ k ih=>
   intro hk
   have h1:=ih (by omega)
   have h2:=oI h.sor hk
   omega
 rcases Nat.eq_zero_or_pos w.br.length with h0 |h0
 ·omega
 ·have h2:=h1 (w.br.length-1) (by omega)
  have h3:=(h.inn (w.br.getD (w.br.length-1) 0) (by rw [ae (by omega)];exact List.getElem_mem _)).1
  omega
theorem sA {w:Wd} (h:WdOk w):Sm w:=by
 have h1:=h.bus.net.ll;have h2:=h.bus.lp;have h3:=h.bus.net.b1;have h4:=h.work.l1;have h5:=h.work.le;have h6:=h.work.lp;have h7:=Kr h
 simp only [Wd.wk] at h4 h5 h6
 exact ⟨by omega,by omega,by omega,by omega,by omega,by omega⟩
theorem Iq {w:Wd} (h:WdOk w) {on':List Bool} (hl:on'.length=w.ls.length):rE w.b w.ls on' w.pts=iV w.ls on' w.pts:=by
 unfold rE
 rw [jC.2 ⟨⟨h.bus.net,hl⟩,h.bus⟩];rfl
theorem RA {w:Wk} {kd a who:Int} (h:kd≠0∧kd≠1∧kd≠2∧kd≠3∧kd≠4∧kd≠5):dV w kd a who=false:=by
 simp [dV,h.1,h.2.1,h.2.2.1,h.2.2.2.1,h.2.2.2.2.1,h.2.2.2.2.2]
theorem KI {w:Wk} (hw:WOk w) {kd a who:Int} (h:kd≠0∧kd≠1∧kd≠2∧kd≠3∧kd≠4∧kd≠5):(cU w kd a who).2=false:=by
 rcases mT hw kd a who with ⟨_,_,h1,_⟩ |⟨h1,_⟩
 ·rw [RA h] at h1;cases h1
 ·rw [h1]
section
variable {w:Wd} (h:Sm w)
include h
theorem vX:bi w.b w.ls w.pts w.on w.earth w.pm w.br=some (o7 w):=by
 have a1:bp ([]:List Ln).length w.ls.length=true:=by have:=h.l;simp [bp];omega
 have a2:bp ([]:List (Int×Int)).length w.pts.length=true:=by have:=h.p;simp [bp];omega
 have a3:bp ([]:List Int).length w.br.length=true:=by have:=h.b;simp [bp];omega
 have:=IN (w.on,w.earth,w.pm) h.o h.e h.m
 simp only [bi,aQ,aV,bX,a1,a2,a3,aa,Option.bind_some,this]
 rfl
theorem yb:cP w.b w.ls w.pts w.on w.earth w.pm w.br=some (o7 w):=by
 have a1:bp ([]:List Ln).length w.ls.length=true:=by have:=h.l;simp [bp];omega
 have a2:bp ([]:List (Int×Int)).length w.pts.length=true:=by have:=h.p;simp [bp];omega
 have a3:bp ([]:List Int).length w.br.length=true:=by have:=h.b;simp [bp];omega
 have:=MZ (w.on,w.earth,w.pm) h.o h.e h.m
 simp only [cP,a1,a2,a3,aa,Option.bind_some,List.nil_append,this]
 rfl
end
section
variable {w:Wd} (h:WdOk w) (kd a who:Int) (ha:0≤a∧a<(w.on.length:Int))
include h ha
theorem WW: ∃st:W7,ju w.b w.ls w.pts w.on w.earth w.pm w.br kd a who=some ((bw w kd a who).2,st)∧((bw w kd a who).2=true→st=o7 (bw w kd a who).1):=by
 have sm:=sA h
 obtain ⟨p,hp,hat⟩:=XG (x:=a) h.sor sm.b
 have hle:=hat.le
 have hbl:=sm.b
 have hix:aI a w.on.length=true:=decide_eq_true ha
 have hv:=dc.2 h
 unfold ju
 rw [hp,Option.bind_some]
 dsimp only
 by_cases k6:kd=6
 ·subst k6
  by_cases hb:a∈w.br
  ·have hf:bw w 6 a who=(w,false):=by
    unfold bw
    rw [if_pos hv,if_pos ha,if_neg (fun e=>e.2 hb),if_neg (fun e=>absurd e.1 (by decide)),if_neg (fun e=>absurd e.1 (by decide)),if_neg (fun e=>by rw [KI h.work (by decide)] at e;cases e.1)]
   rw [hf]
   exact ⟨_,by rw [decide_eq_true hb];rfl,fun e=>by cases e⟩
  ·have hf:bw w 6 a who=({w with on:=w.on.set a.toNat false,br:=xw a w.br},true):=by
    unfold bw
    rw [if_pos hv,if_pos ha,if_pos ⟨rfl,hb⟩]
   rw [hf]
   have c1:sU 0 (p:Int) w.br.length=true:=decide_eq_true (by omega)
   have c2:bp w.br.length 1=true:=by simp [bp];omega
   refine ⟨_,?_,fun _=>rfl⟩
   rw [decide_eq_false hb]
   simp only [cond_false,show ((6:Int)==6)=true from rfl,cond_true,bN,c1,c2,aa,List.length_singleton,show (((1:Nat):Int)==1)=true from rfl,Option.bind_some,hix,Int.toNat_natCast,Qw h.sor hat hb]
   rfl
 rw [show (kd==6)=false from by simpa using k6,cond_false]
 by_cases k7:kd=7
 ·subst k7
  have hh:=Ra w.pm who a (by have:=sm.m;omega)
  by_cases hb:a∈w.br
  ·by_cases hm:(who,a)∈w.pm
   ·have hf:bw w 7 a who=({w with br:=w.br.filter fun x=>x !=a},true):=by
     unfold bw
     rw [if_pos hv,if_pos ha,if_neg (fun e=>absurd e.1 (by decide)),if_pos ⟨rfl,hb,hm⟩]
    rw [hf]
    obtain ⟨hpl,_⟩:=(FP h.sor hat).2 hb
    have wk:ak ((p:Int)+1)=(p:Int)+1:=aW (by omega) (by omega)
    have b1:sU (p:Int) ((p:Int)+1) w.br.length=true:=decide_eq_true (by omega)
    have b2:sU 0 (p:Int) w.br.length=true:=decide_eq_true (by omega)
    have b3:sU ((p:Int)+1) (w.br.length:Int) w.br.length=true:=decide_eq_true (by omega)
    have b4:((p:Int)==(p:Int)+1)=false:=by simp;omega
    have s1:ac w.br 0 (p:Int)=w.br.take p:=by simp [ac]
    have s2:ac w.br ((p:Int)+1) (w.br.length:Int)=w.br.drop (p+1):=by
     unfold ac;rw [show ((p:Int)+1).toNat=p+1 by omega,List.take_of_length_le (by simp<;>omega)]
    have b5:bp (w.br.take p).length (w.br.drop (p+1)).length=true:=by simp [bp];omega
    refine ⟨_,?_,fun _=>rfl⟩
    rw [decide_eq_true hb,hh,decide_eq_true hm]
    simp only [show ((7:Int)==7)=true from rfl,cond_true,Bool.not_true,Bool.not_false,kf,Option.bind_some,Bool.or_self,cond_false,bM,wk,b1,b2,b3,b4,s1,s2,b5,aa,Qv h.sor hat hb]
    rfl
   ·have hf:bw w 7 a who=(w,false):=by
     unfold bw
     rw [if_pos hv,if_pos ha,if_neg (fun e=>absurd e.1 (by decide)),if_neg (fun e=>hm e.2.2),if_neg (fun e=>absurd e.1 (by decide)),if_neg (fun e=>by rw [KI h.work (by decide)] at e;cases e.1)]
    rw [hf]
    exact ⟨_,by rw [decide_eq_true hb,hh,decide_eq_false hm];rfl,fun e=>by cases e⟩
  ·have hf:bw w 7 a who=(w,false):=by
    unfold bw
    rw [if_pos hv,if_pos ha,if_neg (fun e=>absurd e.1 (by decide)),if_neg (fun e=>hb e.2.1),if_neg (fun e=>absurd e.1 (by decide)),if_neg (fun e=>by rw [KI h.work (by decide)] at e;cases e.1)]
   rw [hf]
   exact ⟨_,by rw [decide_eq_false hb];rfl,fun e=>by cases e⟩
 rw [show (kd==7)=false from by simpa using k7,cond_false]
 have hdo:=XI w.wk kd a who sm.o sm.e sm.m
 have hlen:=(wD h.work (kd:=kd) (a:=a) (who:=who)).1
 have hrad:fw w.b w.ls (cU w.wk kd a who).1.1 w.pts=some (iV w.ls (cU w.wk kd a who).1.1 w.pts):=by
  rw [HM _ _ _ _ sm.p,Iq h (hlen.trans h.len)]
 by_cases k0:kd=0
 ·subst k0
  by_cases hb:a∈w.br
  ·have hf:bw w 0 a who=(w,false):=by
    unfold bw
    rw [if_pos hv,if_pos ha,if_neg (fun e=>absurd e.1 (by decide)),if_neg (fun e=>absurd e.1 (by decide)),if_pos ⟨rfl,hb⟩]
   rw [hf]
   exact ⟨_,by rw [decide_eq_true hb];rfl,fun e=>by cases e⟩
  ·have hf:bw w 0 a who=if (cU w.wk 0 a who).2=true∧iV w.ls (cU w.wk 0 a who).1.1 w.pts=true then (w.put (cU w.wk 0 a who).1,true) else (w,false):=by
    unfold bw
    rw [if_pos hv,if_pos ha,if_neg (fun e=>absurd e.1 (by decide)),if_neg (fun e=>absurd e.1 (by decide)),if_neg (fun e=>hb e.2)]
   rw [hf]
   simp only [Wd.wk] at hdo
   rw [decide_eq_false hb]
   simp only [show ((0:Int)==0)=true from rfl,cond_true,cond_false,Option.bind_some,Sum.elim_inl,hdo,kT,show ((0:Int) !=0)=false from rfl,Bool.not_false,Bool.and_true,Bool.false_or]
   change ∃st:W7,Option.bind (gb (cU w.wk 0 a who).2 (fw w.b w.ls (cU w.wk 0 a who).1.1 w.pts)) (fun p127=>some ((cU w.wk 0 a who).2&&p127,w.b,w.ls,w.pts,(cU w.wk 0 a who).1.1,(cU w.wk 0 a who).1.2.1,(cU w.wk 0 a who).1.2.2,w.br))=_∧_
   rw [hrad]
   cases h1:(cU w.wk 0 a who).2
   ·exact ⟨_,rfl,fun e=>by cases e⟩
   ·cases h2:iV w.ls (cU w.wk 0 a who).1.1 w.pts
    ·exact ⟨_,rfl,fun e=>by cases e⟩
    ·exact ⟨_,rfl,fun _=>rfl⟩
 ·have hf:bw w kd a who=if (cU w.wk kd a who).2=true∧iV w.ls (cU w.wk kd a who).1.1 w.pts=true then (w.put (cU w.wk kd a who).1,true) else (w,false):=by
   unfold bw
   rw [if_pos hv,if_pos ha,if_neg (fun e=>k6 e.1),if_neg (fun e=>k7 e.1),if_neg (fun e=>k0 e.1)]
  rw [hf,FE h k0]
  have e0:(kd==0)=false:=by simpa using k0
  have e1:(kd !=0)=true:=by simpa using k0
  simp only [Wd.wk] at hdo
  simp only [e0,cond_false,Option.bind_some,Sum.elim_inl,hdo,kT,e1,Bool.not_true,Bool.and_false,qY,Bool.true_or,Bool.and_true]
  change ∃st:W7,some ((cU w.wk kd a who).2,w.b,w.ls,w.pts,(cU w.wk kd a who).1.1,(cU w.wk kd a who).1.2.1,(cU w.wk kd a who).1.2.2,w.br)=_∧_
  cases h1:(cU w.wk kd a who).2
  ·exact ⟨_,rfl,fun e=>by cases e⟩
  ·exact ⟨_,rfl,fun _=>rfl⟩
end
theorem Et {w:Wd} (sm:Sm w) (kd a who:Int):iG w.b w.ls w.pts w.on w.earth w.pm w.br kd a who=some (o8 (bw w kd a who)):=by
 unfold iG
 rw [SC w.b w.ls w.pts w.on w.earth w.pm w.br sm.p sm.o sm.m sm.b,Option.bind_some]
 cases hv:wv w
 ·unfold bw
  rw [if_neg (by rw [hv];decide)]
  rfl
 rw [cond_true,vX sm,Option.bind_some]
 have h:=dc.1 hv
 simp only [aH,Option.bind_some]
 by_cases ha:0≤a∧a<(w.on.length:Int)
 ·have hc:(bb 0 a&&am a (w.ls.length:Int))=true:=by rw [←h.len];simp [bb,am];omega
  obtain ⟨st,h1,h2⟩:=WW h kd a who ha
  simp only [o7]
  rw [hc,cond_true,h1]
  cases hr:(bw w kd a who).2
  ·simp only [Option.bind_some,Bool.not_false,cond_true]
   have hs:=Ka h hr
   have:bw w kd a who=(w,false):=Prod.ext hs hr
   rw [this];rfl
  ·rw [h2 hr]
   simp only [Option.bind_some,Bool.not_true,cond_false,o7,o8,hr]
 ·have hc:(bb 0 a&&am a (w.ls.length:Int))=false:=by rw [←h.len];simp [bb,am];omega
  have hf:bw w kd a who=(w,false):=by unfold bw;rw [if_pos hv,if_neg ha]
  rw [hc,hf];rfl
def Nk (br:List Int) (a:Int) (k:Nat):List Int:=((List.range k).map fun (i:Nat)=>(i:Int)).filter fun i=>i==a ||decide (i∈br)
theorem NF (br:List Int) (a:Int) (k:Nat):(Nk br a k).length≤k:=by
 unfold Nk
 refine Nat.le_trans (List.length_filter_le _ _) ?_
 simp
theorem Kp (br:List Int) (a:Int) (k:Nat):Nk br a (k+1)=bif (k:Int)==a ||decide ((k:Int)∈br) then Nk br a k++ [(k:Int)] else Nk br a k:=by
 unfold Nk
 rw [List.range_succ,List.map_append,List.filter_append]
 cases hc:((k:Int)==a ||decide ((k:Int)∈br))<;>simp [List.filter_cons,hc]
theorem Qx {w:Wd} (h:WdOk w) {a:Int} (ha:0≤a∧a<(w.on.length:Int)):Nk w.br a w.on.length=xw a w.br:=by
 refine qf ?_ (ra h.sor) (fun x=>?_)
 ·refine List.Pairwise.sublist List.filter_sublist ?_
  rw [List.pairwise_map]
  exact List.pairwise_lt_range.imp (fun h=>by omega)
 ·unfold Nk
  rw [xx,List.mem_filter,List.mem_map]
  simp only [List.mem_range,Bool.or_eq_true,beq_iff_eq,decide_eq_true_eq]
  constructor
  ·exact fun e=>e.2
  ·intro e
   refine ⟨?_,e⟩
   have:0≤x∧x<(w.on.length:Int):=by
    rcases e with rfl |e
    ·exact ha
    ·exact (h.inn x e).1
   exact ⟨x.toNat,by omega,by omega⟩
section
variable {w:Wd} (h:WdOk w) {a:Int} (ha:0≤a∧a<(w.on.length:Int))
include h ha
theorem Si:jB w.b w.ls w.pts w.on w.earth w.pm w.br a=some (o7 {w with on:=w.on.set a.toNat false,br:=xw a w.br}):=by
 have sm:=sA h
 have ho:=sm.o;have hb:=sm.b
 have hix:aI a w.on.length=true:=decide_eq_true ha
 have hh:=ba (dU w.on w.br a) (fun k=>((k:Int),Nk w.br a k)) w.on.length (some (xw a w.br)) (by omega) (fun k fuel hk=>?_) (fun fuel=>?_)
 ·unfold jB
  rw [yb sm]
  simp only [Option.bind_some,o7,hix,aa]
  rw [show dU w.on w.br a ao (0,[])=_ from hh]
  rfl
 ·rw [nf,fQ]
  have hl:=NF w.br a k
  have ap:bp (Nk w.br a k).length ([(k:Int)]:List Int).length=true:=by simp [bp];omega
  simp only [aK hk,cond_true,Pi w.br (k:Int) (by omega),ai (by omega:k<4611686018427387904),ap,aa]
  rw [Kp]
  cases hc:((k:Int)==a)
  ·simp only [Bool.not_false,kf,Option.bind_some,Bool.false_or]
   cases decide ((k:Int)∈w.br)<;>rfl
  ·simp only [Bool.not_true,qY,Option.bind_some,Bool.true_or,cond_true]
 ·rw [nf,fQ]
  simp only [av,cond_false,Qx h ha]
omit ha in
theorem Vr:kR w.b w.ls w.pts w.on w.earth w.pm w.br a=some (o7 {w with br:=w.br.filter fun x=>x !=a}):=by
 have sm:=sA h
 have hb:=sm.b
 have hh:=ba (fl w.br a) (fun k=>((k:Int),(w.br.take k).filter fun x=>x !=a)) w.br.length (some (w.br.filter fun x=>x !=a)) (by omega) (fun k fuel hk=>?_) (fun fuel=>?_)
 ·unfold kR
  rw [yb sm]
  simp only [Option.bind_some,o7]
  rw [show fl w.br a ao (0,[])=_ from hh]
  rfl
 ·rw [oc,gE]
  have hl:=List.length_filter_le (fun x=>x !=a) (w.br.take k)
  rw [List.length_take] at hl
  have ap: ∀x:Int,bp ((w.br.take k).filter fun x=>x !=a).length ([x]:List Int).length=true:=fun x=>by simp only [bp,decide_eq_true_eq,List.length_singleton];omega
  simp only [aK hk,ah hk,cond_true,aa,Int.toNat_natCast,ap,ai (by omega:k<4611686018427387904)]
  rw [List.take_succ_eq_append_getElem hk,List.filter_append,←ae hk (d:=(0:Int))]
  cases hc:(w.br.getD k 0 !=a)
  ·simp only [List.filter_cons,List.filter_nil,hc,Bool.false_eq_true,if_false,cond_false,Option.bind_some,List.append_nil]
  ·simp only [List.filter_cons,List.filter_nil,hc,if_true,cond_true,Option.bind_some]
 ·rw [oc,gE]
  simp only [av,cond_false,List.take_length]
end
theorem Ll {pm:Pm} {a who:Int}:who∈cA pm a↔(who,a)∈pm:=by
 unfold cA
 rw [List.mem_map]
 constructor
 ·rintro ⟨p,hp,rfl⟩
  obtain ⟨h1,h2⟩:=List.mem_filter.1 hp
  have:p.2=a:=by simpa using h2
  rw [←this];exact h1
 ·intro hm
  exact ⟨(who,a),List.mem_filter.2 ⟨hm,by simp⟩,rfl⟩
theorem MI {w:Wd} (sm:Sm w) (kd a who:Int):kP w.b w.ls w.pts w.on w.earth w.pm w.br kd a who=some (o8 (bw w kd a who)):=by
 unfold kP
 rw [Xu w.b w.ls w.pts w.on w.earth w.pm w.br sm.p sm.o sm.m sm.b,Option.bind_some]
 cases hv:wv w
 ·unfold bw
  rw [if_neg (by rw [hv];decide)]
  rfl
 rw [cond_true]
 have h:=dc.1 hv
 have hol:=h.work.l1
 simp only [Wd.wk] at hol
 have e1:ak ((w.on.length:Int)-1)=(w.on.length:Int)-1:=aW (by omega) (by omega)
 simp only [aw,e1,Option.bind_some]
 by_cases hna: ¬(0≤a∧a<(w.on.length:Int))
 ·have hc:(bb 0 a&&bb a ((w.on.length:Int)-1))=false:=by simp [bb];omega
  have hf:bw w kd a who=(w,false):=by unfold bw;rw [if_pos hv,if_neg hna]
  rw [hc,hf,cond_false,yb sm];rfl
 have ha:0≤a∧a<(w.on.length:Int):=Classical.byContradiction hna
 have hc:(bb 0 a&&bb a ((w.on.length:Int)-1))=true:=by simp [bb];omega
 rw [hc,cond_true,Pi w.br a (by have:=sm.b;omega),Option.bind_some]
 by_cases h6:kd=6∧a∉w.br
 ·have hf:bw w kd a who=({w with on:=w.on.set a.toNat false,br:=xw a w.br},true):=by unfold bw;rw [if_pos hv,if_pos ha,if_pos h6]
  rw [hf,decide_eq_false h6.2,h6.1,show (((6:Int)==6)&& !false)=true from rfl,cond_true,Si h ha];rfl
 have c6:((kd==6)&& !decide (a∈w.br))=false:=by
  cases hk:(kd==6)
  ·rfl
  ·have:a∈w.br:=Classical.byContradiction fun hn=>h6 ⟨by simpa using hk,hn⟩
   rw [decide_eq_true this];rfl
 rw [c6,cond_false]
 have hheld:db w.on w.earth w.pm a=some (cA w.pm a):=by
  rw [Qg w.on w.earth w.pm a sm.o sm.m,if_pos (show jR w.on w.earth w.pm=true from wE.2 h.work)]
 have hhl:=xl w.pm a
 have hml:=sm.m
 have c7:(bif (kd==7)&&decide (a∈w.br) then Option.bind (db w.on w.earth w.pm a) (fun (p133:List Int)=>Option.bind (fk p133 who) (fun (p137:Bool)=>some p137)) else some false)=some (decide (kd=7∧a∈w.br∧(who,a)∈w.pm)):=by
  rw [hheld]
  simp only [Option.bind_some,Pi (cA w.pm a) who (by omega)]
  by_cases hk:kd=7
  ·subst hk
   by_cases hb:a∈w.br
   ·simp [hb,Ll]
   ·simp [hb]
  ·have:(kd==7)=false:=by simpa using hk
   simp [this,hk]
 rw [c7,Option.bind_some]
 by_cases h7:kd=7∧a∈w.br∧(who,a)∈w.pm
 ·have hf:bw w kd a who=({w with br:=w.br.filter fun x=>x !=a},true):=by unfold bw;rw [if_pos hv,if_pos ha,if_neg h6,if_pos h7]
  rw [hf,decide_eq_true h7,cond_true,Vr h];rfl
 rw [decide_eq_false h7,cond_false]
 by_cases h0:kd=0∧a∈w.br
 ·have hf:bw w kd a who=(w,false):=by unfold bw;rw [if_pos hv,if_pos ha,if_neg h6,if_neg h7,if_pos h0]
  rw [hf,h0.1,decide_eq_true h0.2,show (((0:Int)==0)&&true)=true from rfl,cond_true,yb sm];rfl
 have c0:((kd==0)&&decide (a∈w.br))=false:=by
  cases hk:(kd==0)
  ·rfl
  ·have:a∉w.br:=fun hn=>h0 ⟨by simpa using hk,hn⟩
   rw [decide_eq_false this];rfl
 rw [c0,cond_false,yb sm,Option.bind_some]
 have hdo:=XR w.wk kd a who sm.o sm.e sm.m
 have hlen:=(wD h.work (kd:=kd) (a:=a) (who:=who)).1
 have hrad:gR w.b w.ls (cU w.wk kd a who).1.1 w.pts=some (iV w.ls (cU w.wk kd a who).1.1 w.pts):=by
  rw [IE _ _ _ _ sm.p,Iq h (hlen.trans h.len)]
 have hf:bw w kd a who=if (cU w.wk kd a who).2=true∧iV w.ls (cU w.wk kd a who).1.1 w.pts=true then (w.put (cU w.wk kd a who).1,true) else (w,false):=by
  unfold bw
  rw [if_pos hv,if_pos ha,if_neg h6,if_neg h7,if_neg h0]
 rw [hf]
 change Option.bind (jk w.wk.1 w.wk.2.1 w.wk.2.2 kd a who) _=_
 rw [hdo,Option.bind_some]
 simp only [kT,o7,hrad]
 cases h1:(cU w.wk kd a who).2
 ·simp only [Bool.not_false,Bool.not_true,qY,Option.bind_some,Bool.true_or,cond_true,Bool.false_eq_true,false_and,if_false];rfl
 ·cases h2:iV w.ls (cU w.wk kd a who).1.1 w.pts
  ·rfl
  ·rfl
theorem KY (l:List Dd) (w:Wd): ∀k,0≤((l.take k).foldl bq (0,w)).1∧((l.take k).foldl bq (0,w)).1≤k:=by
 intro k
 induction k with
 |zero=>simp
 |succ k ih=>
  rcases Nat.lt_or_ge k l.length with hk |hk
  ·rw [zF _ _ _ ((0,0,0):Dd) hk]
   generalize (l.take k).foldl bq (0,w)=s at ih
   unfold bq
   split
   ·dsimp only;omega
   ·omega
  ·rw [List.take_of_length_le (by omega)]
   rw [List.take_of_length_le hk] at ih
   omega
def VN (k:Nat) (s:Int×Wd):Int×Int×W7:=(s.1,(k:Int),o7 s.2)
def XN (s:Int×Wd):Int×List Ln×List (Int×Int)×List Bool×List Bool×Pm×List Int×Int:=(s.2.b,s.2.ls,s.2.pts,s.2.on,s.2.earth,s.2.pm,s.2.br,s.1)
theorem UO {w:Wd} (h:WdOk w) (l:List Dd) (hl:l.length≤1048576):cB l ao (VN 0 (0,w))=some ((l.foldl bq (0,w)).1,o7 (l.foldl bq (0,w)).2):=by
 have hh:=ba (cB l) (fun k=>VN k ((l.take k).foldl bq (0,w))) l.length (some ((l.foldl bq (0,w)).1,o7 (l.foldl bq (0,w)).2)) (by omega) (fun k fuel hk=>?_) (fun fuel=>?_)
 ·exact hh
 ·rw [mV,fH]
  have hc:=KY l w k
  have hok:=gT (l.take k) (s:=((0:Int),w)) h
  simp only [zF bq _ _ ((0,0,0):Dd) hk]
  generalize (l.take k).foldl bq (0,w)=s at hc hok
  have hd:=Et (sA hok) (l.getD k ((0,0,0):Dd)).1 (l.getD k ((0,0,0):Dd)).2.1 (l.getD k ((0,0,0):Dd)).2.2
  have e1:ak (s.1+1)=s.1+1:=aW (by omega) (by omega)
  simp only [VN,o7,aK hk,ah hk,cond_true,aa,Int.toNat_natCast,hd,Option.bind_some,o8,ai (by omega:k<4611686018427387904)]
  unfold bq
  cases hr:(bw s.2 (l.getD k ((0,0,0):Dd)).1 (l.getD k ((0,0,0):Dd)).2.1 (l.getD k ((0,0,0):Dd)).2.2).2
  ·simp only [cond_false,Option.bind_some,Bool.false_eq_true,if_false]
  ·simp only [cond_true,Option.bind_some,if_true,e1]
 ·rw [mV,fH]
  simp only [VN,o7,av,cond_false,List.take_length]
theorem Jk {w:Wd} (sm:Sm w) (l:List Dd) (hl:l.length≤1048576):jt w.b w.ls w.pts w.on w.earth w.pm w.br l=some (XN (uj w l)):=by
 unfold jt uj
 rw [SC w.b w.ls w.pts w.on w.earth w.pm w.br sm.p sm.o sm.m sm.b,Option.bind_some]
 cases hv:wv w
 ·rfl
 rw [cond_true,vX sm,Option.bind_some]
 simp only [o7]
 rw [show cB l ao (0,0,w.b,w.ls,w.pts,w.on,w.earth,w.pm,w.br)=_ from UO (dc.1 hv) l hl]
 rfl
theorem Xi:Sm .zero:=⟨by decide,by decide,by decide,by decide,by decide,by decide⟩
theorem FD {w:Wd} (l:List Dd):Sm (uj w l).2:=by
 cases hv:wv w
 ·unfold uj;rw [hv,if_neg (by decide)];exact Xi
 ·exact sA (FC (dc.1 hv) l)
theorem Hf {w:Wd} (kd a who:Int):Sm (bw w kd a who).1:=by
 cases hv:wv w
 ·unfold bw;rw [hv,if_neg (by decide)];exact Xi
 ·exact sA (wC (dc.1 hv) kd a who)
end Go.Proofs.YtjdlgannencchaaGreatDoor
namespace Go.Proofs.YtjdlgannencchaaGreatDoor
open Go.Lib
set_option linter.unusedVariables false
set_option linter.unusedSimpArgs false
theorem QB {n:Nat} (h:n<1000000):(decDigits n).length≤6:=zT 5 n (by simpa using h)
def Gw (n:Int):List UInt8:=decDigits n.toNat
theorem LF {n:Int} (h:0≤n∧n<1000000):bj n=some (bH (Gw n)):=by
 obtain ⟨k,rfl⟩: ∃k:Nat,n=k:=⟨n.toNat,by omega⟩
 rw [HT (by omega)];simp [Gw]
theorem Vc {n:Int} (h:0≤n∧n<1000000):cf n=some (bH (Gw n)):=by
 obtain ⟨k,rfl⟩: ∃k:Nat,n=k:=⟨n.toNat,by omega⟩
 rw [RG (by omega)];simp [Gw]
theorem LT {n:Int} (h:0≤n∧n<1000000):(Gw n).length≤6:=QB (by omega)
def VD:List UInt8:=[110,111,110,101]
def Ib (l:List Int):List UInt8:=if l=[] then VD else join (l.map Gw) [44]
theorem Jp: ∀(xs:List (List UInt8)),(∀x∈xs,x.length≤6)→(join xs [44]).length≤7*xs.length
 | [],_=>by simp [join_nil]
 |x::r,h=>by
  rw [join_cons]
  have h1:=h x (by simp)
  have h2: ∀r:List (List UInt8),(∀y∈r,y.length≤6)→(joinTail [44] r).length≤7*r.length:=by
   intro r
   induction r with
   |nil=>intro _;simp [joinTail]
   |cons y r ih=>
    intro hr
    have e:joinTail [44] (y::r)=[44]++y++joinTail [44] r:=by simp [joinTail]
    have:=hr y (by simp)
    have:=ih fun z hz=>hr z (by simp [hz])
    rw [e];simp;omega
  have:=h2 r fun y hy=>h y (by simp [hy])
  simp;omega
section
variable {l:List Int} (hl:l.length≤1000) (hr: ∀x∈l,0≤x∧x<1000000)
include hl hr
theorem SJ {k:Nat} (h:k<l.length):0≤l.getD k 0∧l.getD k 0<1000000:=by have:=hl;rw [ae h];exact hr _ (List.getElem_mem h)
theorem PO:cZ l=some (bH (Ib l)):=by
 unfold cZ Ib
 cases l with
 |nil=>rfl
 |cons x r=>
  rw [if_neg (by simp)]
  generalize hL:x::r=l at*
  have hne:((l.length:Int)==0)=false:=by rw [beq_eq_false_iff_ne,←hL];simp;omega
  rw [hne,show sY (l.length:Int)=true from decide_eq_true (by omega)]
  have hh:=IK (gu l) (l.map fun n=>bH (Gw n)) (List.replicate l.length ByteArray.empty) (by simp) (by simp;omega) (fun fuel y j hj hy=>by
   have hj':j<l.length:=by simpa using hj
   rw [mZ,fM]
   have hi:=LF (SJ hl hr hj')
   rw [ae hj'] at hi
   simp only [aK hj',ah hj',aa,cond_true,Int.toNat_natCast,ai (by omega:j<4611686018427387904),List.getElem_map,ae hj',hi,Option.bind_some]) (fun fuel y hy=>by rw [mZ,fM];simp [av])
  have hm:(l.map fun n=>bH (Gw n)).map (·.data.toList)=l.map Gw:=by
   rw [List.map_map];exact List.map_congr_left fun a _=>iB _
  simp only [cond_false,aa]
  rw [hh]
  simp only [Option.bind_some]
  unfold cQ
  have hs:(({data:= #[44]}:ByteArray)).data.toList=[44]:=rfl
  have hz:=Jp (l.map Gw) (fun y hy=>by obtain ⟨z,hz,rfl⟩:=List.mem_map.1 hy;exact LT (hr z hz))
  rw [hm,hs,decide_eq_true (by rw [List.length_map] at*;omega)]
  rfl
end
def RD (b:Int) (ls:List Ln):List UInt8:=if vQ b ls=true then LR b ls else []
theorem UK (b:Int) (ls:List Ln):bF b ls=some (bH (RD b ls)):=by
 unfold bF RD
 rw [Rh,Option.bind_some]
 cases hv:vQ b ls with
 |false=>rfl
 |true=>
  have ok:=xH.1 hv
  have hb:LQ b ls=true:=by
   unfold LQ SD
   have h0:=ok.b0;have h1:=ok.b1;have h2:=ok.ll
   rw [decide_eq_true (by omega),decide_eq_true (by omega)]
   simp only [Bool.true_and,List.all_eq_true,Bool.and_eq_true,decide_eq_true_eq]
   intro x hx
   obtain ⟨k,hk,rfl⟩:=List.mem_iff_getElem.1 hx
   have hL:=ok.ln k hk
   rw [ae hk] at hL
   have a1:=hL.a;have a2:=hL.b;have a3:=hL.m
   omega
  rw [hb,if_pos rfl];rfl
end Go.Proofs.YtjdlgannencchaaGreatDoor
namespace Go.Proofs.YtjdlgannencchaaGreatDoor
open Go.ChangeShapes Go.WideShapes Go.ChangeAt Go.RowKit
set_option linter.unusedVariables false
set_option linter.unusedSimpArgs false
set_option linter.unusedSectionVars false
section
variable (w:Wk) (ho:w.1.length≤1000) (he:w.2.1.length≤1000) (hp:w.2.2.length≤1000)
include ho he hp
omit ho he in
theorem UN:fF w.1 w.2.1 w.2.2=some (cR w.2.2):=by
 unfold fF
 have h:=ba (dD w.2.2) (fun k=>(cR (w.2.2.take k),(k:Int))) w.2.2.length (some (cR w.2.2)) (by omega) (fun k fuel hk=>?_) (fun fuel=>?_)
 ·rw [show (([]:List (Int×Int×Int)),(0:Int))=(cR (w.2.2.take 0),((0:Nat):Int)) from rfl,h];rfl
 ·rw [jZ,cW]
  have ha:bp (cR (w.2.2.take k)).length 1=true:=by simp [bp,cR];omega
  simp only [aK hk,ah hk,aa,cond_true,Int.toNat_natCast,List.length_singleton,ha,ai (by omega:k<4611686018427387904)]
  rw [JK hk]
 ·rw [jZ,cW];simp [av]
omit he hp ho in
theorem WV (kd:Int) (l:List Bool) (b:Bool) (hl:l.length≤1000):jv kd l b=some (em kd l b l.length):=by
 unfold jv
 have h:=ba (gq kd l b) (fun k=>(em kd l b k,(k:Int))) l.length (some (em kd l b l.length)) (by omega) (fun k fuel hk=>?_) (fun fuel=>?_)
 ·rw [show (([]:List (Int×Int×Int)),(0:Int))=(em kd l b 0,((0:Nat):Int)) from rfl,h];rfl
 ·rw [mW,fJ]
  have hb:=vV kd l b k
  have ha:bp (em kd l b k).length 1=true:=by simp [bp];omega
  simp only [aK hk,ah hk,aa,cond_true,Int.toNat_natCast,List.length_singleton,ha,ai (by omega:k<4611686018427387904)]
  simp only [em]
  cases (l.getD k false==b)<;>rfl
 ·rw [mW,fJ];simp only [av,cond_false]
end
def FY (d:Int×Bool):Dd:=(bif d.2 then (0:Int) else 1,d.1,0)
theorem yg (on:List Bool) (x:Option (List Bool)):(xV on x).1.map FY=oG on x:=by
 cases x with
 |none=>rfl
 |some y=>
  show (ET on y).map FY=jJ on y on.length++qF on y on.length
  unfold ET jJ qF
  rw [List.map_append,List.map_map,List.map_map];rfl
theorem Fg (on:List Bool) (x:Option (List Bool)):(xV on x).1.length≤2*on.length:=by
 cases x with
 |none=>simp [xV]
 |some y=>
  have a:=List.length_filter_le (fun i=>on.getD i false&& !y.getD i false) (List.range on.length)
  have b:=List.length_filter_le (fun i=>y.getD i false&& !on.getD i false) (List.range on.length)
  rw [List.length_range] at a b
  simp only [xV,ET,List.length_append,List.length_map]
  omega
theorem KW (earth:List Bool) (br:List Int) {k:Nat} (hk:k<br.length):fz earth (br.take (k+1))=fz earth (br.take k)++((if earth.getD (br.getD k 0).toNat false then [] else [(2,br.getD k 0,0)])++ [(4,br.getD k 0,0),(7,br.getD k 0,0),(5,br.getD k 0,0)]):=by
 rw [List.take_succ_eq_append_getElem hk,←ae hk (d:=0)]
 unfold fz
 rw [List.flatMap_append];simp
theorem Ec (earth:List Bool) (br:List Int) {k:Nat} (hk:k<br.length):cz earth (br.take (k+1))=(cz earth (br.take k)).set (br.getD k 0).toNat true:=by
 rw [List.take_succ_eq_append_getElem hk,←ae hk (d:=0)]
 unfold cz
 rw [List.foldl_append];rfl
theorem zZ (earth:List Bool): ∀br:List Int,(fz earth br).length≤4*br.length
 | []=>by simp [fz]
 |l::br=>by
  have:=zZ earth br
  rw [HD]
  simp only [List.length_append,List.length_cons,List.length_nil]
  split<;>simp<;>omega
theorem vj: ∀(br:List Int) (earth:List Bool) (m:Nat),(∀x∈br,x.toNat≠m)→(cz earth br).getD m false=earth.getD m false
 | [],_,_,_=>rfl
 |l::br,earth,m,h=>by
  show (cz (earth.set l.toNat true) br).getD m false=_
  rw [vj br _ m fun x hx=>h x (List.mem_cons_of_mem _ hx)]
  have:=h l List.mem_cons_self
  simp [List.getD,List.getElem?_set_ne this]
theorem IG {br:List Int} (h:br.Pairwise (· < ·)) (h0: ∀x∈br,0≤x): ∀k,k<br.length→(k:Int)≤br.getD k 0
 |0,hk=>h0 _ (by rw [ae hk];exact List.getElem_mem hk)
 |k+1,hk=>by
  have:=IG h h0 k (by omega)
  have:=oI h hk
  omega
theorem Kx {w:Wd} (h:WdOk w):w.br.length≤w.on.length:=by
 cases hb:w.br.length with
 |zero=>omega
 |succ n=>
  have h1:=IG h.sor (fun x hx=>(h.inn x hx).1.1) n (by omega)
  have h2:=(h.inn (w.br.getD n 0) (by rw [ae (show n<w.br.length by omega)];exact List.getElem_mem _)).1.2
  omega
theorem Sn {br:List Int} (h:br.Pairwise (· < ·)) (h0: ∀x∈br,0≤x) {k:Nat} (hk:k<br.length): ∀x∈br.take k,x.toNat≠(br.getD k 0).toNat:=by
 intro x hx e
 have hk0:=h0 (br.getD k 0) (by rw [ae hk];exact List.getElem_mem hk)
 have hx0:=h0 x (List.mem_of_mem_take hx)
 have h2:(br.take k++br.drop k).Pairwise (· < ·):=by rw [List.take_append_drop];exact h
 have:=(List.pairwise_append.1 h2).2.2 x hx (br.getD k 0) (by rw [List.drop_eq_getElem_cons hk,ae hk];exact List.mem_cons_self)
 omega
theorem Rk (p:List (Int×Bool)×Bool) (L:List Dd) (h:L.length+p.1.length≤1048576):dk p ao (L,0)=some (L++p.1.map FY):=by
 have hh:=ba (dk p) (fun k=>(L++(p.1.take k).map FY,(k:Int))) p.1.length (some (L++p.1.map FY)) (by omega) (fun k fuel hk=>?_) (fun fuel=>?_)
 ·simpa using hh
 ·rw [mn,eL]
  have ap: ∀x:Dd,bp (L++(p.1.take k).map FY).length ([x]:List Dd).length=true:=fun x=>lL (by simp only [List.length_append,List.length_map,List.length_take,List.length_singleton];omega)
  simp only [aK hk,ah hk,cond_true,aa,Int.toNat_natCast,ap,ai (by omega:k<4611686018427387904)]
  rw [List.take_succ_eq_append_getElem hk,←ae hk (d:=((0,false):Int×Bool)),List.map_append,List.map_cons,List.map_nil,←List.append_assoc]
  unfold FY
  cases (p.1.getD k ((0,false):Int×Bool)).2<;>rfl
 ·rw [mn,eL];simp only [av,cond_false,List.take_length]
theorem Lx (br:List Int) (p:List Dd×List Bool×Int) (L:List Dd) (h:L.length≤1048576):dj br p ao (L,0)=some (L++ [(4,br.getD p.2.2.toNat 0,0),(7,br.getD p.2.2.toNat 0,0),(5,br.getD p.2.2.toNat 0,0)]):=by
 have hh:=ba (dj br p) (fun k=>(L++(([4,7,5]:List Int).take k).map (fun kd=>(kd,br.getD p.2.2.toNat 0,0)),(k:Int))) 3 (some (L++ [(4,br.getD p.2.2.toNat 0,0),(7,br.getD p.2.2.toNat 0,0),(5,br.getD p.2.2.toNat 0,0)])) (by omega) (fun k fuel hk=>?_) (fun fuel=>?_)
 ·simpa using hh
 ·rw [mm,eK]
  have ap: ∀x:Dd,bp (L++(([4,7,5]:List Int).take k).map (fun kd=>(kd,br.getD p.2.2.toNat 0,(0:Int)))).length ([x]:List Dd).length=true:=fun x=>lL (by simp only [List.length_append,List.length_map,List.length_take,List.length_singleton];omega)
  have hlt:am (k:Int) 3=true:=decide_eq_true (by omega)
  have hix:aI (k:Int) 3=true:=ah hk
  simp only [hlt,hix,cond_true,aa,Int.toNat_natCast,ap,ai (by omega:k<4611686018427387904)]
  have:k=0∨k=1∨k=2:=by omega
  rcases this with rfl |rfl |rfl<;>simp
 ·rw [mm,eK];rfl
section
variable {earth:List Bool} {br:List Int} (hs:br.Pairwise (· < ·)) (hi: ∀x∈br,0≤x∧x<(earth.length:Int)) (hb:br.length≤1000) (L:List Dd) (hL:L.length≤1000)
include hs hi hb hL
theorem WU:di br earth ao (L,earth,0)=some (L++fz earth br,cz earth br):=by
 have hh:=ba (di br earth) (fun k=>(L++fz earth (br.take k),cz earth (br.take k),(k:Int))) br.length (some (L++fz earth br,cz earth br)) (by omega) (fun k fuel hk=>?_) (fun fuel=>?_)
 ·simpa [fz,cz] using hh
 ·rw [ml,eJ]
  have hg:=hi (br.getD k 0) (by rw [ae hk];exact List.getElem_mem hk)
  have hix:aI (br.getD k 0) earth.length=true:=by simp only [aI,Bool.and_eq_true,decide_eq_true_eq];omega
  have hfl:=zZ earth (br.take k)
  have htl:(br.take k).length≤k:=by rw [List.length_take];omega
  have hkeep:=vj (br.take k) earth (br.getD k 0).toNat (Sn hs (fun x hx=>(hi x hx).1) hk)
  have ap: ∀x:Dd,bp (L++fz earth (br.take k)).length ([x]:List Dd).length=true:=fun x=>lL (by simp only [List.length_append,List.length_singleton];omega)
  simp only [aK hk,ah hk,cond_true,aa,Int.toNat_natCast,hix,ap,ai (by omega:k<4611686018427387904)]
  rw [hkeep,KW earth br hk,Ec earth br hk]
  cases he:earth.getD (br.getD k 0).toNat false
  ·simp only [cond_false,Option.bind_some,Bool.false_eq_true,if_false]
   rw [Lx _ _ _ (by simp only [List.length_append,List.length_singleton];omega)]
   simp only [Option.bind_some,Int.toNat_natCast,List.append_assoc]
  ·simp only [cond_true,Option.bind_some,if_true]
   rw [Lx _ _ _ (by simp only [List.length_append];omega),sy (hkeep.trans he)]
   simp only [Option.bind_some,Int.toNat_natCast,List.append_assoc,List.nil_append]
 ·rw [ml,eJ];simp only [av,cond_false,List.take_length]
end
theorem Li {w:Wd} (h:WdOk w):(og w).length≤1000:=by
 have h1:=Kx h
 have h2:=zZ w.earth w.br
 have h3:=vV 3 (cz w.earth w.br) true w.on.length
 have h4:=Fg w.on (gf w.ls w.on w.pts)
 have h5:=h.work.lp
 have h6:=h.work.l1
 have h7:(oG w.on (gf w.ls w.on w.pts)).length=(xV w.on (gf w.ls w.on w.pts)).1.length:=by rw [←yg,List.length_map]
 simp only [Wd.wk] at h5 h6
 simp only [og,List.length_append,cR,List.length_map,h7]
 omega
section
variable (b:Int) (ls:List Ln) (pts:List (Int×Int)) (on earth:List Bool) (pm:Pm) (br:List Int) (hp:pts.length≤1048576) (ho:on.length≤1048576) (hm:pm.length≤1048576) (hb:br.length≤1048576)
include hp ho hm hb
theorem PM:dK b ls pts on earth pm br=some (if wv ⟨b,ls,pts,on,earth,pm,br⟩ then og ⟨b,ls,pts,on,earth,pm,br⟩ else []):=by
 unfold dK
 rw [SC b ls pts on earth pm br hp ho hm hb,Option.bind_some]
 cases hv:wv ⟨b,ls,pts,on,earth,pm,br⟩
 ·rfl
 have hw:=dc.1 hv
 have hbl:=Kx hw
 have hlp:=hw.bus.lp
 have w0:=hw.work.l0;have w1:=hw.work.l1;have we:=hw.work.le;have wp:=hw.work.lp;have hlen:=hw.len
 have hin:=hw.inn;have hsor:=hw.sor
 simp only [Wd.wk] at w0 w1 we wp
 dsimp only at hlp hbl hlen hin hsor
 subst hlp
 have h01:1≤ls.length:=by omega
 have hel:=Ge br earth
 have hfl:=zZ earth br
 have hol:=vV 3 (cz earth br) true earth.length
 have hrl:=Fg on (gf ls on pts)
 have hrt:(cR pm).length=pm.length:=by simp [cR]
 have a1:bp ([]:List Bool).length earth.length=true:=lL (by simp only [List.length_nil];omega)
 have a2:bp (cR pm++fz earth br).length (em 3 (cz earth br) true earth.length).length=true:=lL (by simp only [List.length_append];omega)
 simp only [cond_true,UN (on,earth,pm) (show pm.length≤1000 by omega),aM,a1,aa,Option.bind_some,if_true]
 rw [WU hsor (fun x hx=>by have:=(hin x hx).1;omega) (by omega) _ (by omega),Option.bind_some]
 dsimp only
 rw [WV 3 (cz earth br) true (by omega),Option.bind_some,hel,a2,aa,Lt ⟨hw.bus.net,hlen⟩ hw.bus h01,Option.bind_some,Rk _ _ (by simp only [List.length_append];omega),Option.bind_some,yg]
 simp only [og,we]
theorem UA:fU b ls pts on earth pm br=some (wv ⟨b,ls,pts,on,earth,pm,br⟩&&((og ⟨b,ls,pts,on,earth,pm,br⟩).length:Int)==0):=by
 unfold fU
 rw [SC b ls pts on earth pm br hp ho hm hb,PM b ls pts on earth pm br hp ho hm hb,Option.bind_some]
 cases wv ⟨b,ls,pts,on,earth,pm,br⟩<;>rfl
end
def PG (w:Wd):List Dd:=if wv w=true then og w else []
def Sh (w:Wd):Wd:=(uj w (PG w)).2
theorem QW (w:Wd):(PG w).length≤1000:=by
 unfold PG
 split
 ·rename_i h;exact Li (dc.1 h)
 ·simp
theorem Rb {w:Wd} (h:Sm w):dK w.b w.ls w.pts w.on w.earth w.pm w.br=some (PG w):=PM w.b w.ls w.pts w.on w.earth w.pm w.br h.p h.o h.m h.b
theorem QY {w:Wd} (h:Sm w):fU w.b w.ls w.pts w.on w.earth w.pm w.br=some (wv w&&((og w).length:Int)==0):=UA w.b w.ls w.pts w.on w.earth w.pm w.br h.p h.o h.m h.b
theorem Mv (w:Wd):Sm (Sh w):=FD (w:=w) (PG w)
theorem UM {w:Wd} (h:Sm w):iQ w.b w.ls w.pts w.on w.earth w.pm w.br=some (o7 (Sh w)):=by
 have hl:=QW w
 unfold iQ
 rw [Rb h,Option.bind_some,Jk h (PG w) (by omega)]
 rfl
theorem Qf {w:Wd} (h:WdOk w):Sh w=fA w∧WdOk (fA w):=by
 have e:PG w=og w:=by unfold PG;rw [if_pos (dc.2 h)]
 have h1:=Lj h
 have h2:=FC h (og w)
 rw [h1] at h2
 unfold Sh
 rw [e,h1]
 exact ⟨rfl,h2⟩
theorem zz (n:Nat): ∀k,em 3 (List.replicate n false) true k=[]
 |0=>rfl
 |k+1=>by
  have:(List.replicate n false).getD k false=false:=by
   simp only [List.getD,List.getElem?_replicate];split<;>rfl
  simp only [em,zz n k,this];rfl
theorem GV (x:List Bool):oG x (some x)=[]:=by
 have h: ∀k,(x.getD k false&& !x.getD k false)=false:=fun k=>by cases x.getD k false<;>rfl
 simp [oG,jJ,qF,h]
theorem JH (w:Wd):og (fA w)=[]:=by
 have h1:fz (fA w).earth (fA w).br=[]:=rfl
 have h2:cR (fA w).pm=[]:=rfl
 have h3:cz (fA w).earth (fA w).br=List.replicate w.on.length false:=rfl
 have h4:oG (fA w).on (gf (fA w).ls (fA w).on (fA w).pts)=[]:=by
  show oG ((gf w.ls w.on w.pts).getD w.on) (gf w.ls ((gf w.ls w.on w.pts).getD w.on) w.pts)=[]
  cases hb:gf w.ls w.on w.pts with
  |none=>simp only [Option.getD_none];rw [hb];rfl
  |some x=>simp only [Option.getD_some];rw [wI hb];exact GV x
 unfold og
 rw [h1,h2,h3,h4,zz];rfl
theorem FR {x y:Int} (hx:0≤x∧x<4611686018427387904) (hy:0≤y∧y<4611686018427387904):0≤pR .i64 x y∧pR .i64 x y<4611686018427387904:=by
 have hx':(BitVec.ofInt 64 x).toNat=x.toNat:=by rw [BitVec.toNat_ofInt];omega
 have hy':(BitVec.ofInt 64 y).toNat=y.toNat:=by rw [BitVec.toNat_ofInt];omega
 have h:(BitVec.ofInt 64 x ^^^ BitVec.ofInt 64 y).toNat<2 ^ 62:=by
  rw [BitVec.toNat_xor,hx',hy']
  exact Nat.xor_lt_two_pow (by omega) (by omega)
 have e:pR .i64 x y=ak ((BitVec.ofInt 64 x ^^^ BitVec.ofInt 64 y).toNat:Int):=rfl
 rw [e,aW (by omega) (by omega)]
 omega
structure Code (b:List Int):Prop where
 byte: ∀z∈b,0≤z∧z≤255
 len:b.length≤2000
theorem Code.at_ {b:List Int} (h:Code b) (k:Nat):0≤b.getD k 0∧b.getD k 0≤255:=by
 by_cases hk:k<b.length
 ·rw [ae hk];exact h.byte _ (List.getElem_mem hk)
 ·simp [List.getD,List.getElem?_eq_none (Nat.le_of_not_lt hk)]
theorem NO {x:List Int} (h: ∀z∈x,LB z):Code (x.take 2000):=
 ⟨fun z hz=>h z (List.mem_of_mem_take hz),by simp;omega⟩
theorem Im {b:List Int} (hb:Code b) {p n:Int} (hp:0≤p∧p≤1000000) (hn:n≤1000000): ∃v,ab b p n=some (v,p+1)∧0≤v∧(1≤n→v<n)∧(n<1→v=0):=by
 unfold ab
 have w1:ak (p+1)=p+1:=aW (by omega) (by omega)
 have w2:ak (p+1-1)=p:=by rw [aW (by omega) (by omega)];omega
 rw [w1,w2]
 have hlen:=hb.len
 by_cases h1:n<1
 ·rw [show am n 1=true from decide_eq_true h1];exact ⟨0,rfl,by omega,by omega,by omega⟩
 by_cases h2:(b.length:Int)=0
 ·rw [show ((b.length:Int)==0)=true by simpa using h2,Bool.or_true];exact ⟨0,rfl,by omega,by omega,by omega⟩
 rw [show am n 1=false from decide_eq_false h1,show ((b.length:Int)==0)=false by simpa using h2]
 have hz:LY n=true:=decide_eq_true (by omega)
 have hz2:LY (b.length:Int)=true:=decide_eq_true (by omega)
 simp only [Bool.or_self,cond_false,hz,hz2,aa]
 by_cases h3:p<(b.length:Int)
 ·have hi:aI p b.length=true:=by simp [aI];omega
  have hv:=hb.at_ p.toNat
  rw [show am p (b.length:Int)=true from decide_eq_true h3,cond_true,hi,aa,aW (by omega) (by omega)]
  exact ⟨_,rfl,Int.tmod_nonneg _ hv.1,fun h=>Int.tmod_lt_of_pos _ (by omega),by omega⟩
 ·rw [show am p (b.length:Int)=false from decide_eq_false h3,cond_false]
  have m1:ak (p*7)=p*7:=aW (by omega) (by omega)
  have m2:ak (p*7+3)=p*7+3:=aW (by omega) (by omega)
  rw [m1,m2]
  have t1:=Int.tmod_nonneg (b.length:Int) hp.1
  have t2:=Int.tmod_lt_of_pos p (show (0:Int)<(b.length:Int) by omega)
  have t3:=Int.tmod_nonneg (b.length:Int) (show 0≤p*7+3 by omega)
  have t4:=Int.tmod_lt_of_pos (p*7+3) (show (0:Int)<(b.length:Int) by omega)
  have i1:aI (p.tmod (b.length:Int)) b.length=true:=by simp [aI];omega
  have i2:aI ((p*7+3).tmod (b.length:Int)) b.length=true:=by simp [aI];omega
  rw [i1,i2]
  simp only [aa]
  have v1:=hb.at_ (p.tmod (b.length:Int)).toNat
  have v2:=hb.at_ ((p*7+3).tmod (b.length:Int)).toNat
  generalize b.getD (p.tmod (b.length:Int)).toNat 0=c1 at*
  generalize b.getD ((p*7+3).tmod (b.length:Int)).toNat 0=c2 at*
  have q0:0≤p.tdiv (b.length:Int):=Int.tdiv_nonneg hp.1 (by omega)
  have q1:p.tdiv (b.length:Int)≤p:=Int.tdiv_le_self _ hp.1
  generalize p.tdiv (b.length:Int)=q at*
  have a1:ak c1=c1:=aW (by omega) (by omega)
  have a2:ak c2=c2:=aW (by omega) (by omega)
  have a3:ak (c1*131)=c1*131:=aW (by omega) (by omega)
  have a4:ak (c2*1117)=c2*1117:=aW (by omega) (by omega)
  have a5:ak (c1*131+c2*1117)=c1*131+c2*1117:=aW (by omega) (by omega)
  have a6:ak (p*29)=p*29:=aW (by omega) (by omega)
  have a7:ak (c1*131+c2*1117+p*29)=c1*131+c2*1117+p*29:=aW (by omega) (by omega)
  have a8:ak q=q:=aW (by omega) (by omega)
  have a9:ak (q*53)=q*53:=aW (by omega) (by omega)
  have a10:ak (c1*131+c2*1117+p*29+q*53)=c1*131+c2*1117+p*29+q*53:=aW (by omega) (by omega)
  simp only [a1,a2,a3,a4,a5,a6,a7,a8,a9,a10]
  have b0:0≤c1*131+c2*1117+p*29+q*53:=by omega
  have b1:c1*131+c2*1117+p*29+q*53<1000000000:=by omega
  generalize c1*131+c2*1117+p*29+q*53=x at*
  have d0:0≤x.tdiv 64:=Int.tdiv_nonneg b0 (by decide)
  have d1:x.tdiv 64≤x:=Int.tdiv_le_self _ b0
  rw [aW (by omega: -9223372036854775808≤x.tdiv 64) (by omega)]
  have hx:=FR (x:=x) (y:=x.tdiv 64) ⟨b0,by omega⟩ ⟨d0,by omega⟩
  exact ⟨_,rfl,Int.tmod_nonneg _ hx.1,fun h=>Int.tmod_lt_of_pos _ (by omega),by omega⟩
theorem RH {b:List Int} (hb:Code b) {p n:Int} (hp:0≤p∧p≤1000000) (hn:1≤n∧n≤1000000): ∃v,bO b p n=some (v,p+1):=by
 obtain ⟨v,h1,_⟩:=Im hb hp hn.2
 unfold bO
 rw [show am 0 n=true from decide_eq_true (by omega),cond_true,h1]
 exact ⟨_,rfl⟩
theorem Kl:mJ=some true:=by
 have h: ∀fuel,bJ 2 [(0,1,1)] (fuel+2) 0=some (.inl ()):=by
  intro fuel
  rw [gj,cd]
  have:bJ 2 [(0,1,1)] (fuel+1) 1=some (.inl ()):=by rw [gj,cd];rfl
  exact this
 have hF:ao=4611686018427387902+2:=nK
 have hv:aC 2 [(0,1,1)]=some true:=by unfold aC;rw [hF,h];rfl
 unfold mJ mh
 rw [hv]
 have ht:bF 0 []=some (bH []):=rfl
 simp [gb,aH,bV,ht,bH,am,bb,aI]
def Ys {α:Type} (m:Option α) (P:α→Prop):Prop:= ∃r,m=some r∧P r
section
variable {α β γ:Type} {P Q:α→Prop} {m x y:Option α} {b g:Bool}
theorem aJ {a:α} (h:P a):Ys (some a) P:=⟨a,rfl,h⟩
theorem bP {m:Option β} {f:β→Option α} {Q:β→Prop} (h:Ys m Q) (k: ∀b,Q b→Ys (f b) P):Ys (Option.bind m f) P:=by
 obtain ⟨b,rfl,h1⟩:=h
 exact k b h1
theorem aS {m:Option β} {f:β→Option α} (h:Ys m fun b=>Ys (f b) P):Ys (Option.bind m f) P:=bP h fun _ k=>k
theorem bS (h:b=true) (k:Ys m P):Ys (au b m) P:=by subst h;exact k
theorem ew (h1:b=true→Ys x P) (h2:b=false→Ys y P):Ys (bif b then x else y) P:=by
 cases b with
 |true=>exact h1 rfl
 |false=>exact h2 rfl
theorem IQ {a:α} (h:m=some a) (k:P a):Ys m P:=⟨a,h,k⟩
theorem um {σ:Type} {R:α→Prop} (L:Nat→σ→Option α) (μ:σ→Nat) (I:σ→Prop) (hstep: ∀fuel s,I s→(∀s',I s'→μ s'<μ s→Ys (L fuel s') R)→Ys (L (fuel+1) s) R): ∀(fuel:Nat) (s:σ),I s→μ s<fuel→Ys (L fuel s) R:=by
 intro fuel
 induction fuel with
 |zero=>intro s _ h;omega
 |succ fuel ih=>intro s hs hm;exact hstep fuel s hs fun s' h1 h2=>ih s' h1 (by omega)
end
theorem aY {b:List Int} {P:Int×Int→Prop} (hb:Code b) {p n:Int} (hp:0≤p∧p≤1000000) (hn:n≤1000000) (h: ∀v,0≤v→(1≤n→v<n)→(n<1→v=0)→P (v,p+1)):Ys (ab b p n) P:=by
 obtain ⟨v,h1,h2,h3,h4⟩:=Im hb hp hn
 exact ⟨_,h1,h v h2 h3 h4⟩
theorem Nd {b:List Int} {P:Bool×Int→Prop} (hb:Code b) {p n:Int} (hp:0≤p∧p≤1000000) (hn:1≤n∧n≤1000000) (h: ∀v,P (v,p+1)):Ys (bO b p n) P:=by
 obtain ⟨v,h1⟩:=RH hb hp hn
 exact ⟨_,h1,h v⟩
theorem wM {n:Int} (h: -1000000000≤n∧n≤1000000000):ak n=n:=aW (by omega) (by omega)
structure Sz (m:Nat) (w:Wd):Prop where
 ls:w.ls.length≤m
 pts:w.pts.length≤m
 on:w.on.length≤m
 earth:w.earth.length≤m
 pm:w.pm.length≤m
 br:w.br.length≤m
theorem Sz.mono {m n:Nat} {w:Wd} (h:Sz m w) (hm:m≤n):Sz n w:=by
 obtain ⟨h1,h2,h3,h4,h5,h6⟩:=h
 exact ⟨by omega,by omega,by omega,by omega,by omega,by omega⟩
theorem Sz.sm {w:Wd} (h:Sz 40 w):Sm w:=by
 obtain ⟨h1,h2,h3,h4,h5,h6⟩:=h
 exact ⟨by omega,by omega,by omega,by omega,by omega,by omega⟩
theorem Vz {w:Wd} (h:WdOk w):Sz 30 w:=by
 have h1:=h.bus.net.ll;have h2:=h.bus.lp;have h3:=h.bus.net.b1;have h4:=h.work.l1;have h5:=h.work.le;have h6:=h.work.lp;have h7:=Kr h
 simp only [Wd.wk] at h4 h5 h6
 exact ⟨by omega,by omega,by omega,by omega,by omega,by omega⟩
theorem Nb {w:Wd} {kd a who:Int} (ht:(bw w kd a who).2=true):wv w=true:=by
 unfold bw at ht
 split at ht
 ·assumption
 ·cases ht
theorem Vy {w:Wd} {kd a who:Int} (ht:(bw w kd a who).2=true):Sz 30 (bw w kd a who).1∧(bw w kd a who).1.pts=w.pts:=
 ⟨Vz (wC (dc.1 (Nb ht)) kd a who),(Na w (Nb ht) kd a who).2.2⟩
def Qb (t:Int×List Ln×List (Int×Int)×List Bool×List Bool×Pm×List Int):Wd:=⟨t.1,t.2.1,t.2.2.1,t.2.2.2.1,t.2.2.2.2.1,t.2.2.2.2.2.1,t.2.2.2.2.2.2⟩
theorem XO {b:List Int} (hb:Code b) {u w:Int×Int} (hu:0≤u.1∧u.1<6) {p:Int} (hp:0≤p∧p≤1000):
 Ys (dz b u w ao ([],[],0,p,[])) fun r=>r.1.length+1=(2+u.1).toNat∧r.2.1.length=(2+u.1).toNat∧(0≤r.2.2.1∧r.2.2.1≤p+50)∧r.2.2.2.length+1=(2+u.1).toNat:=by
 have wu:ak (2+u.1)=2+u.1:=wM (by omega)
 refine um (dz b u w) (fun s=>(2+u.1-s.2.2.1).toNat) (fun s=>(0≤s.2.2.1∧s.2.2.1≤2+u.1)∧s.1.length=s.2.2.1.toNat-1∧s.2.1.length=s.2.2.1.toNat∧(0≤s.2.2.2.1∧s.2.2.2.1≤p+5*s.2.2.1)∧s.2.2.2.2.length=s.2.2.1.toNat-1) (fun fuel s hs ih=>?_) ao _ ⟨by (try dsimp only);omega,rfl,rfl,by (try dsimp only);omega,rfl⟩ (by (try dsimp only);rw [nK];omega)
 obtain ⟨on,bs,k,q,ln⟩:=s
 dsimp only at hs ih ⊢
 obtain ⟨h1,h2,h3,h4,h5⟩:=hs
 rw [sb,iJ]
 dsimp only
 rw [wu]
 refine ew (fun hc=>?_) (fun hc=>?_)
 ·have hc:=tO hc
  refine bP (Q:=fun r=>r.1.length=k.toNat∧(0≤r.2.1∧r.2.1≤q+4)∧r.2.2.length=k.toNat) ?_ fun r hr=>?_
  ·refine ew (fun hk=>?_) (fun hk=>?_)
   ·have hk:=tO hk
    refine aS (aY hb (by omega) (by omega) fun v v0 v1 _=>?_)
    refine aS (aY hb (by (try dsimp only);omega) (by omega) fun v' v0' v1' _=>?_)
    refine bS (by simp [bp];omega) ?_
    refine bP (Q:=fun r=>r.1.length=k.toNat∧(0≤r.2∧r.2≤q+4)) ?_ fun r hr=>aJ ⟨hr.1,hr.2,by simp;omega⟩
    refine ew (fun _=>bS (by simp [bp];omega) (aJ ⟨by simp;omega,by (try dsimp only);omega⟩)) (fun _=>?_)
    refine aS (aY hb (by (try dsimp only);omega) (by omega) fun v2 v20 v21 _=>?_)
    exact bS (by simp [bp];omega) (aJ ⟨by simp;omega,by (try dsimp only);omega⟩)
   ·have hk:=EE hk
    exact aJ ⟨by (try dsimp only);omega,by (try dsimp only);omega,by (try dsimp only);omega⟩
  ·obtain ⟨r1,r2,r3⟩:=hr
   refine aS (aY hb (by (try dsimp only);omega) (by omega) fun v v0 v1 _=>?_)
   refine bS (by simp [bp];omega) ?_
   dsimp only
   rw [wM (n:=k+1) (by omega)]
   exact ih _ ⟨by (try dsimp only);omega,by (try dsimp only);omega,by simp;omega,by (try dsimp only);omega,by (try dsimp only);omega⟩ (by (try dsimp only);omega)
 ·have hc:=EE hc
  exact aJ ⟨by (try dsimp only);omega,by (try dsimp only);omega,by (try dsimp only);omega,by (try dsimp only);omega⟩
theorem XP {b:List Int} (hb:Code b) {u:Int×Int} (hu:0≤u.1∧u.1<6) {n p:Int} {on:List Bool} {ln:List Ln} (hn:0≤n∧n≤3) (hp:0≤p∧p≤1000) (ho:on.length≤10) (hl:ln.length≤10):
 Ys (dA b u ao (on,n,p,ln)) fun r=>(on.length≤r.1.length∧r.1.length≤13)∧(0≤r.2.1∧r.2.1≤p+9)∧r.2.2.length≤13:=by
 have wu:ak (2+u.1)=2+u.1:=wM (by omega)
 have wu1:ak (2+u.1-1)=2+u.1-1:=wM (by omega)
 refine um (dA b u) (fun s=>s.2.1.toNat) (fun s=>(0≤s.2.1∧s.2.1≤3)∧(on.length≤s.1.length∧s.1.length+s.2.1≤13)∧(0≤s.2.2.1∧s.2.2.1+3*s.2.1≤p+9)∧s.2.2.2.length+s.2.1≤13) (fun fuel s hs ih=>?_) ao _ ⟨hn,by (try dsimp only);omega,by (try dsimp only);omega,by (try dsimp only);omega⟩ (by (try dsimp only);rw [nK];omega)
 obtain ⟨on',k,q,ln'⟩:=s
 dsimp only at hs ih ⊢
 obtain ⟨h1,h2,h3,h4⟩:=hs
 rw [sc,iK]
 dsimp only
 rw [wu,wu1]
 refine ew (fun hc=>?_) (fun hc=>?_)
 ·have hc:=tO hc
  refine aS (aY hb (by omega) (by omega) fun v v0 v1 _=>?_)
  refine aS (aY hb (by (try dsimp only);omega) (by omega) fun v' v0' v1' _=>?_)
  refine bS (decide_eq_true (by omega)) ?_
  refine aS (aY hb (by (try dsimp only);omega) (by omega) fun v2 v20 v21 _=>?_)
  refine bS (by simp [bp];omega) (bS (by simp [bp];omega) ?_)
  dsimp only
  rw [wM (n:=k-1) (by omega)]
  exact ih _ ⟨by (try dsimp only);omega,by simp;omega,by (try dsimp only);omega,by simp;omega⟩ (by (try dsimp only);omega)
 ·have hc:=EE hc
  exact aJ ⟨by (try dsimp only);omega,by (try dsimp only);omega,by (try dsimp only);omega⟩
theorem WZ (b:List Int) (p:Int):bO b p 0=some (false,p):=rfl
theorem Gd {b:List Int} (hb:Code b) {p:Int} (hp:0≤p∧p≤100):Ys (iU b p 0) fun r=>r.2.1.length≤13∧r.2.2.1.length≤13∧(2≤r.2.2.2.1.length∧r.2.2.2.1.length≤7)∧(0≤r.2.2.2.2∧r.2.2.2.2≤p+100):=by
 unfold iU
 refine aS (aY hb (by omega) (by omega) fun v v0 v1 _=>?_)
 have v2:=v1 (by omega)
 refine aS (aY hb (by (try dsimp only);omega) (by omega) fun w w0 w1 _=>?_)
 refine bP (XO hb (by (try dsimp only);omega) (by (try dsimp only);omega)) fun r1 hr1=>?_
 obtain ⟨a1,a2,a3,a4⟩:=hr1
 dsimp only at a1 a2 a3 a4
 refine aS (aY hb (by (try dsimp only);omega) (by omega) fun w w0 w1 _=>?_)
 have w2:=w1 (by omega)
 refine bP (XP hb (u:=(v,p+1)) (by (try dsimp only);omega) (by (try dsimp only);omega) (by (try dsimp only);omega) (by omega) (by omega)) fun r2 hr2=>?_
 obtain ⟨b1,b2,b3⟩:=hr2
 refine aS (aY hb (by (try dsimp only);omega) (by omega) fun x x0 x1 _=>?_)
 refine bS (decide_eq_true (by omega)) ?_
 refine aS (aY hb (by (try dsimp only);omega) (by omega) fun x x0 x1 _=>?_)
 dsimp only
 rw [wM (n:=2+v) (by omega),wM (n:=2+v-1) (by omega)]
 refine bP (Q:=fun r=>r.1.length≤13∧(2≤r.2.1.length∧r.2.1.length≤7)∧(0≤r.2.2∧r.2.2≤p+90)) ?_ fun r hr=>?_
 ·refine ew (fun _=>?_) (fun _=>aJ ⟨by (try dsimp only);omega,by simp;omega,by (try dsimp only);omega⟩)
  refine aS (aY hb (by (try dsimp only);omega) (by omega) fun y y0 y1 _=>?_)
  have y2:=y1 (by omega)
  refine aS (aY hb (by (try dsimp only);omega) (by omega) fun z z0 z1 _=>?_)
  dsimp only
  rw [wM (n:=1+y) (by omega),wM (n:=1+y-1) (by omega)]
  exact bS (decide_eq_true (by omega)) (bS (decide_eq_true (by omega)) (aJ ⟨by simp;omega,by simp;omega,by (try dsimp only);omega⟩))
 ·obtain ⟨c1,c2,c3⟩:=hr
  refine aS (IQ (WZ _ _) ?_)
  refine bP (Q:=fun q=>q.1.length≤13∧(2≤q.2.1.length∧q.2.1.length≤7)∧(0≤q.2.2∧q.2.2≤p+90)) (ew (fun h=>by cases h) fun _=>aJ ⟨c1,c2,c3⟩) fun q hq=>aJ ⟨by (try dsimp only);omega,hq.1,hq.2.1,by have:=hq.2.2;(try dsimp only);omega⟩
theorem KJ {b:List Int} (hb:Code b) {p:Int} (hp:0≤p∧p≤1000) {w:Wd} (hw:Sz 40 w):Ys (fP b p w.b w.ls w.pts w.on w.earth w.pm w.br) fun r=>0≤r.2.2.2∧r.2.2.2≤p+8:=by
 have h1:=hw.on;have h2:=hw.pm
 unfold fP
 refine aS (aY hb (by omega) (by omega) fun v v0 v1 _=>?_)
 have v2:=v1 (by omega)
 refine bS (decide_eq_true (by (try dsimp only);simp only [List.length_cons,List.length_nil];omega)) ?_
 refine aS (aY hb (by (try dsimp only);omega) (by omega) fun _ _ _ _=>?_)
 dsimp only
 rw [wM (n:=(w.on.length:Int)+1) (by omega)]
 refine aS (aY hb (by (try dsimp only);omega) (by omega) fun _ _ _ _=>?_)
 refine aS (aY hb (by (try dsimp only);omega) (by omega) fun _ _ _ _=>?_)
 refine aS (aY hb (by (try dsimp only);omega) (by omega) fun _ _ _ _=>?_)
 dsimp only
 refine bP (Q:=fun r=>(r.1=true→0<w.pm.length)∧(0≤r.2∧r.2≤p+6)) ?_ fun r hr=>?_
 ·refine ew (fun hc=>?_) (fun _=>aJ ⟨nofun,by (try dsimp only);omega⟩)
  have hc:=tO hc
  exact aS (aY hb (by (try dsimp only);omega) (by omega) fun _ _ _ _=>aJ ⟨fun _=>by omega,by (try dsimp only);omega⟩)
 ·obtain ⟨r1,r2⟩:=hr
  refine ew (fun hc=>?_) (fun _=>aJ (by (try dsimp only);omega))
  have r1:=r1 hc
  refine aS (aY hb (by (try dsimp only);omega) (by omega) fun y y0 y1 _=>?_)
  have y2:=y1 (by omega)
  refine bS (decide_eq_true (by (try dsimp only);omega)) ?_
  refine aS (aY hb (by (try dsimp only);omega) (by omega) fun z z0 z1 _=>?_)
  have z2:=z1 (by omega)
  exact bS (decide_eq_true (by (try dsimp only);simp only [List.length_cons,List.length_nil];omega)) (aJ (by (try dsimp only);omega))
theorem XY {b:List Int} (hb:Code b) {n p:Int} (hn:0≤n∧n≤10) (hp:0≤p∧p≤500) {w:Wd} (hw:Sz 30 w) (h2:2≤w.pts.length):
 Ys (dS b ao (n,p,o7 w)) fun r=>(0≤r.1∧r.1≤p+80)∧Sz 30 (Qb r.2)∧2≤(Qb r.2).pts.length:=by
 refine um (dS b) (fun s=>s.1.toNat) (fun s=>(0≤s.1∧s.1≤10)∧(0≤s.2.1∧s.2.1+8*s.1≤p+80)∧Sz 30 (Qb s.2.2)∧2≤(Qb s.2.2).pts.length) (fun fuel s hs ih=>?_) ao _ ⟨hn,by (try dsimp only);omega,hw,h2⟩ (by (try dsimp only);rw [nK];omega)
 obtain ⟨k,q,s⟩:=s
 obtain ⟨x,rfl⟩: ∃x,s=o7 x:=⟨Qb s,rfl⟩
 dsimp only at hs ih ⊢
 obtain ⟨h1,h3,h4,h5⟩:=hs
 have h4:Sz 30 x:=h4
 have h5:2≤x.pts.length:=h5
 rw [sH,jd]
 dsimp only
 refine ew (fun hc=>?_) (fun hc=>?_)
 ·have hc:=tO hc
  refine bP (KJ hb (by omega) (h4.mono (by decide))) fun d hd=>?_
  refine aS (IQ (MI (h4.mono (by decide)).sm d.1 d.2.1 d.2.2.1) ?_)
  refine bP (Q:=fun r=>Sz 30 (Qb r)∧2≤(Qb r).pts.length) ?_ fun r hr=>?_
  ·refine ew (fun ht=>aJ ?_) (fun _=>aJ ⟨h4,h5⟩)
   obtain ⟨z1,z2⟩:=Vy (w:=x) (kd:=d.1) (a:=d.2.1) (who:=d.2.2.1) ht
   exact ⟨z1,by show 2≤(bw x d.1 d.2.1 d.2.2.1).1.pts.length;rw [z2];exact h5⟩
  ·(try dsimp only)
   rw [wM (n:=k-1) (by omega)]
   exact ih _ ⟨by (try dsimp only);omega,by (try dsimp only);omega,hr.1,hr.2⟩ (by (try dsimp only);omega)
 ·have hc:=EE hc
  exact aJ ⟨by (try dsimp only);omega,h4,h5⟩
theorem XZ (t:Int×Int×List (Int×Int×Int)×List (Int×Int)×List Bool×List Bool×List (Int×Int)×List Int) (ht:t.2.2.2.2.1.length≤30) {l:List Int} (hl:l.length≤30):Ys (dT t ao (0,l)) fun r=>r.length≤30:=by
 refine um (dT t) (fun s=>((t.2.2.2.2.1.length:Int)-s.1).toNat) (fun s=>(0≤s.1∧s.1≤t.2.2.2.2.1.length)∧s.2.length≤30) (fun fuel s hs ih=>?_) ao _ ⟨by (try dsimp only);omega,hl⟩ (by (try dsimp only);rw [nK];omega)
 obtain ⟨k,m⟩:=s
 dsimp only at hs ih ⊢
 rw [sJ,je]
 dsimp only
 refine ew (fun hc=>?_) (fun hc=>aJ hs.2)
 have hc:=tO hc
 refine bS (decide_eq_true (by omega)) ?_
 refine bP (Q:=fun r=>r.length≤30) (ew (fun _=>aJ (by simp)) fun _=>aJ hs.2) fun r hr=>?_
 rw [wM (n:=k+1) (by omega)]
 exact ih _ ⟨by (try dsimp only);omega,hr⟩ (by (try dsimp only);omega)
theorem Ja {b:List Int} (hb:Code b) {n:Int} (hn:1≤n∧n≤100):Ys (jA b 0 n) fun r=>Sz 40 ⟨r.1,r.2.1,r.2.2.1,r.2.2.2.1,r.2.2.2.2.1,r.2.2.2.2.2.1,r.2.2.2.2.2.2.1⟩∧(0≤r.2.2.2.2.2.2.2∧r.2.2.2.2.2.2.2≤400):=by
 unfold jA
 refine bP (Gd hb (by omega)) fun r hr=>?_
 obtain ⟨a1,a2,a3,a4⟩:=hr
 refine bS (by simp [sY];omega) ?_
 refine aS (aY hb (by omega) (by omega) fun v v0 v1 _=>?_)
 have v2:=v1 (by omega)
 refine bP (XY hb (w:=⟨r.1,r.2.1,r.2.2.2.1,r.2.2.1,List.replicate r.2.2.1.length false,[],[]⟩) (by (try dsimp only);omega) (by (try dsimp only);omega) ⟨by (try dsimp only);omega,by (try dsimp only);omega,by (try dsimp only);omega,by simp;omega,by simp,by simp⟩ (by (try dsimp only);omega)) fun s hs=>?_
 obtain ⟨b1,b2,b3⟩:=hs
 obtain ⟨c1,c2,c3,c4,c5,c6⟩:=b2
 simp only [Qb] at c1 c2 c3 c4 c5 c6 b3
 refine aS (Nd hb (by omega) (by omega) fun o=>?_)
 refine bP (Q:=fun q=>(q.2.1.length≤40∧q.2.2.1.length≤40∧q.2.2.2.1.length≤40∧q.2.2.2.2.length≤40)∧(0≤q.1∧q.1≤400)) ?_ fun q hq=>aJ ⟨⟨by (try dsimp only);omega,hq.1.1,hq.1.2.1,hq.1.2.2.1,by (try dsimp only);omega,hq.1.2.2.2⟩,hq.2⟩
 refine ew (fun _=>?_) (fun _=>aJ ⟨⟨by (try dsimp only);omega,by (try dsimp only);omega,by (try dsimp only);omega,by (try dsimp only);omega⟩,by (try dsimp only);omega⟩)
 refine aS (aY hb (by (try dsimp only);omega) (by omega) fun x x0 x1 _=>?_)
 refine bP (Q:=fun q=>q.1.length≤40∧q.2.1.length≤40∧q.2.2.1.length≤40∧q.2.2.2.length≤40) ?_ fun q hq=>aJ ⟨hq,by (try dsimp only);omega⟩
 refine ew (fun _=>bS (decide_eq_true (by omega)) (aJ ⟨by simp [ac];omega,by (try dsimp only);omega,by (try dsimp only);omega,by (try dsimp only);omega⟩)) (fun _=>?_)
 refine bP (Q:=fun q=>q.1.length≤40∧q.2.1.length≤40∧q.2.2.1.length≤40∧q.2.2.2.length≤40) ?_ fun q hq=>aJ hq
 refine ew (fun _=>bS (by simp [bp];omega) (aJ ⟨by (try dsimp only);omega,by (try dsimp only);omega,by (try dsimp only);omega,by simp;omega⟩)) (fun _=>?_)
 refine bP (Q:=fun q=>q.1.length≤40∧q.2.1.length≤40∧q.2.2.1.length≤40∧q.2.2.2.length≤40) ?_ fun q hq=>aJ hq
 refine ew (fun _=>bP (XZ s c3 c6) fun z hz=>aJ ⟨by (try dsimp only);omega,by (try dsimp only);omega,by (try dsimp only);omega,by (try dsimp only);omega⟩) (fun _=>?_)
 refine bP (Q:=fun q=>q.1.length≤40∧q.2.1.length≤40∧q.2.2.length≤40) ?_ fun q hq=>aJ ⟨hq.1,hq.2.1,hq.2.2,by (try dsimp only);omega⟩
 refine ew (fun _=>bS (by simp [bp];omega) (bS (by simp [bp];omega) (aJ ⟨by (try dsimp only);omega,by simp;omega,by simp;omega⟩))) (fun _=>?_)
 exact bS (decide_eq_true (by omega)) (bS (decide_eq_true (by omega)) (aJ ⟨by simp;omega,by (try dsimp only);omega,by (try dsimp only);omega⟩))
theorem tn {x:List Int} (h: ∀z∈x,LB z):Code (ac x 0 (ER x.length)):=by rw [ES];exact NO h
theorem UQ (w:Wd) (h:Sm w):aT w.b w.ls w.pts w.on w.earth w.pm w.br=some (wv w):=SC w.b w.ls w.pts w.on w.earth w.pm w.br h.p h.o h.m h.b
theorem Xe (w:Wd) (h:Sm w):cX w.b w.ls w.pts w.on w.earth w.pm w.br=some (wv w):=Xu w.b w.ls w.pts w.on w.earth w.pm w.br h.p h.o h.m h.b
def ch (b:Bool):UInt8:=if b then 49 else 48
def Hb (l:List Bool):ByteArray:=⟨(l.map ch).toArray⟩
def Dl (l:List Bool):ByteArray:=if l.length≤10 then Hb l else ⟨#[]⟩
def num (b:Bool):Int:=if b then 49 else 48
theorem Jv (l:List Bool):strOfNums (l.map num)=Hb l:=by
 unfold strOfNums Hb
 rw [List.map_map]
 have:((fun n:Int=>UInt8.ofNat n.toNat)∘num)=ch:=funext fun b=>by cases b<;>rfl
 rw [this]
theorem XJ (l:List Bool) (hl:l.length≤1000):fT l=some (Dl l):=by
 unfold fT Dl
 by_cases h:l.length≤10
 ·rw [if_pos h,show am 10 (l.length:Int)=false from decide_eq_false (by omega),show sY (l.length:Int)=true from decide_eq_true (by omega)]
  have hh:=IK (fD l) (l.map num) (List.replicate l.length 0) (by simp) (by simp;omega) (fun fuel x j hj hx=>by
   have hj':j<l.length:=by simpa using hj
   rw [mo,eO]
   simp only [aK hj',ah hj',aa,cond_true,Int.toNat_natCast,ai (by omega:j<4611686018427387904),ae hj',List.getElem_map]
   cases l[j]<;>rfl) (fun fuel x hx=>by rw [mo,eO];simp [av])
  simp only [cond_false,aa]
  rw [hh,←Jv];rfl
 ·rw [if_neg h,show am 10 (l.length:Int)=true from decide_eq_true (by omega)];rfl
section
variable {b:List Int} (hb: ∀z∈b,LB z)
include hb
end
end Go.Proofs.YtjdlgannencchaaGreatDoor
namespace Go.Proofs.YtjdlgannencchaaGreatDoor
open Go.Lib
set_option linter.unusedVariables false
set_option linter.unusedSimpArgs false
theorem NZ {w:Wd} (ok:WdOk w) (k:Nat):0≤lY w.ls w.on w.pts k∧lY w.ls w.on w.pts k<1000000:=by
 have hB:=ok.bus.net.b1
 have hl:=ok.bus.lp
 have key: ∀n,n≤w.pts.length→ ∀p:Nat→Bool,0≤((List.range n).map fun b=>if p b=true then (w.pts.getD b (0,0)).2 else 0).sum∧((List.range n).map fun b=>if p b=true then (w.pts.getD b (0,0)).2 else 0).sum≤999*n:=by
  intro n
  induction n with
  |zero=>intro _ p;simp
  |succ n ih=>
   intro hn p
   have:=ih (by omega) p
   have h2:=(ok.bus.bs n (by omega)).2
   rw [List.range_succ,List.map_append,List.sum_append]
   simp only [List.map_cons,List.map_nil,List.sum_cons,List.sum_nil]
   split<;>omega
 have:=key w.pts.length (Nat.le_refl _) fun b=>gk (aD w.ls w.on) w.pts b&& !gk (aD w.ls (w.on.set k false)) w.pts b
 unfold lY
 omega
def Gu (w:Wd) (n:Int):Int:=if 0≤n∧n<(w.ls.length:Int) then lY w.ls w.on w.pts n.toNat else-1
theorem Mm {w:Wd} (ok:WdOk w):rE w.b w.ls w.on w.pts=true:=by
 unfold rE;rw [jC.2 ⟨⟨ok.bus.net,ok.len⟩,ok.bus⟩,ok.rad];rfl
theorem Vv {w:Wd} (ok:WdOk w):StOk (w.pts.length:Int) w.ls w.on∧BusOk (w.pts.length:Int) w.ls w.pts:=by
 have hl:=ok.bus.lp
 exact ⟨⟨by rw [hl];exact ok.bus.net,ok.len⟩,by rw [hl];exact ok.bus⟩
theorem UD {w:Wd} (ok:WdOk w) (n:Int):jq w.b w.ls w.on w.pts n=some (Gu w n):=by
 obtain ⟨r,r1,r2,r3⟩:=Ly w.b w.ls w.on w.pts (sA ok).p
 rw [Mm ok] at r2
 obtain ⟨g1,g2,ord,g3,T⟩:=r3 (Mm ok)
 obtain ⟨h1,h2⟩:=Vv ok
 unfold jq Gu
 rw [r1,Option.bind_some,r2]
 simp only [aH,Bool.not_true,Bool.not_false,Bool.false_or,kf,Option.bind_some]
 by_cases hn:0≤n∧n<(w.ls.length:Int)
 ·obtain ⟨k,rfl⟩: ∃k:Nat,n=k:=⟨n.toNat,by omega⟩
  have hk:k<w.ls.length:=by omega
  rw [show (bb 0 (k:Int)&&am (k:Int) (w.ls.length:Int))=true by unfold bb am;simp;omega,if_pos hn,g1,g2,g3,show Rm true w.ls=w.ls from rfl,←ok.bus.lp,Lq h1 h2 ok.rad T]
  simp only [Bool.not_true,cond_false,Option.bind_some,wt,ah hk,aa,Int.toNat_natCast,wq hk]
 ·rw [show (bb 0 n&&am n (w.ls.length:Int))=false by unfold bb am;rw [Bool.eq_false_iff];simp;omega,if_neg hn];rfl
theorem PP {w:Wd} (ok:WdOk w):bW w.b w.ls w.on w.pts=some (be (aD w.ls w.on) w.pts):=by
 unfold bW
 rw [Oj _ w.ls w.pts (sA ok).p,jC.2 ⟨⟨ok.bus.net,ok.len⟩,ok.bus⟩,Option.bind_some,cond_true,HN ⟨ok.bus.net,ok.len⟩ ok.bus];rfl
theorem XH {w:Wd} (ok:WdOk w):dM w.b w.ls w.pts w.on w.earth w.pm w.br=some (zl (xc w)):=by
 have h:=sA ok
 rw [UB w.b w.ls w.pts w.on w.earth w.pm w.br h.p h.o h.m h.b,if_pos (dc.2 ok)]
theorem Um {w:Wd} (ok:WdOk w):(zl (xc w)).length≤1000∧ ∀x∈zl (xc w),0≤x∧x<1000000:=by
 have hB:=ok.bus.net.b1;have hl:=ok.bus.lp
 constructor
 ·have:(xc w).length≤(List.range w.pts.length).length:=List.length_filter_le _ _
  rw [gH];simp at this;omega
 ·intro x hx
  obtain ⟨k,hk,rfl⟩:=List.mem_map.1 hx
  have:k<w.pts.length:=by simpa [xc] using (List.mem_filter.1 hk).1
  omega
theorem SL {w:Wd} (ok:WdOk w):w.br.length≤1000∧ ∀x∈w.br,0≤x∧x<1000000:=by
 have h10:w.on.length≤10:=ok.work.l1
 exact ⟨by have:=Kr ok;omega,fun x hx=>by have:=(ok.inn x hx).1;omega⟩
def Ql:List UInt8:=[119,104,97,116]
def Pv:List UInt8:=[111,107]
def Xw:List UInt8:=[110,111]
def ui:List UInt8:=[104,101,97,108]
def IM:List UInt8:=[102,108,111,119]
def Dx:List UInt8:=[115,116,97,116,101]
def wB:List UInt8:=[115,101,114,118,101,100]
def IL:List UInt8:=[100,97,114,107]
def wA:List UInt8:=[98,114,111,107,101,110]
def Pu:List UInt8:=[110,101,116]
theorem vf (l:List UInt8):({data:=l.toArray}:ByteArray).toList=l:=pb l
def NA (w:Wd) (l:List UInt8):List UInt8:=
 bif l==Dx then tl (Dl w.on) else bif l==wB then Gw (be (aD w.ls w.on) w.pts) else bif l==IL then Ib (zl (xc w)) else bif l==wA then Ib w.br else bif l==Pu then RD w.b w.ls else Ql
def PE (w:Wd) (n:Int):List UInt8:=if 0≤n then (if n<(w.ls.length:Int) then Gw (lY w.ls w.on w.pts n.toNat) else Xw) else Ql
def zN (w:Wd) (l:List UInt8):List UInt8:=match fq 32 l with
 | [a,n]=>bif a==IM then PE w (iy n) else NA w l
 |_=>NA w l
theorem UX (l:List UInt8) (hl:l.length≤1048576):cQ ((fq 32 l).map bH) ({data:= #[32]}:ByteArray)=some (bH l):=by
 have hm:((fq 32 l).map bH).map (·.data.toList)=fq 32 l:=by
  rw [List.map_map];conv=>rhs;rw [←List.map_id (fq 32 l)]
  exact List.map_congr_left fun a _=>iB a
 have hs:(({data:= #[32]}:ByteArray)).data.toList=[32]:=rfl
 have hlen:(fq 32 l).length≤1048577:=by
  rw [tp];have:=List.count_le_length (a:=(32:UInt8)) (l:=l);omega
 unfold cQ
 rw [hm,hs,zk,List.length_map,decide_eq_true (by omega)];rfl
theorem WS {w:Wd} (ok:WdOk w) (l:List UInt8):(bif l==({data:= #[115,116,97,116,101]}:ByteArray).toList then Option.bind (fT w.on) (fun p=>some p) else (bif l==({data:= #[115,101,114,118,101,100]}:ByteArray).toList then Option.bind (bW w.b w.ls w.on w.pts) (fun p=>Option.bind (bj p) (fun q=>some q)) else (bif l==({data:= #[100,97,114,107]}:ByteArray).toList then Option.bind (dM w.b w.ls w.pts w.on w.earth w.pm w.br) (fun p=>Option.bind (cZ p) (fun q=>some q)) else (bif l==({data:= #[98,114,111,107,101,110]}:ByteArray).toList then Option.bind (cZ w.br) (fun p=>some p) else (bif l==({data:= #[110,101,116]}:ByteArray).toList then Option.bind (bF w.b w.ls) (fun p=>some p) else some ({data:= #[119,104,97,116]}:ByteArray))))))=some (bH (NA w l)):=by
 have h10:w.on.length≤10:=ok.work.l1
 have hs:=vv ok.bus (aD w.ls w.on)
 obtain ⟨d1,d2⟩:=Um ok
 obtain ⟨b1,b2⟩:=SL ok
 have e1:({data:= #[115,116,97,116,101]}:ByteArray).toList=Dx:=vf Dx
 have e2:({data:= #[115,101,114,118,101,100]}:ByteArray).toList=wB:=vf wB
 have e3:({data:= #[100,97,114,107]}:ByteArray).toList=IL:=vf IL
 have e4:({data:= #[98,114,111,107,101,110]}:ByteArray).toList=wA:=vf wA
 have e5:({data:= #[110,101,116]}:ByteArray).toList=Pu:=vf Pu
 rw [e1,e2,e3,e4,e5,XJ w.on (by omega),PP ok,XH ok,PO b1 b2,UK]
 simp only [Option.bind_some]
 rw [LF (by omega),PO d1 d2]
 simp only [Option.bind_some]
 unfold NA
 rw [←wK (Dl w.on)]
 cases l==Dx<;>cases l==wB<;>cases l==IL<;>cases l==wA<;>cases l==Pu<;>rfl
theorem Oh {w:Wd} (ok:WdOk w) (l:List UInt8) (hl:l.length≤1048576):fI w.b w.ls w.pts w.on w.earth w.pm w.br ((fq 32 l).map bH)=some (bH (zN w l)):=by
 unfold fI zN
 have hj:=UX l hl
 have hask:=WS ok l
 have e1:({data:= #[102,108,111,119]}:ByteArray).toList=IM:=vf IM
 rw [hj,e1]
 simp only [Option.bind_some,pb]
 rw [hask]
 cases hc:fq 32 l with
 |nil=>exact absurd hc (vT 32 l)
 |cons a r=>
  cases r with
  |nil=>rfl
  |cons n r=>
   cases r with
   |cons y r=>
    have:(((a::n::y::r).map bH).length:Int)==2↔False:=by simp;omega
    have h2:((((a::n::y::r).map bH).length:Int)==2)=false:=by rw [beq_eq_false_iff_ne];simp;omega
    rw [h2];rfl
   |nil=>
    have h2:((([a,n].map bH).length:Int)==2)=true:=rfl
    have h3:([a,n].map bH).getD ((0:Int).toNat) ByteArray.empty=bH a:=rfl
    have h4:([a,n].map bH).getD ((1:Int).toNat) ByteArray.empty=bH n:=rfl
    have h5: ∀i:Int,i=0∨i=1→aI i ([a,n].map bH).length=true:=fun i hi=>decide_eq_true (by rcases hi with rfl |rfl<;>simp)
    rw [h2,h3,h4,h5 0 (.inl rfl),h5 1 (.inr rfl),tG,Du]
    simp only [Bool.true_and,Bool.not_true,Bool.false_or,aa,pb,Option.bind_some]
    cases hf:a==IM with
    |false=>simp only [cond_false]
    |true=>
     simp only [cond_true]
     unfold PE
     have hb:=OH n
     by_cases h:0≤iy n
     ·rw [decide_eq_true h,cond_true,if_pos h,qT h]
      simp only [aH,Option.bind_some]
      by_cases hk:iy n<(w.ls.length:Int)
      ·have hfl:=NZ ok (iy n).toNat
       rw [show (bb 0 (iy n)&&am (iy n) (w.ls.length:Int))=true by unfold bb am;simp;omega,cond_true,UD ok,if_pos hk]
       unfold Gu
       rw [if_pos ⟨h,hk⟩,Option.bind_some,LF (by omega)];rfl
      ·rw [show (bb 0 (iy n)&&am (iy n) (w.ls.length:Int))=false by unfold bb am;rw [Bool.eq_false_iff];simp;omega,cond_false,if_neg hk];rfl
     ·rw [decide_eq_false h,cond_false,if_neg h];rfl
end Go.Proofs.YtjdlgannencchaaGreatDoor
namespace Go.Proofs.YtjdlgannencchaaGreatDoor
open Go.Lib
set_option linter.unusedVariables false
set_option linter.unusedSimpArgs false
def xd:List (List UInt8)→Option (Int×Int×Int)
 | [a,n]=>if (rq HU (bH a)).2=true∧0≤iy n then some ((rq HU (bH a)).1,iy n,0) else none
 | [a,n,m]=>if (rq HV (bH a)).2=true∧0≤iy n∧0≤iy m then some ((rq HV (bH a)).1,iy n,iy m) else none
 |_=>none
theorem Uk (a n:List UInt8):xd [a,n]=if (rq HU (bH a)).2=true∧0≤iy n then some ((rq HU (bH a)).1,iy n,0) else none:=rfl
theorem Ul (a n m:List UInt8):xd [a,n,m]=if (rq HV (bH a)).2=true∧0≤iy n∧0≤iy m then some ((rq HV (bH a)).1,iy n,iy m) else none:=rfl
theorem UC (ws:List (List UInt8)): ∃r,da (ws.map bH)=some r∧(match xd ws with |some d=>r=(d.1,d.2.1,d.2.2,true) |none=>r.2.2.2=false):=by
 unfold da
 match ws with
 | []=>exact ⟨_,rfl,rfl⟩
 | [a]=>exact ⟨_,rfl,rfl⟩
 |a::b::c::d::r=>
  have h2:decide (((a::b::c::d::r).map bH).length=2)=false:=decide_eq_false (by simp)
  have h3:decide (((a::b::c::d::r).map bH).length=3)=false:=decide_eq_false (by simp)
  rw [h2,h3]
  exact ⟨_,rfl,rfl⟩
 | [a,n]=>
  have h2:decide (([a,n].map bH).length=2)=true:=rfl
  have g0:([a,n].map bH).getD 0 ByteArray.empty=bH a:=rfl
  have g1:([a,n].map bH).getD 1 ByteArray.empty=bH n:=rfl
  rw [h2,g0,g1,tG,Du]
  refine ⟨_,rfl,?_⟩
  rw [Uk]
  by_cases h:(rq HU (bH a)).2=true∧0≤iy n
  ·rw [if_pos h,h.1,decide_eq_true h.2,qT h.2];rfl
  ·rw [if_neg h]
   show ((rq HU (bH a)).2&&decide (0≤iy n))=false
   rw [Bool.eq_false_iff];intro k;rw [Bool.and_eq_true,decide_eq_true_eq] at k;exact h k
 | [a,n,m]=>
  have h2:decide (([a,n,m].map bH).length=2)=false:=rfl
  have h3:decide (([a,n,m].map bH).length=3)=true:=rfl
  have g0:([a,n,m].map bH).getD 0 ByteArray.empty=bH a:=rfl
  have g1:([a,n,m].map bH).getD 1 ByteArray.empty=bH n:=rfl
  have g2:([a,n,m].map bH).getD 2 ByteArray.empty=bH m:=rfl
  rw [h2,h3,g0,g1,g2,tG,tG,Du,Du]
  refine ⟨_,rfl,?_⟩
  rw [Ul]
  by_cases h:(rq HV (bH a)).2=true∧0≤iy n∧0≤iy m
  ·rw [if_pos h,h.1,decide_eq_true h.2.1,decide_eq_true h.2.2,qT h.2.1,qT h.2.2];rfl
  ·rw [if_neg h]
   show ((rq HV (bH a)).2&&decide (0≤iy n)&&decide (0≤iy m))=false
   rw [Bool.eq_false_iff];intro k;rw [Bool.and_eq_true,Bool.and_eq_true,decide_eq_true_eq,decide_eq_true_eq] at k;exact h ⟨k.1.1,k.1.2,k.2⟩
def pH (w:Wd) (l:List UInt8):Wd×List UInt8:=
 if wv w=true then
  (match xd (fq 32 l) with
  |some (kd,at_,who)=>((bw w kd at_ who).1,bif (bw w kd at_ who).2 then Pv else Xw)
  |none=>bif l==ui then (Sh w,Pv) else (w,zN w l))
 else (.zero,[])
def Xs (r:Wd×List UInt8):Int×List Ln×List (Int×Int)×List Bool×List Bool×Pm×List Int×ByteArray:=(r.1.b,r.1.ls,r.1.pts,r.1.on,r.1.earth,r.1.pm,r.1.br,bH r.2)
theorem UI {w:Wd} (sm:Sm w) (l:List UInt8) (hl:l.length≤1048576):fV w.b w.ls w.pts w.on w.earth w.pm w.br (bH l)=some (Xs (pH w l)):=by
 unfold fV pH
 rw [UQ w sm,Option.bind_some]
 cases hv:wv w with
 |false=>rfl
 |true=>
  have ok:=dc.1 hv
  have hsp:ey (bH l) ({data:= #[32]}:ByteArray)=some ((fq 32 l).map bH):=by
   unfold ey
   rw [iC,decide_eq_true (by omega),show decide (({data:= #[32]}:ByteArray)=bH [32])=true from decide_eq_true rfl,iB];rfl
  obtain ⟨r,hr,hd⟩:=UC (fq 32 l)
  have e1:({data:= #[104,101,97,108]}:ByteArray).toList=ui:=vf ui
  rw [hsp,e1,pb]
  simp only [Option.bind_some,cond_true,if_true]
  rw [hr]
  simp only [Option.bind_some]
  cases hdp:xd (fq 32 l) with
  |some d=>
   obtain ⟨kd,a,who⟩:=d
   rw [hdp] at hd
   subst hd
   rw [Et sm kd a who]
   simp only [cond_true,Option.bind_some,o8]
   cases (bw w kd a who).2<;>rfl
  |none=>
   rw [hdp] at hd
   simp only at hd
   rw [hd,UM sm,Oh ok l hl]
   have hc:=vX (w:=w) sm
   simp only [cond_false,Option.bind_some]
   rw [hc]
   cases l==ui<;>rfl
end Go.Proofs.YtjdlgannencchaaGreatDoor
namespace Go.Proofs.YtjdlgannencchaaGreatDoor
open Go.Lib
set_option linter.unusedVariables false
set_option linter.unusedSimpArgs false
theorem Oz {w:Wd} (ok:WdOk w) (l:List UInt8):WdOk (pH w l).1:=by
 unfold pH
 rw [if_pos (dc.2 ok)]
 cases xd (fq 32 l) with
 |some d=>obtain ⟨kd,a,who⟩:=d;exact wC ok kd a who
 |none=>
  cases l==ui with
  |true=>have:=Qf ok;show WdOk (Sh w);rw [this.1];exact this.2
  |false=>exact ok
theorem OA {w:Wd} (sm:Sm w) (l:List UInt8):Sm (pH w l).1:=by
 unfold pH
 split
 ·cases xd (fq 32 l) with
  |some d=>obtain ⟨kd,a,who⟩:=d;exact Hf kd a who
  |none=>
   cases l==ui with
   |true=>exact Mv w
   |false=>exact sm
 ·exact Xi
theorem Re {w:Wd} (sm:Sm w) (s:ByteArray) (hs:s.size≤1048576):fV w.b w.ls w.pts w.on w.earth w.pm w.br s=some (Xs (pH w (tl s))):=by
 have:=UI sm (tl s) (by rw [Dv];exact hs)
 rwa [show bH (tl s)=s from wK s] at this
def ci:Wd→List ByteArray→Wd×List ByteArray
 |w,[]=>(w,[])
 |w,s::r=>((ci (pH w (tl s)).1 r).1,bH (pH w (tl s)).2::(ci (pH w (tl s)).1 r).2)
theorem xD: ∀(a b:List ByteArray) (w:Wd),ci w (a++b)=((ci (ci w a).1 b).1,(ci w a).2++(ci (ci w a).1 b).2)
 | [],b,w=>rfl
 |s::r,b,w=>by rw [List.cons_append,ci,xD r b];rfl
theorem sM: ∀(a:List ByteArray) (w:Wd),(ci w a).2.length=a.length
 | [],w=>rfl
 |s::r,w=>by rw [ci];simp [sM r]
theorem zo: ∀(a:List ByteArray) {w:Wd},WdOk w→WdOk (ci w a).1
 | [],w,h=>h
 |s::r,w,h=>zo r (Oz h (tl s))
theorem zp: ∀(a:List ByteArray) {w:Wd},Sm w→Sm (ci w a).1
 | [],w,h=>h
 |s::r,w,h=>zp r (OA h (tl s))
theorem vq (a:List ByteArray) (s:ByteArray) (w:Wd):ci w (a++ [s])=((pH (ci w a).1 (tl s)).1,(ci w a).2++ [bH (pH (ci w a).1 (tl s)).2]):=by
 rw [xD];rfl
def CF (w:Wd) (ls:List ByteArray):Wd×List ByteArray:=if wv w=true∧ls.length≤40 then ci w ls else (.zero,[])
def Xt (r:Wd×List ByteArray):Int×List Ln×List (Int×Int)×List Bool×List Bool×Pm×List Int×List ByteArray:=(r.1.b,r.1.ls,r.1.pts,r.1.on,r.1.earth,r.1.pm,r.1.br,r.2)
theorem Rg {w:Wd} (sm:Sm w) (ls:List ByteArray) (hs: ∀s∈ls,s.size≤1048576):ib w.b w.ls w.pts w.on w.earth w.pm w.br ls=some (Xt (CF w ls)):=by
 unfold ib CF
 rw [UQ w sm,Option.bind_some]
 by_cases hv:wv w=true∧ls.length≤40
 ·rw [if_pos hv,hv.1,show am 40 (ls.length:Int)=false from decide_eq_false (by omega),vX (w:=w) sm]
  have hmk:sY (ls.length:Int)=true:=decide_eq_true (by omega)
  have hh:=ba (cI ls) (fun k=>((ci w (ls.take k)).2++List.replicate (ls.length-k) ByteArray.empty,(k:Int),o7 (ci w (ls.take k)).1)) ls.length (some ((ci w ls).2,o7 (ci w ls).1)) (by omega) (fun k fuel hk=>by
   have hl:=sM (ls.take k) w
   have hlk:(ls.take k).length=k:=by simp;omega
   have hline:=Re (zp (ls.take k) sm) ls[k] (hs _ (List.getElem_mem hk))
   have hset: ∀x:ByteArray,((ci w (ls.take k)).2++List.replicate (ls.length-k) ByteArray.empty).set k x=((ci w (ls.take k)).2++ [x])++List.replicate (ls.length-(k+1)) ByteArray.empty:=fun x=>by
    rw [List.set_append_right _ _ (by omega),hl,hlk,Nat.sub_self,show ls.length-k=(ls.length-(k+1))+1 by omega,List.replicate_succ,List.set_cons_zero];simp
   rw [lQ,dZ]
   simp only [aK hk,ah hk,aa,cond_true,Int.toNat_natCast,ai (by omega:k<4611686018427387904),ae hk]
   dsimp only [o7]
   rw [hline]
   simp only [Option.bind_some,aa]
   rw [List.take_succ_eq_append_getElem hk,vq,←hset]
   rfl) (fun fuel=>by
   rw [lQ,dZ,List.take_length];simp only [av,cond_false,Nat.sub_self,List.replicate_zero,List.append_nil])
  simp only [Bool.not_true,Bool.false_or,cond_false,Option.bind_some,hmk,aa]
  rw [show cI ls ao (List.replicate ls.length ByteArray.empty,0,(o7 w).1,(o7 w).2.1,(o7 w).2.2.1,(o7 w).2.2.2.1,(o7 w).2.2.2.2.1,(o7 w).2.2.2.2.2.1,(o7 w).2.2.2.2.2.2)=_ from hh]
  rfl
 ·rw [if_neg hv]
  have:(!wv w ||am 40 (ls.length:Int))=true:=by
   cases h:wv w
   ·rfl
   ·rw [Bool.not_true,Bool.false_or];exact decide_eq_true (by have: ¬ls.length≤40:=fun k=>hv ⟨h,k⟩
                                                              omega)
  rw [this];rfl
end Go.Proofs.YtjdlgannencchaaGreatDoor
namespace Go.Proofs.YtjdlgannencchaaGreatDoor
open Go.Lib
set_option linter.unusedVariables false
set_option linter.unusedSimpArgs false
theorem GZ (L:List ByteArray) (n:Nat) (h:(L.all fun x=>decide (x.size≤n))=true) (k:Nat):(L.getD k ByteArray.empty).size≤n:=by
 by_cases hk:k<L.length
 ·rw [ae hk];simpa using List.all_eq_true.1 h _ (List.getElem_mem hk)
 ·have:L.getD k ByteArray.empty=ByteArray.empty:=by simp [List.getD,List.getElem?_eq_none (Nat.le_of_not_lt hk)]
  rw [this];exact Nat.zero_le _
theorem IH {a c:Nat} (h:a+c≤1000):Np a c=true:=decide_eq_true (by omega)
theorem KK {b:List Int} (hb:Code b) {p:Int} (hp:0≤p∧p≤700) {w:Wd} (hw:Sz 40 w):Ys (kQ b p w.b w.ls w.pts w.on w.earth w.pm w.br) fun r=>r.1.size≤60∧(0≤r.2∧r.2≤p+6):=by
 have h1:=hw.on
 unfold kQ
 refine aS (aY hb (by omega) (by omega) fun v v0 v1 _=>?_)
 have v2:=v1 (by omega)
 refine bS (decide_eq_true (by (try dsimp only);simp only [List.length_cons,List.length_nil];omega)) ?_
 dsimp only
 generalize hs:List.getD (α:=ByteArray) _ v.toNat _=s
 have hz:s.size≤20:=hs▸GZ _ 20 rfl _
 refine bS (IH (show s.size+1≤1000 by omega)) ?_
 rw [wM (n:=(w.on.length:Int)+1) (by omega)]
 refine aS (aY hb (by (try dsimp only);omega) (by omega) fun v' v0' v1' _=>?_)
 have v2':=v1' (by omega)
 refine aS (IQ (Vc (n:=v') (by omega)) ?_)
 have hn:=LT (n:=v') (by omega)
 have z1:(s++({data:= #[32]}:ByteArray)).size=s.size+1:=by rw [ByteArray.size_append];rfl
 have z2:((s++({data:= #[32]}:ByteArray))++bH (Gw v')).size≤30:=by rw [ByteArray.size_append,z1,iC];omega
 refine bS (IH (by rw [z1,iC];omega)) ?_
 refine bP (Q:=fun r=>r.1.size≤60∧(0≤r.2∧r.2≤p+4)) ?_ fun r hr=>?_
 ·refine ew (fun _=>?_) (fun _=>aJ ⟨by (try dsimp only);omega,by (try dsimp only);omega⟩)
  generalize (s++({data:= #[32]}:ByteArray))++bH (Gw v')=t at z2
  refine bS (IH (show t.size+1≤1000 by omega)) ?_
  refine aS (aY hb (by (try dsimp only);omega) (by omega) fun u u0 u1 _=>?_)
  have u2:=u1 (by omega)
  have hu:=LT (n:=u) (by omega)
  have z3:(t++({data:= #[32]}:ByteArray)).size=t.size+1:=by rw [ByteArray.size_append];rfl
  refine aS (IQ (Vc (n:=u) (by omega)) ?_)
  refine bS (IH (by rw [z3,iC];omega)) (aJ ⟨?_,by (try dsimp only);omega⟩)
  show ((t++({data:= #[32]}:ByteArray))++bH (Gw u)).size≤60
  rw [ByteArray.size_append,z3,iC];omega
 ·obtain ⟨r1,r2⟩:=hr
  refine aS (aY hb (by (try dsimp only);omega) (by omega) fun u u0 u1 _=>?_)
  refine ew (fun _=>?_) (fun _=>ew (fun _=>?_) (fun _=>aJ ⟨r1,by (try dsimp only);omega⟩))
  ·refine aS (aY hb (by (try dsimp only);omega) (by omega) fun q q0 q1 _=>?_)
   have q2:=q1 (by omega)
   exact bS (decide_eq_true (by (try dsimp only);simp only [List.length_cons,List.length_nil];omega)) (aJ ⟨Nat.le_trans (GZ _ 20 rfl _) (by decide),by (try dsimp only);omega⟩)
  ·refine aS (aY hb (by (try dsimp only);omega) (by omega) fun q q0 q1 _=>?_)
   have q2:=q1 (by omega)
   exact bS (decide_eq_true (by (try dsimp only);simp only [List.length_cons,List.length_nil];omega)) (aJ ⟨Nat.le_trans (GZ _ 20 rfl _) (by decide),by (try dsimp only);omega⟩)
theorem Rx {x0:List Int} (h1: ∀z∈x0,LB z) {n p q:Int} (hn:0≤n∧n≤9) (hp:0≤p∧p≤500) {w:Wd} (hw:Sz 40 w):
 Ys (bG x0 (w.b,w.ls,w.pts,w.on,w.earth,w.pm,w.br,q) ao ([],n,p)) fun r=>(r.1.length≤9∧ ∀s∈r.1,s.size≤60)∧(0≤r.2∧r.2≤p+60):=by
 refine um (bG x0 (w.b,w.ls,w.pts,w.on,w.earth,w.pm,w.br,q)) (fun s=>s.2.1.toNat) (fun s=>(0≤s.2.1∧s.2.1≤9)∧(s.1.length+s.2.1≤9∧ ∀t∈s.1,t.size≤60)∧(0≤s.2.2∧s.2.2+6*s.2.1≤p+60)) (fun fuel s hs ih=>?_) ao _ ⟨hn,⟨by simp;omega,by simp⟩,by (try dsimp only);omega⟩ (by (try dsimp only);rw [nK];omega)
 obtain ⟨l,k,r⟩:=s
 dsimp only at hs ih ⊢
 obtain ⟨g1,⟨g2,g4⟩,g3⟩:=hs
 rw [oM,ep]
 dsimp only
 refine ew (fun hc=>?_) (fun hc=>?_)
 ·have hc:=tO hc
  refine bP (KK (w:=w) (tn h1) (by omega) hw) fun d hd=>?_
  refine bS (by simp [bp];omega) ?_
  rw [wM (n:=k-1) (by omega)]
  refine ih _ ⟨by (try dsimp only);omega,⟨by simp;omega,fun t ht=>?_⟩,by (try dsimp only);omega⟩ (by (try dsimp only);omega)
  rcases List.mem_append.1 ht with ht |ht
  ·exact g4 t ht
  ·rw [List.mem_singleton.1 ht];exact hd.1
 ·exact aJ ⟨⟨by (try dsimp only);omega,g4⟩,by (try dsimp only);omega⟩
theorem QE {x0:List Int} (h1: ∀z∈x0,LB z): ∃(w:Wd) (l:List ByteArray),cu x0=some (w.b,w.ls,w.pts,w.on,w.earth,w.pm,w.br,l)∧Sz 40 w∧l.length≤41∧ ∀s∈l,s.size≤60:=by
 have:Ys (cu x0) fun r=>Sz 40 ⟨r.1,r.2.1,r.2.2.1,r.2.2.2.1,r.2.2.2.2.1,r.2.2.2.2.2.1,r.2.2.2.2.2.2.1⟩∧r.2.2.2.2.2.2.2.length≤41∧ ∀s∈r.2.2.2.2.2.2.2,s.size≤60:=by
  unfold cu
  refine bP (Ja (tn h1) (by omega)) fun r hr=>?_
  refine aS (aY (tn h1) (by omega) (by omega) fun v v0 v1 _=>?_)
  have v2:=v1 (by omega)
  refine bP (Rx (w:=⟨r.1,r.2.1,r.2.2.1,r.2.2.2.1,r.2.2.2.2.1,r.2.2.2.2.2.1,r.2.2.2.2.2.2.1⟩) (q:=r.2.2.2.2.2.2.2) h1 (by (try dsimp only);omega) (by (try dsimp only);omega) hr.1) fun s hs=>?_
  refine aS (Nd (tn h1) (by omega) (by omega) fun o=>?_)
  refine bP (Q:=fun q=>q.length≤41∧ ∀s∈q,s.size≤60) ?_ fun q hq=>aJ ⟨hr.1,hq⟩
  refine ew (fun _=>bS rfl (aJ ⟨by simp,fun s hs=>?_⟩)) (fun _=>aJ ⟨by have:=hs.1.1;omega,hs.1.2⟩)
  rw [(List.mem_replicate.1 hs).2];decide
 obtain ⟨r,e,h,hl⟩:=this
 exact ⟨_,r.2.2.2.2.2.2.2,e,h,hl⟩
theorem uF (x0:List Int) (h0:x0.length≤maxLen) (h1: ∀z∈x0,LB z):gz x0=some true:=by
 unfold gz
 rcases Bool.eq_false_or_eq_true (am 1048576 (x0.length:Int)) with h |h<;>rw [h]
 ·rfl
 obtain ⟨w,l,e,hz,hl,hsz⟩:=QE h1
 have hs:=hz.sm
 rw [e]
 simp only [cond_false,Option.bind_some,Xe w hs]
 by_cases hv:wv w=true∧l.length<40
 ·have hc:bb 40 (l.length:Int)=false:=decide_eq_false (by omega)
  have ok:=dc.1 hv.1
  have i1:=Rg hs (l++ [({data:= #[104,101,97,108]}:ByteArray)]) (fun s hm=>by
   rcases List.mem_append.1 hm with hm |hm
   ·exact Nat.le_trans (hsz s hm) (by decide)
   ·rw [List.mem_singleton.1 hm];decide)
  have oky:=zo l ok
  have ly:=sM l w
  have p1:CF w (l++ [({data:= #[104,101,97,108]}:ByteArray)])=(Sh (ci w l).1,(ci w l).2++ [bH Pv]):=by
   unfold CF
   rw [if_pos ⟨hv.1,by simp;omega⟩,vq]
   have ht:tl ({data:= #[104,101,97,108]}:ByteArray)=ui:=rfl
   have hcut:fq 32 ui=[ui]:=rfl
   rw [ht]
   unfold pH
   rw [if_pos (dc.2 oky),hcut]
   rfl
  obtain ⟨q1,q2⟩:=Qf oky
  rw [p1,q1] at i1
  generalize (ci w l).1=y at*
  generalize (ci w l).2=an at*
  have hsr:Sm (fA y):=sA q2
  have hcalm:=QY hsr
  rw [dc.2 q2,JH] at hcalm
  have hb:=q2.bus.lp
  have hl1:1≤(fA y).ls.length:=by have:=q2.work.l0;have:=q2.len;simp only [Wd.wk] at*;omega
  have hbest:dJ (fA y).b (fA y).ls (fA y).on (fA y).pts []=some (Me (gf (fA y).ls (fA y).on (fA y).pts)):=by
   rw [←hb]
   exact PH ⟨by rw [hb];exact q2.bus.net,q2.len⟩ (by rw [hb];exact q2.bus) hl1
  have hserv:=PP q2
  have a1:bp ([]:List ByteArray).length l.length=true:=decide_eq_true (by simp;omega)
  have a3:bp l.length 1=true:=decide_eq_true (by omega)
  have a2: ∀x:ByteArray,bp ([]++l).length ([x]:List ByteArray).length=true:=fun x=>decide_eq_true (by simp;omega)
  have hg:(an++ [bH Pv]).getD ((l.length:Int).toNat) ByteArray.empty=bH Pv:=by
   rw [Int.toNat_natCast,←ly];simp
  have hix:aI (l.length:Int) (an++ [bH Pv]).length=true:=decide_eq_true (by simp;omega)
  have hw:ak ((l.length:Int)+1)=(l.length:Int)+1:=wM (by omega)
  have hn:(((an++ [bH Pv]).length:Int) !=(l.length:Int)+1)=false:=by
   rw [bne_eq_false_iff_eq];simp;omega
  have e1:({data:= #[111,107]}:ByteArray).toList=Pv:=vf Pv
  rw [hv.1,hc]
  simp only [Bool.not_true,Bool.or_self,cond_false,a1,a2,aa,List.nil_append,i1,Option.bind_some]
  dsimp only [Xt]
  rw [hw,hn,hix,hg,hbest,hcalm]
  have hbr:(fA y).br=[]:=rfl
  simp only [Bool.not_false,Bool.not_true,Bool.or_true,Bool.true_or,aa,pb,e1,beq_self_eq_true,Bool.or_self,cond_false,Option.bind_some,hserv]
  cases hbst:gf (fA y).ls (fA y).on (fA y).pts with
  |none=>simp [Me,gb,hbr,a3]
  |some x=>
   have hx:x=(fA y).on:=by
    have h4:gf y.ls ((gf y.ls y.on y.pts).getD y.on) y.pts=some x:=hbst
    show x=(gf y.ls y.on y.pts).getD y.on
    cases hq:gf y.ls y.on y.pts with
    |none=>rw [hq] at h4;simp only [Option.getD_none] at h4;rw [hq] at h4;cases h4
    |some z=>rw [hq] at h4;simp only [Option.getD_some] at h4 ⊢;rw [wI hq] at h4;injection h4 with h4;exact h4.symm
   subst hx
   simp [Me,gb,hbr,hserv,a3]
 ·have hc:(!wv w ||bb 40 (l.length:Int))=true:=by
   cases hw:wv w
   ·rfl
   ·rw [Bool.not_true,Bool.false_or]
    exact decide_eq_true (by have: ¬l.length<40:=fun k=>hv ⟨hw,k⟩
                             omega)
  rw [hc]
  simp [Kl]
end Go.Proofs.YtjdlgannencchaaGreatDoor
namespace Go.Proofs.YtjdlgannencchaaGreatDoor
open Go.ChangeShapes Go.WideShapes Go.ChangeAt Go.RowKit Go.Deep
set_option linter.unusedVariables false
set_option linter.unusedSimpArgs false
set_option maxRecDepth 100000
section
variable {H:Type} {enc:TypeId×Value→H} {w:World} {base:Nat} {spare:Nat→Bool} {held:Bool}
theorem XW {fuel:Nat} {cs:List Value} {x:DataW H×List MemPlace} (h:DataW.trod enc Tryz.prog w base spare held fuel 5 cs=some x):
 ∃(y0:Int),cs=[.int .u8 y0]∧LB y0:=by
 obtain ⟨n,rfl,_,hw⟩:=DataW.trod_int Tryz.underlying5 h
 exact ⟨n,rfl,JY hw⟩
theorem Xk {fuel:Nat} {cs:List Value} {x:DataW H×List MemPlace} (h:DataW.trod enc Tryz.prog w base spare held fuel 22 cs=some x):
 ∃(A0:Option Addr) (y0:List Int) (k0:Nat),cs=[.slice A0 y0.length k0]∧Rc w 1 A0 y0.length k0 (y0.flatMap eU)∧y0.length≤maxLen∧(∀z∈y0,LB z):=by
 obtain ⟨A,l,cap,e1,e2,e3,e4⟩:=Jx (fun b: {y:Int // LB y}=>eU b.1) (size:=1) (fun b=>QH b.1) (by decide) Tryz.underlying22 (by kernel_rfl) (fun fuel cs x hx=>by
  obtain ⟨z0,rfl,g0⟩:=XW hx
  exact ⟨⟨z0,g0⟩,rfl⟩) h
 refine ⟨A,l.map (·.1),cap,by simpa using e1,⟨by simpa [List.flatMap_map] using e2,by simpa using e3⟩,by simpa using Nat.le_trans e3 e4,fun z hz=>?_⟩
 obtain ⟨q,_,rfl⟩:=List.mem_map.1 hz
 exact q.2
theorem Xa {r:Reach} {b0:Nat} {v:Value} {d:DataW H} {p:List MemPlace} (hval:Value.okWide Tryz.prog w r b0 22 v) (h:DataW.Trod enc Tryz.prog w base spare held 22 v d p):
 ∃(A0:Option Addr) (y0:List Int) (k0:Nat),v= .slice A0 y0.length k0∧Rc w 1 A0 y0.length k0 (y0.flatMap eU)∧y0.length≤maxLen∧(∀z∈y0,LB z):=by
 obtain ⟨A',n',k',rfl⟩:=okWide_slice Tryz.underlying22 hval
 obtain ⟨fuel,hf⟩:=h
 obtain ⟨A0,y0,k0,e,w0,w1,w2⟩:=Xk hf
 simp [Value.cells] at e
 exact ⟨A0,y0,k0,by simp [e],w0,w1,w2⟩
end
end Go.Proofs.YtjdlgannencchaaGreatDoor
namespace Go.Proofs.YtjdlgannencchaaGreatDoor
open Go.ChangeShapes Go.WideShapes Go.ChangeAt Go.RowKit
set_option linter.unusedVariables false
theorem own:ownKnob Tryz.prog.godebug=none:=by kernel_rfl
theorem Ot:laidOutB Tryz.prog=true:=by kernel_rfl
section
variable {H:Type} {enc:TypeId×Value→H} {P:Program}
theorem sB (hl:laidOutB P=true) {W W':World} (hb:Below W.heap.size W W'): ∀ {ts:List TypeId} {vs:List Value} {ds:List (DataW H)} {ps:List MemPlace},
 (ts.all fun t=>P.readableRec t&&decide (t<P.types.size))=true→DataW.TrodAll enc P W 0 (fun _=>true) true ts vs ds ps→(∀x∈ps,x.block<W.heap.size)→
 DataW.TrodAll enc P W' 0 (fun b=>decide (b<W.heap.size)) true ts vs ds ps
 | [],[],[],_,_,h,_=>h
 |t::ts,v::vs,d::ds,ps,ht,h,hlt=>by
  obtain ⟨p,q,h1,h2,rfl⟩:=h
  simp only [List.all_cons,Bool.and_eq_true,decide_eq_true_eq] at ht
  exact ⟨p,q,Below.trod hl ht.1.1 ht.1.2 h1 hb (fun x hx=>hlt x (by simp [hx])),sB hl hb (by simpa using ht.2) h2 (fun x hx=>hlt x (by simp [hx])),rfl⟩
theorem LK {f:Func} {s:ChangeSpec} {W W':World} {args:Array Value} {ds gs:List (DataW H)} {before:List MemPlace} {tb:TypeId} (hl:laidOutB P=true)
 (hW:DataW.Whole enc P f.params.toList s.vars false W args.toList ds gs before)
 (hts:(f.params.toList.all fun t=>P.readableRec t&&decide (t<P.types.size))=true) (hvs:s.vars=[]) (hrt:f.resultTypes= #[tb]) (hub:P.underlying tb=some .bool)
 (hfn:s.fn H (ds++ [])= {results:=[.lit (.bool true)],args:=ds}) (hb:Below W.heap.size W W'):
 s.post enc P f false true false false W args (.bool true) W':=by
 have hW':=hW
 obtain ⟨p,q,hA,hV,rfl,hfz,hnd⟩:=hW
 rw [hvs] at hV
 obtain ⟨rfl,rfl⟩:=trodVars_none hV
 refine ⟨ds,[],p++ [],[],p,[],hW',?_,?_,?_,hb.frame _,fun h=>by cases h⟩
 ·rw [hfn,hrt]
  exact trodAll_cons_mk (shut_bool hub _) trodAll_mk0
 ·rw [hfn]
  exact sB hl hb hts hA (fun x hx=>hW'.lt x (by simp [hx]))
 ·rw [hfn,hvs]
  rfl
end
theorem vS {H:Type} {enc:TypeId×Value→H} {a:Assume} {C:Checked} {os:Os} {f:FuncId} {fn:Func} {s:ChangeSpec} {conds:List PathCond} {apart fresh handsOn again:Bool} {X:World→Array Value→Prop}
 (hX: ∀(w w':World) (args:Array Value),w.heap=w'.heap→X w args→X w' args)
 (ho:ownKnob C.prog.godebug=none) (started:os.Started) (noInit:C.prog.inits.idxOf? f=none) (hfn:C.prog.funcs[f]?=some fn)
 (witness: ∃(w:World) (tape:Tape) (i:Input),w.os=os∧(w.forCall tape i).Shaped C.prog∧i.vars=[]∧Input.okWide C.prog (w.forCall tape i) .any w.heap.size f i∧
  ((s.pre enc C.prog fn conds apart (w.forCall tape i).memory i.args∧X (w.forCall tape i).memory i.args)∧sizedMet enc C.prog fn (OpenSpec.ofChange s) apart (w.forCall tape i).memory i.args)∧a.holds C.prog (lone (Frame.enter C.prog f i.args .normal) [] (w.forCall tape i)))
 (contract: ∀(W:World) (base:Nat) (args:Array Value) (ds gs:List (DataW H)) (before:List MemPlace),
  (∀(j:Nat) t v,fn.params[j]?=some t→args[j]?=some v→Value.okWide C.prog W .any base t v)→
  DataW.Whole enc C.prog fn.params.toList s.vars apart W args.toList ds gs before→X W args→W.ShapedOpen C.prog→
  Calls C.prog f args W fun e W'=> ∃v,e= .returned v∧s.post enc C.prog fn apart fresh handsOn again W args v W'):
 ReturnsInHanded a C os f .any (fun w args=>(s.pre enc C.prog fn conds apart w args∧X w args)∧sizedMet enc C.prog fn (OpenSpec.ofChange s) apart w args) (s.post enc C.prog fn apart fresh handsOn again):=by
 refine returnsInHanded_of_calls ho started noInit witness ?_
 intro w tape i _ hsh _ hok hpre _
 obtain ⟨_,_,_,fn',hfn',_,_,_,_,hval⟩:=hok
 obtain rfl:fn'=fn:=Option.some.inj (hfn'.symm.trans hfn)
 obtain ⟨⟨⟨ds,gs,before,hw,hc⟩,hx⟩,hz⟩:=hpre
 have hw':=DataW.Whole.of_heap (w':=w.forCall tape i) (by rfl) hw
 refine (contract (w.forCall tape i) w.heap.size i.args ds gs before hval hw' (hX _ _ _ (by rfl) hx) hsh).mono fun e W' ⟨v,he,hp⟩=>?_
 subst he
 exact ChangeSpec.post_blind hp
theorem JW {P:Program} {w w':World} {name:String} {k:IntKind} {zs:List Int} (h:Lib.TabIs P w name k zs) (hb:Below w.heap.size w w'):Lib.TabIs P w' name k zs:=by
 unfold Lib.TabIs World.var? at*
 cases hg:P.globalNamed name with
 |none=>simp [hg] at h
 |some g=>
  simp only [hg,Option.bind_some] at h ⊢
  have hlt:g<w.heap.size:=by
   rcases Nat.lt_or_ge g w.heap.size with h' |h'
   ·exact h'
   ·rw [Array.getElem?_eq_none h'] at h;simp at h
  rw [hb.block g hlt]
  exact h
theorem SM {W:World} (hL:laidMetH Tryz.prog Rows.fnWorldLineRow.laid W) (hsh:W.ShapedOpen Tryz.prog):Bs W:=by
 have h1:=hL.filter (fun x=>x.1==RO)
 have e:(Rows.fnWorldLineRow.laid.filter fun x=>x.1==RO)=[(RO,Lib.tabData .u64 Lib.pow10Tab)]:=by kernel_rfl
 rw [e] at h1
 have h2:=(laidMetH_iff.1 h1).1
 have e2:([(RO,(Lib.tabData .u64 Lib.pow10Tab:DataW Unit))].filter fun x=>x.2.handleName?.isNone)=[(RO,Lib.tabData .u64 Lib.pow10Tab)]:=by kernel_rfl
 rw [e2] at h2
 have h3:Lib.TabIs Tryz.prog W RO .u64 Lib.pow10Tab:=Lib.tabIs_of_head (g:=1) (t:=240) (e:=231) (n:=20) (by kernel_rfl) (by kernel_rfl) Tryz.underlying240 Tryz.underlying231 (by kernel_rfl) (by kernel_rfl) h2
 obtain ⟨m,hm⟩:=cell_of_shapedOpen_int (g:=0) (t:=3) (zero:= #[.int .i64 0]) (k:=.i64) hsh (of_decide_eq_true (by kernel_rfl)) (by kernel_rfl) rfl (by kernel_rfl) (by kernel_rfl) Tryz.underlying3
 have hlt:0<W.heap.size:=World.block_lt_of_cell? _ _ hm
 exact ⟨fun w' hb=>JW h3 hb,m,fun w' hb=>(hb.cell (p:=⟨0,0,none⟩) hlt).trans hm⟩
end Go.Proofs.YtjdlgannencchaaGreatDoor
