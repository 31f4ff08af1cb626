/- Texts of the claim, one behind the other: LnW, LnX, LnE, DaO, Law, LnL. -/
import Derived.ChangeSame
import Derived.ChangeMaps5
import Derived.Carry
import Derived.Lib.SmallJoins
import Derived.JoinedOf
import Derived.HandedShaped
import Derived.LaidMore
import Derived.LaidSub
import Derived.Lib.LaidTab
import Derived.Lib.ItoaMem
import Derived.Shelf.Vars
import Derived.Test.YtjdlgannencchaaGreatDoorRExactWorldLines5
namespace Go.Proofs.YtjdlgannencchaaGreatDoor
open Go.Lib
set_option linter.unusedVariables false
set_option linter.unusedSimpArgs false
def xP:List (List UInt8)→Option (Int×Int×Int)
 | [a,n]=>if (pO Ih (aW a)).2=true∧0≤bh n then some ((pO Ih (aW a)).1,bh n,0) else none
 | [a,n,m]=>if (pO Ii (aW a)).2=true∧0≤bh n∧0≤bh m then some ((pO Ii (aW a)).1,bh n,bh m) else none
 |_=>none
theorem Ly (a n:List UInt8):xP [a,n]=if (pO Ih (aW a)).2=true∧0≤bh n then some ((pO Ih (aW a)).1,bh n,0) else none:=rfl
theorem Oh (a n m:List UInt8):xP [a,n,m]=if (pO Ii (aW a)).2=true∧0≤bh n∧0≤bh m then some ((pO Ii (aW a)).1,bh n,bh m) else none:=rfl
theorem adW (ws:List (List UInt8)): ∃r,dG (ws.map aW)=some r∧(match xP ws with |some d=>r=(d.1,d.2.1,d.2.2,true) |none=>r.2.2.2=false):=by
 unfold dG
 match ws with
 | []=>exact ⟨_,rfl,rfl⟩
 | [a]=>exact ⟨_,rfl,rfl⟩
 |a::b::c::d::r=>
  have h2:decide (((a::b::c::d::r).map aW).length=2)=false:=decide_eq_false (by simp)
  have h3:decide (((a::b::c::d::r).map aW).length=3)=false:=decide_eq_false (by simp)
  rw [h2,h3]
  exact ⟨_,rfl,rfl⟩
 | [a,n]=>
  have h2:decide (([a,n].map aW).length=2)=true:=rfl
  have g0:([a,n].map aW).getD 0 ByteArray.empty=aW a:=rfl
  have g1:([a,n].map aW).getD 1 ByteArray.empty=aW n:=rfl
  rw [h2,g0,g1,Fw,Hq]
  refine ⟨_,rfl,?_⟩
  rw [Ly]
  by_cases h:(pO Ih (aW a)).2=true∧0≤bh n
  ·rw [if_pos h,h.1,decide_eq_true h.2,yR h.2];rfl
  ·rw [if_neg h]
   show ((pO Ih (aW a)).2&&decide (0≤bh n))=false
   rw [Bool.eq_false_iff];intro k;rw [Bool.and_eq_true,decide_eq_true_eq] at k;exact h k
 | [a,n,m]=>
  have h2:decide (([a,n,m].map aW).length=2)=false:=rfl
  have h3:decide (([a,n,m].map aW).length=3)=true:=rfl
  have g0:([a,n,m].map aW).getD 0 ByteArray.empty=aW a:=rfl
  have g1:([a,n,m].map aW).getD 1 ByteArray.empty=aW n:=rfl
  have g2:([a,n,m].map aW).getD 2 ByteArray.empty=aW m:=rfl
  rw [h2,h3,g0,g1,g2,Fw,Fw,Hq,Hq]
  refine ⟨_,rfl,?_⟩
  rw [Oh]
  by_cases h:(pO Ii (aW a)).2=true∧0≤bh n∧0≤bh m
  ·rw [if_pos h,h.1,decide_eq_true h.2.1,decide_eq_true h.2.2,yR h.2.1,yR h.2.2];rfl
  ·rw [if_neg h]
   show ((pO Ii (aW a)).2&&decide (0≤bh n)&&decide (0≤bh m))=false
   rw [Bool.eq_false_iff];intro k;rw [Bool.and_eq_true,Bool.and_eq_true,decide_eq_true_eq,decide_eq_true_eq] at k;exact h ⟨k.1.1,k.1.2,k.2⟩
theorem Ky (a:List UInt8) (l:List UInt8):(aW a==({data:=l.toArray}:ByteArray))=(a==l):=by
 have h: ∀x y:ByteArray,(x==y)=decide (x=y):=fun x y=>by
  cases x with
  |mk a=>
  cases y with
  |mk c=>
  show (a==c)=_
  rw [Bool.eq_iff_iff,decide_eq_true_eq,beq_iff_eq,ByteArray.mk.injEq]
 rw [h,Bool.eq_iff_iff,decide_eq_true_eq,beq_iff_eq]
 constructor
 ·intro e;have:=congrArg (fun s:ByteArray=>s.data.toList) e;simpa [aW] using this
 ·rintro rfl;rfl
theorem aeE (a:List UInt8):py (aW a)=some (if (pO Ih (aW a)).2=true then ((pO Ih (aW a)).1,1) else if (pO Ii (aW a)).2=true then ((pO Ii (aW a)).1,2) else (-1,0)):=by
 have q: ∀l:List UInt8,((aW a).toList==({data:=l.toArray}:ByteArray).toList)=(a==l):=fun l=>by rw [mZ,sL]
 have k: ∀l:List UInt8,(aW a==({data:=l.toArray}:ByteArray))=(a==l):=Ky a
 unfold py
 have q1:=q [111,110];have q2:=q [111,102,102];have q3:=q [101,97,114,116,104];have q4:=q [99,108,101,97,114];have q5:=q [105,115,115,117,101];have q6:=q [114,101,116,117,114,110];have q7:=q [98,114,101,97,107];have q8:=q [109,101,110,100]
 have k1:=k [111,110];have k2:=k [111,102,102];have k3:=k [101,97,114,116,104];have k4:=k [99,108,101,97,114];have k5:=k [105,115,115,117,101];have k6:=k [114,101,116,117,114,110];have k7:=k [98,114,101,97,107];have k8:=k [109,101,110,100]
 simp only [Ih,Ii,pO]
 erw [q1,q2,q3,q4,q5,q6,q7,q8,k1,k2,k3,k4,k5,k6,k7,k8]
 by_cases h1:a=[111,110]
 ·subst h1;rfl
 by_cases h2:a=[111,102,102]
 ·subst h2;rfl
 by_cases h3:a=[101,97,114,116,104]
 ·subst h3;rfl
 by_cases h4:a=[99,108,101,97,114]
 ·subst h4;rfl
 by_cases h5:a=[105,115,115,117,101]
 ·subst h5;rfl
 by_cases h6:a=[114,101,116,117,114,110]
 ·subst h6;rfl
 by_cases h7:a=[98,114,101,97,107]
 ·subst h7;rfl
 by_cases h8:a=[109,101,110,100]
 ·subst h8;rfl
 have n: ∀ {l:List UInt8},a≠l→(a==l)=false:=fun h=>beq_eq_false_iff_ne.2 h
 rw [n h1,n h2,n h3,n h4,n h5,n h6,n h7,n h8];rfl
theorem aaX (a:List UInt8) (h:(pO Ih (aW a)).2=true):0≤(pO Ih (aW a)).1∧(pO Ii (aW a)).2=false∧a≠tR∧a≠xc∧a≠tS∧a≠pE∧a≠zX∧a≠pD∧a≠Kp:=by
 have key: ∀l:List UInt8,(aW a==(aW l:ByteArray))=(a==l):=Ky a
 simp only [Ih,pO] at h
 have k1:=Ky a [111,110];have k2:=Ky a [111,102,102];have k3:=Ky a [101,97,114,116,104];have k4:=Ky a [99,108,101,97,114];have k7:=Ky a [98,114,101,97,107]
 erw [k1,k2,k3,k4,k7] at h
 by_cases h1:a=[111,110]
 ·subst h1;refine ⟨by decide,by decide,by decide,by decide,by decide,by decide,by decide,by decide,by decide⟩
 by_cases h2:a=[111,102,102]
 ·subst h2;refine ⟨by decide,by decide,by decide,by decide,by decide,by decide,by decide,by decide,by decide⟩
 by_cases h3:a=[101,97,114,116,104]
 ·subst h3;refine ⟨by decide,by decide,by decide,by decide,by decide,by decide,by decide,by decide,by decide⟩
 by_cases h4:a=[99,108,101,97,114]
 ·subst h4;refine ⟨by decide,by decide,by decide,by decide,by decide,by decide,by decide,by decide,by decide⟩
 by_cases h7:a=[98,114,101,97,107]
 ·subst h7;refine ⟨by decide,by decide,by decide,by decide,by decide,by decide,by decide,by decide,by decide⟩
 have n: ∀ {l:List UInt8},a≠l→(a==l)=false:=fun h=>beq_eq_false_iff_ne.2 h
 rw [n h1,n h2,n h3,n h4,n h7] at h
 cases h
theorem aaY (a:List UInt8) (h:(pO Ii (aW a)).2=true):0≤(pO Ii (aW a)).1∧(pO Ih (aW a)).2=false∧a≠tR∧a≠xc∧a≠tS∧a≠pE∧a≠zX∧a≠pD∧a≠Kp:=by
 simp only [Ii,pO] at h
 have k1:=Ky a [105,115,115,117,101];have k2:=Ky a [114,101,116,117,114,110];have k3:=Ky a [109,101,110,100]
 erw [k1,k2,k3] at h
 by_cases h1:a=[105,115,115,117,101]
 ·subst h1;refine ⟨by decide,by decide,by decide,by decide,by decide,by decide,by decide,by decide,by decide⟩
 by_cases h2:a=[114,101,116,117,114,110]
 ·subst h2;refine ⟨by decide,by decide,by decide,by decide,by decide,by decide,by decide,by decide,by decide⟩
 by_cases h3:a=[109,101,110,100]
 ·subst h3;refine ⟨by decide,by decide,by decide,by decide,by decide,by decide,by decide,by decide,by decide⟩
 have n: ∀ {l:List UInt8},a≠l→(a==l)=false:=fun h=>beq_eq_false_iff_ne.2 h
 rw [n h1,n h2,n h3] at h
 cases h
theorem WO (a:List UInt8) (r:List (List UInt8)) (hl:r.length≤1048577):lF ((a::r).map aW)=some (r.map bh,r.all fun n=>decide (0≤bh n)):=by
 unfold lF
 have hh:=av (dm ((a::r).map aW)) (fun k=>((r.take k).map bh,(r.take k).all (fun n=>decide (0≤bh n)),((k+1:Nat):Int))) r.length (some (r.map bh,r.all fun n=>decide (0≤bh n))) (by omega) (fun k fuel hk=>by
  have hk2:k+1<((a::r).map aW).length:=by simp;omega
  have hg:((a::r).map aW).getD (k+1) ByteArray.empty=aW r[k]:=by
   rw [ac hk2];simp
  have b1: ∀x:Int,bw ((r.take k).map bh).length ([x]:List Int).length=true:=fun x=>decide_eq_true (by simp;omega)
  rw [qU,fA]
  simp only [au hk2,ae hk2,aa,cond_true,Int.toNat_natCast,hg,aeK,Hq,Option.bind_some,b1,Bool.or_true,ab (by omega:k+1<4611686018427387904)]
  rw [List.take_succ_eq_append_getElem hk,List.map_append,List.all_append]
  cases (r.take k).all fun n=>decide (0≤bh n)
  ·rfl
  ·simp only [cd,Option.bind_some,Bool.true_and,List.all_cons,List.all_nil,Bool.and_true];rfl) (fun fuel=>by
  rw [qU,fA,List.take_length]
  have:af ((r.length+1:Nat):Int) (((a::r).map aW).length:Int)=false:=by
   rw [List.length_map,List.length_cons];exact ak
  simp only [this,cond_false])
 rw [show dm ((a::r).map aW) ah (([]:List Int),true,1)=_ from hh];rfl
def wR (w:Wd) (l:List UInt8):Wd×List UInt8:=
 if wv w=true then
  (match xP (eG 32 l) with
  |some (kd,at_,who)=>((dw w kd at_ who).1,bif (dw w kd at_ who).2 then wOk else wNo)
  |none=>bif l==xc then (rsP w,wOk) else (w,om w l))
 else (.zero,[])
def o8b (r:Wd×List UInt8):Int×List Ln×List (Int×Int)×List Bool×List Bool×Pm×List Int×ByteArray:=(r.1.b,r.1.ls,r.1.pts,r.1.on,r.1.earth,r.1.pm,r.1.br,aW r.2)
theorem ad3 {w:Wd} (sm:Sm w) (l:List UInt8) (hl:l.length≤1048576):jc w.b w.ls w.pts w.on w.earth w.pm w.br (aW l)=some (o8b (wR w l)):=by
 unfold jc wR
 rw [aec w sm,Option.bind_some]
 cases hv:wv w with
 |false=>rfl
 |true=>
  have ok:=kv.1 hv
  have hsp:fH (aW l) ({data:= #[32]}:ByteArray)=some ((eG 32 l).map aW):=by
   unfold fH
   rw [eL,decide_eq_true (by omega),show decide (({data:= #[32]}:ByteArray)=aW [32])=true from decide_eq_true rfl,lN];rfl
  obtain ⟨r,hr,hd⟩:=adW (eG 32 l)
  have e1:({data:= #[104,101,97,108]}:ByteArray).toList=xc:=sL xc
  rw [hsp,e1,mZ]
  simp only [Option.bind_some,cond_true,if_true]
  rw [hr]
  simp only [Option.bind_some]
  cases hdp:xP (eG 32 l) with
  |some d=>
   obtain ⟨kd,a,who⟩:=d
   rw [hdp] at hd
   subst hd
   rw [OF sm kd a who]
   simp only [cond_true,Option.bind_some,o8]
   cases (dw w kd a who).2<;>rfl
  |none=>
   rw [hdp] at hd
   simp only at hd
   rw [hd,ad7 sm,Yi ok l hl]
   have hc:=Iq (w:=w) sm
   simp only [cond_false,Option.bind_some]
   rw [hc]
   cases l==xc<;>rfl
theorem Qc {w:Wd} {l a:List UInt8} {r:List (List UInt8)} (hc:eG 32 l=a::r) (h:r≠ []∨(a≠tS∧a≠pE∧a≠zX∧a≠pD∧a≠Kp)):Mo w l=PP:=by
 have key: ∀x:List UInt8,32∉x→(r≠ []∨a≠x)→(l==x)=false:=by
  intro x hx h
  rw [beq_eq_false_iff_ne]
  rintro rfl
  rw [zZ 32 l hx] at hc
  injection hc with h1 h2
  rcases h with h |h
  ·exact h h2.symm
  ·exact h h1.symm
 unfold Mo
 rw [key tS (by decide) (h.imp id fun k=>k.1),key pE (by decide) (h.imp id fun k=>k.2.1),key zX (by decide) (h.imp id fun k=>k.2.2.1),key pD (by decide) (h.imp id fun k=>k.2.2.2.1),key Kp (by decide) (h.imp id fun k=>k.2.2.2.2)]
 rfl
theorem abM (w:Wd) (n:Int) (ok:WdOk w):af (xx w n) 0= !(decide (0≤n)&&decide (n<(w.ls.length:Int))):=by
 unfold xx
 by_cases h:0≤n∧n<(w.ls.length:Int)
 ·rw [if_pos h,decide_eq_true h.1,decide_eq_true h.2]
  have:=MI ok n.toNat
  exact decide_eq_false (by omega)
 ·rw [if_neg h]
  have:(decide (0≤n)&&decide (n<(w.ls.length:Int)))=false:=by
   rw [Bool.eq_false_iff];simp only [ne_eq,Bool.and_eq_true,decide_eq_true_eq];exact h
  rw [this];rfl
theorem aeF {w:Wd} (sm:Sm w) (l:List UInt8) (hl:l.length≤1048576):jo w.b w.ls w.pts w.on w.earth w.pm w.br (aW l)=some (o8b (wR w l)):=by
 unfold jo wR
 rw [aeP w sm,Option.bind_some]
 cases hv:wv w with
 |false=>rfl
 |true=>
  have ok:=kv.1 hv
  have hcut:=agm (aW l) (by rw [eL];exact hl)
  rw [Hq] at hcut
  have e1:({data:= #[104,101,97,108]}:ByteArray).toList=xc:=sL xc
  have e2:({data:= #[102,108,111,119]}:ByteArray).toList=tR:=sL tR
  have hask:=agl ok l
  have hlen:(eG 32 l).length≤1048577:=by
   rw [yJ];have:=List.count_le_length (a:=(32:UInt8)) (l:=l);omega
  rw [hcut,e1,e2,hask]
  simp only [Option.bind_some,cond_true,if_true,mZ]
  cases hc:eG 32 l with
  |nil=>exact absurd hc (EX 32 l)
  |cons a r=>
  rw [hc] at hlen
  have hrl:r.length≤1048577:=by simp at hlen;omega
  have hnum:=WO a r hrl
  have g0:((a::r).map aW).getD ((0:Int).toNat) ByteArray.empty=aW a:=rfl
  have hi0:aq 0 ((a::r).map aW).length=true:=decide_eq_true (by simp)
  have hres:=aeL sm
  have hcp:=zR (w:=w) sm
  rw [hnum,hi0,g0,aeE,hres,hcp]
  simp only [Option.bind_some,aa,mZ]
  cases hh:l==xc with
  |true=>
   obtain rfl:l=xc:=by simpa using hh
   have:eG 32 xc=[xc]:=rfl
   rw [this] at hc
   injection hc with h1 h2
   subst h1;subst h2
   rfl
  |false=>
  simp only [cond_false]
  cases hf:((a==tR)&&((((r.map bh).length:Nat):Int)==1))&&r.all (fun n=>decide (0≤bh n)) with
  |true=>
   rw [Bool.and_eq_true,Bool.and_eq_true] at hf
   obtain ⟨⟨f1,f2⟩,f3⟩:=hf
   obtain rfl:a=tR:=by simpa using f1
   obtain ⟨n,rfl⟩: ∃n,r=[n]:=by
    match r,f2 with
    | [n],_=>exact ⟨n,rfl⟩
    | [],h=>simp at h
    |_::_::_,h=>rw [beq_iff_eq] at h;simp at h<;>omega
   have f3:0≤bh n:=by simpa using f3
   have hb:=SC n
   have hd:xP [tR,n]=none:=by
    rw [Ly,if_neg];intro k;exact absurd k.1 (by decide)
   have ha:om w l=Oy w (bh n):=by unfold om;rw [hc];rfl
   have hg:([n].map bh).getD ((0:Int).toNat) 0=bh n:=rfl
   have hi:aq 0 ([n].map bh).length=true:=rfl
   rw [hd,hi,hg,aeB ok,ha]
   simp only [aa,Option.bind_some,cond_true]
   rw [abM w _ ok,decide_eq_true f3]
   unfold Oy
   rw [if_pos f3]
   by_cases hk:bh n<(w.ls.length:Int)
   ·have hfl:=MI ok (bh n).toNat
    have hlf:xx w (bh n)=fI w.ls w.on w.pts (bh n).toNat:=by unfold xx;rw [if_pos ⟨f3,hk⟩]
    rw [decide_eq_true hk,if_pos hk,hlf,QL (by omega)];rfl
   ·rw [decide_eq_false hk,if_neg hk];rfl
  |false=>
  simp only [cond_false]
  by_cases k1:(pO Ih (aW a)).2=true
  ·obtain ⟨p0,p2,p3,p4,p5,p6,p7,p8,p9⟩:=aaX a k1
   rw [if_pos k1,show af (pO Ih (aW a)).1 0=false from decide_eq_false (by omega)]
   simp only [cond_false]
   cases hn:(((r.map bh).length:Int) !=1) || !(r.all fun n=>decide (0≤bh n)) with
   |true=>
    have hd:xP (a::r)=none:=by
     match r with
     | []=>rfl
     | [n]=>
      rw [Ly,if_neg]
      intro k
      have:(([n].map bh).length:Int) !=1:=by
       rw [Bool.or_eq_true] at hn
       rcases hn with h |h
       ·exact h
       ·simp at h;omega
      simp at this
     | [n,m]=>
      rw [Oh,if_neg];intro k;rw [p2] at k;exact absurd k.1 (by simp)
     |_::_::_::_=>rfl
    have ha:om w l=PP:=by
     have hq:=Qc (w:=w) hc (.inr ⟨p5,p6,p7,p8,p9⟩)
     unfold om
     rw [hc]
     match r with
     | []=>exact hq
     | [n]=>show (bif a==tR then _ else _)=_;rw [beq_eq_false_iff_ne.2 p3];exact hq
     |_::_::_=>exact hq
    rw [hd,ha];rfl
   |false=>
    rw [Bool.or_eq_false_iff] at hn
    obtain ⟨n1,n2⟩:=hn
    obtain ⟨n,rfl⟩: ∃n,r=[n]:=by
     match r,n1 with
     | [n],_=>exact ⟨n,rfl⟩
     | [],h=>simp at h
     |_::_::_,h=>rw [bne_eq_false_iff_eq] at h;simp at h;omega
    have n2:0≤bh n:=by simpa using n2
    have hd:xP [a,n]=some ((pO Ih (aW a)).1,bh n,0):=by rw [Ly,if_pos ⟨k1,n2⟩]
    have hg:([n].map bh).getD ((0:Int).toNat) 0=bh n:=rfl
    have hi:aq 0 ([n].map bh).length=true:=rfl
    rw [hd,hi,hg,show ((1:Int)==2)=false from rfl]
    simp only [cond_false,aa,Option.bind_some]
    rw [Kh sm]
    simp only [Option.bind_some,o8]
    cases (dw w (pO Ih (aW a)).1 (bh n) 0).2<;>rfl
  ·rw [if_neg k1]
   by_cases k2:(pO Ii (aW a)).2=true
   ·obtain ⟨p0,p2,p3,p4,p5,p6,p7,p8,p9⟩:=aaY a k2
    rw [if_pos k2,show af (pO Ii (aW a)).1 0=false from decide_eq_false (by omega)]
    simp only [cond_false]
    cases hn:(((r.map bh).length:Int) !=2) || !(r.all fun n=>decide (0≤bh n)) with
    |true=>
     have hd:xP (a::r)=none:=by
      match r with
      | []=>rfl
      | [n]=>
       rw [Ly,if_neg];intro k;rw [p2] at k;exact absurd k.1 (by simp)
      | [n,m]=>
       rw [Oh,if_neg]
       intro k
       rw [Bool.or_eq_true] at hn
       rcases hn with h |h
       ·simp at h
       ·simp at h;omega
      |_::_::_::_=>rfl
     have ha:om w l=PP:=by
      have hq:=Qc (w:=w) hc (.inr ⟨p5,p6,p7,p8,p9⟩)
      unfold om
      rw [hc]
      match r with
      | []=>exact hq
      | [n]=>show (bif a==tR then _ else _)=_;rw [beq_eq_false_iff_ne.2 p3];exact hq
      |_::_::_=>exact hq
     rw [hd,ha];rfl
    |false=>
     rw [Bool.or_eq_false_iff] at hn
     obtain ⟨n1,n2⟩:=hn
     obtain ⟨n,m,rfl⟩: ∃n m,r=[n,m]:=by
      match r,n1 with
      | [n,m],_=>exact ⟨n,m,rfl⟩
      | [],h=>simp at h
      | [_],h=>simp at h
      |_::_::_::_,h=>rw [bne_eq_false_iff_eq] at h;simp at h;omega
     have n2:0≤bh n∧0≤bh m:=by simpa using n2
     have hd:xP [a,n,m]=some ((pO Ii (aW a)).1,bh n,bh m):=by rw [Oh,if_pos ⟨k2,n2.1,n2.2⟩]
     have hg:([n,m].map bh).getD ((0:Int).toNat) 0=bh n:=rfl
     have hg1:([n,m].map bh).getD ((1:Int).toNat) 0=bh m:=rfl
     have hi:aq 0 ([n,m].map bh).length=true:=rfl
     have hi1:aq 1 ([n,m].map bh).length=true:=rfl
     rw [hd,hi,hi1,hg,hg1,show ((2:Int)==2)=true from rfl]
     simp only [cond_true,cond_false,aa,Option.bind_some]
     rw [Kh sm]
     simp only [Option.bind_some,o8]
     cases (dw w (pO Ii (aW a)).1 (bh n) (bh m)).2<;>rfl
   ·rw [if_neg k2,show af (-1) 0=true from rfl]
    have hd:xP (a::r)=none:=by
     match r with
     | []=>rfl
     | [n]=>rw [Ly,if_neg];exact fun k=>k1 k.1
     | [n,m]=>rw [Oh,if_neg];exact fun k=>k2 k.1
     |_::_::_::_=>rfl
    have ha:om w l=Mo w l:=by
     unfold om
     rw [hc]
     match r,hf with
     | [],_=>rfl
     | [n],hf=>
      show (bif a==tR then _ else _)=_
      cases hw:a==tR with
      |false=>rfl
      |true=>
       have hneg: ¬0≤bh n:=by
        intro k
        rw [hw] at hf;simp [k] at hf
       rw [cond_true]
       unfold Oy
       rw [if_neg hneg]
       exact (Qc hc (.inl (by simp))).symm
     |_::_::_,_=>rfl
    rw [hd,ha];rfl
end Go.Proofs.YtjdlgannencchaaGreatDoor
namespace Go.Proofs.YtjdlgannencchaaGreatDoor
open Go.Lib
set_option linter.unusedVariables false
set_option linter.unusedSimpArgs false
theorem Yv {w:Wd} (sm:Sm w) (l:List UInt8):Sm (wR w l).1:=by
 unfold wR
 split
 ·cases xP (eG 32 l) with
  |some d=>obtain ⟨kd,a,who⟩:=d;exact Rx kd a who
  |none=>
   cases l==xc with
   |true=>exact WA w
   |false=>exact sm
 ·exact sm0
theorem aaK {w:Wd} (sm:Sm w) (s:ByteArray) (hs:s.size≤1048576):jc w.b w.ls w.pts w.on w.earth w.pm w.br s=some (o8b (wR w (tl s))):=by
 have:=ad3 sm (tl s) (by rw [Dw];exact hs)
 rwa [show aW (tl s)=s from vI s] at this
theorem abx {w:Wd} (sm:Sm w) (s:ByteArray) (hs:s.size≤1048576):jo w.b w.ls w.pts w.on w.earth w.pm w.br s=some (o8b (wR w (tl s))):=by
 have:=aeF sm (tl s) (by rw [Dw];exact hs)
 rwa [show aW (tl s)=s from vI s] at this
def cA:Wd→List ByteArray→Wd×List ByteArray
 |w,[]=>(w,[])
 |w,s::r=>((cA (wR w (tl s)).1 r).1,aW (wR w (tl s)).2::(cA (wR w (tl s)).1 r).2)
theorem JJ: ∀(a b:List ByteArray) (w:Wd),cA w (a++b)=((cA (cA w a).1 b).1,(cA w a).2++(cA (cA w a).1 b).2)
 | [],b,w=>rfl
 |s::r,b,w=>by rw [List.cons_append,cA,JJ r b];rfl
theorem xv: ∀(a:List ByteArray) (w:Wd),(cA w a).2.length=a.length
 | [],w=>rfl
 |s::r,w=>by rw [cA];simp [xv r]
theorem Ds: ∀(a:List ByteArray) {w:Wd},Sm w→Sm (cA w a).1
 | [],w,h=>h
 |s::r,w,h=>Ds r (Yv h (tl s))
theorem HC (a:List ByteArray) (s:ByteArray) (w:Wd):cA w (a++ [s])=((wR (cA w a).1 (tl s)).1,(cA w a).2++ [aW (wR (cA w a).1 (tl s)).2]):=by
 rw [JJ];rfl
def xw (w:Wd) (ls:List ByteArray):Wd×List ByteArray:=if wv w=true∧ls.length≤40 then cA w ls else (.zero,[])
def o8l (r:Wd×List ByteArray):Int×List Ln×List (Int×Int)×List Bool×List Bool×Pm×List Int×List ByteArray:=(r.1.b,r.1.ls,r.1.pts,r.1.on,r.1.earth,r.1.pm,r.1.br,r.2)
theorem aaL {w:Wd} (sm:Sm w) (ls:List ByteArray) (hs: ∀s∈ls,s.size≤1048576):dC w.b w.ls w.pts w.on w.earth w.pm w.br ls=some (o8l (xw w ls)):=by
 unfold dC xw
 rw [aec w sm,Option.bind_some]
 by_cases hv:wv w=true∧ls.length≤40
 ·rw [if_pos hv,hv.1,show af 40 (ls.length:Int)=false from decide_eq_false (by omega),Iq (w:=w) sm]
  have hmk:sF (ls.length:Int)=true:=decide_eq_true (by omega)
  have hh:=av (cY ls) (fun k=>((cA w (ls.take k)).2++List.replicate (ls.length-k) ByteArray.empty,(k:Int),o7 (cA w (ls.take k)).1)) ls.length (some ((cA w ls).2,o7 (cA w ls).1)) (by omega) (fun k fuel hk=>by
   have hl:=xv (ls.take k) w
   have hlk:(ls.take k).length=k:=by simp;omega
   have hline:=aaK (Ds (ls.take k) sm) ls[k] (hs _ (List.getElem_mem hk))
   have hset: ∀x:ByteArray,((cA w (ls.take k)).2++List.replicate (ls.length-k) ByteArray.empty).set k x=((cA w (ls.take k)).2++ [x])++List.replicate (ls.length-(k+1)) ByteArray.empty:=fun x=>by
    rw [List.set_append_right _ _ (by omega),hl,hlk,Nat.sub_self,show ls.length-k=(ls.length-(k+1))+1 by omega,List.replicate_succ,List.set_cons_zero];simp
   rw [qH,fg]
   simp only [au hk,ae hk,aa,cond_true,Int.toNat_natCast,ab (by omega:k<4611686018427387904),ac hk]
   dsimp only [o7]
   rw [hline]
   simp only [Option.bind_some,aa]
   rw [List.take_succ_eq_append_getElem hk,HC,←hset]
   rfl) (fun fuel=>by
   rw [qH,fg,List.take_length];simp only [ak,cond_false,Nat.sub_self,List.replicate_zero,List.append_nil])
  simp only [Bool.not_true,Bool.false_or,cond_false,Option.bind_some,hmk,aa]
  rw [show cY ls ah (List.replicate ls.length ByteArray.empty,0,(o7 w).1,(o7 w).2.1,(o7 w).2.2.1,(o7 w).2.2.2.1,(o7 w).2.2.2.2.1,(o7 w).2.2.2.2.2.1,(o7 w).2.2.2.2.2.2)=_ from hh]
  rfl
 ·rw [if_neg hv]
  have:(!wv w ||af 40 (ls.length:Int))=true:=by
   cases h:wv w
   ·rfl
   ·rw [Bool.not_true,Bool.false_or];exact decide_eq_true (by have: ¬ls.length≤40:=fun k=>hv ⟨h,k⟩
                                                              omega)
  rw [this];rfl
theorem aby {w:Wd} (sm:Sm w) (ls:List ByteArray) (hs: ∀s∈ls,s.size≤1048576):gR w.b w.ls w.pts w.on w.earth w.pm w.br ls=some (o8l (xw w ls)):=by
 unfold gR xw
 rw [aeP w sm,Option.bind_some]
 by_cases hv:wv w=true∧ls.length≤40
 ·rw [if_pos hv,hv.1,show af 40 (ls.length:Int)=false from decide_eq_false (by omega),zR (w:=w) sm]
  have hh:=av (dk ls) (fun k=>((cA w (ls.take k)).2,(k:Int),o7 (cA w (ls.take k)).1)) ls.length (some ((cA w ls).2,o7 (cA w ls).1)) (by omega) (fun k fuel hk=>by
   have hl:=xv (ls.take k) w
   have hlk:(ls.take k).length=k:=by simp;omega
   have hline:=abx (Ds (ls.take k) sm) ls[k] (hs _ (List.getElem_mem hk))
   have ha: ∀x:ByteArray,bw (cA w (ls.take k)).2.length ([x]:List ByteArray).length=true:=fun x=>decide_eq_true (by simp;omega)
   rw [qS,fy]
   simp only [au hk,ae hk,aa,cond_true,Int.toNat_natCast,ab (by omega:k<4611686018427387904),ac hk]
   dsimp only [o7]
   rw [hline]
   simp only [Option.bind_some,ha,aa]
   rw [List.take_succ_eq_append_getElem hk,HC]
   rfl) (fun fuel=>by
   rw [qS,fy,List.take_length];simp only [ak,cond_false])
  simp only [Bool.not_true,Bool.false_or,cond_false,Option.bind_some]
  rw [show dk ls ah (([]:List ByteArray),0,(o7 w).1,(o7 w).2.1,(o7 w).2.2.1,(o7 w).2.2.2.1,(o7 w).2.2.2.2.1,(o7 w).2.2.2.2.2.1,(o7 w).2.2.2.2.2.2)=_ from hh]
  rfl
 ·rw [if_neg hv]
  have:(!wv w ||af 40 (ls.length:Int))=true:=by
   cases h:wv w
   ·rfl
   ·rw [Bool.not_true,Bool.false_or];exact decide_eq_true (by have: ¬ls.length≤40:=fun k=>hv ⟨h,k⟩
                                                              omega)
  rw [this];rfl
theorem Ty {w:Wd} (sm:Sm w) (ls:List ByteArray):Sm (xw w ls).1:=by
 unfold xw;split
 ·exact Ds ls sm
 ·exact sm0
theorem QF (w:Wd) (ls:List ByteArray):(xw w ls).2.length≤40:=by
 unfold xw;split
 ·rename_i h;rw [xv];exact h.2
 ·simp
theorem yH (b:Int) (ls:List Ln) (pts:List (Int×Int)) (on earth:List Bool) (pm:Pm) (br:List Int) (xs:List ByteArray) (hs: ∀s∈xs,s.size≤1048576) (hl:ls.length≤1048576) (hp:pts.length≤1048576) (ho:on.length≤1048576) (he:earth.length≤1048576) (hm:pm.length≤1048576) (hb:br.length≤1048576):
 ∃r,gR b ls pts on earth pm br xs=some r∧dC b ls pts on earth pm br xs=some r∧r.2.1.length≤1048576∧r.2.2.1.length≤1048576∧r.2.2.2.1.length≤1048576∧r.2.2.2.2.1.length≤1048576∧r.2.2.2.2.2.1.length≤1048576∧r.2.2.2.2.2.2.1.length≤1048576∧r.2.2.2.2.2.2.2.length≤40:=by
 have sm:Sm ⟨b,ls,pts,on,earth,pm,br⟩:=⟨hl,hp,ho,he,hm,hb⟩
 have s2:=Ty sm xs
 have i1:=aaL sm xs hs
 have i2:=aby sm xs hs
 have n:=QF ⟨b,ls,pts,on,earth,pm,br⟩ xs
 generalize xw ⟨b,ls,pts,on,earth,pm,br⟩ xs=x at i1 i2 s2 n
 exact ⟨o8l x,i2,i1,s2.l,s2.p,s2.o,s2.e,s2.m,s2.b,n⟩
end Go.Proofs.YtjdlgannencchaaGreatDoor
namespace Go.Proofs.YtjdlgannencchaaGreatDoor
open Go.ChangeShapes Go.WideShapes Go.ChangeAt Go.RowKit
set_option linter.unusedVariables false
set_option linter.unusedSimpArgs false
set_option maxHeartbeats 4000000
theorem Pb (x:Int):(strOfNums ([x]:List Int)).size=1:=rfl
theorem agA {q:Int} (h0:0≤q) (hk:q<1000000000000):Ys (eZ ah (q,({data:= #[]}:ByteArray))) fun r=>r.size≤12:=by
 refine Te eZ (fun s=>s.1.toNat) (fun s=>0≤s.1∧s.1<1000000000000∧ ∃k:Nat,s.1<(10:Int) ^ k∧s.2.size+k≤12) (fun fuel s hs ih=>?_) ah _ ⟨h0,hk,12,by rw [show (10:Int) ^ 12=1000000000000 by decide];exact hk,show 0+12≤12 from Nat.le_refl _⟩ (by dsimp only;rw [ER];omega)
 ·obtain ⟨q,s⟩:=s
  dsimp only at hs ih ⊢
  obtain ⟨g1,g2,k,g3,g4⟩:=hs
  rw [Ey,mW]
  dsimp only
  refine Ku (fun hc=>?_) (fun hc=>?_)
  ·have hc:=Sr hc
   have hk: ∃j,k=j+1:=by
    cases k with
    |zero=>exfalso;simp at g3;omega
    |succ j=>exact ⟨j,rfl⟩
   obtain ⟨j,rfl⟩:=hk
   have hd:ay (Int.tdiv q 10)=q / 10:=by rw [Int.tdiv_eq_ediv_of_nonneg (by omega),aO (by omega)]
   rw [hd]
   refine Xn (decide_eq_true (by rw [Pb];omega)) ?_
   refine ih _ ⟨by (try dsimp only);omega,by (try dsimp only);omega,j,?_,?_⟩ (by (try dsimp only);omega)
   ·dsimp only;rw [Int.pow_succ] at g3;omega
   ·dsimp only;rw [ByteArray.size_append,Pb];omega
  ·exact vk (by omega)
noncomputable def Hc (q:Int):ByteArray:=(dH q).getD ByteArray.empty
theorem LS {q:Int} (h:0≤q∧q≤134217728):dH q=some (Hc q):=by
 have:Ys (dH q) fun _=>True:=by
  unfold dH
  refine Ku (fun _=>vk trivial) (fun _=>?_)
  refine Td (agA h.1 (by omega)) fun r hr=>?_
  exact Xn (decide_eq_true (show 1+r.size≤_ by omega)) (vk trivial)
 obtain ⟨r,e,_⟩:=this
 unfold Hc;rw [e];rfl
theorem Ru (x0:List ByteArray) (hx0:x0.length≤1048576):cM x0=some x0:=by
 have h:=vj (iQ x0) x0 (List.replicate x0.length ByteArray.empty) (by simp) hx0 (fun fuel l j hj hl=>by
  rw [rP,gy]
  have hj':j<l.length:=by omega
  simp only [au hj,ae hj,aa,cond_true,Int.toNat_natCast,ab (by omega:j<4611686018427387904),ac hj]) (fun fuel l hl=>by rw [rP,gy];simp only [ak,cond_false])
 have hc:sF (x0.length:Int)=true:=by simp [sF];omega
 simp only [cM,hc,aa,h,Option.bind_some]
theorem Qs (a:List ByteArray) (hn:a.length≤1048576):cL a a=some true:=by
 unfold cL
 have h:=av (dV a a) (fun k=>(k:Int)) a.length (some (.inl ())) (by omega) (fun k fuel hk=>by
  rw [rJ,gn]
  simp only [au hk,ae hk,aa,cond_true,Int.toNat_natCast,ab (by omega:k<4611686018427387904),beq_self_eq_true]) (fun fuel=>by
  rw [rJ,gn];simp only [ak,cond_false])
 simp only [bne_self_eq_false,cond_false]
 rw [show dV a a ah 0=_ from h];rfl
theorem MV (x0:List ByteArray) (x1:Int) (hx0:x0.length≤1048576) (hk:0≤x1∧x1≤33554432):eY x0 x1=some (x1+1*(x0.length:Int),bC Hc 1 x1 x0.length):=by
 have h:=sE (cH x0) Hc 1 (by decide) x0 x1 hx0 hk (fun fuel l q j hj hl h0 h1=>by
  rw [pN,ey]
  simp only [au hj,ae hj,aa,cond_true,Int.toNat_natCast,ab (by omega:j<4611686018427387904),LS ⟨h0,h1⟩,Option.bind_some,aO (show-9223372036854775808≤q+1∧q+1≤9223372036854775807 by omega)]) (fun fuel l q hl=>by rw [pN,ey];simp only [ak,cond_false])
 unfold eY
 rw [show cH x0 ah (x0,x1,0)=_ from h];rfl
theorem ML (n:Nat) (k:Int) (hn:n≤1048576) (hk:0≤k∧k≤33554432):eX (bC Hc 1 k n) k=some (k+1*(n:Int)):=by
 have hl:=bU Hc 1 k n
 have h:=sC (cG (bC Hc 1 k n)) Hc 1 (by decide) n k hn hk (fun fuel q j hj hq h0 h1=>by
  rw [pL,eu]
  have hj':j<(bC Hc 1 k n).length:=by omega
  have hq':(bC Hc 1 k n).getD j ByteArray.empty=Hc q:=hq _
  simp only [au hj',ae hj',aa,cond_true,Int.toNat_natCast,ab (by omega:j<4611686018427387904),LS ⟨h0,h1⟩,Option.bind_some,hq',beq_self_eq_true,aO (show-9223372036854775808≤q+1∧q+1≤9223372036854775807 by omega)]) (fun fuel q=>by
  rw [pL,eu]
  have:af (n:Int) ((bC Hc 1 k n).length:Int)=false:=by rw [hl];exact ak
  simp only [this,cond_false])
 unfold eX
 rw [show cG (bC Hc 1 k n) ah (k,0)=_ from h];rfl
theorem Rq (x0:List ByteArray) (x1:Int) (hx0:x0.length≤9223372036854775807) (g: ∀z∈x0,z.size≤Go.maxLen) (h0:0≤x1∧x1≤1048576):Ys (mC x0 x1) fun r=>r= -1∨(x0.length≤1048576∧ ∀s∈x0,s.size≤1048576):=by
 unfold mC
 rw [aO (show-9223372036854775808≤x1-(x0.length:Int)∧x1-(x0.length:Int)≤9223372036854775807 by omega)]
 refine Ku (fun _=>vk (.inl rfl)) (fun hc=>?_)
 have hc:=OP hc
 refine Td (Q:=fun r=>match r with | .inl _=> ∀s∈x0,s.size≤1048576 | .inr z=>z= -1) ?_ fun r hr=>?_
 ·refine Te (iO x0) (fun s=>((x0.length:Int)-s.2).toNat) (fun s=>(0≤s.1∧s.1≤1048576)∧(0≤s.2∧s.2≤(x0.length:Int))∧ ∀j:Nat,(j:Int)<s.2→(x0.getD j ByteArray.empty).size≤1048576) (fun fuel s hs ih=>?_) ah _ ⟨by (try dsimp only);omega,by (try dsimp only);omega,fun j hj=>by (try dsimp only at hj);omega⟩ (by (try dsimp only);rw [ER];omega)
  obtain ⟨l,k⟩:=s
  dsimp only at hs ih ⊢
  obtain ⟨g1,g2,g3⟩:=hs
  rw [DC,lX]
  dsimp only
  refine Ku (fun hc=>?_) (fun hc=>?_)
  ·have hc:=Sr hc
   obtain ⟨k,rfl⟩: ∃n:Nat,k=n:=⟨k.toNat,by omega⟩
   have hk:k<x0.length:=by omega
   rw [ae hk,aa,Int.toNat_natCast]
   have hz:(x0.getD k ByteArray.empty).size≤9223372036854775807:=by
    have:=g _ (List.getElem_mem hk)
    rw [ac hk];unfold Go.maxLen at this;omega
   rw [aO (show-9223372036854775808≤l-((x0.getD k ByteArray.empty).size:Int)∧l-((x0.getD k ByteArray.empty).size:Int)≤9223372036854775807 by omega)]
   refine Ku (fun _=>vk rfl) (fun hn=>?_)
   have hn:=OP hn
   rw [ab (by omega:k<4611686018427387904)]
   refine ih _ ⟨by (try dsimp only);omega,by (try dsimp only);omega,fun j hj=>?_⟩ (by (try dsimp only);omega)
   dsimp only at hj
   by_cases e:j=k
   ·subst e;omega
   ·exact g3 j (by omega)
  ·have hc:=OP hc
   refine vk fun s hs=>?_
   obtain ⟨j,hj,rfl⟩:=List.mem_iff_getElem.1 hs
   have:=g3 j (by omega)
   rwa [ac hj] at this
 ·cases r with
  |inl r=>exact vk (.inr ⟨by omega,hr⟩)
  |inr z=>exact vk (.inl hr)
theorem EA (x0:Int) (x1:List (Int×Int×Int)) (x2:List (Int×Int)) (x3:List Bool) (x4:List Bool) (x5:List (Int×Int)) (x6:List Int) (x7:List ByteArray) (hx1:x1.length≤9223372036854775807) (hx2:x2.length≤9223372036854775807) (hx3:x3.length≤9223372036854775807) (hx4:x4.length≤9223372036854775807) (hx5:x5.length≤9223372036854775807) (hx6:x6.length≤9223372036854775807) (hx7:x7.length≤9223372036854775807) (g7: ∀z∈x7,z.size≤Go.maxLen):cP x0 x1 x2 x3 x4 x5 x6 x7=some true:=by
 unfold cP
 rw [bJ x0 x1 x2 x3 x4 x5 x6 1048576 hx1 hx2 hx3 hx4 hx5 hx6 (by omega)]
 by_cases s0:1048576<(x1.length:Int)+(x2.length:Int)+(x3.length:Int)+(x4.length:Int)+(x5.length:Int)+(x6.length:Int)
 ·simp [s0,af]
 rw [if_neg s0,Option.bind_some,ael (by omega),cond_false]
 obtain ⟨z,e,hz⟩:=Rq x7 (1048576-((x1.length:Int)+(x2.length:Int)+(x3.length:Int)+(x4.length:Int)+(x5.length:Int)+(x6.length:Int))) hx7 g7 (by omega)
 rw [e,Option.bind_some]
 rcases Bool.eq_false_or_eq_true (af z 0) with h |h
 ·rw [h];rfl
 rw [h,cond_false]
 have h:=OP h
 obtain ⟨hl7,hz7⟩:x7.length≤1048576∧ ∀s∈x7,s.size≤1048576:=by
  rcases hz with hz |hz
  ·exfalso;omega
  ·exact hz
 obtain ⟨r,hs,hi,b1,b2,b3,b4,b5,b6,b7⟩:=yH x0 x1 x2 x3 x4 x5 x6 x7 hz7 (by omega) (by omega) (by omega) (by omega) (by omega) (by omega)
 simp (disch:=omega) only [Option.bind_some,cond_false,cond_true,hs,hi,bne_self_eq_false,beq_self_eq_true,Bool.not_true,Bool.not_false,Bool.or_false,Bool.false_or,Bool.or_self,gb,ael,cE,bQ,jt,kr,fC,du,cw,bV,lI,mO,kH,oA,nc,xo,yT,xn,wb,wd,xp,MF,RQ,Vd,QH,tM,TC,QG,MU,rp,TD,mA,Qz,tL,Tr,Qy,MK,rn,Ts,my,Ru,Qs,MV,ML]
end Go.Proofs.YtjdlgannencchaaGreatDoor
namespace Go.Proofs.YtjdlgannencchaaGreatDoor
open Go.ChangeShapes Go.WideShapes Go.ChangeAt Go.RowKit Go.Deep
set_option linter.unusedVariables false
set_option linter.unusedSimpArgs false
set_option maxRecDepth 100000
section
variable {H:Type} {enc:TypeId×Value→H} {w:World} {base:Nat} {spare:Nat→Bool} {held:Bool}
theorem Zm {fuel:Nat} {cs:List Value} {x:DataW H×List MemPlace} (h:DataW.trod enc Tryz.prog w base spare held fuel 3 cs=some x):
 ∃(y0:Int),cs=[.int .i64 y0]∧sD y0:=by
 obtain ⟨n,rfl,_,hw⟩:=DataW.trod_int Tryz.underlying3 h
 exact ⟨n,rfl,Go.bounds_i64 hw⟩
theorem aeV {fuel:Nat} {cs:List Value} {x:DataW H×List MemPlace} (h:DataW.trod enc Tryz.prog w base spare held fuel 210 cs=some x):
 ∃(y0:Int) (y1:Int) (y2:Int),cs=[.int .i64 y0,.int .i64 y1,.int .i64 y2]∧sD y0∧sD y1∧sD y2:=by
 obtain ⟨xs,n,_,rfl,hl,hlen,hf⟩:=DataW.trod_struct Tryz.underlying210 h
 have hc:Tryz.prog.cellsOf 210=3:=by kernel_rfl
 rw [hc] at hl
 have h0:DataW.trod enc Tryz.prog w base spare held n 3 ((cs.drop 0).take (Tryz.prog.cellsOf 3))=xs[0]?:=hf 0 _ rfl
 have c0:Tryz.prog.cellsOf 3=1:=by kernel_rfl
 obtain ⟨q0,hq0⟩: ∃q,xs[0]?=some q:=⟨_,List.getElem?_eq_getElem (by rw [hlen];decide)⟩
 rw [hq0,c0] at h0
 obtain ⟨y0,e0,w0_0⟩:=Zm h0
 have h1:DataW.trod enc Tryz.prog w base spare held n 3 ((cs.drop 1).take (Tryz.prog.cellsOf 3))=xs[1]?:=hf 1 _ rfl
 have c1:Tryz.prog.cellsOf 3=1:=by kernel_rfl
 obtain ⟨q1,hq1⟩: ∃q,xs[1]?=some q:=⟨_,List.getElem?_eq_getElem (by rw [hlen];decide)⟩
 rw [hq1,c1] at h1
 obtain ⟨y1,e1,w1_0⟩:=Zm h1
 have h2:DataW.trod enc Tryz.prog w base spare held n 3 ((cs.drop 2).take (Tryz.prog.cellsOf 3))=xs[2]?:=hf 2 _ rfl
 have c2:Tryz.prog.cellsOf 3=1:=by kernel_rfl
 obtain ⟨q2,hq2⟩: ∃q,xs[2]?=some q:=⟨_,List.getElem?_eq_getElem (by rw [hlen];decide)⟩
 rw [hq2,c2] at h2
 obtain ⟨y2,e2,w2_0⟩:=Zm h2
 match cs,hl with
 | [u0,u1,u2],_=>
  simp at e0 e1 e2
  subst e0;subst e1;subst e2
  exact ⟨y0,y1,y2,rfl,w0_0,w1_0,w2_0⟩
theorem agu {fuel:Nat} {cs:List Value} {x:DataW H×List MemPlace} (h:DataW.trod enc Tryz.prog w base spare held fuel 49 cs=some x):
 ∃(A0:Option Addr) (y0:List (Int×Int×Int)) (k0:Nat),cs=[.slice A0 y0.length k0]∧Rc w 3 A0 y0.length k0 (y0.flatMap Ew)∧y0.length≤maxLen∧(∀z∈y0,sD z.1∧sD z.2.1∧sD z.2.2):=by
 obtain ⟨A,l,cap,e1,e2,e3,e4⟩:=sG (fun b: {y:Int×Int×Int // sD y.1∧sD y.2.1∧sD y.2.2}=>Ew b.1) (size:=3) (fun b=>Qq b.1) (by decide) Tryz.underlying49 (by kernel_rfl) (fun fuel cs x hx=>by
  obtain ⟨z0,z1,z2,rfl,g0,g1,g2⟩:=aeV hx
  exact ⟨⟨(z0,z1,z2),⟨g0,g1,g2⟩⟩,rfl⟩) h
 refine ⟨A,l.map (·.1),cap,by simpa using e1,⟨by simpa [List.flatMap_map] using e2,by simpa using e3⟩,by simpa using Nat.le_trans e3 e4,fun z hz=>?_⟩
 obtain ⟨q,_,rfl⟩:=List.mem_map.1 hz
 exact q.2
theorem agv {fuel:Nat} {cs:List Value} {x:DataW H×List MemPlace} (h:DataW.trod enc Tryz.prog w base spare held fuel 51 cs=some x):
 ∃(y0:Int) (A1:Option Addr) (y1:List (Int×Int×Int)) (k1:Nat),cs=[.int .i64 y0,.slice A1 y1.length k1]∧sD y0∧Rc w 3 A1 y1.length k1 (y1.flatMap Ew)∧y1.length≤maxLen∧(∀z∈y1,sD z.1∧sD z.2.1∧sD z.2.2):=by
 obtain ⟨xs,n,_,rfl,hl,hlen,hf⟩:=DataW.trod_struct Tryz.underlying51 h
 have hc:Tryz.prog.cellsOf 51=2:=by kernel_rfl
 rw [hc] at hl
 have h0:DataW.trod enc Tryz.prog w base spare held n 3 ((cs.drop 0).take (Tryz.prog.cellsOf 3))=xs[0]?:=hf 0 _ rfl
 have c0:Tryz.prog.cellsOf 3=1:=by kernel_rfl
 obtain ⟨q0,hq0⟩: ∃q,xs[0]?=some q:=⟨_,List.getElem?_eq_getElem (by rw [hlen];decide)⟩
 rw [hq0,c0] at h0
 obtain ⟨y0,e0,w0_0⟩:=Zm h0
 have h1:DataW.trod enc Tryz.prog w base spare held n 49 ((cs.drop 1).take (Tryz.prog.cellsOf 49))=xs[1]?:=hf 1 _ rfl
 have c1:Tryz.prog.cellsOf 49=1:=by kernel_rfl
 obtain ⟨q1,hq1⟩: ∃q,xs[1]?=some q:=⟨_,List.getElem?_eq_getElem (by rw [hlen];decide)⟩
 rw [hq1,c1] at h1
 obtain ⟨A1,y1,k1,e1,w1_0,w1_1,w1_2⟩:=agu h1
 match cs,hl with
 | [u0,u1],_=>
  simp at e0 e1
  subst e0;subst e1
  exact ⟨y0,A1,y1,k1,rfl,w0_0,w1_0,w1_1,w1_2⟩
theorem aeU {fuel:Nat} {cs:List Value} {x:DataW H×List MemPlace} (h:DataW.trod enc Tryz.prog w base spare held fuel 185 cs=some x):
 ∃(y0:Int) (y1:Int),cs=[.int .i64 y0,.int .i64 y1]∧sD y0∧sD y1:=by
 obtain ⟨xs,n,_,rfl,hl,hlen,hf⟩:=DataW.trod_struct Tryz.underlying185 h
 have hc:Tryz.prog.cellsOf 185=2:=by kernel_rfl
 rw [hc] at hl
 have h0:DataW.trod enc Tryz.prog w base spare held n 3 ((cs.drop 0).take (Tryz.prog.cellsOf 3))=xs[0]?:=hf 0 _ rfl
 have c0:Tryz.prog.cellsOf 3=1:=by kernel_rfl
 obtain ⟨q0,hq0⟩: ∃q,xs[0]?=some q:=⟨_,List.getElem?_eq_getElem (by rw [hlen];decide)⟩
 rw [hq0,c0] at h0
 obtain ⟨y0,e0,w0_0⟩:=Zm h0
 have h1:DataW.trod enc Tryz.prog w base spare held n 3 ((cs.drop 1).take (Tryz.prog.cellsOf 3))=xs[1]?:=hf 1 _ rfl
 have c1:Tryz.prog.cellsOf 3=1:=by kernel_rfl
 obtain ⟨q1,hq1⟩: ∃q,xs[1]?=some q:=⟨_,List.getElem?_eq_getElem (by rw [hlen];decide)⟩
 rw [hq1,c1] at h1
 obtain ⟨y1,e1,w1_0⟩:=Zm h1
 match cs,hl with
 | [u0,u1],_=>
  simp at e0 e1
  subst e0;subst e1
  exact ⟨y0,y1,rfl,w0_0,w1_0⟩
theorem agw {fuel:Nat} {cs:List Value} {x:DataW H×List MemPlace} (h:DataW.trod enc Tryz.prog w base spare held fuel 52 cs=some x):
 ∃(A0:Option Addr) (y0:List (Int×Int)) (k0:Nat),cs=[.slice A0 y0.length k0]∧Rc w 2 A0 y0.length k0 (y0.flatMap LB)∧y0.length≤maxLen∧(∀z∈y0,sD z.1∧sD z.2):=by
 obtain ⟨A,l,cap,e1,e2,e3,e4⟩:=sG (fun b: {y:Int×Int // sD y.1∧sD y.2}=>LB b.1) (size:=2) (fun b=>Tl b.1) (by decide) Tryz.underlying52 (by kernel_rfl) (fun fuel cs x hx=>by
  obtain ⟨z0,z1,rfl,g0,g1⟩:=aeU hx
  exact ⟨⟨(z0,z1),⟨g0,g1⟩⟩,rfl⟩) h
 refine ⟨A,l.map (·.1),cap,by simpa using e1,⟨by simpa [List.flatMap_map] using e2,by simpa using e3⟩,by simpa using Nat.le_trans e3 e4,fun z hz=>?_⟩
 obtain ⟨q,_,rfl⟩:=List.mem_map.1 hz
 exact q.2
theorem tr4 {fuel:Nat} {cs:List Value} {x:DataW H×List MemPlace} (h:DataW.trod enc Tryz.prog w base spare held fuel 4 cs=some x):
 ∃(y0:Bool),cs=[.bool y0]:=by
 obtain ⟨n,rfl,_⟩:=DataW.trod_bool Tryz.underlying4 h
 exact ⟨n,rfl⟩
theorem aeX {fuel:Nat} {cs:List Value} {x:DataW H×List MemPlace} (h:DataW.trod enc Tryz.prog w base spare held fuel 27 cs=some x):
 ∃(A0:Option Addr) (y0:List Bool) (k0:Nat),cs=[.slice A0 y0.length k0]∧Rc w 1 A0 y0.length k0 (y0.flatMap eB)∧y0.length≤maxLen∧(∀z∈y0,True):=by
 obtain ⟨A,l,cap,e1,e2,e3,e4⟩:=sG (fun b: {y:Bool // True}=>eB b.1) (size:=1) (fun b=>aas b.1) (by decide) Tryz.underlying27 (by kernel_rfl) (fun fuel cs x hx=>by
  obtain ⟨z0,rfl⟩:=tr4 hx
  exact ⟨⟨z0,trivial⟩,rfl⟩) h
 refine ⟨A,l.map (·.1),cap,by simpa using e1,⟨by simpa [List.flatMap_map] using e2,by simpa using e3⟩,by simpa using Nat.le_trans e3 e4,fun z hz=>?_⟩
 obtain ⟨q,_,rfl⟩:=List.mem_map.1 hz
 exact q.2
theorem aeW {fuel:Nat} {cs:List Value} {x:DataW H×List MemPlace} (h:DataW.trod enc Tryz.prog w base spare held fuel 212 cs=some x):
 ∃(y0:Int) (y1:Int),cs=[.int .i64 y0,.int .i64 y1]∧sD y0∧sD y1:=by
 obtain ⟨xs,n,_,rfl,hl,hlen,hf⟩:=DataW.trod_struct Tryz.underlying212 h
 have hc:Tryz.prog.cellsOf 212=2:=by kernel_rfl
 rw [hc] at hl
 have h0:DataW.trod enc Tryz.prog w base spare held n 3 ((cs.drop 0).take (Tryz.prog.cellsOf 3))=xs[0]?:=hf 0 _ rfl
 have c0:Tryz.prog.cellsOf 3=1:=by kernel_rfl
 obtain ⟨q0,hq0⟩: ∃q,xs[0]?=some q:=⟨_,List.getElem?_eq_getElem (by rw [hlen];decide)⟩
 rw [hq0,c0] at h0
 obtain ⟨y0,e0,w0_0⟩:=Zm h0
 have h1:DataW.trod enc Tryz.prog w base spare held n 3 ((cs.drop 1).take (Tryz.prog.cellsOf 3))=xs[1]?:=hf 1 _ rfl
 have c1:Tryz.prog.cellsOf 3=1:=by kernel_rfl
 obtain ⟨q1,hq1⟩: ∃q,xs[1]?=some q:=⟨_,List.getElem?_eq_getElem (by rw [hlen];decide)⟩
 rw [hq1,c1] at h1
 obtain ⟨y1,e1,w1_0⟩:=Zm h1
 match cs,hl with
 | [u0,u1],_=>
  simp at e0 e1
  subst e0;subst e1
  exact ⟨y0,y1,rfl,w0_0,w1_0⟩
theorem agx {fuel:Nat} {cs:List Value} {x:DataW H×List MemPlace} (h:DataW.trod enc Tryz.prog w base spare held fuel 53 cs=some x):
 ∃(A0:Option Addr) (y0:List (Int×Int)) (k0:Nat),cs=[.slice A0 y0.length k0]∧Rc w 2 A0 y0.length k0 (y0.flatMap sR)∧y0.length≤maxLen∧(∀z∈y0,sD z.1∧sD z.2):=by
 obtain ⟨A,l,cap,e1,e2,e3,e4⟩:=sG (fun b: {y:Int×Int // sD y.1∧sD y.2}=>sR b.1) (size:=2) (fun b=>MC b.1) (by decide) Tryz.underlying53 (by kernel_rfl) (fun fuel cs x hx=>by
  obtain ⟨z0,z1,rfl,g0,g1⟩:=aeW hx
  exact ⟨⟨(z0,z1),⟨g0,g1⟩⟩,rfl⟩) h
 refine ⟨A,l.map (·.1),cap,by simpa using e1,⟨by simpa [List.flatMap_map] using e2,by simpa using e3⟩,by simpa using Nat.le_trans e3 e4,fun z hz=>?_⟩
 obtain ⟨q,_,rfl⟩:=List.mem_map.1 hz
 exact q.2
theorem agy {fuel:Nat} {cs:List Value} {x:DataW H×List MemPlace} (h:DataW.trod enc Tryz.prog w base spare held fuel 55 cs=some x):
 ∃(A0:Option Addr) (y0:List Bool) (k0:Nat) (A1:Option Addr) (y1:List Bool) (k1:Nat) (A2:Option Addr) (y2:List (Int×Int)) (k2:Nat),cs=[.slice A0 y0.length k0,.slice A1 y1.length k1,.slice A2 y2.length k2]∧Rc w 1 A0 y0.length k0 (y0.flatMap eB)∧y0.length≤maxLen∧(∀z∈y0,True)∧Rc w 1 A1 y1.length k1 (y1.flatMap eB)∧y1.length≤maxLen∧(∀z∈y1,True)∧Rc w 2 A2 y2.length k2 (y2.flatMap sR)∧y2.length≤maxLen∧(∀z∈y2,sD z.1∧sD z.2):=by
 obtain ⟨xs,n,_,rfl,hl,hlen,hf⟩:=DataW.trod_struct Tryz.underlying55 h
 have hc:Tryz.prog.cellsOf 55=3:=by kernel_rfl
 rw [hc] at hl
 have h0:DataW.trod enc Tryz.prog w base spare held n 27 ((cs.drop 0).take (Tryz.prog.cellsOf 27))=xs[0]?:=hf 0 _ rfl
 have c0:Tryz.prog.cellsOf 27=1:=by kernel_rfl
 obtain ⟨q0,hq0⟩: ∃q,xs[0]?=some q:=⟨_,List.getElem?_eq_getElem (by rw [hlen];decide)⟩
 rw [hq0,c0] at h0
 obtain ⟨A0,y0,k0,e0,w0_0,w0_1,w0_2⟩:=aeX h0
 have h1:DataW.trod enc Tryz.prog w base spare held n 27 ((cs.drop 1).take (Tryz.prog.cellsOf 27))=xs[1]?:=hf 1 _ rfl
 have c1:Tryz.prog.cellsOf 27=1:=by kernel_rfl
 obtain ⟨q1,hq1⟩: ∃q,xs[1]?=some q:=⟨_,List.getElem?_eq_getElem (by rw [hlen];decide)⟩
 rw [hq1,c1] at h1
 obtain ⟨A1,y1,k1,e1,w1_0,w1_1,w1_2⟩:=aeX h1
 have h2:DataW.trod enc Tryz.prog w base spare held n 53 ((cs.drop 2).take (Tryz.prog.cellsOf 53))=xs[2]?:=hf 2 _ rfl
 have c2:Tryz.prog.cellsOf 53=1:=by kernel_rfl
 obtain ⟨q2,hq2⟩: ∃q,xs[2]?=some q:=⟨_,List.getElem?_eq_getElem (by rw [hlen];decide)⟩
 rw [hq2,c2] at h2
 obtain ⟨A2,y2,k2,e2,w2_0,w2_1,w2_2⟩:=agx h2
 match cs,hl with
 | [u0,u1,u2],_=>
  simp at e0 e1 e2
  subst e0;subst e1;subst e2
  exact ⟨A0,y0,k0,A1,y1,k1,A2,y2,k2,rfl,w0_0,w0_1,w0_2,w1_0,w1_1,w1_2,w2_0,w2_1,w2_2⟩
theorem ags {fuel:Nat} {cs:List Value} {x:DataW H×List MemPlace} (h:DataW.trod enc Tryz.prog w base spare held fuel 31 cs=some x):
 ∃(A0:Option Addr) (y0:List Int) (k0:Nat),cs=[.slice A0 y0.length k0]∧Rc w 1 A0 y0.length k0 (y0.flatMap eI)∧y0.length≤maxLen∧(∀z∈y0,sD z):=by
 obtain ⟨A,l,cap,e1,e2,e3,e4⟩:=sG (fun b: {y:Int // sD y}=>eI b.1) (size:=1) (fun b=>Qp b.1) (by decide) Tryz.underlying31 (by kernel_rfl) (fun fuel cs x hx=>by
  obtain ⟨z0,rfl,g0⟩:=Zm hx
  exact ⟨⟨z0,g0⟩,rfl⟩) h
 refine ⟨A,l.map (·.1),cap,by simpa using e1,⟨by simpa [List.flatMap_map] using e2,by simpa using e3⟩,by simpa using Nat.le_trans e3 e4,fun z hz=>?_⟩
 obtain ⟨q,_,rfl⟩:=List.mem_map.1 hz
 exact q.2
theorem agz {fuel:Nat} {cs:List Value} {x:DataW H×List MemPlace} (h:DataW.trod enc Tryz.prog w base spare held fuel 57 cs=some x):
 ∃(y0:Int) (A1:Option Addr) (y1:List (Int×Int×Int)) (k1:Nat) (A2:Option Addr) (y2:List (Int×Int)) (k2:Nat) (A3:Option Addr) (y3:List Bool) (k3:Nat) (A4:Option Addr) (y4:List Bool) (k4:Nat) (A5:Option Addr) (y5:List (Int×Int)) (k5:Nat) (A6:Option Addr) (y6:List Int) (k6:Nat),cs=[.int .i64 y0,.slice A1 y1.length k1,.slice A2 y2.length k2,.slice A3 y3.length k3,.slice A4 y4.length k4,.slice A5 y5.length k5,.slice A6 y6.length k6]∧sD y0∧Rc w 3 A1 y1.length k1 (y1.flatMap Ew)∧y1.length≤maxLen∧(∀z∈y1,sD z.1∧sD z.2.1∧sD z.2.2)∧Rc w 2 A2 y2.length k2 (y2.flatMap LB)∧y2.length≤maxLen∧(∀z∈y2,sD z.1∧sD z.2)∧Rc w 1 A3 y3.length k3 (y3.flatMap eB)∧y3.length≤maxLen∧(∀z∈y3,True)∧Rc w 1 A4 y4.length k4 (y4.flatMap eB)∧y4.length≤maxLen∧(∀z∈y4,True)∧Rc w 2 A5 y5.length k5 (y5.flatMap sR)∧y5.length≤maxLen∧(∀z∈y5,sD z.1∧sD z.2)∧Rc w 1 A6 y6.length k6 (y6.flatMap eI)∧y6.length≤maxLen∧(∀z∈y6,sD z):=by
 obtain ⟨xs,n,_,rfl,hl,hlen,hf⟩:=DataW.trod_struct Tryz.underlying57 h
 have hc:Tryz.prog.cellsOf 57=7:=by kernel_rfl
 rw [hc] at hl
 have h0:DataW.trod enc Tryz.prog w base spare held n 51 ((cs.drop 0).take (Tryz.prog.cellsOf 51))=xs[0]?:=hf 0 _ rfl
 have c0:Tryz.prog.cellsOf 51=2:=by kernel_rfl
 obtain ⟨q0,hq0⟩: ∃q,xs[0]?=some q:=⟨_,List.getElem?_eq_getElem (by rw [hlen];decide)⟩
 rw [hq0,c0] at h0
 obtain ⟨y0,A1,y1,k1,e0,w0_0,w0_1,w0_2,w0_3⟩:=agv h0
 have h1:DataW.trod enc Tryz.prog w base spare held n 52 ((cs.drop 2).take (Tryz.prog.cellsOf 52))=xs[1]?:=hf 1 _ rfl
 have c1:Tryz.prog.cellsOf 52=1:=by kernel_rfl
 obtain ⟨q1,hq1⟩: ∃q,xs[1]?=some q:=⟨_,List.getElem?_eq_getElem (by rw [hlen];decide)⟩
 rw [hq1,c1] at h1
 obtain ⟨A2,y2,k2,e1,w1_0,w1_1,w1_2⟩:=agw h1
 have h2:DataW.trod enc Tryz.prog w base spare held n 55 ((cs.drop 3).take (Tryz.prog.cellsOf 55))=xs[2]?:=hf 2 _ rfl
 have c2:Tryz.prog.cellsOf 55=3:=by kernel_rfl
 obtain ⟨q2,hq2⟩: ∃q,xs[2]?=some q:=⟨_,List.getElem?_eq_getElem (by rw [hlen];decide)⟩
 rw [hq2,c2] at h2
 obtain ⟨A3,y3,k3,A4,y4,k4,A5,y5,k5,e2,w2_0,w2_1,w2_2,w2_3,w2_4,w2_5,w2_6,w2_7,w2_8⟩:=agy h2
 have h3:DataW.trod enc Tryz.prog w base spare held n 31 ((cs.drop 6).take (Tryz.prog.cellsOf 31))=xs[3]?:=hf 3 _ rfl
 have c3:Tryz.prog.cellsOf 31=1:=by kernel_rfl
 obtain ⟨q3,hq3⟩: ∃q,xs[3]?=some q:=⟨_,List.getElem?_eq_getElem (by rw [hlen];decide)⟩
 rw [hq3,c3] at h3
 obtain ⟨A6,y6,k6,e3,w3_0,w3_1,w3_2⟩:=ags h3
 match cs,hl with
 | [u0,u1,u2,u3,u4,u5,u6],_=>
  simp at e0 e1 e2 e3
  obtain ⟨rfl,rfl⟩:=e0;subst e1;obtain ⟨rfl,rfl,rfl⟩:=e2;subst e3
  exact ⟨y0,A1,y1,k1,A2,y2,k2,A3,y3,k3,A4,y4,k4,A5,y5,k5,A6,y6,k6,rfl,w0_0,w0_1,w0_2,w0_3,w1_0,w1_1,w1_2,w2_0,w2_1,w2_2,w2_3,w2_4,w2_5,w2_6,w2_7,w2_8,w3_0,w3_1,w3_2⟩
theorem agk {r:Reach} {b0:Nat} {v:Value} {d:DataW H} {p:List MemPlace} (hval:Value.okWide Tryz.prog w r b0 57 v) (h:DataW.Trod enc Tryz.prog w base spare held 57 v d p):
 ∃(y0:Int) (A1:Option Addr) (y1:List (Int×Int×Int)) (k1:Nat) (A2:Option Addr) (y2:List (Int×Int)) (k2:Nat) (A3:Option Addr) (y3:List Bool) (k3:Nat) (A4:Option Addr) (y4:List Bool) (k4:Nat) (A5:Option Addr) (y5:List (Int×Int)) (k5:Nat) (A6:Option Addr) (y6:List Int) (k6:Nat),v= .agg #[.int .i64 y0,.slice A1 y1.length k1,.slice A2 y2.length k2,.slice A3 y3.length k3,.slice A4 y4.length k4,.slice A5 y5.length k5,.slice A6 y6.length k6]∧sD y0∧Rc w 3 A1 y1.length k1 (y1.flatMap Ew)∧y1.length≤maxLen∧(∀z∈y1,sD z.1∧sD z.2.1∧sD z.2.2)∧Rc w 2 A2 y2.length k2 (y2.flatMap LB)∧y2.length≤maxLen∧(∀z∈y2,sD z.1∧sD z.2)∧Rc w 1 A3 y3.length k3 (y3.flatMap eB)∧y3.length≤maxLen∧(∀z∈y3,True)∧Rc w 1 A4 y4.length k4 (y4.flatMap eB)∧y4.length≤maxLen∧(∀z∈y4,True)∧Rc w 2 A5 y5.length k5 (y5.flatMap sR)∧y5.length≤maxLen∧(∀z∈y5,sD z.1∧sD z.2)∧Rc w 1 A6 y6.length k6 (y6.flatMap eI)∧y6.length≤maxLen∧(∀z∈y6,sD z):=by
 obtain ⟨cs,rfl,_⟩:=okWide_struct Tryz.underlying57 hval
 obtain ⟨fuel,hf⟩:=h
 obtain ⟨y0,A1,y1,k1,A2,y2,k2,A3,y3,k3,A4,y4,k4,A5,y5,k5,A6,y6,k6,e,w0,w1,w2,w3,w4,w5,w6,w7,w8,w9,w10,w11,w12,w13,w14,w15,w16,w17,w18⟩:=agz hf
 simp [Value.cells] at e
 exact ⟨y0,A1,y1,k1,A2,y2,k2,A3,y3,k3,A4,y4,k4,A5,y5,k5,A6,y6,k6,congrArg Value.agg (Array.ext' e),w0,w1,w2,w3,w4,w5,w6,w7,w8,w9,w10,w11,w12,w13,w14,w15,w16,w17,w18⟩
theorem tr9 {fuel:Nat} {cs:List Value} {x:DataW H×List MemPlace} (h:DataW.trod enc Tryz.prog w base spare held fuel 9 cs=some x):
 ∃(y0:ByteArray),cs=[.string y0]∧y0.size≤maxLen:=by
 obtain ⟨n,rfl,_,hs⟩:=DataW.trod_string Tryz.underlying9 h
 exact ⟨n,rfl,hs⟩
theorem agt {fuel:Nat} {cs:List Value} {x:DataW H×List MemPlace} (h:DataW.trod enc Tryz.prog w base spare held fuel 34 cs=some x):
 ∃(A0:Option Addr) (y0:List ByteArray) (k0:Nat),cs=[.slice A0 y0.length k0]∧Rc w 1 A0 y0.length k0 (y0.flatMap eS)∧y0.length≤maxLen∧(∀z∈y0,z.size≤maxLen):=by
 obtain ⟨A,l,cap,e1,e2,e3,e4⟩:=sG (fun b: {y:ByteArray // y.size≤maxLen}=>eS b.1) (size:=1) (fun b=>aau b.1) (by decide) Tryz.underlying34 (by kernel_rfl) (fun fuel cs x hx=>by
  obtain ⟨z0,rfl,g0⟩:=tr9 hx
  exact ⟨⟨z0,g0⟩,rfl⟩) h
 refine ⟨A,l.map (·.1),cap,by simpa using e1,⟨by simpa [List.flatMap_map] using e2,by simpa using e3⟩,by simpa using Nat.le_trans e3 e4,fun z hz=>?_⟩
 obtain ⟨q,_,rfl⟩:=List.mem_map.1 hz
 exact q.2
theorem agj {r:Reach} {b0:Nat} {v:Value} {d:DataW H} {p:List MemPlace} (hval:Value.okWide Tryz.prog w r b0 34 v) (h:DataW.Trod enc Tryz.prog w base spare held 34 v d p):
 ∃(A0:Option Addr) (y0:List ByteArray) (k0:Nat),v= .slice A0 y0.length k0∧Rc w 1 A0 y0.length k0 (y0.flatMap eS)∧y0.length≤maxLen∧(∀z∈y0,z.size≤maxLen):=by
 obtain ⟨A',n',k',rfl⟩:=okWide_slice Tryz.underlying34 hval
 obtain ⟨fuel,hf⟩:=h
 obtain ⟨A0,y0,k0,e,w0,w1,w2⟩:=agt hf
 simp [Value.cells] at e
 exact ⟨A0,y0,k0,by simp [e],w0,w1,w2⟩
end
end Go.Proofs.YtjdlgannencchaaGreatDoor
namespace Go.Proofs.YtjdlgannencchaaGreatDoor
open Go.ChangeShapes Go.WideShapes Go.ChangeAt Go.RowKit
set_option linter.unusedVariables false
theorem own:ownKnob Tryz.prog.godebug=none:=by kernel_rfl
theorem Yq:laidOutB Tryz.prog=true:=by kernel_rfl
section
variable {H:Type} {enc:TypeId×Value→H} {P:Program}
theorem Em (hl:laidOutB P=true) {W W':World} (hb:Below W.heap.size W W'): ∀ {ts:List TypeId} {vs:List Value} {ds:List (DataW H)} {ps:List MemPlace},
 (ts.all fun t=>P.readableRec t&&decide (t<P.types.size))=true→DataW.TrodAll enc P W 0 (fun _=>true) true ts vs ds ps→(∀x∈ps,x.block<W.heap.size)→
 DataW.TrodAll enc P W' 0 (fun b=>decide (b<W.heap.size)) true ts vs ds ps
 | [],[],[],_,_,h,_=>h
 |t::ts,v::vs,d::ds,ps,ht,h,hlt=>by
  obtain ⟨p,q,h1,h2,rfl⟩:=h
  simp only [List.all_cons,Bool.and_eq_true,decide_eq_true_eq] at ht
  exact ⟨p,q,Below.trod hl ht.1.1 ht.1.2 h1 hb (fun x hx=>hlt x (by simp [hx])),Em hl hb (by simpa using ht.2) h2 (fun x hx=>hlt x (by simp [hx])),rfl⟩
theorem VP {f:Func} {s:ChangeSpec} {W W':World} {args:Array Value} {ds gs:List (DataW H)} {before:List MemPlace} {tb:TypeId} (hl:laidOutB P=true)
 (hW:DataW.Whole enc P f.params.toList s.vars false W args.toList ds gs before)
 (hts:(f.params.toList.all fun t=>P.readableRec t&&decide (t<P.types.size))=true) (hvs:s.vars=[]) (hrt:f.resultTypes= #[tb]) (hub:P.underlying tb=some .bool)
 (hfn:s.fn H (ds++ [])= {results:=[.lit (.bool true)],args:=ds}) (hb:Below W.heap.size W W'):
 s.post enc P f false true false false W args (.bool true) W':=by
 have hW':=hW
 obtain ⟨p,q,hA,hV,rfl,hfz,hnd⟩:=hW
 rw [hvs] at hV
 obtain ⟨rfl,rfl⟩:=trodVars_none hV
 refine ⟨ds,[],p++ [],[],p,[],hW',?_,?_,?_,hb.frame _,fun h=>by cases h⟩
 ·rw [hfn,hrt]
  exact trodAll_cons_mk (shut_bool hub _) trodAll_mk0
 ·rw [hfn]
  exact Em hl hb hts hA (fun x hx=>hW'.lt x (by simp [hx]))
 ·rw [hfn,hvs]
  rfl
end
theorem Il {H:Type} {enc:TypeId×Value→H} {a:Assume} {C:Checked} {os:Os} {f:FuncId} {fn:Func} {s:ChangeSpec} {conds:List PathCond} {apart fresh handsOn again:Bool} {X:World→Array Value→Prop}
 (hX: ∀(w w':World) (args:Array Value),w.heap=w'.heap→X w args→X w' args)
 (ho:ownKnob C.prog.godebug=none) (started:os.Started) (noInit:C.prog.inits.idxOf? f=none) (hfn:C.prog.funcs[f]?=some fn)
 (witness: ∃(w:World) (tape:Tape) (i:Input),w.os=os∧(w.forCall tape i).Shaped C.prog∧i.vars=[]∧Input.okWide C.prog (w.forCall tape i) .any w.heap.size f i∧
  ((s.pre enc C.prog fn conds apart (w.forCall tape i).memory i.args∧X (w.forCall tape i).memory i.args)∧sizedMet enc C.prog fn (OpenSpec.ofChange s) apart (w.forCall tape i).memory i.args)∧a.holds C.prog (lone (Frame.enter C.prog f i.args .normal) [] (w.forCall tape i)))
 (contract: ∀(W:World) (base:Nat) (args:Array Value) (ds gs:List (DataW H)) (before:List MemPlace),
  (∀(j:Nat) t v,fn.params[j]?=some t→args[j]?=some v→Value.okWide C.prog W .any base t v)→
  DataW.Whole enc C.prog fn.params.toList s.vars apart W args.toList ds gs before→X W args→W.ShapedOpen C.prog→
  Calls C.prog f args W fun e W'=> ∃v,e= .returned v∧s.post enc C.prog fn apart fresh handsOn again W args v W'):
 ReturnsInHanded a C os f .any (fun w args=>(s.pre enc C.prog fn conds apart w args∧X w args)∧sizedMet enc C.prog fn (OpenSpec.ofChange s) apart w args) (s.post enc C.prog fn apart fresh handsOn again):=by
 refine returnsInHanded_of_calls ho started noInit witness ?_
 intro w tape i _ hsh _ hok hpre _
 obtain ⟨_,_,_,fn',hfn',_,_,_,_,hval⟩:=hok
 obtain rfl:fn'=fn:=Option.some.inj (hfn'.symm.trans hfn)
 obtain ⟨⟨⟨ds,gs,before,hw,hc⟩,hx⟩,hz⟩:=hpre
 have hw':=DataW.Whole.of_heap (w':=w.forCall tape i) (by rfl) hw
 refine (contract (w.forCall tape i) w.heap.size i.args ds gs before hval hw' (hX _ _ _ (by rfl) hx) hsh).mono fun e W' ⟨v,he,hp⟩=>?_
 subst he
 exact ChangeSpec.post_blind hp
theorem Um {P:Program} {w w':World} {name:String} {k:IntKind} {zs:List Int} (h:Lib.TabIs P w name k zs) (hb:Below w.heap.size w w'):Lib.TabIs P w' name k zs:=by
 unfold Lib.TabIs World.var? at*
 cases hg:P.globalNamed name with
 |none=>simp [hg] at h
 |some g=>
  simp only [hg,Option.bind_some] at h ⊢
  have hlt:g<w.heap.size:=by
   rcases Nat.lt_or_ge g w.heap.size with h' |h'
   ·exact h'
   ·rw [Array.getElem?_eq_none h'] at h;simp at h
  rw [hb.block g hlt]
  exact h
theorem abO {W:World} (hL:laidMetH Tryz.prog Rows.fnWorldLineRow.laid W) (hsh:W.ShapedOpen Tryz.prog):Bs W:=by
 have h1:=hL.filter (fun x=>x.1==p10)
 have e:(Rows.fnWorldLineRow.laid.filter fun x=>x.1==p10)=[(p10,Lib.tabData .u64 Lib.pow10Tab)]:=by kernel_rfl
 rw [e] at h1
 have h2:=(laidMetH_iff.1 h1).1
 have e2:([(p10,(Lib.tabData .u64 Lib.pow10Tab:DataW Unit))].filter fun x=>x.2.handleName?.isNone)=[(p10,Lib.tabData .u64 Lib.pow10Tab)]:=by kernel_rfl
 rw [e2] at h2
 have h3:Lib.TabIs Tryz.prog W p10 .u64 Lib.pow10Tab:=Lib.tabIs_of_head (g:=1) (t:=240) (e:=231) (n:=20) (by kernel_rfl) (by kernel_rfl) Tryz.underlying240 Tryz.underlying231 (by kernel_rfl) (by kernel_rfl) h2
 obtain ⟨m,hm⟩:=cell_of_shapedOpen_int (g:=0) (t:=3) (zero:= #[.int .i64 0]) (k:=.i64) hsh (of_decide_eq_true (by kernel_rfl)) (by kernel_rfl) rfl (by kernel_rfl) (by kernel_rfl) Tryz.underlying3
 have hlt:0<W.heap.size:=World.block_lt_of_cell? _ _ hm
 exact ⟨fun w' hb=>Um h3 hb,m,fun w' hb=>(hb.cell (p:=⟨0,0,none⟩) hlt).trans hm⟩
end Go.Proofs.YtjdlgannencchaaGreatDoor
