/- Texts of the claim, one behind the other: LnW, LnX, LnD, DaO, Law, LnL. -/
import Derived.ChangeSame
import Derived.ChangeMaps5
import Derived.Carry
import Derived.Lib.SmallJoins
import Derived.JoinedOf
import Derived.HandedShaped
import Derived.LaidMore
import Derived.LaidSub
import Derived.Lib.LaidTab
import Derived.Lib.ItoaMem
import Derived.Shelf.Vars
import Derived.Test.YtjdlgannencchaaGreatDoorRWorldLine5
namespace Go.Proofs.YtjdlgannencchaaGreatDoor
open Go.Lib
set_option linter.unusedVariables false
set_option linter.unusedSimpArgs false
def qF:List (List UInt8)→Option (Int×Int×Int)
 | [a,n]=>if (oo Et (bf a)).2=true∧0≤bD n then some ((oo Et (bf a)).1,bD n,0) else none
 | [a,n,m]=>if (oo Eu (bf a)).2=true∧0≤bD n∧0≤bD m then some ((oo Eu (bf a)).1,bD n,bD m) else none
 |_=>none
theorem Fw (a n:List UInt8):qF [a,n]=if (oo Et (bf a)).2=true∧0≤bD n then some ((oo Et (bf a)).1,bD n,0) else none:=rfl
theorem Kc (a n m:List UInt8):qF [a,n,m]=if (oo Eu (bf a)).2=true∧0≤bD n∧0≤bD m then some ((oo Eu (bf a)).1,bD n,bD m) else none:=rfl
theorem aaN (ws:List (List UInt8)): ∃r,dL (ws.map bf)=some r∧(match qF ws with |some d=>r=(d.1,d.2.1,d.2.2,true) |none=>r.2.2.2=false):=by
 unfold dL
 match ws with
 | []=>exact ⟨_,rfl,rfl⟩
 | [a]=>exact ⟨_,rfl,rfl⟩
 |a::b::c::d::r=>
  have h2:decide (((a::b::c::d::r).map bf).length=2)=false:=decide_eq_false (by simp)
  have h3:decide (((a::b::c::d::r).map bf).length=3)=false:=decide_eq_false (by simp)
  rw [h2,h3]
  exact ⟨_,rfl,rfl⟩
 | [a,n]=>
  have h2:decide (([a,n].map bf).length=2)=true:=rfl
  have g0:([a,n].map bf).getD 0 ByteArray.empty=bf a:=rfl
  have g1:([a,n].map bf).getD 1 ByteArray.empty=bf n:=rfl
  rw [h2,g0,g1,yW,DD]
  refine ⟨_,rfl,?_⟩
  rw [Fw]
  by_cases h:(oo Et (bf a)).2=true∧0≤bD n
  ·rw [if_pos h,h.1,decide_eq_true h.2,vR h.2];rfl
  ·rw [if_neg h]
   show ((oo Et (bf a)).2&&decide (0≤bD n))=false
   rw [Bool.eq_false_iff];intro k;rw [Bool.and_eq_true,decide_eq_true_eq] at k;exact h k
 | [a,n,m]=>
  have h2:decide (([a,n,m].map bf).length=2)=false:=rfl
  have h3:decide (([a,n,m].map bf).length=3)=true:=rfl
  have g0:([a,n,m].map bf).getD 0 ByteArray.empty=bf a:=rfl
  have g1:([a,n,m].map bf).getD 1 ByteArray.empty=bf n:=rfl
  have g2:([a,n,m].map bf).getD 2 ByteArray.empty=bf m:=rfl
  rw [h2,h3,g0,g1,g2,yW,yW,DD,DD]
  refine ⟨_,rfl,?_⟩
  rw [Kc]
  by_cases h:(oo Eu (bf a)).2=true∧0≤bD n∧0≤bD m
  ·rw [if_pos h,h.1,decide_eq_true h.2.1,decide_eq_true h.2.2,vR h.2.1,vR h.2.2];rfl
  ·rw [if_neg h]
   show ((oo Eu (bf a)).2&&decide (0≤bD n)&&decide (0≤bD m))=false
   rw [Bool.eq_false_iff];intro k;rw [Bool.and_eq_true,Bool.and_eq_true,decide_eq_true_eq,decide_eq_true_eq] at k;exact h ⟨k.1.1,k.1.2,k.2⟩
theorem GJ (a:List UInt8) (l:List UInt8):(bf a==({data:=l.toArray}:ByteArray))=(a==l):=by
 have h: ∀x y:ByteArray,(x==y)=decide (x=y):=fun x y=>by
  cases x with
  |mk a=>
  cases y with
  |mk c=>
  show (a==c)=_
  rw [Bool.eq_iff_iff,decide_eq_true_eq,beq_iff_eq,ByteArray.mk.injEq]
 rw [h,Bool.eq_iff_iff,decide_eq_true_eq,beq_iff_eq]
 constructor
 ·intro e;have:=congrArg (fun s:ByteArray=>s.data.toList) e;simpa [bf] using this
 ·rintro rfl;rfl
theorem abw (a:List UInt8):nX (bf a)=some (if (oo Et (bf a)).2=true then ((oo Et (bf a)).1,1) else if (oo Eu (bf a)).2=true then ((oo Eu (bf a)).1,2) else (-1,0)):=by
 have q: ∀l:List UInt8,((bf a).toList==({data:=l.toArray}:ByteArray).toList)=(a==l):=fun l=>by rw [kH,oV]
 have k: ∀l:List UInt8,(bf a==({data:=l.toArray}:ByteArray))=(a==l):=GJ a
 unfold nX
 have q1:=q [111,110];have q2:=q [111,102,102];have q3:=q [101,97,114,116,104];have q4:=q [99,108,101,97,114];have q5:=q [105,115,115,117,101];have q6:=q [114,101,116,117,114,110];have q7:=q [98,114,101,97,107];have q8:=q [109,101,110,100]
 have k1:=k [111,110];have k2:=k [111,102,102];have k3:=k [101,97,114,116,104];have k4:=k [99,108,101,97,114];have k5:=k [105,115,115,117,101];have k6:=k [114,101,116,117,114,110];have k7:=k [98,114,101,97,107];have k8:=k [109,101,110,100]
 simp only [Et,Eu,oo]
 erw [q1,q2,q3,q4,q5,q6,q7,q8,k1,k2,k3,k4,k5,k6,k7,k8]
 by_cases h1:a=[111,110]
 ·subst h1;rfl
 by_cases h2:a=[111,102,102]
 ·subst h2;rfl
 by_cases h3:a=[101,97,114,116,104]
 ·subst h3;rfl
 by_cases h4:a=[99,108,101,97,114]
 ·subst h4;rfl
 by_cases h5:a=[105,115,115,117,101]
 ·subst h5;rfl
 by_cases h6:a=[114,101,116,117,114,110]
 ·subst h6;rfl
 by_cases h7:a=[98,114,101,97,107]
 ·subst h7;rfl
 by_cases h8:a=[109,101,110,100]
 ·subst h8;rfl
 have n: ∀ {l:List UInt8},a≠l→(a==l)=false:=fun h=>beq_eq_false_iff_ne.2 h
 rw [n h1,n h2,n h3,n h4,n h5,n h6,n h7,n h8];rfl
theorem Xr (a:List UInt8) (h:(oo Et (bf a)).2=true):0≤(oo Et (bf a)).1∧(oo Eu (bf a)).2=false∧a≠rq∧a≠ru∧a≠rx∧a≠oe∧a≠wW∧a≠od∧a≠GD:=by
 have key: ∀l:List UInt8,(bf a==(bf l:ByteArray))=(a==l):=GJ a
 simp only [Et,oo] at h
 have k1:=GJ a [111,110];have k2:=GJ a [111,102,102];have k3:=GJ a [101,97,114,116,104];have k4:=GJ a [99,108,101,97,114];have k7:=GJ a [98,114,101,97,107]
 erw [k1,k2,k3,k4,k7] at h
 by_cases h1:a=[111,110]
 ·subst h1;refine ⟨by decide,by decide,by decide,by decide,by decide,by decide,by decide,by decide,by decide⟩
 by_cases h2:a=[111,102,102]
 ·subst h2;refine ⟨by decide,by decide,by decide,by decide,by decide,by decide,by decide,by decide,by decide⟩
 by_cases h3:a=[101,97,114,116,104]
 ·subst h3;refine ⟨by decide,by decide,by decide,by decide,by decide,by decide,by decide,by decide,by decide⟩
 by_cases h4:a=[99,108,101,97,114]
 ·subst h4;refine ⟨by decide,by decide,by decide,by decide,by decide,by decide,by decide,by decide,by decide⟩
 by_cases h7:a=[98,114,101,97,107]
 ·subst h7;refine ⟨by decide,by decide,by decide,by decide,by decide,by decide,by decide,by decide,by decide⟩
 have n: ∀ {l:List UInt8},a≠l→(a==l)=false:=fun h=>beq_eq_false_iff_ne.2 h
 rw [n h1,n h2,n h3,n h4,n h7] at h
 cases h
theorem Xs (a:List UInt8) (h:(oo Eu (bf a)).2=true):0≤(oo Eu (bf a)).1∧(oo Et (bf a)).2=false∧a≠rq∧a≠ru∧a≠rx∧a≠oe∧a≠wW∧a≠od∧a≠GD:=by
 simp only [Eu,oo] at h
 have k1:=GJ a [105,115,115,117,101];have k2:=GJ a [114,101,116,117,114,110];have k3:=GJ a [109,101,110,100]
 erw [k1,k2,k3] at h
 by_cases h1:a=[105,115,115,117,101]
 ·subst h1;refine ⟨by decide,by decide,by decide,by decide,by decide,by decide,by decide,by decide,by decide⟩
 by_cases h2:a=[114,101,116,117,114,110]
 ·subst h2;refine ⟨by decide,by decide,by decide,by decide,by decide,by decide,by decide,by decide,by decide⟩
 by_cases h3:a=[109,101,110,100]
 ·subst h3;refine ⟨by decide,by decide,by decide,by decide,by decide,by decide,by decide,by decide,by decide⟩
 have n: ∀ {l:List UInt8},a≠l→(a==l)=false:=fun h=>beq_eq_false_iff_ne.2 h
 rw [n h1,n h2,n h3] at h
 cases h
theorem SR (a:List UInt8) (r:List (List UInt8)) (hl:r.length≤1048577):kx ((a::r).map bf)=some (r.map bD,r.all fun n=>decide (0≤bD n)):=by
 unfold kx
 have hh:=aE (dt ((a::r).map bf)) (fun k=>((r.take k).map bD,(r.take k).all (fun n=>decide (0≤bD n)),((k+1:Nat):Int))) r.length (some (r.map bD,r.all fun n=>decide (0≤bD n))) (by omega) (fun k fuel hk=>by
  have hk2:k+1<((a::r).map bf).length:=by simp;omega
  have hg:((a::r).map bf).getD (k+1) ByteArray.empty=bf r[k]:=by
   rw [ai hk2];simp
  have b1: ∀x:Int,bw ((r.take k).map bD).length ([x]:List Int).length=true:=fun x=>decide_eq_true (by simp;omega)
  rw [pq,fo]
  simp only [az hk2,ah hk2,aa,cond_true,Int.toNat_natCast,hg,abC,DD,Option.bind_some,b1,Bool.or_true,af (by omega:k+1<4611686018427387904)]
  rw [List.take_succ_eq_append_getElem hk,List.map_append,List.all_append]
  cases (r.take k).all fun n=>decide (0≤bD n)
  ·rfl
  ·simp only [cv,Option.bind_some,Bool.true_and,List.all_cons,List.all_nil,Bool.and_true];rfl) (fun fuel=>by
  rw [pq,fo,List.take_length]
  have:aw ((r.length+1:Nat):Int) (((a::r).map bf).length:Int)=false:=by
   rw [List.length_map,List.length_cons];exact ak
  simp only [this,cond_false])
 rw [show dt ((a::r).map bf) aq (([]:List Int),true,1)=_ from hh];rfl
def iR (w:Wd) (l:List UInt8):Wd×List UInt8:=
 if wv w=true then
  (match qF (dI 32 l) with
  |some (kd,at_,who)=>((bN w kd at_ who).1,bif (bN w kd at_ who).2 then Yv else wNo)
  |none=>bif l==ru then (Ya w,Yv) else (w,kY w l))
 else (.zero,[])
def o8b (r:Wd×List UInt8):Int×List Ln×List (Int×Int)×List Bool×List Bool×Pm×List Int×ByteArray:=(r.1.b,r.1.ls,r.1.pts,r.1.on,r.1.earth,r.1.pm,r.1.br,bf r.2)
theorem aaU {w:Wd} (sm:Sm w) (l:List UInt8) (hl:l.length≤1048576):eJ w.b w.ls w.pts w.on w.earth w.pm w.br (bf l)=some (o8b (iR w l)):=by
 unfold eJ iR
 rw [aa3 w sm,Option.bind_some]
 cases hv:wv w with
 |false=>rfl
 |true=>
  have ok:=bW.1 hv
  have hsp:fx (bf l) ({data:= #[32]}:ByteArray)=some ((dI 32 l).map bf):=by
   unfold fx
   rw [cu,decide_eq_true (by omega),show decide (({data:= #[32]}:ByteArray)=bf [32])=true from decide_eq_true rfl,kG];rfl
  obtain ⟨r,hr,hd⟩:=aaN (dI 32 l)
  have e1:({data:= #[104,101,97,108]}:ByteArray).toList=ru:=oV ru
  rw [hsp,e1,kH]
  simp only [Option.bind_some,cond_true,if_true]
  rw [hr]
  simp only [Option.bind_some]
  cases hdp:qF (dI 32 l) with
  |some d=>
   obtain ⟨kd,a,who⟩:=d
   rw [hdp] at hd
   subst hd
   rw [Kw sm kd a who]
   simp only [cond_true,Option.bind_some,o8]
   cases (bN w kd a who).2<;>rfl
  |none=>
   rw [hdp] at hd
   simp only at hd
   rw [hd,aaY sm,Ux ok l hl]
   have hc:=ID (w:=w) sm
   simp only [cond_false,Option.bind_some]
   rw [hc]
   cases l==ru<;>rfl
theorem LX {w:Wd} {l a:List UInt8} {r:List (List UInt8)} (hc:dI 32 l=a::r) (h:r≠ []∨(a≠rx∧a≠oe∧a≠wW∧a≠od∧a≠GD)):Io w l=zK:=by
 have key: ∀x:List UInt8,32∉x→(r≠ []∨a≠x)→(l==x)=false:=by
  intro x hx h
  rw [beq_eq_false_iff_ne]
  rintro rfl
  rw [wZ 32 l hx] at hc
  injection hc with h1 h2
  rcases h with h |h
  ·exact h h2.symm
  ·exact h h1.symm
 unfold Io
 rw [key rx (by decide) (h.imp id fun k=>k.1),key oe (by decide) (h.imp id fun k=>k.2.1),key wW (by decide) (h.imp id fun k=>k.2.2.1),key od (by decide) (h.imp id fun k=>k.2.2.2.1),key GD (by decide) (h.imp id fun k=>k.2.2.2.2)]
 rfl
theorem Yw (w:Wd) (n:Int) (ok:WdOk w):aw (uD w n) 0= !(decide (0≤n)&&decide (n<(w.ls.length:Int))):=by
 unfold uD
 by_cases h:0≤n∧n<(w.ls.length:Int)
 ·rw [if_pos h,decide_eq_true h.1,decide_eq_true h.2]
  have:=IB ok n.toNat
  exact decide_eq_false (by omega)
 ·rw [if_neg h]
  have:(decide (0≤n)&&decide (n<(w.ls.length:Int)))=false:=by
   rw [Bool.eq_false_iff];simp only [ne_eq,Bool.and_eq_true,decide_eq_true_eq];exact h
  rw [this];rfl
theorem abx {w:Wd} (sm:Sm w) (l:List UInt8) (hl:l.length≤1048576):iK w.b w.ls w.pts w.on w.earth w.pm w.br (bf l)=some (o8b (iR w l)):=by
 unfold iK iR
 rw [abH w sm,Option.bind_some]
 cases hv:wv w with
 |false=>rfl
 |true=>
  have ok:=bW.1 hv
  have hcut:=acT (bf l) (by rw [cu];exact hl)
  rw [DD] at hcut
  have e1:({data:= #[104,101,97,108]}:ByteArray).toList=ru:=oV ru
  have e2:({data:= #[102,108,111,119]}:ByteArray).toList=rq:=oV rq
  have hask:=acS ok l
  have hlen:(dI 32 l).length≤1048577:=by
   rw [vI];have:=List.count_le_length (a:=(32:UInt8)) (l:=l);omega
  rw [hcut,e1,e2,hask]
  simp only [Option.bind_some,cond_true,if_true,kH]
  cases hc:dI 32 l with
  |nil=>exact absurd hc (yE 32 l)
  |cons a r=>
  rw [hc] at hlen
  have hrl:r.length≤1048577:=by simp at hlen;omega
  have hnum:=SR a r hrl
  have g0:((a::r).map bf).getD ((0:Int).toNat) ByteArray.empty=bf a:=rfl
  have hi0:aC 0 ((a::r).map bf).length=true:=decide_eq_true (by simp)
  have hres:=abD sm
  have hcp:=yo (w:=w) sm
  rw [hnum,hi0,g0,abw,hres,hcp]
  simp only [Option.bind_some,aa,kH]
  cases hh:l==ru with
  |true=>
   obtain rfl:l=ru:=by simpa using hh
   have:dI 32 ru=[ru]:=rfl
   rw [this] at hc
   injection hc with h1 h2
   subst h1;subst h2
   rfl
  |false=>
  simp only [cond_false]
  cases hf:((a==rq)&&((((r.map bD).length:Nat):Int)==1))&&r.all (fun n=>decide (0≤bD n)) with
  |true=>
   rw [Bool.and_eq_true,Bool.and_eq_true] at hf
   obtain ⟨⟨f1,f2⟩,f3⟩:=hf
   obtain rfl:a=rq:=by simpa using f1
   obtain ⟨n,rfl⟩: ∃n,r=[n]:=by
    match r,f2 with
    | [n],_=>exact ⟨n,rfl⟩
    | [],h=>simp at h
    |_::_::_,h=>rw [beq_iff_eq] at h;simp at h<;>omega
   have f3:0≤bD n:=by simpa using f3
   have hb:=Og n
   have hd:qF [rq,n]=none:=by
    rw [Fw,if_neg];intro k;exact absurd k.1 (by decide)
   have ha:kY w l=Kn w (bD n):=by unfold kY;rw [hc];rfl
   have hg:([n].map bD).getD ((0:Int).toNat) 0=bD n:=rfl
   have hi:aC 0 ([n].map bD).length=true:=rfl
   rw [hd,hi,hg,abt ok,ha]
   simp only [aa,Option.bind_some,cond_true]
   rw [Yw w _ ok,decide_eq_true f3]
   unfold Kn
   rw [if_pos f3]
   by_cases hk:bD n<(w.ls.length:Int)
   ·have hfl:=IB ok (bD n).toNat
    have hlf:uD w (bD n)=fz w.ls w.on w.pts (bD n).toNat:=by unfold uD;rw [if_pos ⟨f3,hk⟩]
    rw [decide_eq_true hk,if_pos hk,hlf,IS (by omega)];rfl
   ·rw [decide_eq_false hk,if_neg hk];rfl
  |false=>
  simp only [cond_false]
  by_cases k1:(oo Et (bf a)).2=true
  ·obtain ⟨p0,p2,p3,p4,p5,p6,p7,p8,p9⟩:=Xr a k1
   rw [if_pos k1,show aw (oo Et (bf a)).1 0=false from decide_eq_false (by omega)]
   simp only [cond_false]
   cases hn:(((r.map bD).length:Int) !=1) || !(r.all fun n=>decide (0≤bD n)) with
   |true=>
    have hd:qF (a::r)=none:=by
     match r with
     | []=>rfl
     | [n]=>
      rw [Fw,if_neg]
      intro k
      have:(([n].map bD).length:Int) !=1:=by
       rw [Bool.or_eq_true] at hn
       rcases hn with h |h
       ·exact h
       ·simp at h;omega
      simp at this
     | [n,m]=>
      rw [Kc,if_neg];intro k;rw [p2] at k;exact absurd k.1 (by simp)
     |_::_::_::_=>rfl
    have ha:kY w l=zK:=by
     have hq:=LX (w:=w) hc (.inr ⟨p5,p6,p7,p8,p9⟩)
     unfold kY
     rw [hc]
     match r with
     | []=>exact hq
     | [n]=>show (bif a==rq then _ else _)=_;rw [beq_eq_false_iff_ne.2 p3];exact hq
     |_::_::_=>exact hq
    rw [hd,ha];rfl
   |false=>
    rw [Bool.or_eq_false_iff] at hn
    obtain ⟨n1,n2⟩:=hn
    obtain ⟨n,rfl⟩: ∃n,r=[n]:=by
     match r,n1 with
     | [n],_=>exact ⟨n,rfl⟩
     | [],h=>simp at h
     |_::_::_,h=>rw [bne_eq_false_iff_eq] at h;simp at h;omega
    have n2:0≤bD n:=by simpa using n2
    have hd:qF [a,n]=some ((oo Et (bf a)).1,bD n,0):=by rw [Fw,if_pos ⟨k1,n2⟩]
    have hg:([n].map bD).getD ((0:Int).toNat) 0=bD n:=rfl
    have hi:aC 0 ([n].map bD).length=true:=rfl
    rw [hd,hi,hg,show ((1:Int)==2)=false from rfl]
    simp only [cond_false,aa,Option.bind_some]
    rw [zF sm]
    simp only [Option.bind_some,o8]
    cases (bN w (oo Et (bf a)).1 (bD n) 0).2<;>rfl
  ·rw [if_neg k1]
   by_cases k2:(oo Eu (bf a)).2=true
   ·obtain ⟨p0,p2,p3,p4,p5,p6,p7,p8,p9⟩:=Xs a k2
    rw [if_pos k2,show aw (oo Eu (bf a)).1 0=false from decide_eq_false (by omega)]
    simp only [cond_false]
    cases hn:(((r.map bD).length:Int) !=2) || !(r.all fun n=>decide (0≤bD n)) with
    |true=>
     have hd:qF (a::r)=none:=by
      match r with
      | []=>rfl
      | [n]=>
       rw [Fw,if_neg];intro k;rw [p2] at k;exact absurd k.1 (by simp)
      | [n,m]=>
       rw [Kc,if_neg]
       intro k
       rw [Bool.or_eq_true] at hn
       rcases hn with h |h
       ·simp at h
       ·simp at h;omega
      |_::_::_::_=>rfl
     have ha:kY w l=zK:=by
      have hq:=LX (w:=w) hc (.inr ⟨p5,p6,p7,p8,p9⟩)
      unfold kY
      rw [hc]
      match r with
      | []=>exact hq
      | [n]=>show (bif a==rq then _ else _)=_;rw [beq_eq_false_iff_ne.2 p3];exact hq
      |_::_::_=>exact hq
     rw [hd,ha];rfl
    |false=>
     rw [Bool.or_eq_false_iff] at hn
     obtain ⟨n1,n2⟩:=hn
     obtain ⟨n,m,rfl⟩: ∃n m,r=[n,m]:=by
      match r,n1 with
      | [n,m],_=>exact ⟨n,m,rfl⟩
      | [],h=>simp at h
      | [_],h=>simp at h
      |_::_::_::_,h=>rw [bne_eq_false_iff_eq] at h;simp at h;omega
     have n2:0≤bD n∧0≤bD m:=by simpa using n2
     have hd:qF [a,n,m]=some ((oo Eu (bf a)).1,bD n,bD m):=by rw [Kc,if_pos ⟨k2,n2.1,n2.2⟩]
     have hg:([n,m].map bD).getD ((0:Int).toNat) 0=bD n:=rfl
     have hg1:([n,m].map bD).getD ((1:Int).toNat) 0=bD m:=rfl
     have hi:aC 0 ([n,m].map bD).length=true:=rfl
     have hi1:aC 1 ([n,m].map bD).length=true:=rfl
     rw [hd,hi,hi1,hg,hg1,show ((2:Int)==2)=true from rfl]
     simp only [cond_true,cond_false,aa,Option.bind_some]
     rw [zF sm]
     simp only [Option.bind_some,o8]
     cases (bN w (oo Eu (bf a)).1 (bD n) (bD m)).2<;>rfl
   ·rw [if_neg k2,show aw (-1) 0=true from rfl]
    have hd:qF (a::r)=none:=by
     match r with
     | []=>rfl
     | [n]=>rw [Fw,if_neg];exact fun k=>k1 k.1
     | [n,m]=>rw [Kc,if_neg];exact fun k=>k2 k.1
     |_::_::_::_=>rfl
    have ha:kY w l=Io w l:=by
     unfold kY
     rw [hc]
     match r,hf with
     | [],_=>rfl
     | [n],hf=>
      show (bif a==rq then _ else _)=_
      cases hw:a==rq with
      |false=>rfl
      |true=>
       have hneg: ¬0≤bD n:=by
        intro k
        rw [hw] at hf;simp [k] at hf
       rw [cond_true]
       unfold Kn
       rw [if_neg hneg]
       exact (LX hc (.inl (by simp))).symm
     |_::_::_,_=>rfl
    rw [hd,ha];rfl
end Go.Proofs.YtjdlgannencchaaGreatDoor
namespace Go.Proofs.YtjdlgannencchaaGreatDoor
open Go.Lib
set_option linter.unusedVariables false
set_option linter.unusedSimpArgs false
theorem UJ {w:Wd} (ok:WdOk w) (l:List UInt8):WdOk (iR w l).1:=by
 unfold iR
 rw [if_pos (bW.2 ok)]
 cases qF (dI 32 l) with
 |some d=>obtain ⟨kd,a,who⟩:=d;exact ET ok kd a who
 |none=>
  cases l==ru with
  |true=>have:=abq ok;show WdOk (Ya w);rw [this.1];exact this.2
  |false=>exact ok
theorem UK {w:Wd} (sm:Sm w) (l:List UInt8):Sm (iR w l).1:=by
 unfold iR
 split
 ·cases qF (dI 32 l) with
  |some d=>obtain ⟨kd,a,who⟩:=d;exact Nj kd a who
  |none=>
   cases l==ru with
   |true=>exact SD w
   |false=>exact sm
 ·exact sm0
theorem Rs {w:Wd} (sm:Sm w) (s:ByteArray) (hs:s.size≤1048576):eJ w.b w.ls w.pts w.on w.earth w.pm w.br s=some (o8b (iR w (tl s))):=by
 have:=aaU sm (tl s) (by rw [xk];exact hs)
 rwa [show bf (tl s)=s from tg s] at this
theorem Yf {w:Wd} (sm:Sm w) (s:ByteArray) (hs:s.size≤1048576):iK w.b w.ls w.pts w.on w.earth w.pm w.br s=some (o8b (iR w (tl s))):=by
 have:=abx sm (tl s) (by rw [xk];exact hs)
 rwa [show bf (tl s)=s from tg s] at this
end Go.Proofs.YtjdlgannencchaaGreatDoor
namespace Go.Proofs.YtjdlgannencchaaGreatDoor
open Go.Lib
set_option linter.unusedVariables false
set_option linter.unusedSimpArgs false
theorem Nd (L:List ByteArray) (n:Nat) (h:(L.all fun x=>decide (x.size≤n))=true) (k:Nat):(L.getD k ByteArray.empty).size≤n:=by
 by_cases hk:k<L.length
 ·rw [ai hk];simpa using List.all_eq_true.1 h _ (List.getElem_mem hk)
 ·have:L.getD k ByteArray.empty=ByteArray.empty:=by simp [List.getD,List.getElem?_eq_none (Nat.le_of_not_lt hk)]
  rw [this];exact Nat.zero_le _
theorem OK {a c:Nat} (h:a+c≤1000):Ez a c=true:=decide_eq_true (by omega)
theorem QM {b:List Int} (hb:Code b) {p:Int} (hp:0≤p∧p≤700) {w:Wd} (hw:Sz 40 w):Ys (nU b p w.b w.ls w.pts w.on w.earth w.pm w.br) fun r=>r.1.size≤60∧(0≤r.2∧r.2≤p+6):=by
 have h1:=hw.on
 unfold nU
 refine bi (bI hb (by omega) (by omega) fun v v0 v1 _=>?_)
 have v2:=v1 (by omega)
 refine cK (decide_eq_true (by (try dsimp only);simp only [List.length_cons,List.length_nil];omega)) ?_
 dsimp only
 generalize hs:List.getD (α:=ByteArray) _ v.toNat _=s
 have hz:s.size≤20:=hs▸Nd _ 20 rfl _
 refine cK (OK (show s.size+1≤1000 by omega)) ?_
 rw [wM (n:=(w.on.length:Int)+1) (by omega)]
 refine bi (bI hb (by (try dsimp only);omega) (by omega) fun v' v0' v1' _=>?_)
 have v2':=v1' (by omega)
 refine bi (OR (IS (n:=v') (by omega)) ?_)
 have hn:=vy (n:=v') (by omega)
 have z1:(s++({data:= #[32]}:ByteArray)).size=s.size+1:=by rw [ByteArray.size_append];rfl
 have z2:((s++({data:= #[32]}:ByteArray))++bf (vC v')).size≤30:=by rw [ByteArray.size_append,z1,cu];omega
 refine cK (OK (by rw [z1,cu];omega)) ?_
 refine cN (Q:=fun r=>r.1.size≤60∧(0≤r.2∧r.2≤p+4)) ?_ fun r hr=>?_
 ·refine iP (fun _=>?_) (fun _=>bd ⟨by (try dsimp only);omega,by (try dsimp only);omega⟩)
  generalize (s++({data:= #[32]}:ByteArray))++bf (vC v')=t at z2
  refine cK (OK (show t.size+1≤1000 by omega)) ?_
  refine bi (bI hb (by (try dsimp only);omega) (by omega) fun u u0 u1 _=>?_)
  have u2:=u1 (by omega)
  have hu:=vy (n:=u) (by omega)
  have z3:(t++({data:= #[32]}:ByteArray)).size=t.size+1:=by rw [ByteArray.size_append];rfl
  refine bi (OR (IS (n:=u) (by omega)) ?_)
  refine cK (OK (by rw [z3,cu];omega)) (bd ⟨?_,by (try dsimp only);omega⟩)
  show ((t++({data:= #[32]}:ByteArray))++bf (vC u)).size≤60
  rw [ByteArray.size_append,z3,cu];omega
 ·obtain ⟨r1,r2⟩:=hr
  refine bi (bI hb (by (try dsimp only);omega) (by omega) fun u u0 u1 _=>?_)
  refine iP (fun _=>?_) (fun _=>iP (fun _=>?_) (fun _=>bd ⟨r1,by (try dsimp only);omega⟩))
  ·refine bi (bI hb (by (try dsimp only);omega) (by omega) fun q q0 q1 _=>?_)
   have q2:=q1 (by omega)
   exact cK (decide_eq_true (by (try dsimp only);simp only [List.length_cons,List.length_nil];omega)) (bd ⟨Nat.le_trans (Nd _ 20 rfl _) (by decide),by (try dsimp only);omega⟩)
  ·refine bi (bI hb (by (try dsimp only);omega) (by omega) fun q q0 q1 _=>?_)
   have q2:=q1 (by omega)
   exact cK (decide_eq_true (by (try dsimp only);simp only [List.length_cons,List.length_nil];omega)) (bd ⟨Nat.le_trans (Nd _ 20 rfl _) (by decide),by (try dsimp only);omega⟩)
theorem aaz {x0:List Int} (h1: ∀z∈x0,TD z): ∃(w:Wd) (s:ByteArray),dj x0=some (w.b,w.ls,w.pts,w.on,w.earth,w.pm,w.br,s)∧Sz 40 w∧s.size≤60:=by
 have:Ys (dj x0) fun r=>Sz 40 ⟨r.1,r.2.1,r.2.2.1,r.2.2.2.1,r.2.2.2.2.1,r.2.2.2.2.2.1,r.2.2.2.2.2.2.1⟩∧r.2.2.2.2.2.2.2.size≤60:=by
  unfold dj
  refine cN (OV (JV h1) (by omega)) fun r hr=>?_
  exact cN (QM (w:=⟨r.1,r.2.1,r.2.2.1,r.2.2.2.1,r.2.2.2.2.1,r.2.2.2.2.2.1,r.2.2.2.2.2.2.1⟩) (JV h1) (by omega) hr.1) fun d hd=>bd ⟨hr.1,hd.1⟩
 obtain ⟨r,e,h,hl⟩:=this
 exact ⟨_,r.2.2.2.2.2.2.2,e,h,hl⟩
theorem RR {w:Wd} (ok:WdOk w) (l:List UInt8):(iR w l).2=Yv∨(iR w l).1=w:=by
 unfold iR
 rw [if_pos (bW.2 ok)]
 cases qF (dI 32 l) with
 |some d=>
  obtain ⟨kd,a,who⟩:=d
  cases h:(bN w kd a who).2 with
  |true=>left;simp [h]
  |false=>right;exact If ok h
 |none=>
  cases l==ru with
  |true=>left;rfl
  |false=>right;rfl
theorem Mz {w:Wd} (ok:WdOk w):iR w [32]=(w,zK):=by
 have hc:dI 32 [32]=[[],[]]:=rfl
 have hd:qF [[],[]]=none:=by rw [Fw,if_neg];intro k;exact absurd k.1 (by decide)
 unfold iR
 rw [if_pos (bW.2 ok),hc,hd]
 have ha:kY w [32]=zK:=by unfold kY;rw [hc];rfl
 rw [ha];rfl
theorem RQ {w:Wd} (h:wv w=false) (l:List UInt8):iR w l=(.zero,[]):=by unfold iR;rw [h];rfl
theorem Df (x0:List Int) (h0:x0.length≤maxLen) (h1: ∀z∈x0,TD z):jg x0=some true:=by
 unfold jg
 rcases Bool.eq_false_or_eq_true (aw 1048576 (x0.length:Int)) with h |h<;>rw [h]
 ·rfl
 obtain ⟨w,s,e,hz,hsz⟩:=aaz h1
 have hs:=hz.sm
 have i1:=Rs hs s (by omega)
 have s1:=Yf hs s (by omega)
 have i2:=Rs hs ({data:= #[32]}:ByteArray) (by decide)
 have hsm:=UK hs (tl s)
 have k1:wv w=true→WdOk (iR w (tl s)).1:=fun hv=>UJ (bW.1 hv) (tl s)
 have k2:wv w=true→((iR w (tl s)).2=Yv∨(iR w (tl s)).1=w):=fun hv=>RR (bW.1 hv) (tl s)
 have k3:wv w=false→iR w (tl s)=(.zero,[]):=fun hv=>RQ hv (tl s)
 have hb:tl ({data:= #[32]}:ByteArray)=[32]:=rfl
 rw [hb] at i2
 have sx:=uI (iR w (tl s)).1 (iR w (tl s)).1 hsm
 have sw:=uI (iR w (tl s)).1 w hsm
 have ww:=uI w w hs
 rw [LJ.2 rfl] at sx ww
 have hv2:=aa3 (iR w (tl s)).1 hsm
 generalize iR w (tl s)=r at*
 obtain ⟨x,a⟩:=r
 dsimp only [o8b] at*
 rw [e]
 simp only [cond_false,Option.bind_some,i1,s1,sx,abH w hs,beq_self_eq_true,Bool.not_true,Bool.or_self]
 cases hv:wv w with
 |false=>
  obtain ⟨rfl,rfl⟩:=Prod.mk.inj (k3 hv)
  simp [Wd.zero,gb,Qr,bf]
 |true=>
  have ok:=bW.1 hv
  rw [Mz ok] at i2
  have e1:({data:= #[111,107]}:ByteArray).toList=Yv:=oV Yv
  have e2:({data:= #[119,104,97,116]}:ByteArray).toList=zK:=oV zK
  simp only [cond_true,i2,Option.bind_some,hv2,bW.2 (k1 hv),ww,sw,e1,e2,kH,beq_self_eq_true]
  rcases k2 hv with h |h
  ·rw [h];simp [gb]
  ·rw [h,LJ.2 rfl];cases a==Yv<;>simp [gb]
end Go.Proofs.YtjdlgannencchaaGreatDoor
namespace Go.Proofs.YtjdlgannencchaaGreatDoor
open Go.ChangeShapes Go.WideShapes Go.ChangeAt Go.RowKit Go.Deep
set_option linter.unusedVariables false
set_option linter.unusedSimpArgs false
set_option maxRecDepth 100000
section
variable {H:Type} {enc:TypeId×Value→H} {w:World} {base:Nat} {spare:Nat→Bool} {held:Bool}
theorem tr5 {fuel:Nat} {cs:List Value} {x:DataW H×List MemPlace} (h:DataW.trod enc Tryz.prog w base spare held fuel 5 cs=some x):
 ∃(y0:Int),cs=[.int .u8 y0]∧TD y0:=by
 obtain ⟨n,rfl,_,hw⟩:=DataW.trod_int Tryz.underlying5 h
 exact ⟨n,rfl,Qf hw⟩
theorem acY {fuel:Nat} {cs:List Value} {x:DataW H×List MemPlace} (h:DataW.trod enc Tryz.prog w base spare held fuel 22 cs=some x):
 ∃(A0:Option Addr) (y0:List Int) (k0:Nat),cs=[.slice A0 y0.length k0]∧Rc w 1 A0 y0.length k0 (y0.flatMap eU)∧y0.length≤maxLen∧(∀z∈y0,TD z):=by
 obtain ⟨A,l,cap,e1,e2,e3,e4⟩:=Pu (fun b: {y:Int // TD y}=>eU b.1) (size:=1) (fun b=>WM b.1) (by decide) Tryz.underlying22 (by kernel_rfl) (fun fuel cs x hx=>by
  obtain ⟨z0,rfl,g0⟩:=tr5 hx
  exact ⟨⟨z0,g0⟩,rfl⟩) h
 refine ⟨A,l.map (·.1),cap,by simpa using e1,⟨by simpa [List.flatMap_map] using e2,by simpa using e3⟩,by simpa using Nat.le_trans e3 e4,fun z hz=>?_⟩
 obtain ⟨q,_,rfl⟩:=List.mem_map.1 hz
 exact q.2
theorem acR {r:Reach} {b0:Nat} {v:Value} {d:DataW H} {p:List MemPlace} (hval:Value.okWide Tryz.prog w r b0 22 v) (h:DataW.Trod enc Tryz.prog w base spare held 22 v d p):
 ∃(A0:Option Addr) (y0:List Int) (k0:Nat),v= .slice A0 y0.length k0∧Rc w 1 A0 y0.length k0 (y0.flatMap eU)∧y0.length≤maxLen∧(∀z∈y0,TD z):=by
 obtain ⟨A',n',k',rfl⟩:=okWide_slice Tryz.underlying22 hval
 obtain ⟨fuel,hf⟩:=h
 obtain ⟨A0,y0,k0,e,w0,w1,w2⟩:=acY hf
 simp [Value.cells] at e
 exact ⟨A0,y0,k0,by simp [e],w0,w1,w2⟩
end
end Go.Proofs.YtjdlgannencchaaGreatDoor
namespace Go.Proofs.YtjdlgannencchaaGreatDoor
open Go.ChangeShapes Go.WideShapes Go.ChangeAt Go.RowKit
set_option linter.unusedVariables false
theorem own:ownKnob Tryz.prog.godebug=none:=by kernel_rfl
theorem UF:laidOutB Tryz.prog=true:=by kernel_rfl
section
variable {H:Type} {enc:TypeId×Value→H} {P:Program}
theorem xT (hl:laidOutB P=true) {W W':World} (hb:Below W.heap.size W W'): ∀ {ts:List TypeId} {vs:List Value} {ds:List (DataW H)} {ps:List MemPlace},
 (ts.all fun t=>P.readableRec t&&decide (t<P.types.size))=true→DataW.TrodAll enc P W 0 (fun _=>true) true ts vs ds ps→(∀x∈ps,x.block<W.heap.size)→
 DataW.TrodAll enc P W' 0 (fun b=>decide (b<W.heap.size)) true ts vs ds ps
 | [],[],[],_,_,h,_=>h
 |t::ts,v::vs,d::ds,ps,ht,h,hlt=>by
  obtain ⟨p,q,h1,h2,rfl⟩:=h
  simp only [List.all_cons,Bool.and_eq_true,decide_eq_true_eq] at ht
  exact ⟨p,q,Below.trod hl ht.1.1 ht.1.2 h1 hb (fun x hx=>hlt x (by simp [hx])),xT hl hb (by simpa using ht.2) h2 (fun x hx=>hlt x (by simp [hx])),rfl⟩
theorem RM {f:Func} {s:ChangeSpec} {W W':World} {args:Array Value} {ds gs:List (DataW H)} {before:List MemPlace} {tb:TypeId} (hl:laidOutB P=true)
 (hW:DataW.Whole enc P f.params.toList s.vars false W args.toList ds gs before)
 (hts:(f.params.toList.all fun t=>P.readableRec t&&decide (t<P.types.size))=true) (hvs:s.vars=[]) (hrt:f.resultTypes= #[tb]) (hub:P.underlying tb=some .bool)
 (hfn:s.fn H (ds++ [])= {results:=[.lit (.bool true)],args:=ds}) (hb:Below W.heap.size W W'):
 s.post enc P f false true false false W args (.bool true) W':=by
 have hW':=hW
 obtain ⟨p,q,hA,hV,rfl,hfz,hnd⟩:=hW
 rw [hvs] at hV
 obtain ⟨rfl,rfl⟩:=trodVars_none hV
 refine ⟨ds,[],p++ [],[],p,[],hW',?_,?_,?_,hb.frame _,fun h=>by cases h⟩
 ·rw [hfn,hrt]
  exact trodAll_cons_mk (shut_bool hub _) trodAll_mk0
 ·rw [hfn]
  exact xT hl hb hts hA (fun x hx=>hW'.lt x (by simp [hx]))
 ·rw [hfn,hvs]
  rfl
end
theorem Ey {H:Type} {enc:TypeId×Value→H} {a:Assume} {C:Checked} {os:Os} {f:FuncId} {fn:Func} {s:ChangeSpec} {conds:List PathCond} {apart fresh handsOn again:Bool} {X:World→Array Value→Prop}
 (hX: ∀(w w':World) (args:Array Value),w.heap=w'.heap→X w args→X w' args)
 (ho:ownKnob C.prog.godebug=none) (started:os.Started) (noInit:C.prog.inits.idxOf? f=none) (hfn:C.prog.funcs[f]?=some fn)
 (witness: ∃(w:World) (tape:Tape) (i:Input),w.os=os∧(w.forCall tape i).Shaped C.prog∧i.vars=[]∧Input.okWide C.prog (w.forCall tape i) .any w.heap.size f i∧
  ((s.pre enc C.prog fn conds apart (w.forCall tape i).memory i.args∧X (w.forCall tape i).memory i.args)∧sizedMet enc C.prog fn (OpenSpec.ofChange s) apart (w.forCall tape i).memory i.args)∧a.holds C.prog (lone (Frame.enter C.prog f i.args .normal) [] (w.forCall tape i)))
 (contract: ∀(W:World) (base:Nat) (args:Array Value) (ds gs:List (DataW H)) (before:List MemPlace),
  (∀(j:Nat) t v,fn.params[j]?=some t→args[j]?=some v→Value.okWide C.prog W .any base t v)→
  DataW.Whole enc C.prog fn.params.toList s.vars apart W args.toList ds gs before→X W args→W.ShapedOpen C.prog→
  Calls C.prog f args W fun e W'=> ∃v,e= .returned v∧s.post enc C.prog fn apart fresh handsOn again W args v W'):
 ReturnsInHanded a C os f .any (fun w args=>(s.pre enc C.prog fn conds apart w args∧X w args)∧sizedMet enc C.prog fn (OpenSpec.ofChange s) apart w args) (s.post enc C.prog fn apart fresh handsOn again):=by
 refine returnsInHanded_of_calls ho started noInit witness ?_
 intro w tape i _ hsh _ hok hpre _
 obtain ⟨_,_,_,fn',hfn',_,_,_,_,hval⟩:=hok
 obtain rfl:fn'=fn:=Option.some.inj (hfn'.symm.trans hfn)
 obtain ⟨⟨⟨ds,gs,before,hw,hc⟩,hx⟩,hz⟩:=hpre
 have hw':=DataW.Whole.of_heap (w':=w.forCall tape i) (by rfl) hw
 refine (contract (w.forCall tape i) w.heap.size i.args ds gs before hval hw' (hX _ _ _ (by rfl) hx) hsh).mono fun e W' ⟨v,he,hp⟩=>?_
 subst he
 exact ChangeSpec.post_blind hp
theorem Qb {P:Program} {w w':World} {name:String} {k:IntKind} {zs:List Int} (h:Lib.TabIs P w name k zs) (hb:Below w.heap.size w w'):Lib.TabIs P w' name k zs:=by
 unfold Lib.TabIs World.var? at*
 cases hg:P.globalNamed name with
 |none=>simp [hg] at h
 |some g=>
  simp only [hg,Option.bind_some] at h ⊢
  have hlt:g<w.heap.size:=by
   rcases Nat.lt_or_ge g w.heap.size with h' |h'
   ·exact h'
   ·rw [Array.getElem?_eq_none h'] at h;simp at h
  rw [hb.block g hlt]
  exact h
theorem YH {W:World} (hL:laidMetH Tryz.prog Rows.fnWorldLineRow.laid W) (hsh:W.ShapedOpen Tryz.prog):Bs W:=by
 have h1:=hL.filter (fun x=>x.1==XJ)
 have e:(Rows.fnWorldLineRow.laid.filter fun x=>x.1==XJ)=[(XJ,Lib.tabData .u64 Lib.pow10Tab)]:=by kernel_rfl
 rw [e] at h1
 have h2:=(laidMetH_iff.1 h1).1
 have e2:([(XJ,(Lib.tabData .u64 Lib.pow10Tab:DataW Unit))].filter fun x=>x.2.handleName?.isNone)=[(XJ,Lib.tabData .u64 Lib.pow10Tab)]:=by kernel_rfl
 rw [e2] at h2
 have h3:Lib.TabIs Tryz.prog W XJ .u64 Lib.pow10Tab:=Lib.tabIs_of_head (g:=1) (t:=240) (e:=231) (n:=20) (by kernel_rfl) (by kernel_rfl) Tryz.underlying240 Tryz.underlying231 (by kernel_rfl) (by kernel_rfl) h2
 obtain ⟨m,hm⟩:=cell_of_shapedOpen_int (g:=0) (t:=3) (zero:= #[.int .i64 0]) (k:=.i64) hsh (of_decide_eq_true (by kernel_rfl)) (by kernel_rfl) rfl (by kernel_rfl) (by kernel_rfl) Tryz.underlying3
 have hlt:0<W.heap.size:=World.block_lt_of_cell? _ _ hm
 exact ⟨fun w' hb=>Qb h3 hb,m,fun w' hb=>(hb.cell (p:=⟨0,0,none⟩) hlt).trans hm⟩
end Go.Proofs.YtjdlgannencchaaGreatDoor
