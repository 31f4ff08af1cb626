/- Texts of the claim, one behind the other: LnW, LnX, LnD, DaO, Law, LnL. -/
import Derived.ChangeSame
import Derived.ChangeMaps5
import Derived.Carry
import Derived.Lib.SmallJoins
import Derived.JoinedOf
import Derived.HandedShaped
import Derived.LaidMore
import Derived.LaidSub
import Derived.Lib.LaidTab
import Derived.Lib.ItoaMem
import Derived.Shelf.Vars
import Derived.Test.YtjdlgannencchaaGreatDoorRWorldLines5
namespace Go.Proofs.YtjdlgannencchaaGreatDoor
open Go.Lib
set_option linter.unusedVariables false
set_option linter.unusedSimpArgs false
def ss:List (List UInt8)→Option (Int×Int×Int)
 | [a,n]=>if (oP Ff (ba a)).2=true∧0≤bD n then some ((oP Ff (ba a)).1,bD n,0) else none
 | [a,n,m]=>if (oP Fg (ba a)).2=true∧0≤bD n∧0≤bD m then some ((oP Fg (ba a)).1,bD n,bD m) else none
 |_=>none
theorem Io (a n:List UInt8):ss [a,n]=if (oP Ff (ba a)).2=true∧0≤bD n then some ((oP Ff (ba a)).1,bD n,0) else none:=rfl
theorem KS (a n m:List UInt8):ss [a,n,m]=if (oP Fg (ba a)).2=true∧0≤bD n∧0≤bD m then some ((oP Fg (ba a)).1,bD n,bD m) else none:=rfl
theorem aby (ws:List (List UInt8)): ∃r,dT (ws.map ba)=some r∧(match ss ws with |some d=>r=(d.1,d.2.1,d.2.2,true) |none=>r.2.2.2=false):=by
 unfold dT
 match ws with
 | []=>exact ⟨_,rfl,rfl⟩
 | [a]=>exact ⟨_,rfl,rfl⟩
 |a::b::c::d::r=>
  have h2:decide (((a::b::c::d::r).map ba).length=2)=false:=decide_eq_false (by simp)
  have h3:decide (((a::b::c::d::r).map ba).length=3)=false:=decide_eq_false (by simp)
  rw [h2,h3]
  exact ⟨_,rfl,rfl⟩
 | [a,n]=>
  have h2:decide (([a,n].map ba).length=2)=true:=rfl
  have g0:([a,n].map ba).getD 0 ByteArray.empty=ba a:=rfl
  have g1:([a,n].map ba).getD 1 ByteArray.empty=ba n:=rfl
  rw [h2,g0,g1,zJ,xG]
  refine ⟨_,rfl,?_⟩
  rw [Io]
  by_cases h:(oP Ff (ba a)).2=true∧0≤bD n
  ·rw [if_pos h,h.1,decide_eq_true h.2,wH h.2];rfl
  ·rw [if_neg h]
   show ((oP Ff (ba a)).2&&decide (0≤bD n))=false
   rw [Bool.eq_false_iff];intro k;rw [Bool.and_eq_true,decide_eq_true_eq] at k;exact h k
 | [a,n,m]=>
  have h2:decide (([a,n,m].map ba).length=2)=false:=rfl
  have h3:decide (([a,n,m].map ba).length=3)=true:=rfl
  have g0:([a,n,m].map ba).getD 0 ByteArray.empty=ba a:=rfl
  have g1:([a,n,m].map ba).getD 1 ByteArray.empty=ba n:=rfl
  have g2:([a,n,m].map ba).getD 2 ByteArray.empty=ba m:=rfl
  rw [h2,h3,g0,g1,g2,zJ,zJ,xG,xG]
  refine ⟨_,rfl,?_⟩
  rw [KS]
  by_cases h:(oP Fg (ba a)).2=true∧0≤bD n∧0≤bD m
  ·rw [if_pos h,h.1,decide_eq_true h.2.1,decide_eq_true h.2.2,wH h.2.1,wH h.2.2];rfl
  ·rw [if_neg h]
   show ((oP Fg (ba a)).2&&decide (0≤bD n)&&decide (0≤bD m))=false
   rw [Bool.eq_false_iff];intro k;rw [Bool.and_eq_true,Bool.and_eq_true,decide_eq_true_eq,decide_eq_true_eq] at k;exact h ⟨k.1.1,k.1.2,k.2⟩
theorem Hy (a:List UInt8) (l:List UInt8):(ba a==({data:=l.toArray}:ByteArray))=(a==l):=by
 have h: ∀x y:ByteArray,(x==y)=decide (x=y):=fun x y=>by
  cases x with
  |mk a=>
  cases y with
  |mk c=>
  show (a==c)=_
  rw [Bool.eq_iff_iff,decide_eq_true_eq,beq_iff_eq,ByteArray.mk.injEq]
 rw [h,Bool.eq_iff_iff,decide_eq_true_eq,beq_iff_eq]
 constructor
 ·intro e;have:=congrArg (fun s:ByteArray=>s.data.toList) e;simpa [ba] using this
 ·rintro rfl;rfl
theorem aci (a:List UInt8):oC (ba a)=some (if (oP Ff (ba a)).2=true then ((oP Ff (ba a)).1,1) else if (oP Fg (ba a)).2=true then ((oP Fg (ba a)).1,2) else (-1,0)):=by
 have q: ∀l:List UInt8,((ba a).toList==({data:=l.toArray}:ByteArray).toList)=(a==l):=fun l=>by rw [mn,qi]
 have k: ∀l:List UInt8,(ba a==({data:=l.toArray}:ByteArray))=(a==l):=Hy a
 unfold oC
 have q1:=q [111,110];have q2:=q [111,102,102];have q3:=q [101,97,114,116,104];have q4:=q [99,108,101,97,114];have q5:=q [105,115,115,117,101];have q6:=q [114,101,116,117,114,110];have q7:=q [98,114,101,97,107];have q8:=q [109,101,110,100]
 have k1:=k [111,110];have k2:=k [111,102,102];have k3:=k [101,97,114,116,104];have k4:=k [99,108,101,97,114];have k5:=k [105,115,115,117,101];have k6:=k [114,101,116,117,114,110];have k7:=k [98,114,101,97,107];have k8:=k [109,101,110,100]
 simp only [Ff,Fg,oP]
 erw [q1,q2,q3,q4,q5,q6,q7,q8,k1,k2,k3,k4,k5,k6,k7,k8]
 by_cases h1:a=[111,110]
 ·subst h1;rfl
 by_cases h2:a=[111,102,102]
 ·subst h2;rfl
 by_cases h3:a=[101,97,114,116,104]
 ·subst h3;rfl
 by_cases h4:a=[99,108,101,97,114]
 ·subst h4;rfl
 by_cases h5:a=[105,115,115,117,101]
 ·subst h5;rfl
 by_cases h6:a=[114,101,116,117,114,110]
 ·subst h6;rfl
 by_cases h7:a=[98,114,101,97,107]
 ·subst h7;rfl
 by_cases h8:a=[109,101,110,100]
 ·subst h8;rfl
 have n: ∀ {l:List UInt8},a≠l→(a==l)=false:=fun h=>beq_eq_false_iff_ne.2 h
 rw [n h1,n h2,n h3,n h4,n h5,n h6,n h7,n h8];rfl
theorem Ym (a:List UInt8) (h:(oP Ff (ba a)).2=true):0≤(oP Ff (ba a)).1∧(oP Fg (ba a)).2=false∧a≠qS∧a≠rW∧a≠qh∧a≠mV∧a≠wg∧a≠mU∧a≠Fl:=by
 have key: ∀l:List UInt8,(ba a==(ba l:ByteArray))=(a==l):=Hy a
 simp only [Ff,oP] at h
 have k1:=Hy a [111,110];have k2:=Hy a [111,102,102];have k3:=Hy a [101,97,114,116,104];have k4:=Hy a [99,108,101,97,114];have k7:=Hy a [98,114,101,97,107]
 erw [k1,k2,k3,k4,k7] at h
 by_cases h1:a=[111,110]
 ·subst h1;refine ⟨by decide,by decide,by decide,by decide,by decide,by decide,by decide,by decide,by decide⟩
 by_cases h2:a=[111,102,102]
 ·subst h2;refine ⟨by decide,by decide,by decide,by decide,by decide,by decide,by decide,by decide,by decide⟩
 by_cases h3:a=[101,97,114,116,104]
 ·subst h3;refine ⟨by decide,by decide,by decide,by decide,by decide,by decide,by decide,by decide,by decide⟩
 by_cases h4:a=[99,108,101,97,114]
 ·subst h4;refine ⟨by decide,by decide,by decide,by decide,by decide,by decide,by decide,by decide,by decide⟩
 by_cases h7:a=[98,114,101,97,107]
 ·subst h7;refine ⟨by decide,by decide,by decide,by decide,by decide,by decide,by decide,by decide,by decide⟩
 have n: ∀ {l:List UInt8},a≠l→(a==l)=false:=fun h=>beq_eq_false_iff_ne.2 h
 rw [n h1,n h2,n h3,n h4,n h7] at h
 cases h
theorem Yn (a:List UInt8) (h:(oP Fg (ba a)).2=true):0≤(oP Fg (ba a)).1∧(oP Ff (ba a)).2=false∧a≠qS∧a≠rW∧a≠qh∧a≠mV∧a≠wg∧a≠mU∧a≠Fl:=by
 simp only [Fg,oP] at h
 have k1:=Hy a [105,115,115,117,101];have k2:=Hy a [114,101,116,117,114,110];have k3:=Hy a [109,101,110,100]
 erw [k1,k2,k3] at h
 by_cases h1:a=[105,115,115,117,101]
 ·subst h1;refine ⟨by decide,by decide,by decide,by decide,by decide,by decide,by decide,by decide,by decide⟩
 by_cases h2:a=[114,101,116,117,114,110]
 ·subst h2;refine ⟨by decide,by decide,by decide,by decide,by decide,by decide,by decide,by decide,by decide⟩
 by_cases h3:a=[109,101,110,100]
 ·subst h3;refine ⟨by decide,by decide,by decide,by decide,by decide,by decide,by decide,by decide,by decide⟩
 have n: ∀ {l:List UInt8},a≠l→(a==l)=false:=fun h=>beq_eq_false_iff_ne.2 h
 rw [n h1,n h2,n h3] at h
 cases h
theorem TN (a:List UInt8) (r:List (List UInt8)) (hl:r.length≤1048577):kQ ((a::r).map ba)=some (r.map bD,r.all fun n=>decide (0≤bD n)):=by
 unfold kQ
 have hh:=aC (dG ((a::r).map ba)) (fun k=>((r.take k).map bD,(r.take k).all (fun n=>decide (0≤bD n)),((k+1:Nat):Int))) r.length (some (r.map bD,r.all fun n=>decide (0≤bD n))) (by omega) (fun k fuel hk=>by
  have hk2:k+1<((a::r).map ba).length:=by simp;omega
  have hg:((a::r).map ba).getD (k+1) ByteArray.empty=ba r[k]:=by
   rw [ai hk2];simp
  have b1: ∀x:Int,bw ((r.take k).map bD).length ([x]:List Int).length=true:=fun x=>decide_eq_true (by simp;omega)
  rw [pQ,fF]
  simp only [az hk2,ah hk2,aa,cond_true,Int.toNat_natCast,hg,aco,xG,Option.bind_some,b1,Bool.or_true,af (by omega:k+1<4611686018427387904)]
  rw [List.take_succ_eq_append_getElem hk,List.map_append,List.all_append]
  cases (r.take k).all fun n=>decide (0≤bD n)
  ·rfl
  ·simp only [cw,Option.bind_some,Bool.true_and,List.all_cons,List.all_nil,Bool.and_true];rfl) (fun fuel=>by
  rw [pQ,fF,List.take_length]
  have:av ((r.length+1:Nat):Int) (((a::r).map ba).length:Int)=false:=by
   rw [List.length_map,List.length_cons];exact ak
  simp only [this,cond_false])
 rw [show dG ((a::r).map ba) aq (([]:List Int),true,1)=_ from hh];rfl
def pT (w:Wd) (l:List UInt8):Wd×List UInt8:=
 if wv w=true then
  (match ss (dZ 32 l) with
  |some (kd,at_,who)=>((bO w kd at_ who).1,bif (bO w kd at_ who).2 then wOk else wNo)
  |none=>bif l==rW then (YX w,wOk) else (w,lH w l))
 else (.zero,[])
def o8b (r:Wd×List UInt8):Int×List Ln×List (Int×Int)×List Bool×List Bool×Pm×List Int×ByteArray:=(r.1.b,r.1.ls,r.1.pts,r.1.on,r.1.earth,r.1.pm,r.1.br,ba r.2)
theorem abF {w:Wd} (sm:Sm w) (l:List UInt8) (hl:l.length≤1048576):iT w.b w.ls w.pts w.on w.earth w.pm w.br (ba l)=some (o8b (pT w l)):=by
 unfold iT pT
 rw [abO w sm,Option.bind_some]
 cases hv:wv w with
 |false=>rfl
 |true=>
  have ok:=cC.1 hv
  have hsp:fN (ba l) ({data:= #[32]}:ByteArray)=some ((dZ 32 l).map ba):=by
   unfold fN
   rw [cE,decide_eq_true (by omega),show decide (({data:= #[32]}:ByteArray)=ba [32])=true from decide_eq_true rfl,kY];rfl
  obtain ⟨r,hr,hd⟩:=aby (dZ 32 l)
  have e1:({data:= #[104,101,97,108]}:ByteArray).toList=rW:=qi rW
  rw [hsp,e1,mn]
  simp only [Option.bind_some,cond_true,if_true]
  rw [hr]
  simp only [Option.bind_some]
  cases hdp:ss (dZ 32 l) with
  |some d=>
   obtain ⟨kd,a,who⟩:=d
   rw [hdp] at hd
   subst hd
   rw [Lo sm kd a who]
   simp only [cond_true,Option.bind_some,o8]
   cases (bO w kd a who).2<;>rfl
  |none=>
   rw [hdp] at hd
   simp only at hd
   rw [hd,abJ sm,Vs ok l hl]
   have hc:=Fq (w:=w) sm
   simp only [cond_false,Option.bind_some]
   rw [hc]
   cases l==rW<;>rfl
theorem MN {w:Wd} {l a:List UInt8} {r:List (List UInt8)} (hc:dZ 32 l=a::r) (h:r≠ []∨(a≠qh∧a≠mV∧a≠wg∧a≠mU∧a≠Fl)):FO w l=Hs:=by
 have key: ∀x:List UInt8,32∉x→(r≠ []∨a≠x)→(l==x)=false:=by
  intro x hx h
  rw [beq_eq_false_iff_ne]
  rintro rfl
  rw [xK 32 l hx] at hc
  injection hc with h1 h2
  rcases h with h |h
  ·exact h h2.symm
  ·exact h h1.symm
 unfold FO
 rw [key qh (by decide) (h.imp id fun k=>k.1),key mV (by decide) (h.imp id fun k=>k.2.1),key wg (by decide) (h.imp id fun k=>k.2.2.1),key mU (by decide) (h.imp id fun k=>k.2.2.2.1),key Fl (by decide) (h.imp id fun k=>k.2.2.2.2)]
 rfl
theorem Zt (w:Wd) (n:Int) (ok:WdOk w):av (vj w n) 0= !(decide (0≤n)&&decide (n<(w.ls.length:Int))):=by
 unfold vj
 by_cases h:0≤n∧n<(w.ls.length:Int)
 ·rw [if_pos h,decide_eq_true h.1,decide_eq_true h.2]
  have:=Js ok n.toNat
  exact decide_eq_false (by omega)
 ·rw [if_neg h]
  have:(decide (0≤n)&&decide (n<(w.ls.length:Int)))=false:=by
   rw [Bool.eq_false_iff];simp only [ne_eq,Bool.and_eq_true,decide_eq_true_eq];exact h
  rw [this];rfl
theorem acj {w:Wd} (sm:Sm w) (l:List UInt8) (hl:l.length≤1048576):je w.b w.ls w.pts w.on w.earth w.pm w.br (ba l)=some (o8b (pT w l)):=by
 unfold je pT
 rw [Zh w sm,Option.bind_some]
 cases hv:wv w with
 |false=>rfl
 |true=>
  have ok:=cC.1 hv
  have hcut:=adG (ba l) (by rw [cE];exact hl)
  rw [xG] at hcut
  have e1:({data:= #[104,101,97,108]}:ByteArray).toList=rW:=qi rW
  have e2:({data:= #[102,108,111,119]}:ByteArray).toList=qS:=qi qS
  have hask:=adF ok l
  have hlen:(dZ 32 l).length≤1048577:=by
   rw [wz];have:=List.count_le_length (a:=(32:UInt8)) (l:=l);omega
  rw [hcut,e1,e2,hask]
  simp only [Option.bind_some,cond_true,if_true,mn]
  cases hc:dZ 32 l with
  |nil=>exact absurd hc (zj 32 l)
  |cons a r=>
  rw [hc] at hlen
  have hrl:r.length≤1048577:=by simp at hlen;omega
  have hnum:=TN a r hrl
  have g0:((a::r).map ba).getD ((0:Int).toNat) ByteArray.empty=ba a:=rfl
  have hi0:aB 0 ((a::r).map ba).length=true:=decide_eq_true (by simp)
  have hres:=acp sm
  have hcp:=xz (w:=w) sm
  rw [hnum,hi0,g0,aci,hres,hcp]
  simp only [Option.bind_some,aa,mn]
  cases hh:l==rW with
  |true=>
   obtain rfl:l=rW:=by simpa using hh
   have:dZ 32 rW=[rW]:=rfl
   rw [this] at hc
   injection hc with h1 h2
   subst h1;subst h2
   rfl
  |false=>
  simp only [cond_false]
  cases hf:((a==qS)&&((((r.map bD).length:Nat):Int)==1))&&r.all (fun n=>decide (0≤bD n)) with
  |true=>
   rw [Bool.and_eq_true,Bool.and_eq_true] at hf
   obtain ⟨⟨f1,f2⟩,f3⟩:=hf
   obtain rfl:a=qS:=by simpa using f1
   obtain ⟨n,rfl⟩: ∃n,r=[n]:=by
    match r,f2 with
    | [n],_=>exact ⟨n,rfl⟩
    | [],h=>simp at h
    |_::_::_,h=>rw [beq_iff_eq] at h;simp at h<;>omega
   have f3:0≤bD n:=by simpa using f3
   have hb:=Pe n
   have hd:ss [qS,n]=none:=by
    rw [Io,if_neg];intro k;exact absurd k.1 (by decide)
   have ha:lH w l=Gq w (bD n):=by unfold lH;rw [hc];rfl
   have hg:([n].map bD).getD ((0:Int).toNat) 0=bD n:=rfl
   have hi:aB 0 ([n].map bD).length=true:=rfl
   rw [hd,hi,hg,acf ok,ha]
   simp only [aa,Option.bind_some,cond_true]
   rw [Zt w _ ok,decide_eq_true f3]
   unfold Gq
   rw [if_pos f3]
   by_cases hk:bD n<(w.ls.length:Int)
   ·have hfl:=Js ok (bD n).toNat
    have hlf:vj w (bD n)=fO w.ls w.on w.pts (bD n).toNat:=by unfold vj;rw [if_pos ⟨f3,hk⟩]
    rw [decide_eq_true hk,if_pos hk,hlf,JH (by omega)];rfl
   ·rw [decide_eq_false hk,if_neg hk];rfl
  |false=>
  simp only [cond_false]
  by_cases k1:(oP Ff (ba a)).2=true
  ·obtain ⟨p0,p2,p3,p4,p5,p6,p7,p8,p9⟩:=Ym a k1
   rw [if_pos k1,show av (oP Ff (ba a)).1 0=false from decide_eq_false (by omega)]
   simp only [cond_false]
   cases hn:(((r.map bD).length:Int) !=1) || !(r.all fun n=>decide (0≤bD n)) with
   |true=>
    have hd:ss (a::r)=none:=by
     match r with
     | []=>rfl
     | [n]=>
      rw [Io,if_neg]
      intro k
      have:(([n].map bD).length:Int) !=1:=by
       rw [Bool.or_eq_true] at hn
       rcases hn with h |h
       ·exact h
       ·simp at h;omega
      simp at this
     | [n,m]=>
      rw [KS,if_neg];intro k;rw [p2] at k;exact absurd k.1 (by simp)
     |_::_::_::_=>rfl
    have ha:lH w l=Hs:=by
     have hq:=MN (w:=w) hc (.inr ⟨p5,p6,p7,p8,p9⟩)
     unfold lH
     rw [hc]
     match r with
     | []=>exact hq
     | [n]=>show (bif a==qS then _ else _)=_;rw [beq_eq_false_iff_ne.2 p3];exact hq
     |_::_::_=>exact hq
    rw [hd,ha];rfl
   |false=>
    rw [Bool.or_eq_false_iff] at hn
    obtain ⟨n1,n2⟩:=hn
    obtain ⟨n,rfl⟩: ∃n,r=[n]:=by
     match r,n1 with
     | [n],_=>exact ⟨n,rfl⟩
     | [],h=>simp at h
     |_::_::_,h=>rw [bne_eq_false_iff_eq] at h;simp at h;omega
    have n2:0≤bD n:=by simpa using n2
    have hd:ss [a,n]=some ((oP Ff (ba a)).1,bD n,0):=by rw [Io,if_pos ⟨k1,n2⟩]
    have hg:([n].map bD).getD ((0:Int).toNat) 0=bD n:=rfl
    have hi:aB 0 ([n].map bD).length=true:=rfl
    rw [hd,hi,hg,show ((1:Int)==2)=false from rfl]
    simp only [cond_false,aa,Option.bind_some]
    rw [Dj sm]
    simp only [Option.bind_some,o8]
    cases (bO w (oP Ff (ba a)).1 (bD n) 0).2<;>rfl
  ·rw [if_neg k1]
   by_cases k2:(oP Fg (ba a)).2=true
   ·obtain ⟨p0,p2,p3,p4,p5,p6,p7,p8,p9⟩:=Yn a k2
    rw [if_pos k2,show av (oP Fg (ba a)).1 0=false from decide_eq_false (by omega)]
    simp only [cond_false]
    cases hn:(((r.map bD).length:Int) !=2) || !(r.all fun n=>decide (0≤bD n)) with
    |true=>
     have hd:ss (a::r)=none:=by
      match r with
      | []=>rfl
      | [n]=>
       rw [Io,if_neg];intro k;rw [p2] at k;exact absurd k.1 (by simp)
      | [n,m]=>
       rw [KS,if_neg]
       intro k
       rw [Bool.or_eq_true] at hn
       rcases hn with h |h
       ·simp at h
       ·simp at h;omega
      |_::_::_::_=>rfl
     have ha:lH w l=Hs:=by
      have hq:=MN (w:=w) hc (.inr ⟨p5,p6,p7,p8,p9⟩)
      unfold lH
      rw [hc]
      match r with
      | []=>exact hq
      | [n]=>show (bif a==qS then _ else _)=_;rw [beq_eq_false_iff_ne.2 p3];exact hq
      |_::_::_=>exact hq
     rw [hd,ha];rfl
    |false=>
     rw [Bool.or_eq_false_iff] at hn
     obtain ⟨n1,n2⟩:=hn
     obtain ⟨n,m,rfl⟩: ∃n m,r=[n,m]:=by
      match r,n1 with
      | [n,m],_=>exact ⟨n,m,rfl⟩
      | [],h=>simp at h
      | [_],h=>simp at h
      |_::_::_::_,h=>rw [bne_eq_false_iff_eq] at h;simp at h;omega
     have n2:0≤bD n∧0≤bD m:=by simpa using n2
     have hd:ss [a,n,m]=some ((oP Fg (ba a)).1,bD n,bD m):=by rw [KS,if_pos ⟨k2,n2.1,n2.2⟩]
     have hg:([n,m].map bD).getD ((0:Int).toNat) 0=bD n:=rfl
     have hg1:([n,m].map bD).getD ((1:Int).toNat) 0=bD m:=rfl
     have hi:aB 0 ([n,m].map bD).length=true:=rfl
     have hi1:aB 1 ([n,m].map bD).length=true:=rfl
     rw [hd,hi,hi1,hg,hg1,show ((2:Int)==2)=true from rfl]
     simp only [cond_true,cond_false,aa,Option.bind_some]
     rw [Dj sm]
     simp only [Option.bind_some,o8]
     cases (bO w (oP Fg (ba a)).1 (bD n) (bD m)).2<;>rfl
   ·rw [if_neg k2,show av (-1) 0=true from rfl]
    have hd:ss (a::r)=none:=by
     match r with
     | []=>rfl
     | [n]=>rw [Io,if_neg];exact fun k=>k1 k.1
     | [n,m]=>rw [KS,if_neg];exact fun k=>k2 k.1
     |_::_::_::_=>rfl
    have ha:lH w l=FO w l:=by
     unfold lH
     rw [hc]
     match r,hf with
     | [],_=>rfl
     | [n],hf=>
      show (bif a==qS then _ else _)=_
      cases hw:a==qS with
      |false=>rfl
      |true=>
       have hneg: ¬0≤bD n:=by
        intro k
        rw [hw] at hf;simp [k] at hf
       rw [cond_true]
       unfold Gq
       rw [if_neg hneg]
       exact (MN hc (.inl (by simp))).symm
     |_::_::_,_=>rfl
    rw [hd,ha];rfl
end Go.Proofs.YtjdlgannencchaaGreatDoor
namespace Go.Proofs.YtjdlgannencchaaGreatDoor
open Go.Lib
set_option linter.unusedVariables false
set_option linter.unusedSimpArgs false
theorem OW {w:Wd} (ok:WdOk w) (l:List UInt8):WdOk (pT w l).1:=by
 unfold pT
 rw [if_pos (cC.2 ok)]
 cases ss (dZ 32 l) with
 |some d=>obtain ⟨kd,a,who⟩:=d;exact FI ok kd a who
 |none=>
  cases l==rW with
  |true=>have:=acb ok;show WdOk (YX w);rw [this.1];exact this.2
  |false=>exact ok
theorem VE {w:Wd} (sm:Sm w) (l:List UInt8):Sm (pT w l).1:=by
 unfold pT
 split
 ·cases ss (dZ 32 l) with
  |some d=>obtain ⟨kd,a,who⟩:=d;exact Ob kd a who
  |none=>
   cases l==rW with
   |true=>exact Tw w
   |false=>exact sm
 ·exact sm0
theorem XZ {w:Wd} (sm:Sm w) (s:ByteArray) (hs:s.size≤1048576):iT w.b w.ls w.pts w.on w.earth w.pm w.br s=some (o8b (pT w (tl s))):=by
 have:=abF sm (tl s) (by rw [vy];exact hs)
 rwa [show ba (tl s)=s from re s] at this
theorem Zc {w:Wd} (sm:Sm w) (s:ByteArray) (hs:s.size≤1048576):je w.b w.ls w.pts w.on w.earth w.pm w.br s=some (o8b (pT w (tl s))):=by
 have:=acj sm (tl s) (by rw [vy];exact hs)
 rwa [show ba (tl s)=s from re s] at this
def aJ:Wd→List ByteArray→Wd×List ByteArray
 |w,[]=>(w,[])
 |w,s::r=>((aJ (pT w (tl s)).1 r).1,ba (pT w (tl s)).2::(aJ (pT w (tl s)).1 r).2)
theorem yO: ∀(a b:List ByteArray) (w:Wd),aJ w (a++b)=((aJ (aJ w a).1 b).1,(aJ w a).2++(aJ (aJ w a).1 b).2)
 | [],b,w=>rfl
 |s::r,b,w=>by rw [List.cons_append,aJ,yO r b];rfl
theorem nc: ∀(a:List ByteArray) (w:Wd),(aJ w a).2.length=a.length
 | [],w=>rfl
 |s::r,w=>by rw [aJ];simp [nc r]
theorem IF: ∀(a:List ByteArray) {w:Wd},WdOk w→WdOk (aJ w a).1
 | [],w,h=>h
 |s::r,w,h=>IF r (OW h (tl s))
theorem xP: ∀(a:List ByteArray) {w:Wd},Sm w→Sm (aJ w a).1
 | [],w,h=>h
 |s::r,w,h=>xP r (VE h (tl s))
theorem EE (a:List ByteArray) (s:ByteArray) (w:Wd):aJ w (a++ [s])=((pT (aJ w a).1 (tl s)).1,(aJ w a).2++ [ba (pT (aJ w a).1 (tl s)).2]):=by
 rw [yO];rfl
def bS (w:Wd) (ls:List ByteArray):Wd×List ByteArray:=if wv w=true∧ls.length≤40 then aJ w ls else (.zero,[])
def yS (r:Wd×List ByteArray):Int×List Ln×List (Int×Int)×List Bool×List Bool×Pm×List Int×List ByteArray:=(r.1.b,r.1.ls,r.1.pts,r.1.on,r.1.earth,r.1.pm,r.1.br,r.2)
theorem Nk {w:Wd} (sm:Sm w) (ls:List ByteArray) (hs: ∀s∈ls,s.size≤1048576):cJ w.b w.ls w.pts w.on w.earth w.pm w.br ls=some (yS (bS w ls)):=by
 unfold cJ bS
 rw [abO w sm,Option.bind_some]
 by_cases hv:wv w=true∧ls.length≤40
 ·rw [if_pos hv,hv.1,show av 40 (ls.length:Int)=false from decide_eq_false (by omega),Fq (w:=w) sm]
  have hmk:yk (ls.length:Int)=true:=decide_eq_true (by omega)
  have hh:=aC (dp ls) (fun k=>((aJ w (ls.take k)).2++List.replicate (ls.length-k) ByteArray.empty,(k:Int),o7 (aJ w (ls.take k)).1)) ls.length (some ((aJ w ls).2,o7 (aJ w ls).1)) (by omega) (fun k fuel hk=>by
   have hl:=nc (ls.take k) w
   have hlk:(ls.take k).length=k:=by simp;omega
   have hline:=XZ (xP (ls.take k) sm) ls[k] (hs _ (List.getElem_mem hk))
   have hset: ∀x:ByteArray,((aJ w (ls.take k)).2++List.replicate (ls.length-k) ByteArray.empty).set k x=((aJ w (ls.take k)).2++ [x])++List.replicate (ls.length-(k+1)) ByteArray.empty:=fun x=>by
    rw [List.set_append_right _ _ (by omega),hl,hlk,Nat.sub_self,show ls.length-k=(ls.length-(k+1))+1 by omega,List.replicate_succ,List.set_cons_zero];simp
   rw [pD,fm]
   simp only [az hk,ah hk,aa,cond_true,Int.toNat_natCast,af (by omega:k<4611686018427387904),ai hk]
   dsimp only [o7]
   rw [hline]
   simp only [Option.bind_some,aa]
   rw [List.take_succ_eq_append_getElem hk,EE,←hset]
   rfl) (fun fuel=>by
   rw [pD,fm,List.take_length];simp only [ak,cond_false,Nat.sub_self,List.replicate_zero,List.append_nil])
  simp only [Bool.not_true,Bool.false_or,cond_false,Option.bind_some,hmk,aa]
  rw [show dp ls aq (List.replicate ls.length ByteArray.empty,0,(o7 w).1,(o7 w).2.1,(o7 w).2.2.1,(o7 w).2.2.2.1,(o7 w).2.2.2.2.1,(o7 w).2.2.2.2.2.1,(o7 w).2.2.2.2.2.2)=_ from hh]
  rfl
 ·rw [if_neg hv]
  have:(!wv w ||av 40 (ls.length:Int))=true:=by
   cases h:wv w
   ·rfl
   ·rw [Bool.not_true,Bool.false_or];exact decide_eq_true (by have: ¬ls.length≤40:=fun k=>hv ⟨h,k⟩
                                                              omega)
  rw [this];rfl
theorem Zd {w:Wd} (sm:Sm w) (ls:List ByteArray) (hs: ∀s∈ls,s.size≤1048576):kP w.b w.ls w.pts w.on w.earth w.pm w.br ls=some (yS (bS w ls)):=by
 unfold kP bS
 rw [Zh w sm,Option.bind_some]
 by_cases hv:wv w=true∧ls.length≤40
 ·rw [if_pos hv,hv.1,show av 40 (ls.length:Int)=false from decide_eq_false (by omega),xz (w:=w) sm]
  have hh:=aC (dE ls) (fun k=>((aJ w (ls.take k)).2,(k:Int),o7 (aJ w (ls.take k)).1)) ls.length (some ((aJ w ls).2,o7 (aJ w ls).1)) (by omega) (fun k fuel hk=>by
   have hl:=nc (ls.take k) w
   have hlk:(ls.take k).length=k:=by simp;omega
   have hline:=Zc (xP (ls.take k) sm) ls[k] (hs _ (List.getElem_mem hk))
   have ha: ∀x:ByteArray,bw (aJ w (ls.take k)).2.length ([x]:List ByteArray).length=true:=fun x=>decide_eq_true (by simp;omega)
   rw [pO,fD]
   simp only [az hk,ah hk,aa,cond_true,Int.toNat_natCast,af (by omega:k<4611686018427387904),ai hk]
   dsimp only [o7]
   rw [hline]
   simp only [Option.bind_some,ha,aa]
   rw [List.take_succ_eq_append_getElem hk,EE]
   rfl) (fun fuel=>by
   rw [pO,fD,List.take_length];simp only [ak,cond_false])
  simp only [Bool.not_true,Bool.false_or,cond_false,Option.bind_some]
  rw [show dE ls aq (([]:List ByteArray),0,(o7 w).1,(o7 w).2.1,(o7 w).2.2.1,(o7 w).2.2.2.1,(o7 w).2.2.2.2.1,(o7 w).2.2.2.2.2.1,(o7 w).2.2.2.2.2.2)=_ from hh]
  rfl
 ·rw [if_neg hv]
  have:(!wv w ||av 40 (ls.length:Int))=true:=by
   cases h:wv w
   ·rfl
   ·rw [Bool.not_true,Bool.false_or];exact decide_eq_true (by have: ¬ls.length≤40:=fun k=>hv ⟨h,k⟩
                                                              omega)
  rw [this];rfl
theorem IG {w:Wd} (sm:Sm w) (ls:List ByteArray):Sm (bS w ls).1:=by
 unfold bS;split
 ·exact xP ls sm
 ·exact sm0
theorem Nq (w:Wd) (ls:List ByteArray):(bS w ls).2.length≤40:=by
 unfold bS;split
 ·rename_i h;rw [nc];exact h.2
 ·simp
theorem PS {w:Wd} (ok:WdOk w) (l:List UInt8):(pT w l).2≠ []:=by
 have hst:tl (tN w.on)≠ []:=by
  have h0:1≤w.on.length:=ok.work.l0;have h10:w.on.length≤10:=ok.work.l1
  intro e
  have h1:=vy (tN w.on)
  rw [e] at h1
  unfold tN at h1
  rw [if_pos h10,IV] at h1
  simp at h1;omega
 have hnet:Ns w.b w.ls≠ []:=by
  unfold Ns Nt
  rw [if_pos (uK.2 ok.bus.net),xo (by have:=ok.bus.net.b0;omega)]
  intro e;exact Gk _ (List.append_eq_nil_iff.1 e).1
 have hask:FO w l≠ []:=by
  unfold FO
  cases l==qh
  ·cases l==mV
   ·cases l==wg
    ·cases l==mU
     ·cases l==Fl
      ·simp [Hs]
      ·exact hnet
     ·exact Ly _
    ·exact Ly _
   ·exact Gk _
  ·exact hst
 have hans:lH w l≠ []:=by
  unfold lH
  split
  ·rename_i a n _
   cases a==qS
   ·exact hask
   ·show Gq w (bD n)≠ []
    unfold Gq
    split
    ·split
     ·exact Gk _
     ·simp [wNo]
    ·simp [Hs]
  ·exact hask
 unfold pT
 rw [if_pos (cC.2 ok)]
 cases ss (dZ 32 l) with
 |some d=>obtain ⟨kd,a,who⟩:=d;cases h:(bO w kd a who).2<;>simp [wOk,wNo,h]
 |none=>
  cases l==rW with
  |true=>simp [wOk]
  |false=>exact hans
theorem IE: ∀(a:List ByteArray) {w:Wd},WdOk w→ ∀s∈(aJ w a).2,s≠ba []
 | [],w,h=>by simp [aJ]
 |s::r,w,h=>by
  intro t ht
  rw [aJ] at ht
  rcases List.mem_cons.1 ht with rfl |ht
  ·intro e
   have:=congrArg tl e
   rw [xG,xG] at this
   exact PS h (tl s) this
  ·exact IE r (OW h (tl s)) t ht
end Go.Proofs.YtjdlgannencchaaGreatDoor
namespace Go.Proofs.YtjdlgannencchaaGreatDoor
open Go.Lib
set_option linter.unusedVariables false
set_option linter.unusedSimpArgs false
theorem NW (L:List ByteArray) (n:Nat) (h:(L.all fun x=>decide (x.size≤n))=true) (k:Nat):(L.getD k ByteArray.empty).size≤n:=by
 by_cases hk:k<L.length
 ·rw [ai hk];simpa using List.all_eq_true.1 h _ (List.getElem_mem hk)
 ·have:L.getD k ByteArray.empty=ByteArray.empty:=by simp [List.getD,List.getElem?_eq_none (Nat.le_of_not_lt hk)]
  rw [this];exact Nat.zero_le _
theorem PG {a c:Nat} (h:a+c≤1000):Fk a c=true:=decide_eq_true (by omega)
theorem RM {b:List Int} (hb:Code b) {p:Int} (hp:0≤p∧p≤700) {w:Wd} (hw:Sz 40 w):Ys (oz b p w.b w.ls w.pts w.on w.earth w.pm w.br) fun r=>r.1.size≤60∧(0≤r.2∧r.2≤p+6):=by
 have h1:=hw.on
 unfold oz
 refine bh (bI hb (by omega) (by omega) fun v v0 v1 _=>?_)
 have v2:=v1 (by omega)
 refine cD (decide_eq_true (by (try dsimp only);simp only [List.length_cons,List.length_nil];omega)) ?_
 dsimp only
 generalize hs:List.getD (α:=ByteArray) _ v.toNat _=s
 have hz:s.size≤20:=hs▸NW _ 20 rfl _
 refine cD (PG (show s.size+1≤1000 by omega)) ?_
 rw [wM (n:=(w.on.length:Int)+1) (by omega)]
 refine bh (bI hb (by (try dsimp only);omega) (by omega) fun v' v0' v1' _=>?_)
 have v2':=v1' (by omega)
 refine bh (PR (JH (n:=v') (by omega)) ?_)
 have hn:=wb (n:=v') (by omega)
 have z1:(s++({data:= #[32]}:ByteArray)).size=s.size+1:=by rw [ByteArray.size_append];rfl
 have z2:((s++({data:= #[32]}:ByteArray))++ba (wm v')).size≤30:=by rw [ByteArray.size_append,z1,cE];omega
 refine cD (PG (by rw [z1,cE];omega)) ?_
 refine cz (Q:=fun r=>r.1.size≤60∧(0≤r.2∧r.2≤p+4)) ?_ fun r hr=>?_
 ·refine fL (fun _=>?_) (fun _=>aV ⟨by (try dsimp only);omega,by (try dsimp only);omega⟩)
  generalize (s++({data:= #[32]}:ByteArray))++ba (wm v')=t at z2
  refine cD (PG (show t.size+1≤1000 by omega)) ?_
  refine bh (bI hb (by (try dsimp only);omega) (by omega) fun u u0 u1 _=>?_)
  have u2:=u1 (by omega)
  have hu:=wb (n:=u) (by omega)
  have z3:(t++({data:= #[32]}:ByteArray)).size=t.size+1:=by rw [ByteArray.size_append];rfl
  refine bh (PR (JH (n:=u) (by omega)) ?_)
  refine cD (PG (by rw [z3,cE];omega)) (aV ⟨?_,by (try dsimp only);omega⟩)
  show ((t++({data:= #[32]}:ByteArray))++ba (wm u)).size≤60
  rw [ByteArray.size_append,z3,cE];omega
 ·obtain ⟨r1,r2⟩:=hr
  refine bh (bI hb (by (try dsimp only);omega) (by omega) fun u u0 u1 _=>?_)
  refine fL (fun _=>?_) (fun _=>fL (fun _=>?_) (fun _=>aV ⟨r1,by (try dsimp only);omega⟩))
  ·refine bh (bI hb (by (try dsimp only);omega) (by omega) fun q q0 q1 _=>?_)
   have q2:=q1 (by omega)
   exact cD (decide_eq_true (by (try dsimp only);simp only [List.length_cons,List.length_nil];omega)) (aV ⟨Nat.le_trans (NW _ 20 rfl _) (by decide),by (try dsimp only);omega⟩)
  ·refine bh (bI hb (by (try dsimp only);omega) (by omega) fun q q0 q1 _=>?_)
   have q2:=q1 (by omega)
   exact cD (decide_eq_true (by (try dsimp only);simp only [List.length_cons,List.length_nil];omega)) (aV ⟨Nat.le_trans (NW _ 20 rfl _) (by decide),by (try dsimp only);omega⟩)
theorem Yq {x0:List Int} (h1: ∀z∈x0,SE z) {n p q:Int} (hn:0≤n∧n≤9) (hp:0≤p∧p≤500) {w:Wd} (hw:Sz 40 w):
 Ys (ce x0 (w.b,w.ls,w.pts,w.on,w.earth,w.pm,w.br,q) aq ([],n,p)) fun r=>(r.1.length≤9∧ ∀s∈r.1,s.size≤60)∧(0≤r.2∧r.2≤p+60):=by
 refine Dr (ce x0 (w.b,w.ls,w.pts,w.on,w.earth,w.pm,w.br,q)) (fun s=>s.2.1.toNat) (fun s=>(0≤s.2.1∧s.2.1≤9)∧(s.1.length+s.2.1≤9∧ ∀t∈s.1,t.size≤60)∧(0≤s.2.2∧s.2.2+6*s.2.1≤p+60)) (fun fuel s hs ih=>?_) aq _ ⟨hn,⟨by simp;omega,by simp⟩,by (try dsimp only);omega⟩ (by (try dsimp only);rw [qT];omega)
 obtain ⟨l,k,r⟩:=s
 dsimp only at hs ih ⊢
 obtain ⟨g1,⟨g2,g4⟩,g3⟩:=hs
 rw [tE,fI]
 dsimp only
 refine fL (fun hc=>?_) (fun hc=>?_)
 ·have hc:=zS hc
  refine cz (RM (w:=w) (zi h1) (by omega) hw) fun d hd=>?_
  refine cD (by simp [bw];omega) ?_
  rw [wM (n:=k-1) (by omega)]
  refine ih _ ⟨by (try dsimp only);omega,⟨by simp;omega,fun t ht=>?_⟩,by (try dsimp only);omega⟩ (by (try dsimp only);omega)
  rcases List.mem_append.1 ht with ht |ht
  ·exact g4 t ht
  ·rw [List.mem_singleton.1 ht];exact hd.1
 ·exact aV ⟨⟨by (try dsimp only);omega,g4⟩,by (try dsimp only);omega⟩
theorem XD {x0:List Int} (h1: ∀z∈x0,SE z): ∃(w:Wd) (l:List ByteArray),cX x0=some (w.b,w.ls,w.pts,w.on,w.earth,w.pm,w.br,l)∧Sz 40 w∧l.length≤41∧ ∀s∈l,s.size≤60:=by
 have:Ys (cX x0) fun r=>Sz 40 ⟨r.1,r.2.1,r.2.2.1,r.2.2.2.1,r.2.2.2.2.1,r.2.2.2.2.2.1,r.2.2.2.2.2.2.1⟩∧r.2.2.2.2.2.2.2.length≤41∧ ∀s∈r.2.2.2.2.2.2.2,s.size≤60:=by
  unfold cX
  refine cz (PX (zi h1) (by omega)) fun r hr=>?_
  refine bh (bI (zi h1) (by omega) (by omega) fun v v0 v1 _=>?_)
  have v2:=v1 (by omega)
  refine cz (Yq (w:=⟨r.1,r.2.1,r.2.2.1,r.2.2.2.1,r.2.2.2.2.1,r.2.2.2.2.2.1,r.2.2.2.2.2.2.1⟩) (q:=r.2.2.2.2.2.2.2) h1 (by (try dsimp only);omega) (by (try dsimp only);omega) hr.1) fun s hs=>?_
  refine bh (Ut (zi h1) (by omega) (by omega) fun o=>?_)
  refine cz (Q:=fun q=>q.length≤41∧ ∀s∈q,s.size≤60) ?_ fun q hq=>aV ⟨hr.1,hq⟩
  refine fL (fun _=>cD rfl (aV ⟨by simp,fun s hs=>?_⟩)) (fun _=>aV ⟨by have:=hs.1.1;omega,hs.1.2⟩)
  rw [(List.mem_replicate.1 hs).2];decide
 obtain ⟨r,e,h,hl⟩:=this
 exact ⟨_,r.2.2.2.2.2.2.2,e,h,hl⟩
theorem Kh (a:List ByteArray) (hn:a.length≤1048576):eW a a=some true:=by
 unfold eW
 have h:=aC (em a a) (fun k=>(k:Int)) a.length (some (.inl ())) (by omega) (fun k fuel hk=>by
  rw [qw,gx]
  simp only [az hk,ah hk,aa,cond_true,Int.toNat_natCast,af (by omega:k<4611686018427387904),beq_self_eq_true]) (fun fuel=>by
  rw [qw,gx];simp only [ak,cond_false])
 simp only [bne_self_eq_false,cond_false]
 rw [show em a a aq 0=_ from h];rfl
theorem Rp (r:Wd×List ByteArray) (hl:r.2.length≤1000) (h: ∀s∈r.2,s≠ba []):cK (yS r) aq 0=some (.inl ()):=by
 refine aC (cK (yS r)) (fun k=>(k:Int)) r.2.length (some (.inl ())) (by omega) (fun k fuel hk=>?_) (fun fuel=>?_)
 ·rw [nH,dQ]
  dsimp only [yS]
  have hne:((r.2.getD k ByteArray.empty).toList==({data:= #[]}:ByteArray).toList)=false:=by
   rw [beq_eq_false_iff_ne]
   intro he
   refine h _ (List.getElem_mem hk) ?_
   rw [←ai (d:=ByteArray.empty) hk]
   have:tl (r.2.getD k ByteArray.empty)=[]:=by rw [←PN,he];exact qi []
   rw [←re (r.2.getD k ByteArray.empty)]
   exact congrArg ba this
  simp only [az hk,ah hk,aa,cond_true,Int.toNat_natCast,af (by omega:k<4611686018427387904),hne,cond_false]
 ·rw [nH,dQ];dsimp only [yS];simp only [ak,cond_false]
theorem zE (x0:List Int) (h0:x0.length≤maxLen) (h1: ∀z∈x0,SE z):iD x0=some true:=by
 unfold iD
 rcases Bool.eq_false_or_eq_true (av 1048576 (x0.length:Int)) with h |h<;>rw [h]
 ·rfl
 obtain ⟨w,l,e,hz,hl,hsz⟩:=XD h1
 have hs:=hz.sm
 have hsz: ∀s∈l,s.size≤1048576:=fun s h=>Nat.le_trans (hsz s h) (by decide)
 have i1:=Nk hs l hsz
 have s1:=Zd hs l hsz
 have hsm:=IG hs l
 have hpl:=Nq w l
 have sx:=Ki (bS w l).1 (bS w l).1 hsm
 rw [Ur.2 rfl] at sx
 have st:=Kh (bS w l).2 (by omega)
 have hh:ax ((l.length:Int).tdiv 2)=((l.length / 2:Nat):Int):=by
  rw [wM (by have:=Wu (x:=(l.length:Int)) (k:=2) (n:=50) (by omega) (by omega) (by omega);omega)];rfl
 have sA:=Ua l (l.length / 2)
 have sB:=TZ l (l.length / 2)
 have b1:vq 0 ((l.length / 2:Nat):Int) l.length=true:=decide_eq_true (by omega)
 have b2:vq ((l.length / 2:Nat):Int) (l.length:Int) l.length=true:=decide_eq_true (by omega)
 have iA:=Nk hs (l.take (l.length / 2)) (fun s h=>hsz s (List.mem_of_mem_take h))
 have hA:=IG hs (l.take (l.length / 2))
 have iB:=Nk hA (l.drop (l.length / 2)) (fun s h=>hsz s (List.mem_of_mem_drop h))
 rw [e]
 simp only [cond_false,Option.bind_some,i1,s1]
 rw [show eX (yS (bS w l)).1 (yS (bS w l)).2.1 (yS (bS w l)).2.2.1 (yS (bS w l)).2.2.2.1 (yS (bS w l)).2.2.2.2.1 (yS (bS w l)).2.2.2.2.2.1 (yS (bS w l)).2.2.2.2.2.2.1 (yS (bS w l)).1 (yS (bS w l)).2.1 (yS (bS w l)).2.2.1 (yS (bS w l)).2.2.2.1 (yS (bS w l)).2.2.2.2.1 (yS (bS w l)).2.2.2.2.2.1 (yS (bS w l)).2.2.2.2.2.2.1=_ from sx]
 simp only [decide_true,Option.bind_some,Bool.not_true,Bool.not_false,cw]
 rw [show eW (yS (bS w l)).2.2.2.2.2.2.2 (yS (bS w l)).2.2.2.2.2.2.2=_ from st]
 simp only [Option.bind_some,Bool.not_true,Bool.or_self,cond_false,Zh w hs]
 by_cases hv:wv w=true∧l.length≤40
 ·have hc:av 40 (l.length:Int)=false:=decide_eq_false (by omega)
  have ok:=cC.1 hv.1
  have okA:WdOk (aJ w (l.take (l.length / 2))).1:=IF _ ok
  have p1:bS w l=aJ w l:=by unfold bS;rw [if_pos hv]
  have p2:bS w (l.take (l.length / 2))=aJ w (l.take (l.length / 2)):=by unfold bS;rw [if_pos ⟨hv.1,by simp;omega⟩]
  have p3:bS (aJ w (l.take (l.length / 2))).1 (l.drop (l.length / 2))=aJ (aJ w (l.take (l.length / 2))).1 (l.drop (l.length / 2)):=by unfold bS;rw [if_pos ⟨cC.2 okA,by simp;omega⟩]
  have happ:=yO (l.take (l.length / 2)) (l.drop (l.length / 2)) w
  rw [List.take_append_drop] at happ
  rw [p2] at iA iB
  rw [p3] at iB
  have la:=nc (l.take (l.length / 2)) w
  have lb:=nc (l.drop (l.length / 2)) (aJ w (l.take (l.length / 2))).1
  have lw:=nc l w
  rw [List.length_take] at la
  rw [List.length_drop] at lb
  rw [p1] at sx st ⊢
  have hfull:=Rp (aJ w l) (by omega) (IE l ok)
  rw [hv.1,hc]
  simp only [Bool.not_true,Bool.or_self,cond_false,hh,b1,b2,sA,sB,aa,iA,Option.bind_some]
  rw [show cJ (yS (aJ w (l.take (l.length / 2)))).1 (yS (aJ w (l.take (l.length / 2)))).2.1 (yS (aJ w (l.take (l.length / 2)))).2.2.1 (yS (aJ w (l.take (l.length / 2)))).2.2.2.1 (yS (aJ w (l.take (l.length / 2)))).2.2.2.2.1 (yS (aJ w (l.take (l.length / 2)))).2.2.2.2.2.1 (yS (aJ w (l.take (l.length / 2)))).2.2.2.2.2.2.1 (l.drop (l.length / 2))=_ from iB,hfull]
  simp only [Option.bind_some,Sum.elim_inl]
  have e1:(aJ (aJ w (l.take (l.length / 2))).1 (l.drop (l.length / 2))).1=(aJ w l).1:=by rw [happ]
  have e2:([]++(aJ w (l.take (l.length / 2))).2)++(aJ (aJ w (l.take (l.length / 2))).1 (l.drop (l.length / 2))).2=(aJ w l).2:=by rw [happ];rfl
  have a1:bw ([]:List ByteArray).length (aJ w (l.take (l.length / 2))).2.length=true:=decide_eq_true (by simp;omega)
  have a2:bw (([]:List ByteArray)++(aJ w (l.take (l.length / 2))).2).length (aJ (aJ w (l.take (l.length / 2))).1 (l.drop (l.length / 2))).2.length=true:=decide_eq_true (by simp;omega)
  dsimp only [yS]
  rw [e1,sx,a1,a2,e2,st,lw]
  simp
 ·have hp:bS w l=(.zero,[]):=by unfold bS;rw [if_neg hv]
  have hc:(!wv w ||av 40 (l.length:Int))=true:=by
   cases hw:wv w
   ·rfl
   ·rw [Bool.not_true,Bool.false_or]
    exact decide_eq_true (by have: ¬l.length≤40:=fun k=>hv ⟨hw,k⟩
                             omega)
  rw [hc,hp]
  simp [yS,Wd.zero,gb,Ro]
end Go.Proofs.YtjdlgannencchaaGreatDoor
namespace Go.Proofs.YtjdlgannencchaaGreatDoor
open Go.ChangeShapes Go.WideShapes Go.ChangeAt Go.RowKit Go.Deep
set_option linter.unusedVariables false
set_option linter.unusedSimpArgs false
set_option maxRecDepth 100000
section
variable {H:Type} {enc:TypeId×Value→H} {w:World} {base:Nat} {spare:Nat→Bool} {held:Bool}
theorem tr5 {fuel:Nat} {cs:List Value} {x:DataW H×List MemPlace} (h:DataW.trod enc Tryz.prog w base spare held fuel 5 cs=some x):
 ∃(y0:Int),cs=[.int .u8 y0]∧SE y0:=by
 obtain ⟨n,rfl,_,hw⟩:=DataW.trod_int Tryz.underlying5 h
 exact ⟨n,rfl,QX hw⟩
theorem adL {fuel:Nat} {cs:List Value} {x:DataW H×List MemPlace} (h:DataW.trod enc Tryz.prog w base spare held fuel 22 cs=some x):
 ∃(A0:Option Addr) (y0:List Int) (k0:Nat),cs=[.slice A0 y0.length k0]∧Rc w 1 A0 y0.length k0 (y0.flatMap eU)∧y0.length≤maxLen∧(∀z∈y0,SE z):=by
 obtain ⟨A,l,cap,e1,e2,e3,e4⟩:=Qs (fun b: {y:Int // SE y}=>eU b.1) (size:=1) (fun b=>XG b.1) (by decide) Tryz.underlying22 (by kernel_rfl) (fun fuel cs x hx=>by
  obtain ⟨z0,rfl,g0⟩:=tr5 hx
  exact ⟨⟨z0,g0⟩,rfl⟩) h
 refine ⟨A,l.map (·.1),cap,by simpa using e1,⟨by simpa [List.flatMap_map] using e2,by simpa using e3⟩,by simpa using Nat.le_trans e3 e4,fun z hz=>?_⟩
 obtain ⟨q,_,rfl⟩:=List.mem_map.1 hz
 exact q.2
theorem adE {r:Reach} {b0:Nat} {v:Value} {d:DataW H} {p:List MemPlace} (hval:Value.okWide Tryz.prog w r b0 22 v) (h:DataW.Trod enc Tryz.prog w base spare held 22 v d p):
 ∃(A0:Option Addr) (y0:List Int) (k0:Nat),v= .slice A0 y0.length k0∧Rc w 1 A0 y0.length k0 (y0.flatMap eU)∧y0.length≤maxLen∧(∀z∈y0,SE z):=by
 obtain ⟨A',n',k',rfl⟩:=okWide_slice Tryz.underlying22 hval
 obtain ⟨fuel,hf⟩:=h
 obtain ⟨A0,y0,k0,e,w0,w1,w2⟩:=adL hf
 simp [Value.cells] at e
 exact ⟨A0,y0,k0,by simp [e],w0,w1,w2⟩
end
end Go.Proofs.YtjdlgannencchaaGreatDoor
namespace Go.Proofs.YtjdlgannencchaaGreatDoor
open Go.ChangeShapes Go.WideShapes Go.ChangeAt Go.RowKit
set_option linter.unusedVariables false
theorem own:ownKnob Tryz.prog.godebug=none:=by kernel_rfl
theorem VA:laidOutB Tryz.prog=true:=by kernel_rfl
section
variable {H:Type} {enc:TypeId×Value→H} {P:Program}
theorem yH (hl:laidOutB P=true) {W W':World} (hb:Below W.heap.size W W'): ∀ {ts:List TypeId} {vs:List Value} {ds:List (DataW H)} {ps:List MemPlace},
 (ts.all fun t=>P.readableRec t&&decide (t<P.types.size))=true→DataW.TrodAll enc P W 0 (fun _=>true) true ts vs ds ps→(∀x∈ps,x.block<W.heap.size)→
 DataW.TrodAll enc P W' 0 (fun b=>decide (b<W.heap.size)) true ts vs ds ps
 | [],[],[],_,_,h,_=>h
 |t::ts,v::vs,d::ds,ps,ht,h,hlt=>by
  obtain ⟨p,q,h1,h2,rfl⟩:=h
  simp only [List.all_cons,Bool.and_eq_true,decide_eq_true_eq] at ht
  exact ⟨p,q,Below.trod hl ht.1.1 ht.1.2 h1 hb (fun x hx=>hlt x (by simp [hx])),yH hl hb (by simpa using ht.2) h2 (fun x hx=>hlt x (by simp [hx])),rfl⟩
theorem SN {f:Func} {s:ChangeSpec} {W W':World} {args:Array Value} {ds gs:List (DataW H)} {before:List MemPlace} {tb:TypeId} (hl:laidOutB P=true)
 (hW:DataW.Whole enc P f.params.toList s.vars false W args.toList ds gs before)
 (hts:(f.params.toList.all fun t=>P.readableRec t&&decide (t<P.types.size))=true) (hvs:s.vars=[]) (hrt:f.resultTypes= #[tb]) (hub:P.underlying tb=some .bool)
 (hfn:s.fn H (ds++ [])= {results:=[.lit (.bool true)],args:=ds}) (hb:Below W.heap.size W W'):
 s.post enc P f false true false false W args (.bool true) W':=by
 have hW':=hW
 obtain ⟨p,q,hA,hV,rfl,hfz,hnd⟩:=hW
 rw [hvs] at hV
 obtain ⟨rfl,rfl⟩:=trodVars_none hV
 refine ⟨ds,[],p++ [],[],p,[],hW',?_,?_,?_,hb.frame _,fun h=>by cases h⟩
 ·rw [hfn,hrt]
  exact trodAll_cons_mk (shut_bool hub _) trodAll_mk0
 ·rw [hfn]
  exact yH hl hb hts hA (fun x hx=>hW'.lt x (by simp [hx]))
 ·rw [hfn,hvs]
  rfl
end
theorem Fj {H:Type} {enc:TypeId×Value→H} {a:Assume} {C:Checked} {os:Os} {f:FuncId} {fn:Func} {s:ChangeSpec} {conds:List PathCond} {apart fresh handsOn again:Bool} {X:World→Array Value→Prop}
 (hX: ∀(w w':World) (args:Array Value),w.heap=w'.heap→X w args→X w' args)
 (ho:ownKnob C.prog.godebug=none) (started:os.Started) (noInit:C.prog.inits.idxOf? f=none) (hfn:C.prog.funcs[f]?=some fn)
 (witness: ∃(w:World) (tape:Tape) (i:Input),w.os=os∧(w.forCall tape i).Shaped C.prog∧i.vars=[]∧Input.okWide C.prog (w.forCall tape i) .any w.heap.size f i∧
  ((s.pre enc C.prog fn conds apart (w.forCall tape i).memory i.args∧X (w.forCall tape i).memory i.args)∧sizedMet enc C.prog fn (OpenSpec.ofChange s) apart (w.forCall tape i).memory i.args)∧a.holds C.prog (lone (Frame.enter C.prog f i.args .normal) [] (w.forCall tape i)))
 (contract: ∀(W:World) (base:Nat) (args:Array Value) (ds gs:List (DataW H)) (before:List MemPlace),
  (∀(j:Nat) t v,fn.params[j]?=some t→args[j]?=some v→Value.okWide C.prog W .any base t v)→
  DataW.Whole enc C.prog fn.params.toList s.vars apart W args.toList ds gs before→X W args→W.ShapedOpen C.prog→
  Calls C.prog f args W fun e W'=> ∃v,e= .returned v∧s.post enc C.prog fn apart fresh handsOn again W args v W'):
 ReturnsInHanded a C os f .any (fun w args=>(s.pre enc C.prog fn conds apart w args∧X w args)∧sizedMet enc C.prog fn (OpenSpec.ofChange s) apart w args) (s.post enc C.prog fn apart fresh handsOn again):=by
 refine returnsInHanded_of_calls ho started noInit witness ?_
 intro w tape i _ hsh _ hok hpre _
 obtain ⟨_,_,_,fn',hfn',_,_,_,_,hval⟩:=hok
 obtain rfl:fn'=fn:=Option.some.inj (hfn'.symm.trans hfn)
 obtain ⟨⟨⟨ds,gs,before,hw,hc⟩,hx⟩,hz⟩:=hpre
 have hw':=DataW.Whole.of_heap (w':=w.forCall tape i) (by rfl) hw
 refine (contract (w.forCall tape i) w.heap.size i.args ds gs before hval hw' (hX _ _ _ (by rfl) hx) hsh).mono fun e W' ⟨v,he,hp⟩=>?_
 subst he
 exact ChangeSpec.post_blind hp
theorem QU {P:Program} {w w':World} {name:String} {k:IntKind} {zs:List Int} (h:Lib.TabIs P w name k zs) (hb:Below w.heap.size w w'):Lib.TabIs P w' name k zs:=by
 unfold Lib.TabIs World.var? at*
 cases hg:P.globalNamed name with
 |none=>simp [hg] at h
 |some g=>
  simp only [hg,Option.bind_some] at h ⊢
  have hlt:g<w.heap.size:=by
   rcases Nat.lt_or_ge g w.heap.size with h' |h'
   ·exact h'
   ·rw [Array.getElem?_eq_none h'] at h;simp at h
  rw [hb.block g hlt]
  exact h
theorem ZD {W:World} (hL:laidMetH Tryz.prog Rows.fnWorldLineRow.laid W) (hsh:W.ShapedOpen Tryz.prog):Bs W:=by
 have h1:=hL.filter (fun x=>x.1==YG)
 have e:(Rows.fnWorldLineRow.laid.filter fun x=>x.1==YG)=[(YG,Lib.tabData .u64 Lib.pow10Tab)]:=by kernel_rfl
 rw [e] at h1
 have h2:=(laidMetH_iff.1 h1).1
 have e2:([(YG,(Lib.tabData .u64 Lib.pow10Tab:DataW Unit))].filter fun x=>x.2.handleName?.isNone)=[(YG,Lib.tabData .u64 Lib.pow10Tab)]:=by kernel_rfl
 rw [e2] at h2
 have h3:Lib.TabIs Tryz.prog W YG .u64 Lib.pow10Tab:=Lib.tabIs_of_head (g:=1) (t:=240) (e:=231) (n:=20) (by kernel_rfl) (by kernel_rfl) Tryz.underlying240 Tryz.underlying231 (by kernel_rfl) (by kernel_rfl) h2
 obtain ⟨m,hm⟩:=cell_of_shapedOpen_int (g:=0) (t:=3) (zero:= #[.int .i64 0]) (k:=.i64) hsh (of_decide_eq_true (by kernel_rfl)) (by kernel_rfl) rfl (by kernel_rfl) (by kernel_rfl) Tryz.underlying3
 have hlt:0<W.heap.size:=World.block_lt_of_cell? _ _ hm
 exact ⟨fun w' hb=>QU h3 hb,m,fun w' hb=>(hb.cell (p:=⟨0,0,none⟩) hlt).trans hm⟩
end Go.Proofs.YtjdlgannencchaaGreatDoor
