/- Texts of the claim, one behind the other: Net, Tr, Sum, Al, WkV, WvM, DkM, Hl, FlI, FlS, Bst, WkD, BsM, WrM, LnU, WkR, HlM, RsM, Draw, Yd, Sm, WdD, WdS, DaH, WdL, StTxD, LnV. -/
import Derived.Test.YtjdlgannencchaaGreatDoorRExactWorldLines4
namespace Go.Proofs.YtjdlgannencchaaGreatDoor
open Go.ChangeShapes Go.WideShapes Go.ChangeAt Go.RowKit
set_option linter.unusedVariables false
set_option linter.unusedSimpArgs false
set_option linter.unusedSectionVars false
theorem wS {σ Out:Type} (L:Nat→σ→Option Out) (R:Nat→σ→Prop) (n:Nat) (DD:σ→Option Out) (hn:n≤1099511627776)
 (hstep: ∀k fuel s,k<n→R k s→ ∃s',R (k+1) s'∧L (fuel+1) s=L fuel s') (hend: ∀fuel s,R n s→L (fuel+1) s=DD s) (s:σ) (h0:R 0 s): ∃s',R n s'∧L ah s=DD s':=by
 have go: ∀j k fuel s,k+j=n→j<fuel→R k s→ ∃s',R n s'∧L fuel s=DD s':=by
  intro j
  induction j with
  |zero=>
   intro k fuel s hk hf hr
   obtain ⟨f,rfl⟩: ∃f,fuel=f+1:=⟨fuel-1,by omega⟩
   obtain rfl:k=n:=by omega
   exact ⟨s,hr,hend f s hr⟩
  |succ j ih=>
   intro k fuel s hk hf hr
   obtain ⟨f,rfl⟩: ∃f,fuel=f+1:=⟨fuel-1,by omega⟩
   obtain ⟨s',h1,h2⟩:=hstep k f s (by omega) hr
   rw [h2]
   exact ih (k+1) f s' (by omega) (by omega) h1
 exact go n 0 ah s (by omega) (qh hn) h0
theorem TA {σ Out:Type} (L:Nat→σ→Option Out) (R:Nat→σ→Prop) (n:Nat) (P:Nat→Bool) (fv out:Option Out) (hn:n≤1099511627776)
 (hstep: ∀k fuel s,k<n→R k s→(P k=true∧L (fuel+1) s=fv)∨(P k=false∧ ∃s',R (k+1) s'∧L (fuel+1) s=L fuel s')) (hend: ∀fuel s,R n s→L (fuel+1) s=out) (s:σ) (h0:R 0 s):
 L ah s=bif (List.range n).any P then fv else out:=by
 have go: ∀j k fuel s,k+j=n→j<fuel→R k s→L fuel s=bif (List.range' k j).any P then fv else out:=by
  intro j
  induction j with
  |zero=>
   intro k fuel s hk hf hr
   obtain ⟨f,rfl⟩: ∃f,fuel=f+1:=⟨fuel-1,by omega⟩
   obtain rfl:k=n:=by omega
   simpa using hend f s hr
  |succ j ih=>
   intro k fuel s hk hf hr
   obtain ⟨f,rfl⟩: ∃f,fuel=f+1:=⟨fuel-1,by omega⟩
   rw [List.range'_succ,List.any_cons]
   rcases hstep k f s (by omega) hr with ⟨h1,h2⟩ |⟨h1,s',h2,h3⟩
   ·rw [h1,h2];rfl
   ·rw [h1,h3,ih (k+1) f s' (by omega) (by omega) h2];rfl
 rw [go n 0 ah s (by omega) (qh hn) h0,List.range_eq_range']
theorem ltN (b:Int):(af b 1 ||af 8 b)= !LK b 1 8:=by rw [Bool.eq_iff_iff];simp [af,LK]<;>omega
theorem aek (n:Nat):af 10 (n:Int)= !decide (n≤10):=by rw [Bool.eq_iff_iff];simp [af];omega
theorem Sn (a b:Nat):((a:Int)==(b:Int))=decide (a=b):=by rw [Bool.eq_iff_iff];simp<;>omega
theorem Yu (b:Int) (l:Ln):Ei b l=((aF 0 l.1&&af l.1 b)&&(aF 0 l.2.1&&af l.2.1 b)&& !(l.1==l.2.1)&&(!af l.2.2 1&& !af 999 l.2.2)):=by
 rw [Bool.eq_iff_iff];simp [Ei,LK,aF,af]<;>omega
theorem aaM (b:Int) (ls:List Ln):aX b ls=some (Hd b ls):=by
 unfold aX Hd
 rw [ltN,aek]
 cases h1:LK b 1 8
 ·rfl
 by_cases hl:ls.length≤10
 ·have h:=bW (eR b ls) (fun k=>(k:Int)) ls.length (fun k=> !Ei b (ls.getD k (0,0,0))) (some (.inr false)) (some (.inl ())) (by omega) (fun k fuel hk=>?_) (fun fuel=>?_)
  ·rw [show eR b ls ah 0=_ from h,decide_eq_true hl]
   cases (List.range ls.length).any fun k=> !Ei b (ls.getD k (0,0,0))<;>rfl
  ·rw [sS,ip]
   simp only [au hk,ae hk,aa,cond_true,Int.toNat_natCast,ab (by omega:k<4611686018427387904),kQ,Option.bind_some]
   generalize ls.getD k (0,0,0)=l
   rw [Yu]
   cases aF 0 l.1&&af l.1 b<;>cases aF 0 l.2.1&&af l.2.1 b<;>cases l.1==l.2.1<;>cases af l.2.2 1<;>cases af 999 l.2.2<;>rfl
  ·rw [sS,ip];simp only [ak,cond_false]
 ·rw [decide_eq_false hl];rfl
theorem Zd (b:Int) (ls:List Ln):dI b ls=some (Hd b ls):=by
 unfold dI Hd am
 rw [aek,pV]
 cases h1:aF 1 b&&aF b 8
 ·rfl
 by_cases hl:ls.length≤10
 ·have hb:1≤b∧b≤8:=by simpa [aF] using h1
  have w1:ay (b-1)=b-1:=bD (by omega) (by omega)
  have h:=bW (fb b ls) (fun k=>(k:Int)) ls.length (fun k=> !Ei b (ls.getD k (0,0,0))) (some (.inr false)) (some (.inl ())) (by omega) (fun k fuel hk=>?_) (fun fuel=>?_)
  ·rw [show fb b ls ah 0=_ from h,decide_eq_true hl]
   cases (List.range ls.length).any fun k=> !Ei b (ls.getD k (0,0,0))<;>rfl
  ·rw [tj,iR]
   simp only [au hk,ae hk,aa,cond_true,Int.toNat_natCast,ab (by omega:k<4611686018427387904),am,Option.bind_some,w1]
   generalize ls.getD k (0,0,0)=l
   unfold Ei
   rw [pV,pV,pV]
   cases aF 0 l.1&&aF l.1 (b-1)<;>cases aF 0 l.2.1&&aF l.2.1 (b-1)<;>cases l.1==l.2.1<;>cases aF 1 l.2.2&&aF l.2.2 999<;>rfl
  ·rw [tj,iR];simp only [ak,cond_false]
 ·rw [decide_eq_false hl];rfl
section
variable (b:Int) (ls:List Ln) (pts:List (Int×Int)) (hp:pts.length≤1048576)
include hp
theorem Vv:fP b ls pts=some (rg b ls pts):=by
 unfold fP rg
 rw [aaM,Option.bind_some]
 have e:((pts.length:Int) !=b)= !decide ((pts.length:Int)=b):=by rw [Bool.eq_iff_iff];simp
 rw [e]
 have h:=bW (cW pts) (fun k=>(k:Int)) pts.length (fun k=> !KA (pts.getD k (0,0))) (some (.inr false)) (some (.inl ())) (by omega) (fun k fuel hk=>?_) (fun fuel=>?_)
 ·rw [show cW pts ah 0=_ from h]
  cases Hd b ls<;>cases decide ((pts.length:Int)=b)<;>cases (List.range pts.length).any fun k=> !KA (pts.getD k (0,0))<;>rfl
 ·rw [qG,ff]
  simp only [au hk,ae hk,aa,cond_true,Int.toNat_natCast,ab (by omega:k<4611686018427387904),kS,Option.bind_some]
  generalize pts.getD k (0,0)=p
  unfold KA
  rw [pV,pV]
  cases aF 0 p.1&&aF p.1 999<;>cases aF 0 p.2&&aF p.2 999<;>rfl
 ·rw [qG,ff];simp only [ak,cond_false]
theorem WK:gB b ls pts=some (rg b ls pts):=by
 unfold gB rg
 rw [Zd]
 have e:((pts.length:Int)==b)=decide ((pts.length:Int)=b):=by rw [Bool.eq_iff_iff];simp
 rw [e]
 have h:=bW (dc pts) (fun k=>(k:Int)) pts.length (fun k=> !KA (pts.getD k (0,0))) (some (.inr false)) (some (.inl ())) (by omega) (fun k fuel hk=>?_) (fun fuel=>?_)
 ·rw [show dc pts ah 0=_ from h]
  cases Hd b ls<;>cases decide ((pts.length:Int)=b)<;>cases (List.range pts.length).any fun k=> !KA (pts.getD k (0,0))<;>rfl
 ·rw [qN,fq]
  simp only [au hk,ae hk,aa,cond_true,Int.toNat_natCast,ab (by omega:k<4611686018427387904),am,Option.bind_some,Bool.or_true]
  generalize pts.getD k (0,0)=p
  unfold KA
  rw [pV,pV]
  cases aF 0 p.1&&aF p.1 999<;>cases aF 0 p.2&&aF p.2 999<;>rfl
 ·rw [qN,fq];simp only [ak,cond_false]
omit hp in
theorem aaO (on:List Bool):kR b ls on=some (Zh b ls on):=by
 unfold kR Zh;rw [aaM,Sn];rfl
omit hp in
theorem Nv (on:List Bool):cm b ls on=some (Zh b ls on):=by
 unfold cm Zh;rw [Zd,Sn];rfl
theorem Yk (on:List Bool):dE b ls on pts=some (OY b ls on pts):=by
 unfold dE OY
 rw [aaO,Vv b ls pts hp]
 cases Zh b ls on<;>cases rg b ls pts<;>rfl
theorem Ub (on:List Bool):gX b ls on pts=some (OY b ls on pts):=by
 unfold gX OY
 rw [Nv,WK b ls pts hp]
 cases Zh b ls on<;>cases rg b ls pts<;>rfl
end
structure StOk (b:Int) (ls:List Ln) (on:List Bool):Prop where
 net:NetOk b ls
 len:on.length=ls.length
theorem IC {b:Int} {ls:List Ln} {on:List Bool}:Zh b ls on=true↔StOk b ls on:=by
 unfold Zh
 rw [Bool.and_eq_true,zJ,decide_eq_true_eq]
 exact ⟨fun h=>⟨h.1,h.2⟩,fun h=>⟨h.1,h.2⟩⟩
theorem fB {b:Int} {ls:List Ln} {on:List Bool} {pts:List (Int×Int)}:OY b ls on pts=true↔StOk b ls on∧BusOk b ls pts:=by
 unfold OY;rw [Bool.and_eq_true,IC,xh]
def zl (u:List Nat):List Int:=u.map fun (n:Nat)=>(n:Int)
theorem bR (u:List Nat):(zl u).length=u.length:=by simp [zl]
theorem tT (u:List Nat) (k:Nat):(zl u).getD k 0=((u.getD k 0:Nat):Int):=by
 unfold zl
 rcases Nat.lt_or_ge k u.length with h |h
 ·simp [List.getD,h]
 ·simp [List.getD,List.getElem?_eq_none h]
theorem Xr (u:List Nat) (k v:Nat):(zl u).set k (v:Int)=zl (u.set k v):=by simp [zl,List.map_set]
structure UR (u:List Nat) (B:Nat) (f:Nat→Nat):Prop where
 len:u.length=B
 dn:Dn u
 rot: ∀c,c<B→Rot u c (f c)
theorem UR.le {u:List Nat} {B:Nat} {f:Nat→Nat} (h:UR u B f) {c:Nat} (hc:c<B):f c≤c:=by
 obtain ⟨r,h1,h2⟩:=Rot.ex h.dn c (by rw [h.len];exact hc)
 rw [(h.rot c hc).uniq h1];exact h2
theorem aaz {u0:List Nat} {B:Nat} {f:Nat→Nat} (h0:u0.length=B): ∀(c fuel:Nat) (u:List Nat),c<fuel→UR u B f→c<B→ ∃v,gk (zl u0) fuel (zl u,(c:Int))=some (((f c:Nat):Int),zl v)∧UR v B f:=by
 intro c
 induction c using Nat.strongRecOn with
 |ind c ih=>
  intro fuel u hf hu hc
  obtain ⟨g,rfl⟩: ∃g,fuel=g+1:=⟨fuel-1,by omega⟩
  rw [yS,kK]
  have hx: ∀d,d<B→aq (d:Int) (zl u0).length=true:=fun d hd=>by rw [bR,h0];exact ae hd
  simp only [hx c hc,aa,Int.toNat_natCast,tT]
  by_cases hr:u.getD c 0=c
  ·have e:(((u.getD c 0:Nat):Int) !=(c:Int))=false:=by rw [hr];simp
   rw [e,(hu.rot c hc).fix hr]
   exact ⟨u,rfl,hu⟩
  ·have e:(((u.getD c 0:Nat):Int) !=(c:Int))=true:=by simp only [bne_iff_ne,ne_eq];omega
   have h1:=hu.dn c (by rw [hu.len];exact hc)
   have h2:=hu.dn (u.getD c 0) (by rw [hu.len];omega)
   simp only [e,cond_true,hx _ (show u.getD c 0<B by omega),aa,Int.toNat_natCast,tT]
   have h3:(zl u).set c ((u.getD (u.getD c 0) 0:Nat):Int)=zl (u.set c (u.getD (u.getD c 0) 0)):=Xr _ _ _
   rw [h3,tT,pC (by rw [hu.len];exact hc),if_pos rfl]
   have hcl:c<u.length:=by rw [hu.len];exact hc
   have hv:UR (u.set c (u.getD (u.getD c 0) 0)) B f:=⟨by rw [List.length_set];exact hu.len,hu.dn.halve hcl,fun d hd=>Rot.halve hu.dn hcl d _ (by rw [hu.len];exact hd) (hu.rot d hd)⟩
   obtain ⟨v,i1,i2⟩:=ih (u.getD (u.getD c 0) 0) (by omega) g _ (by omega) hv (by omega)
   have hf2:f (u.getD (u.getD c 0) 0)=f c:=(hu.rot _ (by omega)).uniq ((hu.rot c hc).next.next)
   rw [hf2] at i1
   exact ⟨v,i1,i2⟩
theorem GZ {u:List Nat} {B:Nat} {f:Nat→Nat} (h:UR u B f) (hB:B≤1099511627776) {c:Nat} (hc:c<B): ∃v,bz (zl u) (c:Int)=some (((f c:Nat):Int),zl v)∧UR v B f:=by
 obtain ⟨v,h1,h2⟩:=aaz h.len c ah u (qh (by omega)) h hc
 refine ⟨v,?_,h2⟩
 unfold bz
 rw [h1];rfl
theorem aea {u:List Nat} {B:Nat} {f:Nat→Nat} (h:UR u B f) (hB:B≤1099511627776) {a c:Nat} (ha:a<B) (hc:c<B): ∃v,kZ (zl u) (a:Int) (c:Int)=some (decide (f a=f c),zl v)∧UR v B f:=by
 obtain ⟨v,h1,h2⟩:=GZ h hB ha
 obtain ⟨x,h3,h4⟩:=GZ h2 hB hc
 refine ⟨x,?_,h4⟩
 unfold kZ
 rw [h1,Option.bind_some,h3,Option.bind_some]
 have:(((f a:Nat):Int)==((f c:Nat):Int))=decide (f a=f c):=by rw [Bool.eq_iff_iff];simp;omega
 rw [this]
theorem ZC {u:List Nat} {B:Nat} {f:Nat→Nat} (h:UR u B f) (hB:B≤1099511627776) {a c:Nat} (ha:a<B) (hc:c<B): ∃v,gl (zl u) (a:Int) (c:Int)=some (zl v)∧UR v B (sh f a c):=by
 obtain ⟨v,h1,h2⟩:=GZ h hB ha
 obtain ⟨x,h3,h4⟩:=GZ h2 hB hc
 have la:=h.le ha
 have lc:=h.le hc
 refine ⟨x.set (max (f a) (f c)) (min (f a) (f c)),?_,?_⟩
 ·unfold gl
  rw [h1,Option.bind_some,h3,Option.bind_some]
  have e1:max ((f a:Nat):Int) ((f c:Nat):Int)=((max (f a) (f c):Nat):Int):=by omega
  have e2:min ((f a:Nat):Int) ((f c:Nat):Int)=((min (f a) (f c):Nat):Int):=by omega
  have hx:aq ((max (f a) (f c):Nat):Int) (zl u).length=true:=by rw [bR,h.len];exact ae (by omega)
  rw [e1,e2,hx,aa,Int.toNat_natCast]
  exact congrArg some (Xr _ _ _)
 ·have hlen:=h4.len
  refine ⟨by rw [List.length_set];exact hlen,fun d hd=>?_,fun d hd=>Rot.join h4.dn (fun c hc=>h4.rot c (by omega)) (by omega) (by omega) (fun c hc=>h4.le (by omega)) d (by omega)⟩
  rw [List.length_set] at hd
  rw [pC (by omega)]
  split
  ·omega
  ·exact h4.dn d hd
theorem ad6 {B:Nat} (hB:B≤1099511627776):kD (B:Int)=some (zl (List.range B))∧UR (List.range B) B id:=by
 refine ⟨?_,by simp,fun b hb=>?_,fun c hc=>?_⟩
 ·unfold kD
  have hm:sF (B:Int)=true:=by simp [sF];omega
  rw [hm,aa,Int.toNat_natCast]
  have h:=av (eV (B:Int)) (fun k=>((List.range B).map (fun (i:Nat)=>if i<k then (i:Int) else 0),(k:Int))) B (some (zl (List.range B))) (by omega) (fun k fuel hk=>?_) (fun fuel=>?_)
  ·have e:(List.range B).map (fun (i:Nat)=>if i<0 then (i:Int) else 0)=List.replicate B (0:Int):=by
    apply List.ext_getElem (by simp)
    intro i h1 h2
    simp
   rw [e] at h
   rw [show eV (B:Int) ah (List.replicate B (0:Int),0)=_ from h];rfl
  ·rw [sZ,iE]
   simp only [Int.toNat_natCast,au hk,ae hk,cond_true,aa,ab (by omega:k<4611686018427387904)]
   congr 2
   apply List.ext_getElem (by simp)
   intro i h1 h2
   rw [List.getElem_set]
   simp only [List.getElem_map,List.getElem_range]
   split
   ·rename_i e;subst e;rw [if_pos (by omega)]
   ·by_cases hi:i<k
    ·rw [if_pos hi,if_pos (by omega)]
    ·rw [if_neg hi,if_neg (by omega)]
  ·rw [sZ,iE]
   simp only [Int.toNat_natCast,ak,cond_false]
   congr 1
   unfold zl
   refine List.map_congr_left fun i hi=>?_
   rw [if_pos (by simpa using hi)]
 ·have hb:b<B:=by simpa using hb
  simp [List.getD,hb]
 ·exact .stop (by simp [List.getD,hc])
theorem zG {b:Int} {l:Ln} (h:LnOk b l):l.1=(((bS l).1:Nat):Int)∧l.2.1=(((bS l).2:Nat):Int)∧(bS l).1<b.toNat∧(bS l).2<b.toNat:=by
 have:=h.a;have:=h.b
 unfold bS
 dsimp only
 omega
section
variable {b:Int} {ls:List Ln} {on:List Bool} (h:StOk b ls on)
include h
theorem xL {k:Nat} (hk:k<ls.length):wX ((ls.zip on).take (k+1))=if on.getD k false then wX ((ls.zip on).take k)++ [bS (ls.getD k (0,0,0))] else wX ((ls.zip on).take k):=by
 have hl:=h.len
 have hz:k<(ls.zip on).length:=by simp;omega
 rw [OZ hz,ac (by omega:k<on.length),ac hk]
 simp
theorem NG:wX ((ls.zip on).take ls.length)=aw ls on:=by
 have hl:=h.len
 unfold aw
 rw [List.take_of_length_le (by simp;omega)]
theorem agd:nG b ls on=some (Qj ls on):=by
 have hb:=h.net.b0;have hb1:=h.net.b1;have hll:=h.net.ll;have hl:=h.len
 obtain ⟨B,rfl⟩: ∃B:Nat,b=(B:Int):=⟨b.toNat,by omega⟩
 obtain ⟨n1,n2⟩:=ad6 (B:=B) (by omega)
 unfold nG Qj
 rw [n1,Option.bind_some]
 have hh:=TA (jE ls on) (fun k s=> ∃u,s=(zl u,(k:Int))∧UR u B (aP (wX ((ls.zip on).take k)))) ls.length
  (fun k=>on.getD k false&&aP (wX ((ls.zip on).take k)) (bS (ls.getD k (0,0,0))).1==aP (wX ((ls.zip on).take k)) (bS (ls.getD k (0,0,0))).2) (some (.inr true)) (some (.inl ())) (by omega) ?_ ?_ (zl (List.range B),0) ⟨_,rfl,n2⟩
 ·rw [hh]
  cases (List.range ls.length).any _<;>rfl
 ·rintro k fuel s hk ⟨u,rfl,hu⟩
  rw [sX,iC]
  have hln:=zG (h.net.ln k hk)
  simp only [Int.toNat_natCast] at hln
  simp only [au hk,ae hk,ae (show k<on.length by omega),aa,cond_true,Int.toNat_natCast,ab (by omega:k<4611686018427387904)]
  rw [hln.1,hln.2.1]
  cases ho:on.getD k false
  ·right
   refine ⟨rfl,(zl u,((k+1:Nat):Int)),⟨u,rfl,?_⟩,rfl⟩
   rw [xL h hk,ho];exact hu
  ·obtain ⟨v,s1,s2⟩:=aea hu (by omega) hln.2.2.1 hln.2.2.2
   simp only [cond_true,s1,Option.bind_some]
   by_cases he:aP (wX ((ls.zip on).take k)) (bS (ls.getD k (0,0,0))).1=aP (wX ((ls.zip on).take k)) (bS (ls.getD k (0,0,0))).2
   ·left
    rw [decide_eq_true he]
    exact ⟨by rw [he];simp,rfl⟩
   ·right
    obtain ⟨x,j1,j2⟩:=ZC s2 (by omega) hln.2.2.1 hln.2.2.2
    rw [decide_eq_false he]
    simp only [cond_false,j1,Option.bind_some]
    refine ⟨by simpa using he,(zl x,((k+1:Nat):Int)),⟨x,rfl,?_⟩,rfl⟩
    rw [xL h hk,ho,if_pos rfl,Dr];exact j2
 ·rintro fuel s ⟨u,rfl,hu⟩
  rw [sX,iC];simp only [ak,cond_false]
end
def bl (B:Nat) (s:Nat→Bool):List Bool:=(List.range B).map s
theorem UJ (B:Nat) (s:Nat→Bool):(bl B s).length=B:=by simp [bl]
theorem Qg {B c:Nat} {s:Nat→Bool} (h:c<B):(bl B s).getD c false=s c:=by simp [bl,List.getD,h]
theorem UK {B a:Nat} {s:Nat→Bool} (h:a<B):(bl B s).set a true=bl B (fun c=>c==a ||s c):=by
 apply List.ext_getElem (by simp [bl])
 intro i h1 h2
 rw [List.getElem_set]
 simp only [bl,List.getElem_map,List.getElem_range]
 split
 ·rename_i e;subst e;simp
 ·rename_i e
  have:(i==a)=false:=by simpa using fun e2=>e e2.symm
  rw [this];rfl
theorem NZ {B:Nat} {s t:Nat→Bool} (h: ∀c,c<B→s c=t c):bl B s=bl B t:=List.map_congr_left fun c hc=>h c (by simpa using hc)
theorem xI (E:Ed) (e:Nat×Nat) (s:Nat→Bool):me (E++ [e]) s=LJ (me E s) e:=by unfold me;rw [List.foldl_append];rfl
section
variable {B:Nat} {ls:List Ln} {on:List Bool} (h:StOk (B:Int) ls on)
include h
theorem Ud (s:Nat→Bool):gV (B:Int) ls on ah (bl B s,0)=some (bl B (me (aw ls on) s)):=by
 have hll:=h.net.ll;have hl:=h.len
 have hh:=av (gV (B:Int) ls on) (fun k=>(bl B (me (wX ((ls.zip on).take k)) s),(k:Int))) ls.length (some (bl B (me (aw ls on) s))) (by omega) (fun k fuel hk=>?_) (fun fuel=>?_)
 ·exact hh
 ·rw [uH,kf]
  have hln:=zG (h.net.ln k hk)
  simp only [Int.toNat_natCast] at hln
  simp only [au hk,ae hk,ae (show k<on.length by omega),aa,cond_true,Int.toNat_natCast,ab (by omega:k<4611686018427387904)]
  rw [hln.1,hln.2.1]
  rw [xL h hk]
  generalize bS (ls.getD k (0,0,0))=e at*
  simp only [ae hln.2.2.1,ae hln.2.2.2,Int.toNat_natCast,Bool.or_true,aa,UJ,Qg hln.2.2.1,Qg hln.2.2.2]
  cases ho:on.getD k false
  ·rfl
  ·rw [if_pos rfl,xI]
   generalize me (wX ((ls.zip on).take k)) s=t
   unfold LJ
   rw [Bool.true_and]
   cases t e.1 ||t e.2
   ·rfl
   ·simp only [cond_true,Option.bind_some,if_true]
    rw [UK hln.2.2.1,UK hln.2.2.2]
    congr 2
    refine NZ fun c hc=>?_
    cases c==e.1<;>cases c==e.2<;>rfl
 ·rw [uH,kf]
  simp only [ak,cond_false]
  rw [NG h]
theorem abA {b:Nat} (hb:b<B):px (B:Int) ls on (b:Int)=some (bl B (aM (aw ls on) (fun c=>c==b) B)):=by
 have h1:=h.net.b1
 unfold px
 have hm:sF (B:Int)=true:=by simp [sF];omega
 rw [hm,aa,Int.toNat_natCast,ae hb,aa,Int.toNat_natCast]
 have e:(List.replicate B false).set b true=bl B (fun c=>c==b):=by
  apply List.ext_getElem (by simp [bl])
  intro i h1 h2
  rw [List.getElem_set]
  simp only [bl,List.getElem_map,List.getElem_range,List.getElem_replicate]
  split
  ·rename_i e;subst e;simp
  ·rename_i e;symm;simpa using fun e2=>e e2.symm
 have hh:=av (gU (B:Int) ls on) (fun k=>(bl B (aM (aw ls on) (fun c=>c==b) k),(k:Int))) B (some (bl B (aM (aw ls on) (fun c=>c==b) B))) (by omega) (fun k fuel hk=>?_) (fun fuel=>?_)
 ·rw [e,show gU (B:Int) ls on ah (bl B (fun c=>c==b),0)=_ from hh];rfl
 ·rw [uG,ke]
  simp only [au hk,cond_true,Ud h,Option.bind_some,ab (by omega:k<4611686018427387904)]
  rfl
 ·rw [uG,ke];simp only [ak,cond_false]
theorem ZW: ∀e∈aw ls on,e.1<B∧e.2<B:=by
 intro e he
 obtain ⟨k,hk,_,rfl⟩:=FP.1 he
 have:=zG (h.net.ln k hk)
 simp only [Int.toNat_natCast] at this
 exact ⟨this.2.2.1,this.2.2.2⟩
theorem PG {b:Nat} (hb:b<B) (c:Nat):aM (aw ls on) (fun c=>c==b) B c=(aP (aw ls on) b==aP (aw ls on) c):=by
 rw [Bool.eq_iff_iff,Ul (ZW h) hb,beq_iff_eq,oW]
def ru (E:Ed) (B b:Nat):List Nat:=(List.range B).filter fun c=>aP E b==aP E c
theorem Kg {b:Nat} (hb:b<B):jm (B:Int) ls on (b:Int)=some (zl (ru (aw ls on) B b)):=by
 have h1:=h.net.b1
 unfold jm am
 have w1:ay ((B:Int)-1)=(B:Int)-1:=bD (by omega) (by omega)
 have c1:(aF 0 (b:Int)&&aF (b:Int) ((B:Int)-1))=true:=by simp [aF];omega
 rw [Nv,IC.2 h,Option.bind_some,w1,c1]
 simp only [Bool.not_true,Bool.not_false,cd,Option.bind_some,Bool.or_self,cond_false,abA h hb]
 have e:bl B (aM (aw ls on) (fun c=>c==b) B)=bl B (fun c=>aP (aw ls on) b==aP (aw ls on) c):=NZ fun c _=>PG h hb c
 rw [e]
 have hh:=av (gL (B:Int) (bl B (fun c=>aP (aw ls on) b==aP (aw ls on) c))) (fun k=>(zl ((List.range k).filter fun c=>aP (aw ls on) b==aP (aw ls on) c),(k:Int))) B (some (zl (ru (aw ls on) B b))) (by omega) (fun k fuel hk=>?_) (fun fuel=>?_)
 ·rw [show gL (B:Int) _ ah (([]:List Int),0)=_ from hh];rfl
 ·rw [uC,jY]
  have hl:(zl ((List.range k).filter fun c=>aP (aw ls on) b==aP (aw ls on) c)).length≤k:=by
   rw [bR];have:=List.length_filter_le (fun c=>aP (aw ls on) b==aP (aw ls on) c) (List.range k);simpa using this
  have ha: ∀x:Int,bw (zl ((List.range k).filter fun c=>aP (aw ls on) b==aP (aw ls on) c)).length [x].length=true:=fun x=>by simp [bw];omega
  simp only [au hk,cond_true,UJ,ae hk,aa,Int.toNat_natCast,Qg hk,ha,ab (by omega:k<4611686018427387904)]
  rw [List.range_succ,List.filter_append]
  cases hc:aP (aw ls on) b==aP (aw ls on) k
  ·simp [hc,List.filter_cons]
  ·simp [hc,List.filter_cons,zl]
 ·rw [uC,jY];simp only [ak,cond_false];rfl
omit h in
theorem Uc (l:List Int) (x:Int) (hl:l.length≤1099511627776):cQ l x=some (decide (x∈l)):=by
 unfold cQ
 have hh:=bW (kF l x) (fun k=>(k:Int)) l.length (fun k=>l.getD k 0==x) (some (.inr true)) (some (.inl ())) hl (fun k fuel hk=>?_) (fun fuel=>?_)
 ·rw [show kF l x ah 0=_ from hh,NU l 0 (fun y=>y==x)]
  have:l.any (fun y=>y==x)=decide (x∈l):=by
   rw [Bool.eq_iff_iff,List.any_eq_true,decide_eq_true_eq]
   exact ⟨fun ⟨y,h1,h2⟩=>by rw [←(beq_iff_eq.1 h2)];exact h1,fun h=>⟨x,h,by simp⟩⟩
  rw [this]
  cases decide (x∈l)<;>rfl
 ·rw [xR,mK]
  simp only [au hk,ae hk,aa,cond_true,Int.toNat_natCast,ab (by omega:k<4611686018427387904)]
 ·rw [xR,mK];simp only [ak,cond_false]
omit h in
theorem Xq {l:List Nat} {c:Nat}:(c:Int)∈zl l↔c∈l:=by
 simp only [zl,List.mem_map]
 constructor
 ·rintro ⟨a,h1,h2⟩;have:a=c:=by omega
  subst this;exact h1
 ·intro h;exact ⟨c,h,rfl⟩
omit h in
theorem EH (E:Ed) (B b:Nat):(ru E B b).length≤B:=by
 unfold ru;have:=List.length_filter_le (fun c=>aP E b==aP E c) (List.range B);simpa using this
theorem ZT {a c:Nat} (ha:a<B) (hc:c<B):gM (B:Int) ls on (a:Int) (c:Int)=some (aP (aw ls on) a==aP (aw ls on) c):=by
 have h1:=h.net.b1
 unfold gM
 have hl:=EH (aw ls on) B a
 rw [Kg h ha,Option.bind_some,Uc _ _ (by rw [bR];omega),Option.bind_some]
 have:decide ((c:Int)∈zl (ru (aw ls on) B a))=(aP (aw ls on) a==aP (aw ls on) c):=by
  rw [Bool.eq_iff_iff,decide_eq_true_eq,Xq]
  simp [ru,hc]
 rw [this]
def Of (ls:List Ln) (on:List Bool) (k:Nat):Bool:=on.getD k false&&aP (aw ls (on.set k false)) (bS (ls.getD k (0,0,0))).1==aP (aw ls (on.set k false)) (bS (ls.getD k (0,0,0))).2
theorem aa9 (k:Nat):StOk (B:Int) ls (on.set k false):=⟨h.net,by rw [List.length_set];exact h.len⟩
theorem agn:nN (B:Int) ls on=some (Qk ls on):=by
 have hll:=h.net.ll;have hl:=h.len
 unfold nN pn
 have hh:=av (de (B:Int) ls on) (fun k=>(zl ((List.range k).filter (Of ls on)),(k:Int))) ls.length
  (some (zl ((List.range ls.length).filter (Of ls on)))) (by omega) (fun k fuel hk=>?_) (fun fuel=>?_)
 ·rw [show de (B:Int) ls on ah (([]:List Int),0)=_ from hh]
  simp only [Option.bind_some,bR]
  congr 1
  show af 0 (((List.range ls.length).filter (Of ls on)).length:Int)=(List.range ls.length).any (Of ls on)
  rw [Bool.eq_iff_iff,af,decide_eq_true_eq,List.any_eq_true]
  constructor
  ·intro h1
   obtain ⟨k,hk⟩:=List.exists_mem_of_length_pos (show 0<((List.range ls.length).filter (Of ls on)).length by omega)
   obtain ⟨h2,h3⟩:=List.mem_filter.1 hk
   exact ⟨k,h2,h3⟩
  ·rintro ⟨k,h2,h3⟩
   have:=List.length_pos_of_mem (List.mem_filter.2 ⟨h2,h3⟩)
   omega
 ·rw [qO,ft]
  have hln:=zG (h.net.ln k hk)
  simp only [Int.toNat_natCast] at hln
  have hkn:k<on.length:=by omega
  have w1:ay ((on.length:Int)-1)=(on.length:Int)-1:=bD (by omega) (by omega)
  have c1:(aF 0 (k:Int)&&aF (k:Int) ((on.length:Int)-1))=true:=by simp [aF];omega
  have a1:bw ([]:List Bool).length on.length=true:=by simp [bw];omega
  have hl2:=List.length_filter_le (Of ls on) (List.range k)
  rw [List.length_range] at hl2
  have ha: ∀x:Int,bw (zl ((List.range k).filter (Of ls on))).length [x].length=true:=fun x=>by rw [bR];simp [bw];omega
  have hsw:lE (B:Int) ls on (k:Int) false=some (on.set k false,true):=by
   unfold lE kJ am
   rw [Nv,IC.2 h]
   simp only [Option.bind_some,cond_true,a1,aa,List.nil_append,w1,c1,ae hkn,Int.toNat_natCast]
  have hsame:=ZT (aa9 h k) hln.2.2.1 hln.2.2.2
  rw [Nv,IC.2 h]
  simp only [au hkn,cd,Option.bind_some,Bool.and_self,cond_true,hsw,ae hkn,ae hk,Bool.or_true,aa,Int.toNat_natCast,ha,ab (by omega:k<4611686018427387904)]
  rw [hln.1,hln.2.1,hsame,List.range_succ,List.filter_append]
  have hcy:Of ls on k=(on.getD k false&&aP (aw ls (on.set k false)) (bS (ls.getD k (0,0,0))).1==aP (aw ls (on.set k false)) (bS (ls.getD k (0,0,0))).2):=rfl
  rw [List.filter_cons,List.filter_nil,hcy]
  cases ho:on.getD k false
  ·simp [gb]
  ·cases hc:aP (aw ls (on.set k false)) (bS (ls.getD k (0,0,0))).1==aP (aw ls (on.set k false)) (bS (ls.getD k (0,0,0))).2
   ·simp [gb]
   ·simp [gb,zl]
 ·rw [qO,ft]
  have:af (ls.length:Int) (on.length:Int)=false:=by rw [hl];exact ak
  simp only [this,qW,Option.bind_some,Bool.false_and,cond_false]
end
theorem Tz {σ Out:Type} (L:Nat→σ→Option Out) (R:Nat→σ→Prop) (n:Nat) (X:Prop) (fv:Option Out) (DD:σ→Option Out) (hn:n≤1099511627776)
 (hstep: ∀k fuel s,k<n→R k s→(X∧L (fuel+1) s=fv)∨(∃s',R (k+1) s'∧L (fuel+1) s=L fuel s')) (hend: ∀fuel s,R n s→L (fuel+1) s=DD s) (s:σ) (h0:R 0 s):
 (X∧L ah s=fv)∨ ∃s',R n s'∧L ah s=DD s':=by
 have go: ∀j k fuel s,k+j=n→j<fuel→R k s→(X∧L fuel s=fv)∨ ∃s',R n s'∧L fuel s=DD s':=by
  intro j
  induction j with
  |zero=>
   intro k fuel s hk hf hr
   obtain ⟨f,rfl⟩: ∃f,fuel=f+1:=⟨fuel-1,by omega⟩
   obtain rfl:k=n:=by omega
   exact .inr ⟨s,hr,hend f s hr⟩
  |succ j ih=>
   intro k fuel s hk hf hr
   obtain ⟨f,rfl⟩: ∃f,fuel=f+1:=⟨fuel-1,by omega⟩
   rcases hstep k f s (by omega) hr with h |⟨s',h1,h2⟩
   ·exact .inl h
   ·rw [h2];exact ih (k+1) f s' (by omega) (by omega) h1
 exact go n 0 ah s (by omega) (qh hn) h0
structure TI (B:Nat) (ls:List Ln) (on:List Bool) (pts:List (Int×Int)) (K:Nat) (feed parent:List Int) (ord:List Nat):Prop where
 lf:feed.length=B
 lp:parent.length=B
 nd:ord.Nodup
 lt: ∀b∈ord,b<B
 mem: ∀b,b<B→(b∈ord↔0≤feed.getD b 0)
 snd: ∀b∈ord,∃g,g<K∧aG pts g=true∧feed.getD b 0=(g:Int)∧Cn (aw ls on) g b
 own: ∀g,g<K→aG pts g=true→g∈ord∧parent.getD g 0= -1
 out: ∀b,b<B→b∉ord→parent.getD b 0= -1
 par: ∀b∈ord,(aG pts b=true∧b<K)∨ ∃j c,parent.getD b 0=((j:Nat):Int)∧Lk ls on j b c∧c∈ord∧ord.idxOf c<ord.idxOf b
theorem Fx {l:List Nat} {a c:Nat} (h:a∈l):(l++ [c]).idxOf a=l.idxOf a:=by rw [List.idxOf_append,if_pos h]
theorem VG {l:List Nat} {c:Nat} (h:c∉l):(l++ [c]).idxOf c=l.length:=by
 rw [List.idxOf_append,if_neg h];simp
theorem wU: ∀(B:Nat) (l:List Nat),l.Nodup→(∀b∈l,b<B)→l.length≤B
 |0,l,_,h=>by
  cases l with
  |nil=>simp
  |cons x l=>have:=h x (by simp);omega
 |B+1,l,hn,h=>by
  by_cases hm:B∈l
  ·have h1:=wU B (l.erase B) (hn.erase B) (fun b hb=>by
    have h2:=(hn.mem_erase_iff).1 hb
    have:=h b h2.2
    have:=h2.1
    omega)
   rw [List.length_erase_of_mem hm] at h1
   omega
  ·have h1:=wU B l hn (fun b hb=>by
    have:=h b hb
    have:b≠B:=fun e=>hm (e▸hb)
    omega)
   omega
theorem JP {l:List Nat} {c:Nat} (h:l.Nodup) (hc:c∉l):(l++ [c]).Nodup:=by
 rw [List.nodup_append]
 exact ⟨h,by simp,fun a ha b hb=>by obtain rfl:b=c:=by simpa using hb
                                    exact fun e=>hc (e▸ha)⟩
section
variable {B:Nat} {ls:List Ln} {on:List Bool} {pts:List (Int×Int)} {K:Nat} {feed parent:List Int} {ord:List Nat}
theorem TI.add (T:TI B ls on pts K feed parent ord) {f b c j:Nat} (hf:f<K) (hff:aG pts f=true) (hb:b∈ord) (hfb:Cn (aw ls on) f b) (hl:Lk ls on j b c) (hc:c<B) (hn:c∉ord):TI B ls on pts K (feed.set c (f:Int)) (parent.set c (j:Int)) (ord++ [c]):=by
 have hcf:c<feed.length:=by rw [T.lf];exact hc
 have hcp:c<parent.length:=by rw [T.lp];exact hc
 have hne: ∀x∈ord,c≠x:=fun x hx e=>hn (e▸hx)
 refine ⟨by rw [List.length_set];exact T.lf,by rw [List.length_set];exact T.lp,JP T.nd hn,fun x hx=>?_,fun x hx=>?_,fun x hx=>?_,fun g hg hgf=>?_,fun x hx hxn=>?_,fun x hx=>?_⟩
 ·rcases List.mem_append.1 hx with hx |hx
  ·exact T.lt x hx
  ·obtain rfl:x=c:=by simpa using hx
   exact hc
 ·by_cases e:c=x
  ·subst e;rw [wh hcf];simp
  ·rw [fJ e,←T.mem x hx];simp [Ne.symm e]
 ·rcases List.mem_append.1 hx with hx |hx
  ·rw [fJ (hne x hx)];exact T.snd x hx
  ·obtain rfl:x=c:=by simpa using hx
   rw [wh hcf];exact ⟨f,hf,hff,rfl,hfb.trans hl.cn⟩
 ·have:=T.own g hg hgf
  rw [fJ (hne g this.1)];exact ⟨by simp [this.1],this.2⟩
 ·have h1:x∉ord∧x≠c:=by simpa using hxn
  rw [fJ (Ne.symm h1.2)];exact T.out x hx h1.1
 ·rcases List.mem_append.1 hx with hx |hx
  ·rw [fJ (hne x hx)]
   rcases T.par x hx with h |⟨i,d,h1,h2,h3,h4⟩
   ·exact .inl h
   ·exact .inr ⟨i,d,h1,h2,by simp [h3],by rw [Fx h3,Fx hx];exact h4⟩
  ·obtain rfl:x=c:=by simpa using hx
   refine .inr ⟨j,b,wh hcp,?_,by simp [hb],?_⟩
   ·obtain ⟨h1,h2,h3⟩:=hl
    exact ⟨h1,h2,h3.symm⟩
   ·rw [Fx hb,VG hn];exact List.idxOf_lt_length_iff.2 hb
theorem TI.start (T:TI B ls on pts K feed parent ord) (hK:K<B) (hff:aG pts K=true) (hn:K∉ord):TI B ls on pts (K+1) (feed.set K (K:Int)) parent (ord++ [K]):=by
 have hcf:K<feed.length:=by rw [T.lf];exact hK
 have hne: ∀x∈ord,K≠x:=fun x hx e=>hn (e▸hx)
 refine ⟨by rw [List.length_set];exact T.lf,T.lp,JP T.nd hn,fun x hx=>?_,fun x hx=>?_,fun x hx=>?_,fun g hg hgf=>?_,fun x hx hxn=>?_,fun x hx=>?_⟩
 ·rcases List.mem_append.1 hx with hx |hx
  ·exact T.lt x hx
  ·obtain rfl:x=K:=by simpa using hx
   exact hK
 ·by_cases e:K=x
  ·subst e;rw [wh hcf];simp
  ·rw [fJ e,←T.mem x hx];simp [Ne.symm e]
 ·rcases List.mem_append.1 hx with hx |hx
  ·rw [fJ (hne x hx)]
   obtain ⟨g,h1,h2⟩:=T.snd x hx
   exact ⟨g,by omega,h2⟩
  ·obtain rfl:x=K:=by simpa using hx
   rw [wh hcf];exact ⟨x,by omega,hff,rfl,.refl _⟩
 ·by_cases e:g=K
  ·subst e;exact ⟨by simp,T.out g hK hn⟩
  ·have:=T.own g (by omega) hgf
   exact ⟨by simp [this.1],this.2⟩
 ·have h1:x∉ord∧x≠K:=by simpa using hxn
  exact T.out x hx h1.1
 ·rcases List.mem_append.1 hx with hx |hx
  ·rcases T.par x hx with h |⟨i,d,h1,h2,h3,h4⟩
   ·exact .inl ⟨h.1,by omega⟩
   ·exact .inr ⟨i,d,h1,h2,by simp [h3],by rw [Fx h3,Fx hx];exact h4⟩
  ·obtain rfl:x=K:=by simpa using hx
   exact .inl ⟨hff,by omega⟩
theorem TI.skip (T:TI B ls on pts K feed parent ord) (hff:aG pts K=false):TI B ls on pts (K+1) feed parent ord:=by
 refine ⟨T.lf,T.lp,T.nd,T.lt,T.mem,fun x hx=>?_,fun g hg hgf=>?_,T.out,fun x hx=>?_⟩
 ·obtain ⟨g,h1,h2⟩:=T.snd x hx
  exact ⟨g,by omega,h2⟩
 ·have:g≠K:=fun e=>by rw [e,hff] at hgf;cases hgf
  exact T.own g (by omega) hgf
 ·rcases T.par x hx with h |h
  ·exact .inl ⟨h.1,by omega⟩
  ·exact .inr h
theorem TI.len (T:TI B ls on pts K feed parent ord):ord.length≤B:=by
 exact wU B ord T.nd T.lt
def Cl (ls:List Ln) (on:List Bool) (ord:List Nat) (m:Nat):Prop:= ∀i,i<m→ ∀j c,Lk ls on j (ord.getD i 0) c→c∈ord
theorem Cl.mem {m:Nat} (h:Cl ls on ord m) (hm:m=ord.length) {b c:Nat} (hb:b∈ord) (hc:Cn (aw ls on) b c):c∈ord:=by
 induction hc with
 |refl=>exact hb
 | @step c d _ e ih=>
  obtain ⟨i,hi,rfl⟩:=List.mem_iff_getElem.1 ih
  have hl: ∃j,Lk ls on j ord[i] d:=by
   rcases e with e |e
   ·obtain ⟨j,h1,h2,h3⟩:=FP.1 e
    exact ⟨j,h1,h2,.inl h3.symm⟩
   ·obtain ⟨j,h1,h2,h3⟩:=FP.1 e
    exact ⟨j,h1,h2,.inr h3.symm⟩
  obtain ⟨j,hl⟩:=hl
  exact h i (by omega) j d (by rw [ac hi];exact hl)
end
section
variable {B:Nat} {ls:List Ln} {on:List Bool} {pts:List (Int×Int)} (h:StOk (B:Int) ls on)
include h
theorem Pc {k b:Nat} (hk:k<ls.length): ∃z,fT (ls.getD k (0,0,0)).1 (ls.getD k (0,0,0)).2.1 (ls.getD k (0,0,0)).2.2 (b:Int)=some z∧((z= -1∧ ∀c,¬Lk ls on k b c)∨ ∃c,z=((c:Nat):Int)∧c<B∧(on.getD k false=true→Lk ls on k b c)∧ ∀d,Lk ls on k b d→d=c):=by
 have hl:=h.net.ln k hk
 have hln:=zG hl
 simp only [Int.toNat_natCast] at hln
 have hne:=hl.ne
 unfold fT
 rw [hln.1,hln.2.1] at hne ⊢
 have key: ∀d,Lk ls on k b d→((bS (ls.getD k (0,0,0))).1=b∧(bS (ls.getD k (0,0,0))).2=d)∨((bS (ls.getD k (0,0,0))).1=d∧(bS (ls.getD k (0,0,0))).2=b):=by
  rintro d ⟨_,_,h3⟩
  rcases h3 with h3 |h3<;>rw [h3]<;>simp
 by_cases e1:b=(bS (ls.getD k (0,0,0))).1
 ·have:((b:Int)==(((bS (ls.getD k (0,0,0))).1:Nat):Int))=true:=by rw [beq_iff_eq,←e1]
  rw [this]
  refine ⟨_,rfl,.inr ⟨_,rfl,hln.2.2.2,fun ho=>⟨hk,ho,.inl (by rw [e1])⟩,fun d hd=>?_⟩⟩
  rcases key d hd with g |g
  ·exact g.2.symm
  ·omega
 ·have e1':((b:Int)==(((bS (ls.getD k (0,0,0))).1:Nat):Int))=false:=by rw [beq_eq_false_iff_ne];omega
  rw [e1',cond_false]
  by_cases e2:b=(bS (ls.getD k (0,0,0))).2
  ·have:((b:Int)==(((bS (ls.getD k (0,0,0))).2:Nat):Int))=true:=by rw [beq_iff_eq,←e2]
   rw [this]
   refine ⟨_,rfl,.inr ⟨_,rfl,hln.2.2.1,fun ho=>⟨hk,ho,.inr (by rw [e2])⟩,fun d hd=>?_⟩⟩
   rcases key d hd with g |g
   ·omega
   ·exact g.1.symm
  ·have e2':((b:Int)==(((bS (ls.getD k (0,0,0))).2:Nat):Int))=false:=by rw [beq_eq_false_iff_ne];omega
   rw [e2',cond_false]
   refine ⟨_,rfl,.inl ⟨rfl,fun d hd=>?_⟩⟩
   rcases key d hd with g |g<;>omega
omit h in
theorem Xp (l:List Nat) (c:Nat):zl l++ [(c:Int)]=zl (l++ [c]):=by simp [zl]
theorem VB {F0 P0:List Int} (hF:F0.length=B) (hP:P0.length=B) {K f b from_:Nat} {feed parent:List Int} {ord:List Nat} (hf:f<K) (hff:aG pts f=true) (hb:ord.getD from_ 0=b) (hfr:from_<ord.length) (hfb:Cn (aw ls on) f b) (T:TI B ls on pts K feed parent ord):
 ∃feed' parent' t,cF ls F0 P0 on (f:Int) ((from_:Int),feed,parent,zl ord) ah (0,feed,parent,zl ord)=some (feed',parent',zl (ord++t))∧TI B ls on pts K feed' parent' (ord++t)∧(∀j c,Lk ls on j b c→c∈ord++t)∧ ∀x∈t,Cn (aw ls on) f x:=by
 have hll:=h.net.ll;have hl:=h.len;have hB:=h.net.b1
 have hbo:b∈ord:=by rw [←hb,ac hfr];exact List.getElem_mem hfr
 obtain ⟨s,⟨feed',parent',t,rfl,r1,r2,r3⟩,h2⟩:=wS (cF ls F0 P0 on (f:Int) ((from_:Int),feed,parent,zl ord))
  (fun k s=> ∃feed' parent' t,s=((k:Int),feed',parent',zl (ord++t))∧TI B ls on pts K feed' parent' (ord++t)∧(∀j,j<k→ ∀c,Lk ls on j b c→c∈ord++t)∧ ∀x∈t,Cn (aw ls on) f x) ls.length (fun s=>some (s.2.1,s.2.2.1,s.2.2.2)) (by omega) (by
   rintro k fuel s hk ⟨feed',parent',t,rfl,r1,r2,r3⟩
   rw [pJ,ep]
   obtain ⟨z,z1,z2⟩:=Pc h (b:=b) hk
   have hget:(zl ord).getD (from_:Int).toNat 0=(b:Int):=by rw [Int.toNat_natCast,tT,hb]
   simp only [au hk,ae hk,ae (show k<on.length by omega),aa,cond_true,Int.toNat_natCast,ab (by omega:k<4611686018427387904),tT,hb,z1,Option.bind_some,hF,hP]
   have hlen:=r1.len
   rcases z2 with ⟨rfl,z3⟩ |⟨c,rfl,hcB,z3,z4⟩
   ·have:aF 0 (-1)=false:=rfl
    simp only [this,Bool.and_false,Bool.false_and,Bool.not_false,Bool.true_or,aa,cond_false,Option.bind_some]
    refine ⟨_,⟨feed',parent',t,rfl,r1,fun j hj c hc=>?_,r3⟩,rfl⟩
    by_cases e:j=k
    ·subst e;exact absurd hc (z3 c)
    ·exact r2 j (by omega) c hc
   ·have hge:aF 0 (c:Int)=true:=by simp [aF]
    simp only [hge,ae hcB,Bool.and_true,Bool.or_true,aa,Int.toNat_natCast]
    by_cases hc:on.getD k false=true∧c∉ord++t
    ·have hcf:af (feed'.getD c 0) 0=true:=by
      have: ¬0≤feed'.getD c 0:=fun g=>hc.2 ((r1.mem c hcB).2 g)
      simp only [af,decide_eq_true_eq];omega
     have ha:bw (zl (ord++t)).length ([(c:Int)]:List Int).length=true:=by rw [bR];simp [bw];simp at hlen;omega
     simp only [hc.1,hcf,Bool.and_self,cond_true,ha,aa,Option.bind_some]
     rw [Xp,List.append_assoc]
     have hlk:=z3 hc.1
     refine ⟨_,⟨_,_,t++ [c],rfl,?_,fun j hj d hd=>?_,fun x hx=>?_⟩,rfl⟩
     ·rw [←List.append_assoc]
      exact r1.add hf hff (by simp [hbo]) hfb hlk hcB hc.2
     ·by_cases e:j=k
      ·subst e;rw [z4 d hd];simp
      ·have:=r2 j (by omega) d hd
       rw [←List.append_assoc];exact List.mem_append_left _ this
     ·rcases List.mem_append.1 hx with hx |hx
      ·exact r3 x hx
      ·obtain rfl:x=c:=by simpa using hx
       exact hfb.trans hlk.cn
    ·have hcf:(on.getD k false&&af (feed'.getD c 0) 0)=false:=by
      cases ho:on.getD k false
      ·rfl
      ·have hm:c∈ord++t:=Classical.byContradiction fun hn=>hc ⟨ho,hn⟩
       have:=(r1.mem c hcB).1 hm
       simp only [Bool.true_and,af,decide_eq_false_iff_not];omega
     simp only [hcf,cond_false,Option.bind_some]
     refine ⟨_,⟨feed',parent',t,rfl,r1,fun j hj d hd=>?_,r3⟩,rfl⟩
     by_cases e:j=k
     ·subst e
      rw [z4 d hd]
      exact Classical.byContradiction fun hn=>hc ⟨hd.2.1,hn⟩
     ·exact r2 j (by omega) d hd) (by
   rintro fuel s ⟨feed',parent',t,rfl,r1,r2,r3⟩
   rw [pJ,ep];simp only [ak,cond_false]) (0,feed,parent,zl ord) ⟨feed,parent,[],by simp,by simpa using T,fun j hj=>absurd hj (Nat.not_lt_zero _),fun x hx=>by simp at hx⟩
 exact ⟨feed',parent',t,h2,r1,fun j c hc=>r2 j hc.1 c hc,r3⟩
theorem VA {F0 P0:List Int} (hF:F0.length=B) (hP:P0.length=B) {K f n0:Nat} (hf:f<K) (hff:aG pts f=true): ∀(m from_ fuel:Nat) (feed parent:List Int) (ord:List Nat),B≤m+from_→m<fuel→n0≤from_→from_≤ord.length→(∀i,n0≤i→i<ord.length→Cn (aw ls on) f (ord.getD i 0))→Cl ls on ord from_→TI B ls on pts K feed parent ord→
 ∃feed' parent' ord',fl ls F0 P0 on (f:Int) fuel ((from_:Int),feed,parent,zl ord)=some (feed',parent',zl ord')∧TI B ls on pts K feed' parent' ord'∧Cl ls on ord' ord'.length∧ ∀x∈ord,x∈ord':=by
 have hB:=h.net.b1
 intro m
 induction m with
 |zero=>
  intro from_ fuel feed parent ord h1 h2 h3 h4 h5 h6 T
  obtain ⟨g,rfl⟩: ∃g,fuel=g+1:=⟨fuel-1,by omega⟩
  have hlen:=T.len
  have e:from_=ord.length:=by omega
  rw [pI,eo]
  have:af (from_:Int) ((zl ord).length:Int)=false:=by rw [bR,e];exact ak
  simp only [this,cond_false]
  exact ⟨feed,parent,ord,rfl,T,e▸h6,fun x hx=>hx⟩
 |succ m ih=>
  intro from_ fuel feed parent ord h1 h2 h3 h4 h5 h6 T
  obtain ⟨g,rfl⟩: ∃g,fuel=g+1:=⟨fuel-1,by omega⟩
  have hlen:=T.len
  rw [pI,eo]
  by_cases e:from_=ord.length
  ·have:af (from_:Int) ((zl ord).length:Int)=false:=by rw [bR,e];exact ak
   simp only [this,cond_false]
   exact ⟨feed,parent,ord,rfl,T,e▸h6,fun x hx=>hx⟩
  ·have hlt:from_<ord.length:=by omega
   obtain ⟨feed',parent',t,r0,r1,r2,r3⟩:=VB h hF hP hf hff rfl hlt (h5 from_ h3 hlt) T
   have hlen2:=r1.len
   simp only [bR,au hlt,ae hlt,cond_true,aa,r0,Option.bind_some,ab (by omega:from_<4611686018427387904)]
   have hget: ∀i,i<ord.length→(ord++t).getD i 0=ord.getD i 0:=fun i hi=>by simp [List.getD,List.getElem?_append_left hi]
   obtain ⟨feed2,parent2,ord2,s1,s2,s3,s4⟩:=ih (from_+1) g feed' parent' (ord++t) (by omega) (by omega) (by omega) (by simp;omega) (fun i hi1 hi2=>by
    by_cases hi:i<ord.length
    ·rw [hget i hi];exact h5 i hi1 hi
    ·rw [ac hi2,List.getElem_append_right (by omega)]
     exact r3 _ (List.getElem_mem _)) (fun i hi j c hc=>by
    rw [hget i (by omega)] at hc
    by_cases e2:i=from_
    ·subst e2;exact r2 j c hc
    ·exact List.mem_append_left _ (h6 i (by omega) j c hc)) r1
   exact ⟨feed2,parent2,ord2,s1,s2,s3,fun x hx=>s4 x (by simp [hx])⟩
theorem Yl {K:Nat} {feed parent:List Int} {ord:List Nat} (hK:K<B) (hff:aG pts K=true) (hn:K∉ord) (hcl:Cl ls on ord ord.length) (T:TI B ls on pts K feed parent ord) (y:Int):
 ∃feed' parent' ord',jH y ls (feed.set K (K:Int)) parent (zl ord) on (K:Int)=some (y,feed',parent',zl ord')∧TI B ls on pts (K+1) feed' parent' ord'∧Cl ls on ord' ord'.length∧ ∀x∈ord++ [K],x∈ord':=by
 have hB:=h.net.b1
 have hlen:=T.len
 have T2:=T.start hK hff hn
 obtain ⟨feed',parent',ord',h1,h2,h3,h4⟩:=VA h (F0:=feed.set K (K:Int)) (P0:=parent) T2.lf T2.lp (K:=K+1) (f:=K) (n0:=ord.length) (by omega) hff B ord.length ah (feed.set K (K:Int)) parent (ord++ [K]) (by omega) (qh (by omega)) (by omega) (by simp) (fun i hi1 hi2=>by
  have:i=ord.length:=by simp at hi2;omega
  subst this
  rw [ac hi2];simp;exact .refl _) (fun i hi j c hc=>by
  have:(ord++ [K]).getD i 0=ord.getD i 0:=by simp [List.getD,List.getElem?_append_left hi]
  rw [this] at hc
  exact List.mem_append_left _ (hcl i hi j c hc)) T2
 refine ⟨feed',parent',ord',?_,h2,h3,h4⟩
 unfold jH
 have ha:bw (zl ord).length ([(K:Int)]:List Int).length=true:=by rw [bR];simp [bw];omega
 rw [ha,aa,Xp,bR,h1];rfl
end
structure TreeOk (ls:List Ln) (on:List Bool) (pts:List (Int×Int)) (feed parent:List Int) (ord:List Nat):Prop where
 lf:feed.length=pts.length
 lp:parent.length=pts.length
 nd:ord.Nodup
 mem: ∀b,b∈ord↔b<pts.length∧ie (aw ls on) pts b=true
 fd: ∀b f,b<pts.length→(feed.getD b 0=((f:Nat):Int)↔aG pts f=true∧Cn (aw ls on) f b)
 par:Par ls on pts (fun b=>parent.getD b (-1)) (fun b=>ord.idxOf b)
theorem TI.tree {ls:List Ln} {on:List Bool} {pts:List (Int×Int)} {feed parent:List Int} {ord:List Nat} (T:TI pts.length ls on pts pts.length feed parent ord) (hcl:Cl ls on ord ord.length) (hnj: ∀f g,aG pts f=true→aG pts g=true→Cn (aw ls on) f g→f=g):TreeOk ls on pts feed parent ord:=by
 have hmem: ∀b,b∈ord↔b<pts.length∧ie (aw ls on) pts b=true:=by
  intro b
  constructor
  ·intro hb
   obtain ⟨g,h1,h2,_,h3⟩:=T.snd b hb
   exact ⟨T.lt b hb,nf.2 ⟨g,h2,h3⟩⟩
  ·rintro ⟨hb,hf⟩
   obtain ⟨f,h1,h2⟩:=nf.1 hf
   exact hcl.mem rfl (T.own f (qV h1) h1).1 h2
 have hd: ∀b,b<pts.length→parent.getD b (-1)=parent.getD b 0:=fun b hb=>by rw [ac (by rw [T.lp];exact hb),ac (by rw [T.lp];exact hb)]
 refine ⟨T.lf,T.lp,T.nd,hmem,fun b f hb=>?_,⟨fun b hb hf=>?_,fun b hb=>?_,fun b hb=>?_⟩⟩
 ·constructor
  ·intro e
   obtain ⟨g,h1,h2,h3,h4⟩:=T.snd b ((T.mem b hb).2 (by rw [e];omega))
   have:f=g:=by rw [e] at h3;omega
   subst this;exact ⟨h2,h4⟩
  ·rintro ⟨h1,h2⟩
   obtain ⟨g,g1,g2,g3,g4⟩:=T.snd b ((hmem b).2 ⟨hb,nf.2 ⟨f,h1,h2⟩⟩)
   rw [g3,hnj f g h1 g2 (h2.trans g4.symm)]
 ·rw [hd b hb]
  rcases T.par b ((hmem b).2 ⟨hb,hf⟩) with g |⟨j,c,g,_⟩
  ·exact .inl g.1
  ·exact .inr (by rw [g];omega)
 ·have hlt:=qV hb
  rw [hd b hlt,(T.own b hlt hb).2];omega
 ·have hlt:b<pts.length:=by
   rcases Nat.lt_or_ge b pts.length with h1 |h1
   ·exact h1
   ·rw [List.getD_eq_getElem?_getD,List.getElem?_eq_none (by rw [T.lp];exact h1)] at hb;simp at hb
  rw [hd b hlt] at hb ⊢
  have hbo:b∈ord:=Classical.byContradiction fun hn=>by rw [T.out b hlt hn] at hb;omega
  rcases T.par b hbo with g |⟨j,c,g1,g2,g3,g4⟩
  ·rw [(T.own b g.2 g.1).2] at hb;omega
  ·rw [g1]
   exact ⟨c,by simpa using g2,T.lt c g3,((hmem c).1 g3).2,g4⟩
theorem adP {pts:List (Int×Int)} {b:Int} {ls:List Ln} (h:BusOk b ls pts) {k:Nat} (hk:k<pts.length):((pts.getD k (0,0)).1==0)= !aG pts k:=by
 have:=(h.bs k hk).1
 unfold aG
 rw [Bool.eq_iff_iff];simp only [beq_iff_eq,Bool.not_eq_true',decide_eq_false_iff_not];omega
theorem VE (b:Int) (ls:List Ln) (on:List Bool) (pts:List (Int×Int)) (hp:pts.length≤1048576):
 ∃r,kI b ls on pts=some r∧r.2.2.2.2.2=wZ b ls on pts∧(wZ b ls on pts=true→r.1=b∧r.2.1=true∧ ∃ord,r.2.2.2.2.1=zl ord∧TreeOk ls on pts r.2.2.1 r.2.2.2.1 ord):=by
 unfold kI wZ
 rw [Yk b ls pts hp,Option.bind_some]
 cases hv:OY b ls on pts
 ·exact ⟨_,rfl,rfl,fun e=>by cases e⟩
 obtain ⟨h1,h2⟩:=fB.1 hv
 have hlp:=h2.lp
 subst hlp
 rw [agd h1]
 simp only [Bool.not_true,Bool.not_false,cd,Option.bind_some,Bool.false_or,Bool.true_and]
 unfold nn
 rw [←aam h1.len]
 cases hc:Qj ls on
 case true=>exact ⟨_,rfl,rfl,fun e=>by cases e⟩
 have hB:=h1.net.b1
 have hm:sF (pts.length:Int)=true:=by simp [sF];omega
 simp only [cond_false,hm,aa,Int.toNat_natCast,Bool.not_false,Bool.true_and]
 have hl1:je (pts.length:Int) ah (0,List.replicate pts.length 0,List.replicate pts.length 0)=some (List.replicate pts.length (-1),List.replicate pts.length (-1)):=by
  have hh:=av (je (pts.length:Int)) (fun k=>((k:Int),List.replicate k (-1)++List.replicate (pts.length-k) 0,List.replicate k (-1)++List.replicate (pts.length-k) 0)) pts.length (some (List.replicate pts.length (-1),List.replicate pts.length (-1))) (by omega) (fun k fuel hk=>?_) (fun fuel=>?_)
  ·simpa using hh
  ·rw [vR,kU]
   simp only [au hk,Int.toNat_natCast,ae hk,cond_true,aa,ab (by omega:k<4611686018427387904)]
   have e:(List.replicate k (-1:Int)++List.replicate (pts.length-k) 0).set k (-1)=List.replicate (k+1) (-1)++List.replicate (pts.length-(k+1)) 0:=by
    rw [List.set_append_right _ _ (by simp),List.length_replicate,Nat.sub_self,show pts.length-k=(pts.length-(k+1))+1 by omega,List.replicate_succ,List.set_cons_zero,List.replicate_succ',List.append_assoc];rfl
   rw [e]
  ·rw [vR,kU]
   simp only [ak,cond_false,Nat.sub_self,List.replicate_zero,List.append_nil]
 rw [hl1,Option.bind_some]
 have hget: ∀k,k<pts.length→(List.replicate pts.length (-1:Int)).getD k 0= -1:=fun k hk=>by simp [List.getD,hk]
 have hT0:TI pts.length ls on pts 0 (List.replicate pts.length (-1)) (List.replicate pts.length (-1)) []:=
  ⟨by simp,by simp,by simp,fun b hb=>by simp at hb,fun b hb=>by rw [hget b hb];simp,fun b hb=>by simp at hb,fun g hg=>absurd hg (Nat.not_lt_zero _),fun b hb _=>hget b hb,fun b hb=>by simp at hb⟩
 have hh:=Tz (mo ls on pts) (fun k s=> ∃feed parent ord,s=((k:Int),(pts.length:Int),feed,parent,zl ord)∧TI pts.length ls on pts k feed parent ord∧Cl ls on ord ord.length∧ ∀f g,f<k→g<k→aG pts f=true→aG pts g=true→Cn (aw ls on) f g→f=g) pts.length
  (Rv (aw ls on) pts=true) (some (Sum.inr (0,false,([]:List Int),([]:List Int),([]:List Int),false))) (fun s=>some (Sum.inl (s.2.1,s.2.2.1,s.2.2.2.1,s.2.2.2.2))) (by omega) ?_ ?_ (0,(pts.length:Int),List.replicate pts.length (-1),List.replicate pts.length (-1),([]:List Int)) ⟨_,_,[],rfl,hT0,fun i hi=>absurd hi (Nat.not_lt_zero _),fun f g hf=>absurd hf (Nat.not_lt_zero _)⟩
 ·rcases hh with ⟨x1,x2⟩ |⟨s,⟨feed,parent,ord,rfl,t1,t2,t3⟩,x2⟩
  ·rw [x2,x1]
   exact ⟨_,rfl,rfl,fun e=>by cases e⟩
  ·rw [x2]
   have hnj: ∀f g,aG pts f=true→aG pts g=true→Cn (aw ls on) f g→f=g:=fun f g hf hg=>t3 f g (qV hf) (qV hg) hf hg
   rw [Ko.2 hnj]
   exact ⟨_,rfl,rfl,fun _=>⟨rfl,rfl,ord,rfl,t1.tree t2 hnj⟩⟩
 ·rintro k fuel s hk ⟨feed,parent,ord,rfl,t1,t2,t3⟩
  rw [vS,kV]
  simp only [au hk,ae hk,cond_true,aa,Int.toNat_natCast,ab (by omega:k<4611686018427387904),adP h2 hk]
  cases hf:aG pts k
  ·right
   simp only [Bool.not_false,cond_true,Option.bind_some,Sum.elim_inl]
   refine ⟨_,⟨feed,parent,ord,rfl,t1.skip hf,t2,fun f g hfk hgk hff hgf=>?_⟩,rfl⟩
   have e1:f≠k:=fun e=>by rw [e,hf] at hff;cases hff
   have e2:g≠k:=fun e=>by rw [e,hf] at hgf;cases hgf
   exact t3 f g (by omega) (by omega) hff hgf
  ·have hx:aq (k:Int) feed.length=true:=by rw [t1.lf];exact ae hk
   simp only [Bool.not_true,cond_false,hx,aa]
   by_cases hko:k∈ord
   ·left
    have h0:=(t1.mem k hk).1 hko
    have:aF 0 (feed.getD k 0)=true:=by simpa [aF] using h0
    simp only [this,cond_true,Option.bind_some,Sum.elim_inr]
    refine ⟨?_,trivial⟩
    obtain ⟨g,g1,g2,_,g4⟩:=t1.snd k hko
    cases htw:Rv (aw ls on) pts
    ·have:=Ko.1 htw g k g2 hf g4;omega
    ·rfl
   ·right
    have h0: ¬0≤feed.getD k 0:=fun g=>hko ((t1.mem k hk).2 g)
    have:aF 0 (feed.getD k 0)=false:=by simp only [aF,decide_eq_false_iff_not];exact h0
    obtain ⟨feed',parent',ord',s1,s2,s3,s4⟩:=Yl h1 hk hf hko t2 t1 (pts.length:Int)
    simp only [this,cond_false,s1,Option.bind_some,Sum.elim_inl]
    refine ⟨_,⟨feed',parent',ord',rfl,s2,s3,fun f g hfk hgk hff hgf hcn=>?_⟩,rfl⟩
    have key: ∀a,a<k→aG pts a=true→ ¬Cn (aw ls on) a k:=fun a ha hfa hcn=>hko (t2.mem rfl (t1.own a ha hfa).1 hcn)
    by_cases e1:f=k
    ·by_cases e2:g=k
     ·omega
     ·exact absurd (e1▸hcn).symm (key g (by omega) hgf)
    ·by_cases e2:g=k
     ·exact absurd (e2▸hcn) (key f (by omega) hff)
     ·exact t3 f g (by omega) (by omega) hff hgf hcn
 ·rintro fuel s ⟨feed,parent,ord,rfl,t1,t2,t3⟩
  rw [vS,kV];simp only [ak,cond_false]
theorem Sa (b:Int) (ls:List Ln) (on:List Bool) (pts:List (Int×Int)) (hp:pts.length≤1048576):ij b ls on pts=some (wZ b ls on pts):=by
 obtain ⟨r,h1,h2,_⟩:=VE b ls on pts hp
 unfold ij
 rw [h1,Option.bind_some,h2]
theorem IB (b:Int) (ls:List Ln) (on:List Bool) (pts:List (Int×Int)) (hp:pts.length≤1048576):eD b ls on pts=some (wZ b ls on pts):=by
 unfold eD wZ
 rw [Ub b ls pts hp,Option.bind_some]
 cases hv:OY b ls on pts
 ·rfl
 obtain ⟨h1,h2⟩:=fB.1 hv
 have hlp:=h2.lp
 subst hlp
 have hB:=h1.net.b1
 rw [agn h1]
 simp only [Bool.not_true,Bool.not_false,cd,Option.bind_some,Bool.false_or,Bool.true_and]
 unfold nn
 cases hc:Qk ls on
 case true=>rfl
 simp only [cond_false,Bool.not_false,Bool.true_and]
 have hh:=bW (jk (pts.length:Int) ls on pts) (fun k=>(k:Int)) pts.length (fun k=>(List.range k).any fun j=>aG pts k&&aG pts j&&aP (aw ls on) j==aP (aw ls on) k) (some (.inr false)) (some (.inl ())) (by omega) (fun k fuel hk=>?_) (fun fuel=>?_)
 ·rw [show jk (pts.length:Int) ls on pts ah 0=_ from hh]
  show _=some (!Rv (aw ls on) pts)
  unfold Rv
  cases (List.range pts.length).any _<;>rfl
 ·rw [vX,lC]
  have h3:=bW (jl (pts.length:Int) ls on pts (k:Int)) (fun j=>(j:Int)) k (fun j=>aG pts k&&aG pts j&&aP (aw ls on) j==aP (aw ls on) k) (some (.inr false)) (some (.inl ())) (by omega) (fun j fuel hj=>?_) (fun fuel=>?_)
  ·simp only [au hk,cond_true,ab (by omega:k<4611686018427387904)]
   rw [show jl (pts.length:Int) ls on pts (k:Int) ah 0=_ from h3]
   cases (List.range k).any _<;>rfl
  ·rw [vY,lD]
   have hj2:j<pts.length:=by omega
   simp only [au hj,ae hk,ae hj2,cond_true,aa,Bool.or_true,Int.toNat_natCast,ab (by omega:j<4611686018427387904),ZT h1 hj2 hk]
   rw [show af 0 (pts.getD k (0,0)).1=aG pts k from rfl,show af 0 (pts.getD j (0,0)).1=aG pts j from rfl]
   cases aG pts k<;>cases aG pts j<;>cases aP (aw ls on) j==aP (aw ls on) k<;>rfl
  ·rw [vY,lD];simp only [ak,cond_false]
 ·rw [vX,lC];simp only [ak,cond_false]
theorem oe {Out:Type} (L:Nat→(List Int×Int)→Option Out) (n:Nat) (p:Nat→Bool) (DD:List Int→Option Out) (hn:n≤1099511627775) (hstep: ∀k fuel (l:List Int),k<n→bw l.length ([(k:Int)]:List Int).length=true→L (fuel+1) (l,(k:Int))=L fuel (bif p k then l++ [(k:Int)] else l,((k+1:Nat):Int)))
 (hend: ∀fuel (l:List Int),L (fuel+1) (l,(n:Int))=DD l):L ah (([]:List Int),0)=DD (zl ((List.range n).filter p)):=by
 have hh:=av L (fun k=>(zl ((List.range k).filter p),(k:Int))) n (DD (zl ((List.range n).filter p))) (by omega) (fun k fuel hk=>?_) (fun fuel=>hend fuel _)
 ·exact hh
 ·have hl:=List.length_filter_le p (List.range k)
  rw [List.length_range] at hl
  rw [hstep k fuel _ hk (by rw [bR];simp [bw];omega),List.range_succ,List.filter_append,List.filter_cons,List.filter_nil]
  congr 2
  cases p k<;>simp [zl]
theorem Ro (l:List Nat) (p:Nat→Bool) (f:Nat→Int):((l.filter p).map f).sum=(l.map fun c=>if p c=true then f c else 0).sum:=by
 induction l with
 |nil=>rfl
 |cons x l ih=>
  rw [List.filter_cons,List.map_cons,List.sum_cons,←ih]
  split
  ·rename_i h;rw [List.map_cons,List.sum_cons]
  ·rename_i h;omega
def mY (E:Ed) (pts:List (Int×Int)) (f:Int×Int→Int) (k j:Nat):Int:=((List.range k).map fun c=>if aP E c=j then f (pts.getD c (0,0)) else 0).sum
theorem WX (E:Ed) (pts:List (Int×Int)) (f:Int×Int→Int) (j:Nat):mY E pts f 0 j=0:=rfl
theorem NC (E:Ed) (pts:List (Int×Int)) (f:Int×Int→Int) (k j:Nat):mY E pts f (k+1) j=mY E pts f k j+(if aP E k=j then f (pts.getD k (0,0)) else 0):=by
 unfold mY
 rw [List.range_succ,List.map_append,List.sum_append];simp
theorem Rm (E:Ed) (pts:List (Int×Int)) (f:Int×Int→Int) (b:Nat):cR E pts f b=mY E pts f pts.length (aP E b):=rfl
theorem xH (E:Ed) (pts:List (Int×Int)) (f:Int×Int→Int) (hf: ∀c,c<pts.length→0≤f (pts.getD c (0,0))∧f (pts.getD c (0,0))≤999) (j:Nat): ∀k,k≤pts.length→0≤mY E pts f k j∧mY E pts f k j≤999*k
 |0,_=>by rw [WX];omega
 |k+1,hk=>by
  have ih:=xH E pts f hf j k (by omega)
  have:=hf k (by omega)
  rw [NC]
  split<;>omega
theorem aaE (S:Nat→Int) {r:Nat} (hr:r<8):([S 0,S 1,S 2,S 3,S 4,S 5,S 6,S 7]:List Int).getD r 0=S r:=by
 match r,hr with
 |0,_=>rfl
 |1,_=>rfl
 |2,_=>rfl
 |3,_=>rfl
 |4,_=>rfl
 |5,_=>rfl
 |6,_=>rfl
 |7,_=>rfl
theorem DG {S T:Nat→Int} {r j:Nat} {z x y:Int} (hT:T j=S j+(if r=j then x else 0)) (hz:z=(j:Int)) (hy:y=S r+x):(bif ((r:Nat):Int)==z then y else S j)=T j:=by
 subst hz
 rw [hT,hy]
 by_cases h:r=j
 ·subst h;simp
 ·have:(((r:Nat):Int)==((j:Nat):Int))=false:=by rw [beq_eq_false_iff_ne];omega
  rw [this,if_neg h];simp
abbrev T16:=Int×Int×Int×Int×Int×Int×Int×Int×Int×Int×Int×Int×Int×Int×Int×Int
def Xa (S T:Nat→Int):T16:=(S 0,S 1,S 2,S 3,S 4,S 5,S 6,S 7,T 0,T 1,T 2,T 3,T 4,T 5,T 6,T 7)
section
variable {b:Int} {ls:List Ln} {on:List Bool} (h:StOk b ls on)
include h
theorem VF: ∃u,lU b ls on=some (zl u)∧UR u b.toNat (aP (aw ls on)):=by
 have hb:=h.net.b0;have hb1:=h.net.b1;have hll:=h.net.ll;have hl:=h.len
 obtain ⟨B,rfl⟩: ∃B:Nat,b=(B:Int):=⟨b.toNat,by omega⟩
 obtain ⟨n1,n2⟩:=ad6 (B:=B) (by omega)
 obtain ⟨s,⟨u,rfl,hu⟩,h2⟩:=wS (kY ls on) (fun k s=> ∃u,s=(zl u,(k:Int))∧UR u B (aP (wX ((ls.zip on).take k)))) ls.length (fun s=>some s.1) (by omega) (by
  rintro k fuel s hk ⟨u,rfl,hu⟩
  rw [uo,jI]
  have hln:=zG (h.net.ln k hk)
  simp only [Int.toNat_natCast] at hln
  simp only [au hk,ae hk,ae (show k<on.length by omega),aa,cond_true,Int.toNat_natCast,ab (by omega:k<4611686018427387904)]
  rw [hln.1,hln.2.1]
  cases ho:on.getD k false
  ·refine ⟨_,⟨u,rfl,?_⟩,rfl⟩
   rw [xL h hk,ho];exact hu
  ·obtain ⟨x,j1,j2⟩:=ZC hu (by omega) hln.2.2.1 hln.2.2.2
   simp only [cond_true,j1,Option.bind_some]
   refine ⟨_,⟨x,rfl,?_⟩,rfl⟩
   rw [xL h hk,ho,if_pos rfl,Dr];exact j2) (by
  rintro fuel s ⟨u,rfl,hu⟩
  rw [uo,jI];simp only [ak,cond_false]) (zl (List.range B),0) ⟨_,rfl,n2⟩
 refine ⟨u,?_,?_⟩
 ·unfold lU
  rw [n1,Option.bind_some,h2];rfl
 ·rw [NG h] at hu
  simpa using hu
variable {pts:List (Int×Int)} (hB:BusOk b ls pts)
include hB
omit h in
theorem Lo:pts.length≤8∧b.toNat=pts.length:=by have:=hB.net.b1;have:=hB.lp;omega
set_option maxHeartbeats 1000000 in
theorem ZE:nj b ls on pts=some (Xa (mY (aw ls on) pts (·.1) pts.length) (mY (aw ls on) pts (·.2) pts.length)):=by
 obtain ⟨u,u1,u2⟩:=VF h
 obtain ⟨b1,b2⟩:=Lo hB
 rw [b2] at u2
 unfold nj
 rw [u1,Option.bind_some]
 have hf1: ∀c,c<pts.length→0≤(pts.getD c (0,0)).1∧(pts.getD c (0,0)).1≤999:=fun c hc=>(hB.bs c hc).1
 have hf2: ∀c,c<pts.length→0≤(pts.getD c (0,0)).2∧(pts.getD c (0,0)).2≤999:=fun c hc=>(hB.bs c hc).2
 obtain ⟨s,⟨v,rfl,hv⟩,h2⟩:=wS (jd pts) (fun k s=> ∃v,s=(zl v,(k:Int),Xa (mY (aw ls on) pts (·.1) k) (mY (aw ls on) pts (·.2) k))∧UR v pts.length (aP (aw ls on))) pts.length (fun s=>some s.2.2) (by omega) (by
  rintro k fuel s hk ⟨v,rfl,hv⟩
  rw [vQ,kT]
  obtain ⟨x,x1,x2⟩:=GZ hv (by omega) hk
  have hr:aP (aw ls on) k<8:=by have:=hv.le hk;omega
  have k1:=xH (aw ls on) pts (·.1) hf1 (aP (aw ls on) k) k (by omega)
  have k2:=xH (aw ls on) pts (·.2) hf2 (aP (aw ls on) k) k (by omega)
  have p1:=hf1 k hk
  have p2:=hf2 k hk
  have w1:ay (mY (aw ls on) pts (·.1) k (aP (aw ls on) k)+(pts.getD k (0,0)).1)=mY (aw ls on) pts (·.1) k (aP (aw ls on) k)+(pts.getD k (0,0)).1:=bD (by omega) (by omega)
  have w2:ay (mY (aw ls on) pts (·.2) k (aP (aw ls on) k)+(pts.getD k (0,0)).2)=mY (aw ls on) pts (·.2) k (aP (aw ls on) k)+(pts.getD k (0,0)).2:=bD (by omega) (by omega)
  dsimp only [Xa]
  simp only [au hk,ae hk,aa,cond_true,Int.toNat_natCast,ab (by omega:k<4611686018427387904),x1,Option.bind_some,ae hr,aaE _ hr,w1,w2]
  have s1:=fun j=>NC (aw ls on) pts (·.1) k j
  have s2:=fun j=>NC (aw ls on) pts (·.2) k j
  refine ⟨(zl x,((k+1:Nat):Int),Xa (mY (aw ls on) pts (·.1) (k+1)) (mY (aw ls on) pts (·.2) (k+1))),⟨x,rfl,x2⟩,?_⟩
  dsimp only [Xa]
  rw [DG (s1 0) (show (0:Int)=((0:Nat):Int) from rfl) rfl,DG (s1 1) (show (1:Int)=((1:Nat):Int) from rfl) rfl,DG (s1 2) (show (2:Int)=((2:Nat):Int) from rfl) rfl,DG (s1 3) (show (3:Int)=((3:Nat):Int) from rfl) rfl,
   DG (s1 4) (show (4:Int)=((4:Nat):Int) from rfl) rfl,DG (s1 5) (show (5:Int)=((5:Nat):Int) from rfl) rfl,DG (s1 6) (show (6:Int)=((6:Nat):Int) from rfl) rfl,DG (s1 7) (show (7:Int)=((7:Nat):Int) from rfl) rfl,
   DG (s2 0) (show (0:Int)=((0:Nat):Int) from rfl) rfl,DG (s2 1) (show (1:Int)=((1:Nat):Int) from rfl) rfl,DG (s2 2) (show (2:Int)=((2:Nat):Int) from rfl) rfl,DG (s2 3) (show (3:Int)=((3:Nat):Int) from rfl) rfl,
   DG (s2 4) (show (4:Int)=((4:Nat):Int) from rfl) rfl,DG (s2 5) (show (5:Int)=((5:Nat):Int) from rfl) rfl,DG (s2 6) (show (6:Int)=((6:Nat):Int) from rfl) rfl,DG (s2 7) (show (7:Int)=((7:Nat):Int) from rfl) rfl]) (by
  rintro fuel s ⟨v,rfl,hv⟩
  rw [vQ,kT];simp only [ak,cond_false]) (zl u,0,Xa (fun _=>0) (fun _=>0)) ⟨u,rfl,u2⟩
 rw [show jd pts ah (zl u,0,0,0,0,0,0,0,0,0,0,0,0,0,0,0,0,0)=_ from h2]
 rfl
end
theorem LW {E:Ed} {pts:List (Int×Int)} {b:Nat} (f:Int×Int→Int):((ru E pts.length b).map fun c=>f (pts.getD c (0,0))).sum=cR E pts f b:=by
 unfold ru cR
 rw [Ro]
 refine re fun c hc=>?_
 by_cases h:aP E c=aP E b
 ·rw [if_pos (by rw [h];simp),if_pos h]
 ·rw [if_neg (by simpa using Ne.symm h),if_neg h]
theorem El {l:List Nat} {f:Nat→Int} {k:Nat} (hk:k<l.length):((l.take (k+1)).map f).sum=((l.take k).map f).sum+f (l.getD k 0):=by
 rw [List.take_succ_eq_append_getElem hk,List.map_append,List.sum_append,ac hk];simp
theorem SY (l:List Nat) (f:Nat→Int) (hf: ∀c∈l,0≤f c∧f c≤999):0≤(l.map f).sum∧(l.map f).sum≤999*l.length:=by
 induction l with
 |nil=>simp
 |cons x l ih=>
  have h1:=ih fun c hc=>hf c (by simp [hc])
  have h2:=hf x (by simp)
  simp only [List.map_cons,List.sum_cons,List.length_cons]
  omega
section
variable {ls:List Ln} {on:List Bool} {pts:List (Int×Int)} (h1:StOk (pts.length:Int) ls on) (h2:BusOk (pts.length:Int) ls pts)
include h1 h2
theorem PA {k:Nat} (hk:k<pts.length):gG (pts.length:Int) ls on pts (k:Int)=some (cR (aw ls on) pts (·.1) k):=by
 have hB:=h1.net.b1
 unfold gG am
 have w1:ay ((pts.length:Int)-1)=(pts.length:Int)-1:=bD (by omega) (by omega)
 have c1:(aF 0 (k:Int)&&aF (k:Int) ((pts.length:Int)-1))=true:=by simp [aF];omega
 rw [Ub _ ls pts (by omega),fB.2 ⟨h1,h2⟩,Option.bind_some,w1,c1]
 simp only [Bool.not_true,Bool.not_false,cd,Option.bind_some,Bool.or_self,cond_false,Kg h1 hk]
 rw [←LW]
 have hl:=EH (aw ls on) pts.length k
 have hm: ∀c∈ru (aw ls on) pts.length k,c<pts.length:=fun c hc=>by have:=(List.mem_filter.1 hc).1;simpa using this
 generalize ru (aw ls on) pts.length k=l at*
 have hh:=av (dg pts (zl l)) (fun j=>(((l.take j).map fun c=>(pts.getD c (0,0)).1).sum,(j:Int))) l.length (some ((l.map fun c=>(pts.getD c (0,0)).1).sum)) (by omega) (fun j fuel hj=>?_) (fun fuel=>?_)
 ·rw [show dg pts (zl l) ah (0,0)=_ from hh];rfl
 ·rw [qP,fu]
  have hc:l.getD j 0<pts.length:=hm _ (by rw [ac hj];exact List.getElem_mem hj)
  have hb:=SY (l.take j) (fun c=>(pts.getD c (0,0)).1) (fun c hc=>(h2.bs c (hm c (List.mem_of_mem_take hc))).1)
  have hlen:(l.take j).length=j:=by rw [List.length_take];omega
  have hx:=(h2.bs _ hc).1
  rw [hlen] at hb
  have w2:ay (((l.take j).map fun c=>(pts.getD c (0,0)).1).sum+(pts.getD (l.getD j 0) (0,0)).1)=((l.take j).map fun c=>(pts.getD c (0,0)).1).sum+(pts.getD (l.getD j 0) (0,0)).1:=bD (by omega) (by omega)
  simp only [bR,au hj,ae hj,cond_true,aa,Int.toNat_natCast,tT,ae hc,w2,ab (by omega:j<4611686018427387904)]
  rw [El hj]
 ·rw [qP,fu];simp only [bR,ak,cond_false,List.take_length]
end
def vp (E:Ed) (pts:List (Int×Int)):List Nat:=(List.range pts.length).filter fun b=>af 0 (cR E pts (·.1) b)
theorem aaG (b:Int) (ls:List Ln) (on:List Bool) (pts:List (Int×Int)) (hp:pts.length≤1048576):kO b ls on pts=some (if OY b ls on pts then zl (vp (aw ls on) pts) else []):=by
 unfold kO
 rw [Yk b ls pts hp,Option.bind_some]
 cases hv:OY b ls on pts
 ·rfl
 obtain ⟨h1,h2⟩:=fB.1 hv
 obtain ⟨b1,b2⟩:=Lo h2
 obtain ⟨u,u1,u2⟩:=VF h1
 rw [b2] at u2
 simp only [cond_true,u1,Option.bind_some,ZE h1 h2,if_true]
 obtain ⟨s,⟨v,rfl,hv⟩,hh⟩:=wS (fN pts (Xa (mY (aw ls on) pts (·.1) pts.length) (mY (aw ls on) pts (·.2) pts.length))) (fun k s=> ∃v,s=(zl v,zl ((List.range k).filter fun b=>af 0 (cR (aw ls on) pts (·.1) b)),(k:Int))∧UR v pts.length (aP (aw ls on))) pts.length (fun s=>some s.2.1) (by omega) (by
  rintro k fuel s hk ⟨v,rfl,hv⟩
  rw [qF,fe]
  obtain ⟨x,x1,x2⟩:=GZ hv (by omega) hk
  have hr:aP (aw ls on) k<8:=by have:=hv.le hk;omega
  have hl:=List.length_filter_le (fun b=>af 0 (cR (aw ls on) pts (·.1) b)) (List.range k)
  rw [List.length_range] at hl
  have ha:bw (zl ((List.range k).filter fun b=>af 0 (cR (aw ls on) pts (·.1) b))).length ([(k:Int)]:List Int).length=true:=by rw [bR];simp [bw];omega
  dsimp only [Xa]
  simp only [au hk,cond_true,Int.toNat_natCast,ab (by omega:k<4611686018427387904),x1,Option.bind_some,ae hr,aa,aaE _ hr,ha]
  refine ⟨_,⟨x,rfl,x2⟩,?_⟩
  rw [List.range_succ,List.filter_append,List.filter_cons,List.filter_nil,Rm]
  cases hc:af 0 (mY (aw ls on) pts (·.1) pts.length (aP (aw ls on) k))
  ·simp
  ·simp [zl]) (by
  rintro fuel s ⟨v,rfl,hv⟩
  rw [qF,fe];simp only [ak,cond_false]) (zl u,([]:List Int),0) ⟨u,rfl,u2⟩
 rw [hh];rfl
section
variable {ls:List Ln} {on:List Bool} {pts:List (Int×Int)} (h1:StOk (pts.length:Int) ls on) (h2:BusOk (pts.length:Int) ls pts)
include h1 h2
theorem abt:lw (pts.length:Int) ls on pts=some (zl (vp (aw ls on) pts)):=by
 have hB:=h1.net.b1
 unfold lw
 have hh:=oe (gz (pts.length:Int) ls on pts) pts.length (fun b=>af 0 (cR (aw ls on) pts (·.1) b)) some (by omega) (fun k fuel l hk ha=>?_) (fun fuel l=>?_)
 ·rw [hh];rfl
 ·rw [qM,fp,Ub _ ls pts (by omega),fB.2 ⟨h1,h2⟩]
  simp only [au hk,cd,Option.bind_some,Bool.and_self,cond_true,PA h1 h2 hk,ha,aa,ab (by omega:k<4611686018427387904)]
  cases af 0 (cR (aw ls on) pts (·.1) k)<;>rfl
 ·rw [qM,fp];simp only [ak,qW,Option.bind_some,Bool.false_and,cond_false]
end
section
variable (l:Pm) (a b:Int) (hn:l.length≤1099511627776)
include hn
theorem WL:jq l a b=some (Ux l (a,b)):=by
 unfold jq Ux
 have h:=EB (gS l a b) (fun k=>(k:Int)) l.length (fun k=>(l.getD k (0,0)).1==a&&(l.getD k (0,0)).2==b) (fun k=>some (.inr (k:Int))) (some (.inl ())) hn (fun k fuel hk=>by
  rw [uE,kb]
  simp only [au hk,ae hk,aa,cond_true,Int.toNat_natCast,ab (by omega:k<4611686018427387904)]) (fun fuel=>by rw [uE,kb];simp only [ak,cond_false])
 rw [show gS l a b ah 0=_ from h]
 cases (List.range l.length).find? (fun k=>(l.getD k (0,0)).1==a&&(l.getD k (0,0)).2==b)<;>rfl
theorem ZB:aK l a b=some (Ux l (a,b)):=by
 unfold aK Ux
 have h:=EB (aE l a b) (fun k=>(k:Int)) l.length (fun k=>(l.getD k (0,0)).1==a&&(l.getD k (0,0)).2==b) (fun k=>some (.inr (k:Int))) (some (.inl ())) hn (fun k fuel hk=>by
  rw [cz,aQ]
  simp only [au hk,ae hk,aa,cond_true,Int.toNat_natCast,ab (by omega:k<4611686018427387904)]
  rw [show (a==(l.getD k (0,0)).1)=((l.getD k (0,0)).1==a) from Bool.beq_comm ..,show (b==(l.getD k (0,0)).2)=((l.getD k (0,0)).2==b) from Bool.beq_comm ..]) (fun fuel=>by rw [cz,aQ];simp only [ak,cond_false])
 rw [show aE l a b ah 0=_ from h]
 cases (List.range l.length).find? (fun k=>(l.getD k (0,0)).1==a&&(l.getD k (0,0)).2==b)<;>rfl
theorem aaI:az l a b=some (decide ((a,b)∈l)):=by
 unfold az
 rw [ZB l a b hn,Option.bind_some,MJ]
end
section
variable (on earth:List Bool) (pm:Pm) (ho:on.length≤1048576) (hp:pm.length≤1048576) (hl:earth.length=on.length)
include ho hl
theorem sV1:ee on earth ah 0=bif (List.range on.length).any (fun k=>on.getD k false&&earth.getD k false) then some (.inr false) else some (.inl ()):=by
 have h:=bW (ee on earth) (fun k=>(k:Int)) on.length (fun k=>on.getD k false&&earth.getD k false) (some (.inr false)) (some (.inl ())) (by omega) (fun k fuel hk=>?_) (fun fuel=>?_)
 ·exact h
 ·rw [rV,gO]
  simp only [au hk,ae hk,ae (show k<earth.length by omega),aa,cond_true,Int.toNat_natCast,Bool.or_true,ab (by omega:k<4611686018427387904)]
 ·rw [rV,gO];simp only [ak,cond_false]
theorem iV1:dR on earth ah 0=bif (List.range on.length).any (fun k=>on.getD k false&&earth.getD k false) then some (.inr false) else some (.inl ()):=by
 have h:=bW (dR on earth) (fun k=>(k:Int)) on.length (fun k=>on.getD k false&&earth.getD k false) (some (.inr false)) (some (.inl ())) (by omega) (fun k fuel hk=>?_) (fun fuel=>?_)
 ·exact h
 ·rw [rD,fX]
  simp only [au hk,ae hk,ae (show k<earth.length by omega),aa,cond_true,Int.toNat_natCast,Bool.or_true,ab (by omega:k<4611686018427387904)]
 ·rw [rD,fX];simp only [ak,cond_false]
include hp
theorem sV2:ef on earth pm ah 0=bif (List.range pm.length).any (fun k=> !JV on earth pm k) then some (.inr false) else some (.inl ()):=by
 have h:=bW (ef on earth pm) (fun k=>(k:Int)) pm.length (fun k=> !JV on earth pm k) (some (.inr false)) (some (.inl ())) (by omega) (fun k fuel hk=>?_) (fun fuel=>?_)
 ·exact h
 ·rw [rW,gP]
  simp only [au hk,ae hk,aa,cond_true,Int.toNat_natCast,ab (by omega:k<4611686018427387904),WL pm _ _ (by omega),am]
  have w1:ay ((on.length:Int)-1)=(on.length:Int)-1:=bD (by omega) (by omega)
  have hft:=Vj hk
  rw [w1]
  unfold JV
  rw [pV]
  generalize pm.getD k (0,0)=p at*
  cases h1:(aF 0 p.1&&aF p.1 9)
  ·simp [gb]
  have e2:(aF 0 p.2&&aF p.2 ((on.length:Int)-1))=(decide (0≤p.2)&&decide (p.2<(on.length:Int))):=by rw [Bool.eq_iff_iff];simp [aF];omega
  rw [e2]
  cases h2:(decide (0≤p.2)&&decide (p.2<(on.length:Int)))
  ·simp [gb]
  have hx:aq p.2 earth.length=true:=by simp at h2;simp [aq];omega
  simp only [gb,Option.bind_some,Bool.not_true,Bool.not_false,cond_true,Bool.or_self,hx,Bool.or_true,aa,Bool.false_or,Bool.true_and]
  cases earth.getD p.2.toNat false
  ·simp
  ·simp [hft]
 ·rw [rW,gP];simp only [ak,cond_false]
omit ho in
theorem iV2:dS on earth pm ah 0=bif (List.range pm.length).any (fun k=> !JV on earth pm k) then some (.inr false) else some (.inl ()):=by
 have h:=bW (dS on earth pm) (fun k=>(k:Int)) pm.length (fun k=> !JV on earth pm k) (some (.inr false)) (some (.inl ())) (by omega) (fun k fuel hk=>?_) (fun fuel=>?_)
 ·exact h
 ·rw [rE,fY]
  have hs:DF 0 (k:Int) pm.length=true:=decide_eq_true (by omega)
  have ht:ai pm 0 (k:Int)=pm.take k:=by simp [ai]
  simp only [au hk,ae hk,aa,cond_true,Int.toNat_natCast,ab (by omega:k<4611686018427387904),hs,ht,Bool.or_true,aaI (pm.take k) _ _ (by simp;omega)]
  unfold JV
  rw [pV]
  generalize pm.getD k (0,0)=p
  rw [show ((p.1,p.2):Int×Int)=p from rfl]
  cases h1:(aF 0 p.1&&aF p.1 9)
  ·have:(af p.1 0 ||af 9 p.1)=true:=by simp [aF] at h1;simp [af];omega
   simp [gb,this]
  have e1:(af p.1 0 ||af 9 p.1)=false:=by simp [aF] at h1;simp [af];omega
  rw [e1]
  cases h2:(decide (0≤p.2)&&decide (p.2<(on.length:Int)))
  ·have:(af p.2 0 ||aF (on.length:Int) p.2)=true:=by simp at h2;simp [af,aF];omega
   simp only [Bool.false_or,this,Bool.not_true,Bool.true_or,Bool.not_false,aa,gb,cond_false,Option.bind_some,cond_true,Bool.and_false,Bool.false_and]
  have e2:(af p.2 0 ||aF (on.length:Int) p.2)=false:=by simp at h2;simp [af,aF];omega
  have hx:aq p.2 earth.length=true:=by simp at h2;simp [aq];omega
  simp only [Bool.false_or,e2,gb,Option.bind_some,Bool.not_true,Bool.not_false,cond_true,Bool.or_self,hx,Bool.or_true,aa,Bool.true_and]
  cases earth.getD p.2.toNat false<;>simp
 ·rw [rE,fY];simp only [ak,cond_false]
end
section
variable (on earth:List Bool) (pm:Pm) (ho:on.length≤1048576) (hp:pm.length≤1048576)
include ho hp
theorem Nw:eK on earth pm=some (oi on earth pm):=by
 unfold eK am oi
 rw [pV,lt6,RE]
 cases h1:(aF 1 (on.length:Int)&&aF (on.length:Int) 10)
 ·simp
 by_cases h2:earth.length=on.length
 ·rw [show (earth.length==on.length)=true by simpa using h2,show (on.length==earth.length)=true by simpa using h2.symm]
  cases h3:decide (pm.length≤6)
  ·simp
  simp only [Option.bind_some,Bool.not_true,Bool.or_self,cond_false,sV1 on earth ho h2,sV2 on earth pm ho hp h2,Bool.true_and]
  cases (List.range on.length).any fun k=>on.getD k false&&earth.getD k false
  ·cases (List.range pm.length).any fun k=> !JV on earth pm k<;>rfl
  ·rfl
 ·rw [show (earth.length==on.length)=false by simpa using h2,show (on.length==earth.length)=false by simpa using fun e=>h2 e.symm]
  simp
theorem QA:eH on earth pm=some (oi on earth pm):=by
 unfold eH oi
 rw [aed,lt6,RE]
 cases h1:af (on.length:Int) 1
 ·cases h4:af 10 (on.length:Int)
  ·by_cases h2:earth.length=on.length
   ·rw [show (earth.length==on.length)=true by simpa using h2]
    cases h3:decide (pm.length≤6)
    ·simp
    simp only [Option.bind_some,Bool.not_true,Bool.not_false,Bool.or_self,cond_false,iV1 on earth ho h2,iV2 on earth pm hp h2,Bool.true_and]
    cases (List.range on.length).any fun k=>on.getD k false&&earth.getD k false
    ·cases (List.range pm.length).any fun k=> !JV on earth pm k<;>rfl
    ·rfl
   ·rw [show (earth.length==on.length)=false by simpa using h2]
    simp
  ·simp
 ·simp
end
theorem UM (on:List Bool) (br:List Int):EV on br 0=((decide (0≤br.getD 0 0)&&decide (br.getD 0 0<(on.length:Int)))&& !on.getD (br.getD 0 0).toNat false):=by
 unfold EV;simp
theorem UN (on:List Bool) (br:List Int) (j:Nat):EV on br (j+1)=((decide (0≤br.getD (j+1) 0)&&decide (br.getD (j+1) 0<(on.length:Int)))&& !on.getD (br.getD (j+1) 0).toNat false&& !aF (br.getD (j+1) 0) (br.getD j 0)):=by
 unfold EV
 have:decide (br.getD j 0<br.getD (j+1) 0)= !aF (br.getD (j+1) 0) (br.getD j 0):=by rw [Bool.eq_iff_iff];simp [aF]
 simp only [Nat.add_sub_cancel,this]
 have e:decide (j+1=0)=false:=by simp
 rw [e,Bool.false_or]
section
variable (b:Int) (ls:List Ln) (pts:List (Int×Int)) (on earth:List Bool) (pm:Pm) (br:List Int) (hp:pts.length≤1048576) (ho:on.length≤1048576) (hm:pm.length≤1048576) (hb:br.length≤1048576)
include hb
theorem iBr (hl:on.length=ls.length):cZ b ls on br ah 0=bif (List.range br.length).any (fun k=> !EV on br k) then some (.inr false) else some (.inl ()):=by
 have hh:=bW (cZ b ls on br) (fun k=>(k:Int)) br.length (fun k=> !EV on br k) (some (.inr false)) (some (.inl ())) (by omega) (fun k fuel hk=>?_) (fun fuel=>?_)
 ·exact hh
 ·rw [qI,fh]
  simp only [au hk,ae hk,cond_true,aa,Int.toNat_natCast,bd,Option.bind_some,ab (by omega:k<4611686018427387904)]
  have e1:(aF 0 (br.getD k 0)&&af (br.getD k 0) (ls.length:Int))=(decide (0≤br.getD k 0)&&decide (br.getD k 0<(on.length:Int))):=by rw [hl];rfl
  rw [e1]
  have hx:(decide (0≤br.getD k 0)&&decide (br.getD k 0<(on.length:Int)))=true→aq (br.getD k 0) on.length=true:=by intro h;simp at h;simp [aq];omega
  rcases k with _ |j
  ·rw [UM]
   have:af 0 ((0:Nat):Int)=false:=rfl
   simp only [this,Bool.and_false,Bool.not_false,Bool.true_or,aa,Bool.or_false]
   cases h1:decide (0≤br.getD 0 0)&&decide (br.getD 0 0<(on.length:Int))
   ·rfl
   ·rw [hx h1]
    cases on.getD (br.getD 0 0).toNat false<;>rfl
  ·rw [UN]
   have e2:ay (((j+1:Nat):Int)-1)=(j:Int):=by rw [bD (by omega) (by omega)];omega
   have e3:af 0 ((j+1:Nat):Int)=true:=decide_eq_true (by omega)
   simp only [e2,e3,ae (show j<br.length by omega),Bool.or_true,aa,Bool.true_and,Int.toNat_natCast]
   cases h1:decide (0≤br.getD (j+1) 0)&&decide (br.getD (j+1) 0<(on.length:Int))
   ·rfl
   ·rw [hx h1]
    cases on.getD (br.getD (j+1) 0).toNat false<;>cases aF (br.getD (j+1) 0) (br.getD j 0)<;>rfl
 ·rw [qI,fh];simp only [ak,cond_false]
include ho in
theorem sBr:dl on br ah 0=bif (List.range br.length).any (fun k=> !EV on br k) then some (.inr false) else some (.inl ()):=by
 have hh:=bW (dl on br) (fun k=>(k:Int)) br.length (fun k=> !EV on br k) (some (.inr false)) (some (.inl ())) (by omega) (fun k fuel hk=>?_) (fun fuel=>?_)
 ·exact hh
 ·rw [qT,fz]
  have w1:ay ((on.length:Int)-1)=(on.length:Int)-1:=bD (by omega) (by omega)
  simp only [au hk,ae hk,cond_true,aa,Int.toNat_natCast,am,Option.bind_some,ab (by omega:k<4611686018427387904),w1]
  have e1:(aF 0 (br.getD k 0)&&aF (br.getD k 0) ((on.length:Int)-1))=(decide (0≤br.getD k 0)&&decide (br.getD k 0<(on.length:Int))):=by rw [Bool.eq_iff_iff];simp [aF];omega
  rw [e1]
  have hx:(decide (0≤br.getD k 0)&&decide (br.getD k 0<(on.length:Int)))=true→aq (br.getD k 0) on.length=true:=by intro h;simp at h;simp [aq];omega
  rcases k with _ |j
  ·rw [UM]
   have:af 0 ((0:Nat):Int)=false:=rfl
   simp only [this,Bool.and_false,Bool.not_false,Bool.true_or,aa,Bool.or_false,Bool.false_and]
   cases h1:decide (0≤br.getD 0 0)&&decide (br.getD 0 0<(on.length:Int))
   ·rfl
   ·rw [hx h1]
    cases on.getD (br.getD 0 0).toNat false<;>simp
  ·rw [UN]
   have e2:ay (((j+1:Nat):Int)-1)=(j:Int):=by rw [bD (by omega) (by omega)];omega
   have e3:af 0 ((j+1:Nat):Int)=true:=decide_eq_true (by omega)
   simp only [e2,e3,ae hk,ae (show j<br.length by omega),Bool.or_true,aa,Bool.true_and,Int.toNat_natCast]
   cases h1:decide (0≤br.getD (j+1) 0)&&decide (br.getD (j+1) 0<(on.length:Int))
   ·rfl
   ·rw [hx h1]
    cases on.getD (br.getD (j+1) 0).toNat false<;>cases aF (br.getD (j+1) 0) (br.getD j 0)<;>rfl
 ·rw [qT,fz];simp only [ak,cond_false]
include hp ho hm
theorem iWv:bf b ls pts on earth pm br=some (wv ⟨b,ls,pts,on,earth,pm,br⟩):=by
 unfold bf wv brV
 rw [Vv b ls pts hp,QA on earth pm ho hm]
 have e:((on.length:Int) !=(ls.length:Int))= !decide (on.length=ls.length):=by rw [Bool.eq_iff_iff];simp;omega
 rw [e]
 cases h1:rg b ls pts
 ·rfl
 cases h2:oi on earth pm
 ·rfl
 by_cases h3:on.length=ls.length
 ·rw [decide_eq_true h3]
  simp only [Option.bind_some,Bool.not_true,Bool.not_false,cd,Bool.or_self,cond_false,iBr b ls on br hb h3,Sa b ls on pts hp]
  have hok:wZ b ls on pts=nn ls on pts:=by
   have:=xh.1 h1
   unfold wZ
   rw [fB.2 ⟨⟨this.net,h3⟩,this⟩];rfl
  rw [hok]
  cases (List.range br.length).any fun k=> !EV on br k<;>cases nn ls on pts<;>rfl
 ·rw [decide_eq_false h3];simp
theorem sWv:bg b ls pts on earth pm br=some (wv ⟨b,ls,pts,on,earth,pm,br⟩):=by
 unfold bg wv brV
 rw [WK b ls pts hp,Nw on earth pm ho hm]
 have e:((on.length:Int) !=(ls.length:Int))= !decide (on.length=ls.length):=by rw [Bool.eq_iff_iff];simp;omega
 rw [e]
 cases h1:rg b ls pts
 ·rfl
 cases h2:oi on earth pm
 ·rfl
 by_cases h3:on.length=ls.length
 ·rw [decide_eq_true h3]
  simp only [Option.bind_some,Bool.not_true,Bool.not_false,cd,Bool.or_self,cond_false,sBr on br ho hb,IB b ls on pts hp]
  have hok:wZ b ls on pts=nn ls on pts:=by
   have:=xh.1 h1
   unfold wZ
   rw [fB.2 ⟨⟨this.net,h3⟩,this⟩];rfl
  rw [hok]
  cases (List.range br.length).any fun k=> !EV on br k<;>cases nn ls on pts<;>rfl
 ·rw [decide_eq_false h3];simp
end
def Fm (w:Wd):List Nat:=(List.range w.pts.length).filter fun k=>af 0 (w.pts.getD k (0,0)).2&& !af 0 (cR (aw w.ls w.on) w.pts (·.1) k)
theorem ad2 (l:List Int) (x:Int) (hl:l.length≤1099511627776): ∃z,ez l x=some z∧aF 0 z=decide (x∈l):=by
 unfold ez
 have h:=EB (bM l x) (fun k=>(k:Int)) l.length (fun k=>x==l.getD k 0) (fun k=>some (.inr (k:Int))) (some (.inl ())) hl (fun k fuel hk=>by
  rw [mP,ci]
  simp only [au hk,ae hk,aa,cond_true,Int.toNat_natCast,ab (by omega:k<4611686018427387904)]) (fun fuel=>by rw [mP,ci];simp only [ak,cond_false])
 rw [show bM l x ah 0=_ from h]
 cases hf:(List.range l.length).find? (fun k=>x==l.getD k 0) with
 |none=>
  refine ⟨_,rfl,?_⟩
  have:x∉l:=fun hx=>by
   obtain ⟨k,hk,rfl⟩:=List.mem_iff_getElem.1 hx
   have:=List.find?_eq_none.1 hf k (by simpa using hk)
   rw [ac hk] at this
   simp at this
  rw [decide_eq_false this];rfl
 |some k=>
  obtain ⟨h1,h2,_⟩:=List.find?_range_eq_some.1 hf
  have hk:k<l.length:=by simpa using h2
  refine ⟨_,rfl,?_⟩
  have:x∈l:=by
   rw [beq_iff_eq] at h1
   rw [h1,ac hk];exact List.getElem_mem hk
  rw [decide_eq_true this];simp [aF]
theorem adZ (l:List Int) (x:Int) (hl:l.length≤1099511627776):cD l x=some (decide (x∈l)):=by
 obtain ⟨z,h1,h2⟩:=ad2 l x hl
 unfold cD
 rw [h1,Option.bind_some,h2]
theorem Ll {E:Ed} {pts:List (Int×Int)} {k:Nat} (hk:k<pts.length):decide ((k:Int)∈zl (vp E pts))=af 0 (cR E pts (·.1) k):=by
 rw [Bool.eq_iff_iff,decide_eq_true_eq,Xq]
 simp [vp,hk]
section
variable (b:Int) (ls:List Ln) (pts:List (Int×Int)) (on earth:List Bool) (pm:Pm) (br:List Int) (hp:pts.length≤1048576) (ho:on.length≤1048576) (hm:pm.length≤1048576) (hb:br.length≤1048576)
include hp ho hm hb
theorem adV:eJ b ls pts on earth pm br=some (if wv ⟨b,ls,pts,on,earth,pm,br⟩ then zl (Fm ⟨b,ls,pts,on,earth,pm,br⟩) else []):=by
 unfold eJ
 rw [iWv b ls pts on earth pm br hp ho hm hb,Option.bind_some]
 cases hv:wv ⟨b,ls,pts,on,earth,pm,br⟩
 ·rfl
 have hw:=kv.1 hv
 have hok:OY b ls on pts=true:=fB.2 ⟨⟨hw.bus.net,hw.len⟩,hw.bus⟩
 simp only [cond_true,aaG b ls on pts hp,hok,if_true,Option.bind_some]
 have hal:(zl (vp (aw ls on) pts)).length≤1099511627776:=by
  rw [bR];unfold vp
  have:=List.length_filter_le (fun b=>af 0 (cR (aw ls on) pts (·.1) b)) (List.range pts.length)
  rw [List.length_range] at this;omega
 have hh:=oe (iw pts (zl (vp (aw ls on) pts))) pts.length (fun k=>af 0 (pts.getD k (0,0)).2&& !af 0 (cR (aw ls on) pts (·.1) k)) some (by omega) (fun k fuel l hk ha=>?_) (fun fuel l=>?_)
 ·rw [hh];rfl
 ·rw [rF,ga]
  simp only [au hk,ae hk,aa,cond_true,Int.toNat_natCast,adZ _ _ hal,Ll hk,ha,ab (by omega:k<4611686018427387904)]
  cases af 0 (pts.getD k (0,0)).2
  ·rfl
  ·cases af 0 (cR (aw ls on) pts (·.1) k)<;>rfl
 ·rw [rF,ga];simp only [ak,cond_false]
theorem aeA:jn b ls pts on earth pm br=some (if wv ⟨b,ls,pts,on,earth,pm,br⟩ then zl (Fm ⟨b,ls,pts,on,earth,pm,br⟩) else []):=by
 unfold jn
 rw [sWv b ls pts on earth pm br hp ho hm hb,Option.bind_some]
 cases hv:wv ⟨b,ls,pts,on,earth,pm,br⟩
 ·rfl
 have hw:=kv.1 hv
 have hlp:=hw.bus.lp
 dsimp only at hlp
 subst hlp
 simp only [cond_true,abt ⟨hw.bus.net,hw.len⟩ hw.bus,if_true,Option.bind_some]
 have hal:(zl (vp (aw ls on) pts)).length≤1099511627776:=by
  rw [bR];unfold vp
  have:=List.length_filter_le (fun b=>af 0 (cR (aw ls on) pts (·.1) b)) (List.range pts.length)
  rw [List.length_range] at this;omega
 have hh:=oe (iT pts (zl (vp (aw ls on) pts))) pts.length (fun k=>af 0 (pts.getD k (0,0)).2&& !af 0 (cR (aw ls on) pts (·.1) k)) some (by omega) (fun k fuel l hk ha=>?_) (fun fuel l=>?_)
 ·rw [hh];rfl
 ·rw [rX,gQ]
  simp only [au hk,ae hk,aa,cond_true,Int.toNat_natCast,Uc _ _ hal,Ll hk,ha,Bool.or_true,Option.bind_some,ab (by omega:k<4611686018427387904)]
  cases af 0 (pts.getD k (0,0)).2<;>cases af 0 (cR (aw ls on) pts (·.1) k)<;>rfl
 ·rw [rX,gQ];simp only [ak,cond_false]
end
section
variable {σ:Type} (good:σ→Bool) (sv:σ→Int) (ch:σ→Nat)
def Gn (s:Int) (c:Nat):Option σ→Bool
 |none=>true
 |some y=>decide (sv y<s) ||(decide (sv y=s)&&decide (c<ch y))
def DH (a:Option σ) (x:σ):Option σ:=if good x&&Gn sv ch (sv x) (ch x) a then some x else a
def jv (l:List σ):Option σ:=l.foldl (DH good sv ch) none
theorem Ht (l:List σ) (x:σ):jv good sv ch (l++ [x])=DH good sv ch (jv good sv ch l) x:=by unfold jv;rw [List.foldl_append];rfl
theorem NY (l:List σ):(∀x∈l,good x=true→ ∃y,jv good sv ch l=some y)∧ ∀y,jv good sv ch l=some y→(y∈l∧good y=true)∧ ∀x∈l,good x=true→sv x<sv y∨(sv x=sv y∧ch y≤ch x):=by
 refine Iy (P:=fun l=>(∀x∈l,good x=true→ ∃y,jv good sv ch l=some y)∧ ∀y,jv good sv ch l=some y→(y∈l∧good y=true)∧ ∀x∈l,good x=true→sv x<sv y∨(sv x=sv y∧ch y≤ch x)) ?_ ?_ l
 ·exact ⟨fun x hx=>by simp at hx,fun y hy=>by cases hy⟩
 ·intro l a ih
  rw [Ht]
  unfold DH
  cases hg:good a
  ·rw [Bool.false_and,if_neg (by decide)]
   refine ⟨fun x hx hgx=>?_,fun y hy=>?_⟩
   ·rcases List.mem_append.1 hx with hx |hx
    ·exact ih.1 x hx hgx
    ·obtain rfl:x=a:=by simpa using hx
     rw [hg] at hgx;cases hgx
   ·obtain ⟨⟨h1,h2⟩,h3⟩:=ih.2 y hy
    refine ⟨⟨by simp [h1],h2⟩,fun x hx hgx=>?_⟩
    rcases List.mem_append.1 hx with hx |hx
    ·exact h3 x hx hgx
    ·obtain rfl:x=a:=by simpa using hx
     rw [hg] at hgx;cases hgx
  ·rw [Bool.true_and]
   cases hb:jv good sv ch l with
   |none=>
    rw [if_pos (show Gn sv ch (sv a) (ch a) none=true from rfl)]
    refine ⟨fun _ _ _=>⟨a,rfl⟩,fun y hy=>?_⟩
    obtain rfl:a=y:=Option.some.inj hy
    refine ⟨⟨by simp,hg⟩,fun x hx hgx=>?_⟩
    rcases List.mem_append.1 hx with hx |hx
    ·obtain ⟨y,hy⟩:=ih.1 x hx hgx
     rw [hb] at hy;cases hy
    ·obtain rfl:x=a:=by simpa using hx
     exact .inr ⟨rfl,Nat.le_refl _⟩
   |some z=>
    obtain ⟨⟨h1,h2⟩,h3⟩:=ih.2 z hb
    split
    ·rename_i hbet
     simp only [Gn,Bool.or_eq_true,Bool.and_eq_true,decide_eq_true_eq] at hbet
     refine ⟨fun _ _ _=>⟨a,rfl⟩,fun y hy=>?_⟩
     obtain rfl:a=y:=Option.some.inj hy
     refine ⟨⟨by simp,hg⟩,fun x hx hgx=>?_⟩
     rcases List.mem_append.1 hx with hx |hx
     ·have:=h3 x hx hgx;omega
     ·obtain rfl:x=a:=by simpa using hx
      exact .inr ⟨rfl,Nat.le_refl _⟩
    ·rename_i hbet
     simp only [Gn,Bool.or_eq_true,Bool.and_eq_true,decide_eq_true_eq] at hbet
     refine ⟨fun _ _ _=>⟨z,rfl⟩,fun y hy=>?_⟩
     obtain rfl:z=y:=Option.some.inj hy
     refine ⟨⟨by simp [h1],h2⟩,fun x hx hgx=>?_⟩
     rcases List.mem_append.1 hx with hx |hx
     ·exact h3 x hx hgx
     ·obtain rfl:x=a:=by simpa using hx
      omega
end
def be (n num:Nat):List Bool:=(List.range n).map fun k=>num.testBit k
theorem Kl (n num:Nat):(be n num).length=n:=by simp [be]
theorem WT {n num k:Nat} (h:k<n):(be n num).getD k false=num.testBit k:=by simp [be,List.getD,h]
def zL:List Bool→Nat
 | []=>0
 |b::l=>2*zL l+b.toNat
theorem LT: ∀(l:List Bool) (k:Nat),(zL l).testBit k=l.getD k false
 | [],k=>by simp [zL]
 |b::l,0=>by cases b<;>simp [zL,Nat.testBit_zero]<;>omega
 |b::l,k+1=>by
  rw [Nat.testBit_succ,List.getD_cons_succ,←LT l k]
  congr 1
  cases b<;>simp [zL]<;>omega
theorem OV: ∀l:List Bool,zL l<2 ^ l.length
 | []=>by simp [zL]
 |b::l=>by
  have:=OV l
  have hb:b.toNat≤1:=by cases b<;>simp
  rw [List.length_cons,Nat.pow_succ];simp only [zL];omega
theorem Ri (l:List Bool):be l.length (zL l)=l:=by
 apply List.ext_getElem (by simp [be])
 intro i h1 h2
 have:=WT (num:=zL l) h2
 rw [ac h1,LT,ac h2] at this
 exact this
def Rj (n:Nat):List (List Bool):=(List.range (2 ^ n)).map (be n)
theorem Rk {n:Nat} {l:List Bool}:l∈Rj n↔l.length=n:=by
 unfold Rj
 rw [List.mem_map]
 constructor
 ·rintro ⟨k,_,rfl⟩;exact Kl _ _
 ·rintro rfl;exact ⟨zL l,by simpa using OV l,Ri l⟩
def aC (E:Ed) (pts:List (Int×Int)):Int:=((List.range pts.length).map fun b=>if cR E pts (·.2) b≤cR E pts (·.1) b then (pts.getD b (0,0)).2 else 0).sum
def cT (ls:List Ln) (on:List Bool) (pts:List (Int×Int)):Bool:=
 nn ls on pts&&(!(List.range ls.length).any fun k=>decide ((ls.getD k (0,0,0)).2.2<fI ls on pts k))&& !(List.range pts.length).any fun b=>aG pts b&&decide ((pts.getD b (0,0)).1<cR (aw ls on) pts (·.2) b)
theorem OA {ls:List Ln} {on:List Bool} {pts:List (Int×Int)} (h:cT ls on pts=true):nn ls on pts=true:=by
 unfold cT at h
 rw [Bool.and_eq_true,Bool.and_eq_true] at h
 exact h.1.1
def bi (a b:List Bool):List Nat:=(List.range a.length).filter fun k=>a.getD k false !=b.getD k false
def pH (ls:List Ln) (on:List Bool) (pts:List (Int×Int)):Option (List Bool):=jv (fun x=>cT ls x pts) (fun x=>aC (aw ls x) pts) (fun x=>(bi on x).length) (Rj ls.length)
theorem Eo {ls:List Ln} {on x:List Bool} {pts:List (Int×Int)} (h:pH ls on pts=some x):x.length=ls.length∧cT ls x pts=true:=by
 have:=((NY _ _ _ _).2 x h).1
 exact ⟨Rk.1 this.1,this.2⟩
def QM (on x:List Bool) (k:Nat):List Dd:=((List.range k).filter fun i=>on.getD i false&& !x.getD i false).map fun (i:Nat)=>(1,(i:Int),0)
def We (on x:List Bool) (k:Nat):List Dd:=((List.range k).filter fun i=>x.getD i false&& !on.getD i false).map fun (i:Nat)=>(0,(i:Int),0)
def nh (earth:List Bool) (br:List Int):List Dd:=br.flatMap fun l=>(if earth.getD l.toNat false then [] else [(2,l,0)])++ [(4,l,0),(7,l,0),(5,l,0)]
def dD (earth:List Bool) (br:List Int):List Bool:=br.foldl (fun e l=>e.set l.toNat true) earth
def Nz (on:List Bool) (x:Option (List Bool)):List Dd:=
 match x with
 |none=> []
 |some x=>QM on x on.length++We on x on.length
def LH (w:Wd):List Dd:=fE w.pm++nh w.earth w.br++oD 3 (dD w.earth w.br) true w.on.length++Nz w.on (pH w.ls w.on w.pts)
theorem Qr (br:List Int): ∀earth:List Bool,(dD earth br).length=earth.length:=by
 induction br with
 |nil=>intro e;rfl
 |cons l br ih=>intro e;show (dD (e.set l.toNat true) br).length=_;rw [ih];simp
theorem Ya (earth:List Bool) (l:Int) (br:List Int):nh earth (l::br)=((if earth.getD l.toNat false then [] else [(2,l,0)])++ [(4,l,0),(7,l,0),(5,l,0)])++nh earth br:=rfl
theorem Le {l:List Bool} {k:Nat} (h:l.getD k false=true):l.set k true=l:=by
 rcases Nat.lt_or_ge k l.length with hk |hk
 ·rw [ac hk] at h
  have:=List.set_getElem_self hk
  rwa [h] at this
 ·rw [adR hk] at h;cases h
def mix (n k:Nat) (f g:Nat→Bool):List Bool:=(List.range n).map fun i=>if i<k then f i else g i
theorem YC {n k:Nat} {f g:Nat→Bool} (h:k<n):(mix n k f g).set k (f k)=mix n (k+1) f g:=by
 apply List.ext_getElem (by simp [mix])
 intro i h1 h2
 rw [List.getElem_set]
 simp only [mix,List.getElem_map,List.getElem_range]
 split
 ·rename_i e;subst e;rw [if_pos (by omega)]
 ·by_cases hi:i<k
  ·rw [if_pos hi,if_pos (by omega)]
  ·rw [if_neg hi,if_neg (by omega)]
theorem Km {n:Nat} {f:Nat→Int} {p:Nat→Prop} (hf: ∀b,b<n→0≤f b∧f b≤999):0≤Hn n f p∧Hn n f p≤999*n:=by
 unfold Hn
 induction n with
 |zero=>simp
 |succ n ih=>
  have h1:=ih fun b hb=>hf b (by omega)
  have h2:=hf n (by omega)
  rw [List.range_succ,List.map_append,List.sum_append]
  simp only [List.map_cons,List.map_nil,List.sum_cons,List.sum_nil]
  split<;>omega
def mg (n:Nat) (f:Nat→Int):List Int:=(List.range n).map f
theorem pB (n:Nat) (f:Nat→Int):(mg n f).length=n:=by simp [mg]
theorem kq {n k:Nat} {f:Nat→Int} (h:k<n):(mg n f).getD k 0=f k:=by simp [mg,List.getD,h]
theorem xJ {n k:Nat} {f g:Nat→Int} {v:Int} (hk:k<n) (h1:g k=v) (h2: ∀j,j<n→j≠k→g j=f j):(mg n f).set k v=mg n g:=by
 apply List.ext_getElem (by simp [mg])
 intro i a b
 have hi:i<n:=by simpa [mg] using b
 rw [List.getElem_set]
 simp only [mg,List.getElem_map,List.getElem_range]
 split
 ·rename_i e;subst e;exact h1.symm
 ·rename_i e;exact (h2 i hi (Ne.symm e)).symm
theorem qc {n:Nat} {f g:Nat→Int} (h: ∀j,j<n→f j=g j):mg n f=mg n g:=List.map_congr_left fun j hj=>h j (by simpa using hj)
theorem Xb (n:Nat):mg n (fun _=>0)=List.replicate n 0:=by
 apply List.ext_getElem (by simp [mg])
 intro i a b
 simp [mg]
open Classical in
noncomputable def flK (ls:List Ln) (on:List Bool) (pts:List (Int×Int)) (par:Nat→Int) (rk:Nat→Nat) (i k:Nat):Int:=if ∃d,0≤par d∧(par d).toNat=k∧i≤rk d then fI ls on pts k else 0
theorem Qu {b:Int} {ls:List Ln} {on:List Bool} {pts:List (Int×Int)} (h2:BusOk b ls pts) {c:Nat} (h:ie (aw ls on) pts c=true):c<pts.length:=by
 obtain ⟨f,f1,f2⟩:=nf.1 h
 cases f2 with
 |refl=>exact qV f1
 |step _ e=>
  rcases e with e |e
  ·exact (Wc h2 on _ e).2
  ·exact (Wc h2 on _ e).1
theorem aaQ {l:List Nat} (h:l.Nodup) {i:Nat} (hi:i<l.length):l.idxOf (l.getD i 0)=i:=by
 rw [ac hi]
 have hm:l.idxOf l[i]<l.length:=List.idxOf_lt_length_iff.2 (List.getElem_mem hi)
 have h1:=List.getElem_idxOf hm
 rw [List.nodup_iff_pairwise_ne,List.pairwise_iff_getElem] at h
 rcases Nat.lt_trichotomy (l.idxOf l[i]) i with h2 |h2 |h2
 ·exact absurd h1 (h _ _ hm hi h2)
 ·exact h2
 ·exact absurd h1.symm (h _ _ hi hm h2)
section
variable {ls:List Ln} {on:List Bool} {pts:List (Int×Int)} {feed parent:List Int} {ord:List Nat} (h1:StOk (pts.length:Int) ls on) (h2:BusOk (pts.length:Int) ls pts) (hr:nn ls on pts=true) (T:TreeOk ls on pts feed parent ord)
include h2 T
theorem abp: ∀a b,ie (aw ls on) pts a=true→ie (aw ls on) pts b=true→ord.idxOf a=ord.idxOf b→a=b:=by
 intro a b ha hb e
 have ha':=(T.mem a).2 ⟨Qu h2 ha,ha⟩
 have hb':=(T.mem b).2 ⟨Qu h2 hb,hb⟩
 have h3:=List.getElem_idxOf (List.idxOf_lt_length_iff.2 ha')
 have h4:=List.getElem_idxOf (List.idxOf_lt_length_iff.2 hb')
 rw [←h3,←h4]
 congr 1
theorem ZQ {d:Nat} (h:0≤parent.getD d (-1)):ord.idxOf d<ord.length:=by
 obtain ⟨c,hc,_⟩:=T.par.line d h
 have hf:ie (aw ls on) pts d=true:=Up.fed T.par ⟨h,hc⟩
 exact List.idxOf_lt_length_iff.2 ((T.mem d).2 ⟨Qu h2 hf,hf⟩)
include h1 hr
theorem Vx:gg (pts.length:Int) ls feed parent (zl ord) pts=some (mg ls.length (fI ls on pts)):=by
 have hll:=h1.net.ll;have hB:=h1.net.b1
 have hol:ord.length≤pts.length:=wU _ ord T.nd fun b hb=>((T.mem b).1 hb).1
 have hf2: ∀c,c<pts.length→0≤(pts.getD c (0,0)).2∧(pts.getD c (0,0)).2≤999:=fun c hc=>(h2.bs c hc).2
 unfold gg
 have m1:sF (ls.length:Int)=true:=by simp [sF];omega
 have m2:sF (pts.length:Int)=true:=by simp [sF];omega
 have w0:ay (((zl ord).length:Int)-1)=(ord.length:Int)-1:=by rw [bR,bD (by omega) (by omega)]
 rw [m1,m2,aa,aa,w0]
 have P:=T.par
 have hh:=av (gh (pts.length:Int) ls feed parent (zl ord) pts) (fun k=>(mg ls.length (flK ls on pts (fun b=>parent.getD b (-1)) (fun b=>ord.idxOf b) (ord.length-k)),mg pts.length (pQ ls on pts (fun b=>parent.getD b (-1)) (fun b=>ord.idxOf b) (ord.length-k)),(ord.length:Int)-(k:Int)-1)) ord.length (some (mg ls.length (fI ls on pts))) (by omega) (fun k fuel hk=>?_) (fun fuel=>?_)
 ·have e1:mg ls.length (flK ls on pts (fun b=>parent.getD b (-1)) (fun b=>ord.idxOf b) (ord.length-0))=List.replicate ls.length 0:=by
   rw [←Xb]
   refine qc fun j hj=>?_
   unfold flK
   rw [if_neg]
   rintro ⟨d,d1,_,d3⟩
   have:=ZQ h2 T d1
   dsimp only at d3;omega
  have e2:mg pts.length (pQ ls on pts (fun b=>parent.getD b (-1)) (fun b=>ord.idxOf b) (ord.length-0))=List.replicate pts.length 0:=by
   rw [←Xb]
   refine qc fun j hj=>Uj fun b hb=>?_
   rintro (⟨_,hF,hi⟩ |⟨d,d1,d2,_⟩)
   ·have:=List.idxOf_lt_length_iff.2 ((T.mem j).2 ⟨hj,hF⟩)
    dsimp only at hi;omega
   ·have:=ZQ h2 T d1.1
    dsimp only at d2;omega
  rw [e1,e2] at hh
  rw [show (ord.length:Int)-1=(ord.length:Int)-((0:Nat):Int)-1 by omega,hh];rfl
 · -- the bus at i
  obtain ⟨i,hi⟩: ∃i,ord.length-k=i+1:=⟨ord.length-k-1,by omega⟩
  have hio:i<ord.length:=by omega
  have e0:(ord.length:Int)-(k:Int)-1=(i:Int):=by omega
  have e3:(ord.length:Int)-((k+1:Nat):Int)-1=(i:Int)-1:=by omega
  have e4:ord.length-(k+1)=i:=by omega
  rw [hi,e0,e3,e4,qK,fj]
  obtain ⟨o,ho⟩: ∃o,ord.getD i 0=o:=⟨_,rfl⟩
  have hom:o∈ord:=by rw [←ho,ac hio];exact List.getElem_mem hio
  obtain ⟨hon,hof⟩:=(T.mem o).1 hom
  have hrk:ord.idxOf o=i:=by rw [←ho];exact aaQ T.nd hio
  have hpo:parent.getD o 0=parent.getD o (-1):=by rw [ac (by rw [T.lp];exact hon),ac (by rw [T.lp];exact hon)]
  have hinj:=abp h2 T
  have hself:=Par.want_self P (i:=i) (o:=o) hrk hon hof
  have hnow:=Par.want_now P (i:=i) (o:=o) hrk hof
  have hb1:0≤oo ls on pts (fun b=>parent.getD b (-1)) o∧oo ls on pts (fun b=>parent.getD b (-1)) o≤999*pts.length:=Km hf2
  have ws:ay (pQ ls on pts (fun b=>parent.getD b (-1)) (fun b=>ord.idxOf b) (i+1) o+(pts.getD o (0,0)).2)=oo ls on pts (fun b=>parent.getD b (-1)) o:=by rw [hself];exact bD (by omega) (by omega)
  have wi:ay ((i:Int)-1)=(i:Int)-1:=bD (by omega) (by omega)
  have hge:aF 0 (i:Int)=true:=by simp [aF]
  have hxo:aq (o:Int) parent.length=true:=by rw [T.lp];exact ae hon
  simp only [hge,cond_true,bR,ae hio,aa,Int.toNat_natCast,tT,ho,ae hon,hxo,kq hon,ws,wi]
  by_cases hp:0≤parent.getD o (-1)
  ·obtain ⟨c,hlk,hc,hfc,hrc⟩:=P.line o hp
   obtain ⟨j,hj⟩: ∃j:Nat,parent.getD o (-1)=(j:Int):=⟨(parent.getD o (-1)).toNat,by omega⟩
   have hlk':=hlk
   rw [hj,Int.toNat_natCast] at hlk
   have hne:c≠o:=fun e=>by subst e;omega
   have u:Up ls on (fun b=>parent.getD b (-1)) o c:=⟨hp,hlk'⟩
   have hup:=Par.want_up P hinj hrk u
   have habove:kW (pts.length:Int) ls feed parent (zl ord) (o:Int)=some (c:Int):=by
    unfold kW
    rw [hxo,aa,Int.toNat_natCast,hpo,hj,ae hlk.1,aa,Int.toNat_natCast]
    obtain ⟨z,z1,z2⟩:=Pc h1 (b:=o) hlk.1
    rw [z1,Option.bind_some]
    rcases z2 with ⟨_,z3⟩ |⟨c',rfl,_,_,z4⟩
    ·exact absurd hlk (z3 c)
    ·rw [z4 c hlk]
   have hgj:aF 0 (parent.getD o 0)=true:=by rw [hpo];simpa [aF] using hp
   have hxj:aq (parent.getD o 0) ls.length=true:=by rw [hpo,hj];exact ae hlk.1
   have hset1:((mg pts.length (pQ ls on pts (fun b=>parent.getD b (-1)) (fun b=>ord.idxOf b) (i+1))).set o (oo ls on pts (fun b=>parent.getD b (-1)) o)).getD o 0=oo ls on pts (fun b=>parent.getD b (-1)) o:=wh (by rw [pB];exact hon)
   have hset2:((mg pts.length (pQ ls on pts (fun b=>parent.getD b (-1)) (fun b=>ord.idxOf b) (i+1))).set o (oo ls on pts (fun b=>parent.getD b (-1)) o)).getD c 0=pQ ls on pts (fun b=>parent.getD b (-1)) (fun b=>ord.idxOf b) (i+1) c:=by rw [fJ (Ne.symm hne),kq hc]
   have hb2:0≤pQ ls on pts (fun b=>parent.getD b (-1)) (fun b=>ord.idxOf b) i c∧pQ ls on pts (fun b=>parent.getD b (-1)) (fun b=>ord.idxOf b) i c≤999*pts.length:=Km hf2
   have wc:ay (pQ ls on pts (fun b=>parent.getD b (-1)) (fun b=>ord.idxOf b) (i+1) c+oo ls on pts (fun b=>parent.getD b (-1)) o)=pQ ls on pts (fun b=>parent.getD b (-1)) (fun b=>ord.idxOf b) i c:=by rw [←hup];exact bD (by omega) (by omega)
   simp only [hgj,cond_true,hxj,aa,habove,Option.bind_some,ae hc,ae hon,Int.toNat_natCast,hset1,hset2,wc]
   congr 2
   ·rw [hpo,hj,Int.toNat_natCast]
    have hfl:fI ls on pts (parent.getD o (-1)).toNat=oo ls on pts (fun b=>parent.getD b (-1)) o:=Par.flow P h1.len hr (d:=o) hp
    have hbel:oo ls on pts (fun b=>parent.getD b (-1)) o=fI ls on pts j:=by
     rw [hj,Int.toNat_natCast] at hfl
     exact hfl.symm
    refine xJ hlk.1 ?_ fun k' hk' hne'=>?_
    ·unfold flK
     rw [if_pos ⟨o,hp,by dsimp only;rw [hj];rfl,by dsimp only;omega⟩,hbel]
    ·unfold flK
     by_cases hex: ∃d,0≤(fun b=>parent.getD b (-1)) d∧((fun b=>parent.getD b (-1)) d).toNat=k'∧i+1≤(fun b=>ord.idxOf b) d
     ·rw [if_pos hex]
      obtain ⟨d,d1,d2,d3⟩:=hex
      rw [if_pos ⟨d,d1,d2,by omega⟩]
     ·rw [if_neg hex,if_neg]
      rintro ⟨d,d1,d2,d3⟩
      refine hex ⟨d,d1,d2,?_⟩
      dsimp only at d1 d2 d3 ⊢
      rcases Nat.lt_or_ge i (ord.idxOf d) with h |h
      ·exact h
      ·exfalso
       obtain ⟨c',hc',_⟩:=P.line d d1
       have:d=o:=hinj d o (Up.fed P ⟨d1,hc'⟩) hof (by omega)
       subst this
       rw [hj] at d2
       exact hne' (by simpa using d2.symm)
   ·congr 1
    rw [xJ (g:=fun x=>if x=o then oo ls on pts (fun b=>parent.getD b (-1)) o else pQ ls on pts (fun b=>parent.getD b (-1)) (fun b=>ord.idxOf b) (i+1) x) hon (if_pos rfl) (fun j' _ hj'=>if_neg hj')]
    refine xJ hc rfl fun x hx hxc=>?_
    by_cases hxo2:x=o
    ·subst hxo2;rw [if_pos rfl];exact hnow
    ·rw [if_neg hxo2]
     exact Par.want_else P hinj hrk hof hxo2 fun u'=>hxc (u'.inj u).symm.symm
  ·have hgj:aF 0 (parent.getD o 0)=false:=by rw [hpo];simp only [aF,decide_eq_false_iff_not];exact hp
   simp only [hgj,cond_false,Option.bind_some]
   congr 2
   ·refine qc fun k' hk'=>?_
    unfold flK
    by_cases hex: ∃d,0≤(fun b=>parent.getD b (-1)) d∧((fun b=>parent.getD b (-1)) d).toNat=k'∧i+1≤(fun b=>ord.idxOf b) d
    ·rw [if_pos hex]
     obtain ⟨d,d1,d2,d3⟩:=hex
     rw [if_pos ⟨d,d1,d2,by omega⟩]
    ·rw [if_neg hex,if_neg]
     rintro ⟨d,d1,d2,d3⟩
     refine hex ⟨d,d1,d2,?_⟩
     dsimp only at d1 d2 d3 ⊢
     rcases Nat.lt_or_ge i (ord.idxOf d) with h |h
     ·exact h
     ·exfalso
      obtain ⟨c',hc',_⟩:=P.line d d1
      have:d=o:=hinj d o (Up.fed P ⟨d1,hc'⟩) hof (by omega)
      subst this
      exact hp d1
   ·congr 1
    refine xJ hon hnow fun x hx hxo2=>?_
    exact Par.want_else P hinj hrk hof hxo2 fun u'=>hp u'.1
 ·rw [qK,fj]
  have e0:aF 0 ((ord.length:Int)-(ord.length:Int)-1)=false:=by simp only [aF,decide_eq_false_iff_not];omega
  simp only [e0,cond_false,Nat.sub_self]
  congr 1
  refine qc fun k hk=>?_
  unfold flK
  by_cases hex: ∃d,0≤(fun b=>parent.getD b (-1)) d∧((fun b=>parent.getD b (-1)) d).toNat=k∧0≤(fun b=>ord.idxOf b) d
  ·rw [if_pos hex]
  ·rw [if_neg hex]
   exact (Par.flow0 P h1.len hr fun d d1 d2=>hex ⟨d,d1,d2,Nat.zero_le _⟩).symm
omit hr in
theorem aaH {b:Nat} (hb:b<pts.length):kX (pts.length:Int) ls feed parent (zl ord) pts (b:Int)=some (if aG pts b=true then cR (aw ls on) pts (·.2) b else 0):=by
 have hB:=h1.net.b1
 unfold kX
 have hf2: ∀c,c<pts.length→0≤(pts.getD c (0,0)).2∧(pts.getD c (0,0)).2≤999:=fun c hc=>(h2.bs c hc).2
 have hbd: ∀k,k≤pts.length→0≤((List.range k).map fun c=>if feed.getD c 0=(b:Int) then (pts.getD c (0,0)).2 else 0).sum∧((List.range k).map fun c=>if feed.getD c 0=(b:Int) then (pts.getD c (0,0)).2 else 0).sum≤999*k:=by
  intro k
  induction k with
  |zero=>intro _;simp
  |succ k ih=>
   intro hk
   have i1:=ih (by omega)
   have i2:=hf2 k (by omega)
   rw [List.range_succ,List.map_append,List.sum_append]
   simp only [List.map_cons,List.map_nil,List.sum_cons,List.sum_nil]
   split<;>omega
 have hh:=av (db feed pts (b:Int)) (fun k=>(((List.range k).map fun c=>if feed.getD c 0=(b:Int) then (pts.getD c (0,0)).2 else 0).sum,(k:Int))) pts.length (some (((List.range pts.length).map fun c=>if feed.getD c 0=(b:Int) then (pts.getD c (0,0)).2 else 0).sum)) (by omega) (fun k fuel hk=>?_) (fun fuel=>?_)
 ·rw [show db feed pts (b:Int) ah (0,0)=_ from hh,Option.bind_some]
  congr 1
  by_cases hfb:aG pts b=true
  ·rw [if_pos hfb]
   refine re fun c hc=>?_
   have:=T.fd c b hc
   by_cases e:aP (aw ls on) c=aP (aw ls on) b
   ·rw [if_pos e,if_pos (this.2 ⟨hfb,((oW _ _ _).1 e).symm⟩)]
   ·rw [if_neg e,if_neg fun e2=>e ((oW _ _ _).2 (this.1 e2).2.symm)]
  ·rw [if_neg hfb]
   exact zV fun c hc=>if_neg fun e2=>hfb ((T.fd c b hc).1 e2).1
 ·rw [qL,fk]
  have hx:aq (k:Int) feed.length=true:=by rw [T.lf];exact ae hk
  have i1:=hbd k (by omega)
  have i2:=hf2 k hk
  have wk:ay (((List.range k).map fun c=>if feed.getD c 0=(b:Int) then (pts.getD c (0,0)).2 else 0).sum+(pts.getD k (0,0)).2)=((List.range k).map fun c=>if feed.getD c 0=(b:Int) then (pts.getD c (0,0)).2 else 0).sum+(pts.getD k (0,0)).2:=bD (by omega) (by omega)
  have hlt:af (k:Int) (feed.length:Int)=true:=by rw [T.lf];exact au hk
  simp only [hlt,cond_true,hx,aa,Int.toNat_natCast,ae hk,wk,ab (by omega:k<4611686018427387904)]
  rw [List.range_succ,List.map_append,List.sum_append]
  simp only [List.map_cons,List.map_nil,List.sum_cons,List.sum_nil]
  by_cases e:feed.getD k 0=(b:Int)
  ·rw [if_pos e,show (feed.getD k 0==(b:Int))=true by rw [e];simp]
   simp
  ·rw [if_neg e,show (feed.getD k 0==(b:Int))=false by simpa using e]
   simp
 ·rw [qL,fk]
  have hlt:af (pts.length:Int) (feed.length:Int)=false:=by rw [T.lf];exact ak
  simp only [hlt,cond_false]
theorem adY:mq (pts.length:Int) ls feed parent (zl ord) pts=some (cT ls on pts):=by
 have hll:=h1.net.ll;have hB:=h1.net.b1
 unfold mq cT
 rw [Vx h1 h2 hr T,Option.bind_some,hr]
 have a1:=bW (dT ls (mg ls.length (fI ls on pts))) (fun k=>(k:Int)) ls.length (fun k=>decide ((ls.getD k (0,0,0)).2.2<fI ls on pts k)) (some (.inr false)) (some (.inl ())) (by omega) (fun k fuel hk=>?_) (fun fuel=>?_)
 ·have a2:=bW (dU (pts.length:Int) ls feed parent (zl ord) pts) (fun k=>(k:Int)) pts.length (fun b=>aG pts b&&decide ((pts.getD b (0,0)).1<cR (aw ls on) pts (·.2) b)) (some (.inr false)) (some (.inl ())) (by omega) (fun k fuel hk=>?_) (fun fuel=>?_)
  ·rw [show dT ls (mg ls.length (fI ls on pts)) ah 0=_ from a1,show dU (pts.length:Int) ls feed parent (zl ord) pts ah 0=_ from a2]
   cases (List.range ls.length).any fun k=>decide ((ls.getD k (0,0,0)).2.2<fI ls on pts k)
   ·cases (List.range pts.length).any fun b=>aG pts b&&decide ((pts.getD b (0,0)).1<cR (aw ls on) pts (·.2) b)<;>rfl
   ·rfl
  ·rw [rH,gj]
   simp only [au hk,ae hk,cond_true,aa,Int.toNat_natCast,aaH h1 h2 T hk,Option.bind_some,ab (by omega:k<4611686018427387904)]
   have:=(h2.bs k hk).1
   cases hfa:aG pts k
   ·have:af (pts.getD k (0,0)).1 (if false=true then cR (aw ls on) pts (·.2) k else 0)=false:=by
     simp only [Bool.false_eq_true,if_false,af,decide_eq_false_iff_not];omega
    rw [this];rfl
   ·rfl
  ·rw [rH,gj];simp only [ak,cond_false]
 ·rw [rG,gi]
  simp only [pB,au hk,ae hk,cond_true,aa,Int.toNat_natCast,kq hk,ab (by omega:k<4611686018427387904)]
  rfl
 ·rw [rG,gi];simp only [pB,ak,cond_false]
end
theorem Vy (b:Int) (ls:List Ln) (on:List Bool) (pts:List (Int×Int)) (hp:pts.length≤1048576):pc b ls on pts=some (OY b ls on pts&&cT ls on pts):=by
 obtain ⟨r,r1,r2,r3⟩:=VE b ls on pts hp
 unfold pc
 rw [r1,Option.bind_some,r2]
 cases hv:wZ b ls on pts
 ·simp only [qW,Option.bind_some,Bool.false_and]
  congr 1
  cases ho:OY b ls on pts
  ·rfl
  ·cases hg:cT ls on pts
   ·rfl
   ·have:=OA hg
    unfold wZ at hv
    rw [ho,this] at hv;cases hv
 ·obtain ⟨g1,g2,ord,g3,T⟩:=r3 hv
  have hv':=hv
  unfold wZ at hv'
  rw [Bool.and_eq_true] at hv'
  obtain ⟨h1,h2⟩:=fB.1 hv'.1
  have hlp:=h2.lp
  subst hlp
  rw [g1,g2,g3,show ifL true ls=ls from rfl,adY h1 h2 hv'.2 T,hv'.1]
  simp only [cd,Option.bind_some,Bool.true_and]
section
variable {ls:List Ln} {on:List Bool} {pts:List (Int×Int)} (h1:StOk (pts.length:Int) ls on) (h2:BusOk (pts.length:Int) ls pts)
include h1 h2
theorem PC {k:Nat} (hk:k<pts.length):gH (pts.length:Int) ls on pts (k:Int)=some (cR (aw ls on) pts (·.2) k):=by
 have hB:=h1.net.b1
 unfold gH am
 have w1:ay ((pts.length:Int)-1)=(pts.length:Int)-1:=bD (by omega) (by omega)
 have c1:(aF 0 (k:Int)&&aF (k:Int) ((pts.length:Int)-1))=true:=by simp [aF];omega
 rw [Ub _ ls pts (by omega),fB.2 ⟨h1,h2⟩,Option.bind_some,w1,c1]
 simp only [Bool.not_true,Bool.not_false,cd,Option.bind_some,Bool.or_self,cond_false,Kg h1 hk]
 rw [←LW]
 have hl:=EH (aw ls on) pts.length k
 have hm: ∀c∈ru (aw ls on) pts.length k,c<pts.length:=fun c hc=>by have:=(List.mem_filter.1 hc).1;simpa using this
 generalize ru (aw ls on) pts.length k=l at*
 have hh:=av (dh pts (zl l)) (fun j=>(((l.take j).map fun c=>(pts.getD c (0,0)).2).sum,(j:Int))) l.length (some ((l.map fun c=>(pts.getD c (0,0)).2).sum)) (by omega) (fun j fuel hj=>?_) (fun fuel=>?_)
 ·rw [show dh pts (zl l) ah (0,0)=_ from hh];rfl
 ·rw [qQ,fw]
  have hc:l.getD j 0<pts.length:=hm _ (by rw [ac hj];exact List.getElem_mem hj)
  have hb:=SY (l.take j) (fun c=>(pts.getD c (0,0)).2) (fun c hc=>(h2.bs c (hm c (List.mem_of_mem_take hc))).2)
  have hlen:(l.take j).length=j:=by rw [List.length_take];omega
  have hx:=(h2.bs _ hc).2
  rw [hlen] at hb
  have w2:ay (((l.take j).map fun c=>(pts.getD c (0,0)).2).sum+(pts.getD (l.getD j 0) (0,0)).2)=((l.take j).map fun c=>(pts.getD c (0,0)).2).sum+(pts.getD (l.getD j 0) (0,0)).2:=bD (by omega) (by omega)
  simp only [bR,au hj,ae hj,cond_true,aa,Int.toNat_natCast,tT,ae hc,w2,ab (by omega:j<4611686018427387904)]
  rw [El hj]
 ·rw [qQ,fw];simp only [bR,ak,cond_false,List.take_length]
end
theorem Uk {Pr:Nat→Prop} (E:Ed):(∀e∈E,Pr e.1↔Pr e.2)→ ∀ {s:Nat→Bool},(∀c,s c=true→Pr c)→ ∀c,me E s c=true→Pr c:=by
 induction E with
 |nil=>intro _ s h c hc;exact h c hc
 |cons e E ih=>
  intro hE s h c hc
  refine ih (fun x hx=>hE x (by simp [hx])) (s:=LJ s e) (fun c hc=>?_) c hc
  unfold LJ at hc
  split at hc
  ·rename_i hs
   have he:=hE e (by simp)
   have h3:Pr e.1∧Pr e.2:=by
    rw [Bool.or_eq_true] at hs
    rcases hs with hs |hs
    ·exact ⟨h _ hs,he.1 (h _ hs)⟩
    ·exact ⟨he.2 (h _ hs),h _ hs⟩
   simp only [Bool.or_eq_true,beq_iff_eq] at hc
   rcases hc with (rfl |rfl) |hc
   ·exact h3.1
   ·exact h3.2
   ·exact h c hc
  ·exact h c hc
theorem Rp {E:Ed} {B:Nat} (hE: ∀e∈E,e.1<B∧e.2<B) (s0:Nat→Bool) (c:Nat):aM E s0 B c=true↔ ∃b,s0 b=true∧Cn E b c:=by
 have hsh: ∀k,PZ E (aM E s0 k)∨k≤(List.range B).countP (aM E s0 k):=by
  intro k
  induction k with
  |zero=>exact .inr (Nat.zero_le _)
  |succ k ih=>
   by_cases hs:PZ E (aM E s0 k)
   ·left
    have e:aM E s0 (k+1)=aM E s0 k:=funext (Kj hs)
    rw [e];exact hs
   ·rcases ih with ih |ih
    ·exact absurd ih hs
    right
    have hm: ∀c,aM E s0 k c=true→aM E s0 (k+1) c=true:=fun c hc=>qb E hc
    obtain ⟨e,he,hne⟩: ∃e∈E,aM E s0 k e.1≠aM E s0 k e.2:=by
     refine Classical.byContradiction fun hn=>hs fun e he=>Classical.byContradiction fun h=>hn ⟨e,he,h⟩
    have hor:(aM E s0 k e.1 ||aM E s0 k e.2)=true:=by
     revert hne;cases aM E s0 k e.1<;>cases aM E s0 k e.2<;>simp
    have hh:=Me E he hor
    have hlt:=hE e he
    have:=(Od (List.range B) hm).2 (by
     cases h1:aM E s0 k e.1
     ·exact ⟨e.1,by simpa using hlt.1,hh.1,h1⟩
     ·cases h2:aM E s0 k e.2
      ·exact ⟨e.2,by simpa using hlt.2,hh.2,h2⟩
      ·rw [h1,h2] at hne;exact absurd rfl hne)
    omega
 have hs:PZ E (aM E s0 B):=by
  rcases hsh B with h |h
  ·exact h
  ·intro e he
   have hall: ∀x∈List.range B,aM E s0 B x=true:=by
    have h3:=List.countP_le_length (p:=aM E s0 B) (l:=List.range B)
    rw [List.length_range] at h3
    exact List.countP_eq_length.1 (by rw [List.length_range];omega)
   rw [hall e.1 (by simpa using (hE e he).1),hall e.2 (by simpa using (hE e he).2)]
 constructor
 ·intro h
  have hinv: ∀k c,aM E s0 k c=true→ ∃b,s0 b=true∧Cn E b c:=by
   intro k
   induction k with
   |zero=>intro c hc;exact ⟨c,hc,.refl _⟩
   |succ k ih=>
    refine Uk E (fun e he=>?_) ih
    constructor
    ·rintro ⟨b,h1,h2⟩;exact ⟨b,h1,h2.step (.inl he)⟩
    ·rintro ⟨b,h1,h2⟩;exact ⟨b,h1,h2.step (.inr he)⟩
  exact hinv B c h
 ·rintro ⟨b,h1,h2⟩
  have hb: ∀k,aM E s0 k b=true:=by
   intro k
   induction k with
   |zero=>exact h1
   |succ k ih=>exact qb E ih
  induction h2 with
  |refl=>exact hb B
  |step _ e ih=>
   rcases e with e |e
   ·rw [←hs _ e];exact ih
   ·rw [hs _ e];exact ih
structure PI (ls:List Ln) (on:List Bool) (pts:List (Int×Int)) (q:Nat→Int):Prop where
 feed: ∀b,b<pts.length→aG pts b=true→q b= -1
 neg: ∀b,b<pts.length→q b= -1→aG pts b=true
 low: ∀b,b<pts.length→ -2≤q b
 hi: ∀b,b<pts.length→0≤q b→(q b).toNat<ls.length
 rk: ∃rk:Nat→Nat,∀b,b<pts.length→0≤q b→ ∃c,Lk ls on (q b).toNat b c∧c<pts.length∧ -2<q c∧rk c<rk b
theorem PI.put {ls:List Ln} {on:List Bool} {pts:List (Int×Int)} {q:Nat→Int} (h:PI ls on pts q) {k b c:Nat} (hb:b<pts.length) (hq:q b= -2) (hl:Lk ls on k b c) (hc:c<pts.length) (hqc: -2<q c):PI ls on pts (fun x=>if x=b then (k:Int) else q x):=by
 obtain ⟨rk,hrk⟩:=h.rk
 have hcb:c≠b:=fun e=>by subst e;omega
 refine ⟨fun x hx hf=>?_,fun x hx he=>?_,fun x hx=>?_,fun x hx h0=>?_,fun x=>if x=b then rk c+1 else rk x,fun x hx h0=>?_⟩
 ·try dsimp only
  split
  ·rename_i e;subst e;have:=h.feed x hx hf;omega
  ·exact h.feed x hx hf
 ·try dsimp only at he
  split at he
  ·omega
  ·exact h.neg x hx he
 ·try dsimp only
  split
  ·omega
  ·exact h.low x hx
 ·try dsimp only at h0 ⊢
  split at h0
  ·rename_i e;rw [if_pos e];simpa using hl.1
  ·rename_i e;rw [if_neg e];exact h.hi x hx h0
 ·try dsimp only at h0 ⊢
  by_cases e:x=b
  ·subst e
   rw [if_pos rfl,if_pos rfl]
   refine ⟨c,by simpa using hl,hc,?_,?_⟩
   ·rw [if_neg hcb];exact hqc
   ·rw [if_neg hcb];omega
  ·rw [if_neg e] at h0 ⊢
   obtain ⟨d,d1,d2,d3,d4⟩:=hrk x hx h0
   have hdb:d≠b:=fun e2=>by subst e2;omega
   refine ⟨d,d1,d2,?_,?_⟩
   ·rw [if_neg hdb];exact d3
   ·rw [if_neg hdb,if_neg e];exact d4
theorem PI.toPar {ls:List Ln} {on:List Bool} {pts:List (Int×Int)} {q:Nat→Int} (h:PI ls on pts q) (hs: ∀c,c<pts.length→(-2<q c↔ie (aw ls on) pts c=true)): ∃rk,Par ls on pts (fun b=>(mg pts.length q).getD b (-1)) rk:=by
 obtain ⟨rk,hrk⟩:=h.rk
 have hg: ∀b,b<pts.length→(mg pts.length q).getD b (-1)=q b:=fun b hb=>by simp [mg,List.getD,hb]
 refine ⟨rk,⟨fun b hb hf=>?_,fun b hb=>?_,fun b hb=>?_⟩⟩
 ·try dsimp only
  rw [hg b hb]
  have h1:=(hs b hb).2 hf
  by_cases h2:q b= -1
  ·exact .inl (h.neg b hb h2)
  ·exact .inr (by omega)
 ·have hlt:=qV hb
  try dsimp only
  rw [hg b hlt,h.feed b hlt hb];omega
 ·have hlt:b<pts.length:=by
   rcases Nat.lt_or_ge b pts.length with h1 |h1
   ·exact h1
   ·try dsimp only at hb
    rw [List.getD_eq_getElem?_getD,List.getElem?_eq_none (by rw [pB];exact h1)] at hb;simp at hb
  try dsimp only at hb ⊢
  rw [hg b hlt] at hb ⊢
  obtain ⟨c,c1,c2,c3,c4⟩:=hrk b hlt hb
  exact ⟨c,c1,c2,(hs c c2).1 c3,c4⟩
section
variable {ls:List Ln} {on:List Bool} {pts:List (Int×Int)} (h1:StOk (pts.length:Int) ls on) (h2:BusOk (pts.length:Int) ls pts)
include h1 h2
omit h2 in
theorem aeJ {p0:List Int} (hp0:p0.length=pts.length) {q:Nat→Int} (hq:PI ls on pts q) {s0:Nat→Bool} (hs: ∀c,c<pts.length→decide (-2<q c)=s0 c):
 ∃q',ei ls on p0 ah (mg pts.length q,0)=some (mg pts.length q')∧PI ls on pts q'∧ ∀c,c<pts.length→decide (-2<q' c)=me (aw ls on) s0 c:=by
 have hll:=h1.net.ll;have hl:=h1.len
 obtain ⟨s,⟨q',rfl,r1,r2⟩,hh⟩:=wS (ei ls on p0) (fun k s=> ∃q,s=(mg pts.length q,(k:Int))∧PI ls on pts q∧ ∀c,c<pts.length→decide (-2<q c)=me (wX ((ls.zip on).take k)) s0 c) ls.length (fun s=>some s.1) (by omega) (by
  rintro k fuel s hk ⟨q,rfl,r1,r2⟩
  rw [sa,hH]
  have hln:=zG (h1.net.ln k hk)
  simp only [Int.toNat_natCast] at hln
  have hne:=(h1.net.ln k hk).ne
  rw [hln.1,hln.2.1] at hne
  have hlt:af (k:Int) (on.length:Int)=true:=by rw [hl];exact au hk
  simp only [hlt,ae hk,ae (show k<on.length by omega),aa,cond_true,Int.toNat_natCast,ab (by omega:k<4611686018427387904)]
  rw [hln.1,hln.2.1]
  obtain ⟨e,he⟩: ∃e,bS (ls.getD k (0,0,0))=e:=⟨_,rfl⟩
  rw [he] at hln hne ⊢
  have hAB:e.1≠e.2:=by omega
  have xA:aq (e.1:Int) p0.length=true:=by rw [hp0];exact ae hln.2.2.1
  have xB:aq (e.2:Int) p0.length=true:=by rw [hp0];exact ae hln.2.2.2
  simp only [xA,xB,Int.toNat_natCast,Bool.or_true,aa]
  cases ho:on.getD k false
  ·simp only [Bool.false_and,cond_false,Option.bind_some]
   exact ⟨_,⟨q,rfl,r1,by rw [xL h1 hk,ho];simpa using r2⟩,rfl⟩
  ·have hlkA:Lk ls on k e.2 e.1:=⟨hk,ho,.inr he⟩
   have hlkB:Lk ls on k e.1 e.2:=⟨hk,ho,.inl he⟩
   have sA:=r2 e.1 hln.2.2.1
   have sB:=r2 e.2 hln.2.2.2
   simp only [Bool.true_and,kq hln.2.2.1,kq hln.2.2.2]
   by_cases c1: -2<q e.1∧q e.2= -2
   ·have g1:(af (-2) (q e.1)&&(q e.2== -2))=true:=by simp [af,c1.1,c1.2]
    obtain ⟨q1,hq1⟩: ∃q1:Nat→Int,q1=fun x=>if x=e.2 then (k:Int) else q x:=⟨_,rfl⟩
    have hset:(mg pts.length q).set e.2 (k:Int)=mg pts.length q1:=by rw [hq1];exact xJ hln.2.2.2 (if_pos rfl) fun j _ hj=>if_neg hj
    have qA:q1 e.1=q e.1:=by rw [hq1];exact if_neg hAB
    have qB:q1 e.2=(k:Int):=by rw [hq1];exact if_pos rfl
    have g2:(af (-2) (k:Int)&&(q e.1== -2))=false:=by
     have:(q e.1== -2)=false:=by simp;omega
     rw [this,Bool.and_false]
    simp only [g1,cond_true,Option.bind_some,hset,kq hln.2.2.1,kq hln.2.2.2,qA,qB,g2,cond_false]
    subst hq1
    refine ⟨_,⟨_,rfl,r1.put hln.2.2.2 c1.2 hlkA hln.2.2.1 c1.1,fun c hc=>?_⟩,rfl⟩
    rw [xL h1 hk,ho,if_pos rfl,he,xI]
    have hor:(me (wX ((ls.zip on).take k)) s0 e.1 ||me (wX ((ls.zip on).take k)) s0 e.2)=true:=by rw [←sA,decide_eq_true c1.1];rfl
    unfold LJ
    rw [if_pos hor]
    try dsimp only
    by_cases hc2:c=e.2
    ·subst hc2;rw [if_pos rfl];simp;omega
    ·rw [if_neg hc2]
     by_cases hc1:c=e.1
     ·subst hc1;simp [c1.1]
     ·rw [r2 c hc];simp [hc1,hc2]
   ·have g1:(af (-2) (q e.1)&&(q e.2== -2))=false:=by
     rw [Bool.eq_false_iff];intro h;simp [af] at h;exact c1 h
    simp only [g1,cond_false,Option.bind_some,kq hln.2.2.1,kq hln.2.2.2]
    by_cases c2: -2<q e.2∧q e.1= -2
    ·have g2:(af (-2) (q e.2)&&(q e.1== -2))=true:=by simp [af,c2.1,c2.2]
     have hset:(mg pts.length q).set e.1 (k:Int)=mg pts.length (fun x=>if x=e.1 then (k:Int) else q x):=xJ hln.2.2.1 (if_pos rfl) fun j _ hj=>if_neg hj
     simp only [g2,cond_true,Option.bind_some,hset]
     refine ⟨_,⟨_,rfl,r1.put hln.2.2.1 c2.2 hlkB hln.2.2.2 c2.1,fun c hc=>?_⟩,rfl⟩
     rw [xL h1 hk,ho,if_pos rfl,he,xI]
     have hor:(me (wX ((ls.zip on).take k)) s0 e.1 ||me (wX ((ls.zip on).take k)) s0 e.2)=true:=by rw [←sB,decide_eq_true c2.1,Bool.or_true]
     unfold LJ
     rw [if_pos hor]
     try dsimp only
     by_cases hc2:c=e.1
     ·subst hc2;rw [if_pos rfl];simp;omega
     ·rw [if_neg hc2]
      by_cases hc1:c=e.2
      ·subst hc1;simp [c2.1]
      ·rw [r2 c hc];simp [hc1,hc2]
    ·have g2:(af (-2) (q e.2)&&(q e.1== -2))=false:=by
      rw [Bool.eq_false_iff];intro h;simp [af] at h;exact c2 h
     simp only [g2,cond_false,Option.bind_some]
     refine ⟨_,⟨q,rfl,r1,fun c hc=>?_⟩,rfl⟩
     rw [xL h1 hk,ho,if_pos rfl,he,xI,r2 c hc]
     have lA:=r1.low e.1 hln.2.2.1
     have lB:=r1.low e.2 hln.2.2.2
     unfold LJ
     split
     ·rename_i hor
      rw [←sA,←sB,Bool.or_eq_true,decide_eq_true_eq,decide_eq_true_eq] at hor
      have hA: -2<q e.1:=by omega
      have hB: -2<q e.2:=by omega
      by_cases hc1:c=e.1
      ·subst hc1;rw [←sA];simp [hA]
      ·by_cases hc2:c=e.2
       ·subst hc2;rw [←sB];simp [hB]
       ·simp [hc1,hc2]
     ·rfl) (by
  rintro fuel s ⟨q,rfl,r1,r2⟩
  rw [sa,hH]
  have hlt:af (ls.length:Int) (on.length:Int)=false:=by rw [hl];exact ak
  simp only [hlt,cond_false]) (mg pts.length q,0) ⟨q,rfl,hq,by simpa [me,wX] using hs⟩
 refine ⟨q',hh,r1,?_⟩
 rw [NG h1] at r2;exact r2
omit h2 in
theorem WP: ∃q,mL (pts.length:Int) ls on pts=some (mg pts.length q)∧PI ls on pts q∧ ∀c,c<pts.length→(-2<q c↔ie (aw ls on) pts c=true):=by
 have hB:=h1.net.b1
 unfold mL
 have q0:PI ls on pts (fun b=>if aG pts b=true then-1 else-2):=by
  have e: ∀b,(aG pts b=true∧(if aG pts b=true then (-1:Int) else-2)= -1)∨(aG pts b=false∧(if aG pts b=true then (-1:Int) else-2)= -2):=fun b=>by cases h:aG pts b<;>simp
  refine ⟨fun b _ h=>if_pos h,fun b _ h=>?_,fun b _=>?_,fun b _ h=>?_,fun _=>0,fun b _ h=>?_⟩
  ·rcases e b with ⟨g,g2⟩ |⟨g,g2⟩
   ·exact g
   ·rw [g2] at h;omega
  ·rcases e b with ⟨g,g2⟩ |⟨g,g2⟩<;>rw [g2]<;>omega
  ·rcases e b with ⟨g,g2⟩ |⟨g,g2⟩<;>rw [g2] at h<;>omega
  ·rcases e b with ⟨g,g2⟩ |⟨g,g2⟩<;>rw [g2] at h<;>omega
 have l1:eh (pts.length:Int) pts ah (([]:List Int),0)=some (mg pts.length (fun b=>if aG pts b=true then-1 else-2)):=by
  have hh:=av (eh (pts.length:Int) pts) (fun k=>(mg k (fun b=>if aG pts b=true then-1 else-2),(k:Int))) pts.length (some (mg pts.length (fun b=>if aG pts b=true then-1 else-2))) (by omega) (fun k fuel hk=>?_) (fun fuel=>?_)
  ·exact hh
  ·rw [rY,gY]
   have a1: ∀x:Int,bw (mg k (fun b=>if aG pts b=true then-1 else-2)).length ([x]:List Int).length=true:=fun x=>by rw [pB];simp [bw];omega
   have e:mg (k+1) (fun b=>if aG pts b=true then (-1:Int) else-2)=mg k (fun b=>if aG pts b=true then-1 else-2)++ [if aG pts k=true then-1 else-2]:=by simp [mg,List.range_succ]
   simp only [au hk,ae hk,cond_true,aa,Int.toNat_natCast,a1,ab (by omega:k<4611686018427387904)]
   rw [e,show af 0 (pts.getD k (0,0)).1=aG pts k from rfl]
   cases aG pts k<;>rfl
  ·rw [rY,gY];simp only [ak,cond_false]
 rw [l1,Option.bind_some]
 obtain ⟨s,⟨q,rfl,r1,r2⟩,hh⟩:=wS (iW (pts.length:Int) ls on (mg pts.length (fun b=>if aG pts b=true then-1 else-2))) (fun k s=> ∃q,s=(mg pts.length q,(k:Int))∧PI ls on pts q∧ ∀c,c<pts.length→decide (-2<q c)=aM (aw ls on) (aG pts) k c) pts.length (fun s=>some s.1) (by omega) (by
  rintro k fuel s hk ⟨q,rfl,r1,r2⟩
  rw [rZ,gZ]
  obtain ⟨q',a1,a2,a3⟩:=aeJ h1 (p0:=mg pts.length (fun b=>if aG pts b=true then-1 else-2)) (pB _ _) r1 r2
  simp only [au hk,cond_true,a1,Option.bind_some,ab (by omega:k<4611686018427387904)]
  exact ⟨_,⟨q',rfl,a2,a3⟩,rfl⟩) (by
  rintro fuel s ⟨q,rfl,r1,r2⟩
  rw [rZ,gZ];simp only [ak,cond_false]) (mg pts.length (fun b=>if aG pts b=true then-1 else-2),0) ⟨_,rfl,q0,fun c hc=>by
   show decide (-2<if aG pts c=true then (-1:Int) else-2)=aG pts c
   cases aG pts c<;>rfl⟩
 refine ⟨q,by rw [hh];rfl,r1,fun c hc=>?_⟩
 have h3:=r2 c hc
 rw [←decide_eq_true_iff (p:= -2<q c),h3,Rp (ZW h1),nf]
omit h2 in
theorem agp {q:Nat→Int} (hq:PI ls on pts q) {b:Nat} {w:List Nat} (hw:Way ls on (fun b=>(mg pts.length q).getD b (-1)) b w):b<pts.length→ ∀(fuel:Nat) (out:List Int),w.length<fuel→out.length+w.length≤1000→nS (pts.length:Int) ls (mg pts.length q) fuel ((b:Int),out)=some (zl w++out):=by
 have hg: ∀b,b<pts.length→(mg pts.length q).getD b (-1)=q b:=fun b hb=>by simp [mg,List.getD,hb]
 have hll:=h1.net.ll
 induction hw with
 | @top b h=>
  intro hb fuel out hf ho
  obtain ⟨g,rfl⟩: ∃g,fuel=g+1:=⟨fuel-1,by omega⟩
  rw [xS,mM]
  try dsimp only at h
  rw [hg b hb] at h
  have:aF 0 (q b)=false:=by simp only [aF,decide_eq_false_iff_not];omega
  simp only [pB,ae hb,aa,Int.toNat_natCast,kq hb,this,cond_false]
  rfl
 | @step b c w h hlk _ ih=>
  intro hb fuel out hf ho
  obtain ⟨g,rfl⟩: ∃g,fuel=g+1:=⟨fuel-1,by omega⟩
  rw [xS,mM]
  try dsimp only at h hlk ih ⊢
  rw [hg b hb] at h hlk ⊢
  rw [List.length_append,List.length_singleton] at hf ho
  obtain ⟨rk,hrk⟩:=hq.rk
  obtain ⟨c',k1,k2,_⟩:=hrk b hb h
  obtain rfl:=Fp hlk k1
  have hge:aF 0 (q b)=true:=by simpa [aF] using h
  obtain ⟨j,hj⟩: ∃j:Nat,q b=(j:Int):=⟨(q b).toNat,by omega⟩
  have hne:=(h1.net.ln j (by rw [hj] at hlk;simpa using hlk.1)).ne
  have hlj:Lk ls on j b c:=by rw [hj] at hlk;simpa using hlk
  have hln:=zG (h1.net.ln j hlj.1)
  simp only [Int.toNat_natCast] at hln
  have ha:bw ([(q b)]:List Int).length out.length=true:=by simp [bw];omega
  have w1:ay ((ls.length:Int)-1)=(ls.length:Int)-1:=bD (by omega) (by omega)
  have c1:(aF 0 (j:Int)&&aF (j:Int) ((ls.length:Int)-1))=true:=by have:=hlj.1;simp [aF];omega
  have hoe:nP (pts.length:Int) ls (q b) (b:Int)=some (c:Int):=by
   unfold nP am
   rw [Zd,zJ.2 h1.net,hj,w1,c1]
   simp only [Option.bind_some,Bool.not_true,Bool.not_false,cd,Bool.or_self,cond_false,ae hlj.1,aa,Int.toNat_natCast]
   rw [hln.1,hln.2.1] at hne ⊢
   rcases hlj.2.2 with e |e
   ·rw [e];simp
   ·rw [e] at hne ⊢
    have:(((c:Nat):Int)==((b:Nat):Int))=false:=by simpa using hne
    simp [this]
  simp only [pB,ae hb,aa,Int.toNat_natCast,kq hb,hge,cond_true,ha,hoe,Option.bind_some]
  rw [ih k2 g _ (by omega) (by simp;omega),hj,Int.toNat_natCast]
  simp [zl]
theorem WM (hr:nn ls on pts=true):mc (pts.length:Int) ls on pts=some (mg ls.length (fI ls on pts)):=by
 have hll:=h1.net.ll;have hB:=h1.net.b1;have hl:=h1.len
 obtain ⟨q,q1,q2,q3⟩:=WP h1
 obtain ⟨rk,P⟩:=q2.toPar q3
 have hg: ∀b,b<pts.length→(mg pts.length q).getD b (-1)=q b:=fun b hb=>by simp [mg,List.getD,hb]
 have hways: ∀b,∃w,Way ls on (fun b=>(mg pts.length q).getD b (-1)) b w:=fun b=>P.way (rk b) b (Nat.le_refl _)
 obtain ⟨wy,hwy⟩: ∃wy:Nat→List Nat,∀b,Way ls on (fun b=>(mg pts.length q).getD b (-1)) b (wy b):=⟨fun b=>Classical.choose (hways b),fun b=>Classical.choose_spec (hways b)⟩
 have hwlt: ∀b,∀k∈wy b,k<ls.length:=by
  intro b k hk
  obtain ⟨d,d1,d2,_⟩:=Way.mem P (hwy b) k hk
  obtain ⟨c,hc,_⟩:=P.line d d1
  rw [←d2];exact hc.1
 have hwnd: ∀b,(wy b).Nodup:=fun b=>Way.nodup P (hwy b)
 have hwl: ∀b,(wy b).length≤10:=fun b=>by have:=wU ls.length (wy b) (hwnd b) (hwlt b);omega
 have hf2: ∀c,c<pts.length→0≤(pts.getD c (0,0)).2∧(pts.getD c (0,0)).2≤999:=fun c hc=>(h2.bs c hc).2
 have hbd: ∀x k,k≤pts.length→0≤((List.range k).map fun b=>if x∈wy b then (pts.getD b (0,0)).2 else 0).sum∧((List.range k).map fun b=>if x∈wy b then (pts.getD b (0,0)).2 else 0).sum≤999*k:=by
  intro x k
  induction k with
  |zero=>intro _;simp
  |succ k ih=>
   intro hk
   have i1:=ih (by omega)
   have i2:=hf2 k (by omega)
   rw [List.range_succ,List.map_append,List.sum_append]
   simp only [List.map_cons,List.map_nil,List.sum_cons,List.sum_nil]
   split<;>omega
 unfold mc
 have m1:sF (on.length:Int)=true:=by simp [sF];omega
 rw [m1,aa,q1,Option.bind_some,hl]
 have hh:=av (hZ (pts.length:Int) ls (mg pts.length q) on pts) (fun k=>(mg ls.length (fun x=>((List.range k).map fun b=>if x∈wy b then (pts.getD b (0,0)).2 else 0).sum),(k:Int))) pts.length (some (mg ls.length (fI ls on pts))) (by omega) (fun k fuel hk=>?_) (fun fuel=>?_)
 ·have e0:mg ls.length (fun x=>((List.range 0).map fun b=>if x∈wy b then (pts.getD b (0,0)).2 else 0).sum)=List.replicate ls.length 0:=by rw [←Xb];rfl
  rw [e0] at hh
  rw [show hZ (pts.length:Int) ls (mg pts.length q) on pts ah (List.replicate ls.length 0,0)=_ from hh];rfl
 ·rw [uJ,kj]
  have hway:su (pts.length:Int) ls (mg pts.length q) (k:Int)=some (zl (wy k)):=by
   unfold su
   have:=hwl k
   rw [agp h1 q2 (hwy k) hk ah [] (qh (by omega)) (by simp;omega)];simp
  have i2:=hf2 k hk
  have hin:=av (ia on pts (mg ls.length (fun x=>((List.range k).map fun b=>if x∈wy b then (pts.getD b (0,0)).2 else 0).sum),(k:Int)) (zl (wy k))) (fun j=>(mg ls.length (fun x=>((List.range k).map fun b=>if x∈wy b then (pts.getD b (0,0)).2 else 0).sum+if x∈(wy k).take j then (pts.getD k (0,0)).2 else 0),(j:Int))) (wy k).length (some (mg ls.length (fun x=>((List.range k).map fun b=>if x∈wy b then (pts.getD b (0,0)).2 else 0).sum+if x∈wy k then (pts.getD k (0,0)).2 else 0))) (by have:=hwl k;omega) (fun j fuel hj=>?_) (fun fuel=>?_)
  ·have e0:mg ls.length (fun x=>((List.range k).map fun b=>if x∈wy b then (pts.getD b (0,0)).2 else 0).sum+if x∈(wy k).take 0 then (pts.getD k (0,0)).2 else 0)=mg ls.length (fun x=>((List.range k).map fun b=>if x∈wy b then (pts.getD b (0,0)).2 else 0).sum):=qc fun x _=>by simp
   rw [e0] at hin
   simp only [au hk,cond_true,hway,Option.bind_some,ab (by omega:k<4611686018427387904)]
   rw [show ia on pts (mg ls.length (fun x=>((List.range k).map fun b=>if x∈wy b then (pts.getD b (0,0)).2 else 0).sum),(k:Int)) (zl (wy k)) ah (mg ls.length (fun x=>((List.range k).map fun b=>if x∈wy b then (pts.getD b (0,0)).2 else 0).sum),0)=_ from hin,Option.bind_some]
   congr 2
   refine qc fun x _=>?_
   rw [List.range_succ,List.map_append,List.sum_append];simp
  ·rw [uK,ko]
   have hwj:(wy k).getD j 0<ls.length:=hwlt k _ (by rw [ac hj];exact List.getElem_mem hj)
   have hwo:(wy k).getD j 0<on.length:=by omega
   have hnot:(wy k).getD j 0∉(wy k).take j:=by
    intro hm
    obtain ⟨i,hi,he⟩:=List.mem_iff_getElem.1 hm
    rw [List.length_take] at hi
    rw [List.getElem_take,ac hj] at he
    have hnd:=hwnd k
    rw [List.nodup_iff_pairwise_ne,List.pairwise_iff_getElem] at hnd
    exact hnd i j (by omega) hj (by omega) he
   have b1:=hbd ((wy k).getD j 0) k (by omega)
   have ws:ay (((List.range k).map fun b=>if (wy k).getD j 0∈wy b then (pts.getD b (0,0)).2 else 0).sum+(if (wy k).getD j 0∈(wy k).take j then (pts.getD k (0,0)).2 else 0)+(pts.getD k (0,0)).2)=((List.range k).map fun b=>if (wy k).getD j 0∈wy b then (pts.getD b (0,0)).2 else 0).sum+(pts.getD k (0,0)).2:=by
    rw [if_neg hnot,Int.add_zero];exact bD (by omega) (by omega)
   simp only [bR,au hj,ae hj,cond_true,aa,Int.toNat_natCast,tT,ae hwo,ae hk,kq hwj,ws,ab (by have:=hwl k;omega:j<4611686018427387904)]
   congr 2
   refine xJ hwj ?_ fun x hx hne=>?_
   ·have:(wy k).getD j 0∈(wy k).take (j+1):=by rw [List.take_succ_eq_append_getElem hj,ac hj];exact List.mem_append_right _ (List.mem_singleton_self _)
    exact congrArg (fun z=>((List.range k).map fun b=>if (wy k).getD j 0∈wy b then (pts.getD b (0,0)).2 else 0).sum+z) (if_pos this)
   ·have:x∈(wy k).take (j+1)↔x∈(wy k).take j:=by
     rw [List.take_succ_eq_append_getElem hj,List.mem_append,List.mem_singleton]
     constructor
     ·rintro (h |h)
      ·exact h
      ·exact absurd (h.trans (ac hj).symm) hne
     ·exact .inl
    simp only [this]
  ·rw [uK,ko];simp only [bR,ak,cond_false,List.take_length]
 ·rw [uJ,kj]
  simp only [ak,cond_false]
  congr 1
  refine qc fun x hx=>re fun b hb=>?_
  cases hf:ie (aw ls on) pts b
  ·have hn:x∉wy b:=by
    have hwb:=hwy b
    generalize wy b=w at hwb
    cases hwb with
    |top _=>simp
    |step u1 u2 _=>rw [Up.fed P ⟨u1,u2⟩] at hf;cases hf
   simp [hn]
  ·have:=Way.iff P hl hr (hwy b) hb hf (k:=x)
   cases hx2:ie (aw ls (on.set x false)) pts b
   ·rw [if_pos (this.2 hx2)];simp
   ·rw [if_neg fun hm=>by have:=this.1 hm;rw [hx2] at this;cases this];simp
theorem aeC (hr:nn ls on pts=true):qy (pts.length:Int) ls on pts=some (cT ls on pts):=by
 have hll:=h1.net.ll;have hB:=h1.net.b1;have hl:=h1.len
 unfold qy cT
 rw [hr]
 have a1:=bW (jr (pts.length:Int) ls on pts) (fun k=>(k:Int)) pts.length (fun b=>aG pts b&&decide ((pts.getD b (0,0)).1<cR (aw ls on) pts (·.2) b)) (some (.inr false)) (some (.inl ())) (by omega) (fun k fuel hk=>?_) (fun fuel=>?_)
 ·rw [show jr (pts.length:Int) ls on pts ah 0=_ from a1]
  have a2:qz (pts.length:Int) ls on pts=some (zl ((List.range ls.length).filter fun k=>decide ((ls.getD k (0,0,0)).2.2<fI ls on pts k))):=by
   unfold qz
   rw [WM h1 h2 hr,Option.bind_some]
   have hh:=oe (mN ls on (mg ls.length (fI ls on pts))) ls.length (fun k=>decide ((ls.getD k (0,0,0)).2.2<fI ls on pts k)) some (by omega) (fun k fuel l hk ha=>?_) (fun fuel l=>?_)
   ·rw [hh];rfl
   ·rw [wa,lH]
    have hlt:af (k:Int) (on.length:Int)=true:=by rw [hl];exact au hk
    simp only [hlt,cond_true,pB,ae hk,aa,Int.toNat_natCast,kq hk,ha,ab (by omega:k<4611686018427387904)]
    show Option.bind (bif decide ((ls.getD k (0,0,0)).2.2<fI ls on pts k) then _ else _) _=_
    cases decide ((ls.getD k (0,0,0)).2.2<fI ls on pts k)<;>rfl
   ·rw [wa,lH]
    have hlt:af (ls.length:Int) (on.length:Int)=false:=by rw [hl];exact ak
    simp only [hlt,cond_false]
  rw [a2]
  have a3:(((zl ((List.range ls.length).filter fun k=>decide ((ls.getD k (0,0,0)).2.2<fI ls on pts k))).length:Int)==0)= !(List.range ls.length).any fun k=>decide ((ls.getD k (0,0,0)).2.2<fI ls on pts k):=by
   rw [Bool.eq_iff_iff,bR,beq_iff_eq,Bool.not_eq_true',List.any_eq_false]
   constructor
   ·intro h k hk hc
    have:=List.length_pos_of_mem (List.mem_filter (p:=fun k=>decide ((ls.getD k (0,0,0)).2.2<fI ls on pts k)).2 ⟨hk,hc⟩)
    omega
   ·intro h
    have:(List.range ls.length).filter (fun k=>decide ((ls.getD k (0,0,0)).2.2<fI ls on pts k))=[]:=List.filter_eq_nil_iff.2 h
    rw [this];rfl
  rw [Bool.true_and]
  cases (List.range pts.length).any fun b=>aG pts b&&decide ((pts.getD b (0,0)).1<cR (aw ls on) pts (·.2) b)
  ·simp only [cond_false,Option.bind_some,Sum.elim_inl,a3,Bool.not_false,Bool.and_true]
  ·simp only [cond_true,Option.bind_some,Sum.elim_inr,Bool.not_true,Bool.and_false]
 ·rw [vZ,lG]
  simp only [au hk,ae hk,cond_true,aa,Int.toNat_natCast,PC h1 h2 hk,Bool.or_true,ab (by omega:k<4611686018427387904)]
  rw [show af 0 (pts.getD k (0,0)).1=aG pts k from rfl]
  cases aG pts k<;>rfl
 ·rw [vZ,lG];simp only [ak,cond_false]
end
theorem WN (b:Int) (ls:List Ln) (on:List Bool) (pts:List (Int×Int)) (hp:pts.length≤1048576):po b ls on pts=some (OY b ls on pts&&cT ls on pts):=by
 unfold po
 rw [IB b ls on pts hp,Option.bind_some]
 cases hv:wZ b ls on pts
 ·simp only [qW,Option.bind_some,Bool.false_and]
  congr 1
  cases ho:OY b ls on pts
  ·rfl
  ·cases hg:cT ls on pts
   ·rfl
   ·have:=OA hg
    unfold wZ at hv
    rw [ho,this] at hv;cases hv
 ·have hv':=hv
  unfold wZ at hv'
  rw [Bool.and_eq_true] at hv'
  obtain ⟨h1,h2⟩:=fB.1 hv'.1
  have hlp:=h2.lp
  subst hlp
  rw [aeC h1 h2 hv'.2,hv'.1]
  simp only [cd,Option.bind_some,Bool.true_and]
theorem PE (E:Ed) (pts:List (Int×Int)) (f:Int×Int→Int) (p:Nat→Bool) (hl: ∀c,c<pts.length→aP E c<8): ∀k,k≤pts.length→((List.range 8).map fun j=>if p j=true then mY E pts f k j else 0).sum=((List.range k).map fun c=>if p (aP E c)=true then f (pts.getD c (0,0)) else 0).sum
 |0,_=>by
  rw [zV fun j _=>by rw [WX];simp];rfl
 |k+1,hk=>by
  have ih:=PE E pts f p hl k (by omega)
  have hlk:=hl k (by omega)
  rw [SZ (g:=fun j=>if p j=true then mY E pts f k j else 0) (h:=fun j=>if j=aP E k then (if p j=true then f (pts.getD k (0,0)) else 0) else 0) (fun j _=>by
   rw [NC]
   by_cases h1:p j=true
   ·rw [if_pos h1,if_pos h1]
    by_cases h2:aP E k=j
    ·rw [if_pos h2,if_pos h2.symm,if_pos h1]
    ·rw [if_neg h2,if_neg (Ne.symm h2)]
   ·rw [if_neg h1,if_neg h1];simp [h1]),ih,SX (fun j=>if p j=true then f (pts.getD k (0,0)) else 0) hlk,List.range_succ,List.map_append,List.sum_append]
  simp
theorem WS {E:Ed} {pts:List (Int×Int)} (hl: ∀c,c<pts.length→aP E c<8):((List.range 8).map fun j=>if aF (mY E pts (·.2) pts.length j) (mY E pts (·.1) pts.length j)=true then mY E pts (·.2) pts.length j else 0).sum=aC E pts:=by
 rw [PE E pts (·.2) (fun j=>aF (mY E pts (·.2) pts.length j) (mY E pts (·.1) pts.length j)) hl pts.length (Nat.le_refl _)]
 unfold aC
 refine re fun b hb=>?_
 rw [Rm,Rm]
 by_cases h:mY E pts (·.2) pts.length (aP E b)≤mY E pts (·.1) pts.length (aP E b)
 ·rw [if_pos h,if_pos (show aF _ _=true from decide_eq_true h)]
 ·rw [if_neg h,if_neg (by simp only [aF,decide_eq_true_eq];exact h)]
theorem VO {b:Int} {ls:List Ln} {pts:List (Int×Int)} (h:BusOk b ls pts) (E:Ed): ∀c,c<pts.length→aP E c<8:=by
 intro c hc
 have h1:=(VN E).1 c
 have:=(Lo h).1
 omega
theorem Sb {b:Int} {ls:List Ln} {on:List Bool} {pts:List (Int×Int)} (h1:StOk b ls on) (h2:BusOk b ls pts):gc b ls on pts=some (aC (aw ls on) pts):=by
 have hl8:=VO h2 (aw ls on)
 obtain ⟨b1,b2⟩:=Lo h2
 unfold gc
 rw [ZE h1 h2,Option.bind_some,←WS hl8]
 have hb: ∀j,0≤mY (aw ls on) pts (·.2) pts.length j∧mY (aw ls on) pts (·.2) pts.length j≤7992:=fun j=>by
  have:=xH (aw ls on) pts (·.2) (fun c hc=>(h2.bs c hc).2) j pts.length (Nat.le_refl _);omega
 generalize hS:mY (aw ls on) pts (·.2) pts.length=S at*
 generalize mY (aw ls on) pts (·.1) pts.length=F at*
 have hbd: ∀k,0≤((List.range k).map fun j=>if aF (S j) (F j)=true then S j else 0).sum∧((List.range k).map fun j=>if aF (S j) (F j)=true then S j else 0).sum≤7992*k:=by
  intro k
  induction k with
  |zero=>simp
  |succ k ih=>
   have:=hb k
   rw [List.range_succ,List.map_append,List.sum_append]
   simp only [List.map_cons,List.map_nil,List.sum_cons,List.sum_nil]
   split<;>omega
 have hh:=av (da (Xa F S)) (fun k=>(((List.range k).map fun j=>if aF (S j) (F j)=true then S j else 0).sum,(k:Int))) 8 (some (((List.range 8).map fun j=>if aF (S j) (F j)=true then S j else 0).sum)) (by omega) (fun k fuel hk=>?_) (fun fuel=>?_)
 ·rw [show da (Xa F S) ah (0,0)=_ from hh];rfl
 ·rw [qJ,fi]
  have i1:=hbd k
  have i2:=hb k
  have w1:ay (((List.range k).map fun j=>if aF (S j) (F j)=true then S j else 0).sum+S k)=((List.range k).map fun j=>if aF (S j) (F j)=true then S j else 0).sum+S k:=bD (by omega) (by omega)
  have hlt:af (k:Int) 8=true:=decide_eq_true (by omega)
  dsimp only [Xa]
  simp only [hlt,ae hk,cond_true,aa,Int.toNat_natCast,aaE _ hk,w1,ab (by omega:k<4611686018427387904)]
  have e:((List.range (k+1)).map fun j=>if aF (S j) (F j)=true then S j else 0).sum=((List.range k).map fun j=>if aF (S j) (F j)=true then S j else 0).sum+(if aF (S k) (F k)=true then S k else 0):=by
   rw [List.range_succ,List.map_append,List.sum_append];simp
  rw [e]
  cases aF (S k) (F k)<;>simp only [cond_false,cond_true,Option.bind_some,Bool.false_eq_true,if_false,if_true,Int.add_zero,Int.natCast_add,Int.natCast_one,Int.ofNat_one]
 ·rw [qJ,fi];rfl
theorem ra {b:Int} {ls:List Ln} {pts:List (Int×Int)} (h:BusOk b ls pts) (E:Ed):0≤aC E pts∧aC E pts≤7992:=by
 obtain ⟨b1,b2⟩:=Lo h
 have: ∀k,k≤pts.length→0≤((List.range k).map fun b=>if cR E pts (·.2) b≤cR E pts (·.1) b then (pts.getD b (0,0)).2 else 0).sum∧((List.range k).map fun b=>if cR E pts (·.2) b≤cR E pts (·.1) b then (pts.getD b (0,0)).2 else 0).sum≤999*k:=by
  intro k
  induction k with
  |zero=>intro _;simp
  |succ k ih=>
   intro hk
   have i1:=ih (by omega)
   have i2:=(h.bs k (by omega)).2
   rw [List.range_succ,List.map_append,List.sum_append]
   simp only [List.map_cons,List.map_nil,List.sum_cons,List.sum_nil]
   split<;>omega
 have h2:=this pts.length (Nat.le_refl _)
 unfold aC
 omega
theorem ST {ls:List Ln} {on:List Bool} {pts:List (Int×Int)} (h1:StOk (pts.length:Int) ls on) (h2:BusOk (pts.length:Int) ls pts):cj (pts.length:Int) ls on pts=some (aC (aw ls on) pts):=by
 obtain ⟨b1,b2⟩:=Lo h2
 unfold cj
 rw [Ub _ ls pts (by omega),fB.2 ⟨h1,h2⟩,Option.bind_some,cond_true]
 have hbd: ∀k,k≤pts.length→0≤((List.range k).map fun b=>if cR (aw ls on) pts (·.2) b≤cR (aw ls on) pts (·.1) b then (pts.getD b (0,0)).2 else 0).sum∧((List.range k).map fun b=>if cR (aw ls on) pts (·.2) b≤cR (aw ls on) pts (·.1) b then (pts.getD b (0,0)).2 else 0).sum≤999*k:=by
  intro k
  induction k with
  |zero=>intro _;simp
  |succ k ih=>
   intro hk
   have i1:=ih (by omega)
   have i2:=(h2.bs k (by omega)).2
   rw [List.range_succ,List.map_append,List.sum_append]
   simp only [List.map_cons,List.map_nil,List.sum_cons,List.sum_nil]
   split<;>omega
 have hh:=av (di (pts.length:Int) ls on pts) (fun k=>(((List.range k).map fun b=>if cR (aw ls on) pts (·.2) b≤cR (aw ls on) pts (·.1) b then (pts.getD b (0,0)).2 else 0).sum,(k:Int))) pts.length (some (aC (aw ls on) pts)) (by omega) (fun k fuel hk=>?_) (fun fuel=>?_)
 ·rw [show di (pts.length:Int) ls on pts ah (0,0)=_ from hh];rfl
 ·rw [qR,fx]
  have i1:=hbd k (by omega)
  have i2:=(h2.bs k hk).2
  have w1:ay (((List.range k).map fun b=>if cR (aw ls on) pts (·.2) b≤cR (aw ls on) pts (·.1) b then (pts.getD b (0,0)).2 else 0).sum+(pts.getD k (0,0)).2)=((List.range k).map fun b=>if cR (aw ls on) pts (·.2) b≤cR (aw ls on) pts (·.1) b then (pts.getD b (0,0)).2 else 0).sum+(pts.getD k (0,0)).2:=bD (by omega) (by omega)
  simp only [au hk,cond_true,PA h1 h2 hk,PC h1 h2 hk,Option.bind_some,ae hk,aa,Int.toNat_natCast,w1,ab (by omega:k<4611686018427387904)]
  have e:((List.range (k+1)).map fun b=>if cR (aw ls on) pts (·.2) b≤cR (aw ls on) pts (·.1) b then (pts.getD b (0,0)).2 else 0).sum=((List.range k).map fun b=>if cR (aw ls on) pts (·.2) b≤cR (aw ls on) pts (·.1) b then (pts.getD b (0,0)).2 else 0).sum+(if cR (aw ls on) pts (·.2) k≤cR (aw ls on) pts (·.1) k then (pts.getD k (0,0)).2 else 0):=by
   rw [List.range_succ,List.map_append,List.sum_append];simp
  rw [e]
  by_cases h:cR (aw ls on) pts (·.2) k≤cR (aw ls on) pts (·.1) k
  ·rw [show aF (cR (aw ls on) pts (·.2) k) (cR (aw ls on) pts (·.1) k)=true from decide_eq_true h,if_pos h];simp only [cond_true,Option.bind_some,Int.natCast_add,Int.natCast_one]
  ·rw [show aF (cR (aw ls on) pts (·.2) k) (cR (aw ls on) pts (·.1) k)=false from decide_eq_false h,if_neg h];simp only [cond_false,Option.bind_some,Int.add_zero,Int.natCast_add,Int.natCast_one]
 ·rw [qR,fx];simp only [ak,cond_false];rfl
section
variable {a c:List Bool} (hl:a.length=c.length) (ha:a.length≤1048576)
include hl ha
theorem Vw:pb a c=some (zl (bi a c)):=by
 unfold pb
 have e:((a.length:Int) !=(c.length:Int))=false:=by rw [hl];simp
 rw [e]
 have hh:=oe (kP a c) a.length (fun k=>a.getD k false !=c.getD k false) some (by omega) (fun k fuel l hk hp=>?_) (fun fuel l=>?_)
 ·rw [hh];rfl
 ·rw [uj,jA]
  simp only [au hk,ae hk,ae (show k<c.length by omega),cond_true,aa,Int.toNat_natCast,hp,ab (by omega:k<4611686018427387904)]
  cases a.getD k false !=c.getD k false<;>rfl
 ·rw [uj,jA];simp only [ak,cond_false]
theorem Pz:jh a c=some (zl (bi a c)):=by
 unfold jh
 have e:((a.length:Int)==(c.length:Int))=true:=by rw [hl];simp
 have hh:=oe (lz a c) a.length (fun k=>a.getD k false !=c.getD k false) some (by omega) (fun k fuel l hk hp=>?_) (fun fuel l=>?_)
 ·rw [hh];rfl
 ·rw [ux,jU]
  simp only [au hk,e,Bool.and_self,ae hk,ae (show k<c.length by omega),cond_true,aa,Int.toNat_natCast,hp,ab (by omega:k<4611686018427387904)]
  cases a.getD k false !=c.getD k false<;>rfl
 ·rw [ux,jU];simp only [ak,Bool.false_and,cond_false]
end
theorem UO (a c:List Bool):(bi a c).length≤a.length:=by
 unfold bi
 have:=List.length_filter_le (fun k=>a.getD k false !=c.getD k false) (List.range a.length)
 rwa [List.length_range] at this
theorem FR {n:Nat} (h:n≤10):tW .i64 1 (n:Int)=((2 ^ n:Nat):Int):=by
 have:n=0∨n=1∨n=2∨n=3∨n=4∨n=5∨n=6∨n=7∨n=8∨n=9∨n=10:=by omega
 rcases this with rfl |rfl |rfl |rfl |rfl |rfl |rfl |rfl |rfl |rfl |rfl<;>decide
theorem Zf {x k:Nat} (hk:k≤64):kL .i64 (x:Int) (k:Int)=((x>>>k:Nat):Int):=by
 unfold kL
 rw [show min (k:Int).toNat (IntKind.bits .i64)=k by rw [Int.toNat_natCast];exact Nat.min_eq_left hk,Nat.shiftRight_eq_div_pow]
 rw [Int.fdiv_eq_ediv_of_nonneg _ (by exact Int.le_of_lt (Int.pow_pos (by decide)))]
 norm_cast
theorem XE {x:Nat} (h:x<4611686018427387904):qe .i64 (x:Int) 1=((x % 2:Nat):Int):=by
 have e:qe .i64 (x:Int) 1=ay ((BitVec.ofInt 64 (x:Int)&&&BitVec.ofInt 64 1).toNat:Int):=rfl
 have h1:(BitVec.ofInt 64 (x:Int)).toNat=x:=by rw [BitVec.ofInt_natCast,BitVec.toNat_ofNat,Nat.mod_eq_of_lt (by omega)]
 have h2:(BitVec.ofInt 64 1).toNat=1:=by decide
 rw [e,BitVec.toNat_and,h1,h2,Nat.and_one_is_mod,bD (by omega) (by omega)]
theorem XJ {x k:Nat} (hx:x<4611686018427387904) (hk:k≤64):(qe .i64 (kL .i64 (x:Int) (k:Int)) 1==1)=x.testBit k:=by
 have h1:x>>>k≤x:=Nat.shiftRight_le x k
 rw [Zf hk,XE (by omega)]
 rw [Nat.testBit,Nat.one_and_eq_mod_two]
 rcases Nat.mod_two_eq_zero_or_one (x>>>k) with h |h<;>rw [h]<;>rfl
theorem VC {x n:Nat} (hx:x<4611686018427387904) (hn:n≤10):pe (x:Int) (n:Int)=some (be n x):=by
 unfold pe
 have hm:sF (n:Int)=true:=by simp [sF];omega
 rw [hm,aa,Int.toNat_natCast]
 have hh:=av (gf (x:Int) (n:Int)) (fun k=>(mix n k (fun i=>x.testBit i) (fun _=>false),(k:Int))) n (some (be n x)) (by omega) (fun k fuel hk=>?_) (fun fuel=>?_)
 ·have e:mix n 0 (fun i=>x.testBit i) (fun _=>false)=List.replicate n false:=by
   apply List.ext_getElem (by simp [mix])
   intro i h1 h2
   simp [mix]
  rw [e] at hh
  rw [show gf (x:Int) (n:Int) ah (List.replicate n false,0)=_ from hh];rfl
 ·rw [um,jG]
  have hnn:qZ (k:Int)=true:=by simp [qZ]
  simp only [Int.toNat_natCast,au hk,hnn,ae hk,cond_true,aa,XJ hx (by omega:k≤64),ab (by omega:k<4611686018427387904)]
  rw [YC (f:=fun i=>x.testBit i) (g:=fun _=>false) hk]
 ·rw [um,jG]
  simp only [Int.toNat_natCast,ak,cond_false]
  congr 1
  unfold mix be
  refine List.map_congr_left fun i hi=>?_
  rw [if_pos (by simpa using hi)]
theorem WR {x n:Nat} (hx:x<2 ^ n) (hn:n≤10):pu (x:Int) (n:Int)=some (be n x,true):=by
 have hp:2 ^ n≤1024:=by
  have:=Nat.pow_le_pow_right (show 0<2 by decide) hn
  omega
 unfold pu am
 have c1:(aF 0 (n:Int)&&aF (n:Int) 10)=true:=by simp [aF];omega
 have hnn:qZ (n:Int)=true:=by simp [qZ]
 have w1:ay (((2 ^ n:Nat):Int)-1)=((2 ^ n:Nat):Int)-1:=bD (by omega) (by omega)
 have c2:(aF 0 (x:Int)&&aF (x:Int) (((2 ^ n:Nat):Int)-1))=true:=by simp only [aF,Bool.and_eq_true,decide_eq_true_eq];omega
 rw [c1,hnn,FR hn,w1,c2]
 simp only [Option.bind_some,Bool.not_true,Bool.not_false,Bool.or_true,aa,cd,Bool.or_self,cond_false]
 have hh:=av (gN (n:Int)) (fun k=>(((x>>>k:Nat):Int),(List.range k).map (fun i=>x.testBit i),(k:Int))) n (some (be n x)) (by omega) (fun k fuel hk=>?_) (fun fuel=>?_)
 ·rw [show gN (n:Int) ah ((x:Int),([]:List Bool),0)=_ from hh];rfl
 ·rw [uD,jZ]
  have hle:x>>>k≤x:=Nat.shiftRight_le x k
  have ha: ∀z:Bool,bw ((List.range k).map (fun i=>x.testBit i)).length ([z]:List Bool).length=true:=fun z=>by simp [bw];omega
  have t1:Int.tmod ((x>>>k:Nat):Int) 2=((x>>>k % 2:Nat):Int):=by rw [Int.tmod_eq_emod_of_nonneg (Int.natCast_nonneg _)];norm_cast
  have t2:ay (Int.tdiv ((x>>>k:Nat):Int) 2)=((x>>>(k+1):Nat):Int):=by
   rw [Int.tdiv_eq_ediv_of_nonneg (Int.natCast_nonneg _),Nat.shiftRight_succ]
   generalize x>>>k=y at hle ⊢
   rw [bD (by omega) (by omega)];norm_cast
  have t3:((((x>>>k % 2:Nat):Int))==1)=x.testBit k:=by
   rw [Nat.testBit,Nat.one_and_eq_mod_two]
   rcases Nat.mod_two_eq_zero_or_one (x>>>k) with h |h<;>rw [h]<;>rfl
  simp only [au hk,cond_true,ha,aa,t1,t2,t3,ab (by omega:k<4611686018427387904)]
  rw [List.range_succ,List.map_append];rfl
 ·rw [uD,jZ];simp only [ak,cond_false];rfl
def Fq (E:List Bool→Int) (C:List Bool→Nat):Option (List Bool)→List Bool×Int×Int
 |none=>([],-1,0)
 |some y=>(y,E y,(C y:Int))
def Wj:Option (List Bool)→List Bool×Bool
 |none=>([],false)
 |some y=>(y,true)
theorem and_zero (x:Int):qe .i64 x 0=0:=by
 unfold qe
 rw [show BitVec.ofInt (IntKind.bits .i64) 0=0#(IntKind.bits .i64) from rfl,BitVec.and_zero];rfl
section
variable {ls:List Ln} {on:List Bool} {pts:List (Int×Int)} (h1:StOk (pts.length:Int) ls on) (h2:BusOk (pts.length:Int) ls pts) (h0:1≤ls.length)
include h1 h2 h0
theorem Lu (num:Nat):StOk (pts.length:Int) ls (be ls.length num)∧(on.length=(be ls.length num).length)∧OY (pts.length:Int) ls (be ls.length num) pts=true:=by
 have e:(be ls.length num).length=ls.length:=Kl _ _
 have hs:StOk (pts.length:Int) ls (be ls.length num):=⟨h1.net,e⟩
 exact ⟨hs,h1.len.trans e.symm,fB.2 ⟨hs,h2⟩⟩
theorem Lp (num:Nat):jv (fun x=>cT ls x pts) (fun x=>aC (aw ls x) pts) (fun x=>(bi on x).length) ((List.range (num+1)).map (be ls.length))=DH (fun x=>cT ls x pts) (fun x=>aC (aw ls x) pts) (fun x=>(bi on x).length) (jv (fun x=>cT ls x pts) (fun x=>aC (aw ls x) pts) (fun x=>(bi on x).length) ((List.range num).map (be ls.length))) (be ls.length num):=by
 rw [List.range_succ,List.map_append];exact Ht _ _ _ _ _
theorem adU:mm (pts.length:Int) ls on pts []=some (Wj (pH ls on pts)):=by
 have hll:=h1.net.ll;have hB:=h1.net.b1;have hl:=h1.len
 have hp:2 ^ ls.length≤1024:=by
  have:=Nat.pow_le_pow_right (show 0<2 by decide) hll
  omega
 unfold mm
 have l1:sf (pts.length:Int) ls [] ah (0,0)=some 0:=by rw [Gk];rfl
 have hnn:qZ (ls.length:Int)=true:=by simp [qZ]
 rw [Yk _ ls pts (by omega),fB.2 ⟨h1,h2⟩,Option.bind_some,cond_true,l1,Option.bind_some,hnn,aa]
 have hh:=av (dN (pts.length:Int) ls on pts 0) (fun num=>((Fq (fun x=>aC (aw ls x) pts) (fun x=>(bi on x).length) (jv (fun x=>cT ls x pts) (fun x=>aC (aw ls x) pts) (fun x=>(bi on x).length) ((List.range num).map (be ls.length)))).1,(Fq (fun x=>aC (aw ls x) pts) (fun x=>(bi on x).length) (jv (fun x=>cT ls x pts) (fun x=>aC (aw ls x) pts) (fun x=>(bi on x).length) ((List.range num).map (be ls.length)))).2.1,(Fq (fun x=>aC (aw ls x) pts) (fun x=>(bi on x).length) (jv (fun x=>cT ls x pts) (fun x=>aC (aw ls x) pts) (fun x=>(bi on x).length) ((List.range num).map (be ls.length)))).2.2,(num:Int))) (2 ^ ls.length)
  (some (Fq (fun x=>aC (aw ls x) pts) (fun x=>(bi on x).length) (pH ls on pts)).1) (by omega) (fun num fuel hk=>?_) (fun fuel=>?_)
 ·rw [show dN (pts.length:Int) ls on pts 0 ah (([]:List Bool),-1,0,0)=_ from hh,Option.bind_some]
  cases hb:pH ls on pts with
  |none=>rfl
  |some y=>
   have:=(Eo hb).1
   cases y with
   |nil=>simp at this;omega
   |cons z y=>rfl
 ·rw [ry,fO,Lp h1 h2 h0]
  obtain ⟨f1,f2,f3⟩:=Lu h1 h2 h0 num
  have hsv:=ra h2 (aw ls (be ls.length num))
  have hcl:(zl (bi on (be ls.length num))).length=(bi on (be ls.length num)).length:=bR _
  have hlt:af (num:Int) ((2 ^ ls.length:Nat):Int)=true:=au hk
  have hne:(!(List.isEmpty (be ls.length num)))=true:=by
   have:(be ls.length num).length=ls.length:=Kl _ _
   cases hst:be ls.length num with
   |nil=>rw [hst] at this;simp at this;omega
   |cons=>rfl
  simp only [FR hll,hlt,cond_true,and_zero,VC (show num<4611686018427387904 by omega) hll,Option.bind_some,Sb f1 h2,Vw f2 (by omega),Vy _ ls _ pts (by omega),f3,Bool.true_and,hcl,hne,aa,ab (by omega:num<4611686018427387904)]
  generalize jv (fun x=>cT ls x pts) (fun x=>aC (aw ls x) pts) (fun x=>(bi on x).length) ((List.range num).map (be ls.length))=a
  have e0:((0:Int) !=0)=false:=rfl
  simp only [e0,cond_false]
  cases a with
  |none=>
   dsimp only [Fq]
   have c1:af (aC (aw ls (be ls.length num)) pts) (-1)=false:=decide_eq_false (by omega)
   have c2:af (-1) (aC (aw ls (be ls.length num)) pts)=true:=decide_eq_true (by omega)
   have hb:DH (fun x=>cT ls x pts) (fun x=>aC (aw ls x) pts) (fun x=>(bi on x).length) none (be ls.length num)=if cT ls (be ls.length num) pts=true then some (be ls.length num) else none:=by
    unfold DH Gn;simp only [Bool.and_true]
   simp only [c1,c2,cond_false,Bool.true_or,cd,Option.bind_some,Bool.true_and,hb]
   generalize cT ls (be ls.length num) pts=g
   cases g<;>rfl
  |some z=>
   have hb:DH (fun x=>cT ls x pts) (fun x=>aC (aw ls x) pts) (fun x=>(bi on x).length) (some z) (be ls.length num)=if (cT ls (be ls.length num) pts&&(decide (aC (aw ls z) pts<aC (aw ls (be ls.length num)) pts) ||(decide (aC (aw ls z) pts=aC (aw ls (be ls.length num)) pts)&&decide ((bi on (be ls.length num)).length<(bi on z).length))))=true then some (be ls.length num) else some z:=rfl
   rw [hb]
   dsimp only [Fq]
   generalize cT ls (be ls.length num) pts=g
   by_cases c1:aC (aw ls (be ls.length num)) pts<aC (aw ls z) pts
   ·have d1:decide (aC (aw ls z) pts<aC (aw ls (be ls.length num)) pts)=false:=decide_eq_false (by omega)
    have d2:decide (aC (aw ls z) pts=aC (aw ls (be ls.length num)) pts)=false:=decide_eq_false (by omega)
    rw [show af (aC (aw ls (be ls.length num)) pts) (aC (aw ls z) pts)=true from decide_eq_true c1]
    simp only [cond_true,Option.bind_some,d1,d2,Bool.false_and,Bool.or_self,Bool.and_false,Bool.false_eq_true,if_false]
   ·rw [show af (aC (aw ls (be ls.length num)) pts) (aC (aw ls z) pts)=false from decide_eq_false c1]
    have d3:(af (aC (aw ls z) pts) (aC (aw ls (be ls.length num)) pts) ||af ((bi on (be ls.length num)).length:Int) ((bi on z).length:Int))=(decide (aC (aw ls z) pts<aC (aw ls (be ls.length num)) pts) ||(decide (aC (aw ls z) pts=aC (aw ls (be ls.length num)) pts)&&decide ((bi on (be ls.length num)).length<(bi on z).length))):=by
     rw [Bool.eq_iff_iff];simp only [af,Bool.or_eq_true,Bool.and_eq_true,decide_eq_true_eq];omega
    simp only [cond_false,d3]
    generalize (decide (aC (aw ls z) pts<aC (aw ls (be ls.length num)) pts) ||(decide (aC (aw ls z) pts=aC (aw ls (be ls.length num)) pts)&&decide ((bi on (be ls.length num)).length<(bi on z).length)))=d
    cases d<;>cases g<;>rfl
 ·rw [ry,fO]
  simp only [FR hll,ak,cond_false]
  rfl
theorem aez:mG (pts.length:Int) ls on pts []=some (Wj (pH ls on pts)):=by
 have hll:=h1.net.ll;have hB:=h1.net.b1;have hl:=h1.len
 have hp:2 ^ ls.length≤1024:=by
  have:=Nat.pow_le_pow_right (show 0<2 by decide) hll
  omega
 unfold mG
 rw [Ub _ ls pts (by omega),fB.2 ⟨h1,h2⟩,Option.bind_some,cond_true]
 have hh:=av (dW (pts.length:Int) ls on pts []) (fun num=>((Fq (fun x=>aC (aw ls x) pts) (fun x=>(bi on x).length) (jv (fun x=>cT ls x pts) (fun x=>aC (aw ls x) pts) (fun x=>(bi on x).length) ((List.range num).map (be ls.length)))).1,(Fq (fun x=>aC (aw ls x) pts) (fun x=>(bi on x).length) (jv (fun x=>cT ls x pts) (fun x=>aC (aw ls x) pts) (fun x=>(bi on x).length) ((List.range num).map (be ls.length)))).2.1,(Fq (fun x=>aC (aw ls x) pts) (fun x=>(bi on x).length) (jv (fun x=>cT ls x pts) (fun x=>aC (aw ls x) pts) (fun x=>(bi on x).length) ((List.range num).map (be ls.length)))).2.2,(num:Int))) (2 ^ ls.length)
  (some ((Fq (fun x=>aC (aw ls x) pts) (fun x=>(bi on x).length) (pH ls on pts)).1,(Fq (fun x=>aC (aw ls x) pts) (fun x=>(bi on x).length) (pH ls on pts)).2.1)) (by omega) (fun num fuel hk=>?_) (fun fuel=>?_)
 ·rw [show dW (pts.length:Int) ls on pts [] ah (([]:List Bool),-1,0,0)=_ from hh,Option.bind_some]
  cases hb:pH ls on pts with
  |none=>rfl
  |some y=>
   have:=ra h2 (aw ls y)
   have e:aF 0 (aC (aw ls y) pts)=true:=decide_eq_true (by omega)
   dsimp only [Fq,Wj]
   rw [e]
 ·rw [rQ,gA,Lp h1 h2 h0]
  obtain ⟨f1,f2,f3⟩:=Lu h1 h2 h0 num
  have hsv:=ra h2 (aw ls (be ls.length num))
  have hcl:(zl (bi on (be ls.length num))).length=(bi on (be ls.length num)).length:=bR _
  have hlt:af (num:Int) ((2 ^ ls.length:Nat):Int)=true:=au hk
  have hnn:qZ (ls.length:Int)=true:=by simp [qZ]
  have l2:sg on [] (be ls.length num,true) ah (true,0)=some true:=by rw [Gk];rfl
  simp only [hnn,aa,hl,FR hll,hlt,cond_true,WR hk hll,Option.bind_some,l2,cd,WN _ ls _ pts (by omega),f3,Bool.true_and,ST f1 h2,Pz f2 (by omega),hcl,pW,ab (by omega:num<4611686018427387904)]
  generalize jv (fun x=>cT ls x pts) (fun x=>aC (aw ls x) pts) (fun x=>(bi on x).length) ((List.range num).map (be ls.length))=a
  cases a with
  |none=>
   have hb:DH (fun x=>cT ls x pts) (fun x=>aC (aw ls x) pts) (fun x=>(bi on x).length) none (be ls.length num)=if cT ls (be ls.length num) pts=true then some (be ls.length num) else none:=by
    unfold DH Gn;simp only [Bool.and_true]
   have c2:af (-1) (aC (aw ls (be ls.length num)) pts)=true:=decide_eq_true (by omega)
   rw [hb]
   dsimp only [Fq]
   generalize cT ls (be ls.length num) pts=g
   cases g
   ·rfl
   ·simp only [cd,Option.bind_some,cond_true,c2,Bool.true_or,if_true]
  |some z=>
   have hb:DH (fun x=>cT ls x pts) (fun x=>aC (aw ls x) pts) (fun x=>(bi on x).length) (some z) (be ls.length num)=if (cT ls (be ls.length num) pts&&(decide (aC (aw ls z) pts<aC (aw ls (be ls.length num)) pts) ||(decide (aC (aw ls z) pts=aC (aw ls (be ls.length num)) pts)&&decide ((bi on (be ls.length num)).length<(bi on z).length))))=true then some (be ls.length num) else some z:=rfl
   have d3:(af (aC (aw ls z) pts) (aC (aw ls (be ls.length num)) pts) ||((aC (aw ls (be ls.length num)) pts==aC (aw ls z) pts)&&af ((bi on (be ls.length num)).length:Int) ((bi on z).length:Int)))=(decide (aC (aw ls z) pts<aC (aw ls (be ls.length num)) pts) ||(decide (aC (aw ls z) pts=aC (aw ls (be ls.length num)) pts)&&decide ((bi on (be ls.length num)).length<(bi on z).length))):=by
    rw [Bool.eq_iff_iff];simp only [af,Bool.or_eq_true,Bool.and_eq_true,decide_eq_true_eq,beq_iff_eq];omega
   rw [hb]
   dsimp only [Fq]
   generalize cT ls (be ls.length num) pts=g
   cases g
   ·rfl
   ·simp only [cd,Option.bind_some,cond_true,d3,Bool.true_and]
    generalize (decide (aC (aw ls z) pts<aC (aw ls (be ls.length num)) pts) ||(decide (aC (aw ls z) pts=aC (aw ls (be ls.length num)) pts)&&decide ((bi on (be ls.length num)).length<(bi on z).length)))=d
    cases d<;>rfl
 ·rw [rQ,gA]
  have hnn:qZ (on.length:Int)=true:=by simp [qZ]
  simp only [hnn,aa,hl,FR hll,ak,cond_false]
  rfl
end
theorem dM {m n:Nat} (h:m+n≤1099511627776):bw m n=true:=by simp only [bw,decide_eq_true_eq];omega
def JR (a b:List Bool):List (Int×Bool):=(((List.range a.length).filter fun i=>a.getD i false&& !b.getD i false).map fun (i:Nat)=>((i:Int),false))++(((List.range a.length).filter fun i=>b.getD i false&& !a.getD i false).map fun (i:Nat)=>((i:Int),true))
def RX (n:Nat) (p:Nat→Bool) (t:Bool):List (Int×Bool):=((List.range n).filter p).map fun (i:Nat)=>((i:Int),t)
theorem adQ (n:Nat) (p:Nat→Bool) (t:Bool):RX (n+1) p t=if p n then RX n p t++ [((n:Int),t)] else RX n p t:=by
 unfold RX
 rw [List.range_succ,List.filter_append,List.filter_cons,List.filter_nil]
 cases p n<;>simp
theorem Ip (n:Nat) (p:Nat→Bool) (t:Bool):(RX n p t).length≤n:=by
 unfold RX
 rw [List.length_map]
 have:=List.length_filter_le p (List.range n)
 rwa [List.length_range] at this
section
variable {a c:List Bool} (hl:a.length=c.length) (ha:a.length≤10)
include hl ha
theorem aaN:pd a c=some (JR a c):=by
 unfold pd
 have e:((a.length:Int) !=(c.length:Int))=false:=by rw [hl];simp
 have e2:af 10 (a.length:Int)=false:=decide_eq_false (by omega)
 rw [e,e2]
 have hh:=av (fU a c) (fun k=>(RX k (fun i=>a.getD i false&& !c.getD i false) false,RX k (fun i=>c.getD i false&& !a.getD i false) true,(k:Int))) a.length (some (RX a.length (fun i=>a.getD i false&& !c.getD i false) false,RX a.length (fun i=>c.getD i false&& !a.getD i false) true)) (by omega) (fun k fuel hk=>?_) (fun fuel=>?_)
 ·have g1:=Ip a.length (fun i=>a.getD i false&& !c.getD i false) false
  have g2:=Ip a.length (fun i=>c.getD i false&& !a.getD i false) true
  have ap:bw (RX a.length (fun i=>a.getD i false&& !c.getD i false) false).length (RX a.length (fun i=>c.getD i false&& !a.getD i false) true).length=true:=dM (by omega)
  simp only [Bool.or_self,cond_false]
  rw [show fU a c ah (([]:List (Int×Bool)),([]:List (Int×Bool)),0)=_ from hh,Option.bind_some,ap];rfl
 ·rw [uk,jB]
  have g1:=Ip k (fun i=>a.getD i false&& !c.getD i false) false
  have g2:=Ip k (fun i=>c.getD i false&& !a.getD i false) true
  have p1: ∀x:Int×Bool,bw (RX k (fun i=>a.getD i false&& !c.getD i false) false).length ([x]:List (Int×Bool)).length=true:=fun x=>dM (by simp only [List.length_singleton];omega)
  have p2: ∀x:Int×Bool,bw (RX k (fun i=>c.getD i false&& !a.getD i false) true).length ([x]:List (Int×Bool)).length=true:=fun x=>dM (by simp only [List.length_singleton];omega)
  simp only [au hk,ae hk,ae (show k<c.length by omega),cond_true,aa,Bool.or_true,Int.toNat_natCast,p1,p2,adQ,ab (by omega:k<4611686018427387904)]
  cases a.getD k false<;>cases c.getD k false<;>rfl
 ·rw [uk,jB];simp only [ak,cond_false]
theorem abz:pq a c=some (JR a c):=by
 unfold pq
 have e2:af 10 (a.length:Int)=false:=decide_eq_false (by omega)
 rw [Pz hl (by omega),Option.bind_some,e2]
 have hcl:=UO a c
 have hin: ∀k,k<(bi a c).length→(bi a c).getD k 0<a.length:=fun k hk=>by
  have:(bi a c).getD k 0∈bi a c:=by rw [ac hk];exact List.getElem_mem hk
  have:=(List.mem_filter.1 this).1
  simpa using this
 have l1:=av (gJ a (zl (bi a c))) (fun k=>((((bi a c).take k).filter fun i=>a.getD i false).map fun (i:Nat)=>((i:Int),false),(k:Int))) (bi a c).length (some (((bi a c).filter fun i=>a.getD i false).map fun (i:Nat)=>((i:Int),false))) (by omega) (fun k fuel hk=>?_) (fun fuel=>?_)
 ·have l2:=av (gK c (zl (bi a c))) (fun k=>(((bi a c).filter fun i=>a.getD i false).map (fun (i:Nat)=>((i:Int),false))++(((bi a c).take k).filter fun i=>c.getD i false).map (fun (i:Nat)=>((i:Int),true)),(k:Int))) (bi a c).length (some (((bi a c).filter fun i=>a.getD i false).map (fun (i:Nat)=>((i:Int),false))++((bi a c).filter fun i=>c.getD i false).map (fun (i:Nat)=>((i:Int),true)))) (by omega) (fun k fuel hk=>?_) (fun fuel=>?_)
  ·have x2:gK c (zl (bi a c)) ah (((bi a c).filter fun i=>a.getD i false).map (fun (i:Nat)=>((i:Int),false)),0)=some (((bi a c).filter fun i=>a.getD i false).map (fun (i:Nat)=>((i:Int),false))++((bi a c).filter fun i=>c.getD i false).map (fun (i:Nat)=>((i:Int),true))):=by
    have:=l2;simpa using this
   simp only [cond_false]
   rw [show gJ a (zl (bi a c)) ah (([]:List (Int×Bool)),0)=_ from l1,Option.bind_some,x2,Option.bind_some]
   congr 1
   unfold JR bi
   rw [List.filter_filter,List.filter_filter]
   congr 2
   ·exact List.filter_congr fun i _=>by cases a.getD i false<;>cases c.getD i false<;>rfl
   ·exact List.filter_congr fun i _=>by cases a.getD i false<;>cases c.getD i false<;>rfl
  ·rw [uB,jX]
   have hc:=hin k hk
   have g1:=List.length_filter_le (fun i=>a.getD i false) (bi a c)
   have g2:=List.length_filter_le (fun i=>c.getD i false) ((bi a c).take k)
   have g3:((bi a c).take k).length≤k:=by rw [List.length_take];omega
   have p1: ∀x:Int×Bool,bw (((bi a c).filter fun i=>a.getD i false).map (fun (i:Nat)=>((i:Int),false))++(((bi a c).take k).filter fun i=>c.getD i false).map (fun (i:Nat)=>((i:Int),true))).length ([x]:List (Int×Bool)).length=true:=fun x=>dM (by simp only [List.length_append,List.length_map,List.length_singleton];omega)
   simp only [bR,au hk,ae hk,cond_true,aa,Int.toNat_natCast,tT,ae (show (bi a c).getD k 0<c.length by omega),p1,ab (by omega:k<4611686018427387904)]
   rw [List.take_succ_eq_append_getElem hk,←ac hk (d:=0),List.filter_append,List.filter_cons,List.filter_nil]
   cases c.getD ((bi a c).getD k 0) false<;>simp
  ·rw [uB,jX];simp only [bR,ak,cond_false,List.take_length]
 ·rw [uA,jW]
  have hc:=hin k hk
  have g2:=List.length_filter_le (fun i=>a.getD i false) ((bi a c).take k)
  have g3:((bi a c).take k).length≤k:=by rw [List.length_take];omega
  have p1: ∀x:Int×Bool,bw ((((bi a c).take k).filter fun i=>a.getD i false).map (fun (i:Nat)=>((i:Int),false))).length ([x]:List (Int×Bool)).length=true:=fun x=>dM (by simp only [List.length_map,List.length_singleton];omega)
  simp only [bR,au hk,ae hk,cond_true,aa,Int.toNat_natCast,tT,ae hc,p1,ab (by omega:k<4611686018427387904)]
  rw [List.take_succ_eq_append_getElem hk,←ac hk (d:=0),List.filter_append,List.filter_cons,List.filter_nil]
  cases a.getD ((bi a c).getD k 0) false<;>simp
 ·rw [uA,jW];simp only [bR,ak,cond_false,List.take_length]
end
def FU (on:List Bool):Option (List Bool)→List (Int×Bool)×Bool
 |none=>([],false)
 |some y=>(JR on y,true)
section
variable {ls:List Ln} {on:List Bool} {pts:List (Int×Int)} (h1:StOk (pts.length:Int) ls on) (h2:BusOk (pts.length:Int) ls pts) (h0:1≤ls.length)
include h1 h2 h0
theorem Vz:iq (pts.length:Int) ls on pts []=some (FU on (pH ls on pts)):=by
 have hll:=h1.net.ll;have hl:=h1.len
 unfold iq
 rw [adU h1 h2 h0,Option.bind_some]
 cases hb:pH ls on pts with
 |none=>rfl
 |some y=>
  have hy:=(Eo hb).1
  dsimp only [Wj,FU]
  rw [aaN (hl.trans hy.symm) (by omega)];rfl
theorem WQ:iS (pts.length:Int) ls on pts []=some (FU on (pH ls on pts)):=by
 have hll:=h1.net.ll;have hl:=h1.len
 unfold iS
 rw [aez h1 h2 h0,Option.bind_some]
 cases hb:pH ls on pts with
 |none=>rfl
 |some y=>
  have hy:=(Eo hb).1
  dsimp only [Wj,FU]
  rw [abz (hl.trans hy.symm) (by omega)];rfl
end
section
variable (on earth:List Bool) (pm:Pm) (line:Int) (ho:on.length≤1048576) (hp:pm.length≤1048576)
include ho hp
theorem ZR:dJ on earth pm line=some (if oi on earth pm then cU pm line else []):=by
 unfold dJ
 cases hv:oi on earth pm
 ·rw [Gk,nV,eb]
  simp only [Nw on earth pm ho hp,hv]
  cases af (0:Int) (pm.length:Int)<;>simp [gb]
 ·have h:=av (ka on earth pm line) (fun k=>(cU (pm.take k) line,(k:Int))) pm.length (some (cU pm line)) (by omega) (fun k fuel hk=>?_) (fun fuel=>?_)
  ·rw [show (([]:List Int),(0:Int))=(cU (pm.take 0) line,((0:Nat):Int)) from rfl,h];rfl
  ·rw [nV,eb]
   have hb:=Jv (pm.take k) line
   have ha: ∀x:Int,bw (cU (pm.take k) line).length [x].length=true:=fun x=>by simp [bw];simp at hb;omega
   simp only [au hk,ae hk,aa,cond_true,Int.toNat_natCast,Nw on earth pm ho hp,hv,gb,Option.bind_some,Bool.and_self,ha,ab (by omega:k<4611686018427387904)]
   rw [LI hk]
   cases (pm.getD k (0,0)).2==line<;>rfl
  ·rw [nV,eb];simp [ak,gb]
theorem ad1:nA on earth pm line=some (if oi on earth pm then cU pm line else []):=by
 unfold nA
 rw [QA on earth pm ho hp]
 cases hv:oi on earth pm
 ·rfl
 ·have h:=av (jC pm line) (fun k=>(cU (pm.take k) line,(k:Int))) pm.length (some (cU pm line)) (by omega) (fun k fuel hk=>?_) (fun fuel=>?_)
  ·simp only [Option.bind_some,cond_true]
   rw [show (([]:List Int),(0:Int))=(cU (pm.take 0) line,((0:Nat):Int)) from rfl,h];rfl
  ·rw [sT,iu]
   have hb:=Jv (pm.take k) line
   have ha: ∀x:Int,bw (cU (pm.take k) line).length [x].length=true:=fun x=>by simp [bw];simp at hb;omega
   simp only [au hk,ae hk,aa,cond_true,Int.toNat_natCast,ha,ab (by omega:k<4611686018427387904)]
   rw [LI hk]
   cases (pm.getD k (0,0)).2==line<;>rfl
  ·rw [sT,iu];simp [ak]
end
section
variable (w:Wk) (kd a who:Int) (ho:w.1.length≤1048576) (he:w.2.1.length≤1048576) (hp:w.2.2.length≤1048576)
include ho hp he
omit he in
theorem ad4 (hv:oi w.1 w.2.1 w.2.2=true) (ha:0≤a∧a<(w.1.length:Int)):nB w.1 w.2.1 w.2.2 kd a who=some (mf w kd a who):=by
 have ok:=xd.1 hv
 have c1:aq a w.1.length=true:=decide_eq_true (by omega)
 have c2:aq a w.2.1.length=true:=decide_eq_true (by have:=ok.le;omega)
 unfold nB mf
 rw [c1,c2,aaI _ _ _ (by omega),ad1 _ _ _ _ ho hp,hv]
 simp only [aa,Option.bind_some,if_true,Sw]
 by_cases k0:kd=0
 ·subst k0;simp
 by_cases k1:kd=1
 ·subst k1;simp
 by_cases k2:kd=2
 ·subst k2;simp
 by_cases k3:kd=3
 ·subst k3;cases w.2.1.getD a.toNat false<;>simp
 by_cases k4:kd=4
 ·subst k4
  simp only [show ((4:Int)==0)=false from rfl,show ((4:Int)==2)=false from rfl,show ((4:Int)==1)=false from rfl,show ((4:Int)==3)=false from rfl,show ((4:Int)==4)=true from rfl,cond_false,cond_true,Option.bind_some]
  rw [if_neg (by omega),if_neg (by omega),if_neg (by omega),if_pos trivial,pV]
  have c6:af (w.2.2.length:Int) 6=decide (w.2.2.length<6):=by simp only [af];exact decide_eq_decide.2 (by omega)
  rw [c6]
  cases w.2.1.getD a.toNat false<;>cases decide ((who,a)∈w.2.2)<;>simp
 by_cases k5:kd=5
 ·subst k5;simp
 ·have e0:(kd==0)=false:=by simpa using k0
  have e1:(kd==1)=false:=by simpa using k1
  have e2:(kd==2)=false:=by simpa using k2
  have e3:(kd==3)=false:=by simpa using k3
  have e4:(kd==4)=false:=by simpa using k4
  have e5:(kd==5)=false:=by simpa using k5
  simp [k0,k1,k2,k3,k4,k5,e0,e1,e2,e3,e4,e5]
omit he in
theorem aeG (hv:oi w.1 w.2.1 w.2.2=true) (ha:0≤a∧a<(w.1.length:Int)):qw w.1 w.2.1 w.2.2 kd a who=some (mf w kd a who):=by
 have ok:=xd.1 hv
 have c1:aq a w.1.length=true:=decide_eq_true (by omega)
 have c2:aq a w.2.1.length=true:=decide_eq_true (by have:=ok.le;omega)
 have c3:af (Ux w.2.2 (who,a)) 0= !decide ((who,a)∈w.2.2):=by rw [←MJ];rw [Bool.eq_iff_iff];simp [af,aF]
 unfold qw mf am
 rw [c1,c2,WL _ _ _ (by omega),ZR _ _ _ _ ho hp,hv]
 simp only [aa,Option.bind_some,if_true,Sw,Bool.or_true,c3,MJ]
 by_cases k0:kd=0
 ·subst k0;simp
 by_cases k1:kd=1
 ·subst k1;simp
 by_cases k2:kd=2
 ·subst k2;simp
 by_cases k3:kd=3
 ·subst k3;cases w.2.1.getD a.toNat false<;>simp
 by_cases k4:kd=4
 ·subst k4
  simp only [show ((4:Int)==0)=false from rfl,show ((4:Int)==2)=false from rfl,show ((4:Int)==1)=false from rfl,show ((4:Int)==3)=false from rfl,show ((4:Int)==4)=true from rfl,cond_false,cond_true,Option.bind_some]
  rw [if_neg (by omega),if_neg (by omega),if_neg (by omega),if_pos trivial,pV]
  have c6:af (w.2.2.length:Int) 6=decide (w.2.2.length<6):=by simp only [af];exact decide_eq_decide.2 (by omega)
  rw [c6]
  cases w.2.1.getD a.toNat false<;>simp [gb,Bool.and_assoc]
 by_cases k5:kd=5
 ·subst k5;simp
 ·have e0:(kd==0)=false:=by simpa using k0
  have e1:(kd==1)=false:=by simpa using k1
  have e2:(kd==2)=false:=by simpa using k2
  have e3:(kd==3)=false:=by simpa using k3
  have e4:(kd==4)=false:=by simpa using k4
  have e5:(kd==5)=false:=by simpa using k5
  simp [k0,k1,k2,k3,k4,k5,e0,e1,e2,e3,e4,e5]
theorem Ta:fZ w.1 w.2.1 w.2.2=some w:=by
 have a1:bw ([]:List Bool).length w.1.length=true:=by simp [bw];omega
 have a2:bw ([]:List Bool).length w.2.1.length=true:=by simp [bw];omega
 have a3:bw ([]:Pm).length w.2.2.length=true:=by simp [bw];omega
 simp only [fZ,aR,aJ,a1,a2,a3,aa,Option.bind_some]
theorem Xj:ma w.1 w.2.1 w.2.2=some w:=by
 have a1:bw ([]:List Bool).length w.1.length=true:=by simp [bw];omega
 have a2:bw ([]:List Bool).length w.2.1.length=true:=by simp [bw];omega
 have a3:bw ([]:Pm).length w.2.2.length=true:=by simp [bw];omega
 simp only [ma,kJ,a1,a2,a3,aa,Option.bind_some,List.nil_append]
theorem iDo:qj w.1 w.2.1 w.2.2 kd a who=some (pz (ic w kd a who)):=by
 unfold qj ic
 rw [QA _ _ _ ho hp]
 cases hv:oi w.1 w.2.1 w.2.2
 ·rfl
 have ok:=xd.1 hv
 simp only [Option.bind_some,cond_true,if_true,Ta w ho he hp]
 by_cases ha:0≤a∧a<(w.1.length:Int)
 ·have c0:(af a 0 ||aF (w.1.length:Int) a)=false:=by simp [af,aF];omega
  have c1:aq a w.1.length=true:=decide_eq_true (by omega)
  have c2:aq a w.2.1.length=true:=decide_eq_true (by have:=ok.le;omega)
  simp only [c0,Bool.not_false,gb,cond_true,ad4 w kd a who ho hp hv ha,Option.bind_some,Bool.false_or]
  cases hm:mf w kd a who
  ·rw [if_neg (fun h=>by cases h.2.2)];rfl
  rw [if_pos ⟨ha.1,ha.2,rfl⟩]
  simp only [Bool.not_true,cond_false]
  by_cases k0:kd=0
  ·subst k0;simp [c1,eF,pz]
  by_cases k1:kd=1
  ·subst k1;simp [c1,eF,pz]
  by_cases k2:kd=2
  ·subst k2;simp [c2,eF,pz]
  by_cases k3:kd=3
  ·subst k3;simp [c2,eF,pz]
  by_cases k4:kd=4
  ·subst k4
   have a4:bw w.2.2.length 1=true:=by simp [bw];omega
   simp [eF,pz,a4]
  by_cases k5:kd=5
  ·subst k5
   have hmem:(who,a)∈w.2.2:=by simpa [mf] using hm
   rcases yX w.2.2 (who,a) with ⟨h1,h2⟩ |⟨k,hk,h1,h2,h3⟩
   ·exact absurd hmem h2
   have wk:ay ((k:Int)+1)=(k:Int)+1:=bD (by omega) (by omega)
   have b1:DF (k:Int) ((k:Int)+1) w.2.2.length=true:=decide_eq_true (by omega)
   have b2:DF 0 (k:Int) w.2.2.length=true:=decide_eq_true (by omega)
   have b3:DF ((k:Int)+1) (w.2.2.length:Int) w.2.2.length=true:=decide_eq_true (by omega)
   have b4:((k:Int)==(k:Int)+1)=false:=by simp;omega
   have s1:ai w.2.2 0 (k:Int)=w.2.2.take k:=by simp [ai]
   have s2:ai w.2.2 ((k:Int)+1) (w.2.2.length:Int)=w.2.2.drop (k+1):=by
    unfold ai;rw [show ((k:Int)+1).toNat=k+1 by omega,List.take_of_length_le (by simp<;>omega)]
   have b5:bw (w.2.2.take k).length (w.2.2.drop (k+1)).length=true:=by simp [bw];omega
   simp only [show ((5:Int)==0)=false from rfl,show ((5:Int)==1)=false from rfl,show ((5:Int)==2)=false from rfl,show ((5:Int)==3)=false from rfl,show ((5:Int)==4)=false from rfl,show ((5:Int)==5)=true from rfl,cond_false,cond_true,Option.bind_some,ZB w.2.2 who a (by omega),h1,aH,wk,b1,b2,b3,b4,s1,s2,b5,aa]
   simp [eF,pz,h1]
  ·exfalso
   simp [mf,k0,k1,k2,k3,k4,k5] at hm
 ·have c0:(af a 0 ||aF (w.1.length:Int) a)=true:=by simp [af,aF];omega
  rw [if_neg (fun h=>ha ⟨h.1,h.2.1⟩)]
  simp [c0,gb,pz]
theorem sDo:nk w.1 w.2.1 w.2.2 kd a who=some (pz (ic w kd a who)):=by
 unfold nk ic am
 rw [Nw _ _ _ ho hp]
 cases hv:oi w.1 w.2.1 w.2.2
 ·rfl
 have ok:=xd.1 hv
 have w1:ay ((w.1.length:Int)-1)=(w.1.length:Int)-1:=bD (by omega) (by omega)
 simp only [Option.bind_some,cond_true,if_true,Xj w ho he hp,w1]
 by_cases ha:0≤a∧a<(w.1.length:Int)
 ·have c0:(aF 0 a&&aF a ((w.1.length:Int)-1))=true:=by simp [aF];omega
  have c1:aq a w.1.length=true:=decide_eq_true (by omega)
  have c2:aq a w.2.1.length=true:=decide_eq_true (by have:=ok.le;omega)
  simp only [c0,Bool.not_true,Bool.not_false,gb,cond_true,aeG w kd a who ho hp hv ha,Option.bind_some,Bool.false_or]
  cases hm:mf w kd a who
  ·rw [if_neg (fun h=>by cases h.2.2)];rfl
  rw [if_pos ⟨ha.1,ha.2,rfl⟩]
  simp only [Bool.not_true,cond_false]
  by_cases k0:kd=0
  ·subst k0;simp [c1,eF,pz]
  by_cases k1:kd=1
  ·subst k1;simp [c1,eF,pz]
  by_cases k2:kd=2
  ·subst k2;simp [c2,eF,pz]
  by_cases k3:kd=3
  ·subst k3;simp [c2,eF,pz]
  by_cases k4:kd=4
  ·subst k4
   have a4:bw w.2.2.length 1=true:=by simp [bw];omega
   simp [eF,pz,a4]
  by_cases k5:kd=5
  ·subst k5
   have hmem:(who,a)∈w.2.2:=by simpa [mf] using hm
   rcases yX w.2.2 (who,a) with ⟨h1,h2⟩ |⟨k,hk,h1,h2,h3⟩
   ·exact absurd hmem h2
   have wk:ay ((k:Int)+1)=(k:Int)+1:=bD (by omega) (by omega)
   have b2:DF 0 (k:Int) w.2.2.length=true:=decide_eq_true (by omega)
   have b3:DF ((k:Int)+1) (w.2.2.length:Int) w.2.2.length=true:=decide_eq_true (by omega)
   have s1:ai w.2.2 0 (k:Int)=w.2.2.take k:=by simp [ai]
   have s2:ai w.2.2 ((k:Int)+1) (w.2.2.length:Int)=w.2.2.drop (k+1):=by
    unfold ai;rw [show ((k:Int)+1).toNat=k+1 by omega,List.take_of_length_le (by simp<;>omega)]
   have b5:bw (w.2.2.take k).length (w.2.2.drop (k+1)).length=true:=by simp [bw];omega
   simp only [show ((5:Int)==0)=false from rfl,show ((5:Int)==1)=false from rfl,show ((5:Int)==2)=false from rfl,show ((5:Int)==3)=false from rfl,show ((5:Int)==4)=false from rfl,cond_false,cond_true,Option.bind_some,WL w.2.2 who a (by omega),h1,wk,b2,b3,s1,s2,b5,aa]
   simp [eF,pz,h1]
  ·exfalso
   simp [mf,k0,k1,k2,k3,k4,k5] at hm
 ·have c0:(aF 0 a&&aF a ((w.1.length:Int)-1))=false:=by simp [aF];omega
  rw [if_neg (fun h=>ha ⟨h.1,h.2.1⟩)]
  simp [c0,gb,pz]
end
theorem UP (a b:Int):oZ a b=some (af a b):=by
 simp [oZ,nv,gb]
theorem YA {a b:Nat} (h:a+b<4611686018427387904):ay (kL .u64 (wk .u64 (ay ((a:Int)+(b:Int)))) 1)=(((a+b) / 2:Nat):Int):=by
 have e1:ay ((a:Int)+(b:Int))=((a+b:Nat):Int):=by rw [bD (by omega) (by omega)];omega
 have e2:wk .u64 ((a+b:Nat):Int)=((a+b:Nat):Int):=by
  unfold wk IntKind.wrap
  have:(IntKind.u64).bits=64:=rfl
  simp only [this]
  first
   |(rw [Int.emod_eq_of_lt (by omega) (by omega)];simp [IntKind.signed])
   |omega
 have e3:kL .u64 ((a+b:Nat):Int) 1=(((a+b) / 2:Nat):Int):=by
  unfold kL
  rw [show min (1:Int).toNat (IntKind.bits .u64)=1 from rfl,Int.fdiv_eq_ediv_of_nonneg _ (by decide)]
  omega
 rw [e1,e2,e3,bD (by omega) (by omega)]
structure At (l:List Int) (x:Int) (p:Nat):Prop where
 le:p≤l.length
 lo: ∀k,k<p→l.getD k 0<x
 hi: ∀k,p≤k→k<l.length→x≤l.getD k 0
theorem XP (l:List Int) (x:Int) (hs: ∀i j,i<j→j<l.length→l.getD i 0<l.getD j 0) (hl:l.length≤1048576): ∀(d lo hi fuel:Nat),hi-lo=d→d<fuel→lo≤hi→hi≤l.length→(∀k,k<lo→l.getD k 0<x)→(∀k,hi≤k→k<l.length→x≤l.getD k 0)→
 ∃p:Nat,aZ l x fuel ((lo:Int),(hi:Int))=some (p:Int)∧At l x p:=by
 intro d
 induction d using Nat.strongRecOn with
 |_ d ih=>
  intro lo hi fuel hd hf h1 h2 h3 h4
  obtain ⟨f,rfl⟩: ∃f,fuel=f+1:=⟨fuel-1,by omega⟩
  rw [oz,cc]
  dsimp only
  by_cases hlt:lo<hi
  ·have hm1:lo≤(lo+hi) / 2:=by omega
   have hm2:(lo+hi) / 2<hi:=by omega
   have hc:af (lo:Int) (hi:Int)=true:=decide_eq_true (by omega)
   rw [hc,YA (by omega)]
   simp only [cond_true,ae (show (lo+hi) / 2<l.length by omega),aa,Int.toNat_natCast,UP,Option.bind_some,ab (by omega:(lo+hi) / 2<4611686018427387904)]
   by_cases hx:l.getD ((lo+hi) / 2) 0<x
   ·rw [show af (l.getD ((lo+hi) / 2) 0) x=true from decide_eq_true hx]
    simp only [cond_true,Option.bind_some]
    refine ih (hi-((lo+hi) / 2+1)) (by omega) ((lo+hi) / 2+1) hi f rfl (by omega) (by omega) h2 (fun k hk=>?_) h4
    rcases Nat.lt_or_ge k ((lo+hi) / 2) with h |h
    ·have:=hs k _ h (by omega);omega
    ·have:k=(lo+hi) / 2:=by omega
     rw [this];exact hx
   ·rw [show af (l.getD ((lo+hi) / 2) 0) x=false from decide_eq_false hx]
    simp only [cond_false,Option.bind_some]
    refine ih ((lo+hi) / 2-lo) (by omega) lo ((lo+hi) / 2) f rfl (by omega) hm1 (by omega) h3 (fun k hk hk2=>?_)
    rcases Nat.lt_or_ge ((lo+hi) / 2) k with h |h
    ·have:=hs _ k h hk2;omega
    ·have:k=(lo+hi) / 2:=by omega
     rw [this];omega
  ·have hc:af (lo:Int) (hi:Int)=false:=decide_eq_false (by omega)
   have:lo=hi:=by omega
   subst this
   exact ⟨lo,by rw [hc];rfl,h2,h3,h4⟩
theorem SU {l:List Int} (h:l.Pairwise (· < ·)): ∀i j,i<j→j<l.length→l.getD i 0<l.getD j 0:=by
 intro i j hij hj
 rw [ac (by omega),ac hj]
 exact List.pairwise_iff_getElem.1 h i j (by omega) hj hij
theorem Qd {l:List Int} {x:Int} {p:Nat} (hs:l.Pairwise (· < ·)) (h:At l x p):(p<l.length∧l.getD p 0=x)↔x∈l:=by
 constructor
 ·rintro ⟨h1,h2⟩;rw [←h2,ac h1];exact List.getElem_mem h1
 ·intro hm
  obtain ⟨k,hk,e⟩:=List.getElem_of_mem hm
  have e2:l.getD k 0=x:=by rw [ac hk];exact e
  have hk2:p≤k:=by
   rcases Nat.lt_or_ge k p with h3 |h3
   ·have:=h.lo k h3;omega
   ·exact h3
  have h5:=h.hi p (Nat.le_refl p) (by omega)
  by_cases hpk:p=k
  ·subst hpk;exact ⟨hk,e2⟩
  ·have:=SU hs p k (by omega) hk;omega
theorem iBs {l:List Int} {x:Int} (hs:l.Pairwise (· < ·)) (hl:l.length≤1048576): ∃p:Nat,bO l x=some ((p:Int),decide (x∈l))∧At l x p:=by
 obtain ⟨p,h1,h2⟩:=XP l x (SU hs) hl l.length 0 l.length ah (by omega) (qh (by omega)) (by omega) (Nat.le_refl _) (fun k hk=>by omega) (fun k h3 h4=>by omega)
 refine ⟨p,?_,h2⟩
 have hm:=Qd hs h2
 have hle:=h2.le
 unfold bO
 rw [show aZ l x ah (0,(l.length:Int))=_ from h1,Option.bind_some]
 by_cases hp:p<l.length
 ·have e1:af (p:Int) (l.length:Int)=true:=decide_eq_true (by omega)
  have e2:(l.getD p 0==x)=decide (x∈l):=by
   rw [Bool.eq_iff_iff,beq_iff_eq,decide_eq_true_eq,←hm]
   exact ⟨fun h=>⟨hp,h⟩,fun h=>h.2⟩
  simp only [e1,ae hp,Bool.or_true,aa,Int.toNat_natCast,e2,jT]
  cases decide (x∈l)<;>simp [gb]
 ·have e1:af (p:Int) (l.length:Int)=false:=decide_eq_false (by omega)
  have e2:decide (x∈l)=false:=decide_eq_false fun h=>hp (hm.2 h).1
  simp [e1,e2,gb,aj]
theorem aah {l:List Int} {x:Int} {p:Nat} (hs:l.Pairwise (· < ·)) (h:At l x p) (hx:x∉l):l.take p++ [x]++l.drop p=JC x l:=by
 have hlt: ∀z∈l.take p,z<x:=by
  intro z hz
  obtain ⟨k,hk,rfl⟩:=List.getElem_of_mem hz
  rw [List.length_take] at hk
  rw [List.getElem_take,←ac (d:=0)]
  exact h.lo k (by omega)
 have hgt: ∀z∈l.drop p,x<z:=by
  intro z hz
  obtain ⟨k,hk,rfl⟩:=List.getElem_of_mem hz
  rw [List.length_drop] at hk
  have hm:(l.drop p)[k]'(by rw [List.length_drop];exact hk)∈l:=List.mem_of_mem_drop (List.getElem_mem _)
  have h1:=h.hi (p+k) (by omega) (by omega)
  rw [ac (by omega)] at h1
  rw [List.getElem_drop] at hm ⊢
  have:l[p+k]≠x:=fun e=>hx (e▸hm)
  omega
 refine xG ?_ (yZ hs) (fun z=>?_)
 ·rw [List.append_assoc,List.pairwise_append]
  refine ⟨hs.sublist (List.take_sublist _ _),?_,fun a ha b hb=>?_⟩
  ·rw [List.singleton_append,List.pairwise_cons]
   exact ⟨hgt,hs.sublist (List.drop_sublist _ _)⟩
  ·rcases List.mem_append.1 hb with hb |hb
   ·simp at hb;subst hb;exact hlt a ha
   ·have:=hlt a ha;have:=hgt b hb;omega
 ·rw [JD,List.mem_append,List.mem_append,List.mem_singleton]
  have:z∈l↔z∈l.take p∨z∈l.drop p:=by rw [←List.mem_append,List.take_append_drop]
  rw [this]
  constructor
  ·rintro ((h |h) |h)
   ·exact .inr (.inl h)
   ·exact .inl h
   ·exact .inr (.inr h)
  ·rintro (h |h |h)
   ·exact .inl (.inr h)
   ·exact .inl (.inl h)
   ·exact .inr h
theorem aag {l:List Int} {x:Int} {p:Nat} (hs:l.Pairwise (· < ·)) (h:At l x p) (hx:x∈l):l.take p++l.drop (p+1)=l.filter fun z=>z !=x:=by
 obtain ⟨hp,he⟩:=(Qd hs h).2 hx
 refine xG ?_ (hs.sublist List.filter_sublist) (fun z=>?_)
 ·rw [List.pairwise_append]
  refine ⟨hs.sublist (List.take_sublist _ _),hs.sublist (List.drop_sublist _ _),fun a ha b hb=>?_⟩
  have h2:(l.take p++l.drop p).Pairwise (· < ·):=by rw [List.take_append_drop];exact hs
  exact (List.pairwise_append.1 h2).2.2 a ha b (by rw [List.drop_eq_getElem_cons hp];exact List.mem_cons_of_mem _ hb)
 ·rw [List.mem_append,List.mem_filter]
  have e:l=l.take p++l[p]::l.drop (p+1):=by rw [←List.drop_eq_getElem_cons hp,List.take_append_drop]
  have hpx:l[p]=x:=by rw [←ac hp (d:=0)];exact he
  have h2:(l.take p++l[p]::l.drop (p+1)).Pairwise (· < ·):=by rw [←e];exact hs
  have h3:=(List.pairwise_append.1 h2)
  have h4:=List.pairwise_cons.1 h3.2.1
  have hm:z∈l↔z∈l.take p∨z=x∨z∈l.drop (p+1):=by
   conv=>lhs;rw [e]
   rw [List.mem_append,List.mem_cons,hpx]
  rw [hm]
  simp only [bne_iff_ne,ne_eq]
  constructor
  ·rintro (h |h)
   ·exact ⟨.inl h,by have:=h3.2.2 z h l[p] List.mem_cons_self;omega⟩
   ·exact ⟨.inr (.inr h),by have:=h4.1 z h;omega⟩
  ·rintro ⟨h |h |h,hne⟩
   ·exact .inl h
   ·exact absurd h hne
   ·exact .inr h
abbrev W7:=Int×List Ln×List (Int×Int)×List Bool×List Bool×Pm×List Int
def o7 (w:Wd):W7:=(w.b,w.ls,w.pts,w.on,w.earth,w.pm,w.br)
abbrev W8:=Int×List Ln×List (Int×Int)×List Bool×List Bool×Pm×List Int×Bool
def o8 (r:Wd×Bool):W8:=(r.1.b,r.1.ls,r.1.pts,r.1.on,r.1.earth,r.1.pm,r.1.br,r.2)
structure Sm (w:Wd):Prop where
 l:w.ls.length≤1048576
 p:w.pts.length≤1048576
 o:w.on.length≤1048576
 e:w.earth.length≤1048576
 m:w.pm.length≤1048576
 b:w.br.length≤1048576
theorem Zv {w:Wd} (h:WdOk w):w.br.length≤w.on.length:=by
 have h1: ∀k,k<w.br.length→(k:Int)≤w.br.getD k 0:=by
  intro k
  induction k with
  |zero=>
   intro hk
   have:=(h.inn (w.br.getD 0 0) (by rw [ac hk];exact List.getElem_mem hk)).1
   omega
  |succ k ih=>
   intro hk
   have h1:=ih (by omega)
   have h2:=vo h.sor hk
   omega
 rcases Nat.eq_zero_or_pos w.br.length with h0 |h0
 ·omega
 ·have h2:=h1 (w.br.length-1) (by omega)
  have h3:=(h.inn (w.br.getD (w.br.length-1) 0) (by rw [ac (by omega)];exact List.getElem_mem _)).1
  omega
theorem yA {w:Wd} (h:WdOk w):Sm w:=by
 have h1:=h.bus.net.ll;have h2:=h.bus.lp;have h3:=h.bus.net.b1;have h4:=h.work.l1;have h5:=h.work.le;have h6:=h.work.lp;have h7:=Zv h
 simp only [Wd.wk] at h4 h5 h6
 exact ⟨by omega,by omega,by omega,by omega,by omega,by omega⟩
theorem SH {w:Wd} (h:WdOk w) {on':List Bool} (hl:on'.length=w.ls.length):wZ w.b w.ls on' w.pts=nn w.ls on' w.pts:=by
 unfold wZ
 rw [fB.2 ⟨⟨h.bus.net,hl⟩,h.bus⟩];rfl
theorem aa2 {w:Wk} {kd a who:Int} (h:kd≠0∧kd≠1∧kd≠2∧kd≠3∧kd≠4∧kd≠5):mf w kd a who=false:=by
 simp [mf,h.1,h.2.1,h.2.2.1,h.2.2.2.1,h.2.2.2.2.1,h.2.2.2.2.2]
theorem UX {w:Wk} (hw:WOk w) {kd a who:Int} (h:kd≠0∧kd≠1∧kd≠2∧kd≠3∧kd≠4∧kd≠5):(ic w kd a who).2=false:=by
 rcases Fn hw kd a who with ⟨_,_,h1,_⟩ |⟨h1,_⟩
 ·rw [aa2 h] at h1;cases h1
 ·rw [h1]
section
variable {w:Wd} (h:Sm w)
include h
theorem Iq:bG w.b w.ls w.pts w.on w.earth w.pm w.br=some (o7 w):=by
 have a1:bw ([]:List Ln).length w.ls.length=true:=by have:=h.l;simp [bw];omega
 have a2:bw ([]:List (Int×Int)).length w.pts.length=true:=by have:=h.p;simp [bw];omega
 have a3:bw ([]:List Int).length w.br.length=true:=by have:=h.b;simp [bw];omega
 have:=Ta (w.on,w.earth,w.pm) h.o h.e h.m
 simp only [bG,aU,ba,cg,a1,a2,a3,aa,Option.bind_some,this]
 rfl
theorem zR:bb w.b w.ls w.pts w.on w.earth w.pm w.br=some (o7 w):=by
 have a1:bw ([]:List Ln).length w.ls.length=true:=by have:=h.l;simp [bw];omega
 have a2:bw ([]:List (Int×Int)).length w.pts.length=true:=by have:=h.p;simp [bw];omega
 have a3:bw ([]:List Int).length w.br.length=true:=by have:=h.b;simp [bw];omega
 have:=Xj (w.on,w.earth,w.pm) h.o h.e h.m
 simp only [bb,a1,a2,a3,aa,Option.bind_some,List.nil_append,this]
 rfl
end
section
variable {w:Wd} (h:WdOk w) (kd a who:Int) (ha:0≤a∧a<(w.on.length:Int))
include h ha
theorem agh: ∃st:W7,nD w.b w.ls w.pts w.on w.earth w.pm w.br kd a who=some ((dw w kd a who).2,st)∧((dw w kd a who).2=true→st=o7 (dw w kd a who).1):=by
 have sm:=yA h
 obtain ⟨p,hp,hat⟩:=iBs (x:=a) h.sor sm.b
 have hle:=hat.le
 have hbl:=sm.b
 have hix:aq a w.on.length=true:=decide_eq_true ha
 have hv:=kv.2 h
 unfold nD
 rw [hp,Option.bind_some]
 dsimp only
 by_cases k6:kd=6
 ·subst k6
  by_cases hb:a∈w.br
  ·have hf:dw w 6 a who=(w,false):=by
    unfold dw
    rw [if_pos hv,if_pos ha,if_neg (fun e=>e.2 hb),if_neg (fun e=>absurd e.1 (by decide)),if_neg (fun e=>absurd e.1 (by decide)),if_neg (fun e=>by rw [UX h.work (by decide)] at e;cases e.1)]
   rw [hf]
   exact ⟨_,by rw [decide_eq_true hb];rfl,fun e=>by cases e⟩
  ·have hf:dw w 6 a who=({w with on:=w.on.set a.toNat false,br:=JC a w.br},true):=by
    unfold dw
    rw [if_pos hv,if_pos ha,if_pos ⟨rfl,hb⟩]
   rw [hf]
   have c1:DF 0 (p:Int) w.br.length=true:=decide_eq_true (by omega)
   have c2:bw w.br.length 1=true:=by simp [bw];omega
   refine ⟨_,?_,fun _=>rfl⟩
   rw [decide_eq_false hb]
   simp only [cond_false,show ((6:Int)==6)=true from rfl,cond_true,bY,c1,c2,aa,List.length_singleton,show (((1:Nat):Int)==1)=true from rfl,Option.bind_some,hix,Int.toNat_natCast,aah h.sor hat hb]
   rfl
 rw [show (kd==6)=false from by simpa using k6,cond_false]
 by_cases k7:kd=7
 ·subst k7
  have hh:=aaI w.pm who a (by have:=sm.m;omega)
  by_cases hb:a∈w.br
  ·by_cases hm:(who,a)∈w.pm
   ·have hf:dw w 7 a who=({w with br:=w.br.filter fun x=>x !=a},true):=by
     unfold dw
     rw [if_pos hv,if_pos ha,if_neg (fun e=>absurd e.1 (by decide)),if_pos ⟨rfl,hb,hm⟩]
    rw [hf]
    obtain ⟨hpl,_⟩:=(Qd h.sor hat).2 hb
    have wk:ay ((p:Int)+1)=(p:Int)+1:=bD (by omega) (by omega)
    have b1:DF (p:Int) ((p:Int)+1) w.br.length=true:=decide_eq_true (by omega)
    have b2:DF 0 (p:Int) w.br.length=true:=decide_eq_true (by omega)
    have b3:DF ((p:Int)+1) (w.br.length:Int) w.br.length=true:=decide_eq_true (by omega)
    have b4:((p:Int)==(p:Int)+1)=false:=by simp;omega
    have s1:ai w.br 0 (p:Int)=w.br.take p:=by simp [ai]
    have s2:ai w.br ((p:Int)+1) (w.br.length:Int)=w.br.drop (p+1):=by
     unfold ai;rw [show ((p:Int)+1).toNat=p+1 by omega,List.take_of_length_le (by simp<;>omega)]
    have b5:bw (w.br.take p).length (w.br.drop (p+1)).length=true:=by simp [bw];omega
    refine ⟨_,?_,fun _=>rfl⟩
    rw [decide_eq_true hb,hh,decide_eq_true hm]
    simp only [show ((7:Int)==7)=true from rfl,cond_true,Bool.not_true,Bool.not_false,cd,Option.bind_some,Bool.or_self,cond_false,bX,wk,b1,b2,b3,b4,s1,s2,b5,aa,aag h.sor hat hb]
    rfl
   ·have hf:dw w 7 a who=(w,false):=by
     unfold dw
     rw [if_pos hv,if_pos ha,if_neg (fun e=>absurd e.1 (by decide)),if_neg (fun e=>hm e.2.2),if_neg (fun e=>absurd e.1 (by decide)),if_neg (fun e=>by rw [UX h.work (by decide)] at e;cases e.1)]
    rw [hf]
    exact ⟨_,by rw [decide_eq_true hb,hh,decide_eq_false hm];rfl,fun e=>by cases e⟩
  ·have hf:dw w 7 a who=(w,false):=by
    unfold dw
    rw [if_pos hv,if_pos ha,if_neg (fun e=>absurd e.1 (by decide)),if_neg (fun e=>hb e.2.1),if_neg (fun e=>absurd e.1 (by decide)),if_neg (fun e=>by rw [UX h.work (by decide)] at e;cases e.1)]
   rw [hf]
   exact ⟨_,by rw [decide_eq_false hb];rfl,fun e=>by cases e⟩
 rw [show (kd==7)=false from by simpa using k7,cond_false]
 have hdo:=iDo w.wk kd a who sm.o sm.e sm.m
 have hlen:=(IF h.work (kd:=kd) (a:=a) (who:=who)).1
 have hrad:ij w.b w.ls (ic w.wk kd a who).1.1 w.pts=some (nn w.ls (ic w.wk kd a who).1.1 w.pts):=by
  rw [Sa _ _ _ _ sm.p,SH h (hlen.trans h.len)]
 by_cases k0:kd=0
 ·subst k0
  by_cases hb:a∈w.br
  ·have hf:dw w 0 a who=(w,false):=by
    unfold dw
    rw [if_pos hv,if_pos ha,if_neg (fun e=>absurd e.1 (by decide)),if_neg (fun e=>absurd e.1 (by decide)),if_pos ⟨rfl,hb⟩]
   rw [hf]
   exact ⟨_,by rw [decide_eq_true hb];rfl,fun e=>by cases e⟩
  ·have hf:dw w 0 a who=if (ic w.wk 0 a who).2=true∧nn w.ls (ic w.wk 0 a who).1.1 w.pts=true then (w.put (ic w.wk 0 a who).1,true) else (w,false):=by
    unfold dw
    rw [if_pos hv,if_pos ha,if_neg (fun e=>absurd e.1 (by decide)),if_neg (fun e=>absurd e.1 (by decide)),if_neg (fun e=>hb e.2)]
   rw [hf]
   simp only [Wd.wk] at hdo
   rw [decide_eq_false hb]
   simp only [show ((0:Int)==0)=true from rfl,cond_true,cond_false,Option.bind_some,Sum.elim_inl,hdo,pz,show ((0:Int) !=0)=false from rfl,Bool.not_false,Bool.and_true,Bool.false_or]
   change ∃st:W7,Option.bind (gb (ic w.wk 0 a who).2 (ij w.b w.ls (ic w.wk 0 a who).1.1 w.pts)) (fun p127=>some ((ic w.wk 0 a who).2&&p127,w.b,w.ls,w.pts,(ic w.wk 0 a who).1.1,(ic w.wk 0 a who).1.2.1,(ic w.wk 0 a who).1.2.2,w.br))=_∧_
   rw [hrad]
   cases h1:(ic w.wk 0 a who).2
   ·exact ⟨_,rfl,fun e=>by cases e⟩
   ·cases h2:nn w.ls (ic w.wk 0 a who).1.1 w.pts
    ·exact ⟨_,rfl,fun e=>by cases e⟩
    ·exact ⟨_,rfl,fun _=>rfl⟩
 ·have hf:dw w kd a who=if (ic w.wk kd a who).2=true∧nn w.ls (ic w.wk kd a who).1.1 w.pts=true then (w.put (ic w.wk kd a who).1,true) else (w,false):=by
   unfold dw
   rw [if_pos hv,if_pos ha,if_neg (fun e=>k6 e.1),if_neg (fun e=>k7 e.1),if_neg (fun e=>k0 e.1)]
  rw [hf,Xl h k0]
  have e0:(kd==0)=false:=by simpa using k0
  have e1:(kd !=0)=true:=by simpa using k0
  simp only [Wd.wk] at hdo
  simp only [e0,cond_false,Option.bind_some,Sum.elim_inl,hdo,pz,e1,Bool.not_true,Bool.and_false,qW,Bool.true_or,Bool.and_true]
  change ∃st:W7,some ((ic w.wk kd a who).2,w.b,w.ls,w.pts,(ic w.wk kd a who).1.1,(ic w.wk kd a who).1.2.1,(ic w.wk kd a who).1.2.2,w.br)=_∧_
  cases h1:(ic w.wk kd a who).2
  ·exact ⟨_,rfl,fun e=>by cases e⟩
  ·exact ⟨_,rfl,fun _=>rfl⟩
end
theorem OF {w:Wd} (sm:Sm w) (kd a who:Int):lT w.b w.ls w.pts w.on w.earth w.pm w.br kd a who=some (o8 (dw w kd a who)):=by
 unfold lT
 rw [iWv w.b w.ls w.pts w.on w.earth w.pm w.br sm.p sm.o sm.m sm.b,Option.bind_some]
 cases hv:wv w
 ·unfold dw
  rw [if_neg (by rw [hv];decide)]
  rfl
 rw [cond_true,Iq sm,Option.bind_some]
 have h:=kv.1 hv
 simp only [bd,Option.bind_some]
 by_cases ha:0≤a∧a<(w.on.length:Int)
 ·have hc:(aF 0 a&&af a (w.ls.length:Int))=true:=by rw [←h.len];simp [aF,af];omega
  obtain ⟨st,h1,h2⟩:=agh h kd a who ha
  simp only [o7]
  rw [hc,cond_true,h1]
  cases hr:(dw w kd a who).2
  ·simp only [Option.bind_some,Bool.not_false,cond_true]
   have hs:=Us h hr
   have:dw w kd a who=(w,false):=Prod.ext hs hr
   rw [this];rfl
  ·rw [h2 hr]
   simp only [Option.bind_some,Bool.not_true,cond_false,o7,o8,hr]
 ·have hc:(aF 0 a&&af a (w.ls.length:Int))=false:=by rw [←h.len];simp [aF,af];omega
  have hf:dw w kd a who=(w,false):=by unfold dw;rw [if_pos hv,if_neg ha]
  rw [hc,hf];rfl
def Xt (br:List Int) (a:Int) (k:Nat):List Int:=((List.range k).map fun (i:Nat)=>(i:Int)).filter fun i=>i==a ||decide (i∈br)
theorem XK (br:List Int) (a:Int) (k:Nat):(Xt br a k).length≤k:=by
 unfold Xt
 refine Nat.le_trans (List.length_filter_le _ _) ?_
 simp
theorem UI (br:List Int) (a:Int) (k:Nat):Xt br a (k+1)=bif (k:Int)==a ||decide ((k:Int)∈br) then Xt br a k++ [(k:Int)] else Xt br a k:=by
 unfold Xt
 rw [List.range_succ,List.map_append,List.filter_append]
 cases hc:((k:Int)==a ||decide ((k:Int)∈br))<;>simp [List.filter_cons,hc]
theorem aaj {w:Wd} (h:WdOk w) {a:Int} (ha:0≤a∧a<(w.on.length:Int)):Xt w.br a w.on.length=JC a w.br:=by
 refine xG ?_ (yZ h.sor) (fun x=>?_)
 ·refine List.Pairwise.sublist List.filter_sublist ?_
  rw [List.pairwise_map]
  exact List.pairwise_lt_range.imp (fun h=>by omega)
 ·unfold Xt
  rw [JD,List.mem_filter,List.mem_map]
  simp only [List.mem_range,Bool.or_eq_true,beq_iff_eq,decide_eq_true_eq]
  constructor
  ·exact fun e=>e.2
  ·intro e
   refine ⟨?_,e⟩
   have:0≤x∧x<(w.on.length:Int):=by
    rcases e with rfl |e
    ·exact ha
    ·exact (h.inn x e).1
   exact ⟨x.toNat,by omega,by omega⟩
section
variable {w:Wd} (h:WdOk w) {a:Int} (ha:0≤a∧a<(w.on.length:Int))
include h ha
theorem abu:nR w.b w.ls w.pts w.on w.earth w.pm w.br a=some (o7 {w with on:=w.on.set a.toNat false,br:=JC a w.br}):=by
 have sm:=yA h
 have ho:=sm.o;have hb:=sm.b
 have hix:aq a w.on.length=true:=decide_eq_true ha
 have hh:=av (fc w.on w.br a) (fun k=>((k:Int),Xt w.br a k)) w.on.length (some (JC a w.br)) (by omega) (fun k fuel hk=>?_) (fun fuel=>?_)
 ·unfold nR
  rw [zR sm]
  simp only [Option.bind_some,o7,hix,aa]
  rw [show fc w.on w.br a ah (0,[])=_ from hh]
  rfl
 ·rw [tn,iV]
  have hl:=XK w.br a k
  have ap:bw (Xt w.br a k).length ([(k:Int)]:List Int).length=true:=by simp [bw];omega
  simp only [au hk,cond_true,Uc w.br (k:Int) (by omega),ab (by omega:k<4611686018427387904),ap,aa]
  rw [UI]
  cases hc:((k:Int)==a)
  ·simp only [Bool.not_false,cd,Option.bind_some,Bool.false_or]
   cases decide ((k:Int)∈w.br)<;>rfl
  ·simp only [Bool.not_true,qW,Option.bind_some,Bool.true_or,cond_true]
 ·rw [tn,iV]
  simp only [ak,cond_false,aaj h ha]
omit ha in
theorem aeH:pw w.b w.ls w.pts w.on w.earth w.pm w.br a=some (o7 {w with br:=w.br.filter fun x=>x !=a}):=by
 have sm:=yA h
 have hb:=sm.b
 have hh:=av (gT w.br a) (fun k=>((k:Int),(w.br.take k).filter fun x=>x !=a)) w.br.length (some (w.br.filter fun x=>x !=a)) (by omega) (fun k fuel hk=>?_) (fun fuel=>?_)
 ·unfold pw
  rw [zR sm]
  simp only [Option.bind_some,o7]
  rw [show gT w.br a ah (0,[])=_ from hh]
  rfl
 ·rw [uF,kc]
  have hl:=List.length_filter_le (fun x=>x !=a) (w.br.take k)
  rw [List.length_take] at hl
  have ap: ∀x:Int,bw ((w.br.take k).filter fun x=>x !=a).length ([x]:List Int).length=true:=fun x=>by simp only [bw,decide_eq_true_eq,List.length_singleton];omega
  simp only [au hk,ae hk,cond_true,aa,Int.toNat_natCast,ap,ab (by omega:k<4611686018427387904)]
  rw [List.take_succ_eq_append_getElem hk,List.filter_append,←ac hk (d:=(0:Int))]
  cases hc:(w.br.getD k 0 !=a)
  ·simp only [List.filter_cons,List.filter_nil,hc,Bool.false_eq_true,if_false,cond_false,Option.bind_some,List.append_nil]
  ·simp only [List.filter_cons,List.filter_nil,hc,if_true,cond_true,Option.bind_some]
 ·rw [uF,kc]
  simp only [ak,cond_false,List.take_length]
end
theorem Vt {pm:Pm} {a who:Int}:who∈cU pm a↔(who,a)∈pm:=by
 unfold cU
 rw [List.mem_map]
 constructor
 ·rintro ⟨p,hp,rfl⟩
  obtain ⟨h1,h2⟩:=List.mem_filter.1 hp
  have:p.2=a:=by simpa using h2
  rw [←this];exact h1
 ·intro hm
  exact ⟨(who,a),List.mem_filter.2 ⟨hm,by simp⟩,rfl⟩
theorem Kh {w:Wd} (sm:Sm w) (kd a who:Int):lZ w.b w.ls w.pts w.on w.earth w.pm w.br kd a who=some (o8 (dw w kd a who)):=by
 unfold lZ
 rw [sWv w.b w.ls w.pts w.on w.earth w.pm w.br sm.p sm.o sm.m sm.b,Option.bind_some]
 cases hv:wv w
 ·unfold dw
  rw [if_neg (by rw [hv];decide)]
  rfl
 rw [cond_true]
 have h:=kv.1 hv
 have hol:=h.work.l1
 simp only [Wd.wk] at hol
 have e1:ay ((w.on.length:Int)-1)=(w.on.length:Int)-1:=bD (by omega) (by omega)
 simp only [am,e1,Option.bind_some]
 by_cases hna: ¬(0≤a∧a<(w.on.length:Int))
 ·have hc:(aF 0 a&&aF a ((w.on.length:Int)-1))=false:=by simp [aF];omega
  have hf:dw w kd a who=(w,false):=by unfold dw;rw [if_pos hv,if_neg hna]
  rw [hc,hf,cond_false,zR sm];rfl
 have ha:0≤a∧a<(w.on.length:Int):=Classical.byContradiction hna
 have hc:(aF 0 a&&aF a ((w.on.length:Int)-1))=true:=by simp [aF];omega
 rw [hc,cond_true,Uc w.br a (by have:=sm.b;omega),Option.bind_some]
 by_cases h6:kd=6∧a∉w.br
 ·have hf:dw w kd a who=({w with on:=w.on.set a.toNat false,br:=JC a w.br},true):=by unfold dw;rw [if_pos hv,if_pos ha,if_pos h6]
  rw [hf,decide_eq_false h6.2,h6.1,show (((6:Int)==6)&& !false)=true from rfl,cond_true,abu h ha];rfl
 have c6:((kd==6)&& !decide (a∈w.br))=false:=by
  cases hk:(kd==6)
  ·rfl
  ·have:a∈w.br:=Classical.byContradiction fun hn=>h6 ⟨by simpa using hk,hn⟩
   rw [decide_eq_true this];rfl
 rw [c6,cond_false]
 have hheld:dJ w.on w.earth w.pm a=some (cU w.pm a):=by
  rw [ZR w.on w.earth w.pm a sm.o sm.m,if_pos (show oi w.on w.earth w.pm=true from IG.2 h.work)]
 have hhl:=Jv w.pm a
 have hml:=sm.m
 have c7:(bif (kd==7)&&decide (a∈w.br) then Option.bind (dJ w.on w.earth w.pm a) (fun (p133:List Int)=>Option.bind (cQ p133 who) (fun (p137:Bool)=>some p137)) else some false)=some (decide (kd=7∧a∈w.br∧(who,a)∈w.pm)):=by
  rw [hheld]
  simp only [Option.bind_some,Uc (cU w.pm a) who (by omega)]
  by_cases hk:kd=7
  ·subst hk
   by_cases hb:a∈w.br
   ·simp [hb,Vt]
   ·simp [hb]
  ·have:(kd==7)=false:=by simpa using hk
   simp [this,hk]
 rw [c7,Option.bind_some]
 by_cases h7:kd=7∧a∈w.br∧(who,a)∈w.pm
 ·have hf:dw w kd a who=({w with br:=w.br.filter fun x=>x !=a},true):=by unfold dw;rw [if_pos hv,if_pos ha,if_neg h6,if_pos h7]
  rw [hf,decide_eq_true h7,cond_true,aeH h];rfl
 rw [decide_eq_false h7,cond_false]
 by_cases h0:kd=0∧a∈w.br
 ·have hf:dw w kd a who=(w,false):=by unfold dw;rw [if_pos hv,if_pos ha,if_neg h6,if_neg h7,if_pos h0]
  rw [hf,h0.1,decide_eq_true h0.2,show (((0:Int)==0)&&true)=true from rfl,cond_true,zR sm];rfl
 have c0:((kd==0)&&decide (a∈w.br))=false:=by
  cases hk:(kd==0)
  ·rfl
  ·have:a∉w.br:=fun hn=>h0 ⟨by simpa using hk,hn⟩
   rw [decide_eq_false this];rfl
 rw [c0,cond_false,zR sm,Option.bind_some]
 have hdo:=sDo w.wk kd a who sm.o sm.e sm.m
 have hlen:=(IF h.work (kd:=kd) (a:=a) (who:=who)).1
 have hrad:eD w.b w.ls (ic w.wk kd a who).1.1 w.pts=some (nn w.ls (ic w.wk kd a who).1.1 w.pts):=by
  rw [IB _ _ _ _ sm.p,SH h (hlen.trans h.len)]
 have hf:dw w kd a who=if (ic w.wk kd a who).2=true∧nn w.ls (ic w.wk kd a who).1.1 w.pts=true then (w.put (ic w.wk kd a who).1,true) else (w,false):=by
  unfold dw
  rw [if_pos hv,if_pos ha,if_neg h6,if_neg h7,if_neg h0]
 rw [hf]
 change Option.bind (nk w.wk.1 w.wk.2.1 w.wk.2.2 kd a who) _=_
 rw [hdo,Option.bind_some]
 simp only [pz,o7,hrad]
 cases h1:(ic w.wk kd a who).2
 ·simp only [Bool.not_false,Bool.not_true,qW,Option.bind_some,Bool.true_or,cond_true,Bool.false_eq_true,false_and,if_false];rfl
 ·cases h2:nn w.ls (ic w.wk kd a who).1.1 w.pts
  ·rfl
  ·rfl
theorem Oz (l:List Dd) (w:Wd): ∀k,0≤((l.take k).foldl eA (0,w)).1∧((l.take k).foldl eA (0,w)).1≤k:=by
 intro k
 induction k with
 |zero=>simp
 |succ k ih=>
  rcases Nat.lt_or_ge k l.length with hk |hk
  ·rw [Ho _ _ _ ((0,0,0):Dd) hk]
   generalize (l.take k).foldl eA (0,w)=s at ih
   unfold eA
   split
   ·dsimp only;omega
   ·omega
  ·rw [List.take_of_length_le (by omega)]
   rw [List.take_of_length_le hk] at ih
   omega
def ZV (k:Nat) (s:Int×Wd):Int×Int×W7:=(s.1,(k:Int),o7 s.2)
def o8n (s:Int×Wd):Int×List Ln×List (Int×Int)×List Bool×List Bool×Pm×List Int×Int:=(s.2.b,s.2.ls,s.2.pts,s.2.on,s.2.earth,s.2.pm,s.2.br,s.1)
theorem ad9 {w:Wd} (h:WdOk w) (l:List Dd) (hl:l.length≤1048576):cK l ah (ZV 0 (0,w))=some ((l.foldl eA (0,w)).1,o7 (l.foldl eA (0,w)).2):=by
 have hh:=av (cK l) (fun k=>ZV k ((l.take k).foldl eA (0,w))) l.length (some ((l.foldl eA (0,w)).1,o7 (l.foldl eA (0,w)).2)) (by omega) (fun k fuel hk=>?_) (fun fuel=>?_)
 ·exact hh
 ·rw [sU,iy]
  have hc:=Oz l w k
  have hok:=Hs (l.take k) (s:=((0:Int),w)) h
  simp only [Ho eA _ _ ((0,0,0):Dd) hk]
  generalize (l.take k).foldl eA (0,w)=s at hc hok
  have hd:=OF (yA hok) (l.getD k ((0,0,0):Dd)).1 (l.getD k ((0,0,0):Dd)).2.1 (l.getD k ((0,0,0):Dd)).2.2
  have e1:ay (s.1+1)=s.1+1:=bD (by omega) (by omega)
  simp only [ZV,o7,au hk,ae hk,cond_true,aa,Int.toNat_natCast,hd,Option.bind_some,o8,ab (by omega:k<4611686018427387904)]
  unfold eA
  cases hr:(dw s.2 (l.getD k ((0,0,0):Dd)).1 (l.getD k ((0,0,0):Dd)).2.1 (l.getD k ((0,0,0):Dd)).2.2).2
  ·simp only [cond_false,Option.bind_some,Bool.false_eq_true,if_false]
  ·simp only [cond_true,Option.bind_some,if_true,e1]
 ·rw [sU,iy]
  simp only [ZV,o7,ak,cond_false,List.take_length]
theorem aeN {w:Wd} (h:WdOk w) (l:List Dd) (hl:l.length≤1048576):cN l ah (ZV 0 (0,w))=some ((l.foldl eA (0,w)).1,o7 (l.foldl eA (0,w)).2):=by
 have hh:=av (cN l) (fun k=>ZV k ((l.take k).foldl eA (0,w))) l.length (some ((l.foldl eA (0,w)).1,o7 (l.foldl eA (0,w)).2)) (by omega) (fun k fuel hk=>?_) (fun fuel=>?_)
 ·exact hh
 ·rw [tm,iU]
  have hc:=Oz l w k
  have hok:=Hs (l.take k) (s:=((0:Int),w)) h
  simp only [Ho eA _ _ ((0,0,0):Dd) hk]
  generalize (l.take k).foldl eA (0,w)=s at hc hok
  have hd:=Kh (yA hok) (l.getD k ((0,0,0):Dd)).1 (l.getD k ((0,0,0):Dd)).2.1 (l.getD k ((0,0,0):Dd)).2.2
  have e1:ay (s.1+1)=s.1+1:=bD (by omega) (by omega)
  simp only [ZV,o7,au hk,ae hk,cond_true,aa,Int.toNat_natCast,hd,Option.bind_some,o8,ab (by omega:k<4611686018427387904)]
  unfold eA
  cases hr:(dw s.2 (l.getD k ((0,0,0):Dd)).1 (l.getD k ((0,0,0):Dd)).2.1 (l.getD k ((0,0,0):Dd)).2.2).2
  ·simp only [cond_false,Option.bind_some,Bool.false_eq_true,if_false]
  ·simp only [cond_true,Option.bind_some,if_true,e1]
 ·rw [tm,iU]
  simp only [ZV,o7,ak,cond_false,List.take_length]
theorem Tt {w:Wd} (sm:Sm w) (l:List Dd) (hl:l.length≤1048576):nC w.b w.ls w.pts w.on w.earth w.pm w.br l=some (o8n (Gi w l)):=by
 unfold nC Gi
 rw [iWv w.b w.ls w.pts w.on w.earth w.pm w.br sm.p sm.o sm.m sm.b,Option.bind_some]
 cases hv:wv w
 ·rfl
 rw [cond_true,Iq sm,Option.bind_some]
 simp only [o7]
 rw [show cK l ah (0,0,w.b,w.ls,w.pts,w.on,w.earth,w.pm,w.br)=_ from ad9 (kv.1 hv) l hl]
 rfl
theorem Ue {w:Wd} (sm:Sm w) (l:List Dd) (hl:l.length≤1048576):nQ w.b w.ls w.pts w.on w.earth w.pm w.br l=some (o8n (Gi w l)):=by
 unfold nQ Gi
 rw [sWv w.b w.ls w.pts w.on w.earth w.pm w.br sm.p sm.o sm.m sm.b,Option.bind_some]
 cases hv:wv w
 ·rfl
 rw [cond_true,zR sm,Option.bind_some]
 simp only [o7]
 rw [show cN l ah (0,0,w.b,w.ls,w.pts,w.on,w.earth,w.pm,w.br)=_ from aeN (kv.1 hv) l hl]
 rfl
theorem sm0:Sm .zero:=⟨by decide,by decide,by decide,by decide,by decide,by decide⟩
theorem PQ {w:Wd} (l:List Dd):Sm (Gi w l).2:=by
 cases hv:wv w
 ·unfold Gi;rw [hv,if_neg (by decide)];exact sm0
 ·exact yA (Xk (kv.1 hv) l)
theorem Rx {w:Wd} (kd a who:Int):Sm (dw w kd a who).1:=by
 cases hv:wv w
 ·unfold dw;rw [hv,if_neg (by decide)];exact sm0
 ·exact yA (Tb (kv.1 hv) kd a who)
end Go.Proofs.YtjdlgannencchaaGreatDoor
namespace Go.Proofs.YtjdlgannencchaaGreatDoor
open Go.Lib
set_option linter.unusedVariables false
set_option linter.unusedSimpArgs false
theorem aan {n:Nat} (h:n<1000000):(decDigits n).length≤6:=MA 5 n (by simpa using h)
theorem aao (n:Nat):decDigits n≠ []:=by
 intro e
 have:=congrArg List.length e
 rw [decDigits_length] at this
 have:=nDigits_pos n
 simp at*;omega
def Dt (n:Int):List UInt8:=decDigits n.toNat
theorem VK {n:Int} (h:0≤n∧n<1000000):bH n=some (aW (Dt n)):=by
 obtain ⟨k,rfl⟩: ∃k:Nat,n=k:=⟨n.toNat,by omega⟩
 rw [Sj (by omega)];simp [Dt]
theorem QL {n:Int} (h:0≤n∧n<1000000):aY n=some (aW (Dt n)):=by
 obtain ⟨k,rfl⟩: ∃k:Nat,n=k:=⟨n.toNat,by omega⟩
 rw [aa7 (by omega)];simp [Dt]
theorem Ej {n:Int} (h:0≤n∧n<1000000):(Dt n).length≤6:=aan (by omega)
def aeZ:List UInt8:=[110,111,110,101]
def LQ (l:List Int):List UInt8:=if l=[] then aeZ else join (l.map Dt) [44]
theorem Tx (xs:List (List UInt8)) (x sep:List UInt8) (h:xs≠ []):join (xs++ [x]) sep=join xs sep++(sep++x):=by
 cases xs with
 |nil=>exact absurd rfl h
 |cons y r=>rw [List.cons_append,join_cons,join_cons];simp [joinTail,List.append_assoc]
theorem LN: ∀(xs:List (List UInt8)),(∀x∈xs,x.length≤6)→(join xs [44]).length≤7*xs.length
 | [],_=>by simp [join_nil]
 |x::r,h=>by
  rw [join_cons]
  have h1:=h x (by simp)
  have h2: ∀r:List (List UInt8),(∀y∈r,y.length≤6)→(joinTail [44] r).length≤7*r.length:=by
   intro r
   induction r with
   |nil=>intro _;simp [joinTail]
   |cons y r ih=>
    intro hr
    have e:joinTail [44] (y::r)=[44]++y++joinTail [44] r:=by simp [joinTail]
    have:=hr y (by simp)
    have:=ih fun z hz=>hr z (by simp [hz])
    rw [e];simp;omega
  have:=h2 r fun y hy=>h y (by simp [hy])
  simp;omega
section
variable {l:List Int} (hl:l.length≤1000) (hr: ∀x∈l,0≤x∧x<1000000)
include hl hr
theorem Zs {k:Nat} (h:k<l.length):0≤l.getD k 0∧l.getD k 0<1000000:=by have:=hl;rw [ac h];exact hr _ (List.getElem_mem h)
theorem ZD:dF l=some (aW (LQ l)):=by
 unfold dF LQ
 cases l with
 |nil=>rfl
 |cons x r=>
  rw [if_neg (by simp)]
  generalize hL:x::r=l at*
  have hne:((l.length:Int)==0)=false:=by rw [beq_eq_false_iff_ne,←hL];simp;omega
  rw [hne,show sF (l.length:Int)=true from decide_eq_true (by omega)]
  have hh:=vj (jF l) (l.map fun n=>aW (Dt n)) (List.replicate l.length ByteArray.empty) (by simp) (by simp;omega) (fun fuel y j hj hy=>by
   have hj':j<l.length:=by simpa using hj
   rw [sY,iD]
   have hi:=VK (Zs hl hr hj')
   rw [ac hj'] at hi
   simp only [au hj',ae hj',aa,cond_true,Int.toNat_natCast,ab (by omega:j<4611686018427387904),List.getElem_map,ac hj',hi,Option.bind_some]) (fun fuel y hy=>by rw [sY,iD];simp [ak])
  have hm:(l.map fun n=>aW (Dt n)).map (·.data.toList)=l.map Dt:=by
   rw [List.map_map];exact List.map_congr_left fun a _=>lN _
  simp only [cond_false,aa]
  rw [hh]
  simp only [Option.bind_some]
  unfold dp
  have hs:(({data:= #[44]}:ByteArray)).data.toList=[44]:=rfl
  have hz:=LN (l.map Dt) (fun y hy=>by obtain ⟨z,hz,rfl⟩:=List.mem_map.1 hy;exact Ej (hr z hz))
  rw [hm,hs,decide_eq_true (by rw [List.length_map] at*;omega)]
  rfl
theorem ZS:mb l=some (aW (LQ l)):=by
 unfold mb
 have hz: ∀k,k≤l.length→(join ((l.take k).map Dt) [44]).length≤7*k:=fun k hk=>by
  have:=LN ((l.take k).map Dt) (fun y hy=>by obtain ⟨z,hz,rfl⟩:=List.mem_map.1 hy;exact Ej (hr z (List.mem_of_mem_take hz)))
  simpa [List.length_take,Nat.min_eq_left hk] using this
 have hh:=av (gW l) (fun k=>(aW (join ((l.take k).map Dt) [44]),(k:Int))) l.length (some (aW (join (l.map Dt) [44]))) (by omega) (fun k fuel hk=>by
  have h1:=hz k (by omega)
  have h2:=Zs hl hr hk
  have h3:=Ej h2
  have c1:Kv (aW (join ((l.take k).map Dt) [44])).size ({data:= #[44]}:ByteArray).size=true:=decide_eq_true (by rw [eL];show _+1≤_;omega)
  rw [uI,kg]
  simp only [au hk,ae hk,aa,cond_true,Int.toNat_natCast,ab (by omega:k<4611686018427387904),QL h2,Option.bind_some,c1]
  rw [List.take_succ_eq_append_getElem hk,List.map_append,List.map_cons,List.map_nil,←ac (d:=0) hk]
  cases k with
  |zero=>
   have c2: ∀s:ByteArray,s.size≤6→Kv (aW (join ([]:List (List UInt8)) [44])).size s.size=true:=fun s hs=>decide_eq_true (by rw [eL];simp [join_nil];omega)
   have e0:af 0 ((0:Nat):Int)=false:=rfl
   simp only [e0,cond_false,Option.bind_some,List.take_zero,List.map_nil,List.nil_append,c2 (aW (Dt (l.getD 0 0))) (by rw [eL];exact h3),aa]
   rw [zY];simp [join_nil,join_one]
  |succ k=>
   have e0:af 0 ((k+1:Nat):Int)=true:=decide_eq_true (by omega)
   have e1:aW (join ((l.take (k+1)).map Dt) [44])++({data:= #[44]}:ByteArray)=aW (join ((l.take (k+1)).map Dt) [44]++ [44]):=zY _ [44]
   have c2:Kv (aW (join ((l.take (k+1)).map Dt) [44]++ [44])).size (aW (Dt (l.getD (k+1) 0))).size=true:=decide_eq_true (by rw [eL,eL,List.length_append];show _+1+_≤_;omega)
   simp only [e0,cond_true,Option.bind_some,e1,c2,aa]
   rw [zY,Tx _ _ _ (by
    intro e
    have:=congrArg List.length e
    rw [List.length_map,List.length_take,List.length_nil] at this;omega),List.append_assoc]) (fun fuel=>by
  rw [uI,kg,List.take_length];simp only [ak,cond_false])
 rw [show gW l ah (({data:= #[]}:ByteArray),0)=_ from hh]
 simp only [Option.bind_some,mZ]
 unfold LQ
 cases l with
 |nil=>
  have:(join (([]:List Int).map Dt) [44]==({data:= #[]}:ByteArray).toList)=true:=by rw [ByteArray.toList_eq];rfl
  rw [this];rfl
 |cons x r=>
  rw [if_neg (by simp)]
  have hne:(join ((x::r).map Dt) [44]==({data:= #[]}:ByteArray).toList)=false:=by
   rw [beq_eq_false_iff_ne,ByteArray.toList_eq]
   intro e
   rw [List.map_cons,join_cons] at e
   exact aao _ (List.append_eq_nil_iff.1 e).1
  rw [hne];rfl
end
theorem FM {n:Int} (h:0≤n):itoa n=Dt n:=by
 obtain ⟨k,rfl⟩: ∃k:Nat,n=k:=⟨n.toNat,by omega⟩
 rw [itoa_nonneg];simp [Dt]
def VW (b:Int) (ls:List Ln):List UInt8:=if Hd b ls=true then TE b ls else []
theorem ad5 (b:Int) (ls:List Ln):cX b ls=some (aW (VW b ls)):=by
 unfold cX VW
 rw [aaM,Option.bind_some]
 cases hv:Hd b ls with
 |false=>rfl
 |true=>
  have ok:=zJ.1 hv
  have hb:VV b ls=true:=by
   unfold VV n64
   have h0:=ok.b0;have h1:=ok.b1;have h2:=ok.ll
   rw [decide_eq_true (by omega),decide_eq_true (by omega)]
   simp only [Bool.true_and,List.all_eq_true,Bool.and_eq_true,decide_eq_true_eq]
   intro x hx
   obtain ⟨k,hk,rfl⟩:=List.mem_iff_getElem.1 hx
   have hL:=ok.ln k hk
   rw [ac hk] at hL
   have a1:=hL.a;have a2:=hL.b;have a3:=hL.m
   omega
  rw [hb,if_pos rfl];rfl
theorem aeI (b:Int) (ls:List Ln):pp b ls=some (aW (VW b ls)):=by
 unfold pp VW
 rw [Zd,Option.bind_some]
 cases hv:Hd b ls with
 |false=>rfl
 |true=>
  have ok:=zJ.1 hv
  have h0:=ok.b0;have h1:=ok.b1;have h2:=ok.ll
  let f:Ln→List UInt8:=fun x=>32::(itoa x.1++45::(itoa x.2.1++58::itoa x.2.2))
  have hf: ∀k,k<ls.length→f (ls.getD k (0,0,0))=32::(Dt (ls.getD k (0,0,0)).1++45::(Dt (ls.getD k (0,0,0)).2.1++58::Dt (ls.getD k (0,0,0)).2.2)):=fun k hk=>by
   have hL:=ok.ln k hk
   show 32::(itoa _++45::(itoa _++58::itoa _))=_
   rw [FM hL.a.1,FM hL.b.1,FM (by have:=hL.m;omega)]
  have hlen: ∀k,k≤ls.length→(Dt b++(ls.take k).flatMap f).length≤6+21*k:=by
   intro k
   induction k with
   |zero=>intro _;simp;exact Ej (by omega)
   |succ k ih=>
    intro hk
    have hL:=ok.ln k (by omega)
    have:=ih (by omega)
    have e1:=Ej (n:=(ls.getD k (0,0,0)).1) (by have:=hL.a;omega)
    have e2:=Ej (n:=(ls.getD k (0,0,0)).2.1) (by have:=hL.b;omega)
    have e3:=Ej (n:=(ls.getD k (0,0,0)).2.2) (by have:=hL.m;omega)
    rw [List.take_succ_eq_append_getElem (by omega),List.flatMap_append,←ac (d:=(0,0,0)) (by omega:k<ls.length)]
    simp only [List.flatMap_cons,List.flatMap_nil,List.append_nil,hf k (by omega)]
    rw [List.length_append] at this ⊢
    simp only [List.length_append,List.length_cons];omega
  rw [if_pos rfl,QL (by omega)]
  have hh:=av (gI ls) (fun k=>(aW (Dt b++(ls.take k).flatMap f),(k:Int))) ls.length (some (aW (Dt b++ls.flatMap f))) (by omega) (fun k fuel hk=>by
   have hL:=ok.ln k hk
   have q1:0≤(ls.getD k (0,0,0)).1∧(ls.getD k (0,0,0)).1<1000000:=by have:=hL.a;omega
   have q2:0≤(ls.getD k (0,0,0)).2.1∧(ls.getD k (0,0,0)).2.1<1000000:=by have:=hL.b;omega
   have q3:0≤(ls.getD k (0,0,0)).2.2∧(ls.getD k (0,0,0)).2.2<1000000:=by have:=hL.m;omega
   have l1:=Ej q1;have l2:=Ej q2;have l3:=Ej q3
   have hz:=hlen k (by omega)
   rw [uz,jV]
   have k32:({data:= #[32]}:ByteArray)=aW [32]:=rfl
   have k45:({data:= #[45]}:ByteArray)=aW [45]:=rfl
   have k58:({data:= #[58]}:ByteArray)=aW [58]:=rfl
   have st: ∀a c:List UInt8,a.length+c.length≤1000000→Kv (aW a).size (aW c).size=true:=fun a c h=>decide_eq_true (by rw [eL,eL];omega)
   have hz2:((Dt b).length+((ls.take k).flatMap f).length)≤6+21*k:=by simpa using hz
   simp only [au hk,ae hk,aa,cond_true,Int.toNat_natCast,ab (by omega:k<4611686018427387904),QL q1,QL q2,QL q3,Option.bind_some,k32,k45,k58]
   repeat rw [zY]
   repeat rw [st _ _ (by simp only [List.length_append,List.length_cons,List.length_nil];omega),aa]
   rw [List.take_succ_eq_append_getElem hk,List.flatMap_append,←ac (d:=(0,0,0)) hk]
   simp only [List.flatMap_cons,List.flatMap_nil,List.append_nil,hf k hk]
   simp) (fun fuel=>by
   rw [uz,jV,List.take_length];simp only [ak,cond_false])
  rw [cond_true,Option.bind_some]
  rw [show gI ls ah (aW (Dt b),0)=_ from by simpa using hh]
  unfold TE
  rw [FM (by omega)];rfl
end Go.Proofs.YtjdlgannencchaaGreatDoor
namespace Go.Proofs.YtjdlgannencchaaGreatDoor
open Go.ChangeShapes Go.WideShapes Go.ChangeAt Go.RowKit
set_option linter.unusedVariables false
set_option linter.unusedSimpArgs false
set_option linter.unusedSectionVars false
section
variable (w:Wk) (ho:w.1.length≤1000) (he:w.2.1.length≤1000) (hp:w.2.2.length≤1000)
include ho he hp
omit ho he in
theorem ad8:iv w.1 w.2.1 w.2.2=some (fE w.2.2):=by
 unfold iv
 have h:=av (em w.2.2) (fun k=>(fE (w.2.2.take k),(k:Int))) w.2.2.length (some (fE w.2.2)) (by omega) (fun k fuel hk=>?_) (fun fuel=>?_)
 ·rw [show (([]:List (Int×Int×Int)),(0:Int))=(fE (w.2.2.take 0),((0:Nat):Int)) from rfl,h];rfl
 ·rw [oy,dB]
  have ha:bw (fE (w.2.2.take k)).length 1=true:=by simp [bw,fE];omega
  simp only [au hk,ae hk,aa,cond_true,Int.toNat_natCast,List.length_singleton,ha,ab (by omega:k<4611686018427387904)]
  rw [LY hk]
 ·rw [oy,dB];simp [ak]
omit he hp ho in
theorem agf (kd:Int) (l:List Bool) (b:Bool) (hl:l.length≤1000):nE kd l b=some (oD kd l b l.length):=by
 unfold nE
 have h:=av (jD kd l b) (fun k=>(oD kd l b k,(k:Int))) l.length (some (oD kd l b l.length)) (by omega) (fun k fuel hk=>?_) (fun fuel=>?_)
 ·rw [show (([]:List (Int×Int×Int)),(0:Int))=(oD kd l b 0,((0:Nat):Int)) from rfl,h];rfl
 ·rw [sV,iA]
  have hb:=Dq kd l b k
  have ha:bw (oD kd l b k).length 1=true:=by simp [bw];omega
  simp only [au hk,ae hk,aa,cond_true,Int.toNat_natCast,List.length_singleton,ha,ab (by omega:k<4611686018427387904)]
  simp only [oD]
  cases (l.getD k false==b)<;>rfl
 ·rw [sV,iA];simp only [ak,cond_false]
end
def Ig (d:Int×Bool):Dd:=(bif d.2 then (0:Int) else 1,d.1,0)
theorem EM (on:List Bool) (x:Option (List Bool)):(FU on x).1.map Ig=Nz on x:=by
 cases x with
 |none=>rfl
 |some y=>
  show (JR on y).map Ig=QM on y on.length++We on y on.length
  unfold JR QM We
  rw [List.map_append,List.map_map,List.map_map];rfl
theorem Ka (on:List Bool) (x:Option (List Bool)):(FU on x).1.length≤2*on.length:=by
 cases x with
 |none=>simp [FU]
 |some y=>
  have a:=List.length_filter_le (fun i=>on.getD i false&& !y.getD i false) (List.range on.length)
  have b:=List.length_filter_le (fun i=>y.getD i false&& !on.getD i false) (List.range on.length)
  rw [List.length_range] at a b
  simp only [FU,JR,List.length_append,List.length_map]
  omega
theorem Ox (earth:List Bool) (br:List Int) {k:Nat} (hk:k<br.length):nh earth (br.take (k+1))=nh earth (br.take k)++((if earth.getD (br.getD k 0).toNat false then [] else [(2,br.getD k 0,0)])++ [(4,br.getD k 0,0),(7,br.getD k 0,0),(5,br.getD k 0,0)]):=by
 rw [List.take_succ_eq_append_getElem hk,←ac hk (d:=0)]
 unfold nh
 rw [List.flatMap_append];simp
theorem On (earth:List Bool) (br:List Int) {k:Nat} (hk:k<br.length):dD earth (br.take (k+1))=(dD earth (br.take k)).set (br.getD k 0).toNat true:=by
 rw [List.take_succ_eq_append_getElem hk,←ac hk (d:=0)]
 unfold dD
 rw [List.foldl_append];rfl
theorem GV (earth:List Bool): ∀br:List Int,(nh earth br).length≤4*br.length
 | []=>by simp [nh]
 |l::br=>by
  have:=GV earth br
  rw [Ya]
  simp only [List.length_append,List.length_cons,List.length_nil]
  split<;>simp<;>omega
theorem Hw: ∀(br:List Int) (earth:List Bool) (m:Nat),(∀x∈br,x.toNat≠m)→(dD earth br).getD m false=earth.getD m false
 | [],_,_,_=>rfl
 |l::br,earth,m,h=>by
  show (dD (earth.set l.toNat true) br).getD m false=_
  rw [Hw br _ m fun x hx=>h x (List.mem_cons_of_mem _ hx)]
  have:=h l List.mem_cons_self
  simp [List.getD,List.getElem?_set_ne this]
theorem Jq: ∀(br:List Int) (earth:List Bool) (k:Nat),(∀x∈br,0≤x∧x<(earth.length:Int))→(dD earth br).getD k false=(earth.getD k false ||decide ((k:Int)∈br))
 | [],_,_,_=>by simp [dD]
 |l::br,earth,k,h=>by
  show (dD (earth.set l.toNat true) br).getD k false=_
  have hl:=h l List.mem_cons_self
  rw [Jq br _ k fun x hx=>by rw [List.length_set];exact h x (List.mem_cons_of_mem _ hx)]
  by_cases e:(k:Int)=l
  ·have e2:l.toNat=k:=by omega
   have:(earth.set l.toNat true).getD k false=true:=by rw [e2];simp [List.getD,show k<earth.length by omega]
   rw [this];simp [e]
  ·have e2:l.toNat≠k:=by omega
   have:(earth.set l.toNat true).getD k false=earth.getD k false:=by simp [List.getD,List.getElem?_set_ne e2]
   rw [this];simp [e]
theorem SW {br:List Int} (h:br.Pairwise (· < ·)) (h0: ∀x∈br,0≤x): ∀k,k<br.length→(k:Int)≤br.getD k 0
 |0,hk=>h0 _ (by rw [ac hk];exact List.getElem_mem hk)
 |k+1,hk=>by
  have:=SW h h0 k (by omega)
  have:=vo h hk
  omega
theorem Qi {w:Wd} (h:WdOk w):w.br.length≤w.on.length:=by
 cases hb:w.br.length with
 |zero=>omega
 |succ n=>
  have h1:=SW h.sor (fun x hx=>(h.inn x hx).1.1) n (by omega)
  have h2:=(h.inn (w.br.getD n 0) (by rw [ac (show n<w.br.length by omega)];exact List.getElem_mem _)).1.2
  omega
theorem abE {br:List Int} (h:br.Pairwise (· < ·)) (h0: ∀x∈br,0≤x) {k:Nat} (hk:k<br.length): ∀x∈br.take k,x.toNat≠(br.getD k 0).toNat:=by
 intro x hx e
 have hk0:=h0 (br.getD k 0) (by rw [ac hk];exact List.getElem_mem hk)
 have hx0:=h0 x (List.mem_of_mem_take hx)
 have h2:(br.take k++br.drop k).Pairwise (· < ·):=by rw [List.take_append_drop];exact h
 have:=(List.pairwise_append.1 h2).2.2 x hx (br.getD k 0) (by rw [List.drop_eq_getElem_cons hk,ac hk];exact List.mem_cons_self)
 omega
theorem aaP (p:List (Int×Bool)×Bool) (L:List Dd) (h:L.length+p.1.length≤1048576):dQ p ah (L,0)=some (L++p.1.map Ig):=by
 have hh:=av (dQ p) (fun k=>(L++(p.1.take k).map Ig,(k:Int))) p.1.length (some (L++p.1.map Ig)) (by omega) (fun k fuel hk=>?_) (fun fuel=>?_)
 ·simpa using hh
 ·rw [rB,fS]
  have ap: ∀x:Dd,bw (L++(p.1.take k).map Ig).length ([x]:List Dd).length=true:=fun x=>dM (by simp only [List.length_append,List.length_map,List.length_take,List.length_singleton];omega)
  simp only [au hk,ae hk,cond_true,aa,Int.toNat_natCast,ap,ab (by omega:k<4611686018427387904)]
  rw [List.take_succ_eq_append_getElem hk,←ac hk (d:=((0,false):Int×Bool)),List.map_append,List.map_cons,List.map_nil,←List.append_assoc]
  unfold Ig
  cases (p.1.getD k ((0,false):Int×Bool)).2<;>rfl
 ·rw [rB,fS];simp only [ak,cond_false,List.take_length]
theorem abB (p:List (Int×Bool)×Bool) (L:List Dd) (h:L.length+p.1.length≤1048576):ea p ah (L,0)=some (L++p.1.map Ig):=by
 have hh:=av (ea p) (fun k=>(L++(p.1.take k).map Ig,(k:Int))) p.1.length (some (L++p.1.map Ig)) (by omega) (fun k fuel hk=>?_) (fun fuel=>?_)
 ·simpa using hh
 ·rw [rU,gF]
  have ap: ∀x:Dd,bw (L++(p.1.take k).map Ig).length ([x]:List Dd).length=true:=fun x=>dM (by simp only [List.length_append,List.length_map,List.length_take,List.length_singleton];omega)
  simp only [au hk,ae hk,cond_true,aa,Int.toNat_natCast,ap,ab (by omega:k<4611686018427387904)]
  rw [List.take_succ_eq_append_getElem hk,←ac hk (d:=((0,false):Int×Bool)),List.map_append,List.map_cons,List.map_nil,←List.append_assoc]
  unfold Ig
  cases (p.1.getD k ((0,false):Int×Bool)).2<;>rfl
 ·rw [rU,gF];simp only [ak,cond_false,List.take_length]
theorem VD (br:List Int) (p:List Dd×List Bool×Int) (L:List Dd) (h:L.length≤1048576):dP br p ah (L,0)=some (L++ [(4,br.getD p.2.2.toNat 0,0),(7,br.getD p.2.2.toNat 0,0),(5,br.getD p.2.2.toNat 0,0)]):=by
 have hh:=av (dP br p) (fun k=>(L++(([4,7,5]:List Int).take k).map (fun kd=>(kd,br.getD p.2.2.toNat 0,0)),(k:Int))) 3 (some (L++ [(4,br.getD p.2.2.toNat 0,0),(7,br.getD p.2.2.toNat 0,0),(5,br.getD p.2.2.toNat 0,0)])) (by omega) (fun k fuel hk=>?_) (fun fuel=>?_)
 ·simpa using hh
 ·rw [rA,fR]
  have ap: ∀x:Dd,bw (L++(([4,7,5]:List Int).take k).map (fun kd=>(kd,br.getD p.2.2.toNat 0,(0:Int)))).length ([x]:List Dd).length=true:=fun x=>dM (by simp only [List.length_append,List.length_map,List.length_take,List.length_singleton];omega)
  have hlt:af (k:Int) 3=true:=decide_eq_true (by omega)
  have hix:aq (k:Int) 3=true:=ae hk
  simp only [hlt,hix,cond_true,aa,Int.toNat_natCast,ap,ab (by omega:k<4611686018427387904)]
  have:k=0∨k=1∨k=2:=by omega
  rcases this with rfl |rfl |rfl<;>simp
 ·rw [rA,fR];rfl
section
variable {earth:List Bool} {br:List Int} (hs:br.Pairwise (· < ·)) (hi: ∀x∈br,0≤x∧x<(earth.length:Int)) (hb:br.length≤1000) (L:List Dd) (hL:L.length≤1000)
include hs hi hb hL
theorem age:dO br earth ah (L,earth,0)=some (L++nh earth br,dD earth br):=by
 have hh:=av (dO br earth) (fun k=>(L++nh earth (br.take k),dD earth (br.take k),(k:Int))) br.length (some (L++nh earth br,dD earth br)) (by omega) (fun k fuel hk=>?_) (fun fuel=>?_)
 ·simpa [nh,dD] using hh
 ·rw [rz,fQ]
  have hg:=hi (br.getD k 0) (by rw [ac hk];exact List.getElem_mem hk)
  have hix:aq (br.getD k 0) earth.length=true:=by simp only [aq,Bool.and_eq_true,decide_eq_true_eq];omega
  have hfl:=GV earth (br.take k)
  have htl:(br.take k).length≤k:=by rw [List.length_take];omega
  have hkeep:=Hw (br.take k) earth (br.getD k 0).toNat (abE hs (fun x hx=>(hi x hx).1) hk)
  have ap: ∀x:Dd,bw (L++nh earth (br.take k)).length ([x]:List Dd).length=true:=fun x=>dM (by simp only [List.length_append,List.length_singleton];omega)
  simp only [au hk,ae hk,cond_true,aa,Int.toNat_natCast,hix,ap,ab (by omega:k<4611686018427387904)]
  rw [hkeep,Ox earth br hk,On earth br hk]
  cases he:earth.getD (br.getD k 0).toNat false
  ·simp only [cond_false,Option.bind_some,Bool.false_eq_true,if_false]
   rw [VD _ _ _ (by simp only [List.length_append,List.length_singleton];omega)]
   simp only [Option.bind_some,Int.toNat_natCast,List.append_assoc]
  ·simp only [cond_true,Option.bind_some,if_true]
   rw [VD _ _ _ (by simp only [List.length_append];omega),Le (hkeep.trans he)]
   simp only [Option.bind_some,Int.toNat_natCast,List.append_assoc,List.nil_append]
 ·rw [rz,fQ];simp only [ak,cond_false,List.take_length]
theorem ago:dY earth br ah (L,0)=some (L++nh earth br):=by
 have hh:=av (dY earth br) (fun k=>(L++nh earth (br.take k),(k:Int))) br.length (some (L++nh earth br)) (by omega) (fun k fuel hk=>?_) (fun fuel=>?_)
 ·simpa [nh] using hh
 ·rw [rS,gD]
  have hg:=hi (br.getD k 0) (by rw [ac hk];exact List.getElem_mem hk)
  have hix:aq (br.getD k 0) earth.length=true:=by simp only [aq,Bool.and_eq_true,decide_eq_true_eq];omega
  have hfl:=GV earth (br.take k)
  have htl:(br.take k).length≤k:=by rw [List.length_take];omega
  have ap: ∀x:Dd,bw (L++nh earth (br.take k)).length ([x]:List Dd).length=true:=fun x=>dM (by simp only [List.length_append,List.length_singleton];omega)
  have ap3: ∀x y z:Dd,bw (L++nh earth (br.take k)).length ([x,y,z]:List Dd).length=true:=fun x y z=>dM (by simp only [List.length_append,List.length_cons,List.length_nil];omega)
  have ap4: ∀t x y z:Dd,bw (L++nh earth (br.take k)++ [t]).length ([x,y,z]:List Dd).length=true:=fun t x y z=>dM (by simp only [List.length_append,List.length_cons,List.length_nil];omega)
  simp only [au hk,ae hk,cond_true,aa,Int.toNat_natCast,hix,ap,ab (by omega:k<4611686018427387904)]
  rw [Ox earth br hk]
  cases he:earth.getD (br.getD k 0).toNat false
  ·simp only [cond_false,Option.bind_some,Bool.false_eq_true,if_false,ap4,aa]
   simp only [List.append_assoc]
  ·simp only [cond_true,Option.bind_some,if_true,ap3,aa,List.append_assoc,List.nil_append]
 ·rw [rS,gD];simp only [ak,cond_false,List.take_length]
theorem abv (on:List Bool) (hl:earth.length=on.length) (ho:on.length≤1000):dZ on earth br ah (L,0)=some (L++oD 3 (dD earth br) true on.length):=by
 have hh:=av (dZ on earth br) (fun k=>(L++oD 3 (dD earth br) true k,(k:Int))) on.length (some (L++oD 3 (dD earth br) true on.length)) (by omega) (fun k fuel hk=>?_) (fun fuel=>?_)
 ·simpa [oD] using hh
 ·rw [rT,gE]
  have hfl:=Dq 3 (dD earth br) true k
  have ap: ∀x:Dd,bw (L++oD 3 (dD earth br) true k).length ([x]:List Dd).length=true:=fun x=>dM (by simp only [List.length_append,List.length_singleton];omega)
  have hg:=Jq br earth k hi
  simp only [au hk,ae (show k<earth.length by omega),cond_true,aa,Int.toNat_natCast,Uc br _ (by omega),ap,ab (by omega:k<4611686018427387904),oD,hg]
  cases earth.getD k false
  ·simp only [Bool.not_false,cd,Option.bind_some,Bool.false_or]
   cases decide ((k:Int)∈br)
   ·rfl
   ·simp only [cond_true,Option.bind_some,beq_self_eq_true,if_true,List.append_assoc]
  ·simp only [Bool.not_true,qW,Option.bind_some,Bool.true_or,cond_true,beq_self_eq_true,if_true,List.append_assoc]
 ·rw [rT,gE];simp only [ak,cond_false]
end
theorem aeM (pm:Pm) (hp:pm.length≤1000):dX pm ah (([]:List Dd),0)=some (fE pm):=by
 have h:=av (dX pm) (fun k=>(fE (pm.take k),(k:Int))) pm.length (some (fE pm)) (by omega) (fun k fuel hk=>?_) (fun fuel=>?_)
 ·rw [show (([]:List (Int×Int×Int)),(0:Int))=(fE (pm.take 0),((0:Nat):Int)) from rfl,h]
 ·rw [rR,gC]
  have ha: ∀x:Dd,bw (fE (pm.take k)).length ([x]:List Dd).length=true:=fun x=>dM (by simp only [fE,List.length_map,List.length_take,List.length_singleton];omega)
  simp only [au hk,ae hk,aa,cond_true,Int.toNat_natCast,ha,ab (by omega:k<4611686018427387904)]
  rw [LY hk]
 ·rw [rR,gC];simp only [ak,cond_false,List.take_length]
theorem Vs {w:Wd} (h:WdOk w):(LH w).length≤1000:=by
 have h1:=Qi h
 have h2:=GV w.earth w.br
 have h3:=Dq 3 (dD w.earth w.br) true w.on.length
 have h4:=Ka w.on (pH w.ls w.on w.pts)
 have h5:=h.work.lp
 have h6:=h.work.l1
 have h7:(Nz w.on (pH w.ls w.on w.pts)).length=(FU w.on (pH w.ls w.on w.pts)).1.length:=by rw [←EM,List.length_map]
 simp only [Wd.wk] at h5 h6
 simp only [LH,List.length_append,fE,List.length_map,h7]
 omega
section
variable (b:Int) (ls:List Ln) (pts:List (Int×Int)) (on earth:List Bool) (pm:Pm) (br:List Int) (hp:pts.length≤1048576) (ho:on.length≤1048576) (hm:pm.length≤1048576) (hb:br.length≤1048576)
include hp ho hm hb
theorem ad0:ja b ls pts on earth pm br=some (if wv ⟨b,ls,pts,on,earth,pm,br⟩ then LH ⟨b,ls,pts,on,earth,pm,br⟩ else []):=by
 unfold ja
 rw [iWv b ls pts on earth pm br hp ho hm hb,Option.bind_some]
 cases hv:wv ⟨b,ls,pts,on,earth,pm,br⟩
 ·rfl
 have hw:=kv.1 hv
 have hbl:=Qi hw
 have hlp:=hw.bus.lp
 have w0:=hw.work.l0;have w1:=hw.work.l1;have we:=hw.work.le;have wp:=hw.work.lp;have hlen:=hw.len
 have hin:=hw.inn;have hsor:=hw.sor
 simp only [Wd.wk] at w0 w1 we wp
 dsimp only at hlp hbl hlen hin hsor
 subst hlp
 have h01:1≤ls.length:=by omega
 have hel:=Qr br earth
 have hfl:=GV earth br
 have hol:=Dq 3 (dD earth br) true earth.length
 have hrl:=Ka on (pH ls on pts)
 have hrt:(fE pm).length=pm.length:=by simp [fE]
 have a1:bw ([]:List Bool).length earth.length=true:=dM (by simp only [List.length_nil];omega)
 have a2:bw (fE pm++nh earth br).length (oD 3 (dD earth br) true earth.length).length=true:=dM (by simp only [List.length_append];omega)
 simp only [cond_true,ad8 (on,earth,pm) (show pm.length≤1000 by omega),aR,a1,aa,Option.bind_some,if_true]
 rw [age hsor (fun x hx=>by have:=(hin x hx).1;omega) (by omega) _ (by omega),Option.bind_some]
 dsimp only
 rw [agf 3 (dD earth br) true (by omega),Option.bind_some,hel,a2,aa,Vz ⟨hw.bus.net,hlen⟩ hw.bus h01,Option.bind_some,aaP _ _ (by simp only [List.length_append];omega),Option.bind_some,EM]
 simp only [LH,we]
theorem aeD:jj b ls pts on earth pm br=some (if wv ⟨b,ls,pts,on,earth,pm,br⟩ then LH ⟨b,ls,pts,on,earth,pm,br⟩ else []):=by
 unfold jj
 rw [sWv b ls pts on earth pm br hp ho hm hb,Option.bind_some]
 cases hv:wv ⟨b,ls,pts,on,earth,pm,br⟩
 ·rfl
 have hw:=kv.1 hv
 have hbl:=Qi hw
 have hlp:=hw.bus.lp
 have w0:=hw.work.l0;have w1:=hw.work.l1;have we:=hw.work.le;have wp:=hw.work.lp;have hlen:=hw.len
 have hin:=hw.inn;have hsor:=hw.sor
 simp only [Wd.wk] at w0 w1 we wp
 dsimp only at hlp hbl hlen hin hsor
 subst hlp
 have h01:1≤ls.length:=by omega
 have hfl:=GV earth br
 have hol:=Dq 3 (dD earth br) true on.length
 have hrl:=Ka on (pH ls on pts)
 have hrt:(fE pm).length=pm.length:=by simp [fE]
 have hi2: ∀x∈br,0≤x∧x<(earth.length:Int):=fun x hx=>by have:=(hin x hx).1;omega
 rw [cond_true,aeM pm (by omega),Option.bind_some,ago hsor hi2 (by omega) _ (by omega),Option.bind_some,abv hsor hi2 (by omega) _ (by simp only [List.length_append];omega) on we (by omega),Option.bind_some,WQ ⟨hw.bus.net,hlen⟩ hw.bus h01,Option.bind_some,abB _ _ (by simp only [List.length_append];omega),Option.bind_some,EM]
 rfl
end
def ZA (w:Wd):List Dd:=if wv w=true then LH w else []
def rsP (w:Wd):Wd:=(Gi w (ZA w)).2
theorem Vr (w:Wd):(ZA w).length≤1000:=by
 unfold ZA
 split
 ·rename_i h;exact Vs (kv.1 h)
 ·simp
theorem aaJ {w:Wd} (h:Sm w):ja w.b w.ls w.pts w.on w.earth w.pm w.br=some (ZA w):=ad0 w.b w.ls w.pts w.on w.earth w.pm w.br h.p h.o h.m h.b
theorem abw {w:Wd} (h:Sm w):jj w.b w.ls w.pts w.on w.earth w.pm w.br=some (ZA w):=aeD w.b w.ls w.pts w.on w.earth w.pm w.br h.p h.o h.m h.b
theorem WA (w:Wd):Sm (rsP w):=PQ (w:=w) (ZA w)
theorem ad7 {w:Wd} (h:Sm w):mn w.b w.ls w.pts w.on w.earth w.pm w.br=some (o7 (rsP w)):=by
 have hl:=Vr w
 unfold mn
 rw [aaJ h,Option.bind_some,Tt h (ZA w) (by omega)]
 rfl
theorem aeL {w:Wd} (h:Sm w):mI w.b w.ls w.pts w.on w.earth w.pm w.br=some (o7 (rsP w)):=by
 have hl:=Vr w
 unfold mI
 rw [abw h,Option.bind_some,Ue h (ZA w) (by omega)]
 rfl
structure Code (b:List Int):Prop where
 byte: ∀z∈b,0≤z∧z≤255
 len:b.length≤2000
theorem Code.at_ {b:List Int} (h:Code b) (k:Nat):0≤b.getD k 0∧b.getD k 0≤255:=by
 by_cases hk:k<b.length
 ·rw [ac hk];exact h.byte _ (List.getElem_mem hk)
 ·simp [List.getD,List.getElem?_eq_none (Nat.le_of_not_lt hk)]
def Ys {α:Type} (m:Option α) (P:α→Prop):Prop:= ∃r,m=some r∧P r
section
variable {α β γ:Type} {P Q:α→Prop} {m x y:Option α} {b g:Bool}
theorem vk {a:α} (h:P a):Ys (some a) P:=⟨a,rfl,h⟩
theorem Td {m:Option β} {f:β→Option α} {Q:β→Prop} (h:Ys m Q) (k: ∀b,Q b→Ys (f b) P):Ys (Option.bind m f) P:=by
 obtain ⟨b,rfl,h1⟩:=h
 exact k b h1
theorem Xn (h:b=true) (k:Ys m P):Ys (aj b m) P:=by subst h;exact k
theorem Ku (h1:b=true→Ys x P) (h2:b=false→Ys y P):Ys (bif b then x else y) P:=by
 cases b with
 |true=>exact h1 rfl
 |false=>exact h2 rfl
theorem Te {σ:Type} {R:α→Prop} (L:Nat→σ→Option α) (μ:σ→Nat) (I:σ→Prop) (hstep: ∀fuel s,I s→(∀s',I s'→μ s'<μ s→Ys (L fuel s') R)→Ys (L (fuel+1) s) R): ∀(fuel:Nat) (s:σ),I s→μ s<fuel→Ys (L fuel s) R:=by
 intro fuel
 induction fuel with
 |zero=>intro s _ h;omega
 |succ fuel ih=>intro s hs hm;exact hstep fuel s hs fun s' h1 h2=>ih s' h1 (by omega)
end
structure Sz (m:Nat) (w:Wd):Prop where
 ls:w.ls.length≤m
 pts:w.pts.length≤m
 on:w.on.length≤m
 earth:w.earth.length≤m
 pm:w.pm.length≤m
 br:w.br.length≤m
theorem Sz.mono {m n:Nat} {w:Wd} (h:Sz m w) (hm:m≤n):Sz n w:=by
 obtain ⟨h1,h2,h3,h4,h5,h6⟩:=h
 exact ⟨by omega,by omega,by omega,by omega,by omega,by omega⟩
theorem Sz.sm {w:Wd} (h:Sz 40 w):Sm w:=by
 obtain ⟨h1,h2,h3,h4,h5,h6⟩:=h
 exact ⟨by omega,by omega,by omega,by omega,by omega,by omega⟩
theorem bc (x0:List (Int×Int×Int)) (x1:Int) (hx0:x0.length≤9223372036854775807) (h0:0≤x1∧x1≤1048576):ph x0 x1=some (if x1<(x0.length:Int) then-1 else x1-((x0.length:Int))):=by
 simp (disch:=omega) [ph,aj,gb,ab,aO,Int.toNat_natCast,ac,Bool.cond_decide,af,aF,aq,yz,qZ]
 try (repeat' split)
 all_goals first |rfl |omega |(congr 1;omega)
theorem cB (x0:Int) (x1:List (Int×Int×Int)) (x2:Int) (hx1:x1.length≤9223372036854775807) (h0:0≤x2∧x2≤1048576):sn x0 x1 x2=some (if x2<(x1.length:Int) then-1 else x2-((x1.length:Int))):=by
 simp (disch:=omega) [sn,aj,gb,ab,aO,Int.toNat_natCast,ac,Bool.cond_decide,af,aF,aq,yz,qZ,bc]
 try (repeat' split)
 all_goals first |rfl |omega |(congr 1;omega)
theorem bK (x0:List (Int×Int)) (x1:Int) (hx0:x0.length≤9223372036854775807) (h0:0≤x1∧x1≤1048576):qo x0 x1=some (if x1<(x0.length:Int) then-1 else x1-((x0.length:Int))):=by
 simp (disch:=omega) [qo,aj,gb,ab,aO,Int.toNat_natCast,ac,Bool.cond_decide,af,aF,aq,yz,qZ,bc,cB]
 try (repeat' split)
 all_goals first |rfl |omega |(congr 1;omega)
theorem bm (x0:List Bool) (x1:Int) (hx0:x0.length≤9223372036854775807) (h0:0≤x1∧x1≤1048576):lW x0 x1=some (if x1<(x0.length:Int) then-1 else x1-((x0.length:Int))):=by
 simp (disch:=omega) [lW,aj,gb,ab,aO,Int.toNat_natCast,ac,Bool.cond_decide,af,aF,aq,yz,qZ,bc,cB,bK]
 try (repeat' split)
 all_goals first |rfl |omega |(congr 1;omega)
theorem aN (x0:List (Int×Int)) (x1:Int) (hx0:x0.length≤9223372036854775807) (h0:0≤x1∧x1≤1048576):mB x0 x1=some (if x1<(x0.length:Int) then-1 else x1-((x0.length:Int))):=by
 simp (disch:=omega) [mB,aj,gb,ab,aO,Int.toNat_natCast,ac,Bool.cond_decide,af,aF,aq,yz,qZ,bc,cB,bK,bm]
 try (repeat' split)
 all_goals first |rfl |omega |(congr 1;omega)
theorem bZ (x0:List Bool) (x1:List Bool) (x2:List (Int×Int)) (x3:Int) (hx0:x0.length≤9223372036854775807) (hx1:x1.length≤9223372036854775807) (hx2:x2.length≤9223372036854775807) (h0:0≤x3∧x3≤1048576):qq x0 x1 x2 x3=some (if x3<(x0.length:Int)+(x1.length:Int)+(x2.length:Int) then-1 else x3-((x0.length:Int)+(x1.length:Int)+(x2.length:Int))):=by
 simp (disch:=omega) [qq,aj,gb,ab,aO,Int.toNat_natCast,ac,Bool.cond_decide,af,aF,aq,yz,qZ,bc,cB,bK,bm,aN]
 try (repeat' split)
 all_goals first |rfl |omega |(congr 1;omega)
theorem cq (x0:List Int) (x1:Int) (hx0:x0.length≤9223372036854775807) (h0:0≤x1∧x1≤1048576):qp x0 x1=some (if x1<(x0.length:Int) then-1 else x1-((x0.length:Int))):=by
 simp (disch:=omega) [qp,aj,gb,ab,aO,Int.toNat_natCast,ac,Bool.cond_decide,af,aF,aq,yz,qZ,bc,cB,bK,bm,aN,bZ]
 try (repeat' split)
 all_goals first |rfl |omega |(congr 1;omega)
theorem bJ (x0:Int) (x1:List (Int×Int×Int)) (x2:List (Int×Int)) (x3:List Bool) (x4:List Bool) (x5:List (Int×Int)) (x6:List Int) (x7:Int) (hx1:x1.length≤9223372036854775807) (hx2:x2.length≤9223372036854775807) (hx3:x3.length≤9223372036854775807) (hx4:x4.length≤9223372036854775807) (hx5:x5.length≤9223372036854775807) (hx6:x6.length≤9223372036854775807) (h0:0≤x7∧x7≤1048576):pi x0 x1 x2 x3 x4 x5 x6 x7=some (if x7<(x1.length:Int)+(x2.length:Int)+(x3.length:Int)+(x4.length:Int)+(x5.length:Int)+(x6.length:Int) then-1 else x7-((x1.length:Int)+(x2.length:Int)+(x3.length:Int)+(x4.length:Int)+(x5.length:Int)+(x6.length:Int))):=by
 simp (disch:=omega) [pi,aj,gb,ab,aO,Int.toNat_natCast,ac,Bool.cond_decide,af,aF,aq,yz,qZ,bc,cB,bK,bm,aN,bZ,cq]
 try (repeat' split)
 all_goals first |rfl |omega |(congr 1;omega)
theorem cE (x0:Int) (x1:Int) (x2:Int):qu x0 x1 x2=some (x0,x1,x2):=by
 simp (disch:=omega) [qu,aj,gb,ab,aO,Int.toNat_natCast,ac,Bool.cond_decide,af,aF,aq,yz,qZ,bc,cB,bK,bm,aN,bZ,cq,bJ]
theorem bQ (x0:List (Int×Int×Int)) (hx0:x0.length≤1048576):pj x0=some x0:=by
 have h:=vj (lv x0) x0 (List.replicate x0.length ((0,0,0):Int×Int×Int)) (by simp) hx0 (fun fuel l j hj hl=>by simp (disch:=omega) [uw,jS,hj,hl,aj,gb,ab,aO,Int.toNat_natCast,ac,Bool.cond_decide,af,aF,aq,yz,qZ,bc,cB,bK,bm,aN,bZ,cq,bJ,cE]) (fun fuel l hl=>by simp [uw,jS,af])
 have hc:sF (x0.length:Int)=true:=by simp [sF];omega
 simp only [pj,hc,aa,h,Option.bind_some]
theorem jt (x0:Int) (x1:List (Int×Int×Int)) (hx1:x1.length≤1048576):sq x0 x1=some (x0,x1):=by
 simp (disch:=omega) [sq,aj,gb,ab,aO,Int.toNat_natCast,ac,Bool.cond_decide,af,aF,aq,yz,qZ,bc,cB,bK,bm,aN,bZ,cq,bJ,cE,bQ]
theorem kr (x0:Int) (x1:Int):sp x0 x1=some (x0,x1):=by
 simp (disch:=omega) [sp,aj,gb,ab,aO,Int.toNat_natCast,ac,Bool.cond_decide,af,aF,aq,yz,qZ,bc,cB,bK,bm,aN,bZ,cq,bJ,cE,bQ,jt]
theorem fC (x0:List (Int×Int)) (hx0:x0.length≤1048576):qs x0=some x0:=by
 have h:=vj (mD x0) x0 (List.replicate x0.length ((0,0):Int×Int)) (by simp) hx0 (fun fuel l j hj hl=>by simp (disch:=omega) [vV,lr,hj,hl,aj,gb,ab,aO,Int.toNat_natCast,ac,Bool.cond_decide,af,aF,aq,yz,qZ,bc,cB,bK,bm,aN,bZ,cq,bJ,cE,bQ,jt,kr]) (fun fuel l hl=>by simp [vV,lr,af])
 have hc:sF (x0.length:Int)=true:=by simp [sF];omega
 simp only [qs,hc,aa,h,Option.bind_some]
theorem du (x0:List Bool) (hx0:x0.length≤1048576):lY x0=some x0:=by
 have h:=vj (lq x0) x0 (List.replicate x0.length false) (by simp) hx0 (fun fuel l j hj hl=>by simp (disch:=omega) [uu,jR,hj,hl,aj,gb,ab,aO,Int.toNat_natCast,ac,Bool.cond_decide,af,aF,aq,yz,qZ,bc,cB,bK,bm,aN,bZ,cq,bJ,cE,bQ,jt,kr,fC]) (fun fuel l hl=>by simp [uu,jR,af])
 have hc:sF (x0.length:Int)=true:=by simp [sF];omega
 simp only [lY,hc,aa,h,Option.bind_some]
theorem cw (x0:Int) (x1:Int):nM x0 x1=some (x0,x1):=by
 simp (disch:=omega) [nM,aj,gb,ab,aO,Int.toNat_natCast,ac,Bool.cond_decide,af,aF,aq,yz,qZ,bc,cB,bK,bm,aN,bZ,cq,bJ,cE,bQ,jt,kr,fC,du]
theorem bV (x0:List (Int×Int)) (hx0:x0.length≤1048576):mF x0=some x0:=by
 have h:=vj (iP x0) x0 (List.replicate x0.length ((0,0):Int×Int)) (by simp) hx0 (fun fuel l j hj hl=>by simp (disch:=omega) [rO,gx,hj,hl,aj,gb,ab,aO,Int.toNat_natCast,ac,Bool.cond_decide,af,aF,aq,yz,qZ,bc,cB,bK,bm,aN,bZ,cq,bJ,cE,bQ,jt,kr,fC,du,cw]) (fun fuel l hl=>by simp [rO,gx,af])
 have hc:sF (x0.length:Int)=true:=by simp [sF];omega
 simp only [mF,hc,aa,h,Option.bind_some]
theorem lI (x0:List Bool) (x1:List Bool) (x2:List (Int×Int)) (hx0:x0.length≤1048576) (hx1:x1.length≤1048576) (hx2:x2.length≤1048576):qv x0 x1 x2=some (x0,x1,x2):=by
 simp (disch:=omega) [qv,aj,gb,ab,aO,Int.toNat_natCast,ac,Bool.cond_decide,af,aF,aq,yz,qZ,bc,cB,bK,bm,aN,bZ,cq,bJ,cE,bQ,jt,kr,fC,du,cw,bV]
theorem mO (x0:List Int) (hx0:x0.length≤1048576):qt x0=some x0:=by
 have h:=vj (mE x0) x0 (List.replicate x0.length (0:Int)) (by simp) hx0 (fun fuel l j hj hl=>by simp (disch:=omega) [vW,lu,hj,hl,aj,gb,ab,aO,Int.toNat_natCast,ac,Bool.cond_decide,af,aF,aq,yz,qZ,bc,cB,bK,bm,aN,bZ,cq,bJ,cE,bQ,jt,kr,fC,du,cw,bV,lI]) (fun fuel l hl=>by simp [vW,lu,af])
 have hc:sF (x0.length:Int)=true:=by simp [sF];omega
 simp only [qt,hc,aa,h,Option.bind_some]
theorem kH (x0:Int) (x1:List (Int×Int×Int)) (x2:List (Int×Int)) (x3:List Bool) (x4:List Bool) (x5:List (Int×Int)) (x6:List Int) (hx1:x1.length≤1048576) (hx2:x2.length≤1048576) (hx3:x3.length≤1048576) (hx4:x4.length≤1048576) (hx5:x5.length≤1048576) (hx6:x6.length≤1048576):fa x0 x1 x2 x3 x4 x5 x6=some (x0,x1,x2,x3,x4,x5,x6):=by
 simp (disch:=omega) [fa,aj,gb,ab,aO,Int.toNat_natCast,ac,Bool.cond_decide,af,aF,aq,yz,qZ,bc,cB,bK,bm,aN,bZ,cq,bJ,cE,bQ,jt,kr,fC,du,cw,bV,lI,mO]
theorem oA (x0:Int) (x1:Int) (x2:Int):qm x0 x1 x2 x0 x1 x2=some true:=by
 simp (disch:=omega) [qm,aj,gb,ab,aO,Int.toNat_natCast,ac,Bool.cond_decide,af,aF,aq,yz,qZ,bc,cB,bK,bm,aN,bZ,cq,bJ,cE,bQ,jt,kr,fC,du,cw,bV,lI,mO,kH]
theorem nc (x0:List (Int×Int×Int)) (hx0:x0.length≤1048576):pf x0 x0=some true:=by
 have h:=Ft (lj x0 x0) x0.length hx0 (some (.inl ())) (fun fuel j hj=>by simp (disch:=omega) [ut,jK,hj,aj,gb,ab,aO,Int.toNat_natCast,ac,Bool.cond_decide,af,aF,aq,yz,qZ,bc,cB,bK,bm,aN,bZ,cq,bJ,cE,bQ,jt,kr,fC,du,cw,bV,lI,mO,kH,oA]) (fun fuel=>by simp [ut,jK,af])
 simp [pf,h]
theorem xo (x0:Int) (x1:List (Int×Int×Int)) (hx1:x1.length≤1048576):sk x0 x1 x0 x1=some true:=by
 simp (disch:=omega) [sk,aj,gb,ab,aO,Int.toNat_natCast,ac,Bool.cond_decide,af,aF,aq,yz,qZ,bc,cB,bK,bm,aN,bZ,cq,bJ,cE,bQ,jt,kr,fC,du,cw,bV,lI,mO,kH,oA,nc]
theorem yT (x0:Int) (x1:Int):sj x0 x1 x0 x1=some true:=by
 simp (disch:=omega) [sj,aj,gb,ab,aO,Int.toNat_natCast,ac,Bool.cond_decide,af,aF,aq,yz,qZ,bc,cB,bK,bm,aN,bZ,cq,bJ,cE,bQ,jt,kr,fC,du,cw,bV,lI,mO,kH,oA,nc,xo]
theorem xn (x0:List (Int×Int)) (hx0:x0.length≤1048576):qk x0 x0=some true:=by
 have h:=Ft (mr x0 x0) x0.length hx0 (some (.inl ())) (fun fuel j hj=>by simp (disch:=omega) [vT,lh,hj,aj,gb,ab,aO,Int.toNat_natCast,ac,Bool.cond_decide,af,aF,aq,yz,qZ,bc,cB,bK,bm,aN,bZ,cq,bJ,cE,bQ,jt,kr,fC,du,cw,bV,lI,mO,kH,oA,nc,xo,yT]) (fun fuel=>by simp [vT,lh,af])
 simp [qk,h]
theorem wb (x0:List Bool) (hx0:x0.length≤1048576):lV x0 x0=some true:=by
 have h:=Ft (ld x0 x0) x0.length hx0 (some (.inl ())) (fun fuel j hj=>by simp (disch:=omega) [uq,jJ,hj,aj,gb,ab,aO,Int.toNat_natCast,ac,Bool.cond_decide,af,aF,aq,yz,qZ,bc,cB,bK,bm,aN,bZ,cq,bJ,cE,bQ,jt,kr,fC,du,cw,bV,lI,mO,kH,oA,nc,xo,yT,xn]) (fun fuel=>by simp [uq,jJ,af])
 simp [lV,h]
theorem wd (x0:Int) (x1:Int):nH x0 x1 x0 x1=some true:=by
 simp (disch:=omega) [nH,aj,gb,ab,aO,Int.toNat_natCast,ac,Bool.cond_decide,af,aF,aq,yz,qZ,bc,cB,bK,bm,aN,bZ,cq,bJ,cE,bQ,jt,kr,fC,du,cw,bV,lI,mO,kH,oA,nc,xo,yT,xn,wb]
theorem xp (x0:List (Int×Int)) (hx0:x0.length≤1048576):mv x0 x0=some true:=by
 have h:=Ft (iF x0 x0) x0.length hx0 (some (.inl ())) (fun fuel j hj=>by simp (disch:=omega) [rI,gm,hj,aj,gb,ab,aO,Int.toNat_natCast,ac,Bool.cond_decide,af,aF,aq,yz,qZ,bc,cB,bK,bm,aN,bZ,cq,bJ,cE,bQ,jt,kr,fC,du,cw,bV,lI,mO,kH,oA,nc,xo,yT,xn,wb,wd]) (fun fuel=>by simp [rI,gm,af])
 simp [mv,h]
theorem MF (x0:List Bool) (x1:List Bool) (x2:List (Int×Int)) (hx0:x0.length≤1048576) (hx1:x1.length≤1048576) (hx2:x2.length≤1048576):qn x0 x1 x2 x0 x1 x2=some true:=by
 simp (disch:=omega) [qn,aj,gb,ab,aO,Int.toNat_natCast,ac,Bool.cond_decide,af,aF,aq,yz,qZ,bc,cB,bK,bm,aN,bZ,cq,bJ,cE,bQ,jt,kr,fC,du,cw,bV,lI,mO,kH,oA,nc,xo,yT,xn,wb,wd,xp]
theorem RQ (x0:List Int) (hx0:x0.length≤1048576):ql x0 x0=some true:=by
 have h:=Ft (mt x0 x0) x0.length hx0 (some (.inl ())) (fun fuel j hj=>by simp (disch:=omega) [vU,li,hj,aj,gb,ab,aO,Int.toNat_natCast,ac,Bool.cond_decide,af,aF,aq,yz,qZ,bc,cB,bK,bm,aN,bZ,cq,bJ,cE,bQ,jt,kr,fC,du,cw,bV,lI,mO,kH,oA,nc,xo,yT,xn,wb,wd,xp,MF]) (fun fuel=>by simp [vU,li,af])
 simp [ql,h]
theorem Vd (x0:Int) (x1:List (Int×Int×Int)) (x2:List (Int×Int)) (x3:List Bool) (x4:List Bool) (x5:List (Int×Int)) (x6:List Int) (hx1:x1.length≤1048576) (hx2:x2.length≤1048576) (hx3:x3.length≤1048576) (hx4:x4.length≤1048576) (hx5:x5.length≤1048576) (hx6:x6.length≤1048576):eW x0 x1 x2 x3 x4 x5 x6 x0 x1 x2 x3 x4 x5 x6=some true:=by
 simp (disch:=omega) [eW,aj,gb,ab,aO,Int.toNat_natCast,ac,Bool.cond_decide,af,aF,aq,yz,qZ,bc,cB,bK,bm,aN,bZ,cq,bJ,cE,bQ,jt,kr,fC,du,cw,bV,lI,mO,kH,oA,nc,xo,yT,xn,wb,wd,xp,MF,RQ]
def xz (q:Int):Int×Int×Int:=(q,(q+1),(q+2))
theorem QH (x0:List (Int×Int×Int)) (x1:Int) (hx0:x0.length≤1048576) (hk:0≤x1∧x1≤33554432):mz x0 x1=some (x1+3*(x0.length:Int),bC xz 3 x1 x0.length):=by
 have h:=sE (iN x0) xz 3 (by decide) x0 x1 hx0 hk (fun fuel l q j hj hl h0 h1=>by simp (disch:=omega) [rN,gw,hj,hl,xz,Int.add_assoc,aj,gb,ab,aO,Int.toNat_natCast,ac,Bool.cond_decide,af,aF,aq,yz,qZ]) (fun fuel l q hl=>by simp [rN,gw,af])
 simp [mz,h]
def EC (q:Int):Int×Int:=(q,(q+1))
theorem TC (x0:List (Int×Int)) (x1:Int) (hx0:x0.length≤1048576) (hk:0≤x1∧x1≤33554432):nK x0 x1=some (x1+2*(x0.length:Int),bC EC 2 x1 x0.length):=by
 have h:=sE (jO x0) EC 2 (by decide) x0 x1 hx0 hk (fun fuel l q j hj hl h0 h1=>by simp (disch:=omega) [te,iL,hj,hl,EC,Int.add_assoc,aj,gb,ab,aO,Int.toNat_natCast,ac,Bool.cond_decide,af,aF,aq,yz,qZ]) (fun fuel l q hl=>by simp [te,iL,af])
 simp [nK,h]
def xy (q:Int):Bool:=(Int.tmod q 3==0)
theorem QG (x0:List Bool) (x1:Int) (hx0:x0.length≤1048576) (hk:0≤x1∧x1≤33554432):jg x0 x1=some (x1+1*(x0.length:Int),bC xy 1 x1 x0.length):=by
 have h:=sE (iK x0) xy 1 (by decide) x0 x1 hx0 hk (fun fuel l q j hj hl h0 h1=>by simp (disch:=omega) [rM,gu,hj,hl,xy,Int.add_assoc,aj,gb,ab,aO,Int.toNat_natCast,ac,Bool.cond_decide,af,aF,aq,yz,qZ]) (fun fuel l q hl=>by simp [rM,gu,af])
 simp [jg,h]
def pX (q:Int):Int×Int:=(q,(q+1))
theorem MU (x0:List (Int×Int)) (x1:Int) (hx0:x0.length≤1048576) (hk:0≤x1∧x1≤33554432):jQ x0 x1=some (x1+2*(x0.length:Int),bC pX 2 x1 x0.length):=by
 have h:=sE (fo x0) pX 2 (by decide) x0 x1 hx0 hk (fun fuel l q j hj hl h0 h1=>by simp (disch:=omega) [pM,ew,hj,hl,pX,Int.add_assoc,aj,gb,ab,aO,Int.toNat_natCast,ac,Bool.cond_decide,af,aF,aq,yz,qZ]) (fun fuel l q hl=>by simp [pM,ew,af])
 simp [jQ,h]
def ED (q:Int):Int:=q
theorem TD (x0:List Int) (x1:Int) (hx0:x0.length≤1048576) (hk:0≤x1∧x1≤33554432):nL x0 x1=some (x1+1*(x0.length:Int),bC ED 1 x1 x0.length):=by
 have h:=sE (jP x0) ED 1 (by decide) x0 x1 hx0 hk (fun fuel l q j hj hl h0 h1=>by simp (disch:=omega) [tg,iM,hj,hl,ED,Int.add_assoc,aj,gb,ab,aO,Int.toNat_natCast,ac,Bool.cond_decide,af,aF,aq,yz,qZ]) (fun fuel l q hl=>by simp [tg,iM,af])
 simp [nL,h]
theorem Qz (n:Nat) (k:Int) (hn:n≤1048576) (hk:0≤k∧k≤33554432):mw (bC xz 3 k n) k=some (k+3*(n:Int)):=by
 have h:=sC (iJ (bC xz 3 k n)) xz 3 (by decide) n k hn hk (fun fuel q j hj hq h0 h1=>by simp (disch:=omega) [rL,gr,hj,hq,bU,xz,Int.add_assoc,aj,gb,ab,aO,Int.toNat_natCast,af,aF,aq]) (fun fuel q=>by simp [rL,gr,bU,af])
 simp [mw,h]
theorem Tr (n:Nat) (k:Int) (hn:n≤1048576) (hk:0≤k∧k≤33554432):nI (bC EC 2 k n) k=some (k+2*(n:Int)):=by
 have h:=sC (jL (bC EC 2 k n)) EC 2 (by decide) n k hn hk (fun fuel q j hj hq h0 h1=>by simp (disch:=omega) [ta,iH,hj,hq,bU,EC,Int.add_assoc,aj,gb,ab,aO,Int.toNat_natCast,af,aF,aq]) (fun fuel q=>by simp [ta,iH,bU,af])
 simp [nI,h]
theorem Qy (n:Nat) (k:Int) (hn:n≤1048576) (hk:0≤k∧k≤33554432):jf (bC xy 1 k n) k=some (k+1*(n:Int)):=by
 have h:=sC (iG (bC xy 1 k n)) xy 1 (by decide) n k hn hk (fun fuel q j hj hq h0 h1=>by simp (disch:=omega) [rK,gq,hj,hq,bU,xy,Int.add_assoc,aj,gb,ab,aO,Int.toNat_natCast,af,aF,aq]) (fun fuel q=>by simp [rK,gq,bU,af])
 simp [jf,h]
theorem MK (n:Nat) (k:Int) (hn:n≤1048576) (hk:0≤k∧k≤33554432):jN (bC pX 2 k n) k=some (k+2*(n:Int)):=by
 have h:=sC (fm (bC pX 2 k n)) pX 2 (by decide) n k hn hk (fun fuel q j hj hq h0 h1=>by simp (disch:=omega) [pK,er,hj,hq,bU,pX,Int.add_assoc,aj,gb,ab,aO,Int.toNat_natCast,af,aF,aq]) (fun fuel q=>by simp [pK,er,bU,af])
 simp [jN,h]
theorem Ts (n:Nat) (k:Int) (hn:n≤1048576) (hk:0≤k∧k≤33554432):nJ (bC ED 1 k n) k=some (k+1*(n:Int)):=by
 have h:=sC (jM (bC ED 1 k n)) ED 1 (by decide) n k hn hk (fun fuel q j hj hq h0 h1=>by simp (disch:=omega) [tc,iI,hj,hq,bU,ED,Int.add_assoc,aj,gb,ab,aO,Int.toNat_natCast,af,aF,aq]) (fun fuel q=>by simp [tc,iI,bU,af])
 simp [nJ,h]
theorem aec (w:Wd) (h:Sm w):bf w.b w.ls w.pts w.on w.earth w.pm w.br=some (wv w):=iWv w.b w.ls w.pts w.on w.earth w.pm w.br h.p h.o h.m h.b
theorem aeP (w:Wd) (h:Sm w):bg w.b w.ls w.pts w.on w.earth w.pm w.br=some (wv w):=sWv w.b w.ls w.pts w.on w.earth w.pm w.br h.p h.o h.m h.b
def ch (b:Bool):UInt8:=if b then 49 else 48
def rx (l:List Bool):ByteArray:=⟨(l.map ch).toArray⟩
def EL (l:List Bool):ByteArray:=if l.length≤10 then rx l else ⟨#[]⟩
theorem aai {a b:ByteArray} (h:a.data.toList=b.data.toList):a=b:=by
 cases a;cases b
 simp at h
 rw [ByteArray.mk.injEq]
 exact h
theorem Uf (s:ByteArray):s.data.toList.length=s.size:=by simp
theorem Hp (l:List Bool):(rx l).data.toList=l.map ch:=by simp [rx]
theorem Uo (l:List Bool):(rx l).size=l.length:=by rw [←Uf,Hp];simp
def num (b:Bool):Int:=if b then 49 else 48
theorem TK (l:List Bool):strOfNums (l.map num)=rx l:=by
 unfold strOfNums rx
 rw [List.map_map]
 have:((fun n:Int=>UInt8.ofNat n.toNat)∘num)=ch:=funext fun b=>by cases b<;>rfl
 rw [this]
theorem iSt (l:List Bool) (hl:l.length≤1000):jb l=some (EL l):=by
 unfold jb EL
 by_cases h:l.length≤10
 ·rw [if_pos h,show af 10 (l.length:Int)=false from decide_eq_false (by omega),show sF (l.length:Int)=true from decide_eq_true (by omega)]
  have hh:=vj (ir l) (l.map num) (List.replicate l.length 0) (by simp) (by simp;omega) (fun fuel x j hj hx=>by
   have hj':j<l.length:=by simpa using hj
   rw [rC,fW]
   simp only [au hj',ae hj',aa,cond_true,Int.toNat_natCast,ab (by omega:j<4611686018427387904),ac hj',List.getElem_map]
   cases l[j]<;>rfl) (fun fuel x hx=>by rw [rC,fW];simp [ak])
  simp only [cond_false,aa]
  rw [hh,←TK];rfl
 ·rw [if_neg h,show af 10 (l.length:Int)=true from decide_eq_true (by omega)];rfl
theorem Uq (l:List Bool) (b:Bool):rx l++⟨#[ch b]⟩=rx (l++ [b]):=by
 apply aai
 rw [Hp,ByteArray.data_append,Array.toList_append,Hp]
 simp
theorem sSt (l:List Bool) (hl:l.length≤1000):mH l=some (EL l):=by
 unfold mH EL
 by_cases h:l.length≤10
 ·rw [if_pos h]
  have hh:=av (cv l) (fun k=>(rx (l.take k),(k:Int))) l.length (some (rx l)) (by omega) (fun k fuel hk=>by
   rw [mT,dj]
   have c1:aF (l.length:Int) 10=true:=decide_eq_true (by omega)
   have hs:(rx (l.take k)).size=k:=by rw [Uo];simp;omega
   have c2: ∀c:UInt8,Kv (rx (l.take k)).size ({data:= #[c]}:ByteArray).size=true:=fun c=>decide_eq_true (by rw [hs];show k+1≤_;omega)
   simp only [au hk,ae hk,c1,c2,Bool.and_self,aa,cond_true,Int.toNat_natCast,ab (by omega:k<4611686018427387904),ac hk]
   rw [List.take_succ_eq_append_getElem hk,←Uq]
   cases l[k]<;>rfl) (fun fuel=>by rw [mT,dj];simp [ak])
  rw [show cv l ah (({data:= #[]}:ByteArray),0)=_ from hh];rfl
 ·rw [if_neg h]
  have hh:cv l ah (({data:= #[]}:ByteArray),0)=some ⟨#[]⟩:=by
   have:ah=(ah-1)+1:=by rw [ER]
   rw [this,mT,dj]
   have c1:aF (l.length:Int) 10=false:=decide_eq_false (by omega)
   simp only [c1,Bool.and_false,cond_false]
  rw [hh];rfl
section
variable {b:List Int} (hb: ∀z∈b,inU z)
include hb
end
end Go.Proofs.YtjdlgannencchaaGreatDoor
namespace Go.Proofs.YtjdlgannencchaaGreatDoor
open Go.Lib
set_option linter.unusedVariables false
set_option linter.unusedSimpArgs false
theorem MI {w:Wd} (ok:WdOk w) (k:Nat):0≤fI w.ls w.on w.pts k∧fI w.ls w.on w.pts k<1000000:=by
 have hB:=ok.bus.net.b1
 have hl:=ok.bus.lp
 have key: ∀n,n≤w.pts.length→ ∀p:Nat→Bool,0≤((List.range n).map fun b=>if p b=true then (w.pts.getD b (0,0)).2 else 0).sum∧((List.range n).map fun b=>if p b=true then (w.pts.getD b (0,0)).2 else 0).sum≤999*n:=by
  intro n
  induction n with
  |zero=>intro _ p;simp
  |succ n ih=>
   intro hn p
   have:=ih (by omega) p
   have h2:=(ok.bus.bs n (by omega)).2
   rw [List.range_succ,List.map_append,List.sum_append]
   simp only [List.map_cons,List.map_nil,List.sum_cons,List.sum_nil]
   split<;>omega
 have:=key w.pts.length (Nat.le_refl _) fun b=>ie (aw w.ls w.on) w.pts b&& !ie (aw w.ls (w.on.set k false)) w.pts b
 unfold fI
 omega
def xx (w:Wd) (n:Int):Int:=if 0≤n∧n<(w.ls.length:Int) then fI w.ls w.on w.pts n.toNat else-1
theorem QS {w:Wd} (ok:WdOk w):wZ w.b w.ls w.on w.pts=true:=by
 unfold wZ;rw [fB.2 ⟨⟨ok.bus.net,ok.len⟩,ok.bus⟩,ok.rad];rfl
theorem WU {w:Wd} (ok:WdOk w):StOk (w.pts.length:Int) w.ls w.on∧BusOk (w.pts.length:Int) w.ls w.pts:=by
 have hl:=ok.bus.lp
 exact ⟨⟨by rw [hl];exact ok.bus.net,ok.len⟩,by rw [hl];exact ok.bus⟩
theorem adX {w:Wd} (ok:WdOk w) (n:Int):nz w.b w.ls w.on w.pts n=some (xx w n):=by
 obtain ⟨r,r1,r2,r3⟩:=VE w.b w.ls w.on w.pts (yA ok).p
 rw [QS ok] at r2
 obtain ⟨g1,g2,ord,g3,T⟩:=r3 (QS ok)
 obtain ⟨h1,h2⟩:=WU ok
 unfold nz xx
 rw [r1,Option.bind_some,r2]
 simp only [bd,Bool.not_true,Bool.not_false,Bool.false_or,cd,Option.bind_some]
 by_cases hn:0≤n∧n<(w.ls.length:Int)
 ·obtain ⟨k,rfl⟩: ∃k:Nat,n=k:=⟨n.toNat,by omega⟩
  have hk:k<w.ls.length:=by omega
  rw [show (aF 0 (k:Int)&&af (k:Int) (w.ls.length:Int))=true by unfold aF af;simp;omega,if_pos hn,g1,g2,g3,show ifL true w.ls=w.ls from rfl,←ok.bus.lp,Vx h1 h2 ok.rad T]
  simp only [Bool.not_true,cond_false,Option.bind_some,pB,ae hk,aa,Int.toNat_natCast,kq hk]
 ·rw [show (aF 0 n&&af n (w.ls.length:Int))=false by unfold aF af;rw [Bool.eq_false_iff];simp;omega,if_neg hn];rfl
theorem aeB {w:Wd} (ok:WdOk w) (n:Int):nO w.b w.ls w.on w.pts n=some (xx w n):=by
 obtain ⟨h1,h2⟩:=WU ok
 have hl:=ok.len;have h0:=ok.work.l0;have h10:=ok.work.l1
 have h0:1≤w.on.length:=h0
 have h10:w.on.length≤10:=h10
 unfold nO xx
 rw [IB w.b w.ls w.on w.pts (yA ok).p,Option.bind_some,QS ok]
 simp only [am,Bool.not_true,Bool.not_false,Bool.false_or,cd,Option.bind_some]
 rw [aO (by omega)]
 by_cases hn:0≤n∧n<(w.ls.length:Int)
 ·obtain ⟨k,rfl⟩: ∃k:Nat,n=k:=⟨n.toNat,by omega⟩
  have hk:k<w.ls.length:=by omega
  rw [show (aF 0 (k:Int)&&aF (k:Int) ((w.on.length:Int)-1))=true by unfold aF;simp;omega,if_pos hn,←ok.bus.lp,WM h1 h2 ok.rad]
  simp only [Bool.not_true,cond_false,Option.bind_some,pB,ae hk,aa,Int.toNat_natCast,kq hk]
 ·rw [show (aF 0 n&&aF n ((w.on.length:Int)-1))=false by unfold aF;rw [Bool.eq_false_iff];simp;omega,if_neg hn];rfl
theorem aeb {w:Wd} (ok:WdOk w):fV w.b w.ls w.on w.pts=some (aC (aw w.ls w.on) w.pts):=by
 unfold fV
 rw [Yk _ w.ls w.pts (yA ok).p,fB.2 ⟨⟨ok.bus.net,ok.len⟩,ok.bus⟩,Option.bind_some,cond_true,Sb ⟨ok.bus.net,ok.len⟩ ok.bus];rfl
theorem aeO {w:Wd} (ok:WdOk w):cj w.b w.ls w.on w.pts=some (aC (aw w.ls w.on) w.pts):=by
 obtain ⟨h1,h2⟩:=WU ok
 rw [←ok.bus.lp];exact ST h1 h2
theorem iDk {w:Wd} (ok:WdOk w):eJ w.b w.ls w.pts w.on w.earth w.pm w.br=some (zl (Fm w)):=by
 have h:=yA ok
 rw [adV w.b w.ls w.pts w.on w.earth w.pm w.br h.p h.o h.m h.b,if_pos (kv.2 ok)]
theorem sDk {w:Wd} (ok:WdOk w):jn w.b w.ls w.pts w.on w.earth w.pm w.br=some (zl (Fm w)):=by
 have h:=yA ok
 rw [aeA w.b w.ls w.pts w.on w.earth w.pm w.br h.p h.o h.m h.b,if_pos (kv.2 ok)]
theorem Zy {w:Wd} (ok:WdOk w):(zl (Fm w)).length≤1000∧ ∀x∈zl (Fm w),0≤x∧x<1000000:=by
 have hB:=ok.bus.net.b1;have hl:=ok.bus.lp
 constructor
 ·have:(Fm w).length≤(List.range w.pts.length).length:=List.length_filter_le _ _
  rw [bR];simp at this;omega
 ·intro x hx
  obtain ⟨k,hk,rfl⟩:=List.mem_map.1 hx
  have:k<w.pts.length:=by simpa [Fm] using (List.mem_filter.1 hk).1
  omega
theorem Zw {w:Wd} (ok:WdOk w):w.br.length≤1000∧ ∀x∈w.br,0≤x∧x<1000000:=by
 have h10:w.on.length≤10:=ok.work.l1
 exact ⟨by have:=Zv ok;omega,fun x hx=>by have:=(ok.inn x hx).1;omega⟩
def PP:List UInt8:=[119,104,97,116]
def wOk:List UInt8:=[111,107]
def wNo:List UInt8:=[110,111]
def xc:List UInt8:=[104,101,97,108]
def tR:List UInt8:=[102,108,111,119]
def tS:List UInt8:=[115,116,97,116,101]
def pE:List UInt8:=[115,101,114,118,101,100]
def zX:List UInt8:=[100,97,114,107]
def pD:List UInt8:=[98,114,111,107,101,110]
def Kp:List UInt8:=[110,101,116]
theorem sL (l:List UInt8):({data:=l.toArray}:ByteArray).toList=l:=mZ l
def Mo (w:Wd) (l:List UInt8):List UInt8:=
 bif l==tS then tl (EL w.on) else bif l==pE then Dt (aC (aw w.ls w.on) w.pts) else bif l==zX then LQ (zl (Fm w)) else bif l==pD then LQ w.br else bif l==Kp then VW w.b w.ls else PP
def Oy (w:Wd) (n:Int):List UInt8:=if 0≤n then (if n<(w.ls.length:Int) then Dt (fI w.ls w.on w.pts n.toNat) else wNo) else PP
def om (w:Wd) (l:List UInt8):List UInt8:=match eG 32 l with
 | [a,n]=>bif a==tR then Oy w (bh n) else Mo w l
 |_=>Mo w l
theorem aei (l:List UInt8) (hl:l.length≤1048576):dp ((eG 32 l).map aW) ({data:= #[32]}:ByteArray)=some (aW l):=by
 have hm:((eG 32 l).map aW).map (·.data.toList)=eG 32 l:=by
  rw [List.map_map];conv=>rhs;rw [←List.map_id (eG 32 l)]
  exact List.map_congr_left fun a _=>lN a
 have hs:(({data:= #[32]}:ByteArray)).data.toList=[32]:=rfl
 have hlen:(eG 32 l).length≤1048577:=by
  rw [yJ];have:=List.count_le_length (a:=(32:UInt8)) (l:=l);omega
 unfold dp
 rw [hm,hs,LM,List.length_map,decide_eq_true (by omega)];rfl
theorem agc {w:Wd} (ok:WdOk w) (l:List UInt8):(bif l==({data:= #[115,116,97,116,101]}:ByteArray).toList then Option.bind (jb w.on) (fun p=>some p) else (bif l==({data:= #[115,101,114,118,101,100]}:ByteArray).toList then Option.bind (fV w.b w.ls w.on w.pts) (fun p=>Option.bind (bH p) (fun q=>some q)) else (bif l==({data:= #[100,97,114,107]}:ByteArray).toList then Option.bind (eJ w.b w.ls w.pts w.on w.earth w.pm w.br) (fun p=>Option.bind (dF p) (fun q=>some q)) else (bif l==({data:= #[98,114,111,107,101,110]}:ByteArray).toList then Option.bind (dF w.br) (fun p=>some p) else (bif l==({data:= #[110,101,116]}:ByteArray).toList then Option.bind (cX w.b w.ls) (fun p=>some p) else some ({data:= #[119,104,97,116]}:ByteArray))))))=some (aW (Mo w l)):=by
 have h10:w.on.length≤10:=ok.work.l1
 have hs:=ra ok.bus (aw w.ls w.on)
 obtain ⟨d1,d2⟩:=Zy ok
 obtain ⟨b1,b2⟩:=Zw ok
 have e1:({data:= #[115,116,97,116,101]}:ByteArray).toList=tS:=sL tS
 have e2:({data:= #[115,101,114,118,101,100]}:ByteArray).toList=pE:=sL pE
 have e3:({data:= #[100,97,114,107]}:ByteArray).toList=zX:=sL zX
 have e4:({data:= #[98,114,111,107,101,110]}:ByteArray).toList=pD:=sL pD
 have e5:({data:= #[110,101,116]}:ByteArray).toList=Kp:=sL Kp
 rw [e1,e2,e3,e4,e5,iSt w.on (by omega),aeb ok,iDk ok,ZD b1 b2,ad5]
 simp only [Option.bind_some]
 rw [VK (by omega),ZD d1 d2]
 simp only [Option.bind_some]
 unfold Mo
 rw [←vI (EL w.on)]
 cases l==tS<;>cases l==pE<;>cases l==zX<;>cases l==pD<;>cases l==Kp<;>rfl
theorem agl {w:Wd} (ok:WdOk w) (l:List UInt8):qx w.b w.ls w.pts w.on w.earth w.pm w.br (aW l)=some (aW (Mo w l)):=by
 have h10:w.on.length≤10:=ok.work.l1
 have hs:=ra ok.bus (aw w.ls w.on)
 obtain ⟨d1,d2⟩:=Zy ok
 obtain ⟨b1,b2⟩:=Zw ok
 have e1:({data:= #[115,116,97,116,101]}:ByteArray).toList=tS:=sL tS
 have e2:({data:= #[115,101,114,118,101,100]}:ByteArray).toList=pE:=sL pE
 have e3:({data:= #[100,97,114,107]}:ByteArray).toList=zX:=sL zX
 have e4:({data:= #[98,114,111,107,101,110]}:ByteArray).toList=pD:=sL pD
 have e5:({data:= #[110,101,116]}:ByteArray).toList=Kp:=sL Kp
 unfold qx
 rw [mZ,e1,e2,e3,e4,e5,sSt w.on (by omega),aeO ok,sDk ok,ZS b1 b2,aeI]
 simp only [Option.bind_some]
 rw [QL (by omega),ZS d1 d2]
 simp only [Option.bind_some]
 unfold Mo
 rw [←vI (EL w.on)]
 cases l==tS<;>cases l==pE<;>cases l==zX<;>cases l==pD<;>cases l==Kp<;>rfl
theorem Yi {w:Wd} (ok:WdOk w) (l:List UInt8) (hl:l.length≤1048576):iz w.b w.ls w.pts w.on w.earth w.pm w.br ((eG 32 l).map aW)=some (aW (om w l)):=by
 unfold iz om
 have hj:=aei l hl
 have hask:=agc ok l
 have e1:({data:= #[102,108,111,119]}:ByteArray).toList=tR:=sL tR
 rw [hj,e1]
 simp only [Option.bind_some,mZ]
 rw [hask]
 cases hc:eG 32 l with
 |nil=>exact absurd hc (EX 32 l)
 |cons a r=>
  cases r with
  |nil=>rfl
  |cons n r=>
   cases r with
   |cons y r=>
    have:(((a::n::y::r).map aW).length:Int)==2↔False:=by simp;omega
    have h2:((((a::n::y::r).map aW).length:Int)==2)=false:=by rw [beq_eq_false_iff_ne];simp;omega
    rw [h2];rfl
   |nil=>
    have h2:((([a,n].map aW).length:Int)==2)=true:=rfl
    have h3:([a,n].map aW).getD ((0:Int).toNat) ByteArray.empty=aW a:=rfl
    have h4:([a,n].map aW).getD ((1:Int).toNat) ByteArray.empty=aW n:=rfl
    have h5: ∀i:Int,i=0∨i=1→aq i ([a,n].map aW).length=true:=fun i hi=>decide_eq_true (by rcases hi with rfl |rfl<;>simp)
    rw [h2,h3,h4,h5 0 (.inl rfl),h5 1 (.inr rfl),Fw,Hq]
    simp only [Bool.true_and,Bool.not_true,Bool.false_or,aa,mZ,Option.bind_some]
    cases hf:a==tR with
    |false=>simp only [cond_false]
    |true=>
     simp only [cond_true]
     unfold Oy
     have hb:=SC n
     by_cases h:0≤bh n
     ·rw [decide_eq_true h,cond_true,if_pos h,yR h]
      simp only [bd,Option.bind_some]
      by_cases hk:bh n<(w.ls.length:Int)
      ·have hfl:=MI ok (bh n).toNat
       rw [show (aF 0 (bh n)&&af (bh n) (w.ls.length:Int))=true by unfold aF af;simp;omega,cond_true,adX ok,if_pos hk]
       unfold xx
       rw [if_pos ⟨h,hk⟩,Option.bind_some,VK (by omega)];rfl
      ·rw [show (aF 0 (bh n)&&af (bh n) (w.ls.length:Int))=false by unfold aF af;rw [Bool.eq_false_iff];simp;omega,cond_false,if_neg hk];rfl
     ·rw [decide_eq_false h,cond_false,if_neg h];rfl
end Go.Proofs.YtjdlgannencchaaGreatDoor
