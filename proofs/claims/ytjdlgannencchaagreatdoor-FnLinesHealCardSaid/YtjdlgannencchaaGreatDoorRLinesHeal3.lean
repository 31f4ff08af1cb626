/- Texts of the claim, one behind the other: Er, Es, Et, Eu, Ev, Opn, Ew, LnA, LnM, Shf, LnH, InsA, InsB, InsC, InsD, DaM, Pu, LnN, LnK, RgL, LnI. -/
import Derived.Lib.Split
import Derived.Lib.SplitLaws
import Derived.Lib.Join
import Derived.Lib.ItoaMem
import Derived.Shelf.Strings.BuilderK
import Derived.Shelf.Strings.OnBuilder
import Derived.Shelf.Strconv.Itoa3
import Derived.Shelf.Strings.Split
import Derived.Test.YtjdlgannencchaaGreatDoorProg
import Derived.Shelf.Spec.SlicesInsertGrow
import Derived.Shelf.Spec.SlicesInsert
import Derived.MapKept
import Derived.Test.YtjdlgannencchaaGreatDoorRLinesHeal2
namespace Go.Proofs.YtjdlgannencchaaGreatDoor
open Go.ChangeShapes Go.WideShapes Go.ChangeAt Go.RowKit
set_option linter.unusedVariables false
set_option linter.unusedSimpArgs false
theorem Mt {k:RK} {v:PV} {a:k.ty} (h:k.get v=some a):k.put a=v:=by
 cases k with
 |int k=>
  cases v<;>simp only [RK.get,reduceCtorEq] at h
  rename_i k' x
  cases hb:(k==k') with
  |false=>rw [hb] at h;cases h
  |true=>
   rw [hb] at h;injection h with h;subst h
   have:k=k':=by simpa using hb
   subst this;rfl
 |b=>cases v<;>simp only [RK.get,reduceCtorEq] at h;injection h with h;subst h;rfl
 |s=>cases v<;>simp only [RK.get,reduceCtorEq] at h;injection h with h;subst h;rfl
 |al j=>cases v<;>simp only [RK.get,reduceCtorEq] at h;injection h with h;subst h;rfl
 |row E e=>
  cases v with
  |sl e' l=>obtain ⟨q,hq⟩:=gc h;subst q;dsimp only at hq;subst hq;rfl
  |_=>cases h
 |part e=>
  cases v with
  |sl e' l=>obtain ⟨q,hq⟩:=gc h;subst q;dsimp only at hq;subst hq;rfl
  |_=>cases h
section
variable {r:Rn} {s0 s s':Sy} {e0 e ec e':Env} {a:Act} {w:World} {X:List Asn}
theorem Nj (hW:Wf r s) {E:Nat} {k:EK} (l:List k.ty) (e:Env) (ad:Option Addr) (c:Nat):
 let s':Sy:= {s with n:=s.n+3,vs:=(s.n+2,.zl (s.n+1) l.length s.n)::s.vs,ct:=(s.n,⟨k,l,s.n,none⟩)::s.ct}
 Gr2 r s s'∧bE (e.up (s.n+1) 0 ad c) s' (.a (.t (s.n+2))) (.slice (Nn (!(Nat.beq l.length 0)) ad) l.length (FG (!(Nat.beq l.length 0)) c))∧fB (e.up (s.n+1) 0 ad c) s'.vs s'.ct [(s.n+1,.row E s.n)]=some [.row E k.sz (.slice ad l.length c) l.length (l.flatMap k.enc)]∧oZ s.n s' [(s.n+1,.row E s.n)]:=by
 intro s'
 have Ex:Ext s s':=qW hW (fun t h=>lh (by omega)) (fun t h=>lh (by omega)) (by simp [s'])
 refine ⟨⟨Ex,hW.grow Ex (fun t x h=>?_) (fun t c h=>?_) (fun p hp=>.inl hp) rfl (fun t b h=>.inl h),rfl,rfl,rfl,rfl⟩,⟨by simp [SV1.den,Ax.lf,s',aR,Lf.den,Env.up],.zl (s.n+1) l.length s.n,aR,⟨_,aR,rfl⟩,fun g hg=>?_⟩,ay.2 ⟨_,[],?_,rfl,rfl⟩,fun p hp=>?_⟩
 ·rcases aP h with ⟨rfl,rfl⟩ |h
  ·exact .inr ⟨by simp [s'],nofun⟩
  ·exact .inl h
 ·rcases aP h with ⟨rfl,rfl⟩ |h
  ·exact .inr ⟨by simp [s'],⟨_,aR,rfl,rfl⟩,nofun⟩
  ·exact .inl h
 ·simp [Lf.gs] at hg;subst hg;simp [s']
 ·simp [Th.den,s',aR,Env.up,Ct.cells]
 ·simp only [List.mem_singleton] at hp;subst hp
  exact ⟨Nat.le_succ _,by simp [s'],trivial,nofun⟩
theorem HQ (hW0:Wf r s0) (G:Gr2 r s0 s) (ha:dg s0.n e ec) {p:P0} {x0:Option Ax} {u:Value} {v rest:List PV} {A:List Asn} {f:In} (hp:OT s0 e p x0 u v A) (h:Jl s0 s p x0 (v++rest)=some f):
 f.vs=rest∧ ∃ec' x,dg s.n ec ec'∧Gr2 r s f.s∧f.xs=[x]∧bE ec' f.s (.a x) u∧fB ec' f.s.vs f.s.ct f.ts=some A∧oX s0 f.s f.ts:=by
 cases p with
 |k=>
  obtain ⟨⟨x,rfl,hd⟩,rfl,rfl⟩:=hp
  simp only [Jl,Option.map_some,Option.some.injEq] at h
  subst h
  exact ⟨rfl,ec,x,dg.refl _ _,.refl G.wf,rfl,(hd.agr ha).mono G.ext,rfl,oX.nil⟩
 |i ik=>
  obtain ⟨k,z,rfl,rfl,rfl⟩:=hp
  injection h with h;subst h
  obtain ⟨G1,D⟩:=qb (e:=ec) G.wf (x:=.int k z) rfl ⟨trivial,by simp [Lf.gs]⟩ rfl
  exact ⟨rfl,ec,_,dg.refl _ _,G1,rfl,D,rfl,oX.nil⟩
 |b=>
  obtain ⟨z,rfl,rfl,rfl⟩:=hp
  injection h with h;subst h
  obtain ⟨G1,D⟩:=qb (e:=ec) G.wf (x:=.bool z) rfl ⟨trivial,by simp [Lf.gs]⟩ rfl
  exact ⟨rfl,ec,_,dg.refl _ _,G1,rfl,D,rfl,oX.nil⟩
 |s=>
  obtain ⟨z,rfl,rfl,rfl⟩:=hp
  injection h with h;subst h
  obtain ⟨G1,D⟩:=qb (e:=ec) G.wf (x:=.str z) rfl ⟨trivial,by simp [Lf.gs]⟩ rfl
  exact ⟨rfl,ec,_,dg.refl _ _,G1,rfl,D,rfl,oX.nil⟩
 |r E k=>
  obtain ⟨v1,rfl,l,ad,c,rfl,rfl,rfl⟩:=hp
  injection h with h;subst h
  obtain ⟨d1,d2,d3⟩:=xL G.wf (E:=E) l false ec ad c
  exact ⟨rfl,_,_,mO (Nat.le_succ _),CJ G.wf E k l l.length,rfl,d1,d2,d3.w⟩
 |w E k=>
  obtain ⟨l,x,g,n,rt,d,rfl,hx,hg,rfl,rfl,rfl,h1,h2,h3,h4⟩:=hp
  simp only [Jl,UW,List.cons_append,List.nil_append,hx,Option.some.injEq] at h
  subst h
  have G1:=KC (c:=⟨k,l,rt,none⟩) G.wf ⟨d,G.ext.c _ _ h1,h3,h4⟩ rfl
  have hh:=ha g hg
  refine ⟨rfl,ec,x,dg.refl _ _,G1,rfl,⟨?_,_,(G.ext.trans G1.ext).lf hx,⟨d,(G.ext.trans G1.ext).c _ _ h1,h2⟩,fun q hq=>?_⟩,ay.2 ⟨_,[],?_,rfl,rfl⟩,fun p hp=>?_⟩
  ·simp only [SV1.den,(G.ext.trans G1.ext).lf hx,Option.map_some,Lf.den,hh.2.1,hh.2.2.1,h2,h3]
  ·simp [Lf.gs] at hq;subst hq;exact Nat.lt_of_lt_of_le hg (G.ext.trans G1.ext).n
  ·have:lk ((s.n,(⟨k,l,rt,none⟩:Ct))::s.ct) s.n=some ⟨k,l,rt,none⟩:=aR
   simp only [Th.den,this,Option.map_some,Ct.cells,hh.2.1,hh.2.2.1]
  ·simp only [List.mem_singleton] at hp;subst hp
   exact .inr ⟨Nat.lt_of_lt_of_le hg (G.ext.trans G1.ext).n,trivial,nofun⟩
 |a j=>exact hp.elim
theorem xq (hW0:Wf r s0): ∀ {ps:List P0} {old:List Ax} {us:List Value} {v rest:List PV} {A:List Asn} {s:Sy} {ec:Env} {f:In},Gr2 r s0 s→dg s0.n e ec→GA s0 e ps old us v A→Ev s0 s ps old (v++rest)=some f→
 f.vs=rest∧ ∃ec',dg s.n ec ec'∧Gr2 r s f.s∧bE ec' f.s (.g f.xs) (.agg us.toArray)∧fB ec' f.s.vs f.s.ct f.ts=some A∧oX s0 f.s f.ts
 | [],old,us,v,rest,A,s,ec,f,G,ha,hp,h=>by
  obtain ⟨rfl,rfl,rfl⟩:=hp
  injection h with h;subst h
  exact ⟨rfl,ec,dg.refl _ _,.refl G.wf,rN,rfl,oX.nil⟩
 |p::ps,old,us,v,rest,A,s,ec,f,G,ha,hp,h=>by
  obtain ⟨u,ur,v1,v2,A1,A2,rfl,rfl,rfl,h1,h2⟩:=hp
  simp only [Ev,List.append_assoc] at h
  split at h
  ·rename_i s1 x m vs1 hA
   split at h
   ·rename_i s2 xs ms vs2 hB
    injection h with h;subst h
    obtain ⟨a1,ec1,y,a2,a3,a4,a5,a6,a7⟩:=HQ hW0 G ha h1 hA
    dsimp only at a1 a3 a4 a5 a6 a7
    subst a1;subst a4
    obtain ⟨b1,ec2,b2,b3,b4,b5,b6⟩:=xq hW0 (G.trans a3) (ha.trans (a2.le G.ext.n)) h2 hB
    dsimp only at b1 b3 b4 b5 b6
    subst b1
    exact ⟨rfl,ec2,a2.trans (b2.le a3.ext.n),a3.trans b3,mS ((a5.agr b2).mono b3.ext) b4,cb.2 ⟨A1,A2,tR hW0 (G.ext.trans a3.ext) a6 a7 b2 b3.ext,b5,rfl⟩,(a7.mono b3.ext).app b6⟩
   ·cases h
  ·cases h
theorem Oo (hW0:Wf r s0) (G:Gr2 r s0 s) (ha:dg s0.n e ec) {acc:List (Nat×SV)} (hacc: ∀k v,lk acc k=some v→iu ec s v (sl a k)) {d:Nat} {p:P1} {v rest:List PV} {A:List Asn} {q:Sy×SV×List (Nat×Th)×List PV} (hp:Vn s0 e a d p v A) (h:LD s0 s acc d (v++rest) p=some q):
 q.2.2.2=rest∧ ∃ec',dg s.n ec ec'∧Gr2 r s q.1∧iu ec' q.1 q.2.1 (sl a d)∧fB ec' q.1.vs q.1.ct q.2.2.1=some A∧oX s0 q.1 q.2.2.1:=by
 have plain: ∀ {p0:P0},OT s0 e p0 (Gy s0 d) (sl a d) v A→(match Jl s0 s p0 (match lk s0.sl d with |some (.v (.a x))=>some x |_=>none) (v++rest) with
  |some ⟨s1,[x],m,vs1⟩=>some (s1,SV.v (.a x),m,vs1)
  |_=>none)=some q→q.2.2.2=rest∧ ∃ec',dg s.n ec ec'∧Gr2 r s q.1∧iu ec' q.1 q.2.1 (sl a d)∧fB ec' q.1.vs q.1.ct q.2.2.1=some A∧oX s0 q.1 q.2.2.1:=by
  intro p0 hp h
  split at h
  ·rename_i s1 x m vs1 hA
   injection h with h;subst h
   obtain ⟨a1,ec1,y,a2,a3,a4,a5,a6,a7⟩:=HQ hW0 G ha hp hA
   dsimp only at a1 a3 a4 a5 a6 a7
   injection a4 with a4 _;subst a4
   exact ⟨a1,ec1,a2,a3,a5,a6,a7⟩
  ·cases h
 cases p with
 |g ps=>
  obtain ⟨us,hu,hp⟩:=hp
  simp only [LD] at h
  split at h
  ·rename_i s1 xs m vs1 hA
   injection h with h;subst h
   obtain ⟨a1,ec1,a2,a3,a4,a5,a6⟩:=xq hW0 G ha hp hA
   dsimp only at a1 a3 a4 a5 a6
   exact ⟨a1,ec1,a2,a3,by rw [hu];exact a4,a5,a6⟩
  ·cases h
 |z E k=>
  obtain ⟨l,ad,c,rfl,hu,rfl⟩:=hp
  injection h with h;subst h
  obtain ⟨G1,d1,d2,d3⟩:=Nj G.wf (E:=E) l ec ad c
  exact ⟨rfl,_,mO (Nat.le_succ _),G1,by rw [hu];exact d1,d2,d3.w⟩
 |o p=>
  cases p with
  |k=>
   obtain ⟨rfl,rfl,v0,hv0,hd⟩:=hp
   simp only [LD,hv0,Option.map_some,Option.some.injEq] at h
   subst h
   exact ⟨rfl,ec,dg.refl _ _,.refl G.wf,(hd.agr ha).mono G.ext,rfl,oX.nil⟩
  |a j=>
   obtain ⟨rfl,rfl,he⟩:=hp
   simp only [LD,Option.map_eq_some_iff] at h
   obtain ⟨v0,hv0,h⟩:=h
   subst h
   exact ⟨rfl,ec,dg.refl _ _,.refl G.wf,by rw [he];exact hacc j v0 hv0,rfl,oX.nil⟩
  |i k=>exact plain (p0:=.i k) hp h
  |b=>exact plain (p0:=.b) hp h
  |s=>exact plain (p0:=.s) hp h
  |r E k=>exact plain (p0:=.r E k) hp h
  |w E k=>exact plain (p0:=.w E k) hp h
theorem Ey (hW0:Wf r s0): ∀ {l:List (Nat×P1)} {acc:List (Nat×SV)} {ts:List (Nat×Th)} {v rest:List PV} {A A0:List Asn} {s:Sy} {ec:Env} {f:InS},Gr2 r s0 s→dg s0.n e ec→(∀k v,lk acc k=some v→iu ec s v (sl a k))→fB ec s.vs s.ct ts=some A0→oX s0 s ts→RU s0 e a l v A→HS s0 s acc ts l (v++rest)=some f→
 f.vs=rest∧ ∃ec',dg s.n ec ec'∧Gr2 r s f.s∧(∀k v,lk f.sl k=some v→iu ec' f.s v (sl a k))∧fB ec' f.s.vs f.s.ct f.ts=some (A0++A)∧oX s0 f.s f.ts
 | [],acc,ts,v,rest,A,A0,s,ec,f,G,ha,hacc,ht,hnt,hp,h=>by
  obtain ⟨rfl,rfl⟩:=hp
  injection h with h;subst h
  exact ⟨rfl,ec,dg.refl _ _,.refl G.wf,hacc,by rw [List.append_nil];exact ht,hnt⟩
 |(d,p)::l,acc,ts,v,rest,A,A0,s,ec,f,G,ha,hacc,ht,hnt,hp,h=>by
  obtain ⟨v1,v2,A1,A2,rfl,rfl,h1,h2⟩:=hp
  simp only [HS,List.append_assoc] at h
  split at h
  ·rename_i s1 x m vs1 hV
   obtain ⟨a1,ec1,a2,a3,a4,a5,a6⟩:=Oo hW0 G ha hacc h1 hV
   dsimp only at a1 a3 a4 a5 a6
   subst a1
   obtain ⟨b1,ec2,b2,b3,b4,b5,b6⟩:=Ey hW0 (A0:=A0++A1) (G.trans a3) (ha.trans (a2.le G.ext.n)) (fun k v hk=>by
    rcases aP hk with ⟨rfl,rfl⟩ |hk
    ·exact a4
    ·exact ((hacc k v hk).agr a2).mono a3.ext) (cb.2 ⟨A0,A1,tR hW0 G.ext ht hnt a2 a3.ext,a5,rfl⟩) ((hnt.mono a3.ext).app a6) h2 h
   exact ⟨b1,ec2,a2.trans (b2.le a3.ext.n),a3.trans b3,b4,by rw [←List.append_assoc];exact b5,b6⟩
  ·cases h
theorem Ew (hW0:Wf r s0): ∀ {l:List (Nat×List P0)} {v rest:List PV} {A B:List Asn} {s:Sy} {ec:Env} {q:Sy×List (Nat×Th)×List (Nat×Th)×List PV},Gr2 r s0 s→dg s0.n e ec→RT s0 e l v A B→HR s0 s l (v++rest)=some q→
 q.2.2.2=rest∧ ∃ec',dg s.n ec ec'∧Gr2 r s q.1∧fB ec' q.1.vs q.1.ct q.2.1=some B∧fB ec' q.1.vs q.1.ct q.2.2.1=some A∧oX s0 q.1 q.2.1∧oX s0 q.1 q.2.2.1
 | [],v,rest,A,B,s,ec,q,G,ha,hp,h=>by
  obtain ⟨rfl,rfl,rfl⟩:=hp
  injection h with h;subst h
  exact ⟨rfl,ec,dg.refl _ _,.refl G.wf,rfl,rfl,oX.nil,oX.nil⟩
 |(d,ps)::l,v,rest,A,B,s,ec,q,G,ha,hp,h=>by
  obtain ⟨g,T,xs,us,v1,v2,A1,A2,Br,hg,hx,rfl,rfl,rfl,h1,h2⟩:=hp
  simp only [HR,hg,hx,List.append_assoc] at h
  split at h
  ·rename_i s1 ys m vs1 hA
   split at h
   ·rename_i s2 bs ms vs2 hB
    injection h with h;subst h
    obtain ⟨a1,ec1,a2,a3,a4,a5,a6⟩:=xq hW0 G ha h1 hA
    dsimp only at a1 a3 a4 a5 a6
    subst a1
    obtain ⟨b1,ec2,b2,b3,b4,b5,b6,b7⟩:=Ew hW0 (G.trans a3) (ha.trans (a2.le G.ext.n)) h2 hB
    dsimp only at b1 b3 b4 b5 b6 b7
    have hgn:g<s0.n:=(hW0.th _ (fS hx)).1
    have dx:=(a4.agr b2).mono b3.ext
    refine ⟨b1,ec2,a2.trans (b2.le a3.ext.n),a3.trans b3,ay.2 ⟨_,Br,?_,b4,rfl⟩,cb.2 ⟨A1,A2,tR hW0 (G.ext.trans a3.ext) a5 a6 b2 b3.ext,b5,rfl⟩,fun p hp=>?_,(a6.mono b3.ext).app b7⟩
    ·have hb:ec2.b g=e.b g:=by
      rw [(b2 g (Nat.lt_of_lt_of_le hgn (Nat.le_trans G.ext.n a3.ext.n))).1,(a2 g (Nat.lt_of_lt_of_le hgn G.ext.n)).1,(ha g hgn).1]
     have:=dx.1
     simp only [SV1.den,Option.map_eq_some_iff,Value.agg.injEq] at this
     obtain ⟨ls,l1,l2⟩:=this
     simp only [Th.den,l1,Option.map_some,l2,hb]
    ·rcases List.mem_cons.1 hp with rfl |hp
     ·exact .inr ⟨Nat.lt_of_lt_of_le hgn (Nat.le_trans G.ext.n (Nat.le_trans a3.ext.n b3.ext.n)),dx.2,nofun⟩
     ·exact b6 p hp
   ·cases h
  ·cases h
theorem xv (hW0:Wf r s0): ∀ {l:List (Nat×P0)} {v rest:List PV} {A:List Asn} {s:Sy} {ec:Env} {q:Sy×List (Nat×Th)},Gr2 r s0 s→dg s0.n e ec→Mg s0 e l v A→vm s0 s l (v++rest)=some q→
 Gr2 r s q.1∧fB ec q.1.vs q.1.ct q.2=some A∧oX s0 q.1 q.2
 | [],v,rest,A,s,ec,q,G,ha,hp,h=>by
  obtain ⟨rfl,rfl⟩:=hp
  injection h with h;subst h
  exact ⟨.refl G.wf,rfl,oX.nil⟩
 |(j,p)::l,v,rest,A,s,ec,q,G,ha,hp,h=>by
  cases p with
  |k=>
   have h:vm s0 s l (v++rest)=some q:=by simpa only [vm] using h
   exact xv hW0 (rest:=rest) G ha (show Mg s0 e l v A from hp) h
  |r E k=>
   obtain ⟨ll,vr,A2,n0,c0,d,h1,h2,rfl,rfl,h3,h4,h5,h6⟩:=hp
   simp only [vm,List.cons_append,h1,h2] at h
   split at h
   ·rename_i s2 ms hB
    injection h with h;subst h
    have hj:j<s0.n:=(hW0.th _ (fS h1)).1
    have G1:=KC (c:=⟨k,ll,c0.rt,none⟩) G.wf ⟨d,G.ext.c _ _ h3,h4,h5⟩ rfl
    obtain ⟨b1,b2,b3⟩:=xv hW0 (rest:=rest) (G.trans G1) ha h6 hB
    dsimp only at b1 b2 b3
    have hh:=ha j hj
    refine ⟨G1.trans b1,ay.2 ⟨_,A2,?_,b2,rfl⟩,fun p hp=>?_⟩
    ·have:=b1.ext.c s.n _ aR
     simp only [Th.den,this,Option.map_some,Ct.cells,hh.2.1,hh.2.2.1]
    ·rcases List.mem_cons.1 hp with rfl |hp
     ·exact .inr ⟨Nat.lt_of_lt_of_le hj (Nat.le_trans G.ext.n (Nat.le_trans G1.ext.n b1.ext.n)),trivial,nofun⟩
     ·exact b3 p hp
   ·cases h
  |i _=>exact hp.elim
  |b=>exact hp.elim
  |s=>exact hp.elim
  |w _ _=>exact hp.elim
  |a _=>exact hp.elim
def Hg (r:Rn) (s0:Sy) (e0:Env) (h:Shp) (a:Act) (w:World) (p:h.T):Prop:= ∀s2,WY s0 h (HX s0 h) (uh RK.put h.ks p)=some s2→ ∃e2,Ext s0 s2∧dg s0.n e0 e2∧Inv r e2 a w s2
theorem uE: ∀ {l seen:List Nat} {x:Nat},x∈DY l seen→x∈l
 | [],seen,x,h=>by cases h
 |y::l,seen,x,h=>by
  simp only [DY] at h
  cases hb:seen.any (Nat.beq y) with
  |true=>rw [hb] at h;exact List.mem_cons_of_mem _ (uE h)
  |false=>
   rw [hb] at h
   rcases List.mem_cons.1 h with rfl |h
   ·simp
   ·exact List.mem_cons_of_mem _ (uE h)
theorem EI: ∀ {a b:List Nat},xG a b=true→a=b
 | [],[],_=>rfl
 |x::a,y::b,h=>by
  simp only [xG,Bool.and_eq_true] at h
  rw [iA h.1,EI h.2]
 | [],_::_,h=>by cases h
 |_::_,[],h=>by cases h
theorem kc: ∀(l:List Nat),(l.map some).filterMap id=l
 | []=>rfl
 |x::l=>by simp [kc l]
theorem Hq {R:Type} {m:Option R} {y:R}: ∀ {l:List Bool},Qy l m=some y→(∀b∈l,b=true)∧m=some y
 | [],h=>⟨nofun,h⟩
 |b::l,h=>by
  cases b with
  |false=>cases h
  |true=>
   obtain ⟨h1,h2⟩:=Hq (l:=l) h
   exact ⟨fun c hc=>by rcases List.mem_cons.1 hc with rfl |hc; · rfl
                       ·exact h1 c hc,h2⟩
theorem yp (J:Jn r s0 e0 a w s e) {hh:Shp} {R:Type} {f:hh.T→Option R} {y:R} (h:yP s0 s hh f=some y): ∃p,f p=some y∧Hg r s0 e0 hh a w p:=by
 unfold yP at h
 split at h
 ·rename_i en hen
  cases hb:(PR en (SF hh.pr)&&xG en.kept (HX s0 hh)) with
  |false=>rw [hb] at h;cases h
  |true=>
   rw [hb] at h
   simp only [cond_true] at h
   simp only [Bool.and_eq_true] at hb
   split at h
   ·rename_i p hp
    obtain ⟨hz,h⟩:=Hq h
    refine ⟨p,h,fun s2 h2=>?_⟩
    rw [Dw (put:=RK.put) (fun k v a h=>Mt h) hp] at h2
    unfold Xx at hen
    split at hen
    ·rename_i v1 i1 g1 v2 i2 g2 bs v3 g3 q1 q2 q3
     injection hen with hen;subst hen
     dsimp only at hb h2 hp
     obtain ⟨A1,a1,a2,a3⟩:=J.endSl q1 hz
     obtain ⟨A2,B,b1,b2,b3,b4⟩:=J.endBx q2
     obtain ⟨A3,c1,c2,c3⟩:=J.endPr q3
     have hkept:=EI hb.2
     rw [←hkept] at h2
     -- what is kept
     have hk: ∀g∈HW s0 (g1++(g2++g3)),∃x,lk s0.th g=some x∧lk s.th g=some x:=by
      intro g hg
      have hg:=List.mem_filter.1 hg
      have hm:=uE hg.1
      have hs:er (lk s0.th g) (lk s.th g)=true:=by
       rcases List.mem_append.1 hm with hm |hm
       ·exact a3 g hm
       ·rcases List.mem_append.1 hm with hm |hm
        ·exact b4 g hm
        ·exact c3 g hm
      cases h0:lk s0.th g with
      |none=>rw [h0] at hg;cases hg.2
      |some x=>
       rw [h0] at hs hg
       cases h1:lk s.th g with
       |none=>rw [h1] at hs;cases x<;>cases hs
       |some x'=>
        rw [h1] at hs
        refine ⟨x,rfl,?_⟩
        cases x with
        |box T cs=>cases hg.2
        |row E c=>
         cases x'<;>simp only [er,Bool.false_eq_true] at hs
         simp only [Bool.and_eq_true] at hs
         rw [iA hs.1,iA hs.2]
        |part c=>
         cases x'<;>simp only [er,Bool.false_eq_true] at hs
         rw [iA hs]
        |kp c=>
         cases x'<;>simp only [er,Bool.false_eq_true] at hs
         rw [iA hs]
     generalize HW s0 (g1++(g2++g3))=kp at hb h2 hk
     obtain ⟨L,hL,hS⟩:=J.I.st
     obtain ⟨L0,hL0⟩:=J.dn0
     obtain ⟨L0',hL0'⟩:=wy (e:=e) hL0
     obtain ⟨K,hK,hKi⟩: ∃K,fB e s0.vs s0.ct (pk s0.th kp)=some K∧gI s e (kp.map some) K:=by
      clear hb h2
      induction kp with
      |nil=>exact ⟨[],rfl,rfl⟩
      |cons g kp ih=>
       obtain ⟨K,k1,k2⟩:=ih fun g hg=>hk g (by simp [hg])
       obtain ⟨x,x1,x2⟩:=hk g (by simp)
       obtain ⟨yd,_,hy,_,_⟩:=lK hL0' x1
       refine ⟨yd::K,?_,yd,K,x,rfl,x2,⟨yd,Th.den_mono J.E hy,te.refl _⟩,k2⟩
       simp only [pk,x1]
       exact ay.2 ⟨yd,K,hy,k1,rfl⟩
     have hids:=(a2.app b2).app (hKi.app (b3.app c2))
     have hnd:bz (((i1++i2)++(kp.map some++(bs.map some++(SF hh.pr).map some))).filterMap id)=true:=by
      rw [List.filterMap_append,List.filterMap_append (l:=kp.map some),List.filterMap_append (l:=bs.map some),kc,kc,kc]
      exact hb.1
     have hSt:=St.ids hL hS hids hnd
     -- the new state
     unfold WY at h2
     split at h2
     ·rename_i s1 slN m1 vs1 hI1
      split at h2
      ·rename_i s2' bs' m2 vs2 hI2
       split at h2
       ·rename_i s3 m3 hI3
        injection h2 with h2
        have G0:Gr2 r s0 s0:=.refl J.w0
        obtain ⟨p1,ec1,p2,p3,p4,p5,p6⟩:=Ey (A0:=[]) J.w0 G0 (dg.refl s0.n e) (fun k v hk=>by cases hk) rfl oX.nil a1 hI1
        dsimp only at p1 p3 p4 p5 p6
        subst p1
        obtain ⟨r1,ec2,r2,r3,r4,r5,r6,r7⟩:=Ew J.w0 p3 p2 b1 hI2
        dsimp only at r1 r3 r4 r5 r6 r7
        subst r1
        have hI3':vm s0 s2' hh.pr (vs2++ [])=some (s3,m3):=by rw [List.append_nil];exact hI3
        obtain ⟨t1,t2,t3⟩:=xv J.w0 (p3.trans r3) (p2.trans (r2.le p3.ext.n)) c1 hI3'
        dsimp only at t1 t2 t3
        have Gt:=(p3.trans r3).trans t1
        have hag:dg s0.n e ec2:=p2.trans (r2.le p3.ext.n)
        subst h2
        have E2:Ext s3 {s3 with sl:=slN,th:=m1++(m2++(pk s0.th kp++(bs'++m3))),kn:=[]}:=⟨fun _ _ h=>h,fun _ _ h=>h,Nat.le_refl _⟩
        have hntk:oX s0 s3 (pk s0.th kp):=fun p hp=>by
         left
         have: ∀ {gs:List Nat},p∈pk s0.th gs→p∈s0.th:=by
          intro gs
          induction gs with
          |nil=>intro h;cases h
          |cons g gs ih=>
           intro h
           simp only [pk] at h
           split at h
           ·rename_i x hx
            rcases List.mem_cons.1 h with rfl |h
            ·exact fS hx
            ·exact ih h
           ·exact ih h
         exact this hp
        have hntall:oX s0 s3 (m1++(m2++(pk s0.th kp++(bs'++m3)))):=(p6.mono (r3.ext.trans t1.ext)).app ((r7.mono t1.ext).app (hntk.app ((r6.mono t1.ext).app t3)))
        refine ⟨ec2,Gt.ext.trans E2,J.A.trans hag,J.I.size,J.I.df,fun k v hk=>?_,⟨(A1++A2)++(K++(B++A3)),?_,hSt⟩,?_,(J.I.par.trans (dg.le (fun g hg=>hag g hg) J.w0.np))⟩
        ·exact ((((p4 k v hk).agr r2).mono r3.ext).mono t1.ext).mono E2
        ·rw [List.append_assoc]
         refine cb.2 ⟨A1,_,?_,cb.2 ⟨A2,_,dC t1.ext r5,cb.2 ⟨K,_,?_,cb.2 ⟨B,A3,dC t1.ext r4,t2,rfl⟩,rfl⟩,rfl⟩,rfl⟩
         ·exact tR (s':=s3) J.w0 p3.ext (by simpa using p5) p6 r2 (r3.ext.trans t1.ext)
         ·exact tR (s':=s3) J.w0 (.refl _) hK (fun p hp=>by
           rcases hntk p hp with h |h
           ·exact .inl h
           ·exact .inl (by
             have: ∀ {gs:List Nat},p∈pk s0.th gs→p∈s0.th:=by
              intro gs
              induction gs with
              |nil=>intro h;cases h
              |cons g gs ih=>
               intro h
               simp only [pk] at h
               split at h
               ·rename_i x hx
                rcases List.mem_cons.1 h with rfl |h
                ·exact fS hx
                ·exact ih h
               ·exact ih h
             exact this hp)) hag Gt.ext
        ·refine Gt.wf.grow E2 (fun t x h=>.inl h) (fun t c h=>.inl h) (fun p hp=>?_) rfl (fun t b h=>by cases h)
         rw [Gt.th]
         exact (hntall p hp).imp id fun h=>⟨h.1,h.2.1.mono E2,h.2.2⟩
       ·cases h2
      ·cases h2
     ·cases h2
    ·cases hen
   ·cases h
 ·cases h
end
section
variable {P:Program} {G:Cx} {F:Sg} {r:Rn} {sI s s':Sy} {e e':Env} {a:Act} {w:World}
theorem LE (I:Inv r e a w s) {q:Nat} {b:Bool} (h:lk s.vs q=some (.bool b)):Inv r e a w (vP s q b):=
 ⟨I.size,I.df,fun k v hk=>(I.slot k v hk).mono (qV s q b),I.st,zI I.wf h,I.par⟩
theorem vY (I:Inv r e a w s) {e2:Env} {a2:Act} {w2:World} {s2:Sy} (E:Ext s s2) (A:dg s.n e e2) (I2:Inv r e2 a2 w2 s2):Jn r s e a2 w2 s2 e2:=
 ⟨I.wf,fun k v hk=>⟨_,I.slot k v hk⟩,by obtain ⟨L,h,_⟩:=I.st;exact ⟨L,h⟩,E,A,I2⟩
theorem Cy {h:Shp} {R:Type} {y:R} {p:h.T} {f:Sy→Option R} (hJ:Hg r s e h a w p) (hk:xu s h p f=some y): ∃s2 e2,f s2=some y∧Ext s s2∧dg s.n e e2∧Inv r e2 a w s2:=by
 unfold xu at hk
 split at hk
 ·rename_i s2 h2
  obtain ⟨e2,h3,h4,h5⟩:=hJ s2 h2
  exact ⟨s2,e2,hk,h3,h4,h5⟩
 ·cases hk
theorem Je {R Rf:Type} {K:Kt R Rf} {h:Shp} {l:List Alt} {p:h.T}:Hx s K h l (UV l p)=xu s h p K.nrm:=by cases l<;>rfl
theorem zd {R Rf:Type} {K:Kt R Rf} {h:Shp} {l:List Alt} {q:CT Rf l} {z:KD Rf h l} (hz:Rq l q=some z):Hx s K h l z=ze s K l q:=by
 cases l with
 |nil=>cases hz
 |cons a l=>injection hz with hz;subst hz;rfl
theorem Hh {R Rf:Type} {K:Kt R Rf} {y:R}: ∀ {l:List Alt} {f:Rf} {q:CT Rf l},Nx l f=some q→ze s K l q=some y→K.rt f=some y
 | [],f,q,h,_=>by cases h
 | [.rt],f,q,h,h2=>by injection h with h;subst h;exact h2
 | [.ex _ _],f,q,h,_=>by cases h
 | .rt::b::l,f,q,h,h2=>by injection h with h;subst h;exact h2
 | .ex i hh::b::l,f,q,h,h2=>by
  simp only [Nx,Option.map_eq_some_iff] at h
  obtain ⟨q',h3,rfl⟩:=h
  exact Hh (l:=b::l) h3 h2
theorem zM {R Rf:Type} {K:Kt R Rf} {y:R} {s2:Sy} {e2:Env} {a2:Act} {w2:World} (J:Jn r s e a2 w2 s2 e2) {i:Nat}: ∀ {l:List Alt} {q:CT Rf l},FO s i s2 l=some q→ze s K l q=some y→ ∃h,∃p:Shp.T h,Hg r s e h a2 w2 p∧xu s h p (K.ex i)=some y
 | [],q,h,_=>by cases h
 | [.rt],q,h,_=>by cases h
 | [.ex j hh],q,h,h2=>by
  simp only [FO] at h
  cases hb:Nat.beq i j with
  |false=>rw [hb] at h;cases h
  |true=>
   rw [hb] at h
   have:=iA hb;subst this
   obtain ⟨p,h3,h4⟩:=yp J h
   injection h3 with h3;subst h3
   exact ⟨hh,p,h4,h2⟩
 | .rt::b::l,q,h,h2=>by
  simp only [FO,Option.map_eq_some_iff] at h
  obtain ⟨q',h3,rfl⟩:=h
  exact zM J (l:=b::l) h3 h2
 | .ex j hh::b::l,q,h,h2=>by
  simp only [FO] at h
  cases hb:Nat.beq i j with
  |true=>
   rw [hb] at h
   have:=iA hb;subst this
   obtain ⟨p,h3,h4⟩:=yp J h
   injection h3 with h3;subst h3
   exact ⟨hh,p,h4,h2⟩
  |false=>
   rw [hb] at h
   simp only [cond_false,Option.map_eq_some_iff] at h
   obtain ⟨q',h3,rfl⟩:=h
   exact zM J (l:=b::l) h3 h2
theorem Ik {α β:Type} {x:Option α} {f:α→Option β} {y:β} (h:RN x f=some y): ∃a,x=some a∧f a=some y:=by
 cases x with
 |none=>cases h
 |some a=>exact ⟨a,rfl,h⟩
theorem Uv (hm:P.follows .mixedOrders=true) (hQ:GQ P G) (hn0:F.n=r.n) (FS:F.R→Act→World→Prop)
 (hfin: ∀ {R:Type} {y:R} {k:F.R→Option R} {s:Sy} {e:Env} {a:Act} {w:World},Ext sI s→Inv r e a w s→KV G F s k=some y→ ∃f,k f=some y∧FS f a w):
 ∀(t:Crt) {R:Type} (c:Code) (K:Kt R F.R) (s:Sy) (y:R) (e:Env) (a:Act) (w:World) (Q:Exit→Act→World→Prop),ex G F t c K s=some y→Ext sI s→Inv r e a w s→
  (∀s' e' a' w',Ext s s'→dg s.n e e'→K.nrm s'=some y→Inv r e' a' w' s'→Q .normal a' w')→
  (∀i s' e' a' w',Ext s s'→dg s.n e e'→K.ex i s'=some y→Inv r e' a' w' s'→Q (.exit i) a' w')→
  (∀f a' w',K.rt f=some y→FS f a' w'→Q .ret a' w')→c.wp P Q a w:=by
 intro t
 induction t with
 |z=>
  intro R c K s y e a w Q h hE I hn hx hr
  cases c with
  |skip=>exact wp_skip (hn s e a w (.refl _) (dg.refl _ _) h I)
  |label l=>exact wp_label (hn s e a w (.refl _) (dg.refl _ _) h I)
  |ret=>
   obtain ⟨f,h1,h2⟩:=hfin hE I h
   exact wp_ret (hr f a w h1 h2)
  |exit i=>exact wp_exit (hx i s e a w (.refl _) (dg.refl _ _) h I)
  |region id ops dr=>
   simp only [ex,hn0] at h
   exact Sa hm hQ I h hn
  |_=>simp [ex] at h
 |q t1 t2 ih1 ih2=>
  intro R c K s y e a w Q h hE I hn hx hr
  cases c with
  |seq x1 x2=>
   refine wp_seq (ih1 x1 ⟨fun s=>ex G F t2 x2 K s,K.ex,K.rt⟩ s y e a w _ h hE I (fun s' e' a' w' E1 A1 h1 I1=>?_) (fun i s' e' a' w' E1 A1 h1 I1=>hx i s' e' a' w' E1 A1 h1 I1) (fun f a' w' h1 h2=>hr f a' w' h1 h2))
   exact ih2 x2 K s' y e' a' w' Q h1 (hE.trans E1) I1 (fun s2 e2 a2 w2 E2 A2=>hn s2 e2 a2 w2 (E1.trans E2) (A1.trans (A2.le E1.n))) (fun i s2 e2 a2 w2 E2 A2=>hx i s2 e2 a2 w2 (E1.trans E2) (A1.trans (A2.le E1.n))) hr
  |cond o x1 x2=>
   cases o with
   |tmp k=>
    simp only [ex] at h
    split at h
    ·rename_i v hv
     have hd:bE e s (.a v) (sl a k):=I.slot k _ hv
     obtain ⟨z,hz,hzk⟩:=hd.2
     have hden:z.den e=sl a k:=by have:=hd.1;simpa [SV1.den,hz] using this
     split at h
     ·rename_i hdec
      have hb:=FZ I.wf hz hdec
      refine wp_cond_true (gJ (by rw [←hden,jV hb])) ?_
      exact ih1 x1 K s y e a w Q h hE I hn hx hr
     ·rename_i hdec
      have hb:=FZ I.wf hz hdec
      refine wp_cond_false (gJ (by rw [←hden,jV hb])) ?_
      exact ih2 x2 K s y e a w Q h hE I hn hx hr
     ·split at h
      ·rename_i n _
       have hval: ∀ {q:Nat} {u v:Bool},inn s.vs 5 n=some (q,u,v)→sl a k= .bool (pP u v)∧lk s.vs q=some (.bool u):=by
        intro q u v hi
        obtain ⟨h1,h2⟩:=oP I.wf hi
        rw [yV hz] at h2
        exact ⟨by rw [←hden,jV h2],h1⟩
       have go1: ∀ {q:Nat} {u:Bool},lk s.vs q=some (.bool u)→ex G F t1 x1 K (vP s q u)=some y→x1.wp P Q a w:=fun hq h=>
        ih1 x1 K (vP s _ _) y e a w Q h (hE.trans (qV _ _ _)) (LE I hq) (fun s2 e2 a2 w2 E2 A2=>hn s2 e2 a2 w2 ((qV _ _ _).trans E2) A2) (fun i s2 e2 a2 w2 E2 A2=>hx i s2 e2 a2 w2 ((qV _ _ _).trans E2) A2) hr
       have go2: ∀ {q:Nat} {u:Bool},lk s.vs q=some (.bool u)→ex G F t2 x2 K (vP s q u)=some y→x2.wp P Q a w:=fun hq h=>
        ih2 x2 K (vP s _ _) y e a w Q h (hE.trans (qV _ _ _)) (LE I hq) (fun s2 e2 a2 w2 E2 A2=>hn s2 e2 a2 w2 ((qV _ _ _).trans E2) A2) (fun i s2 e2 a2 w2 E2 A2=>hx i s2 e2 a2 w2 ((qV _ _ _).trans E2) A2) hr
       split at h
       ·rename_i q u hi
        obtain ⟨v1,v2⟩:=hval hi
        cases u with
        |true=>exact wp_cond_true (gJ v1) (go1 v2 h)
        |false=>exact wp_cond_false (gJ v1) (go2 v2 h)
       ·rename_i q u hi
        obtain ⟨v1,v2⟩:=hval hi
        cases u with
        |true=>exact wp_cond_false (gJ v1) (go2 v2 h)
        |false=>exact wp_cond_true (gJ v1) (go1 v2 h)
       ·cases h
      ·cases h
    ·cases h
   |_=>simp [ex] at h
  |_=>simp [ex] at h
 |b t1 ih=>
  intro R c K s y e a w Q h hE I hn hx hr
  cases c with
  |block i x=>
   refine wp_block (ih x ⟨K.nrm,fun j s=>bif Nat.beq j i then K.nrm s else K.ex j s,K.rt⟩ s y e a w _ h hE I (fun s' e' a' w' E1 A1 h1 I1=>hn s' e' a' w' E1 A1 h1 I1) (fun j s' e' a' w' E1 A1 h1 I1=>?_) (fun f a' w' h1 h2=>hr f a' w' h1 h2))
   cases hb:Nat.beq j i with
   |true=>
    have:=iA hb;subst this
    simp only [hb,cond_true] at h1
    exact Ro (hn s' e' a' w' E1 A1 h1 I1)
   |false=>
    simp only [hb,cond_false] at h1
    exact Om hb (hx j s' e' a' w' E1 A1 h1 I1)
  |_=>simp [ex] at h
 |lp hh t1 ih=>
  intro R c K s y e a w Q h hE I hn hx hr
  cases c with
  |loop x=>
   simp only [ex] at h
   obtain ⟨p0,h1,h2⟩:=yp (vY I (.refl s) (dg.refl _ _) I) h
   refine OC (fun m a' w'=> ∃p,iz (fun rec p=>xu s hh p fun s1=>ex G F t1 x ⟨fun s2=>yP s s2 hh rec,K.ex,K.rt⟩ s1) m p=some y∧Hg r s e hh a' w' p) ao ⟨p0,h1,h2⟩ ?_
   rintro m a1 w1 ⟨p,h3,h4⟩
   cases m with
   |zero=>cases h3
   |succ m=>
    obtain ⟨s1,e1,h5,E1,A1,I1⟩:=Cy h4 h3
    refine ih x ⟨fun s2=>yP s s2 hh (iz (fun rec p=>xu s hh p fun s1=>ex G F t1 x ⟨fun s2=>yP s s2 hh rec,K.ex,K.rt⟩ s1) m),K.ex,K.rt⟩ s1 y e1 a1 w1 _ h5 (hE.trans E1) I1 (fun s2 e2 a2 w2 E2 A2 h6 I2=>?_) (fun i s2 e2 a2 w2 E2 A2 h6 I2=>hx i s2 e2 a2 w2 (E1.trans E2) (A1.trans (A2.le E1.n)) h6 I2) (fun f a2 w2 h6 h7=>hr f a2 w2 h6 h7)
    obtain ⟨p',h7,h8⟩:=yp (vY I (E1.trans E2) (A1.trans (A2.le E1.n)) I2) h6
    exact ⟨m,Nat.lt_succ_self m,p',h7,h8⟩
  |_=>simp [ex] at h
 |cut hh l t1 ih=>
  intro R c K s y e a w Q h hE I hn hx hr
  have h:Option.bind (ex G F t1 c (Gn s hh l) s) (Hx s K hh l)=some y:=by
   cases c<;>simpa only [ex] using h
  obtain ⟨z,h1,h2⟩:=pQ h
  refine ih c (Gn s hh l) s z e a w Q h1 hE I (fun s' e' a' w' E1 A1 h3 I1=>?_) (fun i s' e' a' w' E1 A1 h3 I1=>?_) (fun f a' w' h3 h4=>?_)
  ·obtain ⟨p,h4,h5⟩:=yp (vY I E1 A1 I1) h3
   injection h4 with h4;subst h4
   rw [Je] at h2
   obtain ⟨s2,e2,h6,E2,A2,I2⟩:=Cy h5 h2
   exact hn s2 e2 a' w' E2 A2 h6 I2
  ·obtain ⟨q,h4,h5⟩:=Ik h3
   rw [zd h5] at h2
   obtain ⟨h',p,h6,h7⟩:=zM (vY I E1 A1 I1) h4 h2
   obtain ⟨s2,e2,h8,E2,A2,I2⟩:=Cy h6 h7
   exact hx i s2 e2 a' w' E2 A2 h8 I2
  ·obtain ⟨q,h5,h6⟩:=Ik h3
   rw [zd h6] at h2
   exact hr f a' w' (Hh h5 h2) h4
end
structure Ini (r:Rn) (s:Sy) (i j:Nat) (args:List Value) (L:List Asn) (v0:List PV):Prop where
 wf:Wf r s
 ct: ∀t c,lk s.ct t=some c→t<j
 jp:j<PB
 sl: ∀k v,lk s.sl k=some v→k<i∧ ∃u,args[k]?=some u∧iu r.e0 s v u
 th: ∃L',fB r.e0 s.vs s.ct s.th=some L'∧L'.Perm L
 v0: ∀q k l,de v0 q=some (.sl k l)→q<j→lk s.ct q=some ⟨k,l,q,none⟩
section
variable {r:Rn} {s s':Sy} {L:List Asn} {args:List Value} {v0:List PV}
theorem Ini.grow {i j:Nat} (I:Ini r s i j args L v0) (G:Gr2 r s s') (hc:s'.ct=s.ct) (hj:j+1<PB) (hv: ∀k l,de v0 j≠some (.sl k l)):Ini r s' i (j+1) args L v0:=by
 refine ⟨G.wf,fun t c h=>?_,hj,fun k v h=>?_,?_,fun q k l hq hlt=>?_⟩
 ·rw [hc] at h;exact Nat.lt_succ_of_lt (I.ct t c h)
 ·rw [G.sl] at h;obtain ⟨a,u,b,c⟩:=I.sl k v h;exact ⟨a,u,b,c.mono G.ext⟩
 ·obtain ⟨L',a,b⟩:=I.th;exact ⟨L',by rw [G.th];exact dC G.ext a,b⟩
 ·rw [hc]
  rcases Nat.lt_or_ge q j with h |h
  ·exact I.v0 q k l hq h
  ·obtain rfl:q=j:=by omega
   exact absurd hq (hv k l)
theorem On {i j:Nat} {k:PK} {v:PV} (I:Ini r s i j args L v0) (hp:EB r.w0 r.X r.e0 j k v) (hv:de v0 j=some v) (hj:j+1<PB):Ini r (Cw s j k v).1 i (j+1) args (zm r.e0 j k v++L) v0∧Ext s (Cw s j k v).1∧(Cw s j k v).1.sl=s.sl∧bE r.e0 (Cw s j k v).1 (.a (Cw s j k v).2) (uu r.e0 j v):=by
 have one: ∀ {x:Lf} {u:Value},pI x=true→x.Ok s→x.den r.e0=u→(∀kk l,v≠ .sl kk l)→Ini r (nw s x) i (j+1) args L v0∧Ext s (nw s x)∧(nw s x).sl=s.sl∧bE r.e0 (nw s x) (.a (.t s.n)) u:=by
  intro x u h1 h2 h3 h4
  obtain ⟨G,D⟩:=qb (e:=r.e0) I.wf h1 h2 h3
  exact ⟨I.grow G rfl hj (fun kk l h=>h4 kk l (by rw [hv] at h;injection h)),G.ext,rfl,D⟩
 cases k with
 |int k=>
  obtain ⟨k',x,rfl⟩:=hp
  exact one (x:=.int k' x) rfl ⟨trivial,by simp [Lf.gs]⟩ rfl (fun _ _=>nofun)
 |b=>
  obtain ⟨x,rfl⟩:=hp
  exact one (x:=.bool x) rfl ⟨trivial,by simp [Lf.gs]⟩ rfl (fun _ _=>nofun)
 |s=>
  obtain ⟨x,rfl⟩:=hp
  exact one (x:=.str x) rfl ⟨trivial,by simp [Lf.gs]⟩ rfl (fun _ _=>nofun)
 |sl m E kk=>
  obtain ⟨l,rfl,hm⟩:=hp
  have hjn:j<s.n:=Nat.lt_of_lt_of_le (Nat.lt_of_lt_of_le I.jp (by decide)) I.wf.np
  have hjP:j<NP:=Nat.lt_of_lt_of_le I.jp (by decide)
  have hfr: ∀t,t<j→t≠j:=fun t h=>by omega
  -- whatever the thing is
  have gen: ∀(th:List (Nat×Th)) (ro:List (Nat×Nat)) (T:List Asn),(∀p∈th,p∈s.th∨p.1=j∧((p.2= .row E j)∨(p.2= .kp j∧ ∀u,(r.e0.y j).holds u→Rc u kk.sz (r.e0.a j) l.length (r.e0.c j) (l.flatMap kk.enc))))→
   (∀g t,lk ro g=some t→lk s.ro g=some t∨(g=j∧t=j∧ ∀u L,St r.w0 u L→(∀y∈r.X,y∈L)→Rc u kk.sz (r.e0.a j) l.length (r.e0.c j) (l.flatMap kk.enc)))→
   (∀L' vs ct,lk ct j=some ⟨kk,l,j,none⟩→fB r.e0 vs ct s.th=some L'→ ∃L2,fB r.e0 vs ct th=some L2∧L2.Perm (T++L'))→
   let s2:Sy:= {s with n:=s.n+1,vs:=(s.n,.sl j l.length j)::s.vs,ct:=(j,⟨kk,l,j,none⟩)::s.ct,th:=th,ro:=ro}
   Ini r s2 i (j+1) args (T++L) v0∧Ext s s2∧s2.sl=s.sl∧bE r.e0 s2 (.a (.t s.n)) (.slice (r.e0.a j) l.length (r.e0.c j)):=by
   intro th ro T hth hro hT s2
   have E1:Ext s s2:=⟨fun t x h=>by rw [show s2.vs=(s.n,.sl j l.length j)::s.vs from rfl,lh (by have:=I.wf.vn t x h;omega)];exact h,fun t c h=>by rw [show s2.ct=(j,⟨kk,l,j,none⟩)::s.ct from rfl,lh (hfr t (I.ct t c h))];exact h,by simp [s2]⟩
   have hcj:lk s2.ct j=some ⟨kk,l,j,none⟩:=aR
   have W:Wf r s2:=by
    refine ⟨fun t x h=>?_,fun t c h=>?_,fun t m x h=>?_,fun t c h=>?_,fun t c h l0 it y0 hs=>?_,fun p hp=>?_,fun g ct hp=>?_,fun g t h=>?_,fun t b h=>?_,Nat.le_trans I.wf.np E1.n⟩
    ·rcases aP h with ⟨rfl,rfl⟩ |h
     ·simp [s2]
     ·exact Nat.lt_of_lt_of_le (I.wf.vn t x h) E1.n
    ·rcases aP h with ⟨rfl,rfl⟩ |h
     ·exact Nat.lt_of_lt_of_le hjn E1.n
     ·exact Nat.lt_of_lt_of_le (I.wf.cn t c h) E1.n
    ·rcases aP h with ⟨rfl,hx⟩ |h
     ·cases hx
     ·exact E1.bo (I.wf.nb t m x h)
    ·rcases aP h with ⟨rfl,rfl⟩ |h
     ·exact ⟨_,hcj,rfl,rfl⟩
     ·obtain ⟨d,a,b⟩:=I.wf.rt t c h;exact ⟨d,E1.c _ _ a,b⟩
    ·rcases aP h with ⟨rfl,rfl⟩ |h
     ·cases hs
     ·obtain ⟨k,ix,a,b⟩:=I.wf.si t c h l0 it y0 hs;exact ⟨k,ix,E1.v _ _ a,b⟩
    ·rcases hth p hp with h |⟨h1,h2⟩
     ·exact ⟨Nat.lt_of_lt_of_le (I.wf.th p h).1 E1.n,(I.wf.th p h).2.mono E1⟩
     ·refine ⟨by rw [h1];exact Nat.lt_of_lt_of_le hjn E1.n,?_⟩
      rcases h2 with h2 |⟨h2,_⟩<;>rw [h2]<;>trivial
    ·rcases hth _ hp with h |⟨h1,h2⟩
     ·obtain ⟨a,c,b,d⟩:=I.wf.kp g ct h;exact ⟨a,c,E1.c _ _ b,d⟩
     ·dsimp only at h1 h2
      subst h1
      rcases h2 with h2 |⟨h2,h3⟩
      ·cases h2
      ·injection h2 with h2;subst h2
       exact ⟨hjP,_,hcj,h3⟩
    ·rcases hro g t h with h |⟨rfl,rfl,h3⟩
     ·obtain ⟨a,c,b,d⟩:=I.wf.ro g t h;exact ⟨a,c,E1.c _ _ b,d⟩
     ·exact ⟨hjP,_,hcj,h3⟩
    ·exact E1.v _ _ (I.wf.kn t b h)
   refine ⟨⟨W,fun t c h=>?_,hj,fun k v h=>?_,?_,fun q k l' hq hlt=>?_⟩,E1,rfl,⟨?_,.sl j l.length j,aR,⟨_,hcj,rfl⟩,fun g hg=>?_⟩⟩
   ·rcases aP h with ⟨rfl,rfl⟩ |h
    ·exact Nat.lt_succ_self _
    ·exact Nat.lt_succ_of_lt (I.ct t c h)
   ·obtain ⟨a,u,b,c⟩:=I.sl k v h;exact ⟨a,u,b,c.mono E1⟩
   ·obtain ⟨L',a,b⟩:=I.th
    obtain ⟨L2,c,d⟩:=hT L' s2.vs s2.ct hcj (dC E1 a)
    exact ⟨L2,c,d.trans (b.append_left T)⟩
   ·rcases Nat.lt_or_ge q j with h |h
    ·exact E1.c _ _ (I.v0 q k l' hq h)
    ·obtain rfl:q=j:=by omega
     rw [hv] at hq;injection hq with hq;injection hq with hq1 hq2;subst hq1;subst hq2
     exact hcj
   ·have:lk s2.vs s.n=some (.sl j l.length j):=aR
    simp only [SV1.den,Ax.lf,this,Option.map_some,Lf.den]
   ·simp [Lf.gs] at hg;subst hg;exact Nat.lt_of_lt_of_le hjn E1.n
  have rowc: ∀L' vs ct,lk ct j=some ⟨kk,l,j,none⟩→fB r.e0 vs ct s.th=some L'→ ∃L2,fB r.e0 vs ct ((j,Th.row E j)::s.th)=some L2∧L2.Perm ([tY r.e0 j E kk l]++L'):=by
   intro L' vs ct h1 h2
   refine ⟨tY r.e0 j E kk l::L',?_,List.Perm.refl _⟩
   have:Th.den r.e0 vs ct j (.row E j)=some (tY r.e0 j E kk l):=by simp only [Th.den,h1,Option.map_some];rfl
   simp only [fB,this,h2]
  cases m with
  |ro=>exact gen s.th ((j,j)::s.ro) [] (fun p hp=>.inl hp) (fun g t h=>by
   rcases aP h with ⟨rfl,rfl⟩ |h
   ·exact .inr ⟨rfl,rfl,hm⟩
   ·exact .inl h) (fun L' vs ct _ h=>⟨L',h,List.Perm.refl _⟩)
  |kp=>exact gen ((j,.kp j)::s.th) s.ro [r.e0.y j] (fun p hp=>by
   rcases List.mem_cons.1 hp with rfl |hp
   ·exact .inr ⟨rfl,.inr ⟨rfl,hm⟩⟩
   ·exact .inl hp) (fun g t h=>.inl h) (fun L' vs ct _ h=>⟨r.e0.y j::L',by simp only [fB,Th.den,h],List.Perm.refl _⟩)
  |mu=>exact gen ((j,.row E j)::s.th) s.ro [tY r.e0 j E kk l] (fun p hp=>by
   rcases List.mem_cons.1 hp with rfl |hp
   ·exact .inr ⟨rfl,.inl rfl⟩
   ·exact .inl hp) (fun g t h=>.inl h) rowc
  |tk=>exact gen ((j,.row E j)::s.th) s.ro [tY r.e0 j E kk l] (fun p hp=>by
   rcases List.mem_cons.1 hp with rfl |hp
   ·exact .inr ⟨rfl,.inl rfl⟩
   ·exact .inl hp) (fun g t h=>.inl h) rowc
theorem Eu: ∀ {ks:List PK} {vs:List PV} {s:Sy} {i j:Nat} {L:List Asn},Ini r s i j args L v0→eo r.w0 r.X r.e0 j ks vs→(∀q v,de vs q=some v→de v0 (j+q)=some v)→j+ks.length<PB→
 ∃L',L'.Perm (nB r.e0 j ks vs++L)∧Ini r (iY s j ks vs).1 i (j+ks.length) args L' v0∧Ext s (iY s j ks vs).1∧(iY s j ks vs).1.sl=s.sl∧bE r.e0 (iY s j ks vs).1 (.g (iY s j ks vs).2) (.agg (kX r.e0 j vs).toArray)∧vs.length=ks.length
 | [],vs,s,i,j,L,I,hp,hv,hj=>by
  have:vs=[]:=hp
  subst this
  exact ⟨L,List.Perm.refl _,I,.refl _,rfl,rN,rfl⟩
 |k::ks,vs,s,i,j,L,I,hp,hv,hj=>by
  obtain ⟨v,vr,rfl,h1,h2⟩:=hp
  simp only [List.length_cons] at hj
  obtain ⟨a1,a2,a3,a4⟩:=On I h1 (hv 0 v rfl) (by omega)
  obtain ⟨L',b0,b1,b2,b3,b4,b5⟩:=Eu a1 h2 (fun q v' hq=>by have:=hv (q+1) v' hq;rwa [show j+(q+1)=j+1+q by omega] at this) (by omega)
  have e0:iY s j (k::ks) (v::vr)=((iY (Cw s j k v).1 (j+1) ks vr).1,(Cw s j k v).2::(iY (Cw s j k v).1 (j+1) ks vr).2):=rfl
  rw [e0]
  refine ⟨L',?_,by rw [List.length_cons,show j+(ks.length+1)=j+1+ks.length by omega];exact b1,a2.trans b2,b3.trans a3,mS (a4.mono b2) b4,by simp [b5]⟩
  refine b0.trans ?_
  simp only [nB]
  rw [←List.append_assoc]
  exact (List.perm_append_comm).append_right _
theorem kG {w0:World} {X:List Asn} {e1:Env}: ∀ {ks ks':List PK} {vs:List PV} {j:Nat},eo w0 X e1 j (ks++ks') vs→ ∃v vr,vs=v++vr∧eo w0 X e1 j ks v∧eo w0 X e1 (j+ks.length) ks' vr
 | [],ks',vs,j,h=>⟨[],vs,rfl,rfl,h⟩
 |k::ks,ks',vs,j,h=>by
  obtain ⟨v,r,rfl,h1,h2⟩:=h
  obtain ⟨v',r',rfl,h3,h4⟩:=kG h2
  exact ⟨v::v',r',rfl,⟨v,v',rfl,h1,h3⟩,by rw [List.length_cons,show j+(ks.length+1)=j+1+ks.length by omega];exact h4⟩
theorem jI {w0:World} {X:List Asn} {e1:Env}: ∀ {ks:List PK} {vs:List PV} {j:Nat},eo w0 X e1 j ks vs→vs.length=ks.length
 | [],vs,j,h=>by rw [show vs=[] from h];rfl
 |k::ks,vs,j,h=>by obtain ⟨v,r,rfl,_,h2⟩:=h;simp [jI h2]
theorem Ini.slot {i j:Nat} (I:Ini r s i j args L v0) {v:SV} {u:Value} (hu:args[i]?=some u) (hd:iu r.e0 s v u):Ini r (lj s (some i) v) (i+1) j args L v0:=by
 have E:=Ej s (some i) v
 refine ⟨IP I.wf _ _,I.ct,I.jp,fun k v' h=>?_,by obtain ⟨L',a,b⟩:=I.th;exact ⟨L',dC E a,b⟩,I.v0⟩
 rcases aP h with ⟨rfl,rfl⟩ |h
 ·exact ⟨Nat.lt_succ_self _,u,hu,hd.mono E⟩
 ·obtain ⟨a,u',b,c⟩:=I.sl k v' h;exact ⟨Nat.lt_succ_of_lt a,u',b,c.mono E⟩
theorem Ini.perm {i j:Nat} {L2:List Asn} (I:Ini r s i j args L v0) (h:L.Perm L2):Ini r s i j args L2 v0:=⟨I.wf,I.ct,I.jp,I.sl,by obtain ⟨L',a,b⟩:=I.th;exact ⟨L',a,b.trans h⟩,I.v0⟩
theorem HP: ∀ {ps:List Prm} {vs:List PV} {s:Sy} {i j:Nat} {L:List Asn},Ini r s i j args L v0→eo r.w0 r.X r.e0 j (jK ps) vs→(∀q v,de vs q=some v→de v0 (j+q)=some v)→j+(jK ps).length<PB→i+ps.length≤PB→(∀q u,(bQ r.e0 i j ps vs)[q]?=some u→args[i+q]?=some u)→
 ∃L',L'.Perm (cT r.e0 i j ps vs++L)∧Ini r (qZ s i j ps vs) (i+ps.length) (j+(jK ps).length) args L' v0
 | [],vs,s,i,j,L,I,hp,hv,hj,hi,ha=>⟨L,List.Perm.refl _,by simpa [qZ,jK] using I⟩
 |p::ps,vs,s,i,j,L,I,hp,hv,hj,hi,ha=>by
  have hpk:jK (p::ps)=p.ks++jK ps:=by simp [jK]
  rw [hpk] at hp hj
  simp only [List.length_append] at hj
  simp only [List.length_cons] at hi
  obtain ⟨v,vr,rfl,h1,h2⟩:=kG hp
  have hl:=jI h1
  obtain ⟨L1,b0,b1,b2,b3,b4,b5⟩:=Eu I h1 (fun q x hq=>hv q x (pJ hq)) (by omega)
  have hv2: ∀q x,de vr q=some x→de v0 (j+p.ks.length+q)=some x:=fun q x hq=>by
   have:=hv (p.ks.length+q) x (by rw [←hl,rT];exact hq)
   rwa [←Nat.add_assoc] at this
  have sd: ∀ {s2:Sy} {L2:List Asn} {T:List Asn} {u:Value},Ini r s2 (i+1) (j+p.ks.length) args L2 v0→L2.Perm (T++L)→bQ r.e0 i j (p::ps) (v++vr)=u::bQ r.e0 (i+1) (j+p.ks.length) ps vr→cT r.e0 i j (p::ps) (v++vr)=T++cT r.e0 (i+1) (j+p.ks.length) ps vr→qZ s i j (p::ps) (v++vr)=qZ s2 (i+1) (j+p.ks.length) ps vr→
   ∃L',L'.Perm (cT r.e0 i j (p::ps) (v++vr)++L)∧Ini r (qZ s i j (p::ps) (v++vr)) (i+(p::ps).length) (j+(jK (p::ps)).length) args L' v0:=by
   intro s2 L2 T u I2 hL2 hargs hth hini
   obtain ⟨L',c1,c2⟩:=HP I2 h2 hv2 (by omega) (by omega) (fun q u' hq=>by
    have:=ha (q+1) u' (by rw [hargs];simpa using hq)
    rwa [show i+(q+1)=i+1+q by omega] at this)
   refine ⟨L',?_,?_⟩
   ·rw [hth]
    refine c1.trans ((hL2.append_left _).trans ?_)
    rw [←List.append_assoc]
    exact (List.perm_append_comm).append_right _
   ·rw [hini,hpk,List.length_append,List.length_cons,show i+(ps.length+1)=i+1+ps.length by omega,←Nat.add_assoc]
    exact c2
  have hu0: ∀ {u:Value} {tl:List Value},bQ r.e0 i j (p::ps) (v++vr)=u::tl→args[i]?=some u:=fun h=>by
   have:=ha 0 _ (by rw [h];rfl)
   simpa using this
  have ht:(v++vr).take p.ks.length=v:=by rw [←hl];simp
  have hdr:(v++vr).drop p.ks.length=vr:=by rw [←hl];simp
  cases p with
  |o k=>
   have hv1: ∃x,v=[x]:=by
    cases v with
    |nil=>simp [Prm.ks] at hl
    |cons x v=>cases v with
     |nil=>exact ⟨x,rfl⟩
     |cons=>simp [Prm.ks] at hl
   obtain ⟨x,rfl⟩:=hv1
   have hxs: ∃y,(iY s j [k] [x]).2=[y]:=⟨_,rfl⟩
   obtain ⟨y,hy⟩:=hxs
   have hargs:bQ r.e0 i j (.o k::ps) ([x]++vr)=uu r.e0 j x::bQ r.e0 (i+1) (j+1) ps vr:=rfl
   have d1:bE r.e0 (iY s j [k] [x]).1 (.a y) (uu r.e0 j x):=by
    obtain ⟨z,zr,he,q1,_⟩:=lv (show bE r.e0 (iY s j [k] [x]).1 (.g [y]) (.agg (uu r.e0 j x:: []).toArray) by rw [←hy];exact b4)
    injection he with he _;subst he;exact q1
   exact sd (T:=nB r.e0 j [k] [x]) (b1.slot (v:=.v (.a y)) (hu0 hargs) d1) b0 hargs rfl (by
    have e1:qZ s i j (.o k::ps) ([x]++vr)=qZ (lj (iY s j [k] [x]).1 (some i) (.v (match (iY s j [k] [x]).2 with |x::_=>.a x | []=>.g []))) (i+1) (j+1) ps vr:=rfl
    rw [e1,hy];rfl)
  |g ks=>
   have ht:(v++vr).take ks.length=v:=ht
   have hdr:(v++vr).drop ks.length=vr:=hdr
   have hargs:bQ r.e0 i j (.g ks::ps) (v++vr)= .agg (kX r.e0 j v).toArray::bQ r.e0 (i+1) (j+ks.length) ps vr:=by simp only [bQ,ht,hdr]
   exact sd (T:=nB r.e0 j ks v) (b1.slot (v:=.v (.g (iY s j ks v).2)) (hu0 hargs) b4) b0 hargs (by simp only [cT,Prm.ks,ht,hdr]) (by simp only [qZ,ht,hdr];rfl)
  |bx T ks=>
   have ht:(v++vr).take ks.length=v:=ht
   have hdr:(v++vr).drop ks.length=vr:=hdr
   have hargs:bQ r.e0 i j (.bx T ks::ps) (v++vr)= .pointer (some ⟨r.e0.b (PB+i),0,none⟩)::bQ r.e0 (i+1) (j+ks.length) ps vr:=by simp only [bQ,hdr]
   let s1:=(iY s j ks v).1
   let s2:Sy:= {s1 with n:=s1.n+1,vs:=(s1.n,.pt (PB+i) 0)::s1.vs,th:=(PB+i,.box T (iY s j ks v).2)::s1.th}
   have hbn:PB+i<s1.n:=Nat.lt_of_lt_of_le (show PB+i<NP by unfold PB NP at*;omega) b1.wf.np
   have E2:Ext s1 s2:=qW b1.wf (fun t h=>lh (by omega)) (fun t h=>rfl) (by simp [s2])
   have b4:bE r.e0 s1 (.g (iY s j ks v).2) (.agg (kX r.e0 j v).toArray):=b4
   have b1:Ini r s1 i (j+ks.length) args L1 v0:=b1
   have W:Wf r s2:=b1.wf.grow E2 (fun t x h=>by
    rcases aP h with ⟨rfl,rfl⟩ |h
    ·exact .inr ⟨by simp [s2],nofun⟩
    ·exact .inl h) (fun t c h=>.inl h) (fun p hp=>by
    rcases List.mem_cons.1 hp with rfl |hp
    ·exact .inr ⟨Nat.lt_of_lt_of_le hbn E2.n,fun x hx=>(b4.2 x hx).mono E2,nofun⟩
    ·exact .inl hp) rfl (fun t b h=>.inl h)
   have hden:Th.den r.e0 s2.vs s2.ct (PB+i) (.box T (iY s j ks v).2)=some (.box (r.e0.b (PB+i)) T (kX r.e0 j v).toArray):=by
    have:=b4.1
    simp only [SV1.den,Option.map_eq_some_iff,Value.agg.injEq] at this
    obtain ⟨ls,l1,l2⟩:=this
    simp only [Th.den,E2.lfs l1,Option.map_some,l2]
   have I2:Ini r s2 i (j+ks.length) args (.box (r.e0.b (PB+i)) T (kX r.e0 j v).toArray::L1) v0:=by
    refine ⟨W,b1.ct,b1.jp,fun k v' h=>?_,?_,b1.v0⟩
    ·obtain ⟨a,u,b,c⟩:=b1.sl k v' h;exact ⟨a,u,b,c.mono E2⟩
    ·obtain ⟨L',a,b⟩:=b1.th
     exact ⟨_::L',ay.2 ⟨_,L',hden,dC E2 a,rfl⟩,b.cons _⟩
   have d2:bE r.e0 s2 (.a (.t s1.n)) (.pointer (some ⟨r.e0.b (PB+i),0,none⟩)):=by
    refine ⟨?_,.pt (PB+i) 0,aR,trivial,fun g hg=>?_⟩
    ·have:lk s2.vs s1.n=some (.pt (PB+i) 0):=aR
     simp only [SV1.den,Ax.lf,this,Option.map_some,Lf.den]
    ·simp [Lf.gs] at hg;subst hg;exact Nat.lt_of_lt_of_le hbn E2.n
   exact sd (T:=.box (r.e0.b (PB+i)) T (kX r.e0 j v).toArray::nB r.e0 j ks v) (I2.slot (v:=.v (.a (.t s1.n))) (hu0 hargs) d2) (b0.cons _) hargs (by simp only [cT,ht,hdr];rfl) (by simp only [qZ,ht,hdr];rfl)
end
structure Ou (P:Program) (G:Cx) (r:Rn) (sI s:Sy) (e:Env) (a:Act) (w:World) (v0:List PV):Prop where
 g:GP P G
 I:Inv r e a w s
 E:Ext sI s
 pv: ∀q k l,de v0 q=some (.sl k l)→lk sI.ct q=some ⟨k,l,q,none⟩
 lt:v0.length<PB
section
variable {P:Program} {G:Cx} {r:Rn} {sI s:Sy} {e:Env} {a:Act} {w:World} {v0:List PV} (O:Ou P G r sI s e a w v0)
include O
theorem Ou.par {j n rt:Nat} {k:EK} {l:List k.ty} (hv:de v0 j=some (.sl k l)) (hk:(Lf.sl j n rt).Ok s) (hrt:rt=j):(Lf.sl j n rt).den e=uu r.e0 j (.sl k l):=by
 subst hrt
 have hj:rt<NP:=Nat.lt_of_lt_of_le (CK hv) (Nat.le_trans (Nat.le_of_lt O.lt) (show PB≤NP by decide))
 obtain ⟨c,c1,c2⟩:=hk.1
 rw [O.E.c _ _ (O.pv _ _ _ hv)] at c1
 injection c1 with c1;subst c1
 have:=O.I.par rt hj
 simp only [Lf.den,uu,this.2.1,this.2.2.1,c2]
theorem Ou.outA {k:RK} {x:Ax} {v:PV} {ids:List (Option Nat)} {u:Value} (h:outA s k x=some (v,ids)) (hd:bE e s (.a x) u) (hal: ∀j,k= .al j→ ∃kk l,de v0 j=some (.sl kk l)): ∃A0 A,k.res r.e0 (tP v0) v u A∧gI s e ids A0∧mN A0 A:=by
 obtain ⟨y,hy,hk⟩:=hd.2
 have hu:y.den e=u:=by have:=hd.1;simpa [SV1.den,hy] using this
 cases k with
 |int k=>
  simp only [Go.Proofs.YtjdlgannencchaaGreatDoor.outA,hy] at h
  split at h
  ·rename_i k' v hh
   injection h with h;injection h with h1 h2;subst h1;subst h2
   injection hh with hh;subst hh
   exact ⟨[],[],⟨_,_,rfl,hu.symm,rfl⟩,rfl,rfl⟩
  ·cases h
 |b=>
  simp only [Go.Proofs.YtjdlgannencchaaGreatDoor.outA,hy] at h
  split at h
  ·rename_i b hb
   injection h with h;injection h with h1 h2;subst h1;subst h2
   exact ⟨[],[],⟨_,rfl,by rw [←hu,jV hb],rfl⟩,rfl,rfl⟩
  ·cases h
 |s=>
  simp only [Go.Proofs.YtjdlgannencchaaGreatDoor.outA,hy] at h
  split at h
  ·rename_i v hh
   injection h with h;injection h with h1 h2;subst h1;subst h2
   injection hh with hh;subst hh
   exact ⟨[],[],⟨_,rfl,hu.symm,rfl⟩,rfl,rfl⟩
  ·cases h
 |al j=>
  simp only [Go.Proofs.YtjdlgannencchaaGreatDoor.outA,hy] at h
  split at h
  ·rename_i hh
   injection h with h;injection h with h1 h2;subst h1;subst h2
   injection hh with hh;subst hh
   exact ⟨[],[],⟨false,rfl,hu.symm,rfl⟩,rfl,rfl⟩
  ·rename_i g n rt hh
   cases hb:(Nat.beq g j&&Nat.beq rt j) with
   |false=>rw [hb] at h;cases h
   |true=>
    rw [hb] at h
    injection h with h;injection h with h1 h2;subst h1;subst h2
    injection hh with hh;subst hh
    simp only [Bool.and_eq_true] at hb
    have e1:=iA hb.1;have e2:=iA hb.2
    subst e1
    obtain ⟨kk,l,hv⟩:=hal g rfl
    have:=O.par hv hk e2
    rw [hu] at this
    refine ⟨[],[],⟨true,rfl,?_,rfl⟩,rfl,rfl⟩
    rw [this]
    simp only [uu,Nn,FG,cond_true,tP,hv]
  ·cases h
 |row E k=>
  simp only [Go.Proofs.YtjdlgannencchaaGreatDoor.outA,hy] at h
  split at h
  ·rename_i hh
   injection h with h;injection h with h1 h2;subst h1;subst h2
   injection hh with hh;subst hh
   exact ⟨_,[.row E k.sz (.slice none 0 0) 0 []],⟨[],none,0,rfl,hu.symm,by rw [←hu];rfl⟩,⟨_,[],rfl,⟨E,k.sz,.inl rfl⟩,rfl⟩,mN.refl _⟩
  ·rename_i g n rt hh
   injection hh with hh;subst hh
   split at h
   ·rename_i ct l hth hl
    injection h with h;injection h with h1 h2;subst h1;subst h2
    obtain ⟨ct',c,q1,q2,q3,q4,q5,q6⟩:=rJ O.I.wf hk hl
    have hth:=cS hth
    obtain ⟨ck,cl,crt,csi⟩:=c
    dsimp only at q3;subst q3;dsimp only at q4;subst q4
    simp only [sZ,hth,Option.some.injEq] at q1
    subst q1
    subst q6
    exact ⟨_,[.row E ck.sz u cl.length (cl.flatMap ck.enc)],⟨cl,e.a g,e.c g,rfl,hu.symm,rfl⟩,⟨_,[],_,rfl,hth,⟨_,by simp only [Th.den,q2,Option.map_some];rw [←hu];rfl,te.refl _⟩,rfl⟩,mN.refl _⟩
   ·cases h
  ·rename_i g ct sz n lo hi pre hh
   injection hh with hh;subst hh
   split at h
   ·rename_i ct1 l hth hl
    injection h with h;injection h with h1 h2;subst h1;subst h2
    obtain ⟨a1,a2⟩:=MY hk (cS hth) hl hu
    exact ⟨_,[.row E k.sz u l.length (l.flatMap k.enc)],⟨l,_,_,rfl,a1,rfl⟩,⟨_,[],_,rfl,cS hth,a2,rfl⟩,mN.refl _⟩
   ·cases h
  ·rename_i g n rt hh
   injection hh with hh;subst hh
   split at h
   ·rename_i ct1 l hth hl
    injection h with h;injection h with h1 h2;subst h1;subst h2
    obtain ⟨ct',c,q1,q2,q3,q4,q5,q6⟩:=rJ (n:=n) (rt:=rt) O.I.wf hk hl
    have hth:=cS hth
    obtain ⟨ck,cl,crt,csi⟩:=c
    dsimp only at q3;subst q3;dsimp only at q4;subst q4
    simp only [sZ,hth,Option.some.injEq] at q1
    subst q1
    subst q6
    refine ⟨_,[.row E ck.sz u cl.length (cl.flatMap ck.enc)],⟨cl,_,_,rfl,hu.symm,rfl⟩,⟨_,[],_,rfl,hth,⟨_,by simp only [Th.den,q2,Option.map_some];rfl,?_⟩,rfl⟩,mN.refl _⟩
    rw [←hu]
    cases cl with
    |nil=>exact te.nil
    |cons x cl=>exact te.refl _
   ·cases h
  ·cases h
 |part k=>
  simp only [Go.Proofs.YtjdlgannencchaaGreatDoor.outA,hy] at h
  split at h
  ·rename_i hh
   injection h with h;injection h with h1 h2;subst h1;subst h2
   injection hh with hh;subst hh
   exact ⟨_,[.part k.sz (.slice none 0 0) 0 []],⟨[],none,0,rfl,hu.symm,by rw [←hu];rfl⟩,⟨_,[],rfl,⟨0,k.sz,.inr rfl⟩,rfl⟩,mN.refl _⟩
  ·rename_i g n rt hh
   injection hh with hh;subst hh
   have sd: ∀ {l:List k.ty} {x:Th} {ct:Nat},sf s k (.sl g n rt)=some l→lk s.th g=some x→((∃E,x= .row E ct)∨x= .part ct)→v= .sl k l→ids=[some g]→ ∃A0 A,(RK.part k).res r.e0 (tP v0) v u A∧gI s e ids A0∧mN A0 A:=by
    rintro l x ct hl hth hx rfl rfl
    obtain ⟨ct',c,q1,q2,q3,q4,q5,q6⟩:=rJ O.I.wf hk hl
    obtain ⟨ck,cl,crt,csi⟩:=c
    dsimp only at q3;subst q3;dsimp only at q4;subst q4
    subst q6
    rcases hx with ⟨E,rfl⟩ |rfl
    ·simp only [sZ,hth,Option.some.injEq] at q1
     subst q1
     exact ⟨[.row E ck.sz u cl.length (cl.flatMap ck.enc)],[.part ck.sz u cl.length (cl.flatMap ck.enc)],⟨cl,e.a g,e.c g,rfl,hu.symm,rfl⟩,⟨_,[],_,rfl,hth,⟨_,by simp only [Th.den,q2,Option.map_some];rw [←hu];rfl,te.refl _⟩,rfl⟩,⟨_,[],rfl,te.part,rfl⟩⟩
    ·simp only [sZ,hth,Option.some.injEq] at q1
     subst q1
     exact ⟨_,[.part ck.sz u cl.length (cl.flatMap ck.enc)],⟨cl,e.a g,e.c g,rfl,hu.symm,rfl⟩,⟨_,[],_,rfl,hth,⟨_,by simp only [Th.den,q2,Option.map_some];rw [←hu];rfl,te.refl _⟩,rfl⟩,mN.refl _⟩
   split at h
   ·rename_i hth hl
    injection h with h;injection h with h1 h2
    exact sd hl hth (.inl ⟨_,rfl⟩) h1.symm h2.symm
   ·rename_i hth hl
    injection h with h;injection h with h1 h2
    exact sd hl hth (.inr rfl) h1.symm h2.symm
   ·cases h
  ·cases h
def VE (v0:List PV) (k:RK):Prop:= ∀j,k= .al j→ ∃kk l,de v0 j=some (.sl kk l)
theorem Ou.outAs: ∀ {ks:List RK} {xs:List Ax} {vs:List PV} {ids:List (Option Nat)} {us:List Value},outAs s ks xs=some (vs,ids)→bE e s (.g xs) (.agg us.toArray)→(∀k∈ks,VE v0 k)→ ∃A0 A,Mr r.e0 (tP v0) ks vs us A∧gI s e ids A0∧mN A0 A
 | [],[],vs,ids,us,h,hd,_=>by
  injection h with h;injection h with h1 h2;subst h1;subst h2
  have hu:us=[]:=by have:=hd.1;simp [SV1.den,lfs] at this;exact this
  subst hu
  exact ⟨[],[],⟨rfl,rfl,rfl⟩,rfl,rfl⟩
 | [],_::_,vs,ids,us,h,_,_=>by cases h
 |_::_,[],vs,ids,us,h,_,_=>by cases h
 |k::ks,x::xs,vs,ids,us,h,hd,hal=>by
  simp only [Go.Proofs.YtjdlgannencchaaGreatDoor.outAs] at h
  split at h
  ·rename_i v t vs' ts h1 h2
   injection h with h;injection h with h3 h4;subst h3;subst h4
   have hus: ∃u ur,us=u::ur:=by
    have:=hd.1
    simp only [SV1.den,Option.map_eq_some_iff,Value.agg.injEq] at this
    obtain ⟨ls,q1,q2⟩:=this
    obtain ⟨z,q,_,_,rfl⟩:=bh.1 q1
    have:List.map (Lf.den e) (z::q)=us:=by simpa using q2
    exact ⟨_,_,this.symm⟩
   obtain ⟨u,ur,rfl⟩:=hus
   obtain ⟨x',xr,he,hx,hxr⟩:=lv hd
   injection he with e1 e2;subst e1;subst e2
   obtain ⟨A0,A,a1,a2,a3⟩:=O.outA h1 hx (hal k (by simp))
   obtain ⟨B0,B,b1,b2,b3⟩:=Ou.outAs h2 hxr fun k' hk'=>hal k' (by simp [hk'])
   exact ⟨A0++B0,A++B,⟨v,vs',u,ur,A,B,rfl,rfl,rfl,a1,b1⟩,a2.app b2,a3.app b3⟩
  ·cases h
theorem Ou.rvA {rv:ResultVar} {x:SV1} (h:rvA G s rv=some x): ∃u,(CU a rv).run P w= .ok u w∧bE e s x u:=by
 cases rv with
 |tmp k=>
  simp only [Go.Proofs.YtjdlgannencchaaGreatDoor.rvA] at h
  split at h
  ·rename_i y hy
   injection h with h;subst h
   exact ⟨sl a k,fp (gJ rfl),O.I.slot k _ hy⟩
  ·cases h
 |cell k T=>
  simp only [Go.Proofs.YtjdlgannencchaaGreatDoor.rvA] at h
  split at h
  ·rename_i z i hz hT
   split at h
   ·rename_i g off hx
    split at h
    ·rename_i T' cs hg
     have M:=O.I.mem g
     obtain ⟨l,h4,h5⟩:=M.bk _ _ hg
     have hlen:=kH h4
     have ht:=O.g.ty hT
     have hcs:=(O.I.wf.th _ (fS hg)).2
     have hp:a.eval (.tmp k)= .pointer (some ⟨e.b g,off,none⟩):=by
      have:=(O.I.slot k _ hz).1
      simp only [SV1.den,hx,Option.map_some,Option.some.injEq] at this
      exact gJ this.symm
     cases ha:FF i.d with
     |true=>
      rw [ha] at h
      simp only [cond_true] at h
      cases hb:Nat.ble (off+i.sz) cs.length with
      |false=>rw [hb] at h;cases h
      |true=>
       rw [hb] at h
       injection h with h;subst h
       have hle:off+i.sz≤cs.length:=by simpa using hb
       have hs:=wa off i.sz h4
       have hsz:((jQ l off i.sz).map (Lf.den e)).toArray.size=i.sz:=by simp [uf (show off+i.sz≤l.length by omega)]
       refine ⟨.agg ((jQ l off i.sz).map (Lf.den e)).toArray,Ff hp (JG (ht.agg ha) hsz (h5.cells off _ ?_)),by simp [SV1.den,hs],fun z hz=>hcs z ?_⟩
       ·rw [hsz,Dq];simp [jQ]
       ·exact List.mem_of_mem_drop (List.mem_of_mem_take hz)
     |false=>
      rw [ha] at h
      simp only [cond_false] at h
      split at h
      ·rename_i z' hz'
       injection h with h;subst h
       obtain ⟨u,h6,h7⟩:=CB h4 hz'
       have hc:w.cell? ⟨e.b g,off,none⟩=some (u.den e):=h5.cell (by simp [h7])
       exact ⟨u.den e,Ff hp (JF (ht.tone ha) hc),by simp [SV1.den,h6],hcs z' (wd hz')⟩
      ·cases h
    ·cases h
   ·cases h
  ·cases h
theorem Ou.outRs: ∀ {rs:List RSh} {rv:List ResultVar} {vs:List PV} {ids:List (Option Nat)},outRs G s rs rv=some (vs,ids)→(∀k∈rs.flatMap RSh.ks,VE v0 k)→ ∃us A0 A,(rv.mapM (CU a)).run P w= .ok us w∧Ms r.e0 (tP v0) rs vs us A∧gI s e ids A0∧mN A0 A
 | [],[],vs,ids,h,_=>by
  injection h with h;injection h with h1 h2;subst h1;subst h2
  exact ⟨[],[],[],rfl,⟨rfl,rfl,rfl⟩,rfl,rfl⟩
 | [],_::_,vs,ids,h,_=>by cases h
 |p::_,[],vs,ids,h,_=>by cases p<;>cases h
 | .o k::rs,v::rv,vs,ids,h,hal=>by
  simp only [Go.Proofs.YtjdlgannencchaaGreatDoor.outRs] at h
  split at h
  ·rename_i x b u h1 h2
   split at h
   ·rename_i v1 t h3
    injection h with h;injection h with h4 h5;subst h4;subst h5
    obtain ⟨uv,c1,c2⟩:=O.rvA h1
    obtain ⟨A0,A,a1,a2,a3⟩:=O.outA h3 c2 (hal k (by simp [RSh.ks]))
    obtain ⟨us,B0,B,b0,b1,b2,b3⟩:=Ou.outRs h2 fun k' hk'=>hal k' (by simp only [List.flatMap_cons];exact List.mem_append_right _ hk')
    refine ⟨uv::us,A0++B0,A++B,?_,⟨v1,b,uv,us,A,B,rfl,rfl,rfl,a1,b1⟩,a2.app b2,a3.app b3⟩
    rw [List.mapM_cons]
    simp only [Sem.run_bind,c1,Result.andThen_ok,b0,Sem.run_pure]
   ·cases h
  ·cases h
 | .g ks::rs,v::rv,vs,ids,h,hal=>by
  simp only [Go.Proofs.YtjdlgannencchaaGreatDoor.outRs] at h
  split at h
  ·rename_i xs b u h1 h2
   split at h
   ·rename_i v1 t h3
    injection h with h;injection h with h4 h5;subst h4;subst h5
    obtain ⟨uv,c1,c2⟩:=O.rvA h1
    obtain ⟨ul,rfl⟩: ∃ul:List Value,uv= .agg ul.toArray:=by
     have:=c2.1
     simp only [SV1.den,Option.map_eq_some_iff] at this
     obtain ⟨l,_,rfl⟩:=this
     exact ⟨_,rfl⟩
    obtain ⟨A0,A,a1,a2,a3⟩:=O.outAs h3 c2 fun k' hk'=>hal k' (by simp only [List.flatMap_cons,RSh.ks];exact List.mem_append_left _ hk')
    obtain ⟨us,B0,B,b0,b1,b2,b3⟩:=Ou.outRs h2 fun k' hk'=>hal k' (by simp only [List.flatMap_cons];exact List.mem_append_right _ hk')
    refine ⟨.agg ul.toArray::us,A0++B0,A++B,?_,⟨v1,b,ul,us,A,B,rfl,rfl,rfl,a1,b1⟩,a2.app b2,a3.app b3⟩
    rw [List.mapM_cons]
    simp only [Sem.run_bind,c1,Result.andThen_ok,b0,Sem.run_pure]
   ·cases h
  ·cases h
theorem Ou.outCs: ∀ {ks:List PK} {j:Nat} {xs:List Ax} {vs v:List PV} {ids:List (Option Nat)} {us:List Value},outCs s j ks xs=some (v,ids)→bE e s (.g xs) (.agg us.toArray)→eo r.w0 r.X r.e0 j ks vs→(∀q x,de vs q=some x→de v0 (j+q)=some x)→ ∃A0 A,Mq r.e0 (tP v0) ks (kX r.e0 j vs) v us A∧gI s e ids A0∧mN A0 A
 | [],j,[],vs,v,ids,us,h,hd,hp,_=>by
  injection h with h;injection h with h1 h2;subst h1;subst h2
  have hu:us=[]:=by have:=hd.1;simp [SV1.den,lfs] at this;exact this
  subst hu
  rw [show vs=[] from hp]
  exact ⟨[],[],⟨rfl,rfl,rfl,rfl⟩,rfl,rfl⟩
 | [],j,_::_,vs,v,ids,us,h,_,_,_=>by cases h
 |k::_,j,[],vs,v,ids,us,h,_,_,_=>by cases h
 |k::ks,j,x::xs,vs,v,ids,us,h,hd,hp,hv=>by
  obtain ⟨pv,pr,rfl,p1,p2⟩:=hp
  have hus: ∃u ur,us=u::ur:=by
   have:=hd.1
   simp only [SV1.den,Option.map_eq_some_iff,Value.agg.injEq] at this
   obtain ⟨ls,q1,q2⟩:=this
   obtain ⟨z,q,_,_,rfl⟩:=bh.1 q1
   have:List.map (Lf.den e) (z::q)=us:=by simpa using q2
   exact ⟨_,_,this.symm⟩
  obtain ⟨u,ur,rfl⟩:=hus
  obtain ⟨x',xr,he,hx,hxr⟩:=lv hd
  injection he with e1 e2;subst e1;subst e2
  have hv': ∀q x,de pr q=some x→de v0 (j+1+q)=some x:=fun q x hq=>by
   have:=hv (q+1) x hq
   rwa [show j+(q+1)=j+1+q by omega] at this
  simp only [Go.Proofs.YtjdlgannencchaaGreatDoor.outCs] at h
  split at h
  ·rename_i rk rks b t hc h2
   split at h
   ·rename_i v1 t1 h1
    injection h with h;injection h with h4 h5;subst h4;subst h5
    obtain ⟨A0,A,a1,a2,a3⟩:=O.outA h1 hx (fun q hq=>by
     subst hq
     cases k with
     |sl m E kk=>cases m<;>cases hc
     |_=>cases hc)
    obtain ⟨B0,B,b1,b2,b3⟩:=Ou.outCs h2 hxr p2 hv'
    refine ⟨A0++B0,A++B,⟨_,_,u,ur,rfl,rfl,?_⟩,a2.app b2,a3.app b3⟩
    rw [hc]
    exact ⟨v1,b,A,B,rfl,rfl,a1,b1⟩
   ·cases h
  ·rename_i b t hc h2
   split at h
   ·rename_i g n rt hh
    cases hb:(Nat.beq g j&&Nat.beq rt j) with
    |false=>rw [hb] at h;cases h
    |true=>
     rw [hb] at h
     injection h with h;injection h with h4 h5;subst h4;subst h5
     simp only [Bool.and_eq_true] at hb
     have e1:=iA hb.1;have e2:=iA hb.2
     subst e1
     obtain ⟨y,hy,hk⟩:=hx.2
     rw [hh] at hy;injection hy with hy;subst hy
     obtain ⟨B0,B,b1,b2,b3⟩:=Ou.outCs h2 hxr p2 hv'
     refine ⟨B0,B,⟨_,_,u,ur,rfl,rfl,?_⟩,b2,b3⟩
     rw [hc]
     refine ⟨?_,b1⟩
     have hsl: ∃kk l,pv= .sl kk l:=by
      cases k with
      |sl m E kk=>obtain ⟨l,rfl,_⟩:=p1;exact ⟨kk,l,rfl⟩
      |_=>cases hc
     obtain ⟨kk,l,rfl⟩:=hsl
     have:=O.par (hv 0 _ rfl) hk e2
     have hu:=hx.1
     simp only [SV1.den,hh,Option.map_some,Option.some.injEq] at hu
     rw [←hu];exact this
   ·cases h
  ·cases h
theorem Ou.outBs: ∀ {ps:List Prm} {i j:Nat} {vs v:List PV} {ids:List (Option Nat)},outBs s i j ps=some (v,ids)→eo r.w0 r.X r.e0 j (jK ps) vs→(∀q x,de vs q=some x→de v0 (j+q)=some x)→i+ps.length≤PB→ ∃A0 A,yH r.e0 (tP v0) i j ps vs v A∧gI s e ids A0∧mN A0 A
 | [],i,j,vs,v,ids,h,hp,_,_=>by
  injection h with h;injection h with h1 h2;subst h1;subst h2
  exact ⟨[],[],⟨rfl,rfl⟩,rfl,rfl⟩
 |p::ps,i,j,vs,v,ids,h,hp,hv,hi=>by
  rw [show jK (p::ps)=p.ks++jK ps by simp [jK]] at hp
  obtain ⟨va,vb,rfl,p1,p2⟩:=kG hp
  have hl:=jI p1
  simp only [List.length_cons] at hi
  have ht:(va++vb).take p.ks.length=va:=by rw [←hl];simp
  have hdr:(va++vb).drop p.ks.length=vb:=by rw [←hl];simp
  have hv2: ∀q x,de vb q=some x→de v0 (j+p.ks.length+q)=some x:=fun q x hq=>by
   have:=hv (p.ks.length+q) x (by rw [←hl,rT];exact hq)
   rwa [←Nat.add_assoc] at this
  cases p with
  |o k=>
   obtain ⟨A0,A,a1,a2,a3⟩:=Ou.outBs (i:=i+1) (j:=j+1) (by simpa only [Go.Proofs.YtjdlgannencchaaGreatDoor.outBs,Prm.ks,List.length_singleton] using h) p2 hv2 (by omega)
   exact ⟨A0,A,by have hdr:(va++vb).drop 1=vb:=hdr
                  show yH r.e0 (tP v0) (i+1) (j+1) ps ((va++vb).drop 1) v A
                  rw [hdr];exact a1,a2,a3⟩
  |g ks=>
   obtain ⟨A0,A,a1,a2,a3⟩:=Ou.outBs (i:=i+1) (j:=j+ks.length) (by simpa only [Go.Proofs.YtjdlgannencchaaGreatDoor.outBs,Prm.ks] using h) p2 hv2 (by omega)
   exact ⟨A0,A,by have hdr:(va++vb).drop ks.length=vb:=hdr
                  show yH r.e0 (tP v0) (i+1) (j+ks.length) ps ((va++vb).drop ks.length) v A
                  rw [hdr];exact a1,a2,a3⟩
  |bx T ks=>
   have hdr:(va++vb).drop ks.length=vb:=hdr
   have ht:(va++vb).take ks.length=va:=ht
   simp only [Go.Proofs.YtjdlgannencchaaGreatDoor.outBs] at h
   split at h
   ·rename_i T' xs b u hg h2
    cases hb:Nat.beq T T' with
    |false=>rw [hb] at h;cases h
    |true=>
     rw [hb] at h
     have eT:=iA hb;subst eT
     simp only [cond_true] at h
     split at h
     ·rename_i v1 t1 h1
      injection h with h;injection h with h4 h5;subst h4;subst h5
      have hok:=(O.I.wf.th _ (fS hg)).2
      obtain ⟨q,hq⟩: ∃q,lfs s.vs xs=some q:=by
       obtain ⟨L,hL,_⟩:=O.I.st
       obtain ⟨y,R,h',_,_⟩:=lK hL hg
       simp only [Th.den,Option.map_eq_some_iff] at h'
       obtain ⟨l,h',_⟩:=h'
       exact ⟨l,h'⟩
      obtain ⟨A0,A,a1,a2,a3⟩:=O.outCs (us:=q.map (Lf.den e)) h1 ⟨by simp [SV1.den,hq],hok⟩ p1 (fun q x hq=>hv q x (pJ hq))
      obtain ⟨B0,B,b1,b2,b3⟩:=Ou.outBs h2 p2 hv2 (by omega)
      have hbe:e.b (PB+i)=r.e0.b (PB+i):=(O.I.par (PB+i) (by unfold PB NP at*;omega)).1
      refine ⟨.box (r.e0.b (PB+i)) T (q.map (Lf.den e)).toArray::(A0++B0),_,⟨v1,b,q.map (Lf.den e),A,B,rfl,rfl,by rw [ht];exact a1,by rw [hdr];exact b1⟩,?_,?_⟩
      ·refine ⟨_,A0++B0,_,rfl,hg,⟨_,by simp only [Th.den,hq,hbe,Option.map_some],te.refl _⟩,a2.app b2⟩
      ·exact ⟨_,A++B,rfl,te.refl _,a3.app b3⟩
     ·cases h
   ·cases h
theorem Ou.outRw: ∀ {ks:List PK} {j:Nat} {vs v:List PV} {ids:List (Option Nat)},outRw s j ks=some (v,ids)→eo r.w0 r.X r.e0 j ks vs→(∀q x,de vs q=some x→de v0 (j+q)=some x)→ ∃A,yI r.e0 j ks vs v A∧gI s e ids A
 | [],j,vs,v,ids,h,_,_=>by
  injection h with h;injection h with h1 h2;subst h1;subst h2
  exact ⟨[],⟨rfl,rfl⟩,rfl⟩
 |k::ks,j,vs,v,ids,h,hp,hv=>by
  obtain ⟨pv,pr,rfl,p1,p2⟩:=hp
  have hv': ∀q x,de pr q=some x→de v0 (j+1+q)=some x:=fun q x hq=>by
   have:=hv (q+1) x hq
   rwa [show j+(q+1)=j+1+q by omega] at this
  have hjv:de v0 j=some pv:=hv 0 pv rfl
  have hj:j<NP:=Nat.lt_of_lt_of_le (CK hjv) (Nat.le_trans (Nat.le_of_lt O.lt) (show PB≤NP by decide))
  have hpar:=O.I.par j hj
  have gen:Go.Proofs.YtjdlgannencchaaGreatDoor.outRw s (j+1) ks=some (v,ids)→ ∃A,yI r.e0 (j+1) ks pr v A∧gI s e ids A:=fun h=>Ou.outRw h p2 hv'
  cases k with
  |int k=>exact gen h
  |b=>exact gen h
  |s=>exact gen h
  |sl m E kk=>
   cases m with
   |ro=>exact gen h
   |tk=>exact gen h
   |mu=>
    obtain ⟨l0,rfl,_⟩:=p1
    simp only [Go.Proofs.YtjdlgannencchaaGreatDoor.outRw] at h
    split at h
    ·rename_i ct b u hth h2
     split at h
     ·rename_i c hc
      cases hb:Nat.beq c.rt j with
      |false=>rw [hb] at h;cases h
      |true=>
       rw [hb] at h
       simp only [cond_true] at h
       split at h
       ·rename_i l hl
        injection h with h;injection h with h4 h5;subst h4;subst h5
        obtain ⟨A,a1,a2⟩:=Ou.outRw h2 p2 hv'
        have hth:=cS hth
        obtain ⟨d,d1,d2,d3⟩:=O.I.wf.rt _ _ hc
        rw [iA hb,O.E.c _ _ (O.pv _ _ _ hjv)] at d1
        injection d1 with d1;subst d1
        obtain ⟨ck,cl,crt,csi⟩:=c
        obtain ⟨q,hq⟩:=gc hl
        dsimp only at q;subst q;dsimp only at hq;subst hq
        refine ⟨tY r.e0 j E ck cl::A,⟨l0,cl,pr,b,A,rfl,rfl,d2,rfl,a1⟩,_,A,_,rfl,hth,⟨_,?_,te.refl _⟩,a2⟩
        simp only [Th.den,hc,Option.map_some,tY,hpar.2.1,hpar.2.2.1];rfl
       ·cases h
     ·cases h
    ·cases h
   |kp=>
    simp only [Go.Proofs.YtjdlgannencchaaGreatDoor.outRw] at h
    split at h
    ·rename_i ct b u hth h2
     injection h with h;injection h with h4 h5;subst h4;subst h5
     obtain ⟨A,a1,a2⟩:=Ou.outRw h2 p2 hv'
     exact ⟨r.e0.y j::A,⟨A,rfl,a1⟩,_,A,_,rfl,hth,⟨_,by simp only [Th.den,hpar.2.2.2],te.refl _⟩,a2⟩
    ·cases h
theorem Ou.outWs: ∀ {ps:List Prm} {j:Nat} {vs v:List PV} {ids:List (Option Nat)},outWs s j ps=some (v,ids)→eo r.w0 r.X r.e0 j (jK ps) vs→(∀q x,de vs q=some x→de v0 (j+q)=some x)→ ∃A,yJ r.e0 j ps vs v A∧gI s e ids A
 | [],j,vs,v,ids,h,_,_=>by
  injection h with h;injection h with h1 h2;subst h1;subst h2
  exact ⟨[],⟨rfl,rfl⟩,rfl⟩
 |p::ps,j,vs,v,ids,h,hp,hv=>by
  rw [show jK (p::ps)=p.ks++jK ps by simp [jK]] at hp
  obtain ⟨va,vb,rfl,p1,p2⟩:=kG hp
  have hl:=jI p1
  have ht:(va++vb).take p.ks.length=va:=by rw [←hl];simp
  have hdr:(va++vb).drop p.ks.length=vb:=by rw [←hl];simp
  have hv2: ∀q x,de vb q=some x→de v0 (j+p.ks.length+q)=some x:=fun q x hq=>by
   have:=hv (p.ks.length+q) x (by rw [←hl,rT];exact hq)
   rwa [←Nat.add_assoc] at this
  have gen:(match Go.Proofs.YtjdlgannencchaaGreatDoor.outRw s j p.ks,Go.Proofs.YtjdlgannencchaaGreatDoor.outWs s (j+p.ks.length) ps with
   |some (a,t),some (b,u)=>some (a++b,t++u)
   |_,_=>none)=some (v,ids)→ ∃v1 v2 A1 A2,v=v1++v2∧yI r.e0 j p.ks va v1 A1∧yJ r.e0 (j+p.ks.length) ps vb v2 A2∧gI s e ids (A1++A2):=by
   intro h
   split at h
   ·rename_i h1 h2
    injection h with h;injection h with h4 h5;subst h4;subst h5
    obtain ⟨A,a1,a2⟩:=O.outRw h1 p1 (fun q x hq=>hv q x (pJ hq))
    obtain ⟨B,b1,b2⟩:=Ou.outWs h2 p2 hv2
    exact ⟨_,_,A,B,rfl,a1,b1,a2.app b2⟩
   ·cases h
  cases p with
  |o k=>
   obtain ⟨v1,v2,A1,A2,rfl,a1,a2,a3⟩:=gen h
   exact ⟨A1++A2,⟨v1,v2,A1,A2,rfl,rfl,by rw [ht];exact a1,by rw [hdr];exact a2⟩,a3⟩
  |g ks=>
   obtain ⟨v1,v2,A1,A2,rfl,a1,a2,a3⟩:=gen h
   exact ⟨A1++A2,⟨v1,v2,A1,A2,rfl,rfl,by rw [ht];exact a1,by rw [hdr];exact a2⟩,a3⟩
  |bx T ks=>
   have hdr:(va++vb).drop ks.length=vb:=hdr
   obtain ⟨A,a1,a2⟩:=Ou.outWs (j:=j+ks.length) (by simpa only [Go.Proofs.YtjdlgannencchaaGreatDoor.outWs] using h) p2 hv2
   exact ⟨A,by show yJ r.e0 (j+ks.length) ps ((va++vb).drop ks.length) v A
               rw [hdr];exact a1,a2⟩
end
def Qn (P:Program) (r:Rn) (F:Sg) (v0:List PV) (f:F.R) (a:Act) (w:World):Prop:=
 a.defers=[]∧ ∃us A,(F.rv.mapM (CU a)).run P w= .ok us w∧yR r.e0 F.ps F.rs v0 (uh RK.put (rC F.ps F.rs) f) us A∧St r.w0 w (A++r.X)
theorem HC {P:Program} {G:Cx} {F:Sg} {r:Rn} {sI s:Sy} {e:Env} {a:Act} {w:World} {v0:List PV} {R:Type} {y:R} {k:F.R→Option R} (O:Ou P G r sI s e a w v0) (hp:eo r.w0 r.X r.e0 0 (jK F.ps) v0) (hi:F.ps.length≤PB) (hal: ∀k∈F.rs.flatMap RSh.ks,VE v0 k) (h:KV G F s k=some y): ∃f,k f=some y∧Qn P r F v0 f a w:=by
 unfold KV at h
 split at h
 ·rename_i v1 i1 v2 i2 v3 i3 h1 h2 h3
  cases hb:bz ((i1++(i2++i3)).filterMap id) with
  |false=>rw [hb] at h;cases h
  |true=>
   rw [hb] at h
   simp only [cond_true] at h
   split at h
   ·rename_i f hf
    have hv: ∀q x,de v0 q=some x→de v0 (0+q)=some x:=fun q x h=>by rw [Nat.zero_add];exact h
    obtain ⟨us,A0,A,a0,a1,a2,a3⟩:=O.outRs h1 hal
    obtain ⟨B0,B,b1,b2,b3⟩:=O.outBs h2 hp hv (by omega)
    obtain ⟨C,c1,c2⟩:=O.outWs h3 hp hv
    obtain ⟨L,hL,hS⟩:=O.I.st
    have S1:=St.ids hL hS (a2.app (b2.app c2)) hb
    have S2:=St.wkns (P:=[]) (B:=A++(B++C)) (by simpa using S1) (a3.app (b3.app (mN.refl C)))
    refine ⟨f,h,O.I.df,us,A++(B++C),a0,⟨v1,v2,v3,A,B,C,?_,rfl,a1,b1,c1⟩,by simpa using S2⟩
    exact Dw (put:=RK.put) (fun k v a h=>Mt h) hf
   ·cases h
 ·cases h
def VQ (ps:List PK) (k:RK):Bool:=match k with
 | .al j=>(match de ps j with |some (.sl _ _ _)=>true |_=>false)
 |_=>true
theorem Kk {w0:World} {X:List Asn} {e:Env}: ∀ {ks:List PK} {vs:List PV} {j q:Nat},eo w0 X e j ks vs→(match de ks q with |some (.sl _ _ _)=>true |_=>false)=true→ ∃kk l,de vs q=some (.sl kk l)
 | [],vs,j,q,_,h=>by simp [de] at h
 |k::ks,vs,j,q,hp,h=>by
  obtain ⟨v,vr,rfl,h1,h2⟩:=hp
  cases q with
  |zero=>
   cases k with
   |sl m E kk=>obtain ⟨l,rfl,_⟩:=h1;exact ⟨kk,l,rfl⟩
   |_=>cases h
  |succ q=>exact Kk (q:=q) h2 h
theorem Qz {P:Program} {G:Cx} {c:Ctr} {fn:Func} {body:Code} {rv:List ResultVar} {n:Nat} {crt:Crt} (hm:P.follows .mixedOrders=true) (hQ:GQ P G) (hf:P.funcs[c.f]?=some fn) (hb:fn.body=some body) (hn:fn.ntmps=n) (hr:fn.results=rv.toArray) (hal:(c.rs.flatMap RSh.ks).all (VQ (jK c.ps))=true)
 (he: ∀x,c.m x=VJ G ⟨c.ps,c.rs,rv,n⟩ crt body x):Kf P c:=by
 intro x res hx e w0 w X hbs hp hS
 rw [he] at hx
 unfold VJ at hx
 dsimp only at hx
 cases hbb:(Nat.blt (jK c.ps).length PB&&Nat.blt c.ps.length PB&&Nat.ble c.ps.length n) with
 |false=>rw [hbb] at hx;cases hx
 |true=>
  rw [hbb] at hx
  simp only [cond_true] at hx
  simp only [Bool.and_eq_true] at hbb
  obtain ⟨⟨k1,k2⟩,k3⟩:=hbb
  have k1:(jK c.ps).length<PB:=by simpa using k1
  have k2:c.ps.length<PB:=by simpa using k2
  have k3:c.ps.length≤n:=by simpa using k3
  let v0:=uh PK.put (jK c.ps) x
  let args:=bQ e 0 0 c.ps v0
  let r:Rn:=⟨w0,X,n,e,hbs⟩
  have hlen: ∀ {ps:List Prm} {vs:List PV} {i j:Nat},eo w0 X e j (jK ps) vs→(bQ e i j ps vs).length=ps.length:=by
   intro ps
   induction ps with
   |nil=>intro vs i j _;rfl
   |cons p ps ih=>
    intro vs i j h
    rw [show jK (p::ps)=p.ks++jK ps by simp [jK]] at h
    obtain ⟨va,vb,rfl,p1,p2⟩:=kG h
    have hl:=jI p1
    cases p with
    |o k=>
     have hdr:(va++vb).drop 1=vb:=by rw [show 1=va.length from hl.symm];simp
     have ht:(va++vb).take 1=va:=by rw [show 1=va.length from hl.symm];simp
     have hl:va.length=1:=hl
     simp only [bQ,hdr,ht,List.length_append,yS,List.length_cons,ih (j:=j+1) p2,hl]
     omega
    |g ks=>
     have hdr:(va++vb).drop ks.length=vb:=by rw [show ks.length=va.length from hl.symm];simp
     simp only [bQ,hdr,List.length_cons,ih (j:=j+ks.length) p2]
    |bx T ks=>
     have hdr:(va++vb).drop ks.length=vb:=by rw [show ks.length=va.length from hl.symm];simp
     simp only [bQ,hdr,List.length_cons,ih (j:=j+ks.length) p2]
  have hal':args.length=c.ps.length:=hlen hp
  refine calls_of_wp hf hb ?_
  let a0:Act:= {tmps:=args.toArray++Array.replicate (fn.ntmps-args.toArray.size) undef,defers:=[]}
  have hW0:Wf r Sp:=⟨nofun,nofun,nofun,nofun,nofun,nofun,nofun,nofun,nofun,Nat.le_refl _⟩
  have I0:Ini r Sp 0 0 args [] v0:=⟨hW0,nofun,by decide,nofun,⟨[],rfl,List.Perm.refl _⟩,fun q k l _ h=>by omega⟩
  obtain ⟨L',h1,h2⟩:=HP I0 hp (fun q v h=>by rw [Nat.zero_add];exact h) (by omega) (by omega) (fun q u h=>by rw [Nat.zero_add];exact h)
  rw [List.append_nil] at h1
  have hI:Inv r e a0 w (qZ Sp 0 0 c.ps v0):=by
   refine ⟨?_,rfl,fun k v hk=>?_,?_,h2.wf,dg.refl _ _⟩
   ·show (args.toArray++Array.replicate (fn.ntmps-args.toArray.size) undef).size=n
    simp only [Array.size_append,List.size_toArray,Array.size_replicate,hn];omega
   ·obtain ⟨q1,u,q2,q3⟩:=h2.sl k v hk
    obtain ⟨q4,_⟩:=List.getElem?_eq_some_iff.1 q2
    have:sl a0 k=u:=by
     show (args.toArray++Array.replicate (fn.ntmps-args.toArray.size) undef)[k]?.getD undef=u
     rw [Array.getElem?_append_left (by simpa using q4)]
     simp [q2]
    rw [this];exact q3
   ·obtain ⟨L2,l1,l2⟩:=h2.th
    exact ⟨L2,l1,hS.perm ((l2.trans h1).symm.append_right _)⟩
  have hOu: ∀ {s:Sy} {e':Env} {a:Act} {w':World},Ext (qZ Sp 0 0 c.ps v0) s→Inv r e' a w' s→Ou P G r (qZ Sp 0 0 c.ps v0) s e' a w' v0:=fun hE I=>⟨hQ.gp,I,hE,fun q k l hq=>h2.v0 q k l hq (by
   have:=CK hq
   rw [jI hp] at this;omega),by rw [jI hp];exact k1⟩
  have hAl: ∀k∈c.rs.flatMap RSh.ks,VE v0 k:=by
   intro k hk j hj
   have:=List.all_eq_true.1 hal k hk
   subst hj
   exact Kk (q:=j) hp this
  have hend: ∀ {f:Dy ((rC c.ps c.rs).map RK.ty)} {a:Act} {w':World},f=res→Qn P r ⟨c.ps,c.rs,rv,n⟩ v0 f a w'→a.defers=[]∧ ∃v,(results fn a.tmps).run P w'= .ok v w'∧ ∃us A,Ending.returned v= .returned (GG us)∧yR e c.ps c.rs v0 (uh RK.put (rC c.ps c.rs) res) us A∧St w0 w' (A++X):=by
   rintro f a w' rfl ⟨hd,us,A,g1,g2,g3⟩
   refine ⟨hd,GG us,?_,us,A,rfl,g2,g3⟩
   rw [xW,hr,List.mapM_toArray,map_eq_pure_bind]
   have g1:(rv.mapM (CU a)).run P w'= .ok us w':=g1
   simp only [Sem.run_bind,g1,Result.andThen_ok,Sem.run_pure]
   congr 1
   cases us with
   |nil=>rfl
   |cons u us=>cases us with
    |nil=>rfl
    |cons u2 us=>simp [GG]
  refine Uv (F:=⟨c.ps,c.rs,rv,n⟩) (sI:=qZ Sp 0 0 c.ps v0) hm hQ rfl (Qn P r ⟨c.ps,c.rs,rv,n⟩ v0) (fun hE I h=>HC (hOu hE I) hp (Nat.le_of_lt k2) hAl h) crt body _ _ res e a0 w _ hx (.refl _) hI (fun s' e' a' w' E1 A1 h1 I1=>?_) (fun i s' e' a' w' E1 A1 h1 I1=>by cases h1) (fun f a' w' h1 h2=>?_)
  ·obtain ⟨f,q1,q2⟩:=HC (hOu E1 I1) hp (Nat.le_of_lt k2) hAl h1
   injection q1 with q1
   exact hend q1 q2
  ·injection h1 with h1
   exact hend h1 h2
def bD (P:Program) (c:Ctr):Prop:=CallOk P c.f∧Kf P c
def Nq (P:Program):List Ctr→Prop
 | []=>True
 |c::l=>bD P c∧Nq P l
theorem DT {P:Program}: ∀ {l:List Ctr},Nq P l→ ∀c∈l,bD P c
 |c::l,h,d,hd=>by
  rcases List.mem_cons.1 hd with rfl |hd
  ·exact h.1
  ·exact DT h.2 d hd
def Nr (P:Program):List (Nat×EK)→Prop
 | []=>True
 |p::l=>VF P p.1 p.2∧Nr P l
theorem Ei {P:Program}: ∀ {l:List (Nat×EK)},Nr P l→ ∀ {T k},lk l T=some k→VF P T k
 | [],_,T,k,h=>by cases h
 |(d,x)::l,h,T,k,hx=>by
  rcases aP hx with ⟨rfl,rfl⟩ |hx
  ·exact h.1
  ·exact Ei h.2 hx
theorem XD {P:Program} {ti:List (Nat×TyI)} {eq:List (Nat×EK)} {cs:List Ctr} {op:List (Nat×Nat)} {c:Ctr} {fn:Func} {body:Code} {rv:List ResultVar} {n:Nat} {crt:Crt} (ht:FB P ti=true) (hq:Nr P eq) (hm:P.follows .mixedOrders=true) (hcs:Nq P cs) (hop:DG P op) (hco:CallOk P c.f) (hf:P.funcs[c.f]?=some fn) (hb:fn.body=some body) (hn:fn.ntmps=n) (hr:fn.results=rv.toArray) (hal:(c.rs.flatMap RSh.ks).all (VQ (jK c.ps))=true)
 (he: ∀x,c.m x=VJ ⟨ti,eq,cs,op⟩ ⟨c.ps,c.rs,rv,n⟩ crt body x):bD P c:=
 ⟨hco,Qz (G:=⟨ti,eq,cs,op⟩) hm ⟨⟨fun h=>zH ht h,fun h=>Ei hq h⟩,DT hcs,hop⟩ hf hb hn hr hal he⟩
theorem PT {P:Program} {f:FuncId} {ps:List Prm} {own:Bool} {m:Dy ((jK ps).map PK.ty)→Option (Dy ((rC ps [.o .b]).map RK.ty))} (hc:bD P ⟨f,ps,[.o .b],own,m⟩) {x:Dy ((jK ps).map PK.ty)} {res:Dy ((rC ps [.o .b]).map RK.ty)} (hm:m x=some res) {e:Env} {w:World} {b:Bool} {args:List Value}
 (hbs:Bs w) (hp:eo w [] e 0 (jK ps) (uh PK.put (jK ps) x)) (ht:cT e 0 0 ps (uh PK.put (jK ps) x)=[]) (ha:bQ e 0 0 ps (uh PK.put (jK ps) x)=args) (ho:uh RK.put (rC ps [.o .b]) res=[.b b]):Calls P f args.toArray w fun en w'=>en= .returned (.bool b)∧St w w' []:=by
 have h:=hc.2 x res hm e w w [] hbs hp (by rw [ht];exact St.nil w)
 rw [ha] at h
 refine h.mono ?_
 rintro en w' ⟨us,A,rfl,⟨v1,v2,v3,A1,A2,A3,hv,rfl,h1,h2,h3⟩,S⟩
 obtain ⟨v,vr,u,ur,B1,B2,rfl,rfl,rfl,⟨z,rfl,rfl,rfl⟩,rfl,rfl,rfl⟩:=h1
 rw [ho] at hv
 have:b=z:=by
  simp only [List.cons_append,List.nil_append,List.cons.injEq,PV.b.injEq] at hv
  exact hv.1
 subst this
 exact ⟨rfl,S.sub (List.nil_sublist _)⟩
def RS (l:List (Option Addr×Nat)):Env:=⟨fun _=>0,fun j=>(l.getD j (none,0)).1,fun j=>(l.getD j (none,0)).2,fun _=>.box 0 0 #[]⟩
def SE (c n:Nat) (A:Option Addr):Option Addr:=if 2000<n then bm c (0:Int).toNat 1 A else A
theorem MT (l:List Int):l.take 2000=ac l 0 2000:=by simp [ac]
theorem JR (c:Nat) (A:Option Addr):bm c (0:Int).toNat 1 A=A:=by
 unfold bm
 split
 ·rfl
 ·cases A with
  |none=>rfl
  |some a=>simp [Addr.add]
theorem OL (c n:Nat) (A:Option Addr):SE c n A=bm c (0:Int).toNat 1 A:=by
 unfold SE
 split
 ·rfl
 ·exact (JR c A).symm
theorem ES {α:Type} (l:List α):ac l 0 (ER l.length)=l.take 2000:=by
 simp only [ac,ER,Int.toNat_zero,List.drop_zero,Nat.sub_zero,Int.toNat_natCast]
 rw [Nat.min_def]
 split
 ·rfl
 ·rw [List.take_length,List.take_of_length_le (by omega)]
theorem OM {P:Program} {f T:Nat} (hc:CallOk P f) (h: ∀ {x0:List Int} {A0:Option Addr} {n0 c0:Nat} {w:World},Rt w 1 eU A0 n0 c0 x0→Calls P f #[.slice A0 n0 c0] w (fun e w'=> ∃G0,e= .returned (.pointer (some ⟨G0,0,none⟩))∧St w w' [.box G0 T #[.slice (SE c0 n0 A0) (x0.take 2000).length c0,.int .i64 0]])):FK P f T:=
 ⟨hc,fun x0 A0 n0 c0 w hr=>by
  have:=h hr
  rw [OL,←ES] at this
  exact this⟩
end Go.Proofs.YtjdlgannencchaaGreatDoor
namespace Go.Proofs.YtjdlgannencchaaGreatDoor
open Go.Lib
set_option linter.unusedVariables false
def fq (c:UInt8):List UInt8→List (List UInt8)
 | []=> [[]]
 |x::l=>if x=c then []::fq c l else match fq c l with
  | []=> [[x]]
  |y::r=>(x::y)::r
theorem vT (c:UInt8): ∀l,fq c l≠ []
 | []=>by simp [fq]
 |x::l=>by
  have:=vT c l
  unfold fq;split
  ·simp
  ·split<;>simp
theorem tp (c:UInt8): ∀l,(fq c l).length=l.count c+1
 | []=>rfl
 |x::l=>by
  have h:=tp c l
  have hn:=vT c l
  unfold fq;split
  ·rename_i e;subst e;simp [h]
  ·rename_i e
   rw [List.count_cons_of_ne e]
   split
   ·contradiction
   ·rename_i e2;rw [e2] at h;simpa using h
theorem zk (c:UInt8): ∀l,join (fq c l) [c]=l
 | []=>by simp [fq,join_one]
 |x::l=>by
  have h:=zk c l
  have hn:=vT c l
  unfold fq;split
  ·rename_i e;subst e
   rw [join_cons]
   cases hc:fq x l with
   |nil=>contradiction
   |cons y r=>rw [hc,join_cons] at h;simp [joinTail,←h]
  ·split
   ·contradiction
   ·rename_i y r e2
    rw [e2,join_cons] at h
    rw [join_cons,←h];simp
theorem yZ (c:UInt8): ∀l,c∉l→fq c l=[l]
 | [],_=>rfl
 |x::l,h=>by
  simp only [List.mem_cons,not_or] at h
  unfold fq
  rw [if_neg (fun e=>h.1 e.symm),yZ c l h.2]
theorem IZ (c x:UInt8) (l:List UInt8):fq c (x::l)=if x=c then []::fq c l else match fq c l with
 | []=> [[x]]
 |y::r=>(x::y)::r:=rfl
theorem DV (c:UInt8) (b:List UInt8): ∀a,c∉a→fq c (a++c::b)=a::fq c b
 | [],_=>by simp [fq]
 |x::a,h=>by
  simp only [List.mem_cons,not_or] at h
  rw [List.cons_append,IZ,if_neg (fun e=>h.1 e.symm),DV c b a h.2]
theorem xp (c:UInt8) (b:List UInt8): ∀a,c∉a→index (a++c::b) [c]=(a.length:Int)
 | [],_=>by unfold index;simp [List.isPrefixOf]
 |x::a,h=>by
  simp only [List.mem_cons,not_or] at h
  have ih:=xp c b a h.2
  rw [List.cons_append]
  unfold index
  rw [ih]
  have h1:([c].isPrefixOf (x::(a++c::b)))=false:=by simp [List.isPrefixOf,h.1]
  have h2:(((a.length:Nat):Int)== -1)=false:=by rw [beq_eq_false_iff_ne];omega
  rw [h1,h2]
  simp
theorem OE {c:UInt8} {l:List UInt8} (h:c∈l): ∃a b,l=a++c::b∧c∉a:=by
 induction l with
 |nil=>cases h
 |cons x l ih=>
  by_cases e:x=c
  ·subst e;exact ⟨[],l,rfl,by simp⟩
  ·obtain ⟨a,b,rfl,k⟩:=ih (by simpa [Ne.symm e] using h)
   exact ⟨x::a,b,rfl,by simp [Ne.symm e,k]⟩
theorem ye (c:UInt8): ∀(k:Nat) (l:List UInt8),l.count c=k→splitK [c] 0 k l=fq c l
 |0,l,h=>by
  have:c∉l:=List.count_eq_zero.1 h
  rw [yZ c l this];rfl
 |k+1,l,h=>by
  have hm:c∈l:=List.count_pos_iff.1 (by omega)
  obtain ⟨a,b,rfl,hn⟩:=OE hm
  rw [DV c b a hn]
  unfold splitK
  rw [xp c b a hn]
  have h2:(((a.length:Nat):Int)== -1)=false:=by rw [beq_eq_false_iff_ne];omega
  rw [h2]
  have hc:b.count c=k:=by
   rw [List.count_append,List.count_cons_self,List.count_eq_zero.2 hn] at h;omega
  have:=ye c k b hc
  simp [this]
def mH (c:UInt8):Bool:=decide (48≤c.toNat)&&decide (c.toNat≤57)
def dv (c:UInt8):Nat:=c.toNat-48
def lE (l:List UInt8):Nat:=l.foldl (fun n c=>10*n+dv c) 0
def Gc (l:List UInt8):Int:=if 1≤l.length∧l.length≤3∧l.all mH=true then (lE l:Int) else-1
def iy (l:List UInt8):Int:=if (1≤l.length∧l.length≤3∧l.all mH=true)∧ ¬(1<l.length∧l.headD 0=48) then (lE l:Int) else-1
theorem tJ {c:UInt8} (h:mH c=true):48≤c.toNat∧c.toNat≤57:=by simpa [mH] using h
theorem po {c:UInt8} (h:mH c=true):dv c<10:=by have:=tJ h;unfold dv;omega
theorem rO {c:UInt8} (h:mH c=true):UInt8.ofNat (48+dv c)=c:=by
 have:=tJ h
 have e:48+dv c=c.toNat:=by unfold dv;omega
 rw [e];simp
theorem Hv {c:UInt8} (h:mH c=true):c=48↔dv c=0:=by
 have:=tJ h
 constructor
 ·rintro rfl;rfl
 ·intro e
  have e1:c.toNat=48:=by unfold dv at e;omega
  exact UInt8.toNat_inj.1 (by rw [e1];rfl)
theorem NS (l:List UInt8) (h:1≤l.length∧l.length≤3∧l.all mH=true):decDigits (lE l)=l↔ ¬(1<l.length∧l.headD 0=48):=by
 obtain ⟨h1,h2,h3⟩:=h
 match l,h1,h2,h3 with
 | [a],_,_,h3=>
  have ha:mH a=true:=by simpa using h3
  have h0:lE [a]=dv a:=by simp [lE]
  rw [h0,decDigits_one (po ha),rO ha];simp
 | [a,b],_,_,h3=>
  simp only [List.all_cons,List.all_nil,Bool.and_true,Bool.and_eq_true] at h3
  obtain ⟨ha,hb⟩:=h3
  have la:=po ha;have lb:=po hb
  have h0:lE [a,b]=10*dv a+dv b:=by simp [lE]
  rw [h0]
  simp only [List.length_cons,List.length_nil,List.headD_cons,Hv ha]
  by_cases hz:dv a=0
  ·rw [hz,decDigits_one (by omega)];simp
  ·rw [decDigits_two (by omega) (by omega),show (10*dv a+dv b) / 10=dv a by omega,show (10*dv a+dv b) % 10=dv b by omega,rO ha,rO hb];simp [hz]
 | [a,b,c],_,_,h3=>
  simp only [List.all_cons,List.all_nil,Bool.and_true,Bool.and_eq_true] at h3
  obtain ⟨ha,hb,hc⟩:=h3
  have la:=po ha;have lb:=po hb;have lc:=po hc
  have h0:lE [a,b,c]=10*(10*dv a+dv b)+dv c:=by simp [lE]
  rw [h0]
  simp only [List.length_cons,List.length_nil,List.headD_cons,Hv ha]
  by_cases hz:dv a=0
  ·have hl:(decDigits (10*(10*dv a+dv b)+dv c)).length≤2:=by
    rw [hz]
    by_cases h10:10*(10*0+dv b)+dv c<10
    ·rw [decDigits_one h10];simp
    ·rw [decDigits_two h10 (by omega)];simp
   constructor
   ·intro e;rw [e] at hl;simp at hl
   ·intro e;exact absurd ⟨by omega,hz⟩ e
  ·rw [decDigits,dif_neg (by omega),decDigits_two (by omega) (by omega),show (10*(10*dv a+dv b)+dv c) / 10 / 10=dv a by omega,show (10*(10*dv a+dv b)+dv c) / 10 % 10=dv b by omega,show (10*(10*dv a+dv b)+dv c) % 10=dv c by omega,rO ha,rO hb,rO hc];simp [hz]
theorem LW (l:List UInt8):(0≤Gc l∧decDigits (Gc l).toNat=l)↔0≤iy l:=by
 unfold Gc iy
 by_cases h:1≤l.length∧l.length≤3∧l.all mH=true
 ·rw [if_pos h,Int.toNat_natCast,NS l h]
  by_cases h2:1<l.length∧l.headD 0=48
  ·rw [if_neg (fun k=>k.2 h2)];exact ⟨fun k=>absurd h2 k.2,fun k=>by omega⟩
  ·rw [if_pos ⟨h,h2⟩];simp only [h2,not_false_eq_true,and_true]
 ·rw [if_neg h,if_neg (fun k=>h k.1)];simp
theorem qT {l:List UInt8} (h:0≤iy l):Gc l=iy l:=by
 unfold iy at*
 split at h
 ·rename_i k;rw [if_pos k];unfold Gc;rw [if_pos k.1]
 ·omega
theorem MX (l:List UInt8) (h:l.length≤3∧l.all mH=true):lE l<1000:=by
 obtain ⟨h2,h3⟩:=h
 match l,h2,h3 with
 | [],_,_=>simp [lE]
 | [a],_,h3=>have:=po (c:=a) (by simpa using h3);simp [lE];omega
 | [a,b],_,h3=>
  simp only [List.all_cons,List.all_nil,Bool.and_true,Bool.and_eq_true] at h3
  have:=po h3.1;have:=po h3.2;simp [lE];omega
 | [a,b,c],_,h3=>
  simp only [List.all_cons,List.all_nil,Bool.and_true,Bool.and_eq_true] at h3
  have:=po h3.1;have:=po h3.2.1;have:=po h3.2.2;simp [lE];omega
theorem QD (l:List UInt8): -1≤Gc l∧Gc l<1000:=by
 unfold Gc;split
 ·rename_i h;have:=MX l h.2;omega
 ·omega
theorem OH (l:List UInt8): -1≤iy l∧iy l<1000:=by
 unfold iy;split
 ·rename_i h;have:=MX l h.1.2;omega
 ·omega
end Go.Proofs.YtjdlgannencchaaGreatDoor
namespace Go.Proofs.YtjdlgannencchaaGreatDoor
open Go.Lib
set_option linter.unusedVariables false
def bH (l:List UInt8):ByteArray:=⟨l.toArray⟩
theorem iB (l:List UInt8):(bH l).data.toList=l:=by simp [bH]
theorem pb (l:List UInt8):(bH l).toList=l:=by rw [ByteArray.toList_eq];exact iB l
theorem iC (l:List UInt8):(bH l).size=l.length:=by show l.toArray.size=l.length;simp
theorem wK (s:ByteArray):bH s.data.toList=s:=by cases s;simp [bH]
def bj (n:Int):Option ByteArray:=au (decide (-9223372036854775808≤n∧n≤9223372036854775807)) (some (bH (itoa n)))
def ey (s sep:ByteArray):Option (List ByteArray):=au (decide (s.size<4294967281)&&decide (sep=bH [32])) (some ((fq 32 s.data.toList).map bH))
def cQ (xs:List ByteArray) (sep:ByteArray):Option ByteArray:=au (decide ((join (xs.map (·.data.toList)) sep.data.toList).length≤140737488355328∧xs.length≤140737488355328)) (some (bH (join (xs.map (·.data.toList)) sep.data.toList)))
def cf (n:Int):Option ByteArray:=au (decide (0≤n∧n≤9223372036854775807)) (some (bH (decDigits n.toNat)))
def LR (b:Int) (ls:List (Int×Int×Int)):List UInt8:=itoa b++ls.flatMap fun x=>32::(itoa x.1++45::(itoa x.2.1++58::itoa x.2.2))
def SD (n:Int):Bool:=decide (-9223372036854775808≤n∧n≤9223372036854775807)
def LQ (b:Int) (ls:List (Int×Int×Int)):Bool:=SD b&&decide (ls.length≤1000)&&ls.all fun x=>SD x.1&&SD x.2.1&&SD x.2.2
def HU:List (ByteArray×Int):=[(⟨#[111,110]⟩,0),(⟨#[111,102,102]⟩,1),(⟨#[101,97,114,116,104]⟩,2),(⟨#[99,108,101,97,114]⟩,3),(⟨#[98,114,101,97,107]⟩,6)]
def HV:List (ByteArray×Int):=[(⟨#[105,115,115,117,101]⟩,4),(⟨#[114,101,116,117,114,110]⟩,5),(⟨#[109,101,110,100]⟩,7)]
def rq:List (ByteArray×Int)→ByteArray→Int×Bool
 | [],_=>(0,false)
 |(k,v)::l,s=>bif s==k then (v,true) else rq l s
end Go.Proofs.YtjdlgannencchaaGreatDoor
namespace Go.Proofs
open Go.Shelf
def Tryz.lays169_ren:Go.Shelf.Ren:=⟨fun |169=>104 |n=>n,fun |70=>129 |9=>9 |0=>0 |72=>131 |37=>22 |127=>193 |3=>3 |5=>5 |n=>n,fun |n=>n⟩
theorem Tryz.lays169:Go.Proofs.Lays.n169 Tryz.prog Tryz.lays169_ren:= {
 mixed:=by kernel_rfl
 f169:=Tryz.func104.trans (congrArg some (by kernel_rfl))
 t0:=Tryz.underlying0
 a0:=Tryz.isAgg0
 z0:=Tryz.sizeOf0
 v0:=Tryz.zeroValue0
 t3:=Tryz.underlying3
 a3:=Tryz.isAgg3
 z3:=Tryz.sizeOf3
 v3:=Tryz.zeroValue3
 t9:=Tryz.underlying9
 a9:=Tryz.isAgg9
 z9:=Tryz.sizeOf9
 v9:=Tryz.zeroValue9
 t37:=Tryz.underlying22
 a37:=Tryz.isAgg22
 z37:=Tryz.sizeOf22
 v37:=Tryz.zeroValue22
 t70:=Tryz.underlying129
 a70:=Tryz.isAgg129
 z70:=Tryz.sizeOf129
 v70:=Tryz.zeroValue129
 t72:=Tryz.underlying131
 a72:=Tryz.isAgg131
 z72:=Tryz.sizeOf131
 v72:=Tryz.zeroValue131
 t127:=Tryz.underlying193
 a127:=Tryz.isAgg193
 z127:=Tryz.sizeOf193
 v127:=Tryz.zeroValue193}
theorem Tryz.Builder_Extra_169:Builder.Extra Tryz.prog Tryz.lays169_ren:= {
 sizeBuilder:=by kernel_rfl
 liesBuilder:=by kernel_rfl
 t5:=Tryz.underlying5
 a5:=Tryz.isAgg5
 z5:=Tryz.sizeOf5
 v5:=Tryz.zeroValue5
 infoByte:=by kernel_rfl
 cellsByte:=by kernel_rfl
 sizeByte:=by kernel_rfl
 neB5:=by decide}
def Tryz.lays156_ren:Go.Shelf.Ren:=⟨fun |156=>122 |165=>184 |166=>102 |169=>104 |240=>166 |241=>218 |276=>202 |277=>235 |n=>n,fun |31=>34 |9=>9 |3=>3 |4=>4 |0=>0 |20=>20 |72=>131 |76=>134 |70=>129 |37=>22 |75=>133 |127=>193 |164=>217 |5=>5 |80=>136 |n=>n,fun |n=>n⟩
theorem Tryz.lays156:Go.Proofs.Lays.n156 Tryz.prog Tryz.lays156_ren:= {
 mixed:=by kernel_rfl
 f156:=Tryz.func122.trans (congrArg some (by kernel_rfl))
 f165:=Tryz.func184.trans (congrArg some (by kernel_rfl))
 f166:=Tryz.func102.trans (congrArg some (by kernel_rfl))
 f169:=Tryz.func104.trans (congrArg some (by kernel_rfl))
 f240:=Tryz.func166.trans (congrArg some (by kernel_rfl))
 f241:=Tryz.func218.trans (congrArg some (by kernel_rfl))
 f276:=Tryz.func202.trans (congrArg some (by kernel_rfl))
 f277:=Tryz.func235.trans (congrArg some (by kernel_rfl))
 t0:=Tryz.underlying0
 a0:=Tryz.isAgg0
 z0:=Tryz.sizeOf0
 v0:=Tryz.zeroValue0
 t3:=Tryz.underlying3
 a3:=Tryz.isAgg3
 z3:=Tryz.sizeOf3
 v3:=Tryz.zeroValue3
 t4:=Tryz.underlying4
 a4:=Tryz.isAgg4
 z4:=Tryz.sizeOf4
 v4:=Tryz.zeroValue4
 t9:=Tryz.underlying9
 a9:=Tryz.isAgg9
 z9:=Tryz.sizeOf9
 v9:=Tryz.zeroValue9
 t20:=Tryz.underlying20
 a20:=Tryz.isAgg20
 z20:=Tryz.sizeOf20
 v20:=Tryz.zeroValue20
 t31:=Tryz.underlying34
 a31:=Tryz.isAgg34
 z31:=Tryz.sizeOf34
 v31:=Tryz.zeroValue34
 t37:=Tryz.underlying22
 a37:=Tryz.isAgg22
 z37:=Tryz.sizeOf22
 v37:=Tryz.zeroValue22
 t70:=Tryz.underlying129
 a70:=Tryz.isAgg129
 z70:=Tryz.sizeOf129
 v70:=Tryz.zeroValue129
 t72:=Tryz.underlying131
 a72:=Tryz.isAgg131
 z72:=Tryz.sizeOf131
 v72:=Tryz.zeroValue131
 t75:=Tryz.underlying133
 a75:=Tryz.isAgg133
 z75:=Tryz.sizeOf133
 v75:=Tryz.zeroValue133
 t76:=Tryz.underlying134
 a76:=Tryz.isAgg134
 z76:=Tryz.sizeOf134
 v76:=Tryz.zeroValue134
 t127:=Tryz.underlying193
 a127:=Tryz.isAgg193
 z127:=Tryz.sizeOf193
 v127:=Tryz.zeroValue193
 t164:=Tryz.underlying217
 a164:=Tryz.isAgg217
 z164:=Tryz.sizeOf217
 v164:=Tryz.zeroValue217}
theorem Tryz.Builder_Extra_156:Builder.Extra Tryz.prog Tryz.lays156_ren:= {
 sizeBuilder:=by kernel_rfl
 liesBuilder:=by kernel_rfl
 t5:=Tryz.underlying5
 a5:=Tryz.isAgg5
 z5:=Tryz.sizeOf5
 v5:=Tryz.zeroValue5
 infoByte:=by kernel_rfl
 cellsByte:=by kernel_rfl
 sizeByte:=by kernel_rfl
 neB5:=by decide}
open Go.RowKit in
theorem Tryz.strings_Join (bk o c:Nat) (xs:List ByteArray) (sep:ByteArray) (w:World) (hcells: ∀(j:Nat) x,xs[j]?=some x→w.cell? ⟨bk,o+j,none⟩=some (.string x)) (hbk:bk<w.heap.size) (hN:xs.length≤140737488355328) (hcap:xs.length≤c) (hlen:(Lib.join (xs.map (·.data.toList)) sep.data.toList).length≤140737488355328):
 Calls Tryz.prog 122 #[.slice (some ⟨bk,o,none⟩) xs.length c,.string sep] w fun e w'=>e= .returned (.string ⟨(Lib.join (xs.map (·.data.toList)) sep.data.toList).toArray⟩)∧Below w.heap.size w w':=Any.strings_Join Tryz.lays156 Tryz.Builder_Extra_156 bk o c xs sep w hcells hbk hN hcap hlen
open Go.RowKit in
theorem Tryz.Builder_String_any_k (B b:Nat) (l:List UInt8) (w:World) (h:Lib.IsBuilderF 131 5 B b (Lib.byteCells l) w) (hBw:B≤w.heap.size):
 Calls Tryz.prog 104 #[.pointer (some ⟨b,0,none⟩)] w fun e w'=>e= .returned (.string ⟨l.toArray⟩)∧(Lib.IsBuilderF 131 5 B b (Lib.byteCells l) w'∧Below B w w'∧Lib.OthersKept 5 (some b) w w'):=Any.Builder_String_any_k Tryz.lays169 Tryz.Builder_Extra_169 B b l w h hBw
def Tryz.laysM171_ren:Go.Shelf.Ren:=⟨fun |171=>103 |243=>167 |246=>203 |283=>223 |284=>224 |285=>225 |286=>226 |129=>241 |317=>240 |318=>242 |319=>243 |320=>244 |337=>249 |338=>250 |n=>n,fun |3=>3 |9=>9 |2=>2 |4=>4 |171=>230 |0=>0 |53=>231 |37=>22 |5=>5 |173=>234 |212=>240 |51=>241 |20=>20 |213=>242 |46=>227 |232=>252 |233=>253 |n=>n,fun |17=>1 |18=>4 |19=>5 |n=>n⟩
theorem Tryz.laysM171:Go.Proofs.LaysM.n171 Tryz.prog Tryz.laysM171_ren:= {
 mixed:=by kernel_rfl
 f129:=Tryz.func241.trans (congrArg some (by kernel_rfl))
 f171:=Tryz.func103.trans (congrArg some (by kernel_rfl))
 f243:=Tryz.func167.trans (congrArg some (by kernel_rfl))
 f246:=Tryz.func203.trans (congrArg some (by kernel_rfl))
 f283:=Tryz.func223.trans (congrArg some (by kernel_rfl))
 f284:=Tryz.func224.trans (congrArg some (by kernel_rfl))
 f285:=Tryz.func225.trans (congrArg some (by kernel_rfl))
 f286:=Tryz.func226.trans (congrArg some (by kernel_rfl))
 f317:=Tryz.func240.trans (congrArg some (by kernel_rfl))
 f318:=Tryz.func242.trans (congrArg some (by kernel_rfl))
 f319:=Tryz.func243.trans (congrArg some (by kernel_rfl))
 f320:=Tryz.func244.trans (congrArg some (by kernel_rfl))
 f337:=Tryz.func249.trans (congrArg some (by kernel_rfl))
 f338:=Tryz.func250.trans (congrArg some (by kernel_rfl))
 t0:=Tryz.underlying0
 a0:=Tryz.isAgg0
 z0:=Tryz.sizeOf0
 v0:=Tryz.zeroValue0
 t2:=Tryz.underlying2
 a2:=Tryz.isAgg2
 z2:=Tryz.sizeOf2
 v2:=Tryz.zeroValue2
 t3:=Tryz.underlying3
 a3:=Tryz.isAgg3
 z3:=Tryz.sizeOf3
 v3:=Tryz.zeroValue3
 t4:=Tryz.underlying4
 a4:=Tryz.isAgg4
 z4:=Tryz.sizeOf4
 v4:=Tryz.zeroValue4
 t5:=Tryz.underlying5
 a5:=Tryz.isAgg5
 z5:=Tryz.sizeOf5
 v5:=Tryz.zeroValue5
 t9:=Tryz.underlying9
 a9:=Tryz.isAgg9
 z9:=Tryz.sizeOf9
 v9:=Tryz.zeroValue9
 t20:=Tryz.underlying20
 a20:=Tryz.isAgg20
 z20:=Tryz.sizeOf20
 v20:=Tryz.zeroValue20
 t37:=Tryz.underlying22
 a37:=Tryz.isAgg22
 z37:=Tryz.sizeOf22
 v37:=Tryz.zeroValue22
 t46:=Tryz.underlying227
 a46:=Tryz.isAgg227
 z46:=Tryz.sizeOf227
 v46:=Tryz.zeroValue227
 t51:=Tryz.underlying241
 a51:=Tryz.isAgg241
 z51:=Tryz.sizeOf241
 v51:=Tryz.zeroValue241
 t53:=Tryz.underlying231
 a53:=Tryz.isAgg231
 z53:=Tryz.sizeOf231
 v53:=Tryz.zeroValue231
 t171:=Tryz.underlying230
 a171:=Tryz.isAgg230
 z171:=Tryz.sizeOf230
 v171:=Tryz.zeroValue230
 t173:=Tryz.underlying234
 a173:=Tryz.isAgg234
 z173:=Tryz.sizeOf234
 v173:=Tryz.zeroValue234
 t212:=Tryz.underlying240
 a212:=Tryz.isAgg240
 z212:=Tryz.sizeOf240
 v212:=Tryz.zeroValue240
 t213:=Tryz.underlying242
 a213:=Tryz.isAgg242
 z213:=Tryz.sizeOf242
 t232:=Tryz.underlying252
 a232:=Tryz.isAgg252
 z232:=Tryz.sizeOf252
 v232:=Tryz.zeroValue252
 t233:=Tryz.underlying253
 a233:=Tryz.isAgg253
 z233:=Tryz.sizeOf253
 v233:=Tryz.zeroValue253
 g17:=by kernel_rfl
 g18:=by kernel_rfl
 g19:=by kernel_rfl
 i0:=by kernel_rfl
 i2:=by kernel_rfl
 i3:=by kernel_rfl
 i4:=by kernel_rfl
 i5:=by kernel_rfl
 i9:=by kernel_rfl
 i20:=by kernel_rfl
 i37:=by kernel_rfl
 i46:=by kernel_rfl
 i51:=by kernel_rfl
 i53:=by kernel_rfl
 i171:=by kernel_rfl
 i173:=by kernel_rfl
 i212:=by kernel_rfl
 i232:=by kernel_rfl
 i233:=by kernel_rfl
 m17:=by kernel_rfl
 m18:=by kernel_rfl
 m19:=by kernel_rfl}
def Tryz.lays146_ren:Go.Shelf.Ren:=⟨fun |146=>51 |221=>117 |268=>176 |138=>177 |143=>178 |195=>208 |197=>209 |218=>210 |219=>211 |260=>227 |217=>228 |225=>229 |224=>230 |267=>231 |266=>245 |314=>246 |n=>n,fun |9=>9 |31=>34 |3=>3 |4=>4 |0=>0 |105=>224 |21=>21 |5=>5 |46=>227 |119=>244 |139=>247 |138=>246 |146=>248 |51=>241 |n=>n,fun |1=>0 |3=>2 |4=>3 |n=>n⟩
theorem Tryz.lays146:Go.Proofs.Lays.n146 Tryz.prog Tryz.lays146_ren:= {
 mixed:=by kernel_rfl
 f138:=Tryz.func177.trans (congrArg some (by kernel_rfl))
 f143:=Tryz.func178.trans (congrArg some (by kernel_rfl))
 f146:=Tryz.func51.trans (congrArg some (by kernel_rfl))
 f195:=Tryz.func208.trans (congrArg some (by kernel_rfl))
 f197:=Tryz.func209.trans (congrArg some (by kernel_rfl))
 f217:=Tryz.func228.trans (congrArg some (by kernel_rfl))
 f218:=Tryz.func210.trans (congrArg some (by kernel_rfl))
 f219:=Tryz.func211.trans (congrArg some (by kernel_rfl))
 f221:=Tryz.func117.trans (congrArg some (by kernel_rfl))
 f224:=Tryz.func230.trans (congrArg some (by kernel_rfl))
 f225:=Tryz.func229.trans (congrArg some (by kernel_rfl))
 f260:=Tryz.func227.trans (congrArg some (by kernel_rfl))
 f266:=Tryz.func245.trans (congrArg some (by kernel_rfl))
 f267:=Tryz.func231.trans (congrArg some (by kernel_rfl))
 f268:=Tryz.func176.trans (congrArg some (by kernel_rfl))
 f314:=Tryz.func246.trans (congrArg some (by kernel_rfl))
 t0:=Tryz.underlying0
 a0:=Tryz.isAgg0
 z0:=Tryz.sizeOf0
 v0:=Tryz.zeroValue0
 t3:=Tryz.underlying3
 a3:=Tryz.isAgg3
 z3:=Tryz.sizeOf3
 v3:=Tryz.zeroValue3
 t4:=Tryz.underlying4
 a4:=Tryz.isAgg4
 z4:=Tryz.sizeOf4
 v4:=Tryz.zeroValue4
 t5:=Tryz.underlying5
 a5:=Tryz.isAgg5
 z5:=Tryz.sizeOf5
 v5:=Tryz.zeroValue5
 t9:=Tryz.underlying9
 a9:=Tryz.isAgg9
 z9:=Tryz.sizeOf9
 v9:=Tryz.zeroValue9
 t21:=Tryz.underlying21
 a21:=Tryz.isAgg21
 z21:=Tryz.sizeOf21
 v21:=Tryz.zeroValue21
 t31:=Tryz.underlying34
 a31:=Tryz.isAgg34
 z31:=Tryz.sizeOf34
 v31:=Tryz.zeroValue34
 t46:=Tryz.underlying227
 a46:=Tryz.isAgg227
 z46:=Tryz.sizeOf227
 v46:=Tryz.zeroValue227
 t51:=Tryz.underlying241
 a51:=Tryz.isAgg241
 z51:=Tryz.sizeOf241
 v51:=Tryz.zeroValue241
 t105:=Tryz.underlying224
 a105:=Tryz.isAgg224
 z105:=Tryz.sizeOf224
 v105:=Tryz.zeroValue224
 t119:=Tryz.underlying244
 a119:=Tryz.isAgg244
 z119:=Tryz.sizeOf244
 t138:=Tryz.underlying246
 a138:=Tryz.isAgg246
 z138:=Tryz.sizeOf246
 v138:=Tryz.zeroValue246
 t139:=Tryz.underlying247
 a139:=Tryz.isAgg247
 z139:=Tryz.sizeOf247
 v139:=Tryz.zeroValue247
 t146:=Tryz.underlying248
 a146:=Tryz.isAgg248
 z146:=Tryz.sizeOf248
 v146:=Tryz.zeroValue248
 g1:=by kernel_rfl
 g3:=by kernel_rfl
 g4:=by kernel_rfl}
open Go.RowKit Go.Lib in
theorem Tryz.strings_Split (s sep:ByteArray) (m:Int) (w:World) (hs:s.size<4294967281) (hm:w.cell? ⟨0,0,none⟩=some (.int .i64 m)) (h1:1≤sep.size):
 Calls Tryz.prog 51 #[.string s,.string sep] w fun e w'=>
  e= .returned (.slice (some ⟨w.heap.size,0,none⟩) (Lib.countB s sep+1) (Lib.countB s sep+1))∧w'=w.alloc (.cells ((Lib.splitB sep 0 (Lib.countB s sep) s).map Value.string).toArray 9):=Any.strings_Split Tryz.lays146 (by kernel_rfl) s sep m w hs hm h1
end Go.Proofs
namespace Go.Proofs.YtjdlgannencchaaGreatDoor
open Go.ChangeShapes Go.WideShapes Go.ChangeAt Go.RowKit
set_option linter.unusedVariables false
set_option linter.unusedSimpArgs false
theorem FQ (w:World) (k:Nat) (os:Array Obj):Below w.heap.size w (Go.Sort.grow (w.drewN k) os):=by
 have h: ∀k,(w.drewN k).heap=w.heap∧(w.drewN k).os=w.os∧(w.drewN k).tape=w.tape∧(w.drewN k).output=w.output:=by
  intro k
  induction k with
  |zero=>exact ⟨rfl,rfl,rfl,rfl⟩
  |succ k ih=>exact ih
 obtain ⟨h1,h2,h3,h4⟩:=h k
 refine ⟨h2,h3,h4,by simp [Go.Sort.grow,h1],fun b hb=>?_⟩
 show ((w.drewN k).heap++os)[b]?=_
 rw [h1,Array.getElem?_append_left hb]
theorem nm {w:World} (hb:Bs w) {n:Int} (h: -9223372036854775808≤n∧n≤9223372036854775807) {w1:World} (h1:Below w.heap.size w w1):Calls Tryz.prog 103 #[.int .i64 n] w1 fun e w'=>e= .returned (.string (bH (Lib.itoa n)))∧Below w1.heap.size w1 w':=by
 refine (Any.strconv_Itoa Tryz.laysM171 n h.1 h.2 w1 (hb.1 w1 h1)).mono ?_
 rintro e w' ⟨rfl,k,os,rfl⟩
 exact ⟨rfl,FQ _ _ _⟩
theorem Rr {n:Int} {r:ByteArray} (h:bj n=some r):(-9223372036854775808≤n∧n≤9223372036854775807)∧bH (Lib.itoa n)=r:=by
 obtain ⟨h,hm⟩:=cv h
 injection hm with hm
 exact ⟨of_decide_eq_true h,hm⟩
theorem Mi {e:Env} {ps:List Prm} {x:Dy ((jK ps).map PK.ty)} (s:ByteArray) (hps:yH e (tP (uh PK.put (jK ps) x)) 0 0 ps (uh PK.put (jK ps) x) [] []) (hw:yJ e 0 ps (uh PK.put (jK ps) x) [] []):yR e ps [.o .s] (uh PK.put (jK ps) x) [.s s] [.string s] []:=
 ⟨[_],[],[],[],[],[],rfl,rfl,⟨_,[],_,[],[],[],rfl,rfl,rfl,⟨_,rfl,rfl,rfl⟩,rfl,rfl,rfl⟩,hps,hw⟩
theorem Of (co:CallOk Tryz.prog 103):bD Tryz.prog ⟨103,[.o (.int .i64)],[.o .s],false,fun x=>bj x⟩:=⟨co,fun x res hm e w0 w X hbs hp hS=>by
 obtain ⟨h,hm⟩:=Rr (n:=x) hm
 subst hm
 refine (nm hbs h hS.below).mono ?_
 rintro en w' ⟨rfl,hb⟩
 exact ⟨[_],[],rfl,Mi (ps:=[.o (.int .i64)]) (x:=x) _ ⟨rfl,rfl⟩ ⟨[],[],[],[],rfl,rfl,⟨rfl,rfl⟩,⟨rfl,rfl⟩⟩,hS.quiet hb⟩⟩
theorem JQ (s:ByteArray):Lib.splitB (bH [32]) 0 (Lib.countB s (bH [32])) s=(fq 32 s.data.toList).map bH:=by
 have h:=Lib.splitB_data (bH [32]) 0 (Lib.countB s (bH [32])) s
 have hc:Lib.countB s (bH [32])=s.data.toList.count 32:=Lib.count_one 32 s.data.toList
 rw [iB,ye 32 _ _ hc.symm] at h
 rw [←h,List.map_map]
 conv=>lhs;rw [←List.map_id (Lib.splitB _ _ _ _)]
 exact List.map_congr_left fun a _=>(wK a).symm
theorem Lh (co:CallOk Tryz.prog 51):bD Tryz.prog ⟨51,[.o .s,.o .s],[.o (.row 9 .s)],false,fun x=>ey x.1 x.2⟩:=⟨co,fun x res hm e w0 w X hbs hp hS=>by
 obtain ⟨s,sep⟩:=x
 obtain ⟨h,hm⟩:=cv (show ey s sep=some res from hm)
 injection hm with hm
 subst hm
 simp only [Bool.and_eq_true,decide_eq_true_eq] at h
 obtain ⟨h1,rfl⟩:=h
 obtain ⟨m,hm⟩:=hbs.2
 refine (Tryz.strings_Split s (bH [32]) m w h1 (hm w hS.below) (by decide)).mono ?_
 rintro en w' ⟨rfl,rfl⟩
 rw [JQ]
 have hl:Lib.countB s (bH [32])+1=((fq 32 s.data.toList).map bH).length:=by
  rw [List.length_map,tp];exact congrArg (· +1) (Lib.count_one 32 s.data.toList)
 rw [hl]
 have hle:((fq 32 s.data.toList).map bH).length≤1099511627776:=by
  rw [List.length_map,tp]
  have:=List.count_le_length (a:=(32:UInt8)) (l:=s.data.toList)
  have h2:s.data.toList.length=s.size:=by simp
  omega
 have hf:((fq 32 s.data.toList).map bH).map Value.string=((fq 32 s.data.toList).map bH).flatMap (EK.s).enc:=by
  rw [List.map_eq_flatMap];rfl
 rw [hf]
 have S:=(St.nil w).newrowL (e:=(EK.s).enc) (ls:=(fq 32 s.data.toList).map bH) (E:=9) (size:=1) (m:=((fq 32 s.data.toList).map bH).length) rfl (fun _=>rfl) hle
 exact ⟨[_],[_],rfl,⟨[_],[],[],[_],[],[],rfl,rfl,⟨_,[],_,[],[_],[],rfl,rfl,rfl,⟨_,_,_,rfl,rfl,rfl⟩,rfl,rfl,rfl⟩,⟨rfl,rfl⟩,⟨[],[],[],[],rfl,rfl,⟨rfl,rfl⟩,⟨[],[],[],[],rfl,rfl,⟨rfl,rfl⟩,⟨rfl,rfl⟩⟩⟩⟩,hS.call S⟩⟩
theorem Ru {xs:List ByteArray} {sep r:ByteArray} (h:cQ xs sep=some r):((Lib.join (xs.map (·.data.toList)) sep.data.toList).length≤140737488355328∧xs.length≤140737488355328)∧bH (Lib.join (xs.map (·.data.toList)) sep.data.toList)=r:=by
 obtain ⟨h,hm⟩:=cv h
 injection hm with hm
 exact ⟨of_decide_eq_true h,hm⟩
theorem Og (co:CallOk Tryz.prog 122):bD Tryz.prog ⟨122,[.o (.sl .ro 9 .s),.o .s],[.o .s],false,fun x=>cQ x.1 x.2⟩:=⟨co,fun x res hm e w0 w X hbs hp hS=>by
 obtain ⟨xs,sep⟩:=x
 obtain ⟨h,hm⟩:=Ru (xs:=xs) (sep:=sep) hm
 subst hm
 obtain ⟨v,vr,hv,⟨l,hl,hro⟩,_⟩:=hp
 have hl:=(List.head_eq_of_cons_eq hv).trans hl
 injection hl with _ hl
 subst hl
 have R:=hro w _ hS (fun y hy=>List.mem_append_right _ hy)
 have sd: ∀ {en:Ending} {w':World},(en= .returned (.string (bH (Lib.join (xs.map (·.data.toList)) sep.data.toList)))∧Below w.heap.size w w')→ ∃us A,en= .returned (GG us)∧yR e [.o (.sl .ro 9 .s),.o .s] [.o .s] (uh PK.put (jK [.o (.sl .ro 9 .s),.o .s]) (xs,sep)) [.s (bH (Lib.join (xs.map (·.data.toList)) sep.data.toList))] us A∧St w0 w' (A++X):=by
  rintro en w' ⟨rfl,hb⟩
  exact ⟨[_],[],rfl,Mi (ps:=[.o (.sl .ro 9 .s),.o .s]) (x:=(xs,sep)) _ ⟨rfl,rfl⟩ ⟨[],[],[],[],rfl,rfl,⟨rfl,rfl⟩,⟨[],[],[],[],rfl,rfl,⟨rfl,rfl⟩,⟨rfl,rfl⟩⟩⟩,hS.quiet hb⟩
 show Calls Tryz.prog 122 #[.slice (e.a 0) xs.length (e.c 0),.string sep] w _
 cases xs with
 |nil=>
  refine (Any.strings_Join_none Tryz.lays156 Tryz.Builder_Extra_156 (e.a 0) (e.c 0) sep w).mono ?_
  rintro en w' ⟨rfl,rfl⟩
  exact sd ⟨rfl,Below.refl _ _⟩
 |cons y r=>
  obtain ⟨b,off,hA,hcell⟩:=R.rd.2 (by simp)
  rw [hA]
  have hf: ∀(l:List ByteArray),l.flatMap (EK.s).enc=l.map Value.string:=fun l=>by rw [List.map_eq_flatMap];rfl
  rw [hf] at hcell
  have hc: ∀(j:Nat) z,(y::r)[j]?=some z→w.cell? ⟨b,off+j,none⟩=some (.string z):=fun j z hz=>hcell j _ (by rw [List.getElem?_map,hz];rfl)
  have hbk:b<w.heap.size:=by
   have:=hc 0 y rfl
   rcases Nat.lt_or_ge b w.heap.size with h |h
   ·exact h
   ·simp [World.cell?,Array.getElem?_eq_none h] at this
  refine (Tryz.strings_Join b off (e.c 0) (y::r) sep w hc hbk h.2 R.cap h.1).mono ?_
  rintro en w' hh
  exact sd hh⟩
end Go.Proofs.YtjdlgannencchaaGreatDoor
namespace Go.Proofs.YtjdlgannencchaaGreatDoor
open Go.Shelf
set_option maxRecDepth 100000
def jH:Ren where
 f:=fun x=>match x with |21=>181 |27=>214 |28=>215 |35=>233 |39=>247 |n=>n
 t:=fun x=>match x with |22=>31 |3=>3 |4=>4 |0=>0 |n=>n
 g:=fun n=>n
theorem tI:Lays2.n21 Tryz.prog jH:=
{mixed:=Eq.refl true,f21:=Eq.trans Tryz.func181 (congrArg some (Eq.refl (Body2.n21 jH))),
 f27:=Eq.trans Tryz.func214 (congrArg some (Eq.refl (Body2.n27 jH))),
 f28:=Eq.trans Tryz.func215 (congrArg some (Eq.refl (Body2.n28 jH))),
 f35:=Eq.trans Tryz.func233 (congrArg some (Eq.refl (Body2.n35 jH))),
 f39:=Eq.trans Tryz.func247 (congrArg some (Eq.refl (Body2.n39 jH))),t0:=Tryz.underlying0,
 a0:=Tryz.isAgg0,z0:=Tryz.sizeOf0,v0:=Tryz.zeroValue0,t3:=Tryz.underlying3,a3:=Tryz.isAgg3,
 z3:=Tryz.sizeOf3,v3:=Tryz.zeroValue3,t4:=Tryz.underlying4,a4:=Tryz.isAgg4,z4:=Tryz.sizeOf4,
 v4:=Tryz.zeroValue4,t22:=Tryz.underlying31,a22:=Tryz.isAgg31,z22:=Tryz.sizeOf31,v22:=Tryz.zeroValue31,
 i3:=Eq.refl (some (some (Value.int IntKind.i64 0),1,8))}
end Go.Proofs.YtjdlgannencchaaGreatDoor
namespace Go.Proofs.YtjdlgannencchaaGreatDoor
open Go.ChangeShapes Go.WideShapes Go.ChangeAt Go.RowKit
set_option linter.unusedVariables false
set_option linter.unusedSimpArgs false
def over:Array Value→Nat→List Value→Array Value
 |cs,_,[]=>cs
 |cs,o,v::vs=>over (cs.setIfInBounds o v) (o+1) vs
theorem lC: ∀(vs:List Value) (cs:Array Value) (o:Nat),(over cs o vs).size=cs.size
 | [],_,_=>rfl
 |v::vs,cs,o=>by rw [over,lC vs];simp
theorem rD: ∀(vs:List Value) (cs:Array Value) (o k:Nat),o+vs.length≤cs.size→(over cs o vs)[k]?=if o≤k∧k<o+vs.length then vs[k-o]? else cs[k]?
 | [],cs,o,k,_=>by rw [over,if_neg (by simp only [List.length_nil];omega)]
 |v::vs,cs,o,k,h=>by
  simp only [List.length_cons] at h ⊢
  rw [over,rD vs _ _ k (by simp;omega)]
  by_cases h1:k=o
  ·subst h1
   rw [if_neg (by omega),if_pos (by omega)]
   simp [show k<cs.size by omega]
  ·by_cases h2:o+1≤k∧k<o+1+vs.length
   ·rw [if_pos h2,if_pos (by omega),show k-o=(k-(o+1))+1 by omega];rfl
   ·rw [if_neg h2,if_neg (by omega)]
    rw [Array.getElem?_setIfInBounds_ne (by omega)]
theorem xS {g:Nat} {E:TypeId}: ∀(vs:List Value) (cs:Array Value) (o:Nat) (w:World),Bk w g E cs→Bk (w.setCells g o vs) g E (over cs o vs)∧Grown w (w.setCells g o vs) [g]
 | [],cs,o,w,h=>⟨h,⟨rfl,rfl,rfl,Nat.le_refl _,fun _ _ _=>rfl⟩⟩
 |v::vs,cs,o,w,h=>by
  have h1:Bk (w.setCell ⟨g,o,none⟩ v) g E (cs.setIfInBounds o v):=h.set_ o v
  obtain ⟨a,b⟩:=xS vs _ (o+1) _ h1
  exact ⟨a,(Grown.set w g o v).trans b⟩
theorem Jo {cur:Array Value} {xs:List Value} {y:Value} {off n i c:Nat} (hx:(cur.toList.drop off).take n=xs) (hl:xs.length=n) (hi:i≤n) (hc:n+1≤c) (hs:off+c≤cur.size):
 ((over (over cur (off+(i+1)) (xs.drop i)) (off+i) [y]).toList.drop off).take (n+1)=xs.take i++ [y]++xs.drop i:=by
 have hd:(xs.drop i).length=n-i:=by rw [List.length_drop,hl]
 apply List.ext_getElem?
 intro k
 by_cases hk:k<n+1
 ·rw [List.getElem?_take,if_pos hk,List.getElem?_drop,Array.getElem?_toList,rD _ _ _ _ (by rw [lC];simp;omega),rD _ _ _ _ (by rw [hd];omega)]
  have hxk: ∀j,j<n→xs[j]?=cur[off+j]?:=fun j hj=>by rw [←hx,List.getElem?_take,if_pos hj,List.getElem?_drop,Array.getElem?_toList]
  simp only [List.length_singleton,hd]
  by_cases h1:k<i
  ·rw [if_neg (by omega),if_neg (by omega),List.append_assoc,List.getElem?_append_left (by rw [List.length_take];omega),List.getElem?_take,if_pos h1,hxk k (by omega)]
  ·have hti:(xs.take i).length=i:=by rw [List.length_take];omega
   rw [List.append_assoc,List.getElem?_append_right (by omega),hti]
   by_cases h2:k=i
   ·subst h2
    rw [if_pos (by omega)];simp
   ·rw [if_neg (by omega),if_pos (by omega),show k-i=(k-i-1)+1 by omega]
    show (xs.drop i)[off+k-(off+(i+1))]?=(xs.drop i)[k-i-1]?
    congr 1;omega
 ·rw [List.getElem?_eq_none (by rw [List.length_take];omega),List.getElem?_eq_none (by simp only [List.length_append,List.length_take,List.length_drop,List.length_singleton];omega)]
end Go.Proofs.YtjdlgannencchaaGreatDoor
namespace Go.Proofs.YtjdlgannencchaaGreatDoor
open Go.ChangeShapes Go.WideShapes Go.ChangeAt Go.RowKit Go.Lib
set_option linter.unusedVariables false
set_option linter.unusedSimpArgs false
theorem pY (x:List Int):x.flatMap eI=x.map (Value.int .i64):=by
 induction x with
 |nil=>rfl
 |cons a x ih=>rw [List.flatMap_cons,ih];rfl
theorem Vh (x:List Int): ∀v∈x.flatMap eI,v.oneCell'=true:=by
 intro v hv
 rw [pY] at hv
 obtain ⟨z,_,rfl⟩:=List.mem_map.1 hv
 rfl
theorem KT {w0 w:World} {L:List Asn} (S:St w0 w L) {k m:Nat} {a b:Asn} (ha:L[k]?=some a) (hb:L[m]?=some b) (h:k≠m):a.far b:=by
 obtain ⟨h1,h2⟩:=List.getElem?_eq_some_iff.1 ha
 obtain ⟨h3,h4⟩:=List.getElem?_eq_some_iff.1 hb
 subst h2 h4
 rcases Nat.lt_or_ge k m with h5 |h5
 ·exact List.pairwise_iff_getElem.1 S.apart k m h1 h3 h5
 ·exact (List.pairwise_iff_getElem.1 S.apart m k h3 h1 (by omega)).symm
theorem Ez {w0 w w1:World} {L:List Asn} {x:List Int} {y:Int} {g off n c k i:Nat} {cur:Array Value} (S:St w0 w L) (hk:L[k]?=some (.row 3 1 (.slice (some ⟨g,off,none⟩) n c) n (x.flatMap eI))) (hn:n=x.length)
 (hb:Bk w g 3 cur) (hx:(cur.toList.drop off).take (n*1)=x.flatMap eI) (hi:i≤n) (hroom:n+1≤c) (hc:c≤maxLen) (hs:off+c*1≤cur.size) (hw:Bk w1 g 3 cur) (hg:Grown w w1 [g]):
 St w0 ((w1.setCells g (off+(i+1)) ((x.flatMap eI).drop i)).setCells g (off+i) [.int .i64 y]) (L.set k (.row 3 1 (.slice (some ⟨g,off,none⟩) (n+1) c) (n+1) ((x.take i++ [y]++x.drop i).flatMap eI))):=by
 obtain ⟨b1,g1⟩:=xS ((x.flatMap eI).drop i) cur (off+(i+1)) w1 hw
 obtain ⟨b2,g2⟩:=xS [.int .i64 y] _ (off+i) _ b1
 have hl:(x.flatMap eI).length=n:=by rw [pY,List.length_map,hn]
 have hc2:=Jo (cur:=cur) (xs:=x.flatMap eI) (y:=.int .i64 y) (off:=off) (n:=n) (i:=i) (c:=c) (by simpa using hx) hl hi hroom (by omega)
 refine S.turn1 hk ((hg.trans g1).trans g2) (fun x hx=>by simpa [Asn.foot,Value.ownBlock] using hx) ?_ (fun x hx=>.inl (by simpa [Asn.foot,Value.ownBlock] using hx))
 have e:(x.take i++ [y]++x.drop i).flatMap eI=(x.flatMap eI).take i++ [.int .i64 y]++(x.flatMap eI).drop i:=by
  rw [pY,pY,List.map_append,List.map_append,List.map_take,List.map_drop];rfl
 refine ⟨?_,.inr ⟨g,off,c,_,rfl,b2,hroom,hc,?_,?_⟩⟩
 ·rw [pY,List.length_map,List.length_append,List.length_append,List.length_take,List.length_drop];simp;omega
 ·rw [lC,lC];exact hs
 ·rw [e,←hc2];simp
theorem Cz {w0 w w1:World} {L:List Asn} {x:List Int} {y:Int} {A:Option Addr} {n c k i d:Nat} {cur:Array Value} (S:St w0 w L) (hk:L[k]?=some (.row 3 1 (.slice A n c) n (x.flatMap eI))) (hn:n=x.length) (hi:i≤n)
 (hb:Bk w1 w.heap.size 3 cur) (hg:Grown w w1 []) (hx:cur.toList.take (n+1)=(x.flatMap eI).take i++ [.int .i64 y]++(x.flatMap eI).drop i) (h1:n+1≤d) (h2:d≤maxLen) (h3:d≤cur.size):
 St w0 w1 (L.set k (.row 3 1 (.slice (some ⟨w.heap.size,0,none⟩) (n+1) d) (n+1) ((x.take i++ [y]++x.drop i).flatMap eI))):=by
 have e:(x.take i++ [y]++x.drop i).flatMap eI=(x.flatMap eI).take i++ [.int .i64 y]++(x.flatMap eI).drop i:=by
  rw [pY,pY,List.map_append,List.map_append,List.map_take,List.map_drop];rfl
 refine S.turn1 hk hg (fun x hx=>by simp at hx) ?_ (fun x hx=>.inr (by simp [Asn.foot,Value.ownBlock] at hx;omega))
 refine ⟨?_,.inr ⟨w.heap.size,0,d,cur,rfl,hb,h1,h2,by omega,?_⟩⟩
 ·rw [pY,List.length_map,List.length_append,List.length_append,List.length_take,List.length_drop];simp;omega
 ·rw [e,←hx];simp
end Go.Proofs.YtjdlgannencchaaGreatDoor
namespace Go.Proofs.YtjdlgannencchaaGreatDoor
open Go.ChangeShapes Go.WideShapes Go.ChangeAt Go.RowKit Go.Lib
set_option linter.unusedVariables false
set_option linter.unusedSimpArgs false
set_option maxRecDepth 100000
theorem nk (w:World):Grown w w.drew []:=⟨rfl,rfl,rfl,Nat.le_refl _,fun _ _ _=>rfl⟩
theorem pZ {w w':World} (g:Nat) (h:Grown w w' []):Grown w w' [g]:=⟨h.os,h.tape,h.output,h.size,fun k hk hn=>h.block k hk (by simp)⟩
theorem uI (w:World) (o:Obj):Grown w (w.alloc o) []:=⟨rfl,rfl,rfl,by show w.heap.size≤(w.heap.push o).size;rw [Array.size_push];omega,fun k hk _=>Below.heap_alloc w o k hk⟩
theorem FT (w:World) (cs:Array Value) (t:TypeId):Bk (w.alloc (.cells cs t)) w.heap.size t cs:=Bk.new w t cs
theorem qi (k:Nat):(Builtin.zeroCells (Value.int .i64 0).cells k).size=k:=by
 have:(Value.int .i64 0).cells.size=1:=rfl
 simp [Builtin.zeroCells,this]
theorem Gp {cur:Array Value} {xs:List Value} {y:Value} {n i:Nat} (hl:xs.length=n) (hi:i≤n) (hx: ∀k,k<i→cur[k]?=xs[k]?) (hs:n+1≤cur.size):
 (over (over cur i [y]) (i+1) (xs.drop i)).toList.take (n+1)=xs.take i++ [y]++xs.drop i:=by
 have hd:(xs.drop i).length=n-i:=by rw [List.length_drop,hl]
 apply List.ext_getElem?
 intro k
 by_cases hk:k<n+1
 ·rw [List.getElem?_take,if_pos hk,Array.getElem?_toList,rD _ _ _ _ (by rw [lC,hd];omega),rD _ _ _ _ (by simp only [List.length_singleton];omega)]
  simp only [List.length_singleton,hd]
  by_cases h1:k<i
  ·rw [if_neg (by omega),if_neg (by omega),List.append_assoc,List.getElem?_append_left (by rw [List.length_take];omega),List.getElem?_take,if_pos h1,hx k h1]
  ·have hti:(xs.take i).length=i:=by rw [List.length_take];omega
   rw [List.append_assoc,List.getElem?_append_right (by omega),hti]
   by_cases h2:k=i
   ·subst h2
    rw [if_neg (by omega),if_pos (by omega)];simp
   ·rw [if_pos (by omega),show k-i=(k-(i+1))+1 by omega];rfl
 ·rw [List.getElem?_eq_none (by rw [List.length_take];omega),List.getElem?_eq_none (by simp only [List.length_append,List.length_take,List.length_drop,List.length_singleton];omega)]
theorem Oq {x:List Int} {y i:Int} (h0:0≤i) (h:i≤(x.length:Int)):x.length+1=(x.take i.toNat++ [y]++x.drop i.toNat).length:=by
 simp only [List.length_append,List.length_take,List.length_drop,List.length_singleton];omega
theorem Jm {L:List Asn} {w0 w:World} {x:List Int} {y i:Int} {A B:Option Addr} {n c vc k m:Nat} (S:St w0 w L) (hk:L[k]?=some (.row 3 1 (.slice A n c) n (x.flatMap eI))) (hn:n=x.length) (hv:L[m]?=some (.row 3 1 (.slice B 1 vc) 1 (([y]:List Int).flatMap eI))) (hkm:k≠m) (hi:0≤i∧i≤(n:Int)) (hlen:n+1≤1099511627776):
 Calls Tryz.prog 181 #[.slice A n c,.int .i64 i,.slice B 1 vc] w (fun e w'=> ∃(B':Option Addr) (D:Nat),e= .returned (.slice B' (n+1) D)∧St w0 w' (L.set k (.row 3 1 (.slice B' (n+1) D) (n+1) ((x.take i.toNat++ [y]++x.drop i.toNat).flatMap eI)))):=by
 obtain ⟨j,rfl⟩: ∃j:Nat,i=(j:Int):=⟨i.toNat,by omega⟩
 have hj:j≤n:=by omega
 rw [Int.toNat_natCast]
 have hxl:(x.flatMap eI).length=n:=by rw [pY,List.length_map,hn]
 obtain ⟨vg,voff,rfl,hvs⟩:=(S.rd m hv).2 (by omega)
 have hvs': ∀q v,([.int .i64 y]:List Value)[q]?=some v→w.cell? ⟨vg,voff+q,none⟩=some v:=fun q v h=>hvs q v h
 have h1v: ∀v∈([.int .i64 y]:List Value),v.oneCell'=true:=fun v h=>by simp at h;subst h;rfl
 have h1c:=Vh x
 rcases tZ S hk with ⟨rfl,h0,rfl⟩ |⟨g,off,cur,rfl,hb,hx,hnc,hc,hs⟩
 ·subst h0
  have hx0:x=[]:=List.eq_nil_of_length_eq_zero hn.symm
  subst hx0
  obtain rfl:j=0:=by omega
  have h:=Any2.slices_Insert_int_end_grow tI none 0 0 vg voff 1 vc [] [.int .i64 y] w (by omega) (by omega) (by omega) (by omega) rfl rfl (fun _=>rfl) (fun a h=>by cases h) hvs' h1v
  refine h.mono ?_
  rintro e w' ⟨rfl,rfl⟩
  refine ⟨_,_,rfl,?_⟩
  have hge:=grownCap_ge w (0+1) 0 (jH.t 3)
  refine Cz (cur:=([]++ [Value.int .i64 y]).toArray++Builtin.zeroCells (Value.int .i64 0).cells (grownCap w (0+1) 0 (jH.t 3)-(0+1))) S hk rfl (Nat.le_refl 0) (FT w.drew _ _) ((nk w).trans (uI w.drew _)) (by simp) hge (grownCap_le_maxLen w (0+1) 0 _ (by decide)) ?_
  rw [Array.size_append,qi]
  simp only [List.nil_append,List.size_toArray,List.length_singleton]
  omega
 ·have hcell: ∀q v,(x.flatMap eI)[q]?=some v→w.cell? ⟨g,off+q,none⟩=some v:=by
   intro q v hq
   have hn0:0<n:=by
    rcases Nat.eq_zero_or_pos n with h |h
    ·rw [List.getElem?_eq_none (by omega)] at hq;cases hq
    ·exact h
   obtain ⟨b',o',e,hc'⟩:=(S.rd k hk).2 hn0
   injection e with e
   injection e with e1 e2
   subst e1 e2
   exact hc' q v hq
  by_cases hroom:n+1≤c
  ·have hc63:c≤9223372036854775807:=hc
   have hsp: ∀q,q<n+1→(w.cell? ⟨g,off+q,none⟩).isSome=true:=by
    intro q hq
    rw [cell_of_row w g _ cur 3 (0,0) hb,Array.getElem?_eq_getElem (by omega)];rfl
   have hfz: ∀q,w.frozen? ⟨g,q,none⟩=false:=by
    intro q
    have:w.heap[g]?=some (.cells cur 3 (0,0)):=hb
    simp [World.frozen?,this]
   by_cases hjn:j=n
   ·subst hjn
    have h:=Any2.slices_Insert_int_end_room tI g off j c vg voff 1 vc [.int .i64 y] w (by omega) hroom hc63 rfl (fun q hq=>by rw [Nat.add_assoc];exact hsp _ (by omega)) (fun q _=>hfz _) hvs' h1v
    refine h.mono ?_
    rintro e w' ⟨rfl,rfl⟩
    have h2:=Ez (w1:=w) (y:=y) S hk hn hb hx (Nat.le_refl j) hroom hc hs hb ⟨rfl,rfl,rfl,Nat.le_refl _,fun _ _ _=>rfl⟩
    rw [List.drop_eq_nil_of_le (by omega)] at h2
    exact ⟨_,_,rfl,h2⟩
   ·rcases tZ S hv with ⟨hB,_⟩ |⟨vg',voff',vcur,hB,hvb,_⟩
    ·cases hB
    injection hB with hB
    injection hB with e1 e2
    subst e1 e2
    have hne:vg≠g:=by
     have:=(KT S hk hv hkm).1 g (by simp [Asn.wf,Asn.foot,Value.ownBlock])
     simpa [Asn.foot,Value.ownBlock,eq_comm] using this
    have hvf: ∀q,w.frozen? ⟨vg,q,none⟩=false:=by
     intro q
     have:w.heap[vg]?=some (.cells vcur 3 (0,0)):=hvb
     simp [World.frozen?,this]
    have hsa:w.shape? vg=some (3,vcur.size):=by
     have:w.heap[vg]?=some (.cells vcur 3 (0,0)):=hvb
     simp [World.shape?,this]
    have hsb:w.shape? g=some (3,cur.size):=by
     have:w.heap[g]?=some (.cells cur 3 (0,0)):=hb
     simp [World.shape?,this]
    have h:=Any2.slices_Insert_int_shift tI g off n c j vg voff 1 vc (x.flatMap eI) [.int .i64 y] w (by omega) (by omega) hroom hc63 hne hxl rfl hcell hsp (fun q _=>hfz _) hvs' h1c h1v 3 3 vcur.size cur.size hsa hsb (by omega) (hvf _) (hvf _)
    refine h.mono ?_
    rintro e w' ⟨rfl,rfl⟩
    exact ⟨_,_,rfl,Ez (w1:=w.drew) S hk hn hb hx hj hroom hc hs hb (pZ g (nk w))⟩
  ·have hge:=grownCap_ge w (n+1) c (jH.t 3)
   have hmx:=grownCap_le_maxLen w (n+1) c (jH.t 3) (by unfold maxLen;omega)
   by_cases hjn:j=n
   ·subst hjn
    have h:=Any2.slices_Insert_int_end_grow tI (some ⟨g,off,none⟩) j c vg voff 1 vc (x.flatMap eI) [.int .i64 y] w (by omega) hnc (by omega) (by omega) hxl rfl (fun h=>by cases h) (fun a h q v hq=>by
     injection h with h
     subst h
     rw [Go.WideShapes.add_plain]
     exact hcell q v hq) hvs' h1v
    refine h.mono ?_
    rintro e w' ⟨rfl,rfl⟩
    have hL:(x.flatMap eI++ [Value.int .i64 y]).length=j+1:=by rw [List.length_append,hxl];rfl
    refine ⟨_,_,rfl,Cz S hk hn (Nat.le_refl j) (FT w.drew _ _) ((nk w).trans (uI w.drew _)) ?_ hge hmx ?_⟩
    ·rw [Array.toList_append]
     show List.take (j+1) ((x.flatMap eI++ [Value.int .i64 y])++_)=_
     rw [List.take_append_of_le_length (show j+1≤(x.flatMap eI++ [Value.int .i64 y]).length by omega),List.take_of_length_le (show (x.flatMap eI++ [Value.int .i64 y]).length≤j+1 by omega),List.take_of_length_le (show (x.flatMap eI).length≤j by omega),List.drop_eq_nil_of_le (show (x.flatMap eI).length≤j by omega),List.append_nil]
    ·rw [Array.size_append,qi,List.size_toArray];omega
   ·have h:=Any2.slices_Insert_int_grow tI g off n c j vg voff 1 vc (x.flatMap eI) [.int .i64 y] w (by omega) (by omega) hnc (by omega) (by omega) hxl rfl hcell hvs' h1c h1v
    refine h.mono ?_
    rintro e w' ⟨rfl,rfl⟩
    generalize hC:((x.flatMap eI).take j).toArray++Builtin.zeroCells (Value.int .i64 0).cells (n+1-j)++Builtin.zeroCells (Value.int .i64 0).cells (grownCap w (n+1) c (jH.t 3)-(n+1))=C
    have hCs:C.size=grownCap w (n+1) c (jH.t 3):=by
     rw [←hC,Array.size_append,Array.size_append,qi,qi,List.size_toArray,List.length_take,hxl];omega
    have hCx: ∀q,q<j→C[q]?=(x.flatMap eI)[q]?:=by
     intro q hq
     rw [←hC,Array.append_assoc,Array.getElem?_append_left (by rw [List.size_toArray,List.length_take,hxl];omega)]
     rw [List.getElem?_toArray,List.getElem?_take,if_pos hq]
    have b0:Bk (w.alloc (.cells C (jH.t 3))).drew w.heap.size 3 C:=FT w C 3
    obtain ⟨b1,g1⟩:=xS [.int .i64 y] C j _ b0
    have b1':Bk (((w.alloc (.cells C (jH.t 3))).drew.setCells w.heap.size j [.int .i64 y]).drew) w.heap.size 3 (over C j [.int .i64 y]):=b1
    obtain ⟨b2,g2⟩:=xS ((x.flatMap eI).drop j) _ (j+1) _ b1'
    refine ⟨_,_,rfl,Cz S hk hn hj b2 ?_ (Gp hxl hj hCx (by omega)) hge hmx (by rw [lC,lC,hCs];exact Nat.le_refl _)⟩
    have gall:=((((pZ w.heap.size (uI w (.cells C (jH.t 3)))).trans (pZ w.heap.size (nk _))).trans g1).trans (pZ w.heap.size (nk _))).trans g2
    exact ⟨gall.os,gall.tape,gall.output,gall.size,fun q hq _=>gall.block q hq (by simp;omega)⟩
end Go.Proofs.YtjdlgannencchaaGreatDoor
namespace Go.Proofs.YtjdlgannencchaaGreatDoor
open Go.ChangeShapes Go.WideShapes Go.ChangeAt Go.RowKit
set_option linter.unusedVariables false
set_option linter.unusedSimpArgs false
noncomputable section
def Hw (x:Int×Int×Int):List Value:=[.int .i64 x.1,.int .i64 x.2.1,.int .i64 x.2.2]
theorem Jd (x:Int×Int×Int): ∀u∈Hw x,u.oneCell'=true:=by simp [Hw];exact ⟨rfl,rfl,rfl⟩
def NV (x:Int×Int):List Value:=[.int .i64 x.1,.int .i64 x.2]
theorem KM (x:Int×Int): ∀u∈NV x,u.oneCell'=true:=by simp [NV];exact ⟨rfl,rfl⟩
def gi (x:Int×Int):List Value:=[.int .i64 x.1,.int .i64 x.2]
theorem vh (x:Int×Int):(gi x).length=2:=rfl
theorem vi (x:Int×Int): ∀u∈gi x,u.oneCell'=true:=by simp [gi];exact ⟨rfl,rfl⟩
def fu (a:Int→Option ByteArray) (x0:Int):Option (ByteArray):=(bif (am x0 0)&&(x0==(ak (0-x0))) then some ({data:= #[45,57,50,50,51,51,55,50,48,51,54,56,53,52,55,55,53,56,48,56]}:ByteArray) else (bif am x0 0 then Option.bind (a (ak (0-x0))) (fun b=>au (Np ({data:= #[45]}:ByteArray).size b.size) (some (({data:= #[45]}:ByteArray)++b))) else (bif am x0 10 then some (strOfNums ([wk .u8 (ak (48+x0))]:List Int)) else Option.bind (a (ak (Int.tdiv x0 10))) (fun c=>au (Np c.size (strOfNums ([wk .u8 (ak (48+(Int.tmod x0 10)))]:List Int)).size) (some (c++(strOfNums ([wk .u8 (ak (48+(Int.tmod x0 10)))]:List Int))))))))
def hZ (x0:Int) (x1:List (Int×Int×Int)) (x2:Int):Option (Bool):=some ((bb 0 x2)&&(am x2 x0))
def cd (x0:Int) (x1:List (Int×Int×Int)) (c:Int→Option (Unit ⊕ Bool)) (a:Int):Option (Unit ⊕ Bool):=(bif am a (x1.length:Int) then au (aI a x1.length) (Option.bind (hZ x0 x1 ((x1.getD a.toNat ((0,0,0):Int×Int×Int)).1)) (fun b=>Option.bind (gb (!(!b)) (hZ x0 x1 ((x1.getD a.toNat ((0,0,0):Int×Int×Int)).2.1))) (fun d=>(bif ((((!b) ||(!d)) ||(((x1.getD a.toNat ((0,0,0):Int×Int×Int)).1)==((x1.getD a.toNat ((0,0,0):Int×Int×Int)).2.1))) ||(am ((x1.getD a.toNat ((0,0,0):Int×Int×Int)).2.2) 1)) ||(am 999 ((x1.getD a.toNat ((0,0,0):Int×Int×Int)).2.2)) then some (Sum.inr false) else c (ak (a+1)))))) else some (Sum.inl ()))
def bJ x0 x1:=iz (cd x0 x1)
theorem gj x0 x1 n p:bJ x0 x1 (n+1) p=cd x0 x1 (bJ x0 x1 n) p:=rfl
def aC (x0:Int) (x1:List (Int×Int×Int)):Option (Bool):=(bif ((am x0 1) ||(am 8 x0)) ||(am 10 (x1.length:Int)) then some false else Option.bind (bJ x0 x1 ao 0:Option (Unit ⊕ Bool)) (Sum.elim (fun (a:Unit)=>some true) (fun (r:Bool)=>some r)))
def fK (x0:ByteArray) (b:(Int×Int)→Option (Int ⊕ Int)) (a:(Int×Int)):Option (Int ⊕ Int):=(bif am a.2 (x0.size:Int) then au (aI a.2 x0.size) (au (!(!(am (pT x0 a.2) 48)) ||aI a.2 x0.size) ((bif (am (pT x0 a.2) 48) ||(am 57 (pT x0 a.2)) then some (Sum.inr (-1)) else au (aI a.2 x0.size) (b (ak ((ak (10*a.1))+(ak (wk .u8 ((pT x0 a.2)-48)))),ak (a.2+1)))))) else some (Sum.inl a.1))
def cC x0:=iz (fK x0)
theorem mX x0 n p:cC x0 (n+1) p=fK x0 (cC x0 n) p:=rfl
def jw (x0:ByteArray):Option (Int):=(bif (am (x0.size:Int) 1) ||(am 3 (x0.size:Int)) then some (-1) else Option.bind (cC x0 ao (0,0):Option (Int ⊕ Int)) (Sum.elim (fun (a:Int)=>some a) (fun (r:Int)=>some r)))
def az (x0:ByteArray):Option (Int×Bool):=Option.bind (jw x0) (fun a=>Option.bind (gb (bb 0 a) (bj a)) (fun b=>some (a,(bb 0 a)&&(b.toList==x0.toList))))
def bF (b:Int) (ls:List (Int×Int×Int)):Option ByteArray:=Option.bind (aC b ls) (fun p=>bif p then au (LQ b ls) (some (bH (LR b ls))) else some (bH []))
def da (ws:List ByteArray):Option (Int×Int×Int×Bool):=bif decide (ws.length=2) then Option.bind (az (ws.getD 1 ByteArray.empty)) (fun p=>some ((rq HU (ws.getD 0 ByteArray.empty)).1,p.1,0,(rq HU (ws.getD 0 ByteArray.empty)).2&&p.2)) else bif decide (ws.length=3) then Option.bind (az (ws.getD 1 ByteArray.empty)) (fun p=>Option.bind (az (ws.getD 2 ByteArray.empty)) (fun q=>some ((rq HV (ws.getD 0 ByteArray.empty)).1,p.1,q.1,(rq HV (ws.getD 0 ByteArray.empty)).2&&p.2&&q.2))) else some (0,0,0,false)
def ab (x0:List Int) (x1:Int) (x2:Int):Option (Int×Int):=(bif (am x2 1) ||((x0.length:Int)==0) then some (0,ak (x1+1)) else (bif am (ak ((ak (x1+1))-1)) (x0.length:Int) then au (aI (ak ((ak (x1+1))-1)) x0.length) (au (LY x2) (some (Int.tmod (ak ((x0.getD ((ak ((ak (x1+1))-1)).toNat) (0:Int)))) x2,ak (x1+1)))) else au (LY (x0.length:Int)) (au (aI (Int.tmod (ak ((ak (x1+1))-1)) (x0.length:Int)) x0.length) (au (LY (x0.length:Int)) (au (aI (Int.tmod (ak ((ak ((ak ((ak (x1+1))-1))*7))+3)) (x0.length:Int)) x0.length) (au (LY (x0.length:Int)) (au (LY x2) (some (Int.tmod (pR .i64 (ak ((ak ((ak ((ak ((ak ((x0.getD ((Int.tmod (ak ((ak (x1+1))-1)) (x0.length:Int)).toNat) (0:Int))))*131))+(ak ((ak ((x0.getD ((Int.tmod (ak ((ak ((ak ((ak (x1+1))-1))*7))+3)) (x0.length:Int)).toNat) (0:Int))))*1117))))+(ak ((ak ((ak (x1+1))-1))*29))))+(ak ((ak (Int.tdiv (ak ((ak (x1+1))-1)) (x0.length:Int)))*53)))) (ak (Int.tdiv (ak ((ak ((ak ((ak ((ak ((x0.getD ((Int.tmod (ak ((ak (x1+1))-1)) (x0.length:Int)).toNat) (0:Int))))*131))+(ak ((ak ((x0.getD ((Int.tmod (ak ((ak ((ak ((ak (x1+1))-1))*7))+3)) (x0.length:Int)).toNat) (0:Int))))*1117))))+(ak ((ak ((ak (x1+1))-1))*29))))+(ak ((ak (Int.tdiv (ak ((ak (x1+1))-1)) (x0.length:Int)))*53)))) 64))) x2,ak (x1+1))))))))))
def bO (x0:List Int) (x1:Int) (x2:Int):Option (Bool×Int):=Option.bind (bif am 0 x2 then Option.bind (ab x0 x1 x2) (fun a=>some (a.1==(ak (x2-1)),a.2)) else some (false,x1)) (fun b=>some (b.1,b.2))
def iJ (x0:List Int) (h:Int×Int) (i:Int×Int) (j:(List Bool×List (Int×Int)×Int×Int×List (Int×Int×Int))→Option ((List Bool×List (Int×Int)×Int×List (Int×Int×Int)))) (a:(List Bool×List (Int×Int)×Int×Int×List (Int×Int×Int))):Option ((List Bool×List (Int×Int)×Int×List (Int×Int×Int))):=(bif am a.2.2.1 (ak (2+h.1)) then Option.bind (bif am 0 a.2.2.1 then Option.bind (ab x0 a.2.2.2.1 a.2.2.1) (fun c=>Option.bind (ab x0 c.2 90) (fun b=>au (bp a.2.2.2.2.length ([(c.1,a.2.2.1,ak (10+b.1))]:List (Int×Int×Int)).length) (Option.bind (bif i.1==0 then au (bp a.1.length ([true]:List Bool).length) (some (a.1++([true]:List Bool),b.2)) else Option.bind (ab x0 b.2 6) (fun d=>au (bp a.1.length ([am 0 d.1]:List Bool).length) (some (a.1++([am 0 d.1]:List Bool),d.2)))) (fun g=>some (g.1,g.2,a.2.2.2.2++([(c.1,a.2.2.1,ak (10+b.1))]:List (Int×Int×Int))))))) else some (a.1,a.2.2.2.1,a.2.2.2.2)) (fun e=>Option.bind (ab x0 e.2.1 20) (fun f=>au (bp a.2.1.length ([(0,f.1)]:List (Int×Int)).length) (j (e.1,a.2.1++([(0,f.1)]:List (Int×Int)),ak (a.2.2.1+1),f.2,e.2.2)))) else some (a.1,a.2.1,a.2.2.2.1,a.2.2.2.2))
def dz x0 a b:=iz (iJ x0 a b)
theorem sb x0 p102 p106 n p:dz x0 p102 p106 (n+1) p=iJ x0 p102 p106 (dz x0 p102 p106 n) p:=rfl
def iK (x0:List Int) (b:Int×Int) (f:(List Bool×Int×Int×List (Int×Int×Int))→Option ((List Bool×Int×List (Int×Int×Int)))) (a:(List Bool×Int×Int×List (Int×Int×Int))):Option ((List Bool×Int×List (Int×Int×Int))):=(bif am 0 a.2.1 then Option.bind (ab x0 a.2.2.1 (ak (2+b.1))) (fun c=>Option.bind (ab x0 c.2 (ak ((ak (2+b.1))-1))) (fun d=>au (LY (ak (2+b.1))) (Option.bind (ab x0 d.2 50) (fun e=>au (bp a.2.2.2.length ([(c.1,Int.tmod (ak ((ak (c.1+1))+d.1)) (ak (2+b.1)),ak (10+e.1))]:List (Int×Int×Int)).length) (au (bp a.1.length ([false]:List Bool).length) (f (a.1++([false]:List Bool),ak (a.2.1-1),e.2,a.2.2.2++([(c.1,Int.tmod (ak ((ak (c.1+1))+d.1)) (ak (2+b.1)),ak (10+e.1))]:List (Int×Int×Int))))))))) else some (a.1,a.2.2.1,a.2.2.2))
def dA x0 a:=iz (iK x0 a)
theorem sc x0 p102 n p:dA x0 p102 (n+1) p=iK x0 p102 (dA x0 p102 n) p:=rfl
def rx (b:List Bool×Int×List (Int×Int×Int)) (c:(List Bool×Int)→Option ((List Bool))) (a:(List Bool×Int)):Option ((List Bool)):=(bif am a.2 (b.1.length:Int) then au (aI a.2 b.1.length) (c (a.1.set a.2.toNat true,ak (a.2+1))) else some a.1)
def se a:=iz (rx a)
def iU (x0:List Int) (x1:Int) (x2:Int):Option (Int×List (Int×Int×Int)×List Bool×List (Int×Int)×Int):=Option.bind (ab x0 x1 6) (fun c=>Option.bind (ab x0 c.2 2) (fun k=>Option.bind (dz x0 c k ao (([]:List Bool),([]:List (Int×Int)),0,k.2,([]:List (Int×Int×Int)))) (fun a=>Option.bind (ab x0 a.2.2.1 4) (fun l=>Option.bind (dA x0 c ao (a.1,l.1,l.2,a.2.2.2)) (fun d=>Option.bind (ab x0 d.2.1 100) (fun f=>au (aI 0 a.2.1.length) (Option.bind (ab x0 f.2 2) (fun h=>Option.bind (bif h.1==0 then Option.bind (ab x0 h.2 (ak ((ak (2+c.1))-1))) (fun e=>Option.bind (ab x0 e.2 60) (fun m=>au (aI (ak (1+e.1)) a.2.1.length) (au (aI (ak ((ak (1+e.1))-1)) d.1.length) (some (d.1.set ((ak ((ak (1+e.1))-1)).toNat) false,(a.2.1.set ((0:Int).toNat) (ak (60+f.1),(a.2.1.getD ((0:Int).toNat) ((0,0):Int×Int)).2)).set ((ak (1+e.1)).toNat) (ak (30+m.1),((a.2.1.set ((0:Int).toNat) (ak (60+f.1),(a.2.1.getD ((0:Int).toNat) ((0,0):Int×Int)).2)).getD ((ak (1+e.1)).toNat) ((0,0):Int×Int)).2),m.2))))) else some (d.1,a.2.1.set ((0:Int).toNat) (ak (60+f.1),(a.2.1.getD ((0:Int).toNat) ((0,0):Int×Int)).2),h.2)) (fun b=>Option.bind (bO x0 b.2.2 x2) (fun i=>Option.bind (bif i.1 then Option.bind (ab x0 i.2 4) (fun g=>Option.bind (bif g.1==0 then au (aI (ak ((ak (2+c.1))-1)) a.2.1.length) (au (aI (ak ((ak (2+c.1))-2)) a.2.1.length) (some (b.1,(b.2.1.set ((ak ((ak (2+c.1))-1)).toNat) (5,(b.2.1.getD ((ak ((ak (2+c.1))-1)).toNat) ((0,0):Int×Int)).2)).set ((ak ((ak (2+c.1))-2)).toNat) (5,((b.2.1.set ((ak ((ak (2+c.1))-1)).toNat) (5,(b.2.1.getD ((ak ((ak (2+c.1))-1)).toNat) ((0,0):Int×Int)).2)).getD ((ak ((ak (2+c.1))-2)).toNat) ((0,0):Int×Int)).2)))) else Option.bind (bif g.1==1 then Option.bind (se d ao (b.1,0)) (fun s=>some (s,b.2.1)) else Option.bind (bif g.1==2 then au (bp b.1.length ([false]:List Bool).length) (some (b.1++([false]:List Bool),b.2.1)) else au (sU 1 (a.2.1.length:Int) a.2.1.length) (some (b.1,ac b.2.1 1 (a.2.1.length:Int)))) (fun o=>some (o.1,o.2))) (fun p=>some (p.1,p.2))) (fun q=>some (q.1,q.2,g.2))) else some (b.1,b.2.1,i.2)) (fun j=>some (ak (2+c.1),d.2.2,j.1,j.2.1,j.2.2))))))))))))
def fP (x0:List Int) (x1:Int) (x2:Int) (x3:List (Int×Int×Int)) (x4:List (Int×Int)) (x5:List Bool) (x6:List Bool) (x7:List (Int×Int)) (x8:List Int):Option (Int×Int×Int×Int):=Option.bind (ab x0 x1 12) (fun b=>au (aI b.1 ((([0,0,1,1,2,3,4,4,5,6,6,7]:List Int):List Int).length)) (Option.bind (ab x0 b.2 40) (fun f=>Option.bind (ab x0 f.2 (ak ((x5.length:Int)+1))) (fun g=>Option.bind (ab x0 g.2 20) (fun h=>Option.bind (ab x0 h.2 3) (fun c=>Option.bind (bif am 0 (x7.length:Int) then Option.bind (ab x0 c.2 3) (fun i=>some (i.1==0,i.2)) else some (false,c.2)) (fun d=>(bif d.1 then Option.bind (ab x0 d.2 (x7.length:Int)) (fun a=>au (aI a.1 x7.length) (Option.bind (ab x0 a.2 3) (fun e=>au (aI e.1 ((([5,7,7]:List Int):List Int).length)) (some ((([5,7,7]:List Int).getD e.1.toNat (0:Int)),(x7.getD a.1.toNat ((0,0):Int×Int)).2,(x7.getD a.1.toNat ((0,0):Int×Int)).1,e.2))))) else some (ak ((([0,0,1,1,2,3,4,4,5,6,6,7]:List Int).getD b.1.toNat (0:Int))+(ak ((ak (Int.tdiv f.1 39))*8))),ak (g.1-(ak (Int.tdiv h.1 19))),c.1,d.2)))))))))
def aw (x0:Int) (x1:Int) (x2:Int):Option (Bool):=some ((bb x1 x0)&&(bb x0 x2))
def fO (x0:Int) (x1:List (Int×Int×Int)) (d:Int→Option (Unit ⊕ Bool)) (a:Int):Option (Unit ⊕ Bool):=(bif am a (x1.length:Int) then au (aI a x1.length) (Option.bind (aw ((x1.getD a.toNat ((0,0,0):Int×Int×Int)).1) 0 (ak (x0-1))) (fun b=>Option.bind (gb (!(!b)) (aw ((x1.getD a.toNat ((0,0,0):Int×Int×Int)).2.1) 0 (ak (x0-1)))) (fun c=>Option.bind (gb (!(((!b) ||(!c)) ||(((x1.getD a.toNat ((0,0,0):Int×Int×Int)).1)==((x1.getD a.toNat ((0,0,0):Int×Int×Int)).2.1)))) (aw ((x1.getD a.toNat ((0,0,0):Int×Int×Int)).2.2) 1 999)) (fun e=>(bif (((!b) ||(!c)) ||(((x1.getD a.toNat ((0,0,0):Int×Int×Int)).1)==((x1.getD a.toNat ((0,0,0):Int×Int×Int)).2.1))) ||(!e) then some (Sum.inr false) else d (ak (a+1))))))) else some (Sum.inl ()))
def dR x0 x1:=iz (fO x0 x1)
theorem nc x0 x1 n p:dR x0 x1 (n+1) p=fO x0 x1 (dR x0 x1 n) p:=rfl
def gN (x0:Int) (x1:List (Int×Int×Int)):Option (Bool):=Option.bind (aw x0 1 8) (fun a=>(bif (!a) ||(am 10 (x1.length:Int)) then some false else Option.bind (dR x0 x1 ao 0:Option (Unit ⊕ Bool)) (Sum.elim (fun (b:Unit)=>some true) (fun (r:Bool)=>some r))))
def ei (x2:List (Int×Int)) (c:Int→Option (Unit ⊕ Bool)) (a:Int):Option (Unit ⊕ Bool):=(bif am a (x2.length:Int) then au (aI a x2.length) (Option.bind (aw ((x2.getD a.toNat ((0,0):Int×Int)).1) 0 999) (fun b=>au (!(!(!b)) ||aI a x2.length) (Option.bind (gb (!(!b)) (aw ((x2.getD a.toNat ((0,0):Int×Int)).2) 0 999)) (fun d=>(bif (!b) ||(!d) then some (Sum.inr false) else c (ak (a+1))))))) else some (Sum.inl ()))
def cM x2:=iz (ei x2)
theorem lV x2 n p:cM x2 (n+1) p=ei x2 (cM x2 n) p:=rfl
def fe (x0:Int) (x1:List (Int×Int×Int)) (x2:List (Int×Int)):Option (Bool):=Option.bind (cM x2 ao 0:Option (Unit ⊕ Bool)) (Sum.elim (fun (b:Unit)=>Option.bind (gN x0 x1) (fun a=>some (a&&((x2.length:Int)==x0)))) (fun (r:Bool)=>some r))
def gD (x0:List (Int×Int)) (x1:Int) (x2:Int) (b:Int→Option (Unit ⊕ Int)) (a:Int):Option (Unit ⊕ Int):=(bif am a (x0.length:Int) then au (aI a x0.length) ((bif (((x0.getD a.toNat ((0,0):Int×Int)).1)==x1)&&(((x0.getD a.toNat ((0,0):Int×Int)).2)==x2) then some (Sum.inr a) else b (ak (a+1)))) else some (Sum.inl ()))
def fj x0 x1 x2:=iz (gD x0 x1 x2)
theorem ob x0 x1 x2 n p:fj x0 x1 x2 (n+1) p=gD x0 x1 x2 (fj x0 x1 x2 n) p:=rfl
def ga (x0:List (Int×Int)) (x1:Int) (x2:Int):Option (Int):=Option.bind (fj x0 x1 x2 ao 0:Option (Unit ⊕ Int)) (Sum.elim (fun (a:Unit)=>some (-1)) (fun (r:Int)=>some r))
def fh (x0:List Bool) (x1:List Bool) (b:Int→Option (Unit ⊕ Bool)) (a:Int):Option (Unit ⊕ Bool):=(bif am a (x0.length:Int) then au (aI a x0.length) (au (!(x0.getD a.toNat false) ||aI a x1.length) ((bif (x0.getD a.toNat false)&&(x1.getD a.toNat false) then some (Sum.inr false) else b (ak (a+1))))) else some (Sum.inl ()))
def du x0 x1:=iz (fh x0 x1)
theorem my x0 x1 n p:du x0 x1 (n+1) p=fh x0 x1 (du x0 x1 n) p:=rfl
def fi (x0:List Bool) (x1:List Bool) (x2:List (Int×Int)) (d:Int→Option (Unit ⊕ Bool)) (a:Int):Option (Unit ⊕ Bool):=(bif am a (x2.length:Int) then au (aI a x2.length) (Option.bind (aw ((x2.getD a.toNat ((0,0):Int×Int)).1) 0 9) (fun b=>Option.bind (gb (!(!b)) (aw ((x2.getD a.toNat ((0,0):Int×Int)).2) 0 (ak ((x0.length:Int)-1)))) (fun c=>au (!(!((!b) ||(!c))) ||aI ((x2.getD a.toNat ((0,0):Int×Int)).2) x1.length) (Option.bind (gb (!(((!b) ||(!c)) ||(!(x1.getD (((x2.getD a.toNat ((0,0):Int×Int)).2).toNat) false)))) (ga x2 ((x2.getD a.toNat ((0,0):Int×Int)).1) ((x2.getD a.toNat ((0,0):Int×Int)).2))) (fun e=>(bif (((!b) ||(!c)) ||(!(x1.getD (((x2.getD a.toNat ((0,0):Int×Int)).2).toNat) false))) ||(am e a) then some (Sum.inr false) else d (ak (a+1)))))))) else some (Sum.inl ()))
def dw x0 x1 x2:=iz (fi x0 x1 x2)
theorem mz x0 x1 x2 n p:dw x0 x1 x2 (n+1) p=fi x0 x1 x2 (dw x0 x1 x2 n) p:=rfl
def dN (x0:List Bool) (x1:List Bool) (x2:List (Int×Int)):Option (Bool):=Option.bind (aw (x0.length:Int) 1 10) (fun a=>(bif ((!a) ||((x0.length:Int) !=(x1.length:Int))) ||(am 6 (x2.length:Int)) then some false else Option.bind (du x0 x1 ao 0:Option (Unit ⊕ Bool)) (Sum.elim (fun (b:Unit)=>Option.bind (dw x0 x1 x2 ao 0:Option (Unit ⊕ Bool)) (Sum.elim (fun (c:Unit)=>some true) (fun (r:Bool)=>some r))) (fun (r:Bool)=>some r))))
def bZ (x0:Int) (x1:List (Int×Int×Int)) (x2:List Bool):Option (Bool):=Option.bind (gN x0 x1) (fun a=>some (a&&((x2.length:Int)==(x1.length:Int))))
def oC (x0:Int) (x1:List (Int×Int×Int)) (x2:List Bool) (x3:List (Int×Int)):Option (Bool):=Option.bind (bZ x0 x1 x2) (fun a=>Option.bind (gb a (fe x0 x1 x3)) (fun b=>some (a&&b)))
def gS (x0:List Bool):Option (List Bool):=au (bp ([]:List Bool).length x0.length) (some (([]:List Bool)++x0))
def ir (x0:Int) (x1:List (Int×Int×Int)) (x2:List Bool) (x3:Int) (x4:Bool):Option (List Bool×Bool):=Option.bind (bZ x0 x1 x2) (fun b=>(bif b then Option.bind (gS x2) (fun a=>Option.bind (aw x3 0 (ak ((x2.length:Int)-1))) (fun c=>(bif c then au (aI x3 a.length) (some (a.set x3.toNat x4,true)) else some (a,false)))) else some (([]:List Bool),false)))
def gG (x0:Int) (x1:List (Int×Int×Int)) (x2:List Bool) (b:(List Bool×Int)→Option ((List Bool))) (a:(List Bool×Int)):Option ((List Bool)):=(bif am a.2 (x1.length:Int) then au (aI a.2 x1.length) (au (aI a.2 x2.length) (au (!(x2.getD a.2.toNat false) ||aI ((x1.getD a.2.toNat ((0,0,0):Int×Int×Int)).1) x0.toNat) (au (!((x2.getD a.2.toNat false)&&(!(a.1.getD (((x1.getD a.2.toNat ((0,0,0):Int×Int×Int)).1).toNat) false))) ||aI ((x1.getD a.2.toNat ((0,0,0):Int×Int×Int)).2.1) x0.toNat) (Option.bind (bif (x2.getD a.2.toNat false)&&((a.1.getD (((x1.getD a.2.toNat ((0,0,0):Int×Int×Int)).1).toNat) false) ||(a.1.getD (((x1.getD a.2.toNat ((0,0,0):Int×Int×Int)).2.1).toNat) false)) then au (aI ((x1.getD a.2.toNat ((0,0,0):Int×Int×Int)).1) x0.toNat) (au (aI ((x1.getD a.2.toNat ((0,0,0):Int×Int×Int)).2.1) x0.toNat) (some ((a.1.set (((x1.getD a.2.toNat ((0,0,0):Int×Int×Int)).1).toNat) true).set (((x1.getD a.2.toNat ((0,0,0):Int×Int×Int)).2.1).toNat) true))) else some a.1) (fun c=>b (c,ak (a.2+1))))))) else some a.1)
def fo x0 x1 x2:=iz (gG x0 x1 x2)
theorem oe x0 x1 x2 n p:fo x0 x1 x2 (n+1) p=gG x0 x1 x2 (fo x0 x1 x2 n) p:=rfl
def gF (x0:Int) (x1:List (Int×Int×Int)) (x2:List Bool) (b:(List Bool×Int)→Option ((List Bool))) (a:(List Bool×Int)):Option ((List Bool)):=(bif am a.2 x0 then Option.bind (fo x0 x1 x2 ao (a.1,0)) (fun c=>b (c,ak (a.2+1))) else some a.1)
def fm x0 x1 x2:=iz (gF x0 x1 x2)
theorem od x0 x1 x2 n p:fm x0 x1 x2 (n+1) p=gF x0 x1 x2 (fm x0 x1 x2 n) p:=rfl
def kS (x0:Int) (x1:List (Int×Int×Int)) (x2:List Bool) (x3:Int):Option (List Bool):=au (sY x0) (au (aI x3 x0.toNat) (Option.bind (fm x0 x1 x2 ao ((List.replicate x0.toNat false).set x3.toNat true,0)) (fun a=>some a)))
def gB (x0:Int) (b:List Bool) (c:(List Int×Int)→Option ((List Int))) (a:(List Int×Int)):Option ((List Int)):=(bif am a.2 x0 then au (aI a.2 b.length) (Option.bind (bif b.getD a.2.toNat false then au (bp a.1.length ([a.2]:List Int).length) (some (a.1++([a.2]:List Int))) else some a.1) (fun d=>c (d,ak (a.2+1)))) else some a.1)
def ff x0 a:=iz (gB x0 a)
theorem oa x0 p106 n p:ff x0 p106 (n+1) p=gB x0 p106 (ff x0 p106 n) p:=rfl
def kO (x0:Int) (x1:List (Int×Int×Int)) (x2:List Bool) (x3:Int):Option (List Int):=Option.bind (bZ x0 x1 x2) (fun a=>Option.bind (gb (!(!a)) (aw x3 0 (ak (x0-1)))) (fun b=>(bif (!a) ||(!b) then some ([]:List Int) else Option.bind (kS x0 x1 x2 x3) (fun c=>Option.bind (ff x0 c ao (([]:List Int),0)) (fun d=>some d)))))
def iT (x0:List Int) (x1:Int) (b:Int→Option (Unit ⊕ Bool)) (a:Int):Option (Unit ⊕ Bool):=(bif am a (x0.length:Int) then au (aI a x0.length) ((bif (x0.getD a.toNat (0:Int))==x1 then some (Sum.inr true) else b (ak (a+1)))) else some (Sum.inl ()))
def gO x0 x1:=iz (iT x0 x1)
theorem qm x0 x1 n p:gO x0 x1 (n+1) p=iT x0 x1 (gO x0 x1 n) p:=rfl
def fk (x0:List Int) (x1:Int):Option (Bool):=Option.bind (gO x0 x1 ao 0:Option (Unit ⊕ Bool)) (Sum.elim (fun (a:Unit)=>some false) (fun (r:Bool)=>some r))
def fg (x0:Int) (x1:List (Int×Int×Int)) (x2:List Bool) (x3:Int) (x4:Int):Option (Bool):=Option.bind (kO x0 x1 x2 x3) (fun a=>Option.bind (fk a x4) (fun b=>some b))
def ej (x0:Int) (x1:List (Int×Int×Int)) (x2:List Bool) (b:(List Int×Int)→Option ((List Int))) (a:(List Int×Int)):Option ((List Int)):=Option.bind (gb (am a.2 (x2.length:Int)) (bZ x0 x1 x2)) (fun c=>(bif (am a.2 (x2.length:Int))&&c then Option.bind (ir x0 x1 x2 a.2 false) (fun d=>au (aI a.2 x2.length) (au (!(x2.getD a.2.toNat false) ||aI a.2 x1.length) (au (!(x2.getD a.2.toNat false) ||aI a.2 x1.length) (Option.bind (gb (x2.getD a.2.toNat false) (fg x0 x1 d.1 ((x1.getD a.2.toNat ((0,0,0):Int×Int×Int)).1) ((x1.getD a.2.toNat ((0,0,0):Int×Int×Int)).2.1))) (fun e=>Option.bind (bif (x2.getD a.2.toNat false)&&e then au (bp a.1.length ([a.2]:List Int).length) (some (a.1++([a.2]:List Int))) else some a.1) (fun f=>b (f,ak (a.2+1)))))))) else some a.1))
def cN x0 x1 x2:=iz (ej x0 x1 x2)
theorem lW x0 x1 x2 n p:cN x0 x1 x2 (n+1) p=ej x0 x1 x2 (cN x0 x1 x2 n) p:=rfl
def kN (x0:Int) (x1:List (Int×Int×Int)) (x2:List Bool):Option (List Int):=Option.bind (cN x0 x1 x2 ao (([]:List Int),0)) (fun a=>some a)
def jy (x0:Int) (x1:List (Int×Int×Int)) (x2:List Bool):Option (Bool):=Option.bind (kN x0 x1 x2) (fun a=>some (am 0 (a.length:Int)))
def iq (x0:Int) (x1:List (Int×Int×Int)) (x2:List Bool) (x3:List (Int×Int)) (a:Int) (c:Int→Option (Unit ⊕ Bool)) (b:Int):Option (Unit ⊕ Bool):=(bif am b a then au (aI a x3.length) (au (!(am 0 ((x3.getD a.toNat ((0,0):Int×Int)).1)) ||aI b x3.length) (Option.bind (gb ((am 0 ((x3.getD a.toNat ((0,0):Int×Int)).1))&&(am 0 ((x3.getD b.toNat ((0,0):Int×Int)).1))) (fg x0 x1 x2 b a)) (fun d=>(bif ((am 0 ((x3.getD a.toNat ((0,0):Int×Int)).1))&&(am 0 ((x3.getD b.toNat ((0,0):Int×Int)).1)))&&d then some (Sum.inr false) else c (ak (b+1)))))) else some (Sum.inl ()))
def fZ x0 x1 x2 x3 a:=iz (iq x0 x1 x2 x3 a)
theorem px x0 x1 x2 x3 p108 n p:fZ x0 x1 x2 x3 p108 (n+1) p=iq x0 x1 x2 x3 p108 (fZ x0 x1 x2 x3 p108 n) p:=rfl
def ip (x0:Int) (x1:List (Int×Int×Int)) (x2:List Bool) (x3:List (Int×Int)) (b:Int→Option (Unit ⊕ Bool)) (a:Int):Option (Unit ⊕ Bool):=(bif am a x0 then Option.bind (fZ x0 x1 x2 x3 a ao 0:Option (Unit ⊕ Bool)) (Sum.elim (fun (c:Unit)=>b (ak (a+1))) (fun (r:Bool)=>some (Sum.inr r))) else some (Sum.inl ()))
def fY x0 x1 x2 x3:=iz (ip x0 x1 x2 x3)
theorem pw x0 x1 x2 x3 n p:fY x0 x1 x2 x3 (n+1) p=ip x0 x1 x2 x3 (fY x0 x1 x2 x3 n) p:=rfl
def gR (x0:Int) (x1:List (Int×Int×Int)) (x2:List Bool) (x3:List (Int×Int)):Option (Bool):=Option.bind (oC x0 x1 x2 x3) (fun a=>Option.bind (gb (!(!a)) (jy x0 x1 x2)) (fun b=>(bif (!a) ||b then some false else Option.bind (fY x0 x1 x2 x3 ao 0:Option (Unit ⊕ Bool)) (Sum.elim (fun (c:Unit)=>some true) (fun (r:Bool)=>some r)))))
def ek (x3:List Bool) (x6:List Int) (c:Int→Option (Unit ⊕ Bool)) (a:Int):Option (Unit ⊕ Bool):=(bif am a (x6.length:Int) then au (aI a x6.length) (Option.bind (aw (x6.getD a.toNat (0:Int)) 0 (ak ((x3.length:Int)-1))) (fun b=>au (!((!(!b))&&(am 0 a)) ||aI (ak (a-1)) x6.length) (au (!((!(!b))&&(am 0 a)) ||aI a x6.length) (au (!(!((!b) ||((am 0 a)&&(bb (x6.getD a.toNat (0:Int)) (x6.getD ((ak (a-1)).toNat) (0:Int)))))) ||aI a x6.length) (au (!(!((!b) ||((am 0 a)&&(bb (x6.getD a.toNat (0:Int)) (x6.getD ((ak (a-1)).toNat) (0:Int)))))) ||aI (x6.getD a.toNat (0:Int)) x3.length) ((bif ((!b) ||((am 0 a)&&(bb (x6.getD a.toNat (0:Int)) (x6.getD ((ak (a-1)).toNat) (0:Int))))) ||(x3.getD ((x6.getD a.toNat (0:Int)).toNat) false) then some (Sum.inr false) else c (ak (a+1))))))))) else some (Sum.inl ()))
def cO x3 x6:=iz (ek x3 x6)
theorem lX x3 x6 n p:cO x3 x6 (n+1) p=ek x3 x6 (cO x3 x6 n) p:=rfl
def cX (x0:Int) (x1:List (Int×Int×Int)) (x2:List (Int×Int)) (x3:List Bool) (x4:List Bool) (x5:List (Int×Int)) (x6:List Int):Option (Bool):=Option.bind (fe x0 x1 x2) (fun a=>Option.bind (gb (!(!a)) (dN x3 x4 x5)) (fun b=>(bif ((!a) ||(!b)) ||((x3.length:Int) !=(x1.length:Int)) then some false else Option.bind (cO x3 x6 ao 0:Option (Unit ⊕ Bool)) (Sum.elim (fun (d:Unit)=>Option.bind (gR x0 x1 x3 x2) (fun c=>some c)) (fun (r:Bool)=>some r)))))
def iI (x0:List Bool) (x1:List Bool) (x2:List (Int×Int)):Option (List Bool×List Bool×List (Int×Int)):=Option.bind (gS x0) (fun a=>Option.bind (gS x1) (fun b=>au (bp ([]:List (Int×Int)).length x2.length) (some (a,b,[]++x2))))
def cP (x0:Int) (x1:List (Int×Int×Int)) (x2:List (Int×Int)) (x3:List Bool) (x4:List Bool) (x5:List (Int×Int)) (x6:List Int):Option (Int×List (Int×Int×Int)×List (Int×Int)×List Bool×List Bool×List (Int×Int)×List Int):=au (bp ([]:List (Int×Int×Int)).length x1.length) (au (bp ([]:List (Int×Int)).length x2.length) (Option.bind (iI x3 x4 x5) (fun a=>au (bp ([]:List Int).length x6.length) (some (x0,[]++x1,[]++x2,a.1,a.2.1,a.2.2,[]++x6)))))
def dt (x0:List Bool) (x1:List Bool) (x2:List (Int×Int)) (x3:Int) (b:(List Int×Int)→Option ((List Int))) (a:(List Int×Int)):Option ((List Int)):=Option.bind (gb (am a.2 (x2.length:Int)) (dN x0 x1 x2)) (fun c=>(bif (am a.2 (x2.length:Int))&&c then au (aI a.2 x2.length) (Option.bind (bif ((x2.getD a.2.toNat ((0,0):Int×Int)).2)==x3 then au (aI a.2 x2.length) (au (bp a.1.length ([(x2.getD a.2.toNat ((0,0):Int×Int)).1]:List Int).length) (some (a.1++([(x2.getD a.2.toNat ((0,0):Int×Int)).1]:List Int)))) else some a.1) (fun d=>b (d,ak (a.2+1)))) else some a.1))
def gC x0 x1 x2 x3:=iz (dt x0 x1 x2 x3)
theorem jG x0 x1 x2 x3 n p:gC x0 x1 x2 x3 (n+1) p=dt x0 x1 x2 x3 (gC x0 x1 x2 x3 n) p:=rfl
def db (x0:List Bool) (x1:List Bool) (x2:List (Int×Int)) (x3:Int):Option (List Int):=Option.bind (gC x0 x1 x2 x3 ao (([]:List Int),0)) (fun a=>some a)
def gE (x6:List Int) (x7:Int) (b:(Int×List Int)→Option ((List Int))) (a:(Int×List Int)):Option ((List Int)):=(bif am a.1 (x6.length:Int) then au (aI a.1 x6.length) (Option.bind (bif (x6.getD a.1.toNat (0:Int)) !=x7 then au (aI a.1 x6.length) (au (bp a.2.length ([(x6.getD a.1.toNat (0:Int))]:List Int).length) (some (a.2++([(x6.getD a.1.toNat (0:Int))]:List Int)))) else some a.2) (fun c=>b (ak (a.1+1),c))) else some a.2)
def fl x6 x7:=iz (gE x6 x7)
theorem oc x6 x7 n p:fl x6 x7 (n+1) p=gE x6 x7 (fl x6 x7 n) p:=rfl
def kR (x0:Int) (x1:List (Int×Int×Int)) (x2:List (Int×Int)) (x3:List Bool) (x4:List Bool) (x5:List (Int×Int)) (x6:List Int) (x7:Int):Option (Int×List (Int×Int×Int)×List (Int×Int)×List Bool×List Bool×List (Int×Int)×List Int):=Option.bind (cP x0 x1 x2 x3 x4 x5 x6) (fun a=>Option.bind (fl x6 x7 ao (0,([]:List Int))) (fun b=>some (a.1,a.2.1,a.2.2.1,a.2.2.2.1,a.2.2.2.2.1,a.2.2.2.2.2.1,b)))
def fQ (x3:List Bool) (x6:List Int) (x7:Int) (b:(Int×List Int)→Option ((List Int))) (a:(Int×List Int)):Option ((List Int)):=(bif am a.1 (x3.length:Int) then Option.bind (gb (!(a.1==x7)) (fk x6 a.1)) (fun c=>Option.bind (bif (a.1==x7) ||c then au (bp a.2.length ([a.1]:List Int).length) (some (a.2++([a.1]:List Int))) else some a.2) (fun d=>b (ak (a.1+1),d))) else some a.2)
def dU x3 x6 x7:=iz (fQ x3 x6 x7)
theorem nf x3 x6 x7 n p:dU x3 x6 x7 (n+1) p=fQ x3 x6 x7 (dU x3 x6 x7 n) p:=rfl
def jB (x0:Int) (x1:List (Int×Int×Int)) (x2:List (Int×Int)) (x3:List Bool) (x4:List Bool) (x5:List (Int×Int)) (x6:List Int) (x7:Int):Option (Int×List (Int×Int×Int)×List (Int×Int)×List Bool×List Bool×List (Int×Int)×List Int):=Option.bind (cP x0 x1 x2 x3 x4 x5 x6) (fun a=>au (aI x7 a.2.2.2.1.length) (Option.bind (dU x3 x6 x7 ao (0,([]:List Int))) (fun b=>some (a.1,a.2.1,a.2.2.1,a.2.2.2.1.set x7.toNat false,a.2.2.2.2.1,a.2.2.2.2.2.1,b))))
def lJ (x0:List Bool) (x1:List Bool) (x2:List (Int×Int)) (x3:Int) (x4:Int) (x5:Int):Option (Bool):=Option.bind (ga x2 x5 x4) (fun a=>(bif x3==0 then au (aI x4 x0.length) (au (!(!(x0.getD x4.toNat false)) ||aI x4 x1.length) (some ((!(x0.getD x4.toNat false))&&(!(x1.getD x4.toNat false))))) else (bif x3==1 then au (aI x4 x0.length) (some (x0.getD x4.toNat false)) else (bif x3==2 then au (aI x4 x0.length) (au (!(!(x0.getD x4.toNat false)) ||aI x4 x1.length) (some ((!(x0.getD x4.toNat false))&&(!(x1.getD x4.toNat false))))) else (bif x3==3 then Option.bind (au (aI x4 x1.length) ((bif x1.getD x4.toNat false then Option.bind (db x0 x1 x2 x4) (fun b=>some ((b.length:Int)==0)) else some false))) (fun c=>some c) else (bif x3==4 then au (aI x4 x1.length) (Option.bind (gb (x1.getD x4.toNat false) (aw x5 0 9)) (fun d=>some ((((x1.getD x4.toNat false)&&d)&&(am a 0))&&(am (x2.length:Int) 6)))) else (bif x3==5 then some (bb 0 a) else some false)))))))
def jk (x0:List Bool) (x1:List Bool) (x2:List (Int×Int)) (x3:Int) (x4:Int) (x5:Int):Option (List Bool×List Bool×List (Int×Int)×Bool):=Option.bind (dN x0 x1 x2) (fun h=>(bif h then Option.bind (iI x0 x1 x2) (fun a=>Option.bind (aw x4 0 (ak ((x0.length:Int)-1))) (fun e=>Option.bind (gb (!(!e)) (lJ x0 x1 x2 x3 x4 x5)) (fun i=>(bif (!e) ||(!i) then some (a.1,a.2.1,a.2.2,false) else Option.bind (bif x3==0 then au (aI x4 a.1.length) (some (a.1.set x4.toNat true,a.2.1,a.2.2)) else Option.bind (bif x3==1 then au (aI x4 a.1.length) (some (a.1.set x4.toNat false,a.2.1,a.2.2)) else Option.bind (bif x3==2 then au (aI x4 a.2.1.length) (some (a.2.1.set x4.toNat true,a.2.2)) else Option.bind (bif x3==3 then au (aI x4 a.2.1.length) (some (a.2.1.set x4.toNat false,a.2.2)) else Option.bind (bif x3==4 then au (bp a.2.2.length ([(x5,x4)]:List (Int×Int)).length) (some (a.2.2++([(x5,x4)]:List (Int×Int)))) else Option.bind (ga x2 x5 x4) (fun b=>au (sU 0 b a.2.2.length) (au (sU (ak (b+1)) (x2.length:Int) x2.length) (au (bp (ac a.2.2 0 b).length (ac x2 (ak (b+1)) (x2.length:Int)).length) (some ((ac a.2.2 0 b)++(ac x2 (ak (b+1)) (x2.length:Int)))))))) (fun j=>some (a.2.1,j))) (fun f=>some (f.1,f.2))) (fun g=>some (a.1,g.1,g.2))) (fun c=>some (c.1,c.2.1,c.2.2))) (fun d=>some (d.1,d.2.1,d.2.2,true)))))) else some (([]:List Bool),([]:List Bool),([]:List (Int×Int)),false)))
def kP (x0:Int) (x1:List (Int×Int×Int)) (x2:List (Int×Int)) (x3:List Bool) (x4:List Bool) (x5:List (Int×Int)) (x6:List Int) (x7:Int) (x8:Int) (x9:Int):Option (Int×List (Int×Int×Int)×List (Int×Int)×List Bool×List Bool×List (Int×Int)×List Int×Bool):=Option.bind (cX x0 x1 x2 x3 x4 x5 x6) (fun h=>(bif h then Option.bind (aw x8 0 (ak ((x3.length:Int)-1))) (fun i=>(bif i then Option.bind (fk x6 x8) (fun g=>(bif (x7==6)&&(!g) then Option.bind (jB x0 x1 x2 x3 x4 x5 x6 x8) (fun b=>some (b.1,b.2.1,b.2.2.1,b.2.2.2.1,b.2.2.2.2.1,b.2.2.2.2.2.1,b.2.2.2.2.2.2,true)) else Option.bind (bif (x7==7)&&g then Option.bind (db x3 x4 x5 x8) (fun j=>Option.bind (fk j x9) (fun k=>some k)) else some false) (fun l=>(bif l then Option.bind (kR x0 x1 x2 x3 x4 x5 x6 x8) (fun c=>some (c.1,c.2.1,c.2.2.1,c.2.2.2.1,c.2.2.2.2.1,c.2.2.2.2.2.1,c.2.2.2.2.2.2,true)) else (bif (x7==0)&&g then Option.bind (cP x0 x1 x2 x3 x4 x5 x6) (fun d=>some (d.1,d.2.1,d.2.2.1,d.2.2.2.1,d.2.2.2.2.1,d.2.2.2.2.2.1,d.2.2.2.2.2.2,false)) else Option.bind (cP x0 x1 x2 x3 x4 x5 x6) (fun a=>Option.bind (jk x3 x4 x5 x7 x8 x9) (fun f=>Option.bind (gb (!(!f.2.2.2)) (gR x0 x1 f.1 x2)) (fun m=>(bif (!f.2.2.2) ||(!m) then some (a.1,a.2.1,a.2.2.1,a.2.2.2.1,a.2.2.2.2.1,a.2.2.2.2.2.1,a.2.2.2.2.2.2,false) else some (a.1,a.2.1,a.2.2.1,f.1,f.2.1,f.2.2.1,a.2.2.2.2.2.2,true)))))))))) else Option.bind (cP x0 x1 x2 x3 x4 x5 x6) (fun e=>some (e.1,e.2.1,e.2.2.1,e.2.2.2.1,e.2.2.2.2.1,e.2.2.2.2.2.1,e.2.2.2.2.2.2,false)))) else some (0,([]:List (Int×Int×Int)),([]:List (Int×Int)),([]:List Bool),([]:List Bool),([]:List (Int×Int)),([]:List Int),false)))
def jd (x0:List Int) (e:(Int×Int×Int×List (Int×Int×Int)×List (Int×Int)×List Bool×List Bool×List (Int×Int)×List Int)→Option ((Int×Int×List (Int×Int×Int)×List (Int×Int)×List Bool×List Bool×List (Int×Int)×List Int))) (a:(Int×Int×Int×List (Int×Int×Int)×List (Int×Int)×List Bool×List Bool×List (Int×Int)×List Int)):Option ((Int×Int×List (Int×Int×Int)×List (Int×Int)×List Bool×List Bool×List (Int×Int)×List Int)):=(bif am 0 a.1 then Option.bind (fP x0 a.2.1 a.2.2.1 a.2.2.2.1 a.2.2.2.2.1 a.2.2.2.2.2.1 a.2.2.2.2.2.2.1 a.2.2.2.2.2.2.2.1 a.2.2.2.2.2.2.2.2) (fun d=>Option.bind (kP a.2.2.1 a.2.2.2.1 a.2.2.2.2.1 a.2.2.2.2.2.1 a.2.2.2.2.2.2.1 a.2.2.2.2.2.2.2.1 a.2.2.2.2.2.2.2.2 d.1 d.2.1 d.2.2.1) (fun b=>Option.bind (bif b.2.2.2.2.2.2.2 then some (b.1,b.2.1,b.2.2.1,b.2.2.2.1,b.2.2.2.2.1,b.2.2.2.2.2.1,b.2.2.2.2.2.2.1) else some (a.2.2.1,a.2.2.2.1,a.2.2.2.2.1,a.2.2.2.2.2.1,a.2.2.2.2.2.2.1,a.2.2.2.2.2.2.2.1,a.2.2.2.2.2.2.2.2)) (fun c=>e (ak (a.1-1),d.2.2.2,c.1,c.2.1,c.2.2.1,c.2.2.2.1,c.2.2.2.2.1,c.2.2.2.2.2.1,c.2.2.2.2.2.2)))) else some (a.2.1,a.2.2.1,a.2.2.2.1,a.2.2.2.2.1,a.2.2.2.2.2.1,a.2.2.2.2.2.2.1,a.2.2.2.2.2.2.2.1,a.2.2.2.2.2.2.2.2))
def dS x0:=iz (jd x0)
theorem sH x0 n p:dS x0 (n+1) p=jd x0 (dS x0 n) p:=rfl
def je (b:Int×Int×List (Int×Int×Int)×List (Int×Int)×List Bool×List Bool×List (Int×Int)×List Int) (c:(Int×List Int)→Option ((List Int))) (a:(Int×List Int)):Option ((List Int)):=(bif am a.1 (b.2.2.2.2.1.length:Int) then au (aI a.1 b.2.2.2.2.1.length) (Option.bind (bif b.2.2.2.2.1.getD a.1.toNat false then some ([a.1]:List Int) else some a.2) (fun d=>c (ak (a.1+1),d))) else some a.2)
def dT a:=iz (je a)
theorem sJ p117 n p:dT p117 (n+1) p=je p117 (dT p117 n) p:=rfl
def jA (x0:List Int) (x1:Int) (x2:Int):Option (Int×List (Int×Int×Int)×List (Int×Int)×List Bool×List Bool×List (Int×Int)×List Int×Int):=Option.bind (iU x0 x1 0) (fun b=>au (sY (b.2.2.1.length:Int)) (Option.bind (ab x0 b.2.2.2.2 10) (fun j=>Option.bind (dS x0 ao (j.1,j.2,b.1,b.2.1,b.2.2.2.1,b.2.2.1,List.replicate b.2.2.1.length false,([]:List (Int×Int)),([]:List Int))) (fun a=>Option.bind (bO x0 a.1 x2) (fun h=>Option.bind (bif h.1 then Option.bind (ab x0 h.2 5) (fun c=>Option.bind (bif c.1==0 then au (sU 1 (a.2.2.2.1.length:Int) a.2.2.2.1.length) (some (ac a.2.2.2.1 1 (a.2.2.2.1.length:Int),a.2.2.2.2.1,a.2.2.2.2.2.1,a.2.2.2.2.2.2.2)) else Option.bind (bif c.1==1 then au (bp a.2.2.2.2.2.2.2.length ([(a.2.2.2.2.1.length:Int)]:List Int).length) (some (a.2.2.2.1,a.2.2.2.2.1,a.2.2.2.2.2.1,a.2.2.2.2.2.2.2++([(a.2.2.2.2.1.length:Int)]:List Int))) else Option.bind (bif c.1==2 then Option.bind (dT a ao (0,a.2.2.2.2.2.2.2)) (fun k=>some (a.2.2.2.1,a.2.2.2.2.1,a.2.2.2.2.2.1,k)) else Option.bind (bif c.1==3 then au (bp a.2.2.2.2.1.length ([false]:List Bool).length) (au (bp a.2.2.2.2.2.1.length ([false]:List Bool).length) (some (a.2.2.2.1,a.2.2.2.2.1++([false]:List Bool),a.2.2.2.2.2.1++([false]:List Bool)))) else au (aI 0 a.2.2.2.1.length) (au (aI 1 a.2.2.2.1.length) (some ((a.2.2.2.1.set ((0:Int).toNat) (9,(a.2.2.2.1.getD ((0:Int).toNat) ((0,0):Int×Int)).2)).set ((1:Int).toNat) (9,((a.2.2.2.1.set ((0:Int).toNat) (9,(a.2.2.2.1.getD ((0:Int).toNat) ((0,0):Int×Int)).2)).getD ((1:Int).toNat) ((0,0):Int×Int)).2),a.2.2.2.2.1,a.2.2.2.2.2.1)))) (fun i=>some (i.1,i.2.1,i.2.2,a.2.2.2.2.2.2.2))) (fun e=>some (e.1,e.2.1,e.2.2.1,e.2.2.2))) (fun f=>some (f.1,f.2.1,f.2.2.1,f.2.2.2))) (fun g=>some (c.2,g.1,g.2.1,g.2.2.1,g.2.2.2))) else some (h.2,a.2.2.2.1,a.2.2.2.2.1,a.2.2.2.2.2.1,a.2.2.2.2.2.2.2)) (fun d=>some (a.2.1,a.2.2.1,d.2.1,d.2.2.1,d.2.2.2.1,a.2.2.2.2.2.2.1,d.2.2.2.2,d.1)))))))
def kQ (x0:List Int) (x1:Int) (x2:Int) (x3:List (Int×Int×Int)) (x4:List (Int×Int)) (x5:List Bool) (x6:List Bool) (x7:List (Int×Int)) (x8:List Int):Option (ByteArray×Int):=Option.bind (ab x0 x1 10) (fun a=>au (aI a.1 (([({data:= #[111,110]}:ByteArray),({data:= #[111,110]}:ByteArray),({data:= #[111,102,102]}:ByteArray),({data:= #[101,97,114,116,104]}:ByteArray),({data:= #[99,108,101,97,114]}:ByteArray),({data:= #[105,115,115,117,101]}:ByteArray),({data:= #[114,101,116,117,114,110]}:ByteArray),({data:= #[98,114,101,97,107]}:ByteArray),({data:= #[109,101,110,100]}:ByteArray),({data:= #[102,108,111,119]}:ByteArray)]:List ByteArray).length)) (au (Np (([({data:= #[111,110]}:ByteArray),({data:= #[111,110]}:ByteArray),({data:= #[111,102,102]}:ByteArray),({data:= #[101,97,114,116,104]}:ByteArray),({data:= #[99,108,101,97,114]}:ByteArray),({data:= #[105,115,115,117,101]}:ByteArray),({data:= #[114,101,116,117,114,110]}:ByteArray),({data:= #[98,114,101,97,107]}:ByteArray),({data:= #[109,101,110,100]}:ByteArray),({data:= #[102,108,111,119]}:ByteArray)]:List ByteArray).getD a.1.toNat ByteArray.empty).size ({data:= #[32]}:ByteArray).size) (Option.bind (ab x0 a.2 (ak ((x5.length:Int)+1))) (fun d=>Option.bind (cf d.1) (fun b=>au (Np ((([({data:= #[111,110]}:ByteArray),({data:= #[111,110]}:ByteArray),({data:= #[111,102,102]}:ByteArray),({data:= #[101,97,114,116,104]}:ByteArray),({data:= #[99,108,101,97,114]}:ByteArray),({data:= #[105,115,115,117,101]}:ByteArray),({data:= #[114,101,116,117,114,110]}:ByteArray),({data:= #[98,114,101,97,107]}:ByteArray),({data:= #[109,101,110,100]}:ByteArray),({data:= #[102,108,111,119]}:ByteArray)]:List ByteArray).getD a.1.toNat ByteArray.empty)++({data:= #[32]}:ByteArray)).size b.size) (Option.bind (bif (((([({data:= #[111,110]}:ByteArray),({data:= #[111,110]}:ByteArray),({data:= #[111,102,102]}:ByteArray),({data:= #[101,97,114,116,104]}:ByteArray),({data:= #[99,108,101,97,114]}:ByteArray),({data:= #[105,115,115,117,101]}:ByteArray),({data:= #[114,101,116,117,114,110]}:ByteArray),({data:= #[98,114,101,97,107]}:ByteArray),({data:= #[109,101,110,100]}:ByteArray),({data:= #[102,108,111,119]}:ByteArray)]:List ByteArray).getD a.1.toNat ByteArray.empty).toList==({data:= #[105,115,115,117,101]}:ByteArray).toList) ||((([({data:= #[111,110]}:ByteArray),({data:= #[111,110]}:ByteArray),({data:= #[111,102,102]}:ByteArray),({data:= #[101,97,114,116,104]}:ByteArray),({data:= #[99,108,101,97,114]}:ByteArray),({data:= #[105,115,115,117,101]}:ByteArray),({data:= #[114,101,116,117,114,110]}:ByteArray),({data:= #[98,114,101,97,107]}:ByteArray),({data:= #[109,101,110,100]}:ByteArray),({data:= #[102,108,111,119]}:ByteArray)]:List ByteArray).getD a.1.toNat ByteArray.empty).toList==({data:= #[114,101,116,117,114,110]}:ByteArray).toList)) ||((([({data:= #[111,110]}:ByteArray),({data:= #[111,110]}:ByteArray),({data:= #[111,102,102]}:ByteArray),({data:= #[101,97,114,116,104]}:ByteArray),({data:= #[99,108,101,97,114]}:ByteArray),({data:= #[105,115,115,117,101]}:ByteArray),({data:= #[114,101,116,117,114,110]}:ByteArray),({data:= #[98,114,101,97,107]}:ByteArray),({data:= #[109,101,110,100]}:ByteArray),({data:= #[102,108,111,119]}:ByteArray)]:List ByteArray).getD a.1.toNat ByteArray.empty).toList==({data:= #[109,101,110,100]}:ByteArray).toList) then au (Np (((([({data:= #[111,110]}:ByteArray),({data:= #[111,110]}:ByteArray),({data:= #[111,102,102]}:ByteArray),({data:= #[101,97,114,116,104]}:ByteArray),({data:= #[99,108,101,97,114]}:ByteArray),({data:= #[105,115,115,117,101]}:ByteArray),({data:= #[114,101,116,117,114,110]}:ByteArray),({data:= #[98,114,101,97,107]}:ByteArray),({data:= #[109,101,110,100]}:ByteArray),({data:= #[102,108,111,119]}:ByteArray)]:List ByteArray).getD a.1.toNat ByteArray.empty)++({data:= #[32]}:ByteArray))++b).size ({data:= #[32]}:ByteArray).size) (Option.bind (ab x0 d.2 3) (fun g=>Option.bind (cf g.1) (fun h=>au (Np ((((([({data:= #[111,110]}:ByteArray),({data:= #[111,110]}:ByteArray),({data:= #[111,102,102]}:ByteArray),({data:= #[101,97,114,116,104]}:ByteArray),({data:= #[99,108,101,97,114]}:ByteArray),({data:= #[105,115,115,117,101]}:ByteArray),({data:= #[114,101,116,117,114,110]}:ByteArray),({data:= #[98,114,101,97,107]}:ByteArray),({data:= #[109,101,110,100]}:ByteArray),({data:= #[102,108,111,119]}:ByteArray)]:List ByteArray).getD a.1.toNat ByteArray.empty)++({data:= #[32]}:ByteArray))++b)++({data:= #[32]}:ByteArray)).size h.size) (some (((((([({data:= #[111,110]}:ByteArray),({data:= #[111,110]}:ByteArray),({data:= #[111,102,102]}:ByteArray),({data:= #[101,97,114,116,104]}:ByteArray),({data:= #[99,108,101,97,114]}:ByteArray),({data:= #[105,115,115,117,101]}:ByteArray),({data:= #[114,101,116,117,114,110]}:ByteArray),({data:= #[98,114,101,97,107]}:ByteArray),({data:= #[109,101,110,100]}:ByteArray),({data:= #[102,108,111,119]}:ByteArray)]:List ByteArray).getD a.1.toNat ByteArray.empty)++({data:= #[32]}:ByteArray))++b)++({data:= #[32]}:ByteArray))++h,g.2))))) else some (((([({data:= #[111,110]}:ByteArray),({data:= #[111,110]}:ByteArray),({data:= #[111,102,102]}:ByteArray),({data:= #[101,97,114,116,104]}:ByteArray),({data:= #[99,108,101,97,114]}:ByteArray),({data:= #[105,115,115,117,101]}:ByteArray),({data:= #[114,101,116,117,114,110]}:ByteArray),({data:= #[98,114,101,97,107]}:ByteArray),({data:= #[109,101,110,100]}:ByteArray),({data:= #[102,108,111,119]}:ByteArray)]:List ByteArray).getD a.1.toNat ByteArray.empty)++({data:= #[32]}:ByteArray))++b,d.2)) (fun i=>Option.bind (ab x0 i.2 8) (fun c=>(bif c.1==0 then Option.bind (ab x0 c.2 6) (fun e=>au (aI e.1 (([({data:= #[115,116,97,116,101]}:ByteArray),({data:= #[115,101,114,118,101,100]}:ByteArray),({data:= #[100,97,114,107]}:ByteArray),({data:= #[98,114,111,107,101,110]}:ByteArray),({data:= #[110,101,116]}:ByteArray),({data:= #[104,101,97,108]}:ByteArray)]:List ByteArray).length)) (some ((([({data:= #[115,116,97,116,101]}:ByteArray),({data:= #[115,101,114,118,101,100]}:ByteArray),({data:= #[100,97,114,107]}:ByteArray),({data:= #[98,114,111,107,101,110]}:ByteArray),({data:= #[110,101,116]}:ByteArray),({data:= #[104,101,97,108]}:ByteArray)]:List ByteArray).getD e.1.toNat ByteArray.empty),e.2))) else (bif c.1==1 then Option.bind (ab x0 c.2 8) (fun f=>au (aI f.1 (([({data:= #[]}:ByteArray),({data:= #[111,110]}:ByteArray),({data:= #[111,110,32,48,49]}:ByteArray),({data:= #[105,115,115,117,101,32,49]}:ByteArray),({data:= #[115,116,97,116,101,32,49]}:ByteArray),({data:= #[111,102,102,32,49,32]}:ByteArray),({data:= #[122,105,112]}:ByteArray),({data:= #[102,108,111,119,32,120]}:ByteArray)]:List ByteArray).length)) (some ((([({data:= #[]}:ByteArray),({data:= #[111,110]}:ByteArray),({data:= #[111,110,32,48,49]}:ByteArray),({data:= #[105,115,115,117,101,32,49]}:ByteArray),({data:= #[115,116,97,116,101,32,49]}:ByteArray),({data:= #[111,102,102,32,49,32]}:ByteArray),({data:= #[122,105,112]}:ByteArray),({data:= #[102,108,111,119,32,120]}:ByteArray)]:List ByteArray).getD f.1.toNat ByteArray.empty),f.2))) else some (i.1,c.2)))))))))))
def ic (x0:Int):Option (Bool):=some ((bb 0 x0)&&(bb x0 999))
def dY (x2:List (Int×Int)) (c:Int→Option (Unit ⊕ Bool)) (a:Int):Option (Unit ⊕ Bool):=(bif am a (x2.length:Int) then au (aI a x2.length) (Option.bind (ic ((x2.getD a.toNat ((0,0):Int×Int)).1)) (fun b=>Option.bind (gb (!(!b)) (ic ((x2.getD a.toNat ((0,0):Int×Int)).2))) (fun d=>(bif (!b) ||(!d) then some (Sum.inr false) else c (ak (a+1)))))) else some (Sum.inl ()))
def cH x2:=iz (dY x2)
theorem lP x2 n p:cH x2 (n+1) p=dY x2 (cH x2 n) p:=rfl
def eH (x0:Int) (x1:List (Int×Int×Int)) (x2:List (Int×Int)):Option (Bool):=Option.bind (aC x0 x1) (fun a=>(bif (!a) ||((x2.length:Int) !=x0) then some false else Option.bind (cH x2 ao 0:Option (Unit ⊕ Bool)) (Sum.elim (fun (b:Unit)=>some true) (fun (r:Bool)=>some r))))
def aL (x0:List (Int×Int)) (x1:Int) (x2:Int) (b:Int→Option (Unit ⊕ Int)) (a:Int):Option (Unit ⊕ Int):=(bif am a (x0.length:Int) then au (aI a x0.length) ((bif (x1==((x0.getD a.toNat ((0,0):Int×Int)).1))&&(x2==((x0.getD a.toNat ((0,0):Int×Int)).2)) then some (Sum.inr a) else b (ak (a+1)))) else some (Sum.inl ()))
def aA x0 x1 x2:=iz (aL x0 x1 x2)
theorem ce x0 x1 x2 n p:aA x0 x1 x2 (n+1) p=aL x0 x1 x2 (aA x0 x1 x2 n) p:=rfl
def aG (x0:List (Int×Int)) (x1:Int) (x2:Int):Option (Int):=Option.bind (aA x0 x1 x2 ao 0:Option (Unit ⊕ Int)) (Sum.elim (fun (a:Unit)=>some (-1)) (fun (r:Int)=>some r))
def aq (x0:List (Int×Int)) (x1:Int) (x2:Int):Option (Bool):=Option.bind (aG x0 x1 x2) (fun a=>some (bb 0 a))
def eP (x0:List Bool) (x1:List Bool) (b:Int→Option (Unit ⊕ Bool)) (a:Int):Option (Unit ⊕ Bool):=(bif am a (x0.length:Int) then au (aI a x0.length) (au (!(x0.getD a.toNat false) ||aI a x1.length) ((bif (x0.getD a.toNat false)&&(x1.getD a.toNat false) then some (Sum.inr false) else b (ak (a+1))))) else some (Sum.inl ()))
def dl x0 x1:=iz (eP x0 x1)
theorem mq x0 x1 n p:dl x0 x1 (n+1) p=eP x0 x1 (dl x0 x1 n) p:=rfl
def eQ (x0:List Bool) (x1:List Bool) (x2:List (Int×Int)) (b:Int→Option (Unit ⊕ Bool)) (a:Int):Option (Unit ⊕ Bool):=(bif am a (x2.length:Int) then au (aI a x2.length) (au (!(!((((am ((x2.getD a.toNat ((0,0):Int×Int)).1) 0) ||(am 9 ((x2.getD a.toNat ((0,0):Int×Int)).1))) ||(am ((x2.getD a.toNat ((0,0):Int×Int)).2) 0)) ||(bb (x0.length:Int) ((x2.getD a.toNat ((0,0):Int×Int)).2)))) ||aI ((x2.getD a.toNat ((0,0):Int×Int)).2) x1.length) (au (!(!(((((am ((x2.getD a.toNat ((0,0):Int×Int)).1) 0) ||(am 9 ((x2.getD a.toNat ((0,0):Int×Int)).1))) ||(am ((x2.getD a.toNat ((0,0):Int×Int)).2) 0)) ||(bb (x0.length:Int) ((x2.getD a.toNat ((0,0):Int×Int)).2))) ||(!(x1.getD (((x2.getD a.toNat ((0,0):Int×Int)).2).toNat) false)))) ||sU 0 a x2.length) (Option.bind (gb (!(((((am ((x2.getD a.toNat ((0,0):Int×Int)).1) 0) ||(am 9 ((x2.getD a.toNat ((0,0):Int×Int)).1))) ||(am ((x2.getD a.toNat ((0,0):Int×Int)).2) 0)) ||(bb (x0.length:Int) ((x2.getD a.toNat ((0,0):Int×Int)).2))) ||(!(x1.getD (((x2.getD a.toNat ((0,0):Int×Int)).2).toNat) false)))) (aq (ac x2 0 a) ((x2.getD a.toNat ((0,0):Int×Int)).1) ((x2.getD a.toNat ((0,0):Int×Int)).2))) (fun c=>(bif (((((am ((x2.getD a.toNat ((0,0):Int×Int)).1) 0) ||(am 9 ((x2.getD a.toNat ((0,0):Int×Int)).1))) ||(am ((x2.getD a.toNat ((0,0):Int×Int)).2) 0)) ||(bb (x0.length:Int) ((x2.getD a.toNat ((0,0):Int×Int)).2))) ||(!(x1.getD (((x2.getD a.toNat ((0,0):Int×Int)).2).toNat) false))) ||c then some (Sum.inr false) else b (ak (a+1))))))) else some (Sum.inl ()))
def dm x0 x1 x2:=iz (eQ x0 x1 x2)
theorem mr x0 x1 x2 n p:dm x0 x1 x2 (n+1) p=eQ x0 x1 x2 (dm x0 x1 x2 n) p:=rfl
def dL (x0:List Bool) (x1:List Bool) (x2:List (Int×Int)):Option (Bool):=(bif (((am (x0.length:Int) 1) ||(am 10 (x0.length:Int))) ||((x1.length:Int) !=(x0.length:Int))) ||(am 6 (x2.length:Int)) then some false else Option.bind (dl x0 x1 ao 0:Option (Unit ⊕ Bool)) (Sum.elim (fun (a:Unit)=>Option.bind (dm x0 x1 x2 ao 0:Option (Unit ⊕ Bool)) (Sum.elim (fun (b:Unit)=>some true) (fun (r:Bool)=>some r))) (fun (r:Bool)=>some r)))
def aH (x0:Int) (x1:List (Int×Int×Int)) (x2:Int):Option (Bool):=some ((bb 0 x2)&&(am x2 (x1.length:Int)))
def ia (x0:Int) (x1:List (Int×Int×Int)) (x2:List Bool):Option (Bool):=Option.bind (aC x0 x1) (fun a=>some (a&&((x2.length:Int)==(x1.length:Int))))
def cY (x0:Int) (x1:List (Int×Int×Int)) (x2:List Bool) (x3:List (Int×Int)):Option (Bool):=Option.bind (ia x0 x1 x2) (fun a=>Option.bind (gb a (eH x0 x1 x3)) (fun b=>some (a&&b)))
def fN (x0:Int) (b:(List Int×Int)→Option ((List Int))) (a:(List Int×Int)):Option ((List Int)):=(bif am a.2 (x0.toNat:Int) then au (aI a.2 x0.toNat) (b (a.1.set a.2.toNat a.2,ak (a.2+1))) else some a.1)
def dQ x0:=iz (fN x0)
theorem na x0 n p:dQ x0 (n+1) p=fN x0 (dQ x0 n) p:=rfl
def gM (x0:Int):Option (List Int):=au (sY x0) (Option.bind (dQ x0 ao (List.replicate x0.toNat (0:Int),0)) (fun a=>some a))
def gU (x0:List Int) (b:(List Int×Int)→Option ((Int×List Int))) (a:(List Int×Int)):Option ((Int×List Int)):=au (aI a.2 x0.length) ((bif (a.1.getD a.2.toNat (0:Int)) !=a.2 then au (aI a.2 x0.length) (au (aI (a.1.getD a.2.toNat (0:Int)) x0.length) (au (aI a.2 x0.length) (au (aI a.2 x0.length) (b (a.1.set a.2.toNat (a.1.getD ((a.1.getD a.2.toNat (0:Int)).toNat) (0:Int)),((a.1.set a.2.toNat (a.1.getD ((a.1.getD a.2.toNat (0:Int)).toNat) (0:Int))).getD a.2.toNat (0:Int))))))) else some (a.2,a.1)))
def fb x0:=iz (gU x0)
theorem qU x0 n p:fb x0 (n+1) p=gU x0 (fb x0 n) p:=rfl
def bd (x0:List Int) (x1:Int):Option (Int×List Int):=Option.bind (fb x0 ao (x0,x1)) (fun a=>some (a.1,a.2))
def io (x0:List Int) (x1:Int) (x2:Int):Option (Bool×List Int):=Option.bind (bd x0 x1) (fun a=>Option.bind (bd a.2 x2) (fun b=>some (a.1==b.1,b.2)))
def fc (x0:List Int) (x1:Int) (x2:Int):Option (List Int):=Option.bind (bd x0 x1) (fun a=>Option.bind (bd a.2 x2) (fun b=>au (aI (max a.1 b.1) x0.length) (some (b.2.set ((max a.1 b.1).toNat) (min a.1 b.1)))))
def fL (x1:List (Int×Int×Int)) (x2:List Bool) (c:(List Int×Int)→Option (Unit ⊕ Bool)) (a:(List Int×Int)):Option (Unit ⊕ Bool):=(bif am a.2 (x1.length:Int) then au (aI a.2 x1.length) (au (aI a.2 x2.length) (Option.bind ((bif x2.getD a.2.toNat false then Option.bind (io a.1 ((x1.getD a.2.toNat ((0,0,0):Int×Int×Int)).1) ((x1.getD a.2.toNat ((0,0,0):Int×Int×Int)).2.1)) (fun b=>(bif b.1 then some (Sum.inr true) else Option.bind (fc b.2 ((x1.getD a.2.toNat ((0,0,0):Int×Int×Int)).1) ((x1.getD a.2.toNat ((0,0,0):Int×Int×Int)).2.1)) (fun d=>some (Sum.inl d)))) else some (Sum.inl a.1)):Option ((List Int) ⊕ Bool)) (Sum.elim (fun (e:List Int)=>c (e,ak (a.2+1))) (fun (r:Bool)=>some (Sum.inr r))))) else some (Sum.inl ()))
def gr x1 x2:=iz (fL x1 x2)
theorem mY x1 x2 n p:gr x1 x2 (n+1) p=fL x1 x2 (gr x1 x2 n) p:=rfl
def jx (x0:Int) (x1:List (Int×Int×Int)) (x2:List Bool):Option (Bool):=Option.bind (gM x0) (fun a=>Option.bind (gr x1 x2 ao (a,0):Option (Unit ⊕ Bool)) (Sum.elim (fun (b:Unit)=>some false) (fun (r:Bool)=>some r)))
def bV (x0:Int) (x1:Int) (x2:Int) (x3:Int):Option (Int):=(bif x3==x0 then some x1 else (bif x3==x1 then some x0 else some (-1)))
def dF (x1:List (Int×Int×Int)) (x2:List Int) (x3:List Int) (x5:List Bool) (x6:Int) (d:Int×List Int×List Int×List Int) (e:(Int×List Int×List Int×List Int)→Option ((List Int×List Int×List Int))) (a:(Int×List Int×List Int×List Int)):Option ((List Int×List Int×List Int)):=(bif am a.1 (x1.length:Int) then au (aI a.1 x1.length) (Option.bind (bV ((x1.getD a.1.toNat ((0,0,0):Int×Int×Int)).1) ((x1.getD a.1.toNat ((0,0,0):Int×Int×Int)).2.1) ((x1.getD a.1.toNat ((0,0,0):Int×Int×Int)).2.2) (d.2.2.2.getD d.1.toNat (0:Int))) (fun b=>au (aI a.1 x5.length) (au (!((x5.getD a.1.toNat false)&&(bb 0 b)) ||aI b x2.length) (Option.bind (bif ((x5.getD a.1.toNat false)&&(bb 0 b))&&(am (a.2.1.getD b.toNat (0:Int)) 0) then au (aI b x2.length) (au (aI b x3.length) (au (bp a.2.2.2.length ([b]:List Int).length) (some (a.2.1.set b.toNat x6,a.2.2.1.set b.toNat a.1,a.2.2.2++([b]:List Int))))) else some (a.2.1,a.2.2.1,a.2.2.2)) (fun c=>e (ak (a.1+1),c.1,c.2.1,c.2.2)))))) else some (a.2.1,a.2.2.1,a.2.2.2))
def cq x1 x2 x3 x5 x6 a:=iz (dF x1 x2 x3 x5 x6 a)
theorem kZ x1 x2 x3 x5 x6 p112 n p:cq x1 x2 x3 x5 x6 p112 (n+1) p=dF x1 x2 x3 x5 x6 p112 (cq x1 x2 x3 x5 x6 p112 n) p:=rfl
def dE (x1:List (Int×Int×Int)) (x2:List Int) (x3:List Int) (x5:List Bool) (x6:Int) (c:(Int×List Int×List Int×List Int)→Option ((List Int×List Int×List Int))) (a:(Int×List Int×List Int×List Int)):Option ((List Int×List Int×List Int)):=(bif am a.1 (a.2.2.2.length:Int) then au (aI a.1 a.2.2.2.length) (Option.bind (cq x1 x2 x3 x5 x6 a ao (0,a.2.1,a.2.2.1,a.2.2.2)) (fun b=>c (ak (a.1+1),b.1,b.2.1,b.2.2))) else some (a.2.1,a.2.2.1,a.2.2.2))
def eh x1 x2 x3 x5 x6:=iz (dE x1 x2 x3 x5 x6)
theorem kY x1 x2 x3 x5 x6 n p:eh x1 x2 x3 x5 x6 (n+1) p=dE x1 x2 x3 x5 x6 (eh x1 x2 x3 x5 x6 n) p:=rfl
def gx (x0:Int) (x1:List (Int×Int×Int)) (x2:List Int) (x3:List Int) (x4:List Int) (x5:List Bool) (x6:Int):Option (Int×List Int×List Int×List Int):=au (bp x4.length ([x6]:List Int).length) (Option.bind (eh x1 x2 x3 x5 x6 ao ((x4.length:Int),x2,x3,x4++([x6]:List Int))) (fun a=>some (x0,a.1,a.2.1,a.2.2)))
def ig (x0:Int) (b:(Int×List Int×List Int)→Option ((List Int×List Int))) (a:(Int×List Int×List Int)):Option ((List Int×List Int)):=(bif am a.1 x0 then au (aI a.1 x0.toNat) (au (aI a.1 x0.toNat) (b (ak (a.1+1),a.2.1.set a.1.toNat (-1),a.2.2.set a.1.toNat (-1)))) else some (a.2.1,a.2.2))
def fX x0:=iz (ig x0)
theorem pq x0 n p:fX x0 (n+1) p=ig x0 (fX x0 n) p:=rfl
def ii (x1:List (Int×Int×Int)) (x2:List Bool) (x3:List (Int×Int)) (d:(Int×Int×List Int×List Int×List Int)→Option ((Int×List Int×List Int×List Int) ⊕ (Int×Bool×List Int×List Int×List Int×Bool))) (a:(Int×Int×List Int×List Int×List Int)):Option ((Int×List Int×List Int×List Int) ⊕ (Int×Bool×List Int×List Int×List Int×Bool)):=(bif am a.1 (x3.length:Int) then Option.bind (au (aI a.1 x3.length) ((bif ((x3.getD a.1.toNat ((0,0):Int×Int)).1)==0 then some (Sum.inl (a.2.1,a.2.2.1,a.2.2.2.1,a.2.2.2.2)) else au (aI a.1 a.2.2.1.length) ((bif bb 0 (a.2.2.1.getD a.1.toNat (0:Int)) then some (Sum.inr (0,false,([]:List Int),([]:List Int),([]:List Int),false)) else au (aI a.1 a.2.2.1.length) (Option.bind (gx a.2.1 x1 (a.2.2.1.set a.1.toNat a.1) a.2.2.2.1 a.2.2.2.2 x2 a.1) (fun b=>some (Sum.inl (b.1,b.2.1,b.2.2.1,b.2.2.2)))))))):Option ((Int×List Int×List Int×List Int) ⊕ (Int×Bool×List Int×List Int×List Int×Bool))) (Sum.elim (fun (c:Int×List Int×List Int×List Int)=>d (ak (a.1+1),c.1,c.2.1,c.2.2.1,c.2.2.2)) (fun (r:(Int×Bool×List Int×List Int×List Int×Bool))=>some (Sum.inr r))) else some (Sum.inl (a.2.1,a.2.2.1,a.2.2.2.1,a.2.2.2.2)))
def iR x1 x2 x3:=iz (ii x1 x2 x3)
theorem pu x1 x2 x3 n p:iR x1 x2 x3 (n+1) p=ii x1 x2 x3 (iR x1 x2 x3 n) p:=rfl
def gQ (x0:Int) (x1:List (Int×Int×Int)) (x2:List Bool) (x3:List (Int×Int)):Option (Int×Bool×List Int×List Int×List Int×Bool):=Option.bind (cY x0 x1 x2 x3) (fun b=>Option.bind (gb (!(!b)) (jx x0 x1 x2)) (fun d=>(bif (!b) ||d then some (0,false,([]:List Int),([]:List Int),([]:List Int),false) else au (sY x0) (au (sY x0) (Option.bind (fX x0 ao (0,List.replicate x0.toNat (0:Int),List.replicate x0.toNat (0:Int))) (fun c=>Option.bind (iR x1 x2 x3 ao (0,x0,c.1,c.2,([]:List Int)):Option ((Int×List Int×List Int×List Int) ⊕ (Int×Bool×List Int×List Int×List Int×Bool))) (Sum.elim (fun (a:Int×List Int×List Int×List Int)=>some (a.1,true,a.2.1,a.2.2.1,a.2.2.2,true)) (fun (r:(Int×Bool×List Int×List Int×List Int×Bool))=>some r))))))))
def fw (x0:Int) (x1:List (Int×Int×Int)) (x2:List Bool) (x3:List (Int×Int)):Option (Bool):=Option.bind (gQ x0 x1 x2 x3) (fun a=>some a.2.2.2.2.2)
def ea (x0:Int) (x1:List (Int×Int×Int)) (x3:List Bool) (x6:List Int) (c:Int→Option (Unit ⊕ Bool)) (a:Int):Option (Unit ⊕ Bool):=(bif am a (x6.length:Int) then au (aI a x6.length) (Option.bind (aH x0 x1 (x6.getD a.toNat (0:Int))) (fun b=>au (!(!(!b)) ||aI (x6.getD a.toNat (0:Int)) x3.length) (au (!((!((!b) ||(x3.getD ((x6.getD a.toNat (0:Int)).toNat) false)))&&(am 0 a)) ||aI (ak (a-1)) x6.length) ((bif ((!b) ||(x3.getD ((x6.getD a.toNat (0:Int)).toNat) false)) ||((am 0 a)&&(bb (x6.getD a.toNat (0:Int)) (x6.getD ((ak (a-1)).toNat) (0:Int)))) then some (Sum.inr false) else c (ak (a+1))))))) else some (Sum.inl ()))
def cJ x0 x1 x3 x6:=iz (ea x0 x1 x3 x6)
theorem lR x0 x1 x3 x6 n p:cJ x0 x1 x3 x6 (n+1) p=ea x0 x1 x3 x6 (cJ x0 x1 x3 x6 n) p:=rfl
def aT (x0:Int) (x1:List (Int×Int×Int)) (x2:List (Int×Int)) (x3:List Bool) (x4:List Bool) (x5:List (Int×Int)) (x6:List Int):Option (Bool):=Option.bind (eH x0 x1 x2) (fun a=>Option.bind (gb (!(!a)) (dL x3 x4 x5)) (fun b=>(bif ((!a) ||(!b)) ||((x3.length:Int) !=(x1.length:Int)) then some false else Option.bind (cJ x0 x1 x3 x6 ao 0:Option (Unit ⊕ Bool)) (Sum.elim (fun (d:Unit)=>Option.bind (fw x0 x1 x3 x2) (fun c=>some c)) (fun (r:Bool)=>some r)))))
def aQ (x0:List (Int×Int×Int)):Option (List (Int×Int×Int)):=au (bp ([]:List (Int×Int×Int)).length x0.length) (some x0)
def aV (x0:List (Int×Int)):Option (List (Int×Int)):=au (bp ([]:List (Int×Int)).length x0.length) (some x0)
def aM (x0:List Bool):Option (List Bool):=au (bp ([]:List Bool).length x0.length) (some x0)
def aF (x0:List (Int×Int)):Option (List (Int×Int)):=au (bp ([]:List (Int×Int)).length x0.length) (some x0)
def eR (x0:List Bool) (x1:List Bool) (x2:List (Int×Int)):Option (List Bool×List Bool×List (Int×Int)):=Option.bind (aM x0) (fun a=>Option.bind (aM x1) (fun b=>Option.bind (aF x2) (fun c=>some (a,b,c))))
def bX (x0:List Int):Option (List Int):=au (bp ([]:List Int).length x0.length) (some x0)
def bi (x0:Int) (x1:List (Int×Int×Int)) (x2:List (Int×Int)) (x3:List Bool) (x4:List Bool) (x5:List (Int×Int)) (x6:List Int):Option (Int×List (Int×Int×Int)×List (Int×Int)×List Bool×List Bool×List (Int×Int)×List Int):=Option.bind (aQ x1) (fun b=>Option.bind (aV x2) (fun c=>Option.bind (eR x3 x4 x5) (fun a=>Option.bind (bX x6) (fun d=>some (x0,b,c,a.1,a.2.1,a.2.2,d)))))
def jo (x0:Int):Option (Bool):=some (x0 !=x0)
def kI (x0:Int) (x1:Int):Option (Bool):=Option.bind (jo x0) (fun a=>Option.bind (gb a (jo x1)) (fun b=>some ((a&&(!b)) ||(am x0 x1))))
def gA (x0:Int):Option (Bool):=some (x0 !=x0)
def bR (x0:List Int) (x1:Int) (c:(Int×Int)→Option (Int)) (a:(Int×Int)):Option (Int):=(bif am a.1 a.2 then au (aI (ak (gV .u64 (wk .u64 (ak (a.1+a.2))) 1)) x0.length) (Option.bind (kI (x0.getD ((ak (gV .u64 (wk .u64 (ak (a.1+a.2))) 1)).toNat) (0:Int)) x1) (fun d=>Option.bind (bif d then some (ak ((ak (gV .u64 (wk .u64 (ak (a.1+a.2))) 1))+1),a.2) else some (a.1,ak (gV .u64 (wk .u64 (ak (a.1+a.2))) 1))) (fun b=>c (b.1,b.2)))) else some a.1)
def aU x0 x1:=iz (bR x0 x1)
theorem ka x0 x1 n p:aU x0 x1 (n+1) p=bR x0 x1 (aU x0 x1 n) p:=rfl
def bC (x0:List Int) (x1:Int):Option (Int×Bool):=Option.bind (aU x0 x1 ao (0,(x0.length:Int))) (fun a=>au (!(am a (x0.length:Int)) ||aI a x0.length) (au (!((am a (x0.length:Int))&&(!((x0.getD a.toNat (0:Int))==x1))) ||aI a x0.length) (Option.bind (gb ((am a (x0.length:Int))&&(!((x0.getD a.toNat (0:Int))==x1))) (gA (x0.getD a.toNat (0:Int)))) (fun b=>Option.bind (gb (((am a (x0.length:Int))&&(!((x0.getD a.toNat (0:Int))==x1)))&&b) (gA x1)) (fun c=>some (a,(am a (x0.length:Int))&&(((x0.getD a.toNat (0:Int))==x1) ||(b&&c))))))))
def bM (x0:List Int) (x1:Int) (x2:Int):Option (List Int):=au (sU x1 x2 x0.length) ((bif x1==x2 then some x0 else au (sU 0 x1 x0.length) (au (sU x2 (x0.length:Int) x0.length) (au (bp (ac x0 0 x1).length (ac x0 x2 (x0.length:Int)).length) (some ((ac x0 0 x1)++(ac x0 x2 (x0.length:Int))))))))
def bN (x0:List Int) (x1:Int) (x2:List Int):Option (List Int):=au (sU 0 x1 x0.length) (au (bp x0.length 1) (au ((x2.length:Int)==1) (some (x0.take x1.toNat++x2++x0.drop x1.toNat))))
def fE (x2:List (Int×Int)) (x3:Int) (b:(List Int×Int)→Option ((List Int))) (a:(List Int×Int)):Option ((List Int)):=(bif am a.2 (x2.length:Int) then au (aI a.2 x2.length) (Option.bind (bif ((x2.getD a.2.toNat ((0,0):Int×Int)).2)==x3 then au (bp a.1.length ([(x2.getD a.2.toNat ((0,0):Int×Int)).1]:List Int).length) (some (a.1++([(x2.getD a.2.toNat ((0,0):Int×Int)).1]:List Int))) else some a.1) (fun c=>b (c,ak (a.2+1)))) else some a.1)
def gn x2 x3:=iz (fE x2 x3)
theorem mU x2 x3 n p:gn x2 x3 (n+1) p=fE x2 x3 (gn x2 x3 n) p:=rfl
def jr (x0:List Bool) (x1:List Bool) (x2:List (Int×Int)) (x3:Int):Option (List Int):=Option.bind (dL x0 x1 x2) (fun a=>(bif a then Option.bind (gn x2 x3 ao (([]:List Int),0)) (fun b=>some b) else some ([]:List Int)))
def js (x0:List Bool) (x1:List Bool) (x2:List (Int×Int)) (x3:Int) (x4:Int) (x5:Int):Option (Bool):=au (aI x4 x0.length) (au (aI x4 x1.length) (Option.bind (aq x2 x5 x4) (fun a=>Option.bind (bif x3==0 then some (x3==0) else some (x3==2)) (fun b=>(bif b then some ((!(x0.getD x4.toNat false))&&(!(x1.getD x4.toNat false))) else (bif x3==1 then some (x0.getD x4.toNat false) else (bif x3==3 then Option.bind (bif x1.getD x4.toNat false then Option.bind (jr x0 x1 x2 x4) (fun c=>some ((c.length:Int)==0)) else some false) (fun d=>some d) else (bif x3==4 then some (((((x1.getD x4.toNat false)&&(!a))&&(bb 0 x5))&&(bb x5 9))&&(am (x2.length:Int) 6)) else (bif x3==5 then some a else some false)))))))))
def aB (x0:List (Int×Int)) (x1:Int) (x2:Int):Option (List (Int×Int)):=au (sU x1 x2 x0.length) ((bif x1==x2 then some x0 else au (sU 0 x1 x0.length) (au (sU x2 (x0.length:Int) x0.length) (au (bp (ac x0 0 x1).length (ac x0 x2 (x0.length:Int)).length) (some ((ac x0 0 x1)++(ac x0 x2 (x0.length:Int))))))))
def lI (x0:List Bool) (x1:List Bool) (x2:List (Int×Int)) (x3:Int) (x4:Int) (x5:Int):Option (List Bool×List Bool×List (Int×Int)×Bool):=Option.bind (dL x0 x1 x2) (fun e=>(bif e then Option.bind (eR x0 x1 x2) (fun a=>Option.bind (gb (!((am x4 0) ||(bb (x0.length:Int) x4))) (js x0 x1 x2 x3 x4 x5)) (fun f=>(bif ((am x4 0) ||(bb (x0.length:Int) x4)) ||(!f) then some (a.1,a.2.1,a.2.2,false) else Option.bind (bif x3==0 then some (x3==0) else some (x3==1)) (fun g=>Option.bind (bif g then au (aI x4 a.1.length) (some (a.1.set x4.toNat (x3==0),a.2.1,a.2.2)) else Option.bind (bif x3==2 then some (x3==2) else some (x3==3)) (fun h=>Option.bind (bif h then au (aI x4 a.2.1.length) (some (a.2.1.set x4.toNat (x3==2),a.2.2)) else Option.bind (bif x3==4 then au (bp a.2.2.length ([(x5,x4)]:List (Int×Int)).length) (some (a.2.2++([(x5,x4)]:List (Int×Int)))) else Option.bind (bif x3==5 then Option.bind (aG a.2.2 x5 x4) (fun c=>Option.bind (aB a.2.2 c (ak (c+1))) (fun i=>some i)) else some a.2.2) (fun j=>some j)) (fun k=>some (a.2.1,k))) (fun d=>some (a.1,d.1,d.2)))) (fun b=>some (b.1,b.2.1,b.2.2,true)))))) else some (([]:List Bool),([]:List Bool),([]:List (Int×Int)),false)))
def ju (x0:Int) (x1:List (Int×Int×Int)) (x2:List (Int×Int)) (x3:List Bool) (x4:List Bool) (x5:List (Int×Int)) (x6:List Int) (x7:Int) (x8:Int) (x9:Int):Option (Bool×Int×List (Int×Int×Int)×List (Int×Int)×List Bool×List Bool×List (Int×Int)×List Int):=Option.bind (bC x6 x8) (fun a=>(bif x7==6 then (bif a.2 then some (false,x0,x1,x2,x3,x4,x5,x6) else Option.bind (bN x6 a.1 ([x8]:List Int)) (fun c=>au (aI x8 x3.length) (some (true,x0,x1,x2,x3.set x8.toNat false,x4,x5,c)))) else (bif x7==7 then Option.bind (gb (!(!a.2)) (aq x5 x9 x8)) (fun d=>(bif (!a.2) ||(!d) then some (false,x0,x1,x2,x3,x4,x5,x6) else Option.bind (bM x6 a.1 (ak (a.1+1))) (fun e=>some (true,x0,x1,x2,x3,x4,x5,e)))) else Option.bind ((bif x7==0 then (bif a.2 then some (Sum.inr (false,x0,x1,x2,x3,x4,x5,x6)) else some (Sum.inl ())) else some (Sum.inl ())):Option (Unit ⊕ (Bool×Int×List (Int×Int×Int)×List (Int×Int)×List Bool×List Bool×List (Int×Int)×List Int))) (Sum.elim (fun (g:Unit)=>Option.bind (lI x3 x4 x5 x7 x8 x9) (fun b=>Option.bind (gb (b.2.2.2&&(!(x7 !=0))) (fw x0 x1 b.1 x2)) (fun f=>some (b.2.2.2&&((x7 !=0) ||f),x0,x1,x2,b.1,b.2.1,b.2.2.1,x6)))) (fun (r:(Bool×Int×List (Int×Int×Int)×List (Int×Int)×List Bool×List Bool×List (Int×Int)×List Int))=>some r)))))
def iG (x0:Int) (x1:List (Int×Int×Int)) (x2:List (Int×Int)) (x3:List Bool) (x4:List Bool) (x5:List (Int×Int)) (x6:List Int) (x7:Int) (x8:Int) (x9:Int):Option (Int×List (Int×Int×Int)×List (Int×Int)×List Bool×List Bool×List (Int×Int)×List Int×Bool):=Option.bind (aT x0 x1 x2 x3 x4 x5 x6) (fun e=>(bif e then Option.bind (bi x0 x1 x2 x3 x4 x5 x6) (fun a=>Option.bind (Option.bind (aH x0 x1 x8) (fun f=>(bif f then Option.bind (ju a.1 a.2.1 a.2.2.1 a.2.2.2.1 a.2.2.2.2.1 a.2.2.2.2.2.1 a.2.2.2.2.2.2 x7 x8 x9) (fun b=>some (!b.1,b.2.1,b.2.2.1,b.2.2.2.1,b.2.2.2.2.1,b.2.2.2.2.2.1,b.2.2.2.2.2.2.1,b.2.2.2.2.2.2.2)) else some (true,a.1,a.2.1,a.2.2.1,a.2.2.2.1,a.2.2.2.2.1,a.2.2.2.2.2.1,a.2.2.2.2.2.2)))) (fun c=>(bif c.1 then Option.bind (bi x0 x1 x2 x3 x4 x5 x6) (fun d=>some (d.1,d.2.1,d.2.2.1,d.2.2.2.1,d.2.2.2.2.1,d.2.2.2.2.2.1,d.2.2.2.2.2.2,false)) else some (c.2.1,c.2.2.1,c.2.2.2.1,c.2.2.2.2.1,c.2.2.2.2.2.1,c.2.2.2.2.2.2.1,c.2.2.2.2.2.2.2,true)))) else some (0,([]:List (Int×Int×Int)),([]:List (Int×Int)),([]:List Bool),([]:List Bool),([]:List (Int×Int)),([]:List Int),false)))
def cW (x2:List (Int×Int)) (b:(List (Int×Int×Int)×Int)→Option ((List (Int×Int×Int)))) (a:(List (Int×Int×Int)×Int)):Option ((List (Int×Int×Int))):=(bif am a.2 (x2.length:Int) then au (aI a.2 x2.length) (au (bp a.1.length ([(5,(x2.getD a.2.toNat ((0,0):Int×Int)).2,(x2.getD a.2.toNat ((0,0):Int×Int)).1)]:List (Int×Int×Int)).length) (b (a.1++([(5,(x2.getD a.2.toNat ((0,0):Int×Int)).2,(x2.getD a.2.toNat ((0,0):Int×Int)).1)]:List (Int×Int×Int)),ak (a.2+1)))) else some a.1)
def dD x2:=iz (cW x2)
theorem jZ x2 n p:dD x2 (n+1) p=cW x2 (dD x2 n) p:=rfl
def fF (x0:List Bool) (x1:List Bool) (x2:List (Int×Int)):Option (List (Int×Int×Int)):=Option.bind (dD x2 ao (([]:List (Int×Int×Int)),0)) (fun a=>some a)
def fJ (x0:Int) (x1:List Bool) (x2:Bool) (b:(List (Int×Int×Int)×Int)→Option ((List (Int×Int×Int)))) (a:(List (Int×Int×Int)×Int)):Option ((List (Int×Int×Int))):=(bif am a.2 (x1.length:Int) then au (aI a.2 x1.length) (Option.bind (bif (x1.getD a.2.toNat false)==x2 then au (bp a.1.length ([(x0,a.2,0)]:List (Int×Int×Int)).length) (some (a.1++([(x0,a.2,0)]:List (Int×Int×Int)))) else some a.1) (fun c=>b (c,ak (a.2+1)))) else some a.1)
def gq x0 x1 x2:=iz (fJ x0 x1 x2)
theorem mW x0 x1 x2 n p:gq x0 x1 x2 (n+1) p=fJ x0 x1 x2 (gq x0 x1 x2 n) p:=rfl
def jv (x0:Int) (x1:List Bool) (x2:Bool):Option (List (Int×Int×Int)):=Option.bind (gq x0 x1 x2 ao (([]:List (Int×Int×Int)),0)) (fun a=>some a)
def gw (x0:Int) (x1:Int) (b:(List Bool×Int)→Option ((List Bool))) (a:(List Bool×Int)):Option ((List Bool)):=(bif am a.2 (x1.toNat:Int) then au (No a.2) (au (aI a.2 x1.toNat) (b (a.1.set a.2.toNat ((lF .i64 (gV .i64 x0 a.2) 1)==1),ak (a.2+1)))) else some a.1)
def eW x0 x1:=iz (gw x0 x1)
theorem nY x0 x1 n p:eW x0 x1 (n+1) p=gw x0 x1 (eW x0 x1 n) p:=rfl
def kM (x0:Int) (x1:Int):Option (List Bool):=au (sY x1) (Option.bind (eW x0 x1 ao (List.replicate x1.toNat false,0)) (fun a=>some a))
def gy (x1:List (Int×Int×Int)) (x2:List Bool) (b:(List Int×Int)→Option ((List Int))) (a:(List Int×Int)):Option ((List Int)):=(bif am a.2 (x1.length:Int) then au (aI a.2 x1.length) (au (aI a.2 x2.length) (Option.bind (bif x2.getD a.2.toNat false then Option.bind (fc a.1 ((x1.getD a.2.toNat ((0,0,0):Int×Int×Int)).1) ((x1.getD a.2.toNat ((0,0,0):Int×Int×Int)).2.1)) (fun c=>some c) else some a.1) (fun d=>b (d,ak (a.2+1))))) else some a.1)
def im x1 x2:=iz (gy x1 x2)
theorem nZ x1 x2 n p:im x1 x2 (n+1) p=gy x1 x2 (im x1 x2 n) p:=rfl
def iH (x0:Int) (x1:List (Int×Int×Int)) (x2:List Bool):Option (List Int):=Option.bind (gM x0) (fun a=>Option.bind (im x1 x2 ao (a,0)) (fun b=>some b))
def ie (x3:List (Int×Int)) (c:(List Int×Int×Int×Int×Int×Int×Int×Int×Int×Int×Int×Int×Int×Int×Int×Int×Int×Int)→Option ((Int×Int×Int×Int×Int×Int×Int×Int×Int×Int×Int×Int×Int×Int×Int×Int))) (a:(List Int×Int×Int×Int×Int×Int×Int×Int×Int×Int×Int×Int×Int×Int×Int×Int×Int×Int)):Option ((Int×Int×Int×Int×Int×Int×Int×Int×Int×Int×Int×Int×Int×Int×Int×Int)):=(bif am a.2.1 (x3.length:Int) then au (aI a.2.1 x3.length) (Option.bind (bd a.1 a.2.1) (fun b=>au (aI b.1 8) (au (aI b.1 8) (au (aI b.1 8) (au (aI b.1 8) (c (b.2,ak (a.2.1+1),bif b.1==0 then (ak ((([a.2.2.1,a.2.2.2.1,a.2.2.2.2.1,a.2.2.2.2.2.1,a.2.2.2.2.2.2.1,a.2.2.2.2.2.2.2.1,a.2.2.2.2.2.2.2.2.1,a.2.2.2.2.2.2.2.2.2.1]:List Int).getD b.1.toNat 0)+((x3.getD a.2.1.toNat ((0,0):Int×Int)).1))) else a.2.2.1,bif b.1==1 then (ak ((([a.2.2.1,a.2.2.2.1,a.2.2.2.2.1,a.2.2.2.2.2.1,a.2.2.2.2.2.2.1,a.2.2.2.2.2.2.2.1,a.2.2.2.2.2.2.2.2.1,a.2.2.2.2.2.2.2.2.2.1]:List Int).getD b.1.toNat 0)+((x3.getD a.2.1.toNat ((0,0):Int×Int)).1))) else a.2.2.2.1,bif b.1==2 then (ak ((([a.2.2.1,a.2.2.2.1,a.2.2.2.2.1,a.2.2.2.2.2.1,a.2.2.2.2.2.2.1,a.2.2.2.2.2.2.2.1,a.2.2.2.2.2.2.2.2.1,a.2.2.2.2.2.2.2.2.2.1]:List Int).getD b.1.toNat 0)+((x3.getD a.2.1.toNat ((0,0):Int×Int)).1))) else a.2.2.2.2.1,bif b.1==3 then (ak ((([a.2.2.1,a.2.2.2.1,a.2.2.2.2.1,a.2.2.2.2.2.1,a.2.2.2.2.2.2.1,a.2.2.2.2.2.2.2.1,a.2.2.2.2.2.2.2.2.1,a.2.2.2.2.2.2.2.2.2.1]:List Int).getD b.1.toNat 0)+((x3.getD a.2.1.toNat ((0,0):Int×Int)).1))) else a.2.2.2.2.2.1,bif b.1==4 then (ak ((([a.2.2.1,a.2.2.2.1,a.2.2.2.2.1,a.2.2.2.2.2.1,a.2.2.2.2.2.2.1,a.2.2.2.2.2.2.2.1,a.2.2.2.2.2.2.2.2.1,a.2.2.2.2.2.2.2.2.2.1]:List Int).getD b.1.toNat 0)+((x3.getD a.2.1.toNat ((0,0):Int×Int)).1))) else a.2.2.2.2.2.2.1,bif b.1==5 then (ak ((([a.2.2.1,a.2.2.2.1,a.2.2.2.2.1,a.2.2.2.2.2.1,a.2.2.2.2.2.2.1,a.2.2.2.2.2.2.2.1,a.2.2.2.2.2.2.2.2.1,a.2.2.2.2.2.2.2.2.2.1]:List Int).getD b.1.toNat 0)+((x3.getD a.2.1.toNat ((0,0):Int×Int)).1))) else a.2.2.2.2.2.2.2.1,bif b.1==6 then (ak ((([a.2.2.1,a.2.2.2.1,a.2.2.2.2.1,a.2.2.2.2.2.1,a.2.2.2.2.2.2.1,a.2.2.2.2.2.2.2.1,a.2.2.2.2.2.2.2.2.1,a.2.2.2.2.2.2.2.2.2.1]:List Int).getD b.1.toNat 0)+((x3.getD a.2.1.toNat ((0,0):Int×Int)).1))) else a.2.2.2.2.2.2.2.2.1,bif b.1==7 then (ak ((([a.2.2.1,a.2.2.2.1,a.2.2.2.2.1,a.2.2.2.2.2.1,a.2.2.2.2.2.2.1,a.2.2.2.2.2.2.2.1,a.2.2.2.2.2.2.2.2.1,a.2.2.2.2.2.2.2.2.2.1]:List Int).getD b.1.toNat 0)+((x3.getD a.2.1.toNat ((0,0):Int×Int)).1))) else a.2.2.2.2.2.2.2.2.2.1,bif b.1==0 then (ak ((([a.2.2.2.2.2.2.2.2.2.2.1,a.2.2.2.2.2.2.2.2.2.2.2.1,a.2.2.2.2.2.2.2.2.2.2.2.2.1,a.2.2.2.2.2.2.2.2.2.2.2.2.2.1,a.2.2.2.2.2.2.2.2.2.2.2.2.2.2.1,a.2.2.2.2.2.2.2.2.2.2.2.2.2.2.2.1,a.2.2.2.2.2.2.2.2.2.2.2.2.2.2.2.2.1,a.2.2.2.2.2.2.2.2.2.2.2.2.2.2.2.2.2]:List Int).getD b.1.toNat 0)+((x3.getD a.2.1.toNat ((0,0):Int×Int)).2))) else a.2.2.2.2.2.2.2.2.2.2.1,bif b.1==1 then (ak ((([a.2.2.2.2.2.2.2.2.2.2.1,a.2.2.2.2.2.2.2.2.2.2.2.1,a.2.2.2.2.2.2.2.2.2.2.2.2.1,a.2.2.2.2.2.2.2.2.2.2.2.2.2.1,a.2.2.2.2.2.2.2.2.2.2.2.2.2.2.1,a.2.2.2.2.2.2.2.2.2.2.2.2.2.2.2.1,a.2.2.2.2.2.2.2.2.2.2.2.2.2.2.2.2.1,a.2.2.2.2.2.2.2.2.2.2.2.2.2.2.2.2.2]:List Int).getD b.1.toNat 0)+((x3.getD a.2.1.toNat ((0,0):Int×Int)).2))) else a.2.2.2.2.2.2.2.2.2.2.2.1,bif b.1==2 then (ak ((([a.2.2.2.2.2.2.2.2.2.2.1,a.2.2.2.2.2.2.2.2.2.2.2.1,a.2.2.2.2.2.2.2.2.2.2.2.2.1,a.2.2.2.2.2.2.2.2.2.2.2.2.2.1,a.2.2.2.2.2.2.2.2.2.2.2.2.2.2.1,a.2.2.2.2.2.2.2.2.2.2.2.2.2.2.2.1,a.2.2.2.2.2.2.2.2.2.2.2.2.2.2.2.2.1,a.2.2.2.2.2.2.2.2.2.2.2.2.2.2.2.2.2]:List Int).getD b.1.toNat 0)+((x3.getD a.2.1.toNat ((0,0):Int×Int)).2))) else a.2.2.2.2.2.2.2.2.2.2.2.2.1,bif b.1==3 then (ak ((([a.2.2.2.2.2.2.2.2.2.2.1,a.2.2.2.2.2.2.2.2.2.2.2.1,a.2.2.2.2.2.2.2.2.2.2.2.2.1,a.2.2.2.2.2.2.2.2.2.2.2.2.2.1,a.2.2.2.2.2.2.2.2.2.2.2.2.2.2.1,a.2.2.2.2.2.2.2.2.2.2.2.2.2.2.2.1,a.2.2.2.2.2.2.2.2.2.2.2.2.2.2.2.2.1,a.2.2.2.2.2.2.2.2.2.2.2.2.2.2.2.2.2]:List Int).getD b.1.toNat 0)+((x3.getD a.2.1.toNat ((0,0):Int×Int)).2))) else a.2.2.2.2.2.2.2.2.2.2.2.2.2.1,bif b.1==4 then (ak ((([a.2.2.2.2.2.2.2.2.2.2.1,a.2.2.2.2.2.2.2.2.2.2.2.1,a.2.2.2.2.2.2.2.2.2.2.2.2.1,a.2.2.2.2.2.2.2.2.2.2.2.2.2.1,a.2.2.2.2.2.2.2.2.2.2.2.2.2.2.1,a.2.2.2.2.2.2.2.2.2.2.2.2.2.2.2.1,a.2.2.2.2.2.2.2.2.2.2.2.2.2.2.2.2.1,a.2.2.2.2.2.2.2.2.2.2.2.2.2.2.2.2.2]:List Int).getD b.1.toNat 0)+((x3.getD a.2.1.toNat ((0,0):Int×Int)).2))) else a.2.2.2.2.2.2.2.2.2.2.2.2.2.2.1,bif b.1==5 then (ak ((([a.2.2.2.2.2.2.2.2.2.2.1,a.2.2.2.2.2.2.2.2.2.2.2.1,a.2.2.2.2.2.2.2.2.2.2.2.2.1,a.2.2.2.2.2.2.2.2.2.2.2.2.2.1,a.2.2.2.2.2.2.2.2.2.2.2.2.2.2.1,a.2.2.2.2.2.2.2.2.2.2.2.2.2.2.2.1,a.2.2.2.2.2.2.2.2.2.2.2.2.2.2.2.2.1,a.2.2.2.2.2.2.2.2.2.2.2.2.2.2.2.2.2]:List Int).getD b.1.toNat 0)+((x3.getD a.2.1.toNat ((0,0):Int×Int)).2))) else a.2.2.2.2.2.2.2.2.2.2.2.2.2.2.2.1,bif b.1==6 then (ak ((([a.2.2.2.2.2.2.2.2.2.2.1,a.2.2.2.2.2.2.2.2.2.2.2.1,a.2.2.2.2.2.2.2.2.2.2.2.2.1,a.2.2.2.2.2.2.2.2.2.2.2.2.2.1,a.2.2.2.2.2.2.2.2.2.2.2.2.2.2.1,a.2.2.2.2.2.2.2.2.2.2.2.2.2.2.2.1,a.2.2.2.2.2.2.2.2.2.2.2.2.2.2.2.2.1,a.2.2.2.2.2.2.2.2.2.2.2.2.2.2.2.2.2]:List Int).getD b.1.toNat 0)+((x3.getD a.2.1.toNat ((0,0):Int×Int)).2))) else a.2.2.2.2.2.2.2.2.2.2.2.2.2.2.2.2.1,bif b.1==7 then (ak ((([a.2.2.2.2.2.2.2.2.2.2.1,a.2.2.2.2.2.2.2.2.2.2.2.1,a.2.2.2.2.2.2.2.2.2.2.2.2.1,a.2.2.2.2.2.2.2.2.2.2.2.2.2.1,a.2.2.2.2.2.2.2.2.2.2.2.2.2.2.1,a.2.2.2.2.2.2.2.2.2.2.2.2.2.2.2.1,a.2.2.2.2.2.2.2.2.2.2.2.2.2.2.2.2.1,a.2.2.2.2.2.2.2.2.2.2.2.2.2.2.2.2.2]:List Int).getD b.1.toNat 0)+((x3.getD a.2.1.toNat ((0,0):Int×Int)).2))) else a.2.2.2.2.2.2.2.2.2.2.2.2.2.2.2.2.2))))))) else some (a.2.2.1,a.2.2.2.1,a.2.2.2.2.1,a.2.2.2.2.2.1,a.2.2.2.2.2.2.1,a.2.2.2.2.2.2.2.1,a.2.2.2.2.2.2.2.2.1,a.2.2.2.2.2.2.2.2.2.1,a.2.2.2.2.2.2.2.2.2.2.1,a.2.2.2.2.2.2.2.2.2.2.2.1,a.2.2.2.2.2.2.2.2.2.2.2.2.1,a.2.2.2.2.2.2.2.2.2.2.2.2.2.1,a.2.2.2.2.2.2.2.2.2.2.2.2.2.2.1,a.2.2.2.2.2.2.2.2.2.2.2.2.2.2.2.1,a.2.2.2.2.2.2.2.2.2.2.2.2.2.2.2.2.1,a.2.2.2.2.2.2.2.2.2.2.2.2.2.2.2.2.2))
def fW x3:=iz (ie x3)
theorem pp x3 n p:fW x3 (n+1) p=ie x3 (fW x3 n) p:=rfl
def jj (x0:Int) (x1:List (Int×Int×Int)) (x2:List Bool) (x3:List (Int×Int)):Option (Int×Int×Int×Int×Int×Int×Int×Int×Int×Int×Int×Int×Int×Int×Int×Int):=Option.bind (iH x0 x1 x2) (fun b=>Option.bind (fW x3 ao (b,0,0,0,0,0,0,0,0,0,0,0,0,0,0,0,0,0)) (fun a=>some (a.1,a.2.1,a.2.2.1,a.2.2.2.1,a.2.2.2.2.1,a.2.2.2.2.2.1,a.2.2.2.2.2.2.1,a.2.2.2.2.2.2.2.1,a.2.2.2.2.2.2.2.2.1,a.2.2.2.2.2.2.2.2.2.1,a.2.2.2.2.2.2.2.2.2.2.1,a.2.2.2.2.2.2.2.2.2.2.2.1,a.2.2.2.2.2.2.2.2.2.2.2.2.1,a.2.2.2.2.2.2.2.2.2.2.2.2.2.1,a.2.2.2.2.2.2.2.2.2.2.2.2.2.2.1,a.2.2.2.2.2.2.2.2.2.2.2.2.2.2.2)))
def eb (a:Int×Int×Int×Int×Int×Int×Int×Int×Int×Int×Int×Int×Int×Int×Int×Int) (c:(Int×Int)→Option (Int)) (b:(Int×Int)):Option (Int):=(bif am b.2 8 then au (aI b.2 8) (au (aI b.2 8) (Option.bind (bif bb (([a.2.2.2.2.2.2.2.2.1,a.2.2.2.2.2.2.2.2.2.1,a.2.2.2.2.2.2.2.2.2.2.1,a.2.2.2.2.2.2.2.2.2.2.2.1,a.2.2.2.2.2.2.2.2.2.2.2.2.1,a.2.2.2.2.2.2.2.2.2.2.2.2.2.1,a.2.2.2.2.2.2.2.2.2.2.2.2.2.2.1,a.2.2.2.2.2.2.2.2.2.2.2.2.2.2.2]:List Int).getD b.2.toNat (0:Int)) (([a.1,a.2.1,a.2.2.1,a.2.2.2.1,a.2.2.2.2.1,a.2.2.2.2.2.1,a.2.2.2.2.2.2.1,a.2.2.2.2.2.2.2.1]:List Int).getD b.2.toNat 0) then some (ak (b.1+(([a.2.2.2.2.2.2.2.2.1,a.2.2.2.2.2.2.2.2.2.1,a.2.2.2.2.2.2.2.2.2.2.1,a.2.2.2.2.2.2.2.2.2.2.2.1,a.2.2.2.2.2.2.2.2.2.2.2.2.1,a.2.2.2.2.2.2.2.2.2.2.2.2.2.1,a.2.2.2.2.2.2.2.2.2.2.2.2.2.2.1,a.2.2.2.2.2.2.2.2.2.2.2.2.2.2.2]:List Int).getD b.2.toNat (0:Int)))) else some b.1) (fun d=>c (d,ak (b.2+1))))) else some b.1)
def cK a:=iz (eb a)
theorem lS p102 n p:cK p102 (n+1) p=eb p102 (cK p102 n) p:=rfl
def eV (x0:Int) (x1:List (Int×Int×Int)) (x2:List Bool) (x3:List (Int×Int)):Option (Int):=Option.bind (jj x0 x1 x2 x3) (fun a=>Option.bind (cK a ao (0,0)) (fun b=>some b))
def gl (x0:List Bool) (x1:List Bool) (b:(List Int×Int)→Option ((List Int))) (a:(List Int×Int)):Option ((List Int)):=(bif am a.2 (x0.length:Int) then au (aI a.2 x0.length) (au (aI a.2 x1.length) (Option.bind (bif (x0.getD a.2.toNat false) !=(x1.getD a.2.toNat false) then au (bp a.1.length ([a.2]:List Int).length) (some (a.1++([a.2]:List Int))) else some a.1) (fun c=>b (c,ak (a.2+1))))) else some a.1)
def hH x0 x1:=iz (gl x0 x1)
theorem nW x0 x1 n p:hH x0 x1 (n+1) p=gl x0 x1 (hH x0 x1 n) p:=rfl
def kJ (x0:List Bool) (x1:List Bool):Option (List Int):=(bif (x0.length:Int) !=(x1.length:Int) then some ([]:List Int) else Option.bind (hH x0 x1 ao (([]:List Int),0)) (fun a=>some a))
def ij (x0:Int) (x1:List (Int×Int×Int)) (x2:List Int) (x3:List Int) (x4:List Int) (x5:Int):Option (Int):=au (aI x5 x3.length) (au (aI (x3.getD x5.toNat (0:Int)) x1.length) (Option.bind (bV ((x1.getD ((x3.getD x5.toNat (0:Int)).toNat) ((0,0,0):Int×Int×Int)).1) ((x1.getD ((x3.getD x5.toNat (0:Int)).toNat) ((0,0,0):Int×Int×Int)).2.1) ((x1.getD ((x3.getD x5.toNat (0:Int)).toNat) ((0,0,0):Int×Int×Int)).2.2) x5) (fun a=>some a)))
def ee (x0:Int) (x1:List (Int×Int×Int)) (x2:List Int) (x3:List Int) (x4:List Int) (x5:List (Int×Int)) (d:(List Int×List Int×Int)→Option ((List Int))) (a:(List Int×List Int×Int)):Option ((List Int)):=(bif bb 0 a.2.2 then au (aI a.2.2 x4.length) (au (aI (x4.getD a.2.2.toNat (0:Int)) x5.length) (au (aI (x4.getD a.2.2.toNat (0:Int)) x5.length) (au (aI (x4.getD a.2.2.toNat (0:Int)) x5.length) (au (aI (x4.getD a.2.2.toNat (0:Int)) x3.length) (Option.bind (bif bb 0 (x3.getD ((x4.getD a.2.2.toNat (0:Int)).toNat) (0:Int)) then au (aI (x4.getD a.2.2.toNat (0:Int)) x5.length) (au (aI (x3.getD ((x4.getD a.2.2.toNat (0:Int)).toNat) (0:Int)) x1.length) (Option.bind (ij x0 x1 x2 x3 x4 (x4.getD a.2.2.toNat (0:Int))) (fun b=>au (aI b x5.length) (au (aI (x4.getD a.2.2.toNat (0:Int)) x5.length) (au (aI b x5.length) (some (a.1.set ((x3.getD ((x4.getD a.2.2.toNat (0:Int)).toNat) (0:Int)).toNat) ((a.2.1.set ((x4.getD a.2.2.toNat (0:Int)).toNat) (ak ((a.2.1.getD ((x4.getD a.2.2.toNat (0:Int)).toNat) (0:Int))+((x5.getD ((x4.getD a.2.2.toNat (0:Int)).toNat) ((0,0):Int×Int)).2)))).getD ((x4.getD a.2.2.toNat (0:Int)).toNat) (0:Int)),(a.2.1.set ((x4.getD a.2.2.toNat (0:Int)).toNat) (ak ((a.2.1.getD ((x4.getD a.2.2.toNat (0:Int)).toNat) (0:Int))+((x5.getD ((x4.getD a.2.2.toNat (0:Int)).toNat) ((0,0):Int×Int)).2)))).set b.toNat (ak (((a.2.1.set ((x4.getD a.2.2.toNat (0:Int)).toNat) (ak ((a.2.1.getD ((x4.getD a.2.2.toNat (0:Int)).toNat) (0:Int))+((x5.getD ((x4.getD a.2.2.toNat (0:Int)).toNat) ((0,0):Int×Int)).2)))).getD b.toNat (0:Int))+((a.2.1.set ((x4.getD a.2.2.toNat (0:Int)).toNat) (ak ((a.2.1.getD ((x4.getD a.2.2.toNat (0:Int)).toNat) (0:Int))+((x5.getD ((x4.getD a.2.2.toNat (0:Int)).toNat) ((0,0):Int×Int)).2)))).getD ((x4.getD a.2.2.toNat (0:Int)).toNat) (0:Int))))))))))) else some (a.1,a.2.1.set ((x4.getD a.2.2.toNat (0:Int)).toNat) (ak ((a.2.1.getD ((x4.getD a.2.2.toNat (0:Int)).toNat) (0:Int))+((x5.getD ((x4.getD a.2.2.toNat (0:Int)).toNat) ((0,0):Int×Int)).2))))) (fun c=>d (c.1,c.2,ak (a.2.2-1)))))))) else some a.1)
def eY x0 x1 x2 x3 x4 x5:=iz (ee x0 x1 x2 x3 x4 x5)
theorem lT x0 x1 x2 x3 x4 x5 n p:eY x0 x1 x2 x3 x4 x5 (n+1) p=ee x0 x1 x2 x3 x4 x5 (eY x0 x1 x2 x3 x4 x5 n) p:=rfl
def eX (x0:Int) (x1:List (Int×Int×Int)) (x2:List Int) (x3:List Int) (x4:List Int) (x5:List (Int×Int)):Option (List Int):=au (sY (x1.length:Int)) (au (sY (x5.length:Int)) (Option.bind (eY x0 x1 x2 x3 x4 x5 ao (List.replicate x1.length (0:Int),List.replicate x5.length (0:Int),ak ((x4.length:Int)-1))) (fun a=>some a)))
def ef (x2:List Int) (x5:List (Int×Int)) (x6:Int) (b:(Int×Int)→Option (Int)) (a:(Int×Int)):Option (Int):=(bif am a.2 (x2.length:Int) then au (aI a.2 x2.length) (Option.bind (bif (x2.getD a.2.toNat (0:Int))==x6 then au (aI a.2 x5.length) (some (ak (a.1+((x5.getD a.2.toNat ((0,0):Int×Int)).2)))) else some a.1) (fun c=>b (c,ak (a.2+1)))) else some a.1)
def cL x2 x5 x6:=iz (ef x2 x5 x6)
theorem lU x2 x5 x6 n p:cL x2 x5 x6 (n+1) p=ef x2 x5 x6 (cL x2 x5 x6 n) p:=rfl
def il (x0:Int) (x1:List (Int×Int×Int)) (x2:List Int) (x3:List Int) (x4:List Int) (x5:List (Int×Int)) (x6:Int):Option (Int):=Option.bind (cL x2 x5 x6 ao (0,0)) (fun a=>some a)
def eZ (x1:List (Int×Int×Int)) (b:List Int) (c:Int→Option (Unit ⊕ Bool)) (a:Int):Option (Unit ⊕ Bool):=(bif am a (b.length:Int) then au (aI a b.length) (au (aI a x1.length) ((bif am ((x1.getD a.toNat ((0,0,0):Int×Int×Int)).2.2) (b.getD a.toNat (0:Int)) then some (Sum.inr false) else c (ak (a+1))))) else some (Sum.inl ()))
def dp x1 a:=iz (eZ x1 a)
theorem mv x1 p102 n p:dp x1 p102 (n+1) p=eZ x1 p102 (dp x1 p102 n) p:=rfl
def fa (x0:Int) (x1:List (Int×Int×Int)) (x2:List Int) (x3:List Int) (x4:List Int) (x5:List (Int×Int)) (b:Int→Option (Unit ⊕ Bool)) (a:Int):Option (Unit ⊕ Bool):=(bif am a (x5.length:Int) then au (aI a x5.length) (Option.bind (il x0 x1 x2 x3 x4 x5 a) (fun c=>(bif am ((x5.getD a.toNat ((0,0):Int×Int)).1) c then some (Sum.inr false) else b (ak (a+1))))) else some (Sum.inl ()))
def dq x0 x1 x2 x3 x4 x5:=iz (fa x0 x1 x2 x3 x4 x5)
theorem mw x0 x1 x2 x3 x4 x5 n p:dq x0 x1 x2 x3 x4 x5 (n+1) p=fa x0 x1 x2 x3 x4 x5 (dq x0 x1 x2 x3 x4 x5 n) p:=rfl
def iS (x0:Int) (x1:List (Int×Int×Int)) (x2:List Int) (x3:List Int) (x4:List Int) (x5:List (Int×Int)):Option (Bool):=Option.bind (eX x0 x1 x2 x3 x4 x5) (fun a=>Option.bind (dp x1 a ao 0:Option (Unit ⊕ Bool)) (Sum.elim (fun (b:Unit)=>Option.bind (dq x0 x1 x2 x3 x4 x5 ao 0:Option (Unit ⊕ Bool)) (Sum.elim (fun (c:Unit)=>some true) (fun (r:Bool)=>some r))) (fun (r:Bool)=>some r)))
def kK (x0:Int) (x1:List (Int×Int×Int)) (x2:List Bool) (x3:List (Int×Int)):Option (Bool):=Option.bind (gQ x0 x1 x2 x3) (fun a=>Option.bind (gb a.2.2.2.2.2 (iS a.1 (Rm a.2.1 x1) a.2.2.1 a.2.2.2.1 a.2.2.2.2.1 x3)) (fun b=>some (a.2.2.2.2.2&&b)))
def ru (x0:Int) (x1:List (Int×Int×Int)) (x4:List Int) (b:(Int×Int)→Option (Int)) (a:(Int×Int)):Option (Int):=(bif am a.2 (x4.length:Int) then au (aI a.2 x4.length) (Option.bind (aH x0 x1 (x4.getD a.2.toNat (0:Int))) (fun c=>Option.bind (bif c then au (No (x4.getD a.2.toNat (0:Int))) (some (zQ .i64 a.1 (rM .i64 1 (x4.getD a.2.toNat (0:Int))))) else some a.1) (fun d=>b (d,ak (a.2+1))))) else some a.1)
def mE x0 x1 x4:=iz (ru x0 x1 x4)
def eG (x0:Int) (x1:List (Int×Int×Int)) (x2:List Bool) (x3:List (Int×Int)) (g:Int) (h:(List Bool×Int×Int×Int)→Option ((List Bool))) (a:(List Bool×Int×Int×Int)):Option ((List Bool)):=(bif am a.2.2.2 (rM .i64 1 (x1.length:Int)) then Option.bind (bif (lF .i64 a.2.2.2 g) !=0 then some (a.1,a.2.1,a.2.2.1) else Option.bind (kM a.2.2.2 (x1.length:Int)) (fun b=>Option.bind (eV x0 x1 b x3) (fun c=>(bif am c a.2.1 then some (a.1,a.2.1,a.2.2.1) else Option.bind (kJ x2 b) (fun d=>Option.bind (gb ((am a.2.1 c) ||(am (d.length:Int) a.2.2.1)) (kK x0 x1 b x3)) (fun i=>Option.bind (bif ((am a.2.1 c) ||(am (d.length:Int) a.2.2.1))&&i then au (!(List.isEmpty b)) (some (b,c,(d.length:Int))) else some (a.1,a.2.1,a.2.2.1)) (fun e=>some (e.1,e.2.1,e.2.2)))))))) (fun f=>h (f.1,f.2.1,f.2.2,ak (a.2.2.2+1))) else some a.1)
def dh x0 x1 x2 x3 a:=iz (eG x0 x1 x2 x3 a)
theorem mj x0 x1 x2 x3 p104 n p:dh x0 x1 x2 x3 p104 (n+1) p=eG x0 x1 x2 x3 p104 (dh x0 x1 x2 x3 p104 n) p:=rfl
def dJ (x0:Int) (x1:List (Int×Int×Int)) (x2:List Bool) (x3:List (Int×Int)) (x4:List Int):Option (List Bool×Bool):=Option.bind (cY x0 x1 x2 x3) (fun b=>(bif b then Option.bind (mE x0 x1 x4 ao (0,0)) (fun c=>au (No (x1.length:Int)) (Option.bind (dh x0 x1 x2 x3 c ao (([]:List Bool),-1,0,0)) (fun a=>some (a,!(List.isEmpty a))))) else some (([]:List Bool),false)))
def gm (x0:List Bool) (x1:List Bool) (c:(List (Int×Bool)×List (Int×Bool)×Int)→Option ((List (Int×Bool)×List (Int×Bool)))) (a:(List (Int×Bool)×List (Int×Bool)×Int)):Option ((List (Int×Bool)×List (Int×Bool))):=(bif am a.2.2 (x0.length:Int) then au (aI a.2.2 x0.length) (au (!(x0.getD a.2.2.toNat false) ||aI a.2.2 x1.length) (Option.bind (bif (x0.getD a.2.2.toNat false)&&(!(x1.getD a.2.2.toNat false)) then au (bp a.1.length ([(a.2.2,false)]:List (Int×Bool)).length) (some (a.1++([(a.2.2,false)]:List (Int×Bool)),a.2.1)) else au (aI a.2.2 x1.length) (au (!(x1.getD a.2.2.toNat false) ||aI a.2.2 x0.length) (Option.bind (bif (x1.getD a.2.2.toNat false)&&(!(x0.getD a.2.2.toNat false)) then au (bp a.2.1.length ([(a.2.2,true)]:List (Int×Bool)).length) (some (a.2.1++([(a.2.2,true)]:List (Int×Bool)))) else some a.2.1) (fun d=>some (a.1,d))))) (fun b=>c (b.1,b.2,ak (a.2.2+1))))) else some (a.1,a.2.1))
def eM x0 x1:=iz (gm x0 x1)
theorem nX x0 x1 n p:eM x0 x1 (n+1) p=gm x0 x1 (eM x0 x1 n) p:=rfl
def kL (x0:List Bool) (x1:List Bool):Option (List (Int×Bool)):=(bif ((x0.length:Int) !=(x1.length:Int)) ||(am 10 (x0.length:Int)) then some ([]:List (Int×Bool)) else Option.bind (eM x0 x1 ao (([]:List (Int×Bool)),([]:List (Int×Bool)),0)) (fun a=>au (bp a.1.length a.2.length) (some (a.1++a.2))))
def fC (x0:Int) (x1:List (Int×Int×Int)) (x2:List Bool) (x3:List (Int×Int)) (x4:List Int):Option (List (Int×Bool)×Bool):=Option.bind (dJ x0 x1 x2 x3 x4) (fun a=>(bif a.2 then Option.bind (kL x2 a.1) (fun b=>some (b,true)) else some (([]:List (Int×Bool)),false)))
def eK (x6:List Int) (b:List (Int×Int×Int)×List Bool×Int) (c:(List (Int×Int×Int)×Int)→Option ((List (Int×Int×Int)))) (a:(List (Int×Int×Int)×Int)):Option ((List (Int×Int×Int))):=(bif am a.2 3 then au (aI a.2 3) (au (bp a.1.length ([((([4,7,5]:List Int).getD a.2.toNat (0:Int)),(x6.getD b.2.2.toNat (0:Int)),0)]:List (Int×Int×Int)).length) (c (a.1++([((([4,7,5]:List Int).getD a.2.toNat (0:Int)),(x6.getD b.2.2.toNat (0:Int)),0)]:List (Int×Int×Int)),ak (a.2+1)))) else some a.1)
def dj x6 a:=iz (eK x6 a)
theorem mm x6 p118 n p:dj x6 p118 (n+1) p=eK x6 p118 (dj x6 p118 n) p:=rfl
def eJ (x6:List Int) (b:List Bool) (d:(List (Int×Int×Int)×List Bool×Int)→Option ((List (Int×Int×Int)×List Bool))) (a:(List (Int×Int×Int)×List Bool×Int)):Option ((List (Int×Int×Int)×List Bool)):=(bif am a.2.2 (x6.length:Int) then au (aI a.2.2 x6.length) (au (aI (x6.getD a.2.2.toNat (0:Int)) b.length) (Option.bind (bif a.2.1.getD ((x6.getD a.2.2.toNat (0:Int)).toNat) false then some (a.1,a.2.1) else au (bp a.1.length ([(2,(x6.getD a.2.2.toNat (0:Int)),0)]:List (Int×Int×Int)).length) (au (aI (x6.getD a.2.2.toNat (0:Int)) b.length) (some (a.1++([(2,(x6.getD a.2.2.toNat (0:Int)),0)]:List (Int×Int×Int)),a.2.1.set ((x6.getD a.2.2.toNat (0:Int)).toNat) true)))) (fun c=>Option.bind (dj x6 a ao (c.1,0)) (fun e=>d (e,c.2,ak (a.2.2+1)))))) else some (a.1,a.2.1))
def di x6 a:=iz (eJ x6 a)
theorem ml x6 p108 n p:di x6 p108 (n+1) p=eJ x6 p108 (di x6 p108 n) p:=rfl
def eL (b:List (Int×Bool)×Bool) (d:(List (Int×Int×Int)×Int)→Option ((List (Int×Int×Int)))) (a:(List (Int×Int×Int)×Int)):Option ((List (Int×Int×Int))):=(bif am a.2 (b.1.length:Int) then au (aI a.2 b.1.length) (Option.bind (bif (b.1.getD a.2.toNat ((0,false):Int×Bool)).2 then some 0 else some 1) (fun c=>au (bp a.1.length ([(c,(b.1.getD a.2.toNat ((0,false):Int×Bool)).1,0)]:List (Int×Int×Int)).length) (d (a.1++([(c,(b.1.getD a.2.toNat ((0,false):Int×Bool)).1,0)]:List (Int×Int×Int)),ak (a.2+1))))) else some a.1)
def dk a:=iz (eL a)
theorem mn p158 n p:dk p158 (n+1) p=eL p158 (dk p158 n) p:=rfl
def dK (x0:Int) (x1:List (Int×Int×Int)) (x2:List (Int×Int)) (x3:List Bool) (x4:List Bool) (x5:List (Int×Int)) (x6:List Int):Option (List (Int×Int×Int)):=Option.bind (aT x0 x1 x2 x3 x4 x5 x6) (fun d=>(bif d then Option.bind (fF x3 x4 x5) (fun e=>Option.bind (aM x4) (fun b=>Option.bind (di x6 b ao (e,b,0)) (fun a=>Option.bind (jv 3 a.2 true) (fun c=>au (bp a.1.length c.length) (Option.bind (fC x0 x1 x3 x2 ([]:List Int)) (fun f=>Option.bind (dk f ao (a.1++c,0)) (fun g=>some g))))))) else some ([]:List (Int×Int×Int))))
def fH (x7:List (Int×Int×Int)) (d:(Int×Int×Int×List (Int×Int×Int)×List (Int×Int)×List Bool×List Bool×List (Int×Int)×List Int)→Option ((Int×Int×List (Int×Int×Int)×List (Int×Int)×List Bool×List Bool×List (Int×Int)×List Int))) (a:(Int×Int×Int×List (Int×Int×Int)×List (Int×Int)×List Bool×List Bool×List (Int×Int)×List Int)):Option ((Int×Int×List (Int×Int×Int)×List (Int×Int)×List Bool×List Bool×List (Int×Int)×List Int)):=(bif am a.2.1 (x7.length:Int) then au (aI a.2.1 x7.length) (Option.bind (iG a.2.2.1 a.2.2.2.1 a.2.2.2.2.1 a.2.2.2.2.2.1 a.2.2.2.2.2.2.1 a.2.2.2.2.2.2.2.1 a.2.2.2.2.2.2.2.2 ((x7.getD a.2.1.toNat ((0,0,0):Int×Int×Int)).1) ((x7.getD a.2.1.toNat ((0,0,0):Int×Int×Int)).2.1) ((x7.getD a.2.1.toNat ((0,0,0):Int×Int×Int)).2.2)) (fun b=>Option.bind (bif b.2.2.2.2.2.2.2 then some (ak (a.1+1),b.1,b.2.1,b.2.2.1,b.2.2.2.1,b.2.2.2.2.1,b.2.2.2.2.2.1,b.2.2.2.2.2.2.1) else some (a.1,a.2.2.1,a.2.2.2.1,a.2.2.2.2.1,a.2.2.2.2.2.1,a.2.2.2.2.2.2.1,a.2.2.2.2.2.2.2.1,a.2.2.2.2.2.2.2.2)) (fun c=>d (c.1,ak (a.2.1+1),c.2.1,c.2.2.1,c.2.2.2.1,c.2.2.2.2.1,c.2.2.2.2.2.1,c.2.2.2.2.2.2.1,c.2.2.2.2.2.2.2)))) else some (a.1,a.2.2.1,a.2.2.2.1,a.2.2.2.2.1,a.2.2.2.2.2.1,a.2.2.2.2.2.2.1,a.2.2.2.2.2.2.2.1,a.2.2.2.2.2.2.2.2))
def cB x7:=iz (fH x7)
theorem mV x7 n p:cB x7 (n+1) p=fH x7 (cB x7 n) p:=rfl
def jt (x0:Int) (x1:List (Int×Int×Int)) (x2:List (Int×Int)) (x3:List Bool) (x4:List Bool) (x5:List (Int×Int)) (x6:List Int) (x7:List (Int×Int×Int)):Option (Int×List (Int×Int×Int)×List (Int×Int)×List Bool×List Bool×List (Int×Int)×List Int×Int):=Option.bind (aT x0 x1 x2 x3 x4 x5 x6) (fun c=>(bif c then Option.bind (bi x0 x1 x2 x3 x4 x5 x6) (fun b=>Option.bind (cB x7 ao (0,0,b.1,b.2.1,b.2.2.1,b.2.2.2.1,b.2.2.2.2.1,b.2.2.2.2.2.1,b.2.2.2.2.2.2)) (fun a=>some (a.2.1,a.2.2.1,a.2.2.2.1,a.2.2.2.2.1,a.2.2.2.2.2.1,a.2.2.2.2.2.2.1,a.2.2.2.2.2.2.2,a.1))) else some (0,([]:List (Int×Int×Int)),([]:List (Int×Int)),([]:List Bool),([]:List Bool),([]:List (Int×Int)),([]:List Int),0)))
def iQ (x0:Int) (x1:List (Int×Int×Int)) (x2:List (Int×Int)) (x3:List Bool) (x4:List Bool) (x5:List (Int×Int)) (x6:List Int):Option (Int×List (Int×Int×Int)×List (Int×Int)×List Bool×List Bool×List (Int×Int)×List Int):=Option.bind (dK x0 x1 x2 x3 x4 x5 x6) (fun b=>Option.bind (jt x0 x1 x2 x3 x4 x5 x6 b) (fun a=>some (a.1,a.2.1,a.2.2.1,a.2.2.2.1,a.2.2.2.2.1,a.2.2.2.2.2.1,a.2.2.2.2.2.2.1)))
def jq (x0:Int) (x1:List (Int×Int×Int)) (x2:List Bool) (x3:List (Int×Int)) (x4:Int):Option (Int):=Option.bind (gQ x0 x1 x2 x3) (fun a=>Option.bind (gb (!(!a.2.2.2.2.2)) (aH x0 x1 x4)) (fun c=>(bif (!a.2.2.2.2.2) ||(!c) then some (-1) else Option.bind (eX a.1 (Rm a.2.1 x1) a.2.2.1 a.2.2.2.1 a.2.2.2.2.1 x3) (fun b=>au (aI x4 b.length) (some (b.getD x4.toNat (0:Int)))))))
def fM (x0:List Int) (b:(List ByteArray×Int)→Option ((List ByteArray))) (a:(List ByteArray×Int)):Option ((List ByteArray)):=(bif am a.2 (x0.length:Int) then au (aI a.2 x0.length) (Option.bind (bj (x0.getD a.2.toNat (0:Int))) (fun c=>au (aI a.2 x0.length) (b (a.1.set a.2.toNat c,ak (a.2+1))))) else some a.1)
def gu x0:=iz (fM x0)
theorem mZ x0 n p:gu x0 (n+1) p=fM x0 (gu x0 n) p:=rfl
def cZ (x0:List Int):Option (ByteArray):=(bif (x0.length:Int)==0 then some ({data:= #[110,111,110,101]}:ByteArray) else au (sY (x0.length:Int)) (Option.bind (gu x0 ao (List.replicate x0.length ByteArray.empty,0)) (fun a=>Option.bind (cQ a ({data:= #[44]}:ByteArray)) (fun b=>some b))))
def dX (x3:List (Int×Int)) (b:Int×Int×Int×Int×Int×Int×Int×Int×Int×Int×Int×Int×Int×Int×Int×Int) (d:(List Int×List Int×Int)→Option ((List Int))) (a:(List Int×List Int×Int)):Option ((List Int)):=(bif am a.2.2 (x3.length:Int) then Option.bind (bd a.1 a.2.2) (fun c=>au (aI c.1 8) (Option.bind (bif am 0 (([b.1,b.2.1,b.2.2.1,b.2.2.2.1,b.2.2.2.2.1,b.2.2.2.2.2.1,b.2.2.2.2.2.2.1,b.2.2.2.2.2.2.2.1]:List Int).getD c.1.toNat 0) then au (bp a.2.1.length ([a.2.2]:List Int).length) (some (a.2.1++([a.2.2]:List Int))) else some a.2.1) (fun e=>d (c.2,e,ak (a.2.2+1))))) else some a.2.1)
def eF x3 a:=iz (dX x3 a)
theorem lO x3 p108 n p:eF x3 p108 (n+1) p=dX x3 p108 (eF x3 p108 n) p:=rfl
def gZ (x0:Int) (x1:List (Int×Int×Int)) (x2:List Bool) (x3:List (Int×Int)):Option (List Int):=Option.bind (cY x0 x1 x2 x3) (fun a=>(bif a then Option.bind (iH x0 x1 x2) (fun b=>Option.bind (jj x0 x1 x2 x3) (fun c=>Option.bind (eF x3 c ao (b,([]:List Int),0)) (fun d=>some d))) else some ([]:List Int)))
def bY (x0:List Int) (x1:Int) (b:Int→Option (Unit ⊕ Int)) (a:Int):Option (Unit ⊕ Int):=(bif am a (x0.length:Int) then au (aI a x0.length) ((bif x1==(x0.getD a.toNat (0:Int)) then some (Sum.inr a) else b (ak (a+1)))) else some (Sum.inl ()))
def bu x0 x1:=iz (bY x0 x1)
theorem iW x0 x1 n p:bu x0 x1 (n+1) p=bY x0 x1 (bu x0 x1 n) p:=rfl
def dG (x0:List Int) (x1:Int):Option (Int):=Option.bind (bu x0 x1 ao 0:Option (Unit ⊕ Int)) (Sum.elim (fun (a:Unit)=>some (-1)) (fun (r:Int)=>some r))
def cm (x0:List Int) (x1:Int):Option (Bool):=Option.bind (dG x0 x1) (fun a=>some (bb 0 a))
def eS (x2:List (Int×Int)) (b:List Int) (c:(List Int×Int)→Option ((List Int))) (a:(List Int×Int)):Option ((List Int)):=(bif am a.2 (x2.length:Int) then au (aI a.2 x2.length) (Option.bind (gb (am 0 ((x2.getD a.2.toNat ((0,0):Int×Int)).2)) (cm b a.2)) (fun d=>Option.bind (bif (am 0 ((x2.getD a.2.toNat ((0,0):Int×Int)).2))&&(!d) then au (bp a.1.length ([a.2]:List Int).length) (some (a.1++([a.2]:List Int))) else some a.1) (fun e=>c (e,ak (a.2+1))))) else some a.1)
def fG x2 a:=iz (eS x2 a)
theorem mt x2 p104 n p:fG x2 p104 (n+1) p=eS x2 p104 (fG x2 p104 n) p:=rfl
def dM (x0:Int) (x1:List (Int×Int×Int)) (x2:List (Int×Int)) (x3:List Bool) (x4:List Bool) (x5:List (Int×Int)) (x6:List Int):Option (List Int):=Option.bind (aT x0 x1 x2 x3 x4 x5 x6) (fun a=>(bif a then Option.bind (gZ x0 x1 x3 x2) (fun b=>Option.bind (fG x2 b ao (([]:List Int),0)) (fun c=>some c)) else some ([]:List Int)))
def bW (x0:Int) (x1:List (Int×Int×Int)) (x2:List Bool) (x3:List (Int×Int)):Option (Int):=Option.bind (cY x0 x1 x2 x3) (fun a=>(bif a then Option.bind (eV x0 x1 x2 x3) (fun b=>some b) else some (-1)))
def eO (x0:List Bool) (b:(List Int×Int)→Option ((List Int))) (a:(List Int×Int)):Option ((List Int)):=(bif am a.2 (x0.length:Int) then au (aI a.2 x0.length) (au (aI a.2 x0.length) (Option.bind (bif x0.getD a.2.toNat false then au (aI a.2 x0.length) (some (a.1.set a.2.toNat 49)) else some (a.1.set a.2.toNat 48)) (fun c=>b (c,ak (a.2+1))))) else some a.1)
def fD x0:=iz (eO x0)
theorem mo x0 n p:fD x0 (n+1) p=eO x0 (fD x0 n) p:=rfl
def fT (x0:List Bool):Option (ByteArray):=(bif am 10 (x0.length:Int) then some ({data:= #[]}:ByteArray) else au (sY (x0.length:Int)) (Option.bind (fD x0 ao (List.replicate x0.length (0:Int),0)) (fun a=>some (strOfNums a))))
def fI (x0:Int) (x1:List (Int×Int×Int)) (x2:List (Int×Int)) (x3:List Bool) (x4:List Bool) (x5:List (Int×Int)) (x6:List Int) (x7:List ByteArray):Option (ByteArray):=au (!((x7.length:Int)==2) ||aI 0 x7.length) ((bif ((x7.length:Int)==2)&&((x7.getD ((0:Int).toNat) ByteArray.empty).toList==({data:= #[102,108,111,119]}:ByteArray).toList) then au (aI 1 x7.length) (Option.bind (az (x7.getD ((1:Int).toNat) ByteArray.empty)) (fun b=>(bif b.2 then Option.bind (aH x0 x1 b.1) (fun c=>(bif c then Option.bind (jq x0 x1 x3 x2 b.1) (fun d=>Option.bind (bj d) (fun e=>some e)) else some ({data:= #[110,111]}:ByteArray))) else some ({data:= #[119,104,97,116]}:ByteArray)))) else Option.bind (cQ x7 ({data:= #[32]}:ByteArray)) (fun a=>(bif a.toList==({data:= #[115,116,97,116,101]}:ByteArray).toList then Option.bind (fT x3) (fun f=>some f) else (bif a.toList==({data:= #[115,101,114,118,101,100]}:ByteArray).toList then Option.bind (bW x0 x1 x3 x2) (fun g=>Option.bind (bj g) (fun h=>some h)) else (bif a.toList==({data:= #[100,97,114,107]}:ByteArray).toList then Option.bind (dM x0 x1 x2 x3 x4 x5 x6) (fun i=>Option.bind (cZ i) (fun j=>some j)) else (bif a.toList==({data:= #[98,114,111,107,101,110]}:ByteArray).toList then Option.bind (cZ x6) (fun k=>some k) else (bif a.toList==({data:= #[110,101,116]}:ByteArray).toList then Option.bind (bF x0 x1) (fun l=>some l) else some ({data:= #[119,104,97,116]}:ByteArray)))))))))
def fV (x0:Int) (x1:List (Int×Int×Int)) (x2:List (Int×Int)) (x3:List Bool) (x4:List Bool) (x5:List (Int×Int)) (x6:List Int) (x7:ByteArray):Option (Int×List (Int×Int×Int)×List (Int×Int)×List Bool×List Bool×List (Int×Int)×List Int×ByteArray):=Option.bind (aT x0 x1 x2 x3 x4 x5 x6) (fun f=>(bif f then Option.bind (ey x7 ({data:= #[32]}:ByteArray)) (fun e=>Option.bind (da e) (fun d=>(bif d.2.2.2 then Option.bind (iG x0 x1 x2 x3 x4 x5 x6 d.1 d.2.1 d.2.2.1) (fun a=>(bif a.2.2.2.2.2.2.2 then some (a.1,a.2.1,a.2.2.1,a.2.2.2.1,a.2.2.2.2.1,a.2.2.2.2.2.1,a.2.2.2.2.2.2.1,({data:= #[111,107]}:ByteArray)) else some (a.1,a.2.1,a.2.2.1,a.2.2.2.1,a.2.2.2.2.1,a.2.2.2.2.2.1,a.2.2.2.2.2.2.1,({data:= #[110,111]}:ByteArray)))) else (bif x7.toList==({data:= #[104,101,97,108]}:ByteArray).toList then Option.bind (iQ x0 x1 x2 x3 x4 x5 x6) (fun b=>some (b.1,b.2.1,b.2.2.1,b.2.2.2.1,b.2.2.2.2.1,b.2.2.2.2.2.1,b.2.2.2.2.2.2,({data:= #[111,107]}:ByteArray))) else Option.bind (bi x0 x1 x2 x3 x4 x5 x6) (fun c=>Option.bind (fI x0 x1 x2 x3 x4 x5 x6 e) (fun g=>some (c.1,c.2.1,c.2.2.1,c.2.2.2.1,c.2.2.2.2.1,c.2.2.2.2.2.1,c.2.2.2.2.2.2,g))))))) else some (0,([]:List (Int×Int×Int)),([]:List (Int×Int)),([]:List Bool),([]:List Bool),([]:List (Int×Int)),([]:List Int),({data:= #[]}:ByteArray))))
def mh (x0:Int) (x1:List (Int×Int×Int)) (x2:Int) (x3:Int):Option (Int):=Option.bind (aC x0 x1) (fun a=>Option.bind (gb (!(!a)) (aH x0 x1 x2)) (fun b=>(bif (!a) ||(!b) then some (-1) else au (aI x2 x1.length) (Option.bind (bV ((x1.getD x2.toNat ((0,0,0):Int×Int×Int)).1) ((x1.getD x2.toNat ((0,0,0):Int×Int×Int)).2.1) ((x1.getD x2.toNat ((0,0,0):Int×Int×Int)).2.2) x3) (fun c=>some c)))))
def mJ:Option (Bool):=Option.bind (mh 2 ([(0,1,1)]:List (Int×Int×Int)) 0 0) (fun a=>Option.bind (gb (a==1) (bF 0 ([]:List (Int×Int×Int)))) (fun b=>some ((a==1)&&(b.toList==({data:= #[]}:ByteArray).toList))))
def ep (x0:List Int) (a:Int×List (Int×Int×Int)×List (Int×Int)×List Bool×List Bool×List (Int×Int)×List Int×Int) (d:(List ByteArray×Int×Int)→Option ((List ByteArray×Int))) (b:(List ByteArray×Int×Int)):Option ((List ByteArray×Int)):=(bif am 0 b.2.1 then Option.bind (kQ (ac x0 0 (ER x0.length)) b.2.2 a.1 a.2.1 a.2.2.1 a.2.2.2.1 a.2.2.2.2.1 a.2.2.2.2.2.1 a.2.2.2.2.2.2.1) (fun c=>au (bp b.1.length ([c.1]:List ByteArray).length) (d (b.1++([c.1]:List ByteArray),ak (b.2.1-1),c.2))) else some (b.1,b.2.2))
def bG x0 a:=iz (ep x0 a)
theorem oM x0 p103 n p:bG x0 p103 (n+1) p=ep x0 p103 (bG x0 p103 n) p:=rfl
def cu (x0:List Int):Option (Int×List (Int×Int×Int)×List (Int×Int)×List Bool×List Bool×List (Int×Int)×List Int×List ByteArray):=Option.bind (jA (ac x0 0 (ER x0.length)) 0 12) (fun a=>Option.bind (ab (ac x0 0 (ER x0.length)) a.2.2.2.2.2.2.2 9) (fun b=>Option.bind (bG x0 a ao (([]:List ByteArray),b.1,b.2)) (fun c=>Option.bind (bO (ac x0 0 (ER x0.length)) c.2 30) (fun d=>Option.bind (bif d.1 then au (sY 41) (some (List.replicate ((41:Int).toNat) ByteArray.empty)) else some c.1) (fun e=>some (a.1,a.2.1,a.2.2.1,a.2.2.2.1,a.2.2.2.2.1,a.2.2.2.2.2.1,a.2.2.2.2.2.2.1,e))))))
def dZ (x7:List ByteArray) (c:(List ByteArray×Int×Int×List (Int×Int×Int)×List (Int×Int)×List Bool×List Bool×List (Int×Int)×List Int)→Option ((List ByteArray×Int×List (Int×Int×Int)×List (Int×Int)×List Bool×List Bool×List (Int×Int)×List Int))) (a:(List ByteArray×Int×Int×List (Int×Int×Int)×List (Int×Int)×List Bool×List Bool×List (Int×Int)×List Int)):Option ((List ByteArray×Int×List (Int×Int×Int)×List (Int×Int)×List Bool×List Bool×List (Int×Int)×List Int)):=(bif am a.2.1 (x7.length:Int) then au (aI a.2.1 x7.length) (Option.bind (fV a.2.2.1 a.2.2.2.1 a.2.2.2.2.1 a.2.2.2.2.2.1 a.2.2.2.2.2.2.1 a.2.2.2.2.2.2.2.1 a.2.2.2.2.2.2.2.2 (x7.getD a.2.1.toNat ByteArray.empty)) (fun b=>au (aI a.2.1 x7.length) (c (a.1.set a.2.1.toNat b.2.2.2.2.2.2.2,ak (a.2.1+1),b.1,b.2.1,b.2.2.1,b.2.2.2.1,b.2.2.2.2.1,b.2.2.2.2.2.1,b.2.2.2.2.2.2.1)))) else some (a.1,a.2.2.1,a.2.2.2.1,a.2.2.2.2.1,a.2.2.2.2.2.1,a.2.2.2.2.2.2.1,a.2.2.2.2.2.2.2.1,a.2.2.2.2.2.2.2.2))
def cI x7:=iz (dZ x7)
theorem lQ x7 n p:cI x7 (n+1) p=dZ x7 (cI x7 n) p:=rfl
def ib (x0:Int) (x1:List (Int×Int×Int)) (x2:List (Int×Int)) (x3:List Bool) (x4:List Bool) (x5:List (Int×Int)) (x6:List Int) (x7:List ByteArray):Option (Int×List (Int×Int×Int)×List (Int×Int)×List Bool×List Bool×List (Int×Int)×List Int×List ByteArray):=Option.bind (aT x0 x1 x2 x3 x4 x5 x6) (fun c=>(bif (!c) ||(am 40 (x7.length:Int)) then some (0,([]:List (Int×Int×Int)),([]:List (Int×Int)),([]:List Bool),([]:List Bool),([]:List (Int×Int)),([]:List Int),([]:List ByteArray)) else Option.bind (bi x0 x1 x2 x3 x4 x5 x6) (fun b=>au (sY (x7.length:Int)) (Option.bind (cI x7 ao (List.replicate x7.length ByteArray.empty,0,b.1,b.2.1,b.2.2.1,b.2.2.2.1,b.2.2.2.2.1,b.2.2.2.2.2.1,b.2.2.2.2.2.2)) (fun a=>some (a.2.1,a.2.2.1,a.2.2.2.1,a.2.2.2.2.1,a.2.2.2.2.2.1,a.2.2.2.2.2.2.1,a.2.2.2.2.2.2.2,a.1))))))
def fU (x0:Int) (x1:List (Int×Int×Int)) (x2:List (Int×Int)) (x3:List Bool) (x4:List Bool) (x5:List (Int×Int)) (x6:List Int):Option (Bool):=Option.bind (Option.bind (aT x0 x1 x2 x3 x4 x5 x6) (fun a=>(bif a then Option.bind (dK x0 x1 x2 x3 x4 x5 x6) (fun b=>some ((b.length:Int)==0)) else some false))) (fun c=>some c)
def gz (x0:List Int):Option (Bool):=(bif am 1048576 (x0.length:Int) then some true else Option.bind (cu x0) (fun b=>Option.bind (cX b.1 b.2.1 b.2.2.1 b.2.2.2.1 b.2.2.2.2.1 b.2.2.2.2.2.1 b.2.2.2.2.2.2.1) (fun e=>(bif (!e) ||(bb 40 (b.2.2.2.2.2.2.2.length:Int)) then Option.bind (mJ) (fun f=>some f) else au (bp ([]:List ByteArray).length b.2.2.2.2.2.2.2.length) (au (bp ([]++b.2.2.2.2.2.2.2).length ([({data:= #[104,101,97,108]}:ByteArray)]:List ByteArray).length) (Option.bind (ib b.1 b.2.1 b.2.2.1 b.2.2.2.1 b.2.2.2.2.1 b.2.2.2.2.2.1 b.2.2.2.2.2.2.1 (([]++b.2.2.2.2.2.2.2)++([({data:= #[104,101,97,108]}:ByteArray)]:List ByteArray))) (fun a=>au (!(!((a.2.2.2.2.2.2.2.length:Int) !=(ak ((b.2.2.2.2.2.2.2.length:Int)+1)))) ||aI (b.2.2.2.2.2.2.2.length:Int) a.2.2.2.2.2.2.2.length) ((bif ((a.2.2.2.2.2.2.2.length:Int) !=(ak ((b.2.2.2.2.2.2.2.length:Int)+1))) ||(!((a.2.2.2.2.2.2.2.getD ((b.2.2.2.2.2.2.2.length:Int).toNat) ByteArray.empty).toList==({data:= #[111,107]}:ByteArray).toList)) then some false else Option.bind (dJ a.1 a.2.1 a.2.2.2.1 a.2.2.1 ([]:List Int)) (fun c=>Option.bind (fU a.1 a.2.1 a.2.2.1 a.2.2.2.1 a.2.2.2.2.1 a.2.2.2.2.2.1 a.2.2.2.2.2.2.1) (fun d=>Option.bind (gb ((d&&((a.2.2.2.2.2.2.1.length:Int)==0))&&(!(!c.2))) (bW a.1 a.2.1 a.2.2.2.1 a.2.2.1)) (fun g=>Option.bind (gb ((d&&((a.2.2.2.2.2.2.1.length:Int)==0))&&(!(!c.2))) (bW a.1 a.2.1 c.1 a.2.2.1)) (fun h=>some ((d&&((a.2.2.2.2.2.2.1.length:Int)==0))&&((!c.2) ||(g==h))))))))))))))))
end
theorem ae {α:Type} {l:List α} {k:Nat} {d:α} (h:k<l.length):l.getD k d=l[k]:=by simp [List.getD,h]
theorem ai {k:Nat} (h:k<4611686018427387904):ak ((k:Int)+1)=((k+1:Nat):Int):=by rw [aW (by omega) (by omega)];rfl
theorem yn {n:Int} (h: -9223372036854775808≤n∧n≤9223372036854775807):ak n=n:=aW h.1 h.2
theorem mG {n:Nat} (h:n≤1099511627776):n<ao:=by rw [nK];omega
theorem aK {k n:Nat} (h:k<n):am (k:Int) (n:Int)=true:=by simp [am,h]
theorem ah {k n:Nat} (h:k<n):aI (k:Int) n=true:=by simp [aI,h]
theorem av {n:Nat}:am (n:Int) (n:Int)=false:=by simp [am]
theorem lw (n lo hi:Int):yD n lo hi=(bb lo n&&bb n hi):=rfl
theorem zF {α β:Type} (f:β→α→β) (l:List α) (a:β) (d:α) {k:Nat} (h:k<l.length):(l.take (k+1)).foldl f a=f ((l.take k).foldl f a) (l.getD k d):=by
 rw [List.take_succ_eq_append_getElem h,List.foldl_append,ae h];rfl
theorem OD {σ Out:Type} (L:Nat→σ→Option Out) (st:Nat→σ) (n:Nat) (out:Option Out) (hstep: ∀k fuel,k<n→L (fuel+1) (st k)=L fuel (st (k+1))) (hend: ∀fuel,L (fuel+1) (st n)=out): ∀j k fuel,k+j=n→j<fuel→L fuel (st k)=out:=by
 intro j
 induction j with
 |zero=>
  intro k fuel hk hf
  obtain ⟨f,rfl⟩: ∃f,fuel=f+1:=⟨fuel-1,by omega⟩
  obtain rfl:k=n:=by omega
  exact hend f
 |succ j ih=>
  intro k fuel hk hf
  obtain ⟨f,rfl⟩: ∃f,fuel=f+1:=⟨fuel-1,by omega⟩
  rw [hstep k f (by omega)]
  exact ih (k+1) f (by omega) (by omega)
theorem ba {σ Out:Type} (L:Nat→σ→Option Out) (st:Nat→σ) (n:Nat) (out:Option Out) (hn:n≤1099511627776) (hstep: ∀k fuel,k<n→L (fuel+1) (st k)=L fuel (st (k+1))) (hend: ∀fuel,L (fuel+1) (st n)=out):L ao (st 0)=out:=
 OD L st n out hstep hend n 0 ao (by omega) (mG hn)
theorem cc {σ Out:Type} (L:Nat→σ→Option Out) (st:Nat→σ) (n:Nat) (P:Nat→Bool) (fv out:Option Out) (hn:n≤1099511627776) (hstep: ∀k fuel,k<n→L (fuel+1) (st k)=bif P k then fv else L fuel (st (k+1))) (hend: ∀fuel,L (fuel+1) (st n)=out):
 L ao (st 0)=bif (List.range n).any P then fv else out:=by
 have key: ∀j k fuel,k+j=n→j<fuel→L fuel (st k)=bif (List.range' k j).any P then fv else out:=by
  intro j
  induction j with
  |zero=>
   intro k fuel hk hf
   obtain ⟨f,rfl⟩: ∃f,fuel=f+1:=⟨fuel-1,by omega⟩
   obtain rfl:k=n:=by omega
   simpa using hend f
  |succ j ih=>
   intro k fuel hk hf
   obtain ⟨f,rfl⟩: ∃f,fuel=f+1:=⟨fuel-1,by omega⟩
   rw [hstep k f (by omega),ih (k+1) f (by omega) (by omega),List.range'_succ,List.any_cons]
   cases P k<;>simp
 rw [key n 0 ao (by omega) (mG hn),List.range_eq_range']
theorem DL {α:Type} (l:List α) (d:α) (p:α→Bool):(List.range l.length).any (fun k=>p (l.getD k d))=l.any p:=by
 rw [Bool.eq_iff_iff,List.any_eq_true,List.any_eq_true]
 constructor
 ·rintro ⟨k,hk,h⟩
  have hk:k<l.length:=by simpa using hk
  exact ⟨l[k],List.getElem_mem hk,by simpa [List.getD,hk] using h⟩
 ·rintro ⟨x,hx,h⟩
  obtain ⟨k,hk,rfl⟩:=List.mem_iff_getElem.1 hx
  exact ⟨k,by simpa using hk,by simpa [List.getD,hk] using h⟩
theorem IK {β:Type} (L:Nat→(List β×Int)→Option (List β)) (x:List β) (l0:List β) (hl:l0.length=x.length) (hx:x.length≤1048576)
 (hstep: ∀fuel (l:List β) (j:Nat) (hj:j<x.length),l.length=x.length→L (fuel+1) (l,(j:Int))=L fuel (l.set j x[j],((j+1:Nat):Int)))
 (hend: ∀fuel (l:List β),l.length=x.length→L (fuel+1) (l,(x.length:Int))=some l):L ao (l0,0)=some x:=by
 have h:=ba L (fun j=>(x.take j++l0.drop j,(j:Int))) x.length (some x) (by omega) (fun j fuel hj=>?_) (fun fuel=>?_)
 ·simpa using h
 ·rw [hstep fuel _ j hj (by simp;omega)]
  congr 2
  rw [List.set_append_right _ _ (by simp;omega),List.length_take,Nat.min_eq_left (by omega),Nat.sub_self,List.drop_eq_getElem_cons (by omega:j<l0.length),List.set_cons_zero,List.take_succ_eq_append_getElem hj,List.append_assoc]
  rfl
 ·have:=hend fuel (x.take x.length++l0.drop x.length) (by simp;omega)
  rw [this,List.take_length,List.drop_of_length_le (by omega),List.append_nil]
end Go.Proofs.YtjdlgannencchaaGreatDoor
namespace Go.Proofs.YtjdlgannencchaaGreatDoor
open Go.Lib
set_option linter.unusedVariables false
set_option linter.unusedSimpArgs false
theorem Xy {n:Int} (h:0≤n∧n<256):wk .u8 n=n:=by
 unfold wk IntKind.wrap
 simp [IntKind.bits,IntKind.signed]
 omega
theorem xe {n:Nat} (h:n<10):strOfNums ([wk .u8 (ak (48+(n:Int)))]:List Int)=bH [UInt8.ofNat (48+n)]:=by
 rw [yn (by omega),Xy (by omega)]
 unfold strOfNums bH
 have e:(48+(n:Int)).toNat=48+n:=by omega
 simp only [List.map_cons,List.map_nil,e]
theorem Ho (a b:List UInt8):bH a++bH b=bH (a++b):=by
 have h: ∀ {x y:ByteArray},x.data.toList=y.data.toList→x=y:=fun {x y} h=>by
  cases x;cases y;simp at h;rw [ByteArray.mk.injEq];exact h
 apply h
 rw [ByteArray.data_append,Array.toList_append,iB,iB,iB]
theorem zT: ∀(k n:Nat),n<10 ^ (k+1)→(decDigits n).length≤k+1
 |0,n,h=>by rw [decDigits_one (by simpa using h)];simp
 |k+1,n,h=>by
  rw [decDigits]
  split
  ·simp
  ·have:=zT k (n / 10) (by rw [Nat.pow_succ] at h;omega)
   simp;omega
theorem Ve: ∀(k n:Nat),n<10 ^ (k+1)→n<9223372036854775808→k<100→iz fu (k+1) (n:Int)=some (bH (decDigits n)):=by
 intro k
 induction k with
 |zero=>
  intro n h h2 _
  have h:n<10:=by simpa using h
  show fu (iz fu 0) (n:Int)=_
  rw [fu]
  rw [show am (n:Int) 0=false from decide_eq_false (by omega),show am (n:Int) 10=true from decide_eq_true (by omega),decDigits_one h,xe h]
  rfl
 |succ k ih=>
  intro n h h2 hk
  show fu (iz fu (k+1)) (n:Int)=_
  rw [fu]
  rw [show am (n:Int) 0=false from decide_eq_false (by omega)]
  by_cases h10:n<10
  ·rw [show am (n:Int) 10=true from decide_eq_true (by omega),decDigits_one h10,xe h10];rfl
  ·rw [show am (n:Int) 10=false from decide_eq_false (by omega)]
   have e1:ak (Int.tdiv (n:Int) 10)=((n / 10:Nat):Int):=by
    rw [Int.tdiv_eq_ediv_of_nonneg (by omega),yn (by omega)];rfl
   have e2:Int.tmod (n:Int) 10=((n % 10:Nat):Int):=by
    rw [Int.tmod_eq_emod_of_nonneg (by omega)];rfl
   have hlt:n / 10<10 ^ (k+1):=by rw [Nat.pow_succ] at h;omega
   have hl:=zT k (n / 10) hlt
   rw [e1,e2,ih (n / 10) hlt (by omega) (by omega),xe (n:=n % 10) (Nat.mod_lt _ (by decide))]
   have hs:Np (bH (decDigits (n / 10))).size (bH [UInt8.ofNat (48+n % 10)]).size=true:=decide_eq_true (by rw [iC,iC];simp;omega)
   simp only [Bool.false_and,cond_false,Option.bind_some,hs,aa]
   rw [Ho]
   conv=>rhs;rw [decDigits,dif_neg h10]
theorem Vd {x:Int} {r:ByteArray} (h:cf x=some r):iz fu 30 x=some r:=by
 obtain ⟨h1,h2⟩:=cv h
 injection h2 with h2
 have h1:0≤x∧x≤9223372036854775807:=of_decide_eq_true h1
 obtain ⟨n,rfl⟩: ∃n:Nat,x=n:=⟨x.toNat,by omega⟩
 rw [Ve 29 n (by have:(10:Nat) ^ 20≤10 ^ 30:=Nat.pow_le_pow_right (by decide) (by decide);omega) (by omega) (by decide),←h2]
 simp
theorem RG {n:Nat} (h:n<9223372036854775808):cf (n:Int)=some (bH (decDigits n)):=by
 unfold cf
 rw [decide_eq_true (by omega),aa];simp
theorem HT {n:Nat} (h:n<9223372036854775808):bj (n:Int)=some (bH (decDigits n)):=by
 unfold bj
 rw [decide_eq_true (by omega),aa,itoa_nonneg]
end Go.Proofs.YtjdlgannencchaaGreatDoor
namespace Go.Proofs.YtjdlgannencchaaGreatDoor
open Go.ChangeShapes Go.WideShapes Go.ChangeAt Go.RowKit
set_option linter.unusedVariables false
set_option linter.unusedSimpArgs false
def LP:Nat→List (ByteArray×Int)→List MapEntry
 |_,[]=> []
 |n,(k,v)::l=>⟨.string k,.int .i64 v,n⟩::LP (n+1) l
theorem EH (k:ByteArray) (v:Int): ∀n l,LP n (l++ [(k,v)])=LP n l++ [⟨.string k,.int .i64 v,n+l.length⟩]
 |n,[]=>rfl
 |n,(a,b)::l=>by simp [LP,EH k v (n+1) l];omega
def PX:List (ByteArray×Int)→ByteArray→Nat→Option (Nat×Value)
 | [],_,_=>none
 |(k,v)::l,s,i=>bif s==k then some (i,.int .i64 v) else PX l s (i+1)
theorem zY (s:ByteArray): ∀l n i,Instr.findNow .string (.string s) (LP n l) i=some (PX l s i)
 | [],_,_=>rfl
 |(k,v)::l,n,i=>by
  have h:Instr.sameNow .string (.string s) (.string k)=some (s==k):=rfl
  unfold LP Instr.findNow PX
  rw [h]
  cases s==k with
  |true=>rfl
  |false=>exact zY s l (n+1) (i+1)
theorem UY (s:ByteArray): ∀l i,(match PX l s i with |some (_,v)=>(v,true) |none=>(Value.int .i64 0,false))=(Value.int .i64 (rq l s).1,(rq l s).2)
 | [],_=>rfl
 |(k,v)::l,i=>by
  unfold PX rq
  cases s==k with
  |true=>rfl
  |false=>exact UY s l (i+1)
theorem ED (s:ByteArray): ∀l i,(rq l s).2=false→PX l s i=none
 | [],_,_=>rfl
 |(k,v)::l,i,h=>by
  unfold PX;unfold rq at h
  cases hc:s==k with
  |true=>rw [hc] at h;cases h
  |false=>rw [hc] at h;exact ED s l (i+1) h
def mM (w:World) (b:Nat) (l:List (ByteArray×Int)):Prop:=w.heap[b]?=some (.map (LP 0 l).toArray l.length)
section
variable {P:Program} {w:World} {b:Nat} {l:List (ByteArray×Int)} {t kt et:TypeId}
theorem Id (w:World):mM (w.alloc (.map #[] 0)) w.heap.size []:=(MapKept.heap_alloc w (.map #[] 0)).1
theorem oD (h:mM w b l) (ht:P.underlying t=some (.map kt et)) (hk:P.underlying kt=some .string) {k:ByteArray} (v:Int) (hn:(rq l k).2=false):
 ∃w',(Instr.mapUpdate t (.map (some b)) (.string k) (.int .i64 v)).run P w= .ok () w'∧mM w' b (l++ [(k,v)])∧w'.heap.size=w.heap.size∧w.grownBy w' (some b):=by
 have h1:=MapKept.run_getObj_map (P:=P) h
 have hb:b<w.heap.size:=(Array.getElem?_eq_some_iff.1 h).1
 have hf:=zY k l 0 0
 rw [ED k l 0 hn] at hf
 refine ⟨{w with heap:=w.heap.setIfInBounds b (.map (LP 0 (l++ [(k,v)])).toArray (l.length+1))},?_,?_,?_,rfl,rfl,rfl,?_,?_⟩
 ·have hs:=MapKept.run_setObj_map (P:=P) (.map ((LP 0 l).toArray.push {key:=.string k,val:=.int .i64 v,born:=l.length}) (l.length+1)) h
  have hF:=MapKept.run_findKey (P:=P) (w:=w) hk hf
  have hik:MapKept.IsKey .string (.string k):=trivial
  have e:(LP 0 l).toArray.push {key:=.string k,val:=.int .i64 v,born:=l.length}=(LP 0 (l++ [(k,v)])).toArray:=by simp [EH]
  rw [e] at hs
  simp only [Instr.mapUpdate,Sem.run_bind,run_underlying ht,h1,MapKept.run_checkKey hk hik,hF,Result.andThen,e,hs]
 ·simp [mM,hb]
 ·simp
 ·simp
 ·intro g _ hg;simp [show b≠g from fun e=>hg (by rw [e])]
theorem EF (h:mM w b l) (ht:P.underlying t=some (.map kt et)) (hk:P.underlying kt=some .string) (hz:(zeroValue et).run P w= .ok (.int .i64 0) w) (s:ByteArray):
 (Instr.lookup t (.map (some b)) (.string s) true).run P w= .ok (.tuple #[.int .i64 (rq l s).1,.bool (rq l s).2]) w:=by
 have h1:=MapKept.run_getObj_map (P:=P) h
 have hf:=zY s l 0 0
 have hl:=UY s l 0
 have hF:=MapKept.run_findKey (P:=P) (w:=w) hk hf
 have hik:MapKept.IsKey .string (.string s):=trivial
 cases hc:PX l s 0 with
 |none=>
  rw [hc] at hF hl
  injection hl with e1 e2
  simp [Instr.lookup,run_underlying ht,h1,MapKept.run_checkKey hk hik,hF,Result.andThen,hz,←e1,←e2]
 |some p=>
  rw [hc] at hF hl
  injection hl with e1 e2
  simp [Instr.lookup,run_underlying ht,h1,MapKept.run_checkKey hk hik,hF,Result.andThen,←e1,←e2]
theorem xF {w':World} {g:Nat} (h:mM w b l) (hg:w.grownBy w' (some g)) (hne:b≠g):mM w' b l:=(hg.block b (Array.getElem?_eq_some_iff.1 h).1 (by simpa using hne)).trans h
theorem Js {w':World} (h:mM w b l) (hb:Below w.heap.size w w'):mM w' b l:=(hb.block b (Array.getElem?_eq_some_iff.1 h).1).trans h
theorem uN (h:mM w b l) (o:Obj):mM (w.alloc o) b l:=Js h (Below.alloc (Below.refl _ _) (Nat.le_refl _) o)
theorem jM {w0 w':World} (h:Below w0.heap.size w0 w) (hg:w.grownBy w' (some b)) (hb:w0.heap.size≤b):Below w0.heap.size w0 w':=
 h.trans ⟨hg.os,hg.tape,hg.output,hg.size,fun k hk=>hg.block k (Nat.lt_of_lt_of_le hk h.size) (by simp;omega)⟩
end
def Sv (ops:Array Oper) (L:Nat) (up:Nat→Nat):Bool:=
 (List.range L).all fun j=>decide (j<up j)&&decide (up j≤L)&&((ops[up j]?).map (bf · j)).getD false
section
variable {P:Program} {ops:Array Oper} {Q:Exit→Act→World→Prop} {a0:Act} {D:List Nat} {dep:Nat→Nat}
 {Inv:World→Prop} {R:World→World→Prop} {Fs:Nat→Value→World→Prop}
def wF (P:Program) (ops:Array Oper) (Q:Exit→Act→World→Prop) (a0:Act) (D:List Nat) (dep:Nat→Nat) (Inv:World→Prop) (Fs:Nat→Value→World→Prop) (o:Oper):Prop:=
 ∀(a:Act) (w:World),ta a0 D a→Inv w→(∀j,j+1<ops.size→Fs j (sl a (dep j)) w)→
 Region.wanted o (yielded ops a.tmps)=true∧ ∃f args,(execOp a.eval o).run P w= .ok (.enter f args) w∧Calls P f args w fun e w'=> ∃v,e= .returned v∧Q .normal (a.put o.dst v) w'
theorem OV {up:Nat→Nat} {L:Nat} {oL:Oper} (hL:ops.size=L+1) (hoL:ops[L]?=some oL) (hup:Sv ops L up=true) (hs:nF ops a0.tmps.size D dep=true) (hstab: ∀j a w w',R w w'→qG dep Fs j a w→qG dep Fs j a w')
 (hops: ∀i o,i<L→ops[i]?=some o→Kh P ops a0 D [] dep Inv R Fs i o)
 (hlast:wF P ops Q a0 D dep Inv Fs oL):
 ∀(fuel:Nat) (listed:Array Bool) (a:Act) (w:World),listed.size=ops.size→listed.getD L true=false→ta a0 D a→Inv w→
  (∀i,i<ops.size→listed.getD i true=true→qG dep Fs i a w)→
  (∀j oj i,ops[j]?=some oj→listed.getD j true=true→bf oj i=true→listed.getD i false=true)→
  ((List.range ops.size).filter fun i=> !listed.getD i true).length≤fuel→wpAny P .any ops Q fuel listed a w:=by
 have hall: ∀(listed:Array Bool),listed.size=ops.size→Region.ready .any ops listed=[]→ ∀n i,i≤n→i<ops.size→listed.getD i true=true:=by
  intro listed hsz hr n
  induction n with
  |zero=>
   intro i hi hlt
   obtain rfl:i=0:=by omega
   cases hl:listed.getD 0 true with
   |true=>rfl
   |false=>
    exfalso
    obtain ⟨o,ho⟩: ∃o,ops[0]?=some o:=⟨ops[0],by simp [hlt]⟩
    have hm:0∈Region.ready .any ops listed:=by
     unfold Region.ready
     rw [List.mem_filter]
     refine ⟨by simpa using hlt,?_⟩
     rw [hl,ho]
     simp only [Bool.not_false,Bool.true_and,Option.map_some,Option.getD_some]
     refine Array.all_eq_true'.2 fun e he=>?_
     cases hb:Region.binds .any e with
     |false=>rfl
     |true=>have:=(uW hs ho).1 e he hb;omega
    rw [hr] at hm
    cases hm
  |succ n ih=>
   intro i hi hlt
   by_cases hle:i≤n
   ·exact ih i hle hlt
   obtain rfl:i=n+1:=by omega
   cases hl:listed.getD (n+1) true with
   |true=>rfl
   |false=>
    exfalso
    obtain ⟨o,ho⟩: ∃o,ops[n+1]?=some o:=⟨ops[n+1],by simp [hlt]⟩
    have hm:n+1∈Region.ready .any ops listed:=by
     unfold Region.ready
     rw [List.mem_filter]
     refine ⟨by simpa using hlt,?_⟩
     rw [hl,ho]
     simp only [Bool.not_false,Bool.true_and,Option.map_some,Option.getD_some]
     refine Array.all_eq_true'.2 fun e he=>?_
     cases hb:Region.binds .any e with
     |false=>rfl
     |true=>
      have h1:=(uW hs ho).1 e he hb
      have h2:=ih e.on (by omega) (by omega)
      have h3:e.on<listed.size:=by omega
      simp [h3] at h2
      simp [h3,h2]
    rw [hr] at hm
    cases hm
 intro fuel
 induction fuel with
 |zero=>
  intro listed a w hsz hun0 hB hI hF hcl hn
  exfalso
  have hnil:(List.range ops.size).filter (fun i=> !listed.getD i true)=[]:=List.eq_nil_of_length_eq_zero (by omega)
  have:=List.filter_eq_nil_iff.1 hnil L (by simp;omega)
  rw [hun0] at this
  simp at this
 |succ fuel ih=>
  intro listed a w hsz hun0 hB hI hF hcl hn
  refine ⟨fun hr=>(by have:=(hall listed hsz hr L L (Nat.le_refl _) (by omega)).symm.trans hun0
                      cases this),fun i hi=>?_⟩
  have hi':=hi
  unfold Region.ready at hi'
  rw [List.mem_filter] at hi'
  obtain ⟨hir,hib⟩:=hi'
  have hilt:i<ops.size:=by simpa using hir
  obtain ⟨o,ho⟩: ∃o,ops[i]?=some o:=⟨ops[i],by simp [hilt]⟩
  rw [ho] at hib
  simp only [Option.map_some,Option.getD_some,Bool.and_eq_true,Bool.not_eq_true'] at hib
  obtain ⟨hun,hpre⟩:=hib
  have hpre': ∀j,bf o j=true→listed.getD j false=true:=by
   intro j hj
   unfold bf at hj
   obtain ⟨e,he,hb⟩:=List.any_eq_true.1 hj
   have he:=Array.mem_toList_iff.1 he
   simp only [Bool.and_eq_true,beq_iff_eq] at hb
   have:=Array.all_eq_true'.1 hpre e he
   rw [hb.1] at this
   simpa [hb.2] using this
  have hst:=uW hs ho
  have hgd: ∀j d,(listed.setIfInBounds i true).getD j d=if j=i then true else listed.getD j d:=by
   intro j d
   have hil:i<listed.size:=by omega
   by_cases hji:j=i
   ·subst hji;simp [hil]
   ·rw [if_neg hji]
    simp only [Array.getD_eq_getD_getElem?]
    rw [Array.getElem?_setIfInBounds_ne (fun e=>hji e.symm)]
  by_cases hiL:i=L
  ·subst hiL
   obtain rfl:o=oL:=Option.some.inj (ho.symm.trans hoL)
   have hlt: ∀(n j:Nat),i-j≤n→j<i→listed.getD j true=true:=by
    intro n
    induction n with
    |zero=>intro j h1 h2;omega
    |succ n ihn=>
     intro j h1 h2
     have hu:=List.all_eq_true.1 hup j (by simpa using h2)
     simp only [Bool.and_eq_true,decide_eq_true_eq] at hu
     obtain ⟨⟨u1,u2⟩,u3⟩:=hu
     obtain ⟨ou,hou⟩: ∃ou,ops[up j]?=some ou:=⟨ops[up j]'(by omega),by simp [show up j<ops.size by omega]⟩
     rw [hou] at u3
     have u3:bf ou j=true:=u3
     have hj:listed.getD j false=true:=by
      by_cases hui:up j=i
      ·rw [hui,ho] at hou
       injection hou with hou
       subst hou
       exact hpre' j u3
      ·exact hcl (up j) ou j hou (ihn (up j) (by omega) (by omega)) u3
     have hjl:j<listed.size:=by omega
     simp [hjl] at hj
     simp [hjl,hj]
   have hallF: ∀j,j+1<ops.size→qG dep Fs j a w:=fun j hj=>hF j (by omega) (hlt i j (by omega) (by omega))
   obtain ⟨hw,f,args,hr,hg⟩:=hlast a w hB hI hallF
   unfold wpOp
   rw [ho]
   simp only [hw,if_true,Oper.wp,hr,Oper.upon]
   refine .inl (hg.mono ?_)
   rintro e w' ⟨v,rfl,hq⟩
   have hnone:Region.ready .any ops (listed.setIfInBounds i true)=[]:=by
    unfold Region.ready
    rw [List.filter_eq_nil_iff]
    intro j hj
    have hj':j<ops.size:=by simpa using hj
    have:(listed.setIfInBounds i true).getD j true=true:=by
     rw [hgd]
     by_cases hji:j=i
     ·simp [hji]
     ·rw [if_neg hji];exact hlt i j (by omega) (by omega)
    simp only [this,Bool.not_true,Bool.false_and,Bool.false_eq_true,not_false_eq_true]
   cases fuel with
   |zero=>exact ⟨hnone,hq⟩
   |succ fuel=>exact ⟨fun _=>hq,fun j hj=>by rw [hnone] at hj;cases hj⟩
  have howe:Kh P ops a0 D [] dep Inv R Fs i o:=hops i o (by omega) ho
  have hfacts: ∀j,bf o j=true→qG dep Fs j a w:=by
   intro j hj
   have h1:=hpre' j hj
   have hjl:j<listed.size:=by
    rcases Nat.lt_or_ge j listed.size with h |h
    ·exact h
    ·simp [h] at h1
   refine hF j (by omega) ?_
   simp [hjl] at h1
   simp [hjl,h1]
  -- what holds behind operation i
  have hnext: ∀a' w',(∃v,a'=a.put o.dst v)→Inv w'→qG dep Fs i a' w'→(w'=w∨(R w w'∧LU ops [] i=true))→
   wpAny P .any ops Q fuel (listed.setIfInBounds i true) a' w':=by
   rintro a' w' ⟨v,rfl⟩ hI' hFi hch
   refine ih _ _ _ (by simp [hsz]) (by rw [hgd,if_neg (fun e=>hiL e.symm)];exact hun0) (DP hB _ hst.2.1 v) hI' ?_ ?_ ?_
   ·intro j hj hlj
    rw [hgd] at hlj
    by_cases hji:j=i
    ·subst hji;exact hFi
    rw [if_neg hji] at hlj
    obtain ⟨oj,hoj⟩: ∃oj,ops[j]?=some oj:=⟨ops[j],by simp [hj]⟩
    have hnw:bf oj i=false:=by
     cases hw:bf oj i with
     |false=>rfl
     |true=>
      have h1:=hcl j oj i hoj hlj hw
      have hil:i<listed.size:=by omega
      simp [hil] at h1 hun
      rw [h1] at hun
      cases hun
    have h1:qG dep Fs j (a.put o.dst v) w:=KS _ _ (fun d hd=>hst.2.2 j oj hoj hji hnw d hd) (hF j hj hlj)
    rcases hch with rfl |⟨hR,hnl⟩
    ·exact h1
    ·exact hstab j _ _ _ hR h1
   ·intro j oj k hoj hlj hw
    rw [hgd] at hlj ⊢
    by_cases hki:k=i
    ·simp [hki]
    rw [if_neg hki]
    by_cases hji:j=i
    ·subst hji
     rw [ho] at hoj
     injection hoj with hoj
     subst hoj
     exact hpre' k hw
    ·rw [if_neg hji] at hlj
     exact hcl j oj k hoj hlj hw
   ·have hsub:(List.range ops.size).filter (fun j=> !(listed.setIfInBounds i true).getD j true)=((List.range ops.size).filter fun j=> !listed.getD j true).filter (fun j=> !(j==i)):=by
     rw [List.filter_filter]
     refine List.filter_congr fun j _=>?_
     rw [hgd]
     by_cases hji:j=i<;>simp [hji]
    rw [hsub]
    have hlt:(((List.range ops.size).filter fun j=> !listed.getD j true).filter (fun j=> !(j==i))).length<((List.range ops.size).filter fun j=> !listed.getD j true).length:=by
     rw [List.length_filter_lt_length_iff_exists]
     exact ⟨i,List.mem_filter.2 ⟨hir,by simp [hun]⟩,by simp⟩
    omega
  have hgive: ∀v w',DF ops [] dep Inv R Fs i o a w v w'→wpAny P .any ops Q fuel (listed.setIfInBounds i true) (a.put o.dst v) w':=by
   rintro v w' ⟨h1,h2,h3⟩
   refine hnext _ _ ⟨v,rfl⟩ h1 ?_ h3
   unfold qG
   cases hd:o.dst with
   |none=>rw [hd] at h2;exact h2
   |some d=>
    rw [hd] at h2
    obtain ⟨e1,e2⟩:=GW hs ho hd
    rw [e1,jP _ _ (by rw [hB.1];exact e2)]
    exact h2
  unfold wpOp
  rw [ho]
  rcases howe a w hB hI hfacts with ⟨hw,v,w',hr,hg⟩ |⟨hw,w',hr,hg⟩ |⟨hw,f,args,hr,hg⟩ |⟨hw,hg⟩
  ·simp only [hw,if_true,Oper.wp,hr,Oper.upon]
   exact .inl (hgive _ _ hg)
  ·simp only [hw,if_true,Oper.wp,hr,Oper.upon]
   exact .inl (hgive _ _ hg)
  ·simp only [hw,if_true,Oper.wp,hr,Oper.upon]
   refine .inl (hg.mono ?_)
   rintro e w' ⟨v,rfl,hg'⟩
   exact hgive _ _ hg'
  ·simp only [hw,Bool.false_eq_true,if_false]
   exact hgive _ _ hg
theorem Fd {id:Nat} {w:World} {up:Nat→Nat} {L:Nat} {oL:Oper} (hm:P.follows .mixedOrders=true) (hL:ops.size=L+1) (hoL:ops[L]?=some oL) (hup:Sv ops L up=true) (hs:nF ops a0.tmps.size D dep=true)
 (hstab: ∀j a w w',R w w'→qG dep Fs j a w→qG dep Fs j a w') (hI:Inv w.drew)
 (hops: ∀i o,i<L→ops[i]?=some o→Kh P ops a0 D [] dep Inv R Fs i o) (hlast:wF P ops Q a0 D dep Inv Fs oL):(Code.region id ops true).wp P Q a0 w:=
 wp_region_any hm (OV hL hoL hup hs hstab hops hlast ops.size _ a0 _ (by simp) (by simp [hL]) ⟨rfl,rfl,fun _ _=>rfl⟩ hI
  (fun i hi h=>by simp [hi] at h)
  (fun j oj i hj h=>by
   have:j<ops.size:=by
    rcases Nat.lt_or_ge j ops.size with h |h
    ·exact h
    ·simp [h] at hj
   simp [this] at h)
  (by have:=List.length_filter_le (fun i=> !(Array.replicate ops.size false).getD i true) (List.range ops.size);simpa using this))
theorem CS {id:Nat} {w:World} {up:Nat→Nat} {L:Nat} {oL:Oper} (hm:P.follows .mixedOrders=true) (hL:ops.size=L+1) (hoL:ops[L]?=some oL) (hup:Sv ops L up=true) (hs:nF ops a0.tmps.size D dep=true)
 (hstab: ∀j a w w',R w w'→qG dep Fs j a w→qG dep Fs j a w') (hI:Inv w.drew)
 (hops:zK P ops a0 D [] dep Inv R Fs 0 (ops.toList.take L)) (hlast:wF P ops Q a0 D dep Inv Fs oL):(Code.region id ops true).wp P Q a0 w:=
 Fd hm hL hoL hup hs hstab hI (fun i o hi ho=>by
  have:=ON hops i o (by rw [List.getElem?_take_of_lt hi];simpa using ho)
  rwa [Nat.zero_add] at this) hlast
end
theorem Ji {f:FuncId} {own:Bool} (h:bD Tryz.prog ⟨f,[.o (.int .i64)],[.o .s],own,fun x=>iz fu 30 x⟩):bD Tryz.prog ⟨f,[.o (.int .i64)],[.o .s],own,fun x=>cf x⟩:=⟨h.1,fun x res hm=>h.2 x res (Vd hm)⟩
theorem tm {w w1:World} (h:Bs w) (hb:Below w.heap.size w w1):Bs w1:=by
 obtain ⟨h1,m,h2⟩:=h
 exact ⟨fun w' h'=>h1 w' (aX h' hb),m,fun w' h'=>h2 w' (aX h' hb)⟩
theorem uP {own:Bool} (hN:bD Tryz.prog ⟨118,[.o .s],[.o (.int .i64),.o .b],own,fun x=>az x⟩) {w:World} (hbs:Bs w) {s:ByteArray} {r:Int×Bool} (hm:az s=some r) {w1:World} (h1:Below w.heap.size w w1):
 Calls Tryz.prog 118 #[.string s] w1 fun e w'=>e= .returned (.tuple #[.int .i64 r.1,.bool r.2])∧Below w1.heap.size w1 w':=by
 have h:=hN.2 s r hm (RS []) w1 w1 [] (tm hbs h1) ⟨_,_,rfl,⟨s,rfl⟩,rfl⟩ (St.nil w1)
 refine h.mono ?_
 rintro e w' ⟨us,A,rfl,⟨v1,v2,v3,A1,A2,A3,hv,rfl,q1,q2,q3⟩,S⟩
 obtain ⟨v,vr,u,ur,B1,B2,rfl,rfl,rfl,⟨k,z,rfl,rfl,rfl⟩,v,vr,u,ur,B1,B2,rfl,rfl,rfl,⟨y,rfl,rfl,rfl⟩,rfl,rfl,rfl⟩:=q1
 have hv: [PV.int .i64 r.1,PV.b r.2]=_:=hv
 simp only [List.cons_append,List.nil_append,List.cons.injEq,PV.int.injEq,PV.b.injEq] at hv
 obtain ⟨⟨rfl,rfl⟩,rfl,_⟩:=hv
 exact ⟨rfl,S.below⟩
theorem Ha (w:World): ∃w1 w2 w3 w4 w5 w6 w7 w8,(Instr.makeMap 159 none).run Tryz.prog (w.alloc (.cells #[.int .i64 0,.int .i64 0,.int .i64 0] 86))= .ok (.map (some (w.heap.size+1))) (((w.alloc (.cells #[.int .i64 0,.int .i64 0,.int .i64 0] 86))).alloc (.map #[] 0))∧(Instr.makeMap 159 none).run Tryz.prog w5= .ok (.map (some (w.heap.size+2))) (w5.alloc (.map #[] 0))∧(Instr.mapUpdate 159 (.map (some (w.heap.size+1))) (.string {data:= #[111,110]}) (.int .i64 0)).run Tryz.prog (((w.alloc (.cells #[.int .i64 0,.int .i64 0,.int .i64 0] 86))).alloc (.map #[] 0))= .ok () w1∧(Instr.mapUpdate 159 (.map (some (w.heap.size+1))) (.string {data:= #[111,102,102]}) (.int .i64 1)).run Tryz.prog w1= .ok () w2∧(Instr.mapUpdate 159 (.map (some (w.heap.size+1))) (.string {data:= #[101,97,114,116,104]}) (.int .i64 2)).run Tryz.prog w2= .ok () w3∧(Instr.mapUpdate 159 (.map (some (w.heap.size+1))) (.string {data:= #[99,108,101,97,114]}) (.int .i64 3)).run Tryz.prog w3= .ok () w4∧(Instr.mapUpdate 159 (.map (some (w.heap.size+1))) (.string {data:= #[98,114,101,97,107]}) (.int .i64 6)).run Tryz.prog w4= .ok () w5∧(Instr.mapUpdate 159 (.map (some (w.heap.size+2))) (.string {data:= #[105,115,115,117,101]}) (.int .i64 4)).run Tryz.prog (w5.alloc (.map #[] 0))= .ok () w6∧(Instr.mapUpdate 159 (.map (some (w.heap.size+2))) (.string {data:= #[114,101,116,117,114,110]}) (.int .i64 5)).run Tryz.prog w6= .ok () w7∧(Instr.mapUpdate 159 (.map (some (w.heap.size+2))) (.string {data:= #[109,101,110,100]}) (.int .i64 7)).run Tryz.prog w7= .ok () w8∧mM w8 (w.heap.size+1) HU∧mM w8 (w.heap.size+2) HV∧w8.heap.size=w.heap.size+3∧w5.heap.size=w.heap.size+2∧Below w.heap.size w w8∧Bk w8 w.heap.size 86 #[.int .i64 0,.int .i64 0,.int .i64 0]:=by
 have ht:Tryz.prog.underlying 159=some (.map 9 3):=Tryz.underlying159
 have hk:Tryz.prog.underlying 9=some .string:=Tryz.underlying9
 have b0:Below w.heap.size w (((w.alloc (.cells #[.int .i64 0,.int .i64 0,.int .i64 0] 86))).alloc (.map #[] 0)):=(Below.refl _ _).alloc (Nat.le_refl _) _ |>.alloc (by simp) _
 have B0:Bk (((w.alloc (.cells #[.int .i64 0,.int .i64 0,.int .i64 0] 86))).alloc (.map #[] 0)) w.heap.size 86 #[.int .i64 0,.int .i64 0,.int .i64 0]:=(Bk.new w _ _).alloc _
 have m0:mM (((w.alloc (.cells #[.int .i64 0,.int .i64 0,.int .i64 0] 86))).alloc (.map #[] 0)) (w.heap.size+1) []:=by have:=Id ((w.alloc (.cells #[.int .i64 0,.int .i64 0,.int .i64 0] 86)));simpa using this
 have z0:(((w.alloc (.cells #[.int .i64 0,.int .i64 0,.int .i64 0] 86))).alloc (.map #[] 0)).heap.size=w.heap.size+2:=by simp
 obtain ⟨w1,r1,m1,z1,g1⟩:=oD m0 ht hk (k:= {data:= #[111,110]}) 0 rfl
 have b1:=jM b0 g1 (by omega)
 have B1:=B0.grown' g1 (by omega)
 obtain ⟨w2,r2,m2,z2,g2⟩:=oD m1 ht hk (k:= {data:= #[111,102,102]}) 1 rfl
 have b2:=jM b1 g2 (by omega)
 have B2:=B1.grown' g2 (by omega)
 obtain ⟨w3,r3,m3,z3,g3⟩:=oD m2 ht hk (k:= {data:= #[101,97,114,116,104]}) 2 rfl
 have b3:=jM b2 g3 (by omega)
 have B3:=B2.grown' g3 (by omega)
 obtain ⟨w4,r4,m4,z4,g4⟩:=oD m3 ht hk (k:= {data:= #[99,108,101,97,114]}) 3 rfl
 have b4:=jM b3 g4 (by omega)
 have B4:=B3.grown' g4 (by omega)
 obtain ⟨w5,r5,m5,z5,g5⟩:=oD m4 ht hk (k:= {data:= #[98,114,101,97,107]}) 6 rfl
 have b5:=jM b4 g5 (by omega)
 have B5:=B4.grown' g5 (by omega)
 have z5':w5.heap.size=w.heap.size+2:=by omega
 have n0:mM (w5.alloc (.map #[] 0)) w5.heap.size []:=Id w5
 have m5':=uN m5 (.map #[] 0)
 have b5':Below w.heap.size w (w5.alloc (.map #[] 0)):=b5.alloc (by omega) _
 have B5':=B5.alloc (.map #[] 0)
 obtain ⟨w6,r6,n1,z6,g6⟩:=oD n0 ht hk (k:= {data:= #[105,115,115,117,101]}) 4 rfl
 have m6:=xF m5' g6 (by omega)
 have b6:=jM b5' g6 (by omega)
 have B6:=B5'.grown' g6 (by omega)
 obtain ⟨w7,r7,n2,z7,g7⟩:=oD n1 ht hk (k:= {data:= #[114,101,116,117,114,110]}) 5 rfl
 have m7:=xF m6 g7 (by omega)
 have b7:=jM b6 g7 (by omega)
 have B7:=B6.grown' g7 (by omega)
 obtain ⟨w8,r8,n3,z8,g8⟩:=oD n2 ht hk (k:= {data:= #[109,101,110,100]}) 7 rfl
 have m8:=xF m7 g8 (by omega)
 have b8:=jM b7 g8 (by omega)
 have B8:=B7.grown' g8 (by omega)
 have z6':(w5.alloc (.map #[] 0)).heap.size=w.heap.size+3:=by simp;omega
 have q0:(Instr.makeMap 159 none).run Tryz.prog (w.alloc (.cells #[.int .i64 0,.int .i64 0,.int .i64 0] 86))= .ok (.map (some (w.heap.size+1))) (((w.alloc (.cells #[.int .i64 0,.int .i64 0,.int .i64 0] 86))).alloc (.map #[] 0)):=by have:=run_makeMap (P:=Tryz.prog) 159 ((w.alloc (.cells #[.int .i64 0,.int .i64 0,.int .i64 0] 86)));simpa using this
 have q5:(Instr.makeMap 159 none).run Tryz.prog w5= .ok (.map (some w5.heap.size)) (w5.alloc (.map #[] 0)):=rfl
 rw [z5'] at q5 r6 r7 r8 n3
 exact ⟨w1,w2,w3,w4,w5,w6,w7,w8,q0,q5,r1,r2,r3,r4,r5,r6,r7,r8,m8,n3,by omega,z5',b8,B8⟩
theorem Iu {w:World} {A:Option Addr} {c:Nat} {ws:List ByteArray} (R:Rc w 1 A ws.length c (ws.flatMap (EK.s).enc)) (h:0<ws.length): ∃b off,A=some ⟨b,off,none⟩∧b<w.heap.size∧ ∀j s,ws[j]?=some s→w.cell? ⟨b,off+j,none⟩=some (.string s):=by
 have hf:ws.flatMap (EK.s).enc=ws.map Value.string:=by rw [List.map_eq_flatMap];rfl
 obtain ⟨b,off,hA,hcell⟩:=R.rd.2 (by omega)
 rw [hf] at hcell
 have hc: ∀j s,ws[j]?=some s→w.cell? ⟨b,off+j,none⟩=some (.string s):=fun j z hz=>hcell j _ (by rw [List.getElem?_map,hz];rfl)
 refine ⟨b,off,hA,?_,hc⟩
 have:=hc 0 ws[0] (by simp)
 rcases Nat.lt_or_ge b w.heap.size with h |h
 ·exact h
 ·simp [World.cell?,Array.getElem?_eq_none h] at this
def zL (w:World) (r:Int×Int×Int×Bool) (e:Ending) (w':World):Prop:=e= .returned (.tuple #[.agg #[.int .i64 r.1,.int .i64 r.2.1,.int .i64 r.2.2.1],.bool r.2.2.2])∧Below w.heap.size w w'
set_option maxRecDepth 20000 in
theorem JD {w:World} {A:Option Addr} {c n:Nat} (h2: ¬n=2) (h3: ¬n=3):Calls Tryz.prog 52 #[.slice A n c] w (zL w (0,0,0,false)):=by
 obtain ⟨w1,w2,w3,w4,w5,w6,w7,w8,q1,q2,r1,r2,r3,r4,r5,r6,r7,r8,m1,m2,z8,z5,b8,B8⟩:=Ha w
 have e2:((n:Int)==2)=false:=by rw [beq_eq_false_iff_ne];omega
 have e3:((n:Int)==3)=false:=by rw [beq_eq_false_iff_ne];omega
 have f8:=B8.c3
 go_enter Tryz.func52,Tryz.ntmps52
 go_wp2
 exact bodyPost_ret (v:=.tuple #[.agg #[.int .i64 0,.int .i64 0,.int .i64 0],.bool false]) (by simp [results,Tryz.results52,go_sem, *]) rfl ⟨rfl,(by repeat' (first |exact Below.refl _ _ |assumption |refine Below.drew ?_ |refine cell_drew ?_ |refine Below.setCell ?_ (by (try simp);(try omega)) _ |refine Below.alloc ?_ (by (try simp);(try omega)) _ |refine pO (by assumption) (by (try simp);(try omega)) ?_))⟩
set_option maxRecDepth 20000 in
theorem Mn {own:Bool} (hN:bD Tryz.prog ⟨118,[.o .s],[.o (.int .i64),.o .b],own,fun x=>az x⟩) {w:World} (hbs:Bs w) {x y:ByteArray} {A:Option Addr} {c:Nat} (R:Rc w 1 A [x,y].length c ([x,y].flatMap (EK.s).enc)) {p:Int×Bool} (hp:az y=some p):
 Calls Tryz.prog 52 #[.slice A 2 c] w (zL w ((rq HU x).1,p.1,0,(rq HU x).2&&p.2)):=by
 obtain ⟨b,off,rfl,hb,hc⟩:=Iu R (by simp)
 have c0:w.cell? ⟨b,off,none⟩=some (.string x):=hc 0 x rfl
 have c1:w.cell? ⟨b,off+1,none⟩=some (.string y):=hc 1 y rfl
 clear hc R
 obtain ⟨w1,w2,w3,w4,w5,w6,w7,w8,q1,q2,r1,r2,r3,r4,r5,r6,r7,r8,m1,m2,z8,z5,b8,B8⟩:=Ha w
 have hc0: ∀o,(w8.alloc o).cell? ⟨b,off,none⟩=some (.string x):=fun o=>((b8.alloc (by omega) o).cell (p:=⟨b,off,none⟩) hb).trans c0
 have hc1: ∀o,(w8.alloc o).cell? ⟨b,off+1,none⟩=some (.string y):=fun o=>((b8.alloc (by omega) o).cell (p:=⟨b,off+1,none⟩) hb).trans c1
 have hl: ∀o,(Instr.lookup 159 (.map (some (w.heap.size+1))) (.string x) true).run Tryz.prog (w8.alloc o)= .ok (.tuple #[.int .i64 (rq HU x).1,.bool (rq HU x).2]) (w8.alloc o):=fun o=>EF (uN m1 o) Tryz.underlying159 Tryz.underlying9 (by simp [go_sem]) x
 have BD: ∀cs,Bk (w8.alloc (.cells cs 86)) (w.heap.size+3) 86 cs:=fun cs=>by have:=Bk.new w8 86 cs;rwa [z8] at this
 have B0: ∀cs,Bk (w8.alloc (.cells cs 86)) w.heap.size 86 #[.int .i64 0,.int .i64 0,.int .i64 0]:=fun cs=>B8.alloc _
 have bA: ∀o,Below w.heap.size w (w8.alloc o):=fun o=>b8.alloc (by omega) o
 have f8:=B8.c3
 generalize rq HU x=l at*
 obtain ⟨l1,l2⟩:=l
 obtain ⟨p1,p2⟩:=p
 go_enter Tryz.func52,Tryz.ntmps52
 go_wp2_with fail
 refine (uP hN hbs hp (bA _)).mono ?_
 rintro e w9 ⟨rfl,hb9⟩
 have b9:=aX hb9 (bA _)
 have f0:=((B0 _).after hb9).c3
 have f1:=((BD _).after hb9).c3
 clear hb9 bA B0 BD f8 B8 b8 hl hc0 hc1 m1 m2 r1 r2 r3 r4 r5 r6 r7 r8 q1 q2
 cases l2
 all_goals
  go_wp2
  exact bodyPost_ret (v:=.tuple #[.agg #[.int .i64 l1,.int .i64 p1,.int .i64 0],.bool _]) (by simp [results,Tryz.results52,go_sem, *]) rfl ⟨rfl,(by repeat' (first |exact Below.refl _ _ |assumption |refine Below.drew ?_ |refine cell_drew ?_ |refine Below.setCell ?_ (by (try simp);(try omega)) _ |refine Below.alloc ?_ (by (try simp);(try omega)) _ |refine pO (by assumption) (by (try simp);(try omega)) ?_))⟩
set_option maxRecDepth 20000 in
set_option maxHeartbeats 2000000 in
theorem GF {own:Bool} (hN:bD Tryz.prog ⟨118,[.o .s],[.o (.int .i64),.o .b],own,fun x=>az x⟩) {w:World} (hbs:Bs w) {x y z:ByteArray} {A:Option Addr} {c:Nat} (R:Rc w 1 A [x,y,z].length c ([x,y,z].flatMap (EK.s).enc)) {p q:Int×Bool} (hp:az y=some p) (hq:az z=some q):
 Calls Tryz.prog 52 #[.slice A 3 c] w (zL w ((rq HV x).1,p.1,q.1,(rq HV x).2&&p.2&&q.2)):=by
 obtain ⟨b,off,rfl,hb,hc⟩:=Iu R (by simp)
 have c0:w.cell? ⟨b,off,none⟩=some (.string x):=hc 0 x rfl
 have c1:w.cell? ⟨b,off+1,none⟩=some (.string y):=hc 1 y rfl
 have c2:w.cell? ⟨b,off+2,none⟩=some (.string z):=hc 2 z rfl
 clear hc R
 obtain ⟨w1,w2,w3,w4,w5,w6,w7,w8,q1,q2,r1,r2,r3,r4,r5,r6,r7,r8,m1,m2,z8,z5,b8,B8⟩:=Ha w
 have hc0: ∀o,(w8.alloc o).cell? ⟨b,off,none⟩=some (.string x):=fun o=>((b8.alloc (by omega) o).cell (p:=⟨b,off,none⟩) hb).trans c0
 have hc1: ∀o,(w8.alloc o).cell? ⟨b,off+1,none⟩=some (.string y):=fun o=>((b8.alloc (by omega) o).cell (p:=⟨b,off+1,none⟩) hb).trans c1
 have hl: ∀o,(Instr.lookup 159 (.map (some (w.heap.size+2))) (.string x) true).run Tryz.prog (w8.alloc o)= .ok (.tuple #[.int .i64 (rq HV x).1,.bool (rq HV x).2]) (w8.alloc o):=fun o=>EF (uN m2 o) Tryz.underlying159 Tryz.underlying9 (by simp [go_sem]) x
 have BD: ∀cs,Bk (w8.alloc (.cells cs 86)) (w.heap.size+3) 86 cs:=fun cs=>by have:=Bk.new w8 86 cs;rwa [z8] at this
 have B0: ∀cs,Bk (w8.alloc (.cells cs 86)) w.heap.size 86 #[.int .i64 0,.int .i64 0,.int .i64 0]:=fun cs=>B8.alloc _
 have bA: ∀o,Below w.heap.size w (w8.alloc o):=fun o=>b8.alloc (by omega) o
 have f8:=B8.c3
 generalize rq HV x=l at*
 obtain ⟨l1,l2⟩:=l
 obtain ⟨p1,p2⟩:=p
 obtain ⟨p3,p4⟩:=q
 go_enter Tryz.func52,Tryz.ntmps52
 go_wp2_with fail
 refine (uP hN hbs hp (bA _)).mono ?_
 rintro e w9 ⟨rfl,hb9⟩
 have z9:=hb9.size
 simp at z9
 have b9:=aX hb9 (bA _)
 have f0:=((B0 _).after hb9).c3
 have f1:=((BD _).after hb9).c3
 have e2:=(b9.cell (p:=⟨b,off+2,none⟩) hb).trans c2
 have D:=(BD _).after hb9
 have D0:=(B0 _).after hb9
 clear hb9 bA B0 BD f8 B8 b8 hl hc0 hc1 m1 m2 r1 r2 r3 r4 r5 r6 r7 r8 q1 q2
 go_wp2_with fail
 have Dn:Bk (w9.setCell ⟨w.heap.size+3,1,none⟩ (.int .i64 p1)) (w.heap.size+3) 86 #[.int .i64 l1,.int .i64 p1,.int .i64 0]:=D.set_ 1 _
 have Dm:Bk (w9.setCell ⟨w.heap.size+3,1,none⟩ (.int .i64 p1)) w.heap.size 86 #[.int .i64 0,.int .i64 0,.int .i64 0]:=D0.far (by simp) _
 have bn:Below w.heap.size w (w9.setCell ⟨w.heap.size+3,1,none⟩ (.int .i64 p1)):=b9.setCell (by simp) _
 refine (uP hN hbs hq bn).mono ?_
 rintro e w10 ⟨rfl,hb10⟩
 have b10:=aX hb10 bn
 have g0:=(Dm.after hb10).c3
 have g1:=(Dn.after hb10).c3
 clear hb10 Dn Dm D D0 f0 f1 b9 bn
 cases l2<;>cases p2
 all_goals
  go_wp2
  exact bodyPost_ret (v:=.tuple #[.agg #[.int .i64 l1,.int .i64 p1,.int .i64 p3],.bool _]) (by simp [results,Tryz.results52,go_sem, *]) rfl ⟨rfl,(by repeat' (first |exact Below.refl _ _ |assumption |refine Below.drew ?_ |refine cell_drew ?_ |refine Below.setCell ?_ (by (try simp);(try omega)) _ |refine Below.alloc ?_ (by (try simp);(try omega)) _ |refine pO (by assumption) (by (try simp);(try omega)) ?_))⟩
theorem Ep {own:Bool} (co:CallOk Tryz.prog 52) (hN:bD Tryz.prog ⟨118,[.o .s],[.o (.int .i64),.o .b],own,fun x=>az x⟩):bD Tryz.prog ⟨52,[.o (.sl .ro 9 .s)],[.g [.int .i64,.int .i64,.int .i64],.o .b],false,fun x=>da x⟩:=⟨co,fun x res hm e w0 w X hbs hp hS=>by
 have hm:da x=some res:=hm
 obtain ⟨v,vr,hv,⟨l,hl,hro⟩,_⟩:=hp
 have hl:=(List.head_eq_of_cons_eq hv).trans hl
 injection hl with _ hl
 subst hl
 have R:=hro w _ hS (fun y hy=>List.mem_append_right _ hy)
 have hbs1:=tm hbs hS.below
 have key:Calls Tryz.prog 52 #[.slice (e.a 0) x.length (e.c 0)] w (zL w res):=by
  unfold da at hm
  by_cases h2:x.length=2
  ·obtain ⟨a,b,rfl⟩: ∃a b,x=[a,b]:=by
    match x,h2 with
    | [a,b],_=>exact ⟨a,b,rfl⟩
   rw [decide_eq_true h2] at hm
   obtain ⟨p,hp,hm⟩:=pQ hm
   injection hm with hm
   subst hm
   exact Mn hN hbs1 R hp
  by_cases h3:x.length=3
  ·obtain ⟨a,b,c,rfl⟩: ∃a b c,x=[a,b,c]:=by
    match x,h3 with
    | [a,b,c],_=>exact ⟨a,b,c,rfl⟩
   rw [decide_eq_false h2,decide_eq_true h3] at hm
   obtain ⟨p,hp,hm⟩:=pQ hm
   obtain ⟨q,hq,hm⟩:=pQ hm
   injection hm with hm
   subst hm
   exact GF hN hbs1 R hp hq
  rw [decide_eq_false h2,decide_eq_false h3] at hm
  injection hm with hm
  subst hm
  exact JD h2 h3
 refine Calls.mono key ?_
 rintro en w' ⟨rfl,hb⟩
 exact ⟨[_,_],[],rfl,⟨[_,_,_,_],[],[],[],[],[],rfl,rfl,⟨[_,_,_],[_],[_,_,_],[_],[],[],rfl,rfl,rfl,⟨_,_,_,_,[],[],rfl,rfl,rfl,⟨_,_,rfl,rfl,rfl⟩,_,_,_,_,[],[],rfl,rfl,rfl,⟨_,_,rfl,rfl,rfl⟩,_,_,_,_,[],[],rfl,rfl,rfl,⟨_,_,rfl,rfl,rfl⟩,rfl,rfl,rfl⟩,⟨_,[],_,[],[],[],rfl,rfl,rfl,⟨_,rfl,rfl,rfl⟩,rfl,rfl,rfl⟩⟩,⟨rfl,rfl⟩,⟨[],[],[],[],rfl,rfl,⟨rfl,rfl⟩,⟨rfl,rfl⟩⟩⟩,hS.quiet hb⟩⟩
end Go.Proofs.YtjdlgannencchaaGreatDoor
