/- Texts of the claim, one behind the other: Er, Es, Et, Eu, Ev, Opn, Ew, LnA, LnM, Shf, LnH, InsA, InsB, InsC, InsD, DaM, Pu, LnN. -/
import Derived.Lib.Split
import Derived.Lib.SplitLaws
import Derived.Lib.Join
import Derived.Lib.ItoaMem
import Derived.Shelf.Strings.BuilderK
import Derived.Shelf.Strings.OnBuilder
import Derived.Shelf.Strconv.Itoa3
import Derived.Shelf.Strings.Split
import Derived.Test.YtjdlgannencchaaGreatDoorProg
import Derived.Shelf.Spec.SlicesInsertGrow
import Derived.Shelf.Spec.SlicesInsert
import Derived.Test.YtjdlgannencchaaGreatDoorRExactWorldLines2
namespace Go.Proofs.YtjdlgannencchaaGreatDoor
open Go.ChangeShapes Go.WideShapes Go.ChangeAt Go.RowKit
set_option linter.unusedVariables false
set_option linter.unusedSimpArgs false
theorem Wy {k:RK} {v:PV} {a:k.ty} (h:k.get v=some a):k.put a=v:=by
 cases k with
 |int k=>
  cases v<;>simp only [RK.get,reduceCtorEq] at h
  rename_i k' x
  cases hb:(k==k') with
  |false=>rw [hb] at h;cases h
  |true=>
   rw [hb] at h;injection h with h;subst h
   have:k=k':=by simpa using hb
   subst this;rfl
 |b=>cases v<;>simp only [RK.get,reduceCtorEq] at h;injection h with h;subst h;rfl
 |s=>cases v<;>simp only [RK.get,reduceCtorEq] at h;injection h with h;subst h;rfl
 |al j=>cases v<;>simp only [RK.get,reduceCtorEq] at h;injection h with h;subst h;rfl
 |row E e=>
  cases v with
  |sl e' l=>obtain ⟨q,hq⟩:=js h;subst q;dsimp only at hq;subst hq;rfl
  |_=>cases h
 |part e=>
  cases v with
  |sl e' l=>obtain ⟨q,hq⟩:=js h;subst q;dsimp only at hq;subst hq;rfl
  |_=>cases h
section
variable {r:Rn} {s0 s s':Sy} {e0 e ec e':Env} {a:Act} {w:World} {X:List Asn}
theorem Xs (hW:Wf r s) {E:Nat} {k:EK} (l:List k.ty) (e:Env) (ad:Option Addr) (c:Nat):
 let s':Sy:= {s with n:=s.n+3,vs:=(s.n+2,.zl (s.n+1) l.length s.n)::s.vs,ct:=(s.n,⟨k,l,s.n,none⟩)::s.ct}
 Gr2 r s s'∧bP (e.up (s.n+1) 0 ad c) s' (.a (.t (s.n+2))) (.slice (Xw (!(Nat.beq l.length 0)) ad) l.length (PS (!(Nat.beq l.length 0)) c))∧io (e.up (s.n+1) 0 ad c) s'.vs s'.ct [(s.n+1,.row E s.n)]=some [.row E k.sz (.slice ad l.length c) l.length (l.flatMap k.enc)]∧vH s.n s' [(s.n+1,.row E s.n)]:=by
 intro s'
 have Ex:Ext s s':=yV hW (fun t h=>pP (by omega)) (fun t h=>pP (by omega)) (by simp [s'])
 refine ⟨⟨Ex,hW.grow Ex (fun t x h=>?_) (fun t c h=>?_) (fun p hp=>.inl hp) rfl (fun t b h=>.inl h),rfl,rfl,rfl,rfl⟩,⟨by simp [SV1.den,Ax.lf,s',aV,Lf.den,Env.up],.zl (s.n+1) l.length s.n,aV,⟨_,aV,rfl⟩,fun g hg=>?_⟩,aB.2 ⟨_,[],?_,rfl,rfl⟩,fun p hp=>?_⟩
 ·rcases aT h with ⟨rfl,rfl⟩ |h
  ·exact .inr ⟨by simp [s'],nofun⟩
  ·exact .inl h
 ·rcases aT h with ⟨rfl,rfl⟩ |h
  ·exact .inr ⟨by simp [s'],⟨_,aV,rfl,rfl⟩,nofun⟩
  ·exact .inl h
 ·simp [Lf.gs] at hg;subst hg;simp [s']
 ·simp [Th.den,s',aV,Env.up,Ct.cells]
 ·simp only [List.mem_singleton] at hp;subst hp
  exact ⟨Nat.le_succ _,by simp [s'],trivial,nofun⟩
theorem Sf (hW0:Wf r s0) (G:Gr2 r s0 s) (ha:dL s0.n e ec) {p:P0} {x0:Option Ax} {u:Value} {v rest:List PV} {A:List Asn} {f:In} (hp:YO s0 e p x0 u v A) (h:Tu s0 s p x0 (v++rest)=some f):
 f.vs=rest∧ ∃ec' x,dL s.n ec ec'∧Gr2 r s f.s∧f.xs=[x]∧bP ec' f.s (.a x) u∧io ec' f.s.vs f.s.ct f.ts=some A∧vF s0 f.s f.ts:=by
 cases p with
 |k=>
  obtain ⟨⟨x,rfl,hd⟩,rfl,rfl⟩:=hp
  simp only [Tu,Option.map_some,Option.some.injEq] at h
  subst h
  exact ⟨rfl,ec,x,dL.refl _ _,.refl G.wf,rfl,(hd.agr ha).mono G.ext,rfl,vF.nil⟩
 |i ik=>
  obtain ⟨k,z,rfl,rfl,rfl⟩:=hp
  injection h with h;subst h
  obtain ⟨G1,D⟩:=xC (e:=ec) G.wf (x:=.int k z) rfl ⟨trivial,by simp [Lf.gs]⟩ rfl
  exact ⟨rfl,ec,_,dL.refl _ _,G1,rfl,D,rfl,vF.nil⟩
 |b=>
  obtain ⟨z,rfl,rfl,rfl⟩:=hp
  injection h with h;subst h
  obtain ⟨G1,D⟩:=xC (e:=ec) G.wf (x:=.bool z) rfl ⟨trivial,by simp [Lf.gs]⟩ rfl
  exact ⟨rfl,ec,_,dL.refl _ _,G1,rfl,D,rfl,vF.nil⟩
 |s=>
  obtain ⟨z,rfl,rfl,rfl⟩:=hp
  injection h with h;subst h
  obtain ⟨G1,D⟩:=xC (e:=ec) G.wf (x:=.str z) rfl ⟨trivial,by simp [Lf.gs]⟩ rfl
  exact ⟨rfl,ec,_,dL.refl _ _,G1,rfl,D,rfl,vF.nil⟩
 |r E k=>
  obtain ⟨v1,rfl,l,ad,c,rfl,rfl,rfl⟩:=hp
  injection h with h;subst h
  obtain ⟨d1,d2,d3⟩:=JQ G.wf (E:=E) l false ec ad c
  exact ⟨rfl,_,_,sK (Nat.le_succ _),MX G.wf E k l l.length,rfl,d1,d2,d3.w⟩
 |w E k=>
  obtain ⟨l,x,g,n,rt,d,rfl,hx,hg,rfl,rfl,rfl,h1,h2,h3,h4⟩:=hp
  simp only [Tu,aeh,List.cons_append,List.nil_append,hx,Option.some.injEq] at h
  subst h
  have G1:=US (c:=⟨k,l,rt,none⟩) G.wf ⟨d,G.ext.c _ _ h1,h3,h4⟩ rfl
  have hh:=ha g hg
  refine ⟨rfl,ec,x,dL.refl _ _,G1,rfl,⟨?_,_,(G.ext.trans G1.ext).lf hx,⟨d,(G.ext.trans G1.ext).c _ _ h1,h2⟩,fun q hq=>?_⟩,aB.2 ⟨_,[],?_,rfl,rfl⟩,fun p hp=>?_⟩
  ·simp only [SV1.den,(G.ext.trans G1.ext).lf hx,Option.map_some,Lf.den,hh.2.1,hh.2.2.1,h2,h3]
  ·simp [Lf.gs] at hq;subst hq;exact Nat.lt_of_lt_of_le hg (G.ext.trans G1.ext).n
  ·have:lk ((s.n,(⟨k,l,rt,none⟩:Ct))::s.ct) s.n=some ⟨k,l,rt,none⟩:=aV
   simp only [Th.den,this,Option.map_some,Ct.cells,hh.2.1,hh.2.2.1]
  ·simp only [List.mem_singleton] at hp;subst hp
   exact .inr ⟨Nat.lt_of_lt_of_le hg (G.ext.trans G1.ext).n,trivial,nofun⟩
 |a j=>exact hp.elim
theorem Jz (hW0:Wf r s0): ∀ {ps:List P0} {old:List Ax} {us:List Value} {v rest:List PV} {A:List Asn} {s:Sy} {ec:Env} {f:In},Gr2 r s0 s→dL s0.n e ec→QP s0 e ps old us v A→OH s0 s ps old (v++rest)=some f→
 f.vs=rest∧ ∃ec',dL s.n ec ec'∧Gr2 r s f.s∧bP ec' f.s (.g f.xs) (.agg us.toArray)∧io ec' f.s.vs f.s.ct f.ts=some A∧vF s0 f.s f.ts
 | [],old,us,v,rest,A,s,ec,f,G,ha,hp,h=>by
  obtain ⟨rfl,rfl,rfl⟩:=hp
  injection h with h;subst h
  exact ⟨rfl,ec,dL.refl _ _,.refl G.wf,Do,rfl,vF.nil⟩
 |p::ps,old,us,v,rest,A,s,ec,f,G,ha,hp,h=>by
  obtain ⟨u,ur,v1,v2,A1,A2,rfl,rfl,rfl,h1,h2⟩:=hp
  simp only [OH,List.append_assoc] at h
  split at h
  ·rename_i s1 x m vs1 hA
   split at h
   ·rename_i s2 xs ms vs2 hB
    injection h with h;subst h
    obtain ⟨a1,ec1,y,a2,a3,a4,a5,a6,a7⟩:=Sf hW0 G ha h1 hA
    dsimp only at a1 a3 a4 a5 a6 a7
    subst a1;subst a4
    obtain ⟨b1,ec2,b2,b3,b4,b5,b6⟩:=Jz hW0 (G.trans a3) (ha.trans (a2.le G.ext.n)) h2 hB
    dsimp only at b1 b3 b4 b5 b6
    subst b1
    exact ⟨rfl,ec2,a2.trans (b2.le a3.ext.n),a3.trans b3,sQ ((a5.agr b2).mono b3.ext) b4,cu.2 ⟨A1,A2,FO hW0 (G.ext.trans a3.ext) a6 a7 b2 b3.ext,b5,rfl⟩,(a7.mono b3.ext).app b6⟩
   ·cases h
  ·cases h
theorem Yo (hW0:Wf r s0) (G:Gr2 r s0 s) (ha:dL s0.n e ec) {acc:List (Nat×SV)} (hacc: ∀k v,lk acc k=some v→lJ ec s v (sl a k)) {d:Nat} {p:P1} {v rest:List PV} {A:List Asn} {q:Sy×SV×List (Nat×Th)×List PV} (hp:pcV s0 e a d p v A) (h:VI s0 s acc d (v++rest) p=some q):
 q.2.2.2=rest∧ ∃ec',dL s.n ec ec'∧Gr2 r s q.1∧lJ ec' q.1 q.2.1 (sl a d)∧io ec' q.1.vs q.1.ct q.2.2.1=some A∧vF s0 q.1 q.2.2.1:=by
 have plain: ∀ {p0:P0},YO s0 e p0 (QN s0 d) (sl a d) v A→(match Tu s0 s p0 (match lk s0.sl d with |some (.v (.a x))=>some x |_=>none) (v++rest) with
  |some ⟨s1,[x],m,vs1⟩=>some (s1,SV.v (.a x),m,vs1)
  |_=>none)=some q→q.2.2.2=rest∧ ∃ec',dL s.n ec ec'∧Gr2 r s q.1∧lJ ec' q.1 q.2.1 (sl a d)∧io ec' q.1.vs q.1.ct q.2.2.1=some A∧vF s0 q.1 q.2.2.1:=by
  intro p0 hp h
  split at h
  ·rename_i s1 x m vs1 hA
   injection h with h;subst h
   obtain ⟨a1,ec1,y,a2,a3,a4,a5,a6,a7⟩:=Sf hW0 G ha hp hA
   dsimp only at a1 a3 a4 a5 a6 a7
   injection a4 with a4 _;subst a4
   exact ⟨a1,ec1,a2,a3,a5,a6,a7⟩
  ·cases h
 cases p with
 |g ps=>
  obtain ⟨us,hu,hp⟩:=hp
  simp only [VI] at h
  split at h
  ·rename_i s1 xs m vs1 hA
   injection h with h;subst h
   obtain ⟨a1,ec1,a2,a3,a4,a5,a6⟩:=Jz hW0 G ha hp hA
   dsimp only at a1 a3 a4 a5 a6
   exact ⟨a1,ec1,a2,a3,by rw [hu];exact a4,a5,a6⟩
  ·cases h
 |z E k=>
  obtain ⟨l,ad,c,rfl,hu,rfl⟩:=hp
  injection h with h;subst h
  obtain ⟨G1,d1,d2,d3⟩:=Xs G.wf (E:=E) l ec ad c
  exact ⟨rfl,_,sK (Nat.le_succ _),G1,by rw [hu];exact d1,d2,d3.w⟩
 |o p=>
  cases p with
  |k=>
   obtain ⟨rfl,rfl,v0,hv0,hd⟩:=hp
   simp only [VI,hv0,Option.map_some,Option.some.injEq] at h
   subst h
   exact ⟨rfl,ec,dL.refl _ _,.refl G.wf,(hd.agr ha).mono G.ext,rfl,vF.nil⟩
  |a j=>
   obtain ⟨rfl,rfl,he⟩:=hp
   simp only [VI,Option.map_eq_some_iff] at h
   obtain ⟨v0,hv0,h⟩:=h
   subst h
   exact ⟨rfl,ec,dL.refl _ _,.refl G.wf,by rw [he];exact hacc j v0 hv0,rfl,vF.nil⟩
  |i k=>exact plain (p0:=.i k) hp h
  |b=>exact plain (p0:=.b) hp h
  |s=>exact plain (p0:=.s) hp h
  |r E k=>exact plain (p0:=.r E k) hp h
  |w E k=>exact plain (p0:=.w E k) hp h
theorem OJ (hW0:Wf r s0): ∀ {l:List (Nat×P1)} {acc:List (Nat×SV)} {ts:List (Nat×Th)} {v rest:List PV} {A A0:List Asn} {s:Sy} {ec:Env} {f:InS},Gr2 r s0 s→dL s0.n e ec→(∀k v,lk acc k=some v→lJ ec s v (sl a k))→io ec s.vs s.ct ts=some A0→vF s0 s ts→abi s0 e a l v A→Si s0 s acc ts l (v++rest)=some f→
 f.vs=rest∧ ∃ec',dL s.n ec ec'∧Gr2 r s f.s∧(∀k v,lk f.sl k=some v→lJ ec' f.s v (sl a k))∧io ec' f.s.vs f.s.ct f.ts=some (A0++A)∧vF s0 f.s f.ts
 | [],acc,ts,v,rest,A,A0,s,ec,f,G,ha,hacc,ht,hnt,hp,h=>by
  obtain ⟨rfl,rfl⟩:=hp
  injection h with h;subst h
  exact ⟨rfl,ec,dL.refl _ _,.refl G.wf,hacc,by rw [List.append_nil];exact ht,hnt⟩
 |(d,p)::l,acc,ts,v,rest,A,A0,s,ec,f,G,ha,hacc,ht,hnt,hp,h=>by
  obtain ⟨v1,v2,A1,A2,rfl,rfl,h1,h2⟩:=hp
  simp only [Si,List.append_assoc] at h
  split at h
  ·rename_i s1 x m vs1 hV
   obtain ⟨a1,ec1,a2,a3,a4,a5,a6⟩:=Yo hW0 G ha hacc h1 hV
   dsimp only at a1 a3 a4 a5 a6
   subst a1
   obtain ⟨b1,ec2,b2,b3,b4,b5,b6⟩:=OJ hW0 (A0:=A0++A1) (G.trans a3) (ha.trans (a2.le G.ext.n)) (fun k v hk=>by
    rcases aT hk with ⟨rfl,rfl⟩ |hk
    ·exact a4
    ·exact ((hacc k v hk).agr a2).mono a3.ext) (cu.2 ⟨A0,A1,FO hW0 G.ext ht hnt a2 a3.ext,a5,rfl⟩) ((hnt.mono a3.ext).app a6) h2 h
   exact ⟨b1,ec2,a2.trans (b2.le a3.ext.n),a3.trans b3,b4,by rw [←List.append_assoc];exact b5,b6⟩
  ·cases h
theorem OI (hW0:Wf r s0): ∀ {l:List (Nat×List P0)} {v rest:List PV} {A B:List Asn} {s:Sy} {ec:Env} {q:Sy×List (Nat×Th)×List (Nat×Th)×List PV},Gr2 r s0 s→dL s0.n e ec→abh s0 e l v A B→Sh s0 s l (v++rest)=some q→
 q.2.2.2=rest∧ ∃ec',dL s.n ec ec'∧Gr2 r s q.1∧io ec' q.1.vs q.1.ct q.2.1=some B∧io ec' q.1.vs q.1.ct q.2.2.1=some A∧vF s0 q.1 q.2.1∧vF s0 q.1 q.2.2.1
 | [],v,rest,A,B,s,ec,q,G,ha,hp,h=>by
  obtain ⟨rfl,rfl,rfl⟩:=hp
  injection h with h;subst h
  exact ⟨rfl,ec,dL.refl _ _,.refl G.wf,rfl,rfl,vF.nil,vF.nil⟩
 |(d,ps)::l,v,rest,A,B,s,ec,q,G,ha,hp,h=>by
  obtain ⟨g,T,xs,us,v1,v2,A1,A2,Br,hg,hx,rfl,rfl,rfl,h1,h2⟩:=hp
  simp only [Sh,hg,hx,List.append_assoc] at h
  split at h
  ·rename_i s1 ys m vs1 hA
   split at h
   ·rename_i s2 bs ms vs2 hB
    injection h with h;subst h
    obtain ⟨a1,ec1,a2,a3,a4,a5,a6⟩:=Jz hW0 G ha h1 hA
    dsimp only at a1 a3 a4 a5 a6
    subst a1
    obtain ⟨b1,ec2,b2,b3,b4,b5,b6,b7⟩:=OI hW0 (G.trans a3) (ha.trans (a2.le G.ext.n)) h2 hB
    dsimp only at b1 b3 b4 b5 b6 b7
    have hgn:g<s0.n:=(hW0.th _ (iZ hx)).1
    have dx:=(a4.agr b2).mono b3.ext
    refine ⟨b1,ec2,a2.trans (b2.le a3.ext.n),a3.trans b3,aB.2 ⟨_,Br,?_,b4,rfl⟩,cu.2 ⟨A1,A2,FO hW0 (G.ext.trans a3.ext) a5 a6 b2 b3.ext,b5,rfl⟩,fun p hp=>?_,(a6.mono b3.ext).app b7⟩
    ·have hb:ec2.b g=e.b g:=by
      rw [(b2 g (Nat.lt_of_lt_of_le hgn (Nat.le_trans G.ext.n a3.ext.n))).1,(a2 g (Nat.lt_of_lt_of_le hgn G.ext.n)).1,(ha g hgn).1]
     have:=dx.1
     simp only [SV1.den,Option.map_eq_some_iff,Value.agg.injEq] at this
     obtain ⟨ls,l1,l2⟩:=this
     simp only [Th.den,l1,Option.map_some,l2,hb]
    ·rcases List.mem_cons.1 hp with rfl |hp
     ·exact .inr ⟨Nat.lt_of_lt_of_le hgn (Nat.le_trans G.ext.n (Nat.le_trans a3.ext.n b3.ext.n)),dx.2,nofun⟩
     ·exact b6 p hp
   ·cases h
  ·cases h
theorem JB (hW0:Wf r s0): ∀ {l:List (Nat×P0)} {v rest:List PV} {A:List Asn} {s:Sy} {ec:Env} {q:Sy×List (Nat×Th)},Gr2 r s0 s→dL s0.n e ec→Wm s0 e l v A→Hy s0 s l (v++rest)=some q→
 Gr2 r s q.1∧io ec q.1.vs q.1.ct q.2=some A∧vF s0 q.1 q.2
 | [],v,rest,A,s,ec,q,G,ha,hp,h=>by
  obtain ⟨rfl,rfl⟩:=hp
  injection h with h;subst h
  exact ⟨.refl G.wf,rfl,vF.nil⟩
 |(j,p)::l,v,rest,A,s,ec,q,G,ha,hp,h=>by
  cases p with
  |k=>
   have h:Hy s0 s l (v++rest)=some q:=by simpa only [Hy] using h
   exact JB hW0 (rest:=rest) G ha (show Wm s0 e l v A from hp) h
  |r E k=>
   obtain ⟨ll,vr,A2,n0,c0,d,h1,h2,rfl,rfl,h3,h4,h5,h6⟩:=hp
   simp only [Hy,List.cons_append,h1,h2] at h
   split at h
   ·rename_i s2 ms hB
    injection h with h;subst h
    have hj:j<s0.n:=(hW0.th _ (iZ h1)).1
    have G1:=US (c:=⟨k,ll,c0.rt,none⟩) G.wf ⟨d,G.ext.c _ _ h3,h4,h5⟩ rfl
    obtain ⟨b1,b2,b3⟩:=JB hW0 (rest:=rest) (G.trans G1) ha h6 hB
    dsimp only at b1 b2 b3
    have hh:=ha j hj
    refine ⟨G1.trans b1,aB.2 ⟨_,A2,?_,b2,rfl⟩,fun p hp=>?_⟩
    ·have:=b1.ext.c s.n _ aV
     simp only [Th.den,this,Option.map_some,Ct.cells,hh.2.1,hh.2.2.1]
    ·rcases List.mem_cons.1 hp with rfl |hp
     ·exact .inr ⟨Nat.lt_of_lt_of_le hj (Nat.le_trans G.ext.n (Nat.le_trans G1.ext.n b1.ext.n)),trivial,nofun⟩
     ·exact b3 p hp
   ·cases h
  |i _=>exact hp.elim
  |b=>exact hp.elim
  |s=>exact hp.elim
  |w _ _=>exact hp.elim
  |a _=>exact hp.elim
def Ry (r:Rn) (s0:Sy) (e0:Env) (h:Shp) (a:Act) (w:World) (p:h.T):Prop:= ∀s2,ins s0 h (Sl s0 h) (Gh RK.put h.ks p)=some s2→ ∃e2,Ext s0 s2∧dL s0.n e0 e2∧Inv r e2 a w s2
theorem GU: ∀ {l seen:List Nat} {x:Nat},x∈Og l seen→x∈l
 | [],seen,x,h=>by cases h
 |y::l,seen,x,h=>by
  simp only [Og] at h
  cases hb:seen.any (Nat.beq y) with
  |true=>rw [hb] at h;exact List.mem_cons_of_mem _ (GU h)
  |false=>
   rw [hb] at h
   rcases List.mem_cons.1 h with rfl |h
   ·simp
   ·exact List.mem_cons_of_mem _ (GU h)
theorem OS: ∀ {a b:List Nat},JM a b=true→a=b
 | [],[],_=>rfl
 |x::a,y::b,h=>by
  simp only [JM,Bool.and_eq_true] at h
  rw [lM h.1,OS h.2]
 | [],_::_,h=>by cases h
 |_::_,[],h=>by cases h
theorem oB: ∀(l:List Nat),(l.map some).filterMap id=l
 | []=>rfl
 |x::l=>by simp [oB l]
theorem RH {R:Type} {m:Option R} {y:R}: ∀ {l:List Bool},aak l m=some y→(∀b∈l,b=true)∧m=some y
 | [],h=>⟨nofun,h⟩
 |b::l,h=>by
  cases b with
  |false=>cases h
  |true=>
   obtain ⟨h1,h2⟩:=RH (l:=l) h
   exact ⟨fun c hc=>by rcases List.mem_cons.1 hc with rfl |hc; · rfl
                       ·exact h1 c hc,h2⟩
theorem Kr (J:Jn r s0 e0 a w s e) {hh:Shp} {R:Type} {f:hh.T→Option R} {y:R} (h:Li s0 s hh f=some y): ∃p,f p=some y∧Ry r s0 e0 hh a w p:=by
 unfold Li at h
 split at h
 ·rename_i en hen
  cases hb:(ZF en (prR hh.pr)&&JM en.kept (Sl s0 hh)) with
  |false=>rw [hb] at h;cases h
  |true=>
   rw [hb] at h
   simp only [cond_true] at h
   simp only [Bool.and_eq_true] at hb
   split at h
   ·rename_i p hp
    obtain ⟨hz,h⟩:=RH h
    refine ⟨p,h,fun s2 h2=>?_⟩
    rw [NF (put:=RK.put) (fun k v a h=>Wy h) hp] at h2
    unfold wit at hen
    split at hen
    ·rename_i v1 i1 g1 v2 i2 g2 bs v3 g3 q1 q2 q3
     injection hen with hen;subst hen
     dsimp only at hb h2 hp
     obtain ⟨A1,a1,a2,a3⟩:=J.endSl q1 hz
     obtain ⟨A2,B,b1,b2,b3,b4⟩:=J.endBx q2
     obtain ⟨A3,c1,c2,c3⟩:=J.endPr q3
     have hkept:=OS hb.2
     rw [←hkept] at h2
     -- what is kept
     have hk: ∀g∈Sk s0 (g1++(g2++g3)),∃x,lk s0.th g=some x∧lk s.th g=some x:=by
      intro g hg
      have hg:=List.mem_filter.1 hg
      have hm:=GU hg.1
      have hs:fF (lk s0.th g) (lk s.th g)=true:=by
       rcases List.mem_append.1 hm with hm |hm
       ·exact a3 g hm
       ·rcases List.mem_append.1 hm with hm |hm
        ·exact b4 g hm
        ·exact c3 g hm
      cases h0:lk s0.th g with
      |none=>rw [h0] at hg;cases hg.2
      |some x=>
       rw [h0] at hs hg
       cases h1:lk s.th g with
       |none=>rw [h1] at hs;cases x<;>cases hs
       |some x'=>
        rw [h1] at hs
        refine ⟨x,rfl,?_⟩
        cases x with
        |box T cs=>cases hg.2
        |row E c=>
         cases x'<;>simp only [fF,Bool.false_eq_true] at hs
         simp only [Bool.and_eq_true] at hs
         rw [lM hs.1,lM hs.2]
        |part c=>
         cases x'<;>simp only [fF,Bool.false_eq_true] at hs
         rw [lM hs]
        |kp c=>
         cases x'<;>simp only [fF,Bool.false_eq_true] at hs
         rw [lM hs]
     generalize Sk s0 (g1++(g2++g3))=kp at hb h2 hk
     obtain ⟨L,hL,hS⟩:=J.I.st
     obtain ⟨L0,hL0⟩:=J.dn0
     obtain ⟨L0',hL0'⟩:=ID (e:=e) hL0
     obtain ⟨K,hK,hKi⟩: ∃K,io e s0.vs s0.ct (pk s0.th kp)=some K∧kw s e (kp.map some) K:=by
      clear hb h2
      induction kp with
      |nil=>exact ⟨[],rfl,rfl⟩
      |cons g kp ih=>
       obtain ⟨K,k1,k2⟩:=ih fun g hg=>hk g (by simp [hg])
       obtain ⟨x,x1,x2⟩:=hk g (by simp)
       obtain ⟨yd,_,hy,_,_⟩:=qC hL0' x1
       refine ⟨yd::K,?_,yd,K,x,rfl,x2,⟨yd,Th.den_mono J.E hy,ET.refl _⟩,k2⟩
       simp only [pk,x1]
       exact aB.2 ⟨yd,K,hy,k1,rfl⟩
     have hids:=(a2.app b2).app (hKi.app (b3.app c2))
     have hnd:bN (((i1++i2)++(kp.map some++(bs.map some++(prR hh.pr).map some))).filterMap id)=true:=by
      rw [List.filterMap_append,List.filterMap_append (l:=kp.map some),List.filterMap_append (l:=bs.map some),oB,oB,oB]
      exact hb.1
     have hSt:=St.ids hL hS hids hnd
     -- the new state
     unfold ins at h2
     split at h2
     ·rename_i s1 slN m1 vs1 hI1
      split at h2
      ·rename_i s2' bs' m2 vs2 hI2
       split at h2
       ·rename_i s3 m3 hI3
        injection h2 with h2
        have G0:Gr2 r s0 s0:=.refl J.w0
        obtain ⟨p1,ec1,p2,p3,p4,p5,p6⟩:=OJ (A0:=[]) J.w0 G0 (dL.refl s0.n e) (fun k v hk=>by cases hk) rfl vF.nil a1 hI1
        dsimp only at p1 p3 p4 p5 p6
        subst p1
        obtain ⟨r1,ec2,r2,r3,r4,r5,r6,r7⟩:=OI J.w0 p3 p2 b1 hI2
        dsimp only at r1 r3 r4 r5 r6 r7
        subst r1
        have hI3':Hy s0 s2' hh.pr (vs2++ [])=some (s3,m3):=by rw [List.append_nil];exact hI3
        obtain ⟨t1,t2,t3⟩:=JB J.w0 (p3.trans r3) (p2.trans (r2.le p3.ext.n)) c1 hI3'
        dsimp only at t1 t2 t3
        have Gt:=(p3.trans r3).trans t1
        have hag:dL s0.n e ec2:=p2.trans (r2.le p3.ext.n)
        subst h2
        have E2:Ext s3 {s3 with sl:=slN,th:=m1++(m2++(pk s0.th kp++(bs'++m3))),kn:=[]}:=⟨fun _ _ h=>h,fun _ _ h=>h,Nat.le_refl _⟩
        have hntk:vF s0 s3 (pk s0.th kp):=fun p hp=>by
         left
         have: ∀ {gs:List Nat},p∈pk s0.th gs→p∈s0.th:=by
          intro gs
          induction gs with
          |nil=>intro h;cases h
          |cons g gs ih=>
           intro h
           simp only [pk] at h
           split at h
           ·rename_i x hx
            rcases List.mem_cons.1 h with rfl |h
            ·exact iZ hx
            ·exact ih h
           ·exact ih h
         exact this hp
        have hntall:vF s0 s3 (m1++(m2++(pk s0.th kp++(bs'++m3)))):=(p6.mono (r3.ext.trans t1.ext)).app ((r7.mono t1.ext).app (hntk.app ((r6.mono t1.ext).app t3)))
        refine ⟨ec2,Gt.ext.trans E2,J.A.trans hag,J.I.size,J.I.df,fun k v hk=>?_,⟨(A1++A2)++(K++(B++A3)),?_,hSt⟩,?_,(J.I.par.trans (dL.le (fun g hg=>hag g hg) J.w0.np))⟩
        ·exact ((((p4 k v hk).agr r2).mono r3.ext).mono t1.ext).mono E2
        ·rw [List.append_assoc]
         refine cu.2 ⟨A1,_,?_,cu.2 ⟨A2,_,ek t1.ext r5,cu.2 ⟨K,_,?_,cu.2 ⟨B,A3,ek t1.ext r4,t2,rfl⟩,rfl⟩,rfl⟩,rfl⟩
         ·exact FO (s':=s3) J.w0 p3.ext (by simpa using p5) p6 r2 (r3.ext.trans t1.ext)
         ·exact FO (s':=s3) J.w0 (.refl _) hK (fun p hp=>by
           rcases hntk p hp with h |h
           ·exact .inl h
           ·exact .inl (by
             have: ∀ {gs:List Nat},p∈pk s0.th gs→p∈s0.th:=by
              intro gs
              induction gs with
              |nil=>intro h;cases h
              |cons g gs ih=>
               intro h
               simp only [pk] at h
               split at h
               ·rename_i x hx
                rcases List.mem_cons.1 h with rfl |h
                ·exact iZ hx
                ·exact ih h
               ·exact ih h
             exact this hp)) hag Gt.ext
        ·refine Gt.wf.grow E2 (fun t x h=>.inl h) (fun t c h=>.inl h) (fun p hp=>?_) rfl (fun t b h=>by cases h)
         rw [Gt.th]
         exact (hntall p hp).imp id fun h=>⟨h.1,h.2.1.mono E2,h.2.2⟩
       ·cases h2
      ·cases h2
     ·cases h2
    ·cases hen
   ·cases h
 ·cases h
end
section
variable {P:Program} {G:Cx} {F:Sg} {r:Rn} {sI s s':Sy} {e e':Env} {a:Act} {w:World}
theorem VJ (I:Inv r e a w s) {q:Nat} {b:Bool} (h:lk s.vs q=some (.bool b)):Inv r e a w (Ij s q b):=
 ⟨I.size,I.df,fun k v hk=>(I.slot k v hk).mono (yU s q b),I.st,Mi I.wf h,I.par⟩
theorem Ir (I:Inv r e a w s) {e2:Env} {a2:Act} {w2:World} {s2:Sy} (E:Ext s s2) (A:dL s.n e e2) (I2:Inv r e2 a2 w2 s2):Jn r s e a2 w2 s2 e2:=
 ⟨I.wf,fun k v hk=>⟨_,I.slot k v hk⟩,by obtain ⟨L,h,_⟩:=I.st;exact ⟨L,h⟩,E,A,I2⟩
theorem MN {h:Shp} {R:Type} {y:R} {p:h.T} {f:Sy→Option R} (hJ:Ry r s e h a w p) (hk:JA s h p f=some y): ∃s2 e2,f s2=some y∧Ext s s2∧dL s.n e e2∧Inv r e2 a w s2:=by
 unfold JA at hk
 split at hk
 ·rename_i s2 h2
  obtain ⟨e2,h3,h4,h5⟩:=hJ s2 h2
  exact ⟨s2,e2,hk,h3,h4,h5⟩
 ·cases hk
theorem Tn {R Rf:Type} {K:Kt R Rf} {h:Shp} {l:List Alt} {p:h.T}:RP s K h l (aeg l p)=JA s h p K.nrm:=by cases l<;>rfl
theorem LC {R Rf:Type} {K:Kt R Rf} {h:Shp} {l:List Alt} {q:Ni Rf l} {z:UT Rf h l} (hz:aaT l q=some z):RP s K h l z=LD s K l q:=by
 cases l with
 |nil=>cases hz
 |cons a l=>injection hz with hz;subst hz;rfl
theorem Rz {R Rf:Type} {K:Kt R Rf} {y:R}: ∀ {l:List Alt} {f:Rf} {q:Ni Rf l},XD l f=some q→LD s K l q=some y→K.rt f=some y
 | [],f,q,h,_=>by cases h
 | [.rt],f,q,h,h2=>by injection h with h;subst h;exact h2
 | [.ex _ _],f,q,h,_=>by cases h
 | .rt::b::l,f,q,h,h2=>by injection h with h;subst h;exact h2
 | .ex i hh::b::l,f,q,h,h2=>by
  simp only [XD,Option.map_eq_some_iff] at h
  obtain ⟨q',h3,rfl⟩:=h
  exact Rz (l:=b::l) h3 h2
theorem Mm {R Rf:Type} {K:Kt R Rf} {y:R} {s2:Sy} {e2:Env} {a2:Act} {w2:World} (J:Jn r s e a2 w2 s2 e2) {i:Nat}: ∀ {l:List Alt} {q:Ni Rf l},Qb s i s2 l=some q→LD s K l q=some y→ ∃h,∃p:Shp.T h,Ry r s e h a2 w2 p∧JA s h p (K.ex i)=some y
 | [],q,h,_=>by cases h
 | [.rt],q,h,_=>by cases h
 | [.ex j hh],q,h,h2=>by
  simp only [Qb] at h
  cases hb:Nat.beq i j with
  |false=>rw [hb] at h;cases h
  |true=>
   rw [hb] at h
   have:=lM hb;subst this
   obtain ⟨p,h3,h4⟩:=Kr J h
   injection h3 with h3;subst h3
   exact ⟨hh,p,h4,h2⟩
 | .rt::b::l,q,h,h2=>by
  simp only [Qb,Option.map_eq_some_iff] at h
  obtain ⟨q',h3,rfl⟩:=h
  exact Mm J (l:=b::l) h3 h2
 | .ex j hh::b::l,q,h,h2=>by
  simp only [Qb] at h
  cases hb:Nat.beq i j with
  |true=>
   rw [hb] at h
   have:=lM hb;subst this
   obtain ⟨p,h3,h4⟩:=Kr J h
   injection h3 with h3;subst h3
   exact ⟨hh,p,h4,h2⟩
  |false=>
   rw [hb] at h
   simp only [cond_false,Option.map_eq_some_iff] at h
   obtain ⟨q',h3,rfl⟩:=h
   exact Mm J (l:=b::l) h3 h2
theorem SE {α β:Type} {x:Option α} {f:α→Option β} {y:β} (h:abc x f=some y): ∃a,x=some a∧f a=some y:=by
 cases x with
 |none=>cases h
 |some a=>exact ⟨a,rfl,h⟩
theorem adN (hm:P.follows .mixedOrders=true) (hQ:GQ P G) (hn0:F.n=r.n) (FS:F.R→Act→World→Prop)
 (hfin: ∀ {R:Type} {y:R} {k:F.R→Option R} {s:Sy} {e:Env} {a:Act} {w:World},Ext sI s→Inv r e a w s→Vi G F s k=some y→ ∃f,k f=some y∧FS f a w):
 ∀(t:Crt) {R:Type} (c:Code) (K:Kt R F.R) (s:Sy) (y:R) (e:Env) (a:Act) (w:World) (Q:Exit→Act→World→Prop),ex G F t c K s=some y→Ext sI s→Inv r e a w s→
  (∀s' e' a' w',Ext s s'→dL s.n e e'→K.nrm s'=some y→Inv r e' a' w' s'→Q .normal a' w')→
  (∀i s' e' a' w',Ext s s'→dL s.n e e'→K.ex i s'=some y→Inv r e' a' w' s'→Q (.exit i) a' w')→
  (∀f a' w',K.rt f=some y→FS f a' w'→Q .ret a' w')→c.wp P Q a w:=by
 intro t
 induction t with
 |z=>
  intro R c K s y e a w Q h hE I hn hx hr
  cases c with
  |skip=>exact wp_skip (hn s e a w (.refl _) (dL.refl _ _) h I)
  |label l=>exact wp_label (hn s e a w (.refl _) (dL.refl _ _) h I)
  |ret=>
   obtain ⟨f,h1,h2⟩:=hfin hE I h
   exact wp_ret (hr f a w h1 h2)
  |exit i=>exact wp_exit (hx i s e a w (.refl _) (dL.refl _ _) h I)
  |region id ops dr=>
   simp only [ex,hn0] at h
   exact abo hm hQ I h hn
  |_=>simp [ex] at h
 |q t1 t2 ih1 ih2=>
  intro R c K s y e a w Q h hE I hn hx hr
  cases c with
  |seq x1 x2=>
   refine wp_seq (ih1 x1 ⟨fun s=>ex G F t2 x2 K s,K.ex,K.rt⟩ s y e a w _ h hE I (fun s' e' a' w' E1 A1 h1 I1=>?_) (fun i s' e' a' w' E1 A1 h1 I1=>hx i s' e' a' w' E1 A1 h1 I1) (fun f a' w' h1 h2=>hr f a' w' h1 h2))
   exact ih2 x2 K s' y e' a' w' Q h1 (hE.trans E1) I1 (fun s2 e2 a2 w2 E2 A2=>hn s2 e2 a2 w2 (E1.trans E2) (A1.trans (A2.le E1.n))) (fun i s2 e2 a2 w2 E2 A2=>hx i s2 e2 a2 w2 (E1.trans E2) (A1.trans (A2.le E1.n))) hr
  |cond o x1 x2=>
   cases o with
   |tmp k=>
    simp only [ex] at h
    split at h
    ·rename_i v hv
     have hd:bP e s (.a v) (sl a k):=I.slot k _ hv
     obtain ⟨z,hz,hzk⟩:=hd.2
     have hden:z.den e=sl a k:=by have:=hd.1;simpa [SV1.den,hz] using this
     split at h
     ·rename_i hdec
      have hb:=Ql I.wf hz hdec
      refine wp_cond_true (kx (by rw [←hden,oq hb])) ?_
      exact ih1 x1 K s y e a w Q h hE I hn hx hr
     ·rename_i hdec
      have hb:=Ql I.wf hz hdec
      refine wp_cond_false (kx (by rw [←hden,oq hb])) ?_
      exact ih2 x2 K s y e a w Q h hE I hn hx hr
     ·split at h
      ·rename_i n _
       have hval: ∀ {q:Nat} {u v:Bool},inn s.vs 5 n=some (q,u,v)→sl a k= .bool (xf u v)∧lk s.vs q=some (.bool u):=by
        intro q u v hi
        obtain ⟨h1,h2⟩:=vy I.wf hi
        rw [Lt hz] at h2
        exact ⟨by rw [←hden,oq h2],h1⟩
       have go1: ∀ {q:Nat} {u:Bool},lk s.vs q=some (.bool u)→ex G F t1 x1 K (Ij s q u)=some y→x1.wp P Q a w:=fun hq h=>
        ih1 x1 K (Ij s _ _) y e a w Q h (hE.trans (yU _ _ _)) (VJ I hq) (fun s2 e2 a2 w2 E2 A2=>hn s2 e2 a2 w2 ((yU _ _ _).trans E2) A2) (fun i s2 e2 a2 w2 E2 A2=>hx i s2 e2 a2 w2 ((yU _ _ _).trans E2) A2) hr
       have go2: ∀ {q:Nat} {u:Bool},lk s.vs q=some (.bool u)→ex G F t2 x2 K (Ij s q u)=some y→x2.wp P Q a w:=fun hq h=>
        ih2 x2 K (Ij s _ _) y e a w Q h (hE.trans (yU _ _ _)) (VJ I hq) (fun s2 e2 a2 w2 E2 A2=>hn s2 e2 a2 w2 ((yU _ _ _).trans E2) A2) (fun i s2 e2 a2 w2 E2 A2=>hx i s2 e2 a2 w2 ((yU _ _ _).trans E2) A2) hr
       split at h
       ·rename_i q u hi
        obtain ⟨v1,v2⟩:=hval hi
        cases u with
        |true=>exact wp_cond_true (kx v1) (go1 v2 h)
        |false=>exact wp_cond_false (kx v1) (go2 v2 h)
       ·rename_i q u hi
        obtain ⟨v1,v2⟩:=hval hi
        cases u with
        |true=>exact wp_cond_false (kx v1) (go2 v2 h)
        |false=>exact wp_cond_true (kx v1) (go1 v2 h)
       ·cases h
      ·cases h
    ·cases h
   |_=>simp [ex] at h
  |_=>simp [ex] at h
 |b t1 ih=>
  intro R c K s y e a w Q h hE I hn hx hr
  cases c with
  |block i x=>
   refine wp_block (ih x ⟨K.nrm,fun j s=>bif Nat.beq j i then K.nrm s else K.ex j s,K.rt⟩ s y e a w _ h hE I (fun s' e' a' w' E1 A1 h1 I1=>hn s' e' a' w' E1 A1 h1 I1) (fun j s' e' a' w' E1 A1 h1 I1=>?_) (fun f a' w' h1 h2=>hr f a' w' h1 h2))
   cases hb:Nat.beq j i with
   |true=>
    have:=lM hb;subst this
    simp only [hb,cond_true] at h1
    exact aaR (hn s' e' a' w' E1 A1 h1 I1)
   |false=>
    simp only [hb,cond_false] at h1
    exact Ym hb (hx j s' e' a' w' E1 A1 h1 I1)
  |_=>simp [ex] at h
 |lp hh t1 ih=>
  intro R c K s y e a w Q h hE I hn hx hr
  cases c with
  |loop x=>
   simp only [ex] at h
   obtain ⟨p0,h1,h2⟩:=Kr (Ir I (.refl s) (dL.refl _ _) I) h
   refine Yx (fun m a' w'=> ∃p,cb (fun rec p=>JA s hh p fun s1=>ex G F t1 x ⟨fun s2=>Li s s2 hh rec,K.ex,K.rt⟩ s1) m p=some y∧Ry r s e hh a' w' p) ah ⟨p0,h1,h2⟩ ?_
   rintro m a1 w1 ⟨p,h3,h4⟩
   cases m with
   |zero=>cases h3
   |succ m=>
    obtain ⟨s1,e1,h5,E1,A1,I1⟩:=MN h4 h3
    refine ih x ⟨fun s2=>Li s s2 hh (cb (fun rec p=>JA s hh p fun s1=>ex G F t1 x ⟨fun s2=>Li s s2 hh rec,K.ex,K.rt⟩ s1) m),K.ex,K.rt⟩ s1 y e1 a1 w1 _ h5 (hE.trans E1) I1 (fun s2 e2 a2 w2 E2 A2 h6 I2=>?_) (fun i s2 e2 a2 w2 E2 A2 h6 I2=>hx i s2 e2 a2 w2 (E1.trans E2) (A1.trans (A2.le E1.n)) h6 I2) (fun f a2 w2 h6 h7=>hr f a2 w2 h6 h7)
    obtain ⟨p',h7,h8⟩:=Kr (Ir I (E1.trans E2) (A1.trans (A2.le E1.n)) I2) h6
    exact ⟨m,Nat.lt_succ_self m,p',h7,h8⟩
  |_=>simp [ex] at h
 |cut hh l t1 ih=>
  intro R c K s y e a w Q h hE I hn hx hr
  have h:Option.bind (ex G F t1 c (QB s hh l) s) (RP s K hh l)=some y:=by
   cases c<;>simpa only [ex] using h
  obtain ⟨z,h1,h2⟩:=xg h
  refine ih c (QB s hh l) s z e a w Q h1 hE I (fun s' e' a' w' E1 A1 h3 I1=>?_) (fun i s' e' a' w' E1 A1 h3 I1=>?_) (fun f a' w' h3 h4=>?_)
  ·obtain ⟨p,h4,h5⟩:=Kr (Ir I E1 A1 I1) h3
   injection h4 with h4;subst h4
   rw [Tn] at h2
   obtain ⟨s2,e2,h6,E2,A2,I2⟩:=MN h5 h2
   exact hn s2 e2 a' w' E2 A2 h6 I2
  ·obtain ⟨q,h4,h5⟩:=SE h3
   rw [LC h5] at h2
   obtain ⟨h',p,h6,h7⟩:=Mm (Ir I E1 A1 I1) h4 h2
   obtain ⟨s2,e2,h8,E2,A2,I2⟩:=MN h6 h7
   exact hx i s2 e2 a' w' E2 A2 h8 I2
  ·obtain ⟨q,h5,h6⟩:=SE h3
   rw [LC h6] at h2
   exact hr f a' w' (Rz h5 h2) h4
end
structure Ini (r:Rn) (s:Sy) (i j:Nat) (args:List Value) (L:List Asn) (v0:List PV):Prop where
 wf:Wf r s
 ct: ∀t c,lk s.ct t=some c→t<j
 jp:j<PB
 sl: ∀k v,lk s.sl k=some v→k<i∧ ∃u,args[k]?=some u∧lJ r.e0 s v u
 th: ∃L',io r.e0 s.vs s.ct s.th=some L'∧L'.Perm L
 v0: ∀q k l,dK v0 q=some (.sl k l)→q<j→lk s.ct q=some ⟨k,l,q,none⟩
section
variable {r:Rn} {s s':Sy} {L:List Asn} {args:List Value} {v0:List PV}
theorem Ini.grow {i j:Nat} (I:Ini r s i j args L v0) (G:Gr2 r s s') (hc:s'.ct=s.ct) (hj:j+1<PB) (hv: ∀k l,dK v0 j≠some (.sl k l)):Ini r s' i (j+1) args L v0:=by
 refine ⟨G.wf,fun t c h=>?_,hj,fun k v h=>?_,?_,fun q k l hq hlt=>?_⟩
 ·rw [hc] at h;exact Nat.lt_succ_of_lt (I.ct t c h)
 ·rw [G.sl] at h;obtain ⟨a,u,b,c⟩:=I.sl k v h;exact ⟨a,u,b,c.mono G.ext⟩
 ·obtain ⟨L',a,b⟩:=I.th;exact ⟨L',by rw [G.th];exact ek G.ext a,b⟩
 ·rw [hc]
  rcases Nat.lt_or_ge q j with h |h
  ·exact I.v0 q k l hq h
  ·obtain rfl:q=j:=by omega
   exact absurd hq (hv k l)
theorem Yn {i j:Nat} {k:PK} {v:PV} (I:Ini r s i j args L v0) (hp:OM r.w0 r.X r.e0 j k v) (hv:dK v0 j=some v) (hj:j+1<PB):Ini r (MM s j k v).1 i (j+1) args (LO r.e0 j k v++L) v0∧Ext s (MM s j k v).1∧(MM s j k v).1.sl=s.sl∧bP r.e0 (MM s j k v).1 (.a (MM s j k v).2) (Gm r.e0 j v):=by
 have one: ∀ {x:Lf} {u:Value},wV x=true→x.Ok s→x.den r.e0=u→(∀kk l,v≠ .sl kk l)→Ini r (nw s x) i (j+1) args L v0∧Ext s (nw s x)∧(nw s x).sl=s.sl∧bP r.e0 (nw s x) (.a (.t s.n)) u:=by
  intro x u h1 h2 h3 h4
  obtain ⟨G,D⟩:=xC (e:=r.e0) I.wf h1 h2 h3
  exact ⟨I.grow G rfl hj (fun kk l h=>h4 kk l (by rw [hv] at h;injection h)),G.ext,rfl,D⟩
 cases k with
 |int k=>
  obtain ⟨k',x,rfl⟩:=hp
  exact one (x:=.int k' x) rfl ⟨trivial,by simp [Lf.gs]⟩ rfl (fun _ _=>nofun)
 |b=>
  obtain ⟨x,rfl⟩:=hp
  exact one (x:=.bool x) rfl ⟨trivial,by simp [Lf.gs]⟩ rfl (fun _ _=>nofun)
 |s=>
  obtain ⟨x,rfl⟩:=hp
  exact one (x:=.str x) rfl ⟨trivial,by simp [Lf.gs]⟩ rfl (fun _ _=>nofun)
 |sl m E kk=>
  obtain ⟨l,rfl,hm⟩:=hp
  have hjn:j<s.n:=Nat.lt_of_lt_of_le (Nat.lt_of_lt_of_le I.jp (by decide)) I.wf.np
  have hjP:j<NP:=Nat.lt_of_lt_of_le I.jp (by decide)
  have hfr: ∀t,t<j→t≠j:=fun t h=>by omega
  -- whatever the thing is
  have gen: ∀(th:List (Nat×Th)) (ro:List (Nat×Nat)) (T:List Asn),(∀p∈th,p∈s.th∨p.1=j∧((p.2= .row E j)∨(p.2= .kp j∧ ∀u,(r.e0.y j).holds u→Rc u kk.sz (r.e0.a j) l.length (r.e0.c j) (l.flatMap kk.enc))))→
   (∀g t,lk ro g=some t→lk s.ro g=some t∨(g=j∧t=j∧ ∀u L,St r.w0 u L→(∀y∈r.X,y∈L)→Rc u kk.sz (r.e0.a j) l.length (r.e0.c j) (l.flatMap kk.enc)))→
   (∀L' vs ct,lk ct j=some ⟨kk,l,j,none⟩→io r.e0 vs ct s.th=some L'→ ∃L2,io r.e0 vs ct th=some L2∧L2.Perm (T++L'))→
   let s2:Sy:= {s with n:=s.n+1,vs:=(s.n,.sl j l.length j)::s.vs,ct:=(j,⟨kk,l,j,none⟩)::s.ct,th:=th,ro:=ro}
   Ini r s2 i (j+1) args (T++L) v0∧Ext s s2∧s2.sl=s.sl∧bP r.e0 s2 (.a (.t s.n)) (.slice (r.e0.a j) l.length (r.e0.c j)):=by
   intro th ro T hth hro hT s2
   have E1:Ext s s2:=⟨fun t x h=>by rw [show s2.vs=(s.n,.sl j l.length j)::s.vs from rfl,pP (by have:=I.wf.vn t x h;omega)];exact h,fun t c h=>by rw [show s2.ct=(j,⟨kk,l,j,none⟩)::s.ct from rfl,pP (hfr t (I.ct t c h))];exact h,by simp [s2]⟩
   have hcj:lk s2.ct j=some ⟨kk,l,j,none⟩:=aV
   have W:Wf r s2:=by
    refine ⟨fun t x h=>?_,fun t c h=>?_,fun t m x h=>?_,fun t c h=>?_,fun t c h l0 it y0 hs=>?_,fun p hp=>?_,fun g ct hp=>?_,fun g t h=>?_,fun t b h=>?_,Nat.le_trans I.wf.np E1.n⟩
    ·rcases aT h with ⟨rfl,rfl⟩ |h
     ·simp [s2]
     ·exact Nat.lt_of_lt_of_le (I.wf.vn t x h) E1.n
    ·rcases aT h with ⟨rfl,rfl⟩ |h
     ·exact Nat.lt_of_lt_of_le hjn E1.n
     ·exact Nat.lt_of_lt_of_le (I.wf.cn t c h) E1.n
    ·rcases aT h with ⟨rfl,hx⟩ |h
     ·cases hx
     ·exact E1.bo (I.wf.nb t m x h)
    ·rcases aT h with ⟨rfl,rfl⟩ |h
     ·exact ⟨_,hcj,rfl,rfl⟩
     ·obtain ⟨d,a,b⟩:=I.wf.rt t c h;exact ⟨d,E1.c _ _ a,b⟩
    ·rcases aT h with ⟨rfl,rfl⟩ |h
     ·cases hs
     ·obtain ⟨k,ix,a,b⟩:=I.wf.si t c h l0 it y0 hs;exact ⟨k,ix,E1.v _ _ a,b⟩
    ·rcases hth p hp with h |⟨h1,h2⟩
     ·exact ⟨Nat.lt_of_lt_of_le (I.wf.th p h).1 E1.n,(I.wf.th p h).2.mono E1⟩
     ·refine ⟨by rw [h1];exact Nat.lt_of_lt_of_le hjn E1.n,?_⟩
      rcases h2 with h2 |⟨h2,_⟩<;>rw [h2]<;>trivial
    ·rcases hth _ hp with h |⟨h1,h2⟩
     ·obtain ⟨a,c,b,d⟩:=I.wf.kp g ct h;exact ⟨a,c,E1.c _ _ b,d⟩
     ·dsimp only at h1 h2
      subst h1
      rcases h2 with h2 |⟨h2,h3⟩
      ·cases h2
      ·injection h2 with h2;subst h2
       exact ⟨hjP,_,hcj,h3⟩
    ·rcases hro g t h with h |⟨rfl,rfl,h3⟩
     ·obtain ⟨a,c,b,d⟩:=I.wf.ro g t h;exact ⟨a,c,E1.c _ _ b,d⟩
     ·exact ⟨hjP,_,hcj,h3⟩
    ·exact E1.v _ _ (I.wf.kn t b h)
   refine ⟨⟨W,fun t c h=>?_,hj,fun k v h=>?_,?_,fun q k l' hq hlt=>?_⟩,E1,rfl,⟨?_,.sl j l.length j,aV,⟨_,hcj,rfl⟩,fun g hg=>?_⟩⟩
   ·rcases aT h with ⟨rfl,rfl⟩ |h
    ·exact Nat.lt_succ_self _
    ·exact Nat.lt_succ_of_lt (I.ct t c h)
   ·obtain ⟨a,u,b,c⟩:=I.sl k v h;exact ⟨a,u,b,c.mono E1⟩
   ·obtain ⟨L',a,b⟩:=I.th
    obtain ⟨L2,c,d⟩:=hT L' s2.vs s2.ct hcj (ek E1 a)
    exact ⟨L2,c,d.trans (b.append_left T)⟩
   ·rcases Nat.lt_or_ge q j with h |h
    ·exact E1.c _ _ (I.v0 q k l' hq h)
    ·obtain rfl:q=j:=by omega
     rw [hv] at hq;injection hq with hq;injection hq with hq1 hq2;subst hq1;subst hq2
     exact hcj
   ·have:lk s2.vs s.n=some (.sl j l.length j):=aV
    simp only [SV1.den,Ax.lf,this,Option.map_some,Lf.den]
   ·simp [Lf.gs] at hg;subst hg;exact Nat.lt_of_lt_of_le hjn E1.n
  have rowc: ∀L' vs ct,lk ct j=some ⟨kk,l,j,none⟩→io r.e0 vs ct s.th=some L'→ ∃L2,io r.e0 vs ct ((j,Th.row E j)::s.th)=some L2∧L2.Perm ([FY r.e0 j E kk l]++L'):=by
   intro L' vs ct h1 h2
   refine ⟨FY r.e0 j E kk l::L',?_,List.Perm.refl _⟩
   have:Th.den r.e0 vs ct j (.row E j)=some (FY r.e0 j E kk l):=by simp only [Th.den,h1,Option.map_some];rfl
   simp only [io,this,h2]
  cases m with
  |ro=>exact gen s.th ((j,j)::s.ro) [] (fun p hp=>.inl hp) (fun g t h=>by
   rcases aT h with ⟨rfl,rfl⟩ |h
   ·exact .inr ⟨rfl,rfl,hm⟩
   ·exact .inl h) (fun L' vs ct _ h=>⟨L',h,List.Perm.refl _⟩)
  |kp=>exact gen ((j,.kp j)::s.th) s.ro [r.e0.y j] (fun p hp=>by
   rcases List.mem_cons.1 hp with rfl |hp
   ·exact .inr ⟨rfl,.inr ⟨rfl,hm⟩⟩
   ·exact .inl hp) (fun g t h=>.inl h) (fun L' vs ct _ h=>⟨r.e0.y j::L',by simp only [io,Th.den,h],List.Perm.refl _⟩)
  |mu=>exact gen ((j,.row E j)::s.th) s.ro [FY r.e0 j E kk l] (fun p hp=>by
   rcases List.mem_cons.1 hp with rfl |hp
   ·exact .inr ⟨rfl,.inl rfl⟩
   ·exact .inl hp) (fun g t h=>.inl h) rowc
  |tk=>exact gen ((j,.row E j)::s.th) s.ro [FY r.e0 j E kk l] (fun p hp=>by
   rcases List.mem_cons.1 hp with rfl |hp
   ·exact .inr ⟨rfl,.inl rfl⟩
   ·exact .inl hp) (fun g t h=>.inl h) rowc
theorem OG: ∀ {ks:List PK} {vs:List PV} {s:Sy} {i j:Nat} {L:List Asn},Ini r s i j args L v0→fD r.w0 r.X r.e0 j ks vs→(∀q v,dK vs q=some v→dK v0 (j+q)=some v)→j+ks.length<PB→
 ∃L',L'.Perm (tK r.e0 j ks vs++L)∧Ini r (mQ s j ks vs).1 i (j+ks.length) args L' v0∧Ext s (mQ s j ks vs).1∧(mQ s j ks vs).1.sl=s.sl∧bP r.e0 (mQ s j ks vs).1 (.g (mQ s j ks vs).2) (.agg (pG r.e0 j vs).toArray)∧vs.length=ks.length
 | [],vs,s,i,j,L,I,hp,hv,hj=>by
  have:vs=[]:=hp
  subst this
  exact ⟨L,List.Perm.refl _,I,.refl _,rfl,Do,rfl⟩
 |k::ks,vs,s,i,j,L,I,hp,hv,hj=>by
  obtain ⟨v,vr,rfl,h1,h2⟩:=hp
  simp only [List.length_cons] at hj
  obtain ⟨a1,a2,a3,a4⟩:=Yn I h1 (hv 0 v rfl) (by omega)
  obtain ⟨L',b0,b1,b2,b3,b4,b5⟩:=OG a1 h2 (fun q v' hq=>by have:=hv (q+1) v' hq;rwa [show j+(q+1)=j+1+q by omega] at this) (by omega)
  have e0:mQ s j (k::ks) (v::vr)=((mQ (MM s j k v).1 (j+1) ks vr).1,(MM s j k v).2::(mQ (MM s j k v).1 (j+1) ks vr).2):=rfl
  rw [e0]
  refine ⟨L',?_,by rw [List.length_cons,show j+(ks.length+1)=j+1+ks.length by omega];exact b1,a2.trans b2,b3.trans a3,sQ (a4.mono b2) b4,by simp [b5]⟩
  refine b0.trans ?_
  simp only [tK]
  rw [←List.append_assoc]
  exact (List.perm_append_comm).append_right _
theorem oX {w0:World} {X:List Asn} {e1:Env}: ∀ {ks ks':List PK} {vs:List PV} {j:Nat},fD w0 X e1 j (ks++ks') vs→ ∃v vr,vs=v++vr∧fD w0 X e1 j ks v∧fD w0 X e1 (j+ks.length) ks' vr
 | [],ks',vs,j,h=>⟨[],vs,rfl,rfl,h⟩
 |k::ks,ks',vs,j,h=>by
  obtain ⟨v,r,rfl,h1,h2⟩:=h
  obtain ⟨v',r',rfl,h3,h4⟩:=oX h2
  exact ⟨v::v',r',rfl,⟨v,v',rfl,h1,h3⟩,by rw [List.length_cons,show j+(ks.length+1)=j+1+ks.length by omega];exact h4⟩
theorem nX {w0:World} {X:List Asn} {e1:Env}: ∀ {ks:List PK} {vs:List PV} {j:Nat},fD w0 X e1 j ks vs→vs.length=ks.length
 | [],vs,j,h=>by rw [show vs=[] from h];rfl
 |k::ks,vs,j,h=>by obtain ⟨v,r,rfl,_,h2⟩:=h;simp [nX h2]
theorem Ini.slot {i j:Nat} (I:Ini r s i j args L v0) {v:SV} {u:Value} (hu:args[i]?=some u) (hd:lJ r.e0 s v u):Ini r (pR s (some i) v) (i+1) j args L v0:=by
 have E:=Ov s (some i) v
 refine ⟨Tc I.wf _ _,I.ct,I.jp,fun k v' h=>?_,by obtain ⟨L',a,b⟩:=I.th;exact ⟨L',ek E a,b⟩,I.v0⟩
 rcases aT h with ⟨rfl,rfl⟩ |h
 ·exact ⟨Nat.lt_succ_self _,u,hu,hd.mono E⟩
 ·obtain ⟨a,u',b,c⟩:=I.sl k v' h;exact ⟨Nat.lt_succ_of_lt a,u',b,c.mono E⟩
theorem Ini.perm {i j:Nat} {L2:List Asn} (I:Ini r s i j args L v0) (h:L.Perm L2):Ini r s i j args L2 v0:=⟨I.wf,I.ct,I.jp,I.sl,by obtain ⟨L',a,b⟩:=I.th;exact ⟨L',a,b.trans h⟩,I.v0⟩
theorem Se: ∀ {ps:List Prm} {vs:List PV} {s:Sy} {i j:Nat} {L:List Asn},Ini r s i j args L v0→fD r.w0 r.X r.e0 j (nY ps) vs→(∀q v,dK vs q=some v→dK v0 (j+q)=some v)→j+(nY ps).length<PB→i+ps.length≤PB→(∀q u,(ca r.e0 i j ps vs)[q]?=some u→args[i+q]?=some u)→
 ∃L',L'.Perm (dt r.e0 i j ps vs++L)∧Ini r (yY s i j ps vs) (i+ps.length) (j+(nY ps).length) args L' v0
 | [],vs,s,i,j,L,I,hp,hv,hj,hi,ha=>⟨L,List.Perm.refl _,by simpa [yY,nY] using I⟩
 |p::ps,vs,s,i,j,L,I,hp,hv,hj,hi,ha=>by
  have hpk:nY (p::ps)=p.ks++nY ps:=by simp [nY]
  rw [hpk] at hp hj
  simp only [List.length_append] at hj
  simp only [List.length_cons] at hi
  obtain ⟨v,vr,rfl,h1,h2⟩:=oX hp
  have hl:=nX h1
  obtain ⟨L1,b0,b1,b2,b3,b4,b5⟩:=OG I h1 (fun q x hq=>hv q x (wW hq)) (by omega)
  have hv2: ∀q x,dK vr q=some x→dK v0 (j+p.ks.length+q)=some x:=fun q x hq=>by
   have:=hv (p.ks.length+q) x (by rw [←hl,Dv];exact hq)
   rwa [←Nat.add_assoc] at this
  have DD: ∀ {s2:Sy} {L2:List Asn} {T:List Asn} {u:Value},Ini r s2 (i+1) (j+p.ks.length) args L2 v0→L2.Perm (T++L)→ca r.e0 i j (p::ps) (v++vr)=u::ca r.e0 (i+1) (j+p.ks.length) ps vr→dt r.e0 i j (p::ps) (v++vr)=T++dt r.e0 (i+1) (j+p.ks.length) ps vr→yY s i j (p::ps) (v++vr)=yY s2 (i+1) (j+p.ks.length) ps vr→
   ∃L',L'.Perm (dt r.e0 i j (p::ps) (v++vr)++L)∧Ini r (yY s i j (p::ps) (v++vr)) (i+(p::ps).length) (j+(nY (p::ps)).length) args L' v0:=by
   intro s2 L2 T u I2 hL2 hargs hth hini
   obtain ⟨L',c1,c2⟩:=Se I2 h2 hv2 (by omega) (by omega) (fun q u' hq=>by
    have:=ha (q+1) u' (by rw [hargs];simpa using hq)
    rwa [show i+(q+1)=i+1+q by omega] at this)
   refine ⟨L',?_,?_⟩
   ·rw [hth]
    refine c1.trans ((hL2.append_left _).trans ?_)
    rw [←List.append_assoc]
    exact (List.perm_append_comm).append_right _
   ·rw [hini,hpk,List.length_append,List.length_cons,show i+(ps.length+1)=i+1+ps.length by omega,←Nat.add_assoc]
    exact c2
  have hu0: ∀ {u:Value} {tl:List Value},ca r.e0 i j (p::ps) (v++vr)=u::tl→args[i]?=some u:=fun h=>by
   have:=ha 0 _ (by rw [h];rfl)
   simpa using this
  have ht:(v++vr).take p.ks.length=v:=by rw [←hl];simp
  have hdr:(v++vr).drop p.ks.length=vr:=by rw [←hl];simp
  cases p with
  |o k=>
   have hv1: ∃x,v=[x]:=by
    cases v with
    |nil=>simp [Prm.ks] at hl
    |cons x v=>cases v with
     |nil=>exact ⟨x,rfl⟩
     |cons=>simp [Prm.ks] at hl
   obtain ⟨x,rfl⟩:=hv1
   have hxs: ∃y,(mQ s j [k] [x]).2=[y]:=⟨_,rfl⟩
   obtain ⟨y,hy⟩:=hxs
   have hargs:ca r.e0 i j (.o k::ps) ([x]++vr)=Gm r.e0 j x::ca r.e0 (i+1) (j+1) ps vr:=rfl
   have d1:bP r.e0 (mQ s j [k] [x]).1 (.a y) (Gm r.e0 j x):=by
    obtain ⟨z,zr,he,q1,_⟩:=pU (show bP r.e0 (mQ s j [k] [x]).1 (.g [y]) (.agg (Gm r.e0 j x:: []).toArray) by rw [←hy];exact b4)
    injection he with he _;subst he;exact q1
   exact DD (T:=tK r.e0 j [k] [x]) (b1.slot (v:=.v (.a y)) (hu0 hargs) d1) b0 hargs rfl (by
    have e1:yY s i j (.o k::ps) ([x]++vr)=yY (pR (mQ s j [k] [x]).1 (some i) (.v (match (mQ s j [k] [x]).2 with |x::_=>.a x | []=>.g []))) (i+1) (j+1) ps vr:=rfl
    rw [e1,hy];rfl)
  |g ks=>
   have ht:(v++vr).take ks.length=v:=ht
   have hdr:(v++vr).drop ks.length=vr:=hdr
   have hargs:ca r.e0 i j (.g ks::ps) (v++vr)= .agg (pG r.e0 j v).toArray::ca r.e0 (i+1) (j+ks.length) ps vr:=by simp only [ca,ht,hdr]
   exact DD (T:=tK r.e0 j ks v) (b1.slot (v:=.v (.g (mQ s j ks v).2)) (hu0 hargs) b4) b0 hargs (by simp only [dt,Prm.ks,ht,hdr]) (by simp only [yY,ht,hdr];rfl)
  |bx T ks=>
   have ht:(v++vr).take ks.length=v:=ht
   have hdr:(v++vr).drop ks.length=vr:=hdr
   have hargs:ca r.e0 i j (.bx T ks::ps) (v++vr)= .pointer (some ⟨r.e0.b (PB+i),0,none⟩)::ca r.e0 (i+1) (j+ks.length) ps vr:=by simp only [ca,hdr]
   let s1:=(mQ s j ks v).1
   let s2:Sy:= {s1 with n:=s1.n+1,vs:=(s1.n,.pt (PB+i) 0)::s1.vs,th:=(PB+i,.box T (mQ s j ks v).2)::s1.th}
   have hbn:PB+i<s1.n:=Nat.lt_of_lt_of_le (show PB+i<NP by unfold PB NP at*;omega) b1.wf.np
   have E2:Ext s1 s2:=yV b1.wf (fun t h=>pP (by omega)) (fun t h=>rfl) (by simp [s2])
   have b4:bP r.e0 s1 (.g (mQ s j ks v).2) (.agg (pG r.e0 j v).toArray):=b4
   have b1:Ini r s1 i (j+ks.length) args L1 v0:=b1
   have W:Wf r s2:=b1.wf.grow E2 (fun t x h=>by
    rcases aT h with ⟨rfl,rfl⟩ |h
    ·exact .inr ⟨by simp [s2],nofun⟩
    ·exact .inl h) (fun t c h=>.inl h) (fun p hp=>by
    rcases List.mem_cons.1 hp with rfl |hp
    ·exact .inr ⟨Nat.lt_of_lt_of_le hbn E2.n,fun x hx=>(b4.2 x hx).mono E2,nofun⟩
    ·exact .inl hp) rfl (fun t b h=>.inl h)
   have hden:Th.den r.e0 s2.vs s2.ct (PB+i) (.box T (mQ s j ks v).2)=some (.box (r.e0.b (PB+i)) T (pG r.e0 j v).toArray):=by
    have:=b4.1
    simp only [SV1.den,Option.map_eq_some_iff,Value.agg.injEq] at this
    obtain ⟨ls,l1,l2⟩:=this
    simp only [Th.den,E2.lfs l1,Option.map_some,l2]
   have I2:Ini r s2 i (j+ks.length) args (.box (r.e0.b (PB+i)) T (pG r.e0 j v).toArray::L1) v0:=by
    refine ⟨W,b1.ct,b1.jp,fun k v' h=>?_,?_,b1.v0⟩
    ·obtain ⟨a,u,b,c⟩:=b1.sl k v' h;exact ⟨a,u,b,c.mono E2⟩
    ·obtain ⟨L',a,b⟩:=b1.th
     exact ⟨_::L',aB.2 ⟨_,L',hden,ek E2 a,rfl⟩,b.cons _⟩
   have d2:bP r.e0 s2 (.a (.t s1.n)) (.pointer (some ⟨r.e0.b (PB+i),0,none⟩)):=by
    refine ⟨?_,.pt (PB+i) 0,aV,trivial,fun g hg=>?_⟩
    ·have:lk s2.vs s1.n=some (.pt (PB+i) 0):=aV
     simp only [SV1.den,Ax.lf,this,Option.map_some,Lf.den]
    ·simp [Lf.gs] at hg;subst hg;exact Nat.lt_of_lt_of_le hbn E2.n
   exact DD (T:=.box (r.e0.b (PB+i)) T (pG r.e0 j v).toArray::tK r.e0 j ks v) (I2.slot (v:=.v (.a (.t s1.n))) (hu0 hargs) d2) (b0.cons _) hargs (by simp only [dt,ht,hdr];rfl) (by simp only [yY,ht,hdr];rfl)
end
structure Ou (P:Program) (G:Cx) (r:Rn) (sI s:Sy) (e:Env) (a:Act) (w:World) (v0:List PV):Prop where
 g:GP P G
 I:Inv r e a w s
 E:Ext sI s
 pv: ∀q k l,dK v0 q=some (.sl k l)→lk sI.ct q=some ⟨k,l,q,none⟩
 lt:v0.length<PB
section
variable {P:Program} {G:Cx} {r:Rn} {sI s:Sy} {e:Env} {a:Act} {w:World} {v0:List PV} (O:Ou P G r sI s e a w v0)
include O
theorem Ou.par {j n rt:Nat} {k:EK} {l:List k.ty} (hv:dK v0 j=some (.sl k l)) (hk:(Lf.sl j n rt).Ok s) (hrt:rt=j):(Lf.sl j n rt).den e=Gm r.e0 j (.sl k l):=by
 subst hrt
 have hj:rt<NP:=Nat.lt_of_lt_of_le (MY hv) (Nat.le_trans (Nat.le_of_lt O.lt) (show PB≤NP by decide))
 obtain ⟨c,c1,c2⟩:=hk.1
 rw [O.E.c _ _ (O.pv _ _ _ hv)] at c1
 injection c1 with c1;subst c1
 have:=O.I.par rt hj
 simp only [Lf.den,Gm,this.2.1,this.2.2.1,c2]
theorem Ou.outA {k:RK} {x:Ax} {v:PV} {ids:List (Option Nat)} {u:Value} (h:outA s k x=some (v,ids)) (hd:bP e s (.a x) u) (hal: ∀j,k= .al j→ ∃kk l,dK v0 j=some (.sl kk l)): ∃A0 A,k.res r.e0 (FK v0) v u A∧kw s e ids A0∧sJ A0 A:=by
 obtain ⟨y,hy,hk⟩:=hd.2
 have hu:y.den e=u:=by have:=hd.1;simpa [SV1.den,hy] using this
 cases k with
 |int k=>
  simp only [Go.Proofs.YtjdlgannencchaaGreatDoor.outA,hy] at h
  split at h
  ·rename_i k' v hh
   injection h with h;injection h with h1 h2;subst h1;subst h2
   injection hh with hh;subst hh
   exact ⟨[],[],⟨_,_,rfl,hu.symm,rfl⟩,rfl,rfl⟩
  ·cases h
 |b=>
  simp only [Go.Proofs.YtjdlgannencchaaGreatDoor.outA,hy] at h
  split at h
  ·rename_i b hb
   injection h with h;injection h with h1 h2;subst h1;subst h2
   exact ⟨[],[],⟨_,rfl,by rw [←hu,oq hb],rfl⟩,rfl,rfl⟩
  ·cases h
 |s=>
  simp only [Go.Proofs.YtjdlgannencchaaGreatDoor.outA,hy] at h
  split at h
  ·rename_i v hh
   injection h with h;injection h with h1 h2;subst h1;subst h2
   injection hh with hh;subst hh
   exact ⟨[],[],⟨_,rfl,hu.symm,rfl⟩,rfl,rfl⟩
  ·cases h
 |al j=>
  simp only [Go.Proofs.YtjdlgannencchaaGreatDoor.outA,hy] at h
  split at h
  ·rename_i hh
   injection h with h;injection h with h1 h2;subst h1;subst h2
   injection hh with hh;subst hh
   exact ⟨[],[],⟨false,rfl,hu.symm,rfl⟩,rfl,rfl⟩
  ·rename_i g n rt hh
   cases hb:(Nat.beq g j&&Nat.beq rt j) with
   |false=>rw [hb] at h;cases h
   |true=>
    rw [hb] at h
    injection h with h;injection h with h1 h2;subst h1;subst h2
    injection hh with hh;subst hh
    simp only [Bool.and_eq_true] at hb
    have e1:=lM hb.1;have e2:=lM hb.2
    subst e1
    obtain ⟨kk,l,hv⟩:=hal g rfl
    have:=O.par hv hk e2
    rw [hu] at this
    refine ⟨[],[],⟨true,rfl,?_,rfl⟩,rfl,rfl⟩
    rw [this]
    simp only [Gm,Xw,PS,cond_true,FK,hv]
  ·cases h
 |row E k=>
  simp only [Go.Proofs.YtjdlgannencchaaGreatDoor.outA,hy] at h
  split at h
  ·rename_i hh
   injection h with h;injection h with h1 h2;subst h1;subst h2
   injection hh with hh;subst hh
   exact ⟨_,[.row E k.sz (.slice none 0 0) 0 []],⟨[],none,0,rfl,hu.symm,by rw [←hu];rfl⟩,⟨_,[],rfl,⟨E,k.sz,.inl rfl⟩,rfl⟩,sJ.refl _⟩
  ·rename_i g n rt hh
   injection hh with hh;subst hh
   split at h
   ·rename_i ct l hth hl
    injection h with h;injection h with h1 h2;subst h1;subst h2
    obtain ⟨ct',c,q1,q2,q3,q4,q5,q6⟩:=zU O.I.wf hk hl
    have hth:=dq hth
    obtain ⟨ck,cl,crt,csi⟩:=c
    dsimp only at q3;subst q3;dsimp only at q4;subst q4
    simp only [EP,hth,Option.some.injEq] at q1
    subst q1
    subst q6
    exact ⟨_,[.row E ck.sz u cl.length (cl.flatMap ck.enc)],⟨cl,e.a g,e.c g,rfl,hu.symm,rfl⟩,⟨_,[],_,rfl,hth,⟨_,by simp only [Th.den,q2,Option.map_some];rw [←hu];rfl,ET.refl _⟩,rfl⟩,sJ.refl _⟩
   ·cases h
  ·rename_i g ct sz n lo hi pre hh
   injection hh with hh;subst hh
   split at h
   ·rename_i ct1 l hth hl
    injection h with h;injection h with h1 h2;subst h1;subst h2
    obtain ⟨a1,a2⟩:=Xi hk (dq hth) hl hu
    exact ⟨_,[.row E k.sz u l.length (l.flatMap k.enc)],⟨l,_,_,rfl,a1,rfl⟩,⟨_,[],_,rfl,dq hth,a2,rfl⟩,sJ.refl _⟩
   ·cases h
  ·rename_i g n rt hh
   injection hh with hh;subst hh
   split at h
   ·rename_i ct1 l hth hl
    injection h with h;injection h with h1 h2;subst h1;subst h2
    obtain ⟨ct',c,q1,q2,q3,q4,q5,q6⟩:=zU (n:=n) (rt:=rt) O.I.wf hk hl
    have hth:=dq hth
    obtain ⟨ck,cl,crt,csi⟩:=c
    dsimp only at q3;subst q3;dsimp only at q4;subst q4
    simp only [EP,hth,Option.some.injEq] at q1
    subst q1
    subst q6
    refine ⟨_,[.row E ck.sz u cl.length (cl.flatMap ck.enc)],⟨cl,_,_,rfl,hu.symm,rfl⟩,⟨_,[],_,rfl,hth,⟨_,by simp only [Th.den,q2,Option.map_some];rfl,?_⟩,rfl⟩,sJ.refl _⟩
    rw [←hu]
    cases cl with
    |nil=>exact ET.nil
    |cons x cl=>exact ET.refl _
   ·cases h
  ·cases h
 |part k=>
  simp only [Go.Proofs.YtjdlgannencchaaGreatDoor.outA,hy] at h
  split at h
  ·rename_i hh
   injection h with h;injection h with h1 h2;subst h1;subst h2
   injection hh with hh;subst hh
   exact ⟨_,[.part k.sz (.slice none 0 0) 0 []],⟨[],none,0,rfl,hu.symm,by rw [←hu];rfl⟩,⟨_,[],rfl,⟨0,k.sz,.inr rfl⟩,rfl⟩,sJ.refl _⟩
  ·rename_i g n rt hh
   injection hh with hh;subst hh
   have DD: ∀ {l:List k.ty} {x:Th} {ct:Nat},DE s k (.sl g n rt)=some l→lk s.th g=some x→((∃E,x= .row E ct)∨x= .part ct)→v= .sl k l→ids=[some g]→ ∃A0 A,(RK.part k).res r.e0 (FK v0) v u A∧kw s e ids A0∧sJ A0 A:=by
    rintro l x ct hl hth hx rfl rfl
    obtain ⟨ct',c,q1,q2,q3,q4,q5,q6⟩:=zU O.I.wf hk hl
    obtain ⟨ck,cl,crt,csi⟩:=c
    dsimp only at q3;subst q3;dsimp only at q4;subst q4
    subst q6
    rcases hx with ⟨E,rfl⟩ |rfl
    ·simp only [EP,hth,Option.some.injEq] at q1
     subst q1
     exact ⟨[.row E ck.sz u cl.length (cl.flatMap ck.enc)],[.part ck.sz u cl.length (cl.flatMap ck.enc)],⟨cl,e.a g,e.c g,rfl,hu.symm,rfl⟩,⟨_,[],_,rfl,hth,⟨_,by simp only [Th.den,q2,Option.map_some];rw [←hu];rfl,ET.refl _⟩,rfl⟩,⟨_,[],rfl,ET.part,rfl⟩⟩
    ·simp only [EP,hth,Option.some.injEq] at q1
     subst q1
     exact ⟨_,[.part ck.sz u cl.length (cl.flatMap ck.enc)],⟨cl,e.a g,e.c g,rfl,hu.symm,rfl⟩,⟨_,[],_,rfl,hth,⟨_,by simp only [Th.den,q2,Option.map_some];rw [←hu];rfl,ET.refl _⟩,rfl⟩,sJ.refl _⟩
   split at h
   ·rename_i hth hl
    injection h with h;injection h with h1 h2
    exact DD hl hth (.inl ⟨_,rfl⟩) h1.symm h2.symm
   ·rename_i hth hl
    injection h with h;injection h with h1 h2
    exact DD hl hth (.inr rfl) h1.symm h2.symm
   ·cases h
  ·cases h
def AlP (v0:List PV) (k:RK):Prop:= ∀j,k= .al j→ ∃kk l,dK v0 j=some (.sl kk l)
theorem Ou.outAs: ∀ {ks:List RK} {xs:List Ax} {vs:List PV} {ids:List (Option Nat)} {us:List Value},outAs s ks xs=some (vs,ids)→bP e s (.g xs) (.agg us.toArray)→(∀k∈ks,AlP v0 k)→ ∃A0 A,Ww r.e0 (FK v0) ks vs us A∧kw s e ids A0∧sJ A0 A
 | [],[],vs,ids,us,h,hd,_=>by
  injection h with h;injection h with h1 h2;subst h1;subst h2
  have hu:us=[]:=by have:=hd.1;simp [SV1.den,lfs] at this;exact this
  subst hu
  exact ⟨[],[],⟨rfl,rfl,rfl⟩,rfl,rfl⟩
 | [],_::_,vs,ids,us,h,_,_=>by cases h
 |_::_,[],vs,ids,us,h,_,_=>by cases h
 |k::ks,x::xs,vs,ids,us,h,hd,hal=>by
  simp only [Go.Proofs.YtjdlgannencchaaGreatDoor.outAs] at h
  split at h
  ·rename_i v t vs' ts h1 h2
   injection h with h;injection h with h3 h4;subst h3;subst h4
   have hus: ∃u ur,us=u::ur:=by
    have:=hd.1
    simp only [SV1.den,Option.map_eq_some_iff,Value.agg.injEq] at this
    obtain ⟨ls,q1,q2⟩:=this
    obtain ⟨z,q,_,_,rfl⟩:=bF.1 q1
    have:List.map (Lf.den e) (z::q)=us:=by simpa using q2
    exact ⟨_,_,this.symm⟩
   obtain ⟨u,ur,rfl⟩:=hus
   obtain ⟨x',xr,he,hx,hxr⟩:=pU hd
   injection he with e1 e2;subst e1;subst e2
   obtain ⟨A0,A,a1,a2,a3⟩:=O.outA h1 hx (hal k (by simp))
   obtain ⟨B0,B,b1,b2,b3⟩:=Ou.outAs h2 hxr fun k' hk'=>hal k' (by simp [hk'])
   exact ⟨A0++B0,A++B,⟨v,vs',u,ur,A,B,rfl,rfl,rfl,a1,b1⟩,a2.app b2,a3.app b3⟩
  ·cases h
theorem Ou.rvA {rv:ResultVar} {x:SV1} (h:rvA G s rv=some x): ∃u,(Nj a rv).run P w= .ok u w∧bP e s x u:=by
 cases rv with
 |tmp k=>
  simp only [Go.Proofs.YtjdlgannencchaaGreatDoor.rvA] at h
  split at h
  ·rename_i y hy
   injection h with h;subst h
   exact ⟨sl a k,ib (kx rfl),O.I.slot k _ hy⟩
  ·cases h
 |cell k T=>
  simp only [Go.Proofs.YtjdlgannencchaaGreatDoor.rvA] at h
  split at h
  ·rename_i z i hz hT
   split at h
   ·rename_i g off hx
    split at h
    ·rename_i T' cs hg
     have M:=O.I.mem g
     obtain ⟨l,h4,h5⟩:=M.bk _ _ hg
     have hlen:=oY h4
     have ht:=O.g.ty hT
     have hcs:=(O.I.wf.th _ (iZ hg)).2
     have hp:a.eval (.tmp k)= .pointer (some ⟨e.b g,off,none⟩):=by
      have:=(O.I.slot k _ hz).1
      simp only [SV1.den,hx,Option.map_some,Option.some.injEq] at this
      exact kx this.symm
     cases ha:PR i.d with
     |true=>
      rw [ha] at h
      simp only [cond_true] at h
      cases hb:Nat.ble (off+i.sz) cs.length with
      |false=>rw [hb] at h;cases h
      |true=>
       rw [hb] at h
       injection h with h;subst h
       have hle:off+i.sz≤cs.length:=by simpa using hb
       have hs:=It off i.sz h4
       have hsz:((oh l off i.sz).map (Lf.den e)).toArray.size=i.sz:=by simp [Gf (show off+i.sz≤l.length by omega)]
       refine ⟨.agg ((oh l off i.sz).map (Lf.den e)).toArray,Pp hp (TV (ht.agg ha) hsz (h5.cells off _ ?_)),by simp [SV1.den,hs],fun z hz=>hcs z ?_⟩
       ·rw [hsz,NB];simp [oh]
       ·exact List.mem_of_mem_drop (List.mem_of_mem_take hz)
     |false=>
      rw [ha] at h
      simp only [cond_false] at h
      split at h
      ·rename_i z' hz'
       injection h with h;subst h
       obtain ⟨u,h6,h7⟩:=MQ h4 hz'
       have hc:w.cell? ⟨e.b g,off,none⟩=some (u.den e):=h5.cell (by simp [h7])
       exact ⟨u.den e,Pp hp (TU (ht.tone ha) hc),by simp [SV1.den,h6],hcs z' (Iv hz')⟩
      ·cases h
    ·cases h
   ·cases h
  ·cases h
theorem Ou.outRs: ∀ {rs:List RSh} {rv:List ResultVar} {vs:List PV} {ids:List (Option Nat)},outRs G s rs rv=some (vs,ids)→(∀k∈rs.flatMap RSh.ks,AlP v0 k)→ ∃us A0 A,(rv.mapM (Nj a)).run P w= .ok us w∧Wx r.e0 (FK v0) rs vs us A∧kw s e ids A0∧sJ A0 A
 | [],[],vs,ids,h,_=>by
  injection h with h;injection h with h1 h2;subst h1;subst h2
  exact ⟨[],[],[],rfl,⟨rfl,rfl,rfl⟩,rfl,rfl⟩
 | [],_::_,vs,ids,h,_=>by cases h
 |p::_,[],vs,ids,h,_=>by cases p<;>cases h
 | .o k::rs,v::rv,vs,ids,h,hal=>by
  simp only [Go.Proofs.YtjdlgannencchaaGreatDoor.outRs] at h
  split at h
  ·rename_i x b u h1 h2
   split at h
   ·rename_i v1 t h3
    injection h with h;injection h with h4 h5;subst h4;subst h5
    obtain ⟨uv,c1,c2⟩:=O.rvA h1
    obtain ⟨A0,A,a1,a2,a3⟩:=O.outA h3 c2 (hal k (by simp [RSh.ks]))
    obtain ⟨us,B0,B,b0,b1,b2,b3⟩:=Ou.outRs h2 fun k' hk'=>hal k' (by simp only [List.flatMap_cons];exact List.mem_append_right _ hk')
    refine ⟨uv::us,A0++B0,A++B,?_,⟨v1,b,uv,us,A,B,rfl,rfl,rfl,a1,b1⟩,a2.app b2,a3.app b3⟩
    rw [List.mapM_cons]
    simp only [Sem.run_bind,c1,Result.andThen_ok,b0,Sem.run_pure]
   ·cases h
  ·cases h
 | .g ks::rs,v::rv,vs,ids,h,hal=>by
  simp only [Go.Proofs.YtjdlgannencchaaGreatDoor.outRs] at h
  split at h
  ·rename_i xs b u h1 h2
   split at h
   ·rename_i v1 t h3
    injection h with h;injection h with h4 h5;subst h4;subst h5
    obtain ⟨uv,c1,c2⟩:=O.rvA h1
    obtain ⟨ul,rfl⟩: ∃ul:List Value,uv= .agg ul.toArray:=by
     have:=c2.1
     simp only [SV1.den,Option.map_eq_some_iff] at this
     obtain ⟨l,_,rfl⟩:=this
     exact ⟨_,rfl⟩
    obtain ⟨A0,A,a1,a2,a3⟩:=O.outAs h3 c2 fun k' hk'=>hal k' (by simp only [List.flatMap_cons,RSh.ks];exact List.mem_append_left _ hk')
    obtain ⟨us,B0,B,b0,b1,b2,b3⟩:=Ou.outRs h2 fun k' hk'=>hal k' (by simp only [List.flatMap_cons];exact List.mem_append_right _ hk')
    refine ⟨.agg ul.toArray::us,A0++B0,A++B,?_,⟨v1,b,ul,us,A,B,rfl,rfl,rfl,a1,b1⟩,a2.app b2,a3.app b3⟩
    rw [List.mapM_cons]
    simp only [Sem.run_bind,c1,Result.andThen_ok,b0,Sem.run_pure]
   ·cases h
  ·cases h
theorem Ou.outCs: ∀ {ks:List PK} {j:Nat} {xs:List Ax} {vs v:List PV} {ids:List (Option Nat)} {us:List Value},outCs s j ks xs=some (v,ids)→bP e s (.g xs) (.agg us.toArray)→fD r.w0 r.X r.e0 j ks vs→(∀q x,dK vs q=some x→dK v0 (j+q)=some x)→ ∃A0 A,Wv r.e0 (FK v0) ks (pG r.e0 j vs) v us A∧kw s e ids A0∧sJ A0 A
 | [],j,[],vs,v,ids,us,h,hd,hp,_=>by
  injection h with h;injection h with h1 h2;subst h1;subst h2
  have hu:us=[]:=by have:=hd.1;simp [SV1.den,lfs] at this;exact this
  subst hu
  rw [show vs=[] from hp]
  exact ⟨[],[],⟨rfl,rfl,rfl,rfl⟩,rfl,rfl⟩
 | [],j,_::_,vs,v,ids,us,h,_,_,_=>by cases h
 |k::_,j,[],vs,v,ids,us,h,_,_,_=>by cases h
 |k::ks,j,x::xs,vs,v,ids,us,h,hd,hp,hv=>by
  obtain ⟨pv,pr,rfl,p1,p2⟩:=hp
  have hus: ∃u ur,us=u::ur:=by
   have:=hd.1
   simp only [SV1.den,Option.map_eq_some_iff,Value.agg.injEq] at this
   obtain ⟨ls,q1,q2⟩:=this
   obtain ⟨z,q,_,_,rfl⟩:=bF.1 q1
   have:List.map (Lf.den e) (z::q)=us:=by simpa using q2
   exact ⟨_,_,this.symm⟩
  obtain ⟨u,ur,rfl⟩:=hus
  obtain ⟨x',xr,he,hx,hxr⟩:=pU hd
  injection he with e1 e2;subst e1;subst e2
  have hv': ∀q x,dK pr q=some x→dK v0 (j+1+q)=some x:=fun q x hq=>by
   have:=hv (q+1) x hq
   rwa [show j+(q+1)=j+1+q by omega] at this
  simp only [Go.Proofs.YtjdlgannencchaaGreatDoor.outCs] at h
  split at h
  ·rename_i rk rks b t hc h2
   split at h
   ·rename_i v1 t1 h1
    injection h with h;injection h with h4 h5;subst h4;subst h5
    obtain ⟨A0,A,a1,a2,a3⟩:=O.outA h1 hx (fun q hq=>by
     subst hq
     cases k with
     |sl m E kk=>cases m<;>cases hc
     |_=>cases hc)
    obtain ⟨B0,B,b1,b2,b3⟩:=Ou.outCs h2 hxr p2 hv'
    refine ⟨A0++B0,A++B,⟨_,_,u,ur,rfl,rfl,?_⟩,a2.app b2,a3.app b3⟩
    rw [hc]
    exact ⟨v1,b,A,B,rfl,rfl,a1,b1⟩
   ·cases h
  ·rename_i b t hc h2
   split at h
   ·rename_i g n rt hh
    cases hb:(Nat.beq g j&&Nat.beq rt j) with
    |false=>rw [hb] at h;cases h
    |true=>
     rw [hb] at h
     injection h with h;injection h with h4 h5;subst h4;subst h5
     simp only [Bool.and_eq_true] at hb
     have e1:=lM hb.1;have e2:=lM hb.2
     subst e1
     obtain ⟨y,hy,hk⟩:=hx.2
     rw [hh] at hy;injection hy with hy;subst hy
     obtain ⟨B0,B,b1,b2,b3⟩:=Ou.outCs h2 hxr p2 hv'
     refine ⟨B0,B,⟨_,_,u,ur,rfl,rfl,?_⟩,b2,b3⟩
     rw [hc]
     refine ⟨?_,b1⟩
     have hsl: ∃kk l,pv= .sl kk l:=by
      cases k with
      |sl m E kk=>obtain ⟨l,rfl,_⟩:=p1;exact ⟨kk,l,rfl⟩
      |_=>cases hc
     obtain ⟨kk,l,rfl⟩:=hsl
     have:=O.par (hv 0 _ rfl) hk e2
     have hu:=hx.1
     simp only [SV1.den,hh,Option.map_some,Option.some.injEq] at hu
     rw [←hu];exact this
   ·cases h
  ·cases h
theorem Ou.outBs: ∀ {ps:List Prm} {i j:Nat} {vs v:List PV} {ids:List (Option Nat)},outBs s i j ps=some (v,ids)→fD r.w0 r.X r.e0 j (nY ps) vs→(∀q x,dK vs q=some x→dK v0 (j+q)=some x)→i+ps.length≤PB→ ∃A0 A,KX r.e0 (FK v0) i j ps vs v A∧kw s e ids A0∧sJ A0 A
 | [],i,j,vs,v,ids,h,hp,_,_=>by
  injection h with h;injection h with h1 h2;subst h1;subst h2
  exact ⟨[],[],⟨rfl,rfl⟩,rfl,rfl⟩
 |p::ps,i,j,vs,v,ids,h,hp,hv,hi=>by
  rw [show nY (p::ps)=p.ks++nY ps by simp [nY]] at hp
  obtain ⟨va,vb,rfl,p1,p2⟩:=oX hp
  have hl:=nX p1
  simp only [List.length_cons] at hi
  have ht:(va++vb).take p.ks.length=va:=by rw [←hl];simp
  have hdr:(va++vb).drop p.ks.length=vb:=by rw [←hl];simp
  have hv2: ∀q x,dK vb q=some x→dK v0 (j+p.ks.length+q)=some x:=fun q x hq=>by
   have:=hv (p.ks.length+q) x (by rw [←hl,Dv];exact hq)
   rwa [←Nat.add_assoc] at this
  cases p with
  |o k=>
   obtain ⟨A0,A,a1,a2,a3⟩:=Ou.outBs (i:=i+1) (j:=j+1) (by simpa only [Go.Proofs.YtjdlgannencchaaGreatDoor.outBs,Prm.ks,List.length_singleton] using h) p2 hv2 (by omega)
   exact ⟨A0,A,by have hdr:(va++vb).drop 1=vb:=hdr
                  show KX r.e0 (FK v0) (i+1) (j+1) ps ((va++vb).drop 1) v A
                  rw [hdr];exact a1,a2,a3⟩
  |g ks=>
   obtain ⟨A0,A,a1,a2,a3⟩:=Ou.outBs (i:=i+1) (j:=j+ks.length) (by simpa only [Go.Proofs.YtjdlgannencchaaGreatDoor.outBs,Prm.ks] using h) p2 hv2 (by omega)
   exact ⟨A0,A,by have hdr:(va++vb).drop ks.length=vb:=hdr
                  show KX r.e0 (FK v0) (i+1) (j+ks.length) ps ((va++vb).drop ks.length) v A
                  rw [hdr];exact a1,a2,a3⟩
  |bx T ks=>
   have hdr:(va++vb).drop ks.length=vb:=hdr
   have ht:(va++vb).take ks.length=va:=ht
   simp only [Go.Proofs.YtjdlgannencchaaGreatDoor.outBs] at h
   split at h
   ·rename_i T' xs b u hg h2
    cases hb:Nat.beq T T' with
    |false=>rw [hb] at h;cases h
    |true=>
     rw [hb] at h
     have eT:=lM hb;subst eT
     simp only [cond_true] at h
     split at h
     ·rename_i v1 t1 h1
      injection h with h;injection h with h4 h5;subst h4;subst h5
      have hok:=(O.I.wf.th _ (iZ hg)).2
      obtain ⟨q,hq⟩: ∃q,lfs s.vs xs=some q:=by
       obtain ⟨L,hL,_⟩:=O.I.st
       obtain ⟨y,R,h',_,_⟩:=qC hL hg
       simp only [Th.den,Option.map_eq_some_iff] at h'
       obtain ⟨l,h',_⟩:=h'
       exact ⟨l,h'⟩
      obtain ⟨A0,A,a1,a2,a3⟩:=O.outCs (us:=q.map (Lf.den e)) h1 ⟨by simp [SV1.den,hq],hok⟩ p1 (fun q x hq=>hv q x (wW hq))
      obtain ⟨B0,B,b1,b2,b3⟩:=Ou.outBs h2 p2 hv2 (by omega)
      have hbe:e.b (PB+i)=r.e0.b (PB+i):=(O.I.par (PB+i) (by unfold PB NP at*;omega)).1
      refine ⟨.box (r.e0.b (PB+i)) T (q.map (Lf.den e)).toArray::(A0++B0),_,⟨v1,b,q.map (Lf.den e),A,B,rfl,rfl,by rw [ht];exact a1,by rw [hdr];exact b1⟩,?_,?_⟩
      ·refine ⟨_,A0++B0,_,rfl,hg,⟨_,by simp only [Th.den,hq,hbe,Option.map_some],ET.refl _⟩,a2.app b2⟩
      ·exact ⟨_,A++B,rfl,ET.refl _,a3.app b3⟩
     ·cases h
   ·cases h
theorem Ou.outRw: ∀ {ks:List PK} {j:Nat} {vs v:List PV} {ids:List (Option Nat)},outRw s j ks=some (v,ids)→fD r.w0 r.X r.e0 j ks vs→(∀q x,dK vs q=some x→dK v0 (j+q)=some x)→ ∃A,KY r.e0 j ks vs v A∧kw s e ids A
 | [],j,vs,v,ids,h,_,_=>by
  injection h with h;injection h with h1 h2;subst h1;subst h2
  exact ⟨[],⟨rfl,rfl⟩,rfl⟩
 |k::ks,j,vs,v,ids,h,hp,hv=>by
  obtain ⟨pv,pr,rfl,p1,p2⟩:=hp
  have hv': ∀q x,dK pr q=some x→dK v0 (j+1+q)=some x:=fun q x hq=>by
   have:=hv (q+1) x hq
   rwa [show j+(q+1)=j+1+q by omega] at this
  have hjv:dK v0 j=some pv:=hv 0 pv rfl
  have hj:j<NP:=Nat.lt_of_lt_of_le (MY hjv) (Nat.le_trans (Nat.le_of_lt O.lt) (show PB≤NP by decide))
  have hpar:=O.I.par j hj
  have gen:Go.Proofs.YtjdlgannencchaaGreatDoor.outRw s (j+1) ks=some (v,ids)→ ∃A,KY r.e0 (j+1) ks pr v A∧kw s e ids A:=fun h=>Ou.outRw h p2 hv'
  cases k with
  |int k=>exact gen h
  |b=>exact gen h
  |s=>exact gen h
  |sl m E kk=>
   cases m with
   |ro=>exact gen h
   |tk=>exact gen h
   |mu=>
    obtain ⟨l0,rfl,_⟩:=p1
    simp only [Go.Proofs.YtjdlgannencchaaGreatDoor.outRw] at h
    split at h
    ·rename_i ct b u hth h2
     split at h
     ·rename_i c hc
      cases hb:Nat.beq c.rt j with
      |false=>rw [hb] at h;cases h
      |true=>
       rw [hb] at h
       simp only [cond_true] at h
       split at h
       ·rename_i l hl
        injection h with h;injection h with h4 h5;subst h4;subst h5
        obtain ⟨A,a1,a2⟩:=Ou.outRw h2 p2 hv'
        have hth:=dq hth
        obtain ⟨d,d1,d2,d3⟩:=O.I.wf.rt _ _ hc
        rw [lM hb,O.E.c _ _ (O.pv _ _ _ hjv)] at d1
        injection d1 with d1;subst d1
        obtain ⟨ck,cl,crt,csi⟩:=c
        obtain ⟨q,hq⟩:=js hl
        dsimp only at q;subst q;dsimp only at hq;subst hq
        refine ⟨FY r.e0 j E ck cl::A,⟨l0,cl,pr,b,A,rfl,rfl,d2,rfl,a1⟩,_,A,_,rfl,hth,⟨_,?_,ET.refl _⟩,a2⟩
        simp only [Th.den,hc,Option.map_some,FY,hpar.2.1,hpar.2.2.1];rfl
       ·cases h
     ·cases h
    ·cases h
   |kp=>
    simp only [Go.Proofs.YtjdlgannencchaaGreatDoor.outRw] at h
    split at h
    ·rename_i ct b u hth h2
     injection h with h;injection h with h4 h5;subst h4;subst h5
     obtain ⟨A,a1,a2⟩:=Ou.outRw h2 p2 hv'
     exact ⟨r.e0.y j::A,⟨A,rfl,a1⟩,_,A,_,rfl,hth,⟨_,by simp only [Th.den,hpar.2.2.2],ET.refl _⟩,a2⟩
    ·cases h
theorem Ou.outWs: ∀ {ps:List Prm} {j:Nat} {vs v:List PV} {ids:List (Option Nat)},outWs s j ps=some (v,ids)→fD r.w0 r.X r.e0 j (nY ps) vs→(∀q x,dK vs q=some x→dK v0 (j+q)=some x)→ ∃A,KZ r.e0 j ps vs v A∧kw s e ids A
 | [],j,vs,v,ids,h,_,_=>by
  injection h with h;injection h with h1 h2;subst h1;subst h2
  exact ⟨[],⟨rfl,rfl⟩,rfl⟩
 |p::ps,j,vs,v,ids,h,hp,hv=>by
  rw [show nY (p::ps)=p.ks++nY ps by simp [nY]] at hp
  obtain ⟨va,vb,rfl,p1,p2⟩:=oX hp
  have hl:=nX p1
  have ht:(va++vb).take p.ks.length=va:=by rw [←hl];simp
  have hdr:(va++vb).drop p.ks.length=vb:=by rw [←hl];simp
  have hv2: ∀q x,dK vb q=some x→dK v0 (j+p.ks.length+q)=some x:=fun q x hq=>by
   have:=hv (p.ks.length+q) x (by rw [←hl,Dv];exact hq)
   rwa [←Nat.add_assoc] at this
  have gen:(match Go.Proofs.YtjdlgannencchaaGreatDoor.outRw s j p.ks,Go.Proofs.YtjdlgannencchaaGreatDoor.outWs s (j+p.ks.length) ps with
   |some (a,t),some (b,u)=>some (a++b,t++u)
   |_,_=>none)=some (v,ids)→ ∃v1 v2 A1 A2,v=v1++v2∧KY r.e0 j p.ks va v1 A1∧KZ r.e0 (j+p.ks.length) ps vb v2 A2∧kw s e ids (A1++A2):=by
   intro h
   split at h
   ·rename_i h1 h2
    injection h with h;injection h with h4 h5;subst h4;subst h5
    obtain ⟨A,a1,a2⟩:=O.outRw h1 p1 (fun q x hq=>hv q x (wW hq))
    obtain ⟨B,b1,b2⟩:=Ou.outWs h2 p2 hv2
    exact ⟨_,_,A,B,rfl,a1,b1,a2.app b2⟩
   ·cases h
  cases p with
  |o k=>
   obtain ⟨v1,v2,A1,A2,rfl,a1,a2,a3⟩:=gen h
   exact ⟨A1++A2,⟨v1,v2,A1,A2,rfl,rfl,by rw [ht];exact a1,by rw [hdr];exact a2⟩,a3⟩
  |g ks=>
   obtain ⟨v1,v2,A1,A2,rfl,a1,a2,a3⟩:=gen h
   exact ⟨A1++A2,⟨v1,v2,A1,A2,rfl,rfl,by rw [ht];exact a1,by rw [hdr];exact a2⟩,a3⟩
  |bx T ks=>
   have hdr:(va++vb).drop ks.length=vb:=hdr
   obtain ⟨A,a1,a2⟩:=Ou.outWs (j:=j+ks.length) (by simpa only [Go.Proofs.YtjdlgannencchaaGreatDoor.outWs] using h) p2 hv2
   exact ⟨A,by show KZ r.e0 (j+ks.length) ps ((va++vb).drop ks.length) v A
               rw [hdr];exact a1,a2⟩
end
def ZZ (P:Program) (r:Rn) (F:Sg) (v0:List PV) (f:F.R) (a:Act) (w:World):Prop:=
 a.defers=[]∧ ∃us A,(F.rv.mapM (Nj a)).run P w= .ok us w∧Lj r.e0 F.ps F.rs v0 (Gh RK.put (zN F.ps F.rs) f) us A∧St r.w0 w (A++r.X)
theorem RT {P:Program} {G:Cx} {F:Sg} {r:Rn} {sI s:Sy} {e:Env} {a:Act} {w:World} {v0:List PV} {R:Type} {y:R} {k:F.R→Option R} (O:Ou P G r sI s e a w v0) (hp:fD r.w0 r.X r.e0 0 (nY F.ps) v0) (hi:F.ps.length≤PB) (hal: ∀k∈F.rs.flatMap RSh.ks,AlP v0 k) (h:Vi G F s k=some y): ∃f,k f=some y∧ZZ P r F v0 f a w:=by
 unfold Vi at h
 split at h
 ·rename_i v1 i1 v2 i2 v3 i3 h1 h2 h3
  cases hb:bN ((i1++(i2++i3)).filterMap id) with
  |false=>rw [hb] at h;cases h
  |true=>
   rw [hb] at h
   simp only [cond_true] at h
   split at h
   ·rename_i f hf
    have hv: ∀q x,dK v0 q=some x→dK v0 (0+q)=some x:=fun q x h=>by rw [Nat.zero_add];exact h
    obtain ⟨us,A0,A,a0,a1,a2,a3⟩:=O.outRs h1 hal
    obtain ⟨B0,B,b1,b2,b3⟩:=O.outBs h2 hp hv (by omega)
    obtain ⟨C,c1,c2⟩:=O.outWs h3 hp hv
    obtain ⟨L,hL,hS⟩:=O.I.st
    have S1:=St.ids hL hS (a2.app (b2.app c2)) hb
    have S2:=St.wkns (P:=[]) (B:=A++(B++C)) (by simpa using S1) (a3.app (b3.app (sJ.refl C)))
    refine ⟨f,h,O.I.df,us,A++(B++C),a0,⟨v1,v2,v3,A,B,C,?_,rfl,a1,b1,c1⟩,by simpa using S2⟩
    exact NF (put:=RK.put) (fun k v a h=>Wy h) hf
   ·cases h
 ·cases h
def alK (ps:List PK) (k:RK):Bool:=match k with
 | .al j=>(match dK ps j with |some (.sl _ _ _)=>true |_=>false)
 |_=>true
theorem UE {w0:World} {X:List Asn} {e:Env}: ∀ {ks:List PK} {vs:List PV} {j q:Nat},fD w0 X e j ks vs→(match dK ks q with |some (.sl _ _ _)=>true |_=>false)=true→ ∃kk l,dK vs q=some (.sl kk l)
 | [],vs,j,q,_,h=>by simp [dK] at h
 |k::ks,vs,j,q,hp,h=>by
  obtain ⟨v,vr,rfl,h1,h2⟩:=hp
  cases q with
  |zero=>
   cases k with
   |sl m E kk=>obtain ⟨l,rfl,_⟩:=h1;exact ⟨kk,l,rfl⟩
   |_=>cases h
  |succ q=>exact UE (q:=q) h2 h
theorem aal {P:Program} {G:Cx} {c:Ctr} {fn:Func} {body:Code} {rv:List ResultVar} {n:Nat} {crt:Crt} (hm:P.follows .mixedOrders=true) (hQ:GQ P G) (hf:P.funcs[c.f]?=some fn) (hb:fn.body=some body) (hn:fn.ntmps=n) (hr:fn.results=rv.toArray) (hal:(c.rs.flatMap RSh.ks).all (alK (nY c.ps))=true)
 (he: ∀x,c.m x=exF G ⟨c.ps,c.rs,rv,n⟩ crt body x):Uz P c:=by
 intro x res hx e w0 w X hbs hp hS
 rw [he] at hx
 unfold exF at hx
 dsimp only at hx
 cases hbb:(Nat.blt (nY c.ps).length PB&&Nat.blt c.ps.length PB&&Nat.ble c.ps.length n) with
 |false=>rw [hbb] at hx;cases hx
 |true=>
  rw [hbb] at hx
  simp only [cond_true] at hx
  simp only [Bool.and_eq_true] at hbb
  obtain ⟨⟨k1,k2⟩,k3⟩:=hbb
  have k1:(nY c.ps).length<PB:=by simpa using k1
  have k2:c.ps.length<PB:=by simpa using k2
  have k3:c.ps.length≤n:=by simpa using k3
  let v0:=Gh PK.put (nY c.ps) x
  let args:=ca e 0 0 c.ps v0
  let r:Rn:=⟨w0,X,n,e,hbs⟩
  have hlen: ∀ {ps:List Prm} {vs:List PV} {i j:Nat},fD w0 X e j (nY ps) vs→(ca e i j ps vs).length=ps.length:=by
   intro ps
   induction ps with
   |nil=>intro vs i j _;rfl
   |cons p ps ih=>
    intro vs i j h
    rw [show nY (p::ps)=p.ks++nY ps by simp [nY]] at h
    obtain ⟨va,vb,rfl,p1,p2⟩:=oX h
    have hl:=nX p1
    cases p with
    |o k=>
     have hdr:(va++vb).drop 1=vb:=by rw [show 1=va.length from hl.symm];simp
     have ht:(va++vb).take 1=va:=by rw [show 1=va.length from hl.symm];simp
     have hl:va.length=1:=hl
     simp only [ca,hdr,ht,List.length_append,Lm,List.length_cons,ih (j:=j+1) p2,hl]
     omega
    |g ks=>
     have hdr:(va++vb).drop ks.length=vb:=by rw [show ks.length=va.length from hl.symm];simp
     simp only [ca,hdr,List.length_cons,ih (j:=j+ks.length) p2]
    |bx T ks=>
     have hdr:(va++vb).drop ks.length=vb:=by rw [show ks.length=va.length from hl.symm];simp
     simp only [ca,hdr,List.length_cons,ih (j:=j+ks.length) p2]
  have hal':args.length=c.ps.length:=hlen hp
  refine calls_of_wp hf hb ?_
  let a0:Act:= {tmps:=args.toArray++Array.replicate (fn.ntmps-args.toArray.size) undef,defers:=[]}
  have hW0:Wf r sy0:=⟨nofun,nofun,nofun,nofun,nofun,nofun,nofun,nofun,nofun,Nat.le_refl _⟩
  have I0:Ini r sy0 0 0 args [] v0:=⟨hW0,nofun,by decide,nofun,⟨[],rfl,List.Perm.refl _⟩,fun q k l _ h=>by omega⟩
  obtain ⟨L',h1,h2⟩:=Se I0 hp (fun q v h=>by rw [Nat.zero_add];exact h) (by omega) (by omega) (fun q u h=>by rw [Nat.zero_add];exact h)
  rw [List.append_nil] at h1
  have hI:Inv r e a0 w (yY sy0 0 0 c.ps v0):=by
   refine ⟨?_,rfl,fun k v hk=>?_,?_,h2.wf,dL.refl _ _⟩
   ·show (args.toArray++Array.replicate (fn.ntmps-args.toArray.size) undef).size=n
    simp only [Array.size_append,List.size_toArray,Array.size_replicate,hn];omega
   ·obtain ⟨q1,u,q2,q3⟩:=h2.sl k v hk
    obtain ⟨q4,_⟩:=List.getElem?_eq_some_iff.1 q2
    have:sl a0 k=u:=by
     show (args.toArray++Array.replicate (fn.ntmps-args.toArray.size) undef)[k]?.getD undef=u
     rw [Array.getElem?_append_left (by simpa using q4)]
     simp [q2]
    rw [this];exact q3
   ·obtain ⟨L2,l1,l2⟩:=h2.th
    exact ⟨L2,l1,hS.perm ((l2.trans h1).symm.append_right _)⟩
  have hOu: ∀ {s:Sy} {e':Env} {a:Act} {w':World},Ext (yY sy0 0 0 c.ps v0) s→Inv r e' a w' s→Ou P G r (yY sy0 0 0 c.ps v0) s e' a w' v0:=fun hE I=>⟨hQ.gp,I,hE,fun q k l hq=>h2.v0 q k l hq (by
   have:=MY hq
   rw [nX hp] at this;omega),by rw [nX hp];exact k1⟩
  have hAl: ∀k∈c.rs.flatMap RSh.ks,AlP v0 k:=by
   intro k hk j hj
   have:=List.all_eq_true.1 hal k hk
   subst hj
   exact UE (q:=j) hp this
  have hend: ∀ {f:NH ((zN c.ps c.rs).map RK.ty)} {a:Act} {w':World},f=res→ZZ P r ⟨c.ps,c.rs,rv,n⟩ v0 f a w'→a.defers=[]∧ ∃v,(results fn a.tmps).run P w'= .ok v w'∧ ∃us A,Ending.returned v= .returned (QU us)∧Lj e c.ps c.rs v0 (Gh RK.put (zN c.ps c.rs) res) us A∧St w0 w' (A++X):=by
   rintro f a w' rfl ⟨hd,us,A,g1,g2,g3⟩
   refine ⟨hd,QU us,?_,us,A,rfl,g2,g3⟩
   rw [Kb,hr,List.mapM_toArray,map_eq_pure_bind]
   have g1:(rv.mapM (Nj a)).run P w'= .ok us w':=g1
   simp only [Sem.run_bind,g1,Result.andThen_ok,Sem.run_pure]
   congr 1
   cases us with
   |nil=>rfl
   |cons u us=>cases us with
    |nil=>rfl
    |cons u2 us=>simp [QU]
  refine adN (F:=⟨c.ps,c.rs,rv,n⟩) (sI:=yY sy0 0 0 c.ps v0) hm hQ rfl (ZZ P r ⟨c.ps,c.rs,rv,n⟩ v0) (fun hE I h=>RT (hOu hE I) hp (Nat.le_of_lt k2) hAl h) crt body _ _ res e a0 w _ hx (.refl _) hI (fun s' e' a' w' E1 A1 h1 I1=>?_) (fun i s' e' a' w' E1 A1 h1 I1=>by cases h1) (fun f a' w' h1 h2=>?_)
  ·obtain ⟨f,q1,q2⟩:=RT (hOu E1 I1) hp (Nat.le_of_lt k2) hAl h1
   injection q1 with q1
   exact hend q1 q2
  ·injection h1 with h1
   exact hend h1 h2
def aL (P:Program) (c:Ctr):Prop:=CallOk P c.f∧Uz P c
def Xx (P:Program):List Ctr→Prop
 | []=>True
 |c::l=>aL P c∧Xx P l
theorem Ob {P:Program}: ∀ {l:List Ctr},Xx P l→ ∀c∈l,aL P c
 |c::l,h,d,hd=>by
  rcases List.mem_cons.1 hd with rfl |hd
  ·exact h.1
  ·exact Ob h.2 d hd
def Xy (P:Program):List (Nat×EK)→Prop
 | []=>True
 |p::l=>EqP P p.1 p.2∧Xy P l
theorem Ot {P:Program}: ∀ {l:List (Nat×EK)},Xy P l→ ∀ {T k},lk l T=some k→EqP P T k
 | [],_,T,k,h=>by cases h
 |(d,x)::l,h,T,k,hx=>by
  rcases aT hx with ⟨rfl,rfl⟩ |hx
  ·exact h.1
  ·exact Ot h.2 hx
theorem cok {P:Program} {ti:List (Nat×TyI)} {eq:List (Nat×EK)} {cs:List Ctr} {op:List (Nat×Nat)} {c:Ctr} {fn:Func} {body:Code} {rv:List ResultVar} {n:Nat} {crt:Crt} (ht:PO P ti=true) (hq:Xy P eq) (hm:P.follows .mixedOrders=true) (hcs:Xx P cs) (hop:NQ P op) (hco:CallOk P c.f) (hf:P.funcs[c.f]?=some fn) (hb:fn.body=some body) (hn:fn.ntmps=n) (hr:fn.results=rv.toArray) (hal:(c.rs.flatMap RSh.ks).all (alK (nY c.ps))=true)
 (he: ∀x,c.m x=exF ⟨ti,eq,cs,op⟩ ⟨c.ps,c.rs,rv,n⟩ crt body x):aL P c:=
 ⟨hco,aal (G:=⟨ti,eq,cs,op⟩) hm ⟨⟨fun h=>Mh ht h,fun h=>Ot hq h⟩,Ob hcs,hop⟩ hf hb hn hr hal he⟩
theorem ZH {P:Program} {f:FuncId} {ps:List Prm} {own:Bool} {m:NH ((nY ps).map PK.ty)→Option (NH ((zN ps [.o .b]).map RK.ty))} (hc:aL P ⟨f,ps,[.o .b],own,m⟩) {x:NH ((nY ps).map PK.ty)} {res:NH ((zN ps [.o .b]).map RK.ty)} (hm:m x=some res) {e:Env} {w:World} {b:Bool} {args:List Value}
 (hbs:Bs w) (hp:fD w [] e 0 (nY ps) (Gh PK.put (nY ps) x)) (ht:dt e 0 0 ps (Gh PK.put (nY ps) x)=[]) (ha:ca e 0 0 ps (Gh PK.put (nY ps) x)=args) (ho:Gh RK.put (zN ps [.o .b]) res=[.b b]):Calls P f args.toArray w fun en w'=>en= .returned (.bool b)∧St w w' []:=by
 have h:=hc.2 x res hm e w w [] hbs hp (by rw [ht];exact St.nil w)
 rw [ha] at h
 refine h.mono ?_
 rintro en w' ⟨us,A,rfl,⟨v1,v2,v3,A1,A2,A3,hv,rfl,h1,h2,h3⟩,S⟩
 obtain ⟨v,vr,u,ur,B1,B2,rfl,rfl,rfl,⟨z,rfl,rfl,rfl⟩,rfl,rfl,rfl⟩:=h1
 rw [ho] at hv
 have:b=z:=by
  simp only [List.cons_append,List.nil_append,List.cons.injEq,PV.b.injEq] at hv
  exact hv.1
 subst this
 exact ⟨rfl,S.sub (List.nil_sublist _)⟩
def abg (l:List (Option Addr×Nat)):Env:=⟨fun _=>0,fun j=>(l.getD j (none,0)).1,fun j=>(l.getD j (none,0)).2,fun _=>.box 0 0 #[]⟩
def opA (c n:Nat) (A:Option Addr):Option Addr:=if 2000<n then bI c (0:Int).toNat 1 A else A
theorem Xd (l:List Int):l.take 2000=ai l 0 2000:=by simp [ai]
theorem Uh (c:Nat) (A:Option Addr):bI c (0:Int).toNat 1 A=A:=by
 unfold bI
 split
 ·rfl
 ·cases A with
  |none=>rfl
  |some a=>simp [Addr.add]
theorem YG (c n:Nat) (A:Option Addr):opA c n A=bI c (0:Int).toNat 1 A:=by
 unfold opA
 split
 ·rfl
 ·exact (Uh c A).symm
theorem Wg {α:Type} (l:List α):ai l 0 (Uy l.length)=l.take 2000:=by
 simp only [ai,Uy,Int.toNat_zero,List.drop_zero,Nat.sub_zero,Int.toNat_natCast]
 rw [Nat.min_def]
 split
 ·rfl
 ·rw [List.take_length,List.take_of_length_le (by omega)]
theorem YH {P:Program} {f T:Nat} (hc:CallOk P f) (h: ∀ {x0:List Int} {A0:Option Addr} {n0 c0:Nat} {w:World},Rt w 1 eU A0 n0 c0 x0→Calls P f #[.slice A0 n0 c0] w (fun e w'=> ∃G0,e= .returned (.pointer (some ⟨G0,0,none⟩))∧St w w' [.box G0 T #[.slice (opA c0 n0 A0) (x0.take 2000).length c0,.int .i64 0]])):PX P f T:=
 ⟨hc,fun x0 A0 n0 c0 w hr=>by
  have:=h hr
  rw [YG,←Wg] at this
  exact this⟩
end Go.Proofs.YtjdlgannencchaaGreatDoor
namespace Go.Proofs.YtjdlgannencchaaGreatDoor
open Go.Lib
set_option linter.unusedVariables false
def eG (c:UInt8):List UInt8→List (List UInt8)
 | []=> [[]]
 |x::l=>if x=c then []::eG c l else match eG c l with
  | []=> [[x]]
  |y::r=>(x::y)::r
theorem EX (c:UInt8): ∀l,eG c l≠ []
 | []=>by simp [eG]
 |x::l=>by
  have:=EX c l
  unfold eG;split
  ·simp
  ·split<;>simp
theorem yJ (c:UInt8): ∀l,(eG c l).length=l.count c+1
 | []=>rfl
 |x::l=>by
  have h:=yJ c l
  have hn:=EX c l
  unfold eG;split
  ·rename_i e;subst e;simp [h]
  ·rename_i e
   rw [List.count_cons_of_ne e]
   split
   ·contradiction
   ·rename_i e2;rw [e2] at h;simpa using h
theorem LM (c:UInt8): ∀l,join (eG c l) [c]=l
 | []=>by simp [eG,join_one]
 |x::l=>by
  have h:=LM c l
  have hn:=EX c l
  unfold eG;split
  ·rename_i e;subst e
   rw [join_cons]
   cases hc:eG x l with
   |nil=>contradiction
   |cons y r=>rw [hc,join_cons] at h;simp [joinTail,←h]
  ·split
   ·contradiction
   ·rename_i y r e2
    rw [e2,join_cons] at h
    rw [join_cons,←h];simp
theorem zZ (c:UInt8): ∀l,c∉l→eG c l=[l]
 | [],_=>rfl
 |x::l,h=>by
  simp only [List.mem_cons,not_or] at h
  unfold eG
  rw [if_neg (fun e=>h.1 e.symm),zZ c l h.2]
theorem Ti (c x:UInt8) (l:List UInt8):eG c (x::l)=if x=c then []::eG c l else match eG c l with
 | []=> [[x]]
 |y::r=>(x::y)::r:=rfl
theorem IM (c:UInt8) (b:List UInt8): ∀a,c∉a→eG c (a++c::b)=a::eG c b
 | [],_=>by simp [eG]
 |x::a,h=>by
  simp only [List.mem_cons,not_or] at h
  rw [List.cons_append,Ti,if_neg (fun e=>h.1 e.symm),IM c b a h.2]
theorem Jy (c:UInt8) (b:List UInt8): ∀a,c∉a→index (a++c::b) [c]=(a.length:Int)
 | [],_=>by unfold index;simp [List.isPrefixOf]
 |x::a,h=>by
  simp only [List.mem_cons,not_or] at h
  have ih:=Jy c b a h.2
  rw [List.cons_append]
  unfold index
  rw [ih]
  have h1:([c].isPrefixOf (x::(a++c::b)))=false:=by simp [List.isPrefixOf,h.1]
  have h2:(((a.length:Nat):Int)== -1)=false:=by rw [beq_eq_false_iff_ne];omega
  rw [h1,h2]
  simp
theorem Yz {c:UInt8} {l:List UInt8} (h:c∈l): ∃a b,l=a++c::b∧c∉a:=by
 induction l with
 |nil=>cases h
 |cons x l ih=>
  by_cases e:x=c
  ·subst e;exact ⟨[],l,rfl,by simp⟩
  ·obtain ⟨a,b,rfl,k⟩:=ih (by simpa [Ne.symm e] using h)
   exact ⟨x::a,b,rfl,by simp [Ne.symm e,k]⟩
theorem Kk (c:UInt8): ∀(k:Nat) (l:List UInt8),l.count c=k→splitK [c] 0 k l=eG c l
 |0,l,h=>by
  have:c∉l:=List.count_eq_zero.1 h
  rw [zZ c l this];rfl
 |k+1,l,h=>by
  have hm:c∈l:=List.count_pos_iff.1 (by omega)
  obtain ⟨a,b,rfl,hn⟩:=Yz hm
  rw [IM c b a hn]
  unfold splitK
  rw [Jy c b a hn]
  have h2:(((a.length:Nat):Int)== -1)=false:=by rw [beq_eq_false_iff_ne];omega
  rw [h2]
  have hc:b.count c=k:=by
   rw [List.count_append,List.count_cons_self,List.count_eq_zero.2 hn] at h;omega
  have:=Kk c k b hc
  simp [this]
def oE (c:UInt8):Bool:=decide (48≤c.toNat)&&decide (c.toNat≤57)
def dv (c:UInt8):Nat:=c.toNat-48
def qd (l:List UInt8):Nat:=l.foldl (fun n c=>10*n+dv c) 0
def Qo (l:List UInt8):Int:=if 1≤l.length∧l.length≤3∧l.all oE=true then (qd l:Int) else-1
def bh (l:List UInt8):Int:=if (1≤l.length∧l.length≤3∧l.all oE=true)∧ ¬(1<l.length∧l.headD 0=48) then (qd l:Int) else-1
theorem Fz {c:UInt8} (h:oE c=true):48≤c.toNat∧c.toNat≤57:=by simpa [oE] using h
theorem vP {c:UInt8} (h:oE c=true):dv c<10:=by have:=Fz h;unfold dv;omega
theorem Dp {c:UInt8} (h:oE c=true):UInt8.ofNat (48+dv c)=c:=by
 have:=Fz h
 have e:48+dv c=c.toNat:=by unfold dv;omega
 rw [e];simp
theorem RN {c:UInt8} (h:oE c=true):c=48↔dv c=0:=by
 have:=Fz h
 constructor
 ·rintro rfl;rfl
 ·intro e
  have e1:c.toNat=48:=by unfold dv at e;omega
  exact UInt8.toNat_inj.1 (by rw [e1];rfl)
theorem XV (l:List UInt8) (h:1≤l.length∧l.length≤3∧l.all oE=true):decDigits (qd l)=l↔ ¬(1<l.length∧l.headD 0=48):=by
 obtain ⟨h1,h2,h3⟩:=h
 match l,h1,h2,h3 with
 | [a],_,_,h3=>
  have ha:oE a=true:=by simpa using h3
  have h0:qd [a]=dv a:=by simp [qd]
  rw [h0,decDigits_one (vP ha),Dp ha];simp
 | [a,b],_,_,h3=>
  simp only [List.all_cons,List.all_nil,Bool.and_true,Bool.and_eq_true] at h3
  obtain ⟨ha,hb⟩:=h3
  have la:=vP ha;have lb:=vP hb
  have h0:qd [a,b]=10*dv a+dv b:=by simp [qd]
  rw [h0]
  simp only [List.length_cons,List.length_nil,List.headD_cons,RN ha]
  by_cases hz:dv a=0
  ·rw [hz,decDigits_one (by omega)];simp
  ·rw [decDigits_two (by omega) (by omega),show (10*dv a+dv b) / 10=dv a by omega,show (10*dv a+dv b) % 10=dv b by omega,Dp ha,Dp hb];simp [hz]
 | [a,b,c],_,_,h3=>
  simp only [List.all_cons,List.all_nil,Bool.and_true,Bool.and_eq_true] at h3
  obtain ⟨ha,hb,hc⟩:=h3
  have la:=vP ha;have lb:=vP hb;have lc:=vP hc
  have h0:qd [a,b,c]=10*(10*dv a+dv b)+dv c:=by simp [qd]
  rw [h0]
  simp only [List.length_cons,List.length_nil,List.headD_cons,RN ha]
  by_cases hz:dv a=0
  ·have hl:(decDigits (10*(10*dv a+dv b)+dv c)).length≤2:=by
    rw [hz]
    by_cases h10:10*(10*0+dv b)+dv c<10
    ·rw [decDigits_one h10];simp
    ·rw [decDigits_two h10 (by omega)];simp
   constructor
   ·intro e;rw [e] at hl;simp at hl
   ·intro e;exact absurd ⟨by omega,hz⟩ e
  ·rw [decDigits,dif_neg (by omega),decDigits_two (by omega) (by omega),show (10*(10*dv a+dv b)+dv c) / 10 / 10=dv a by omega,show (10*(10*dv a+dv b)+dv c) / 10 % 10=dv b by omega,show (10*(10*dv a+dv b)+dv c) % 10=dv c by omega,Dp ha,Dp hb,Dp hc];simp [hz]
theorem Wa (l:List UInt8):(0≤Qo l∧decDigits (Qo l).toNat=l)↔0≤bh l:=by
 unfold Qo bh
 by_cases h:1≤l.length∧l.length≤3∧l.all oE=true
 ·rw [if_pos h,Int.toNat_natCast,XV l h]
  by_cases h2:1<l.length∧l.headD 0=48
  ·rw [if_neg (fun k=>k.2 h2)];exact ⟨fun k=>absurd h2 k.2,fun k=>by omega⟩
  ·rw [if_pos ⟨h,h2⟩];simp only [h2,not_false_eq_true,and_true]
 ·rw [if_neg h,if_neg (fun k=>h k.1)];simp
theorem yR {l:List UInt8} (h:0≤bh l):Qo l=bh l:=by
 unfold bh at*
 split at h
 ·rename_i k;rw [if_pos k];unfold Qo;rw [if_pos k.1]
 ·omega
theorem Xh (l:List UInt8) (h:l.length≤3∧l.all oE=true):qd l<1000:=by
 obtain ⟨h2,h3⟩:=h
 match l,h2,h3 with
 | [],_,_=>simp [qd]
 | [a],_,h3=>have:=vP (c:=a) (by simpa using h3);simp [qd];omega
 | [a,b],_,h3=>
  simp only [List.all_cons,List.all_nil,Bool.and_true,Bool.and_eq_true] at h3
  have:=vP h3.1;have:=vP h3.2;simp [qd];omega
 | [a,b,c],_,h3=>
  simp only [List.all_cons,List.all_nil,Bool.and_true,Bool.and_eq_true] at h3
  have:=vP h3.1;have:=vP h3.2.1;have:=vP h3.2.2;simp [qd];omega
theorem aaq (l:List UInt8): -1≤Qo l∧Qo l<1000:=by
 unfold Qo;split
 ·rename_i h;have:=Xh l h.2;omega
 ·omega
theorem SC (l:List UInt8): -1≤bh l∧bh l<1000:=by
 unfold bh;split
 ·rename_i h;have:=Xh l h.1.2;omega
 ·omega
end Go.Proofs.YtjdlgannencchaaGreatDoor
namespace Go.Proofs.YtjdlgannencchaaGreatDoor
open Go.Lib
set_option linter.unusedVariables false
def aW (l:List UInt8):ByteArray:=⟨l.toArray⟩
theorem lN (l:List UInt8):(aW l).data.toList=l:=by simp [aW]
theorem mZ (l:List UInt8):(aW l).toList=l:=by rw [ByteArray.toList_eq];exact lN l
theorem eL (l:List UInt8):(aW l).size=l.length:=by show l.toArray.size=l.length;simp
theorem vI (s:ByteArray):aW s.data.toList=s:=by cases s;simp [aW]
def bH (n:Int):Option ByteArray:=aj (decide (-9223372036854775808≤n∧n≤9223372036854775807)) (some (aW (itoa n)))
def fH (s sep:ByteArray):Option (List ByteArray):=aj (decide (s.size<4294967281)&&decide (sep=aW [32])) (some ((eG 32 s.data.toList).map aW))
def dp (xs:List ByteArray) (sep:ByteArray):Option ByteArray:=aj (decide ((join (xs.map (·.data.toList)) sep.data.toList).length≤140737488355328∧xs.length≤140737488355328)) (some (aW (join (xs.map (·.data.toList)) sep.data.toList)))
def aY (n:Int):Option ByteArray:=aj (decide (0≤n∧n≤9223372036854775807)) (some (aW (decDigits n.toNat)))
def TE (b:Int) (ls:List (Int×Int×Int)):List UInt8:=itoa b++ls.flatMap fun x=>32::(itoa x.1++45::(itoa x.2.1++58::itoa x.2.2))
def n64 (n:Int):Bool:=decide (-9223372036854775808≤n∧n≤9223372036854775807)
def VV (b:Int) (ls:List (Int×Int×Int)):Bool:=n64 b&&decide (ls.length≤1000)&&ls.all fun x=>n64 x.1&&n64 x.2.1&&n64 x.2.2
def Ih:List (ByteArray×Int):=[(⟨#[111,110]⟩,0),(⟨#[111,102,102]⟩,1),(⟨#[101,97,114,116,104]⟩,2),(⟨#[99,108,101,97,114]⟩,3),(⟨#[98,114,101,97,107]⟩,6)]
def Ii:List (ByteArray×Int):=[(⟨#[105,115,115,117,101]⟩,4),(⟨#[114,101,116,117,114,110]⟩,5),(⟨#[109,101,110,100]⟩,7)]
def pO:List (ByteArray×Int)→ByteArray→Int×Bool
 | [],_=>(0,false)
 |(k,v)::l,s=>bif s==k then (v,true) else pO l s
end Go.Proofs.YtjdlgannencchaaGreatDoor
namespace Go.Proofs
open Go.Shelf
def Tryz.lays169_ren:Go.Shelf.Ren:=⟨fun |169=>104 |n=>n,fun |70=>129 |9=>9 |0=>0 |72=>131 |37=>22 |127=>193 |3=>3 |5=>5 |n=>n,fun |n=>n⟩
theorem Tryz.lays169:Go.Proofs.Lays.n169 Tryz.prog Tryz.lays169_ren:= {
 mixed:=by kernel_rfl
 f169:=Tryz.func104.trans (congrArg some (by kernel_rfl))
 t0:=Tryz.underlying0
 a0:=Tryz.isAgg0
 z0:=Tryz.sizeOf0
 v0:=Tryz.zeroValue0
 t3:=Tryz.underlying3
 a3:=Tryz.isAgg3
 z3:=Tryz.sizeOf3
 v3:=Tryz.zeroValue3
 t9:=Tryz.underlying9
 a9:=Tryz.isAgg9
 z9:=Tryz.sizeOf9
 v9:=Tryz.zeroValue9
 t37:=Tryz.underlying22
 a37:=Tryz.isAgg22
 z37:=Tryz.sizeOf22
 v37:=Tryz.zeroValue22
 t70:=Tryz.underlying129
 a70:=Tryz.isAgg129
 z70:=Tryz.sizeOf129
 v70:=Tryz.zeroValue129
 t72:=Tryz.underlying131
 a72:=Tryz.isAgg131
 z72:=Tryz.sizeOf131
 v72:=Tryz.zeroValue131
 t127:=Tryz.underlying193
 a127:=Tryz.isAgg193
 z127:=Tryz.sizeOf193
 v127:=Tryz.zeroValue193}
theorem Tryz.Builder_Extra_169:Builder.Extra Tryz.prog Tryz.lays169_ren:= {
 sizeBuilder:=by kernel_rfl
 liesBuilder:=by kernel_rfl
 t5:=Tryz.underlying5
 a5:=Tryz.isAgg5
 z5:=Tryz.sizeOf5
 v5:=Tryz.zeroValue5
 infoByte:=by kernel_rfl
 cellsByte:=by kernel_rfl
 sizeByte:=by kernel_rfl
 neB5:=by decide}
def Tryz.lays156_ren:Go.Shelf.Ren:=⟨fun |156=>122 |165=>184 |166=>102 |169=>104 |240=>166 |241=>218 |276=>202 |277=>235 |n=>n,fun |31=>34 |9=>9 |3=>3 |4=>4 |0=>0 |20=>20 |72=>131 |76=>134 |70=>129 |37=>22 |75=>133 |127=>193 |164=>217 |5=>5 |80=>136 |n=>n,fun |n=>n⟩
theorem Tryz.lays156:Go.Proofs.Lays.n156 Tryz.prog Tryz.lays156_ren:= {
 mixed:=by kernel_rfl
 f156:=Tryz.func122.trans (congrArg some (by kernel_rfl))
 f165:=Tryz.func184.trans (congrArg some (by kernel_rfl))
 f166:=Tryz.func102.trans (congrArg some (by kernel_rfl))
 f169:=Tryz.func104.trans (congrArg some (by kernel_rfl))
 f240:=Tryz.func166.trans (congrArg some (by kernel_rfl))
 f241:=Tryz.func218.trans (congrArg some (by kernel_rfl))
 f276:=Tryz.func202.trans (congrArg some (by kernel_rfl))
 f277:=Tryz.func235.trans (congrArg some (by kernel_rfl))
 t0:=Tryz.underlying0
 a0:=Tryz.isAgg0
 z0:=Tryz.sizeOf0
 v0:=Tryz.zeroValue0
 t3:=Tryz.underlying3
 a3:=Tryz.isAgg3
 z3:=Tryz.sizeOf3
 v3:=Tryz.zeroValue3
 t4:=Tryz.underlying4
 a4:=Tryz.isAgg4
 z4:=Tryz.sizeOf4
 v4:=Tryz.zeroValue4
 t9:=Tryz.underlying9
 a9:=Tryz.isAgg9
 z9:=Tryz.sizeOf9
 v9:=Tryz.zeroValue9
 t20:=Tryz.underlying20
 a20:=Tryz.isAgg20
 z20:=Tryz.sizeOf20
 v20:=Tryz.zeroValue20
 t31:=Tryz.underlying34
 a31:=Tryz.isAgg34
 z31:=Tryz.sizeOf34
 v31:=Tryz.zeroValue34
 t37:=Tryz.underlying22
 a37:=Tryz.isAgg22
 z37:=Tryz.sizeOf22
 v37:=Tryz.zeroValue22
 t70:=Tryz.underlying129
 a70:=Tryz.isAgg129
 z70:=Tryz.sizeOf129
 v70:=Tryz.zeroValue129
 t72:=Tryz.underlying131
 a72:=Tryz.isAgg131
 z72:=Tryz.sizeOf131
 v72:=Tryz.zeroValue131
 t75:=Tryz.underlying133
 a75:=Tryz.isAgg133
 z75:=Tryz.sizeOf133
 v75:=Tryz.zeroValue133
 t76:=Tryz.underlying134
 a76:=Tryz.isAgg134
 z76:=Tryz.sizeOf134
 v76:=Tryz.zeroValue134
 t127:=Tryz.underlying193
 a127:=Tryz.isAgg193
 z127:=Tryz.sizeOf193
 v127:=Tryz.zeroValue193
 t164:=Tryz.underlying217
 a164:=Tryz.isAgg217
 z164:=Tryz.sizeOf217
 v164:=Tryz.zeroValue217}
theorem Tryz.Builder_Extra_156:Builder.Extra Tryz.prog Tryz.lays156_ren:= {
 sizeBuilder:=by kernel_rfl
 liesBuilder:=by kernel_rfl
 t5:=Tryz.underlying5
 a5:=Tryz.isAgg5
 z5:=Tryz.sizeOf5
 v5:=Tryz.zeroValue5
 infoByte:=by kernel_rfl
 cellsByte:=by kernel_rfl
 sizeByte:=by kernel_rfl
 neB5:=by decide}
open Go.RowKit in
theorem Tryz.strings_Join (bk o c:Nat) (xs:List ByteArray) (sep:ByteArray) (w:World) (hcells: ∀(j:Nat) x,xs[j]?=some x→w.cell? ⟨bk,o+j,none⟩=some (.string x)) (hbk:bk<w.heap.size) (hN:xs.length≤140737488355328) (hcap:xs.length≤c) (hlen:(Lib.join (xs.map (·.data.toList)) sep.data.toList).length≤140737488355328):
 Calls Tryz.prog 122 #[.slice (some ⟨bk,o,none⟩) xs.length c,.string sep] w fun e w'=>e= .returned (.string ⟨(Lib.join (xs.map (·.data.toList)) sep.data.toList).toArray⟩)∧Below w.heap.size w w':=Any.strings_Join Tryz.lays156 Tryz.Builder_Extra_156 bk o c xs sep w hcells hbk hN hcap hlen
open Go.RowKit in
theorem Tryz.Builder_String_any_k (B b:Nat) (l:List UInt8) (w:World) (h:Lib.IsBuilderF 131 5 B b (Lib.byteCells l) w) (hBw:B≤w.heap.size):
 Calls Tryz.prog 104 #[.pointer (some ⟨b,0,none⟩)] w fun e w'=>e= .returned (.string ⟨l.toArray⟩)∧(Lib.IsBuilderF 131 5 B b (Lib.byteCells l) w'∧Below B w w'∧Lib.OthersKept 5 (some b) w w'):=Any.Builder_String_any_k Tryz.lays169 Tryz.Builder_Extra_169 B b l w h hBw
def Tryz.laysM171_ren:Go.Shelf.Ren:=⟨fun |171=>103 |243=>167 |246=>203 |283=>223 |284=>224 |285=>225 |286=>226 |129=>241 |317=>240 |318=>242 |319=>243 |320=>244 |337=>249 |338=>250 |n=>n,fun |3=>3 |9=>9 |2=>2 |4=>4 |171=>230 |0=>0 |53=>231 |37=>22 |5=>5 |173=>234 |212=>240 |51=>241 |20=>20 |213=>242 |46=>227 |232=>252 |233=>253 |n=>n,fun |17=>1 |18=>4 |19=>5 |n=>n⟩
theorem Tryz.laysM171:Go.Proofs.LaysM.n171 Tryz.prog Tryz.laysM171_ren:= {
 mixed:=by kernel_rfl
 f129:=Tryz.func241.trans (congrArg some (by kernel_rfl))
 f171:=Tryz.func103.trans (congrArg some (by kernel_rfl))
 f243:=Tryz.func167.trans (congrArg some (by kernel_rfl))
 f246:=Tryz.func203.trans (congrArg some (by kernel_rfl))
 f283:=Tryz.func223.trans (congrArg some (by kernel_rfl))
 f284:=Tryz.func224.trans (congrArg some (by kernel_rfl))
 f285:=Tryz.func225.trans (congrArg some (by kernel_rfl))
 f286:=Tryz.func226.trans (congrArg some (by kernel_rfl))
 f317:=Tryz.func240.trans (congrArg some (by kernel_rfl))
 f318:=Tryz.func242.trans (congrArg some (by kernel_rfl))
 f319:=Tryz.func243.trans (congrArg some (by kernel_rfl))
 f320:=Tryz.func244.trans (congrArg some (by kernel_rfl))
 f337:=Tryz.func249.trans (congrArg some (by kernel_rfl))
 f338:=Tryz.func250.trans (congrArg some (by kernel_rfl))
 t0:=Tryz.underlying0
 a0:=Tryz.isAgg0
 z0:=Tryz.sizeOf0
 v0:=Tryz.zeroValue0
 t2:=Tryz.underlying2
 a2:=Tryz.isAgg2
 z2:=Tryz.sizeOf2
 v2:=Tryz.zeroValue2
 t3:=Tryz.underlying3
 a3:=Tryz.isAgg3
 z3:=Tryz.sizeOf3
 v3:=Tryz.zeroValue3
 t4:=Tryz.underlying4
 a4:=Tryz.isAgg4
 z4:=Tryz.sizeOf4
 v4:=Tryz.zeroValue4
 t5:=Tryz.underlying5
 a5:=Tryz.isAgg5
 z5:=Tryz.sizeOf5
 v5:=Tryz.zeroValue5
 t9:=Tryz.underlying9
 a9:=Tryz.isAgg9
 z9:=Tryz.sizeOf9
 v9:=Tryz.zeroValue9
 t20:=Tryz.underlying20
 a20:=Tryz.isAgg20
 z20:=Tryz.sizeOf20
 v20:=Tryz.zeroValue20
 t37:=Tryz.underlying22
 a37:=Tryz.isAgg22
 z37:=Tryz.sizeOf22
 v37:=Tryz.zeroValue22
 t46:=Tryz.underlying227
 a46:=Tryz.isAgg227
 z46:=Tryz.sizeOf227
 v46:=Tryz.zeroValue227
 t51:=Tryz.underlying241
 a51:=Tryz.isAgg241
 z51:=Tryz.sizeOf241
 v51:=Tryz.zeroValue241
 t53:=Tryz.underlying231
 a53:=Tryz.isAgg231
 z53:=Tryz.sizeOf231
 v53:=Tryz.zeroValue231
 t171:=Tryz.underlying230
 a171:=Tryz.isAgg230
 z171:=Tryz.sizeOf230
 v171:=Tryz.zeroValue230
 t173:=Tryz.underlying234
 a173:=Tryz.isAgg234
 z173:=Tryz.sizeOf234
 v173:=Tryz.zeroValue234
 t212:=Tryz.underlying240
 a212:=Tryz.isAgg240
 z212:=Tryz.sizeOf240
 v212:=Tryz.zeroValue240
 t213:=Tryz.underlying242
 a213:=Tryz.isAgg242
 z213:=Tryz.sizeOf242
 t232:=Tryz.underlying252
 a232:=Tryz.isAgg252
 z232:=Tryz.sizeOf252
 v232:=Tryz.zeroValue252
 t233:=Tryz.underlying253
 a233:=Tryz.isAgg253
 z233:=Tryz.sizeOf253
 v233:=Tryz.zeroValue253
 g17:=by kernel_rfl
 g18:=by kernel_rfl
 g19:=by kernel_rfl
 i0:=by kernel_rfl
 i2:=by kernel_rfl
 i3:=by kernel_rfl
 i4:=by kernel_rfl
 i5:=by kernel_rfl
 i9:=by kernel_rfl
 i20:=by kernel_rfl
 i37:=by kernel_rfl
 i46:=by kernel_rfl
 i51:=by kernel_rfl
 i53:=by kernel_rfl
 i171:=by kernel_rfl
 i173:=by kernel_rfl
 i212:=by kernel_rfl
 i232:=by kernel_rfl
 i233:=by kernel_rfl
 m17:=by kernel_rfl
 m18:=by kernel_rfl
 m19:=by kernel_rfl}
def Tryz.lays146_ren:Go.Shelf.Ren:=⟨fun |146=>51 |221=>117 |268=>176 |138=>177 |143=>178 |195=>208 |197=>209 |218=>210 |219=>211 |260=>227 |217=>228 |225=>229 |224=>230 |267=>231 |266=>245 |314=>246 |n=>n,fun |9=>9 |31=>34 |3=>3 |4=>4 |0=>0 |105=>224 |21=>21 |5=>5 |46=>227 |119=>244 |139=>247 |138=>246 |146=>248 |51=>241 |n=>n,fun |1=>0 |3=>2 |4=>3 |n=>n⟩
theorem Tryz.lays146:Go.Proofs.Lays.n146 Tryz.prog Tryz.lays146_ren:= {
 mixed:=by kernel_rfl
 f138:=Tryz.func177.trans (congrArg some (by kernel_rfl))
 f143:=Tryz.func178.trans (congrArg some (by kernel_rfl))
 f146:=Tryz.func51.trans (congrArg some (by kernel_rfl))
 f195:=Tryz.func208.trans (congrArg some (by kernel_rfl))
 f197:=Tryz.func209.trans (congrArg some (by kernel_rfl))
 f217:=Tryz.func228.trans (congrArg some (by kernel_rfl))
 f218:=Tryz.func210.trans (congrArg some (by kernel_rfl))
 f219:=Tryz.func211.trans (congrArg some (by kernel_rfl))
 f221:=Tryz.func117.trans (congrArg some (by kernel_rfl))
 f224:=Tryz.func230.trans (congrArg some (by kernel_rfl))
 f225:=Tryz.func229.trans (congrArg some (by kernel_rfl))
 f260:=Tryz.func227.trans (congrArg some (by kernel_rfl))
 f266:=Tryz.func245.trans (congrArg some (by kernel_rfl))
 f267:=Tryz.func231.trans (congrArg some (by kernel_rfl))
 f268:=Tryz.func176.trans (congrArg some (by kernel_rfl))
 f314:=Tryz.func246.trans (congrArg some (by kernel_rfl))
 t0:=Tryz.underlying0
 a0:=Tryz.isAgg0
 z0:=Tryz.sizeOf0
 v0:=Tryz.zeroValue0
 t3:=Tryz.underlying3
 a3:=Tryz.isAgg3
 z3:=Tryz.sizeOf3
 v3:=Tryz.zeroValue3
 t4:=Tryz.underlying4
 a4:=Tryz.isAgg4
 z4:=Tryz.sizeOf4
 v4:=Tryz.zeroValue4
 t5:=Tryz.underlying5
 a5:=Tryz.isAgg5
 z5:=Tryz.sizeOf5
 v5:=Tryz.zeroValue5
 t9:=Tryz.underlying9
 a9:=Tryz.isAgg9
 z9:=Tryz.sizeOf9
 v9:=Tryz.zeroValue9
 t21:=Tryz.underlying21
 a21:=Tryz.isAgg21
 z21:=Tryz.sizeOf21
 v21:=Tryz.zeroValue21
 t31:=Tryz.underlying34
 a31:=Tryz.isAgg34
 z31:=Tryz.sizeOf34
 v31:=Tryz.zeroValue34
 t46:=Tryz.underlying227
 a46:=Tryz.isAgg227
 z46:=Tryz.sizeOf227
 v46:=Tryz.zeroValue227
 t51:=Tryz.underlying241
 a51:=Tryz.isAgg241
 z51:=Tryz.sizeOf241
 v51:=Tryz.zeroValue241
 t105:=Tryz.underlying224
 a105:=Tryz.isAgg224
 z105:=Tryz.sizeOf224
 v105:=Tryz.zeroValue224
 t119:=Tryz.underlying244
 a119:=Tryz.isAgg244
 z119:=Tryz.sizeOf244
 t138:=Tryz.underlying246
 a138:=Tryz.isAgg246
 z138:=Tryz.sizeOf246
 v138:=Tryz.zeroValue246
 t139:=Tryz.underlying247
 a139:=Tryz.isAgg247
 z139:=Tryz.sizeOf247
 v139:=Tryz.zeroValue247
 t146:=Tryz.underlying248
 a146:=Tryz.isAgg248
 z146:=Tryz.sizeOf248
 v146:=Tryz.zeroValue248
 g1:=by kernel_rfl
 g3:=by kernel_rfl
 g4:=by kernel_rfl}
open Go.RowKit Go.Lib in
theorem Tryz.strings_Split (s sep:ByteArray) (m:Int) (w:World) (hs:s.size<4294967281) (hm:w.cell? ⟨0,0,none⟩=some (.int .i64 m)) (h1:1≤sep.size):
 Calls Tryz.prog 51 #[.string s,.string sep] w fun e w'=>
  e= .returned (.slice (some ⟨w.heap.size,0,none⟩) (Lib.countB s sep+1) (Lib.countB s sep+1))∧w'=w.alloc (.cells ((Lib.splitB sep 0 (Lib.countB s sep) s).map Value.string).toArray 9):=Any.strings_Split Tryz.lays146 (by kernel_rfl) s sep m w hs hm h1
end Go.Proofs
namespace Go.Proofs.YtjdlgannencchaaGreatDoor
open Go.ChangeShapes Go.WideShapes Go.ChangeAt Go.RowKit
set_option linter.unusedVariables false
set_option linter.unusedSimpArgs false
theorem Qe (w:World) (k:Nat) (os:Array Obj):Below w.heap.size w (Go.Sort.grow (w.drewN k) os):=by
 have h: ∀k,(w.drewN k).heap=w.heap∧(w.drewN k).os=w.os∧(w.drewN k).tape=w.tape∧(w.drewN k).output=w.output:=by
  intro k
  induction k with
  |zero=>exact ⟨rfl,rfl,rfl,rfl⟩
  |succ k ih=>exact ih
 obtain ⟨h1,h2,h3,h4⟩:=h k
 refine ⟨h2,h3,h4,by simp [Go.Sort.grow,h1],fun b hb=>?_⟩
 show ((w.drewN k).heap++os)[b]?=_
 rw [h1,Array.getElem?_append_left hb]
theorem tv {w:World} (hb:Bs w) {n:Int} (h: -9223372036854775808≤n∧n≤9223372036854775807) {w1:World} (h1:Below w.heap.size w w1):Calls Tryz.prog 103 #[.int .i64 n] w1 fun e w'=>e= .returned (.string (aW (Lib.itoa n)))∧Below w1.heap.size w1 w':=by
 refine (Any.strconv_Itoa Tryz.laysM171 n h.1 h.2 w1 (hb.1 w1 h1)).mono ?_
 rintro e w' ⟨rfl,k,os,rfl⟩
 exact ⟨rfl,Qe _ _ _⟩
theorem aaU {n:Int} {r:ByteArray} (h:bH n=some r):(-9223372036854775808≤n∧n≤9223372036854775807)∧aW (Lib.itoa n)=r:=by
 obtain ⟨h,hm⟩:=cI h
 injection hm with hm
 exact ⟨of_decide_eq_true h,hm⟩
theorem Wo {e:Env} {ps:List Prm} {x:NH ((nY ps).map PK.ty)} (s:ByteArray) (hps:KX e (FK (Gh PK.put (nY ps) x)) 0 0 ps (Gh PK.put (nY ps) x) [] []) (hw:KZ e 0 ps (Gh PK.put (nY ps) x) [] []):Lj e ps [.o .s] (Gh PK.put (nY ps) x) [.s s] [.string s] []:=
 ⟨[_],[],[],[],[],[],rfl,rfl,⟨_,[],_,[],[],[],rfl,rfl,rfl,⟨_,rfl,rfl,rfl⟩,rfl,rfl,rfl⟩,hps,hw⟩
theorem Yg (co:CallOk Tryz.prog 103):aL Tryz.prog ⟨103,[.o (.int .i64)],[.o .s],false,fun x=>bH x⟩:=⟨co,fun x res hm e w0 w X hbs hp hS=>by
 obtain ⟨h,hm⟩:=aaU (n:=x) hm
 subst hm
 refine (tv hbs h hS.below).mono ?_
 rintro en w' ⟨rfl,hb⟩
 exact ⟨[_],[],rfl,Wo (ps:=[.o (.int .i64)]) (x:=x) _ ⟨rfl,rfl⟩ ⟨[],[],[],[],rfl,rfl,⟨rfl,rfl⟩,⟨rfl,rfl⟩⟩,hS.quiet hb⟩⟩
theorem Ug (s:ByteArray):Lib.splitB (aW [32]) 0 (Lib.countB s (aW [32])) s=(eG 32 s.data.toList).map aW:=by
 have h:=Lib.splitB_data (aW [32]) 0 (Lib.countB s (aW [32])) s
 have hc:Lib.countB s (aW [32])=s.data.toList.count 32:=Lib.count_one 32 s.data.toList
 rw [lN,Kk 32 _ _ hc.symm] at h
 rw [←h,List.map_map]
 conv=>lhs;rw [←List.map_id (Lib.splitB _ _ _ _)]
 exact List.map_congr_left fun a _=>(vI a).symm
theorem Vq (co:CallOk Tryz.prog 51):aL Tryz.prog ⟨51,[.o .s,.o .s],[.o (.row 9 .s)],false,fun x=>fH x.1 x.2⟩:=⟨co,fun x res hm e w0 w X hbs hp hS=>by
 obtain ⟨s,sep⟩:=x
 obtain ⟨h,hm⟩:=cI (show fH s sep=some res from hm)
 injection hm with hm
 subst hm
 simp only [Bool.and_eq_true,decide_eq_true_eq] at h
 obtain ⟨h1,rfl⟩:=h
 obtain ⟨m,hm⟩:=hbs.2
 refine (Tryz.strings_Split s (aW [32]) m w h1 (hm w hS.below) (by decide)).mono ?_
 rintro en w' ⟨rfl,rfl⟩
 rw [Ug]
 have hl:Lib.countB s (aW [32])+1=((eG 32 s.data.toList).map aW).length:=by
  rw [List.length_map,yJ];exact congrArg (· +1) (Lib.count_one 32 s.data.toList)
 rw [hl]
 have hle:((eG 32 s.data.toList).map aW).length≤1099511627776:=by
  rw [List.length_map,yJ]
  have:=List.count_le_length (a:=(32:UInt8)) (l:=s.data.toList)
  have h2:s.data.toList.length=s.size:=by simp
  omega
 have hf:((eG 32 s.data.toList).map aW).map Value.string=((eG 32 s.data.toList).map aW).flatMap (EK.s).enc:=by
  rw [List.map_eq_flatMap];rfl
 rw [hf]
 have S:=(St.nil w).newrowL (e:=(EK.s).enc) (ls:=(eG 32 s.data.toList).map aW) (E:=9) (size:=1) (m:=((eG 32 s.data.toList).map aW).length) rfl (fun _=>rfl) hle
 exact ⟨[_],[_],rfl,⟨[_],[],[],[_],[],[],rfl,rfl,⟨_,[],_,[],[_],[],rfl,rfl,rfl,⟨_,_,_,rfl,rfl,rfl⟩,rfl,rfl,rfl⟩,⟨rfl,rfl⟩,⟨[],[],[],[],rfl,rfl,⟨rfl,rfl⟩,⟨[],[],[],[],rfl,rfl,⟨rfl,rfl⟩,⟨rfl,rfl⟩⟩⟩⟩,hS.call S⟩⟩
theorem aaW {xs:List ByteArray} {sep r:ByteArray} (h:dp xs sep=some r):((Lib.join (xs.map (·.data.toList)) sep.data.toList).length≤140737488355328∧xs.length≤140737488355328)∧aW (Lib.join (xs.map (·.data.toList)) sep.data.toList)=r:=by
 obtain ⟨h,hm⟩:=cI h
 injection hm with hm
 exact ⟨of_decide_eq_true h,hm⟩
theorem Yh (co:CallOk Tryz.prog 122):aL Tryz.prog ⟨122,[.o (.sl .ro 9 .s),.o .s],[.o .s],false,fun x=>dp x.1 x.2⟩:=⟨co,fun x res hm e w0 w X hbs hp hS=>by
 obtain ⟨xs,sep⟩:=x
 obtain ⟨h,hm⟩:=aaW (xs:=xs) (sep:=sep) hm
 subst hm
 obtain ⟨v,vr,hv,⟨l,hl,hro⟩,_⟩:=hp
 have hl:=(List.head_eq_of_cons_eq hv).trans hl
 injection hl with _ hl
 subst hl
 have R:=hro w _ hS (fun y hy=>List.mem_append_right _ hy)
 have DD: ∀ {en:Ending} {w':World},(en= .returned (.string (aW (Lib.join (xs.map (·.data.toList)) sep.data.toList)))∧Below w.heap.size w w')→ ∃us A,en= .returned (QU us)∧Lj e [.o (.sl .ro 9 .s),.o .s] [.o .s] (Gh PK.put (nY [.o (.sl .ro 9 .s),.o .s]) (xs,sep)) [.s (aW (Lib.join (xs.map (·.data.toList)) sep.data.toList))] us A∧St w0 w' (A++X):=by
  rintro en w' ⟨rfl,hb⟩
  exact ⟨[_],[],rfl,Wo (ps:=[.o (.sl .ro 9 .s),.o .s]) (x:=(xs,sep)) _ ⟨rfl,rfl⟩ ⟨[],[],[],[],rfl,rfl,⟨rfl,rfl⟩,⟨[],[],[],[],rfl,rfl,⟨rfl,rfl⟩,⟨rfl,rfl⟩⟩⟩,hS.quiet hb⟩
 show Calls Tryz.prog 122 #[.slice (e.a 0) xs.length (e.c 0),.string sep] w _
 cases xs with
 |nil=>
  refine (Any.strings_Join_none Tryz.lays156 Tryz.Builder_Extra_156 (e.a 0) (e.c 0) sep w).mono ?_
  rintro en w' ⟨rfl,rfl⟩
  exact DD ⟨rfl,Below.refl _ _⟩
 |cons y r=>
  obtain ⟨b,off,hA,hcell⟩:=R.rd.2 (by simp)
  rw [hA]
  have hf: ∀(l:List ByteArray),l.flatMap (EK.s).enc=l.map Value.string:=fun l=>by rw [List.map_eq_flatMap];rfl
  rw [hf] at hcell
  have hc: ∀(j:Nat) z,(y::r)[j]?=some z→w.cell? ⟨b,off+j,none⟩=some (.string z):=fun j z hz=>hcell j _ (by rw [List.getElem?_map,hz];rfl)
  have hbk:b<w.heap.size:=by
   have:=hc 0 y rfl
   rcases Nat.lt_or_ge b w.heap.size with h |h
   ·exact h
   ·simp [World.cell?,Array.getElem?_eq_none h] at this
  refine (Tryz.strings_Join b off (e.c 0) (y::r) sep w hc hbk h.2 R.cap h.1).mono ?_
  rintro en w' hh
  exact DD hh⟩
end Go.Proofs.YtjdlgannencchaaGreatDoor
namespace Go.Proofs.YtjdlgannencchaaGreatDoor
open Go.Shelf
set_option maxRecDepth 100000
def nW:Ren where
 f:=fun x=>match x with |21=>181 |27=>214 |28=>215 |35=>233 |39=>247 |n=>n
 t:=fun x=>match x with |22=>31 |3=>3 |4=>4 |0=>0 |n=>n
 g:=fun n=>n
theorem Fy:Lays2.n21 Tryz.prog nW:=
{mixed:=Eq.refl true,f21:=Eq.trans Tryz.func181 (congrArg some (Eq.refl (Body2.n21 nW))),
 f27:=Eq.trans Tryz.func214 (congrArg some (Eq.refl (Body2.n27 nW))),
 f28:=Eq.trans Tryz.func215 (congrArg some (Eq.refl (Body2.n28 nW))),
 f35:=Eq.trans Tryz.func233 (congrArg some (Eq.refl (Body2.n35 nW))),
 f39:=Eq.trans Tryz.func247 (congrArg some (Eq.refl (Body2.n39 nW))),t0:=Tryz.underlying0,
 a0:=Tryz.isAgg0,z0:=Tryz.sizeOf0,v0:=Tryz.zeroValue0,t3:=Tryz.underlying3,a3:=Tryz.isAgg3,
 z3:=Tryz.sizeOf3,v3:=Tryz.zeroValue3,t4:=Tryz.underlying4,a4:=Tryz.isAgg4,z4:=Tryz.sizeOf4,
 v4:=Tryz.zeroValue4,t22:=Tryz.underlying31,a22:=Tryz.isAgg31,z22:=Tryz.sizeOf31,v22:=Tryz.zeroValue31,
 i3:=Eq.refl (some (some (Value.int IntKind.i64 0),1,8))}
end Go.Proofs.YtjdlgannencchaaGreatDoor
namespace Go.Proofs.YtjdlgannencchaaGreatDoor
open Go.ChangeShapes Go.WideShapes Go.ChangeAt Go.RowKit
set_option linter.unusedVariables false
set_option linter.unusedSimpArgs false
def over:Array Value→Nat→List Value→Array Value
 |cs,_,[]=>cs
 |cs,o,v::vs=>over (cs.setIfInBounds o v) (o+1) vs
theorem pZ: ∀(vs:List Value) (cs:Array Value) (o:Nat),(over cs o vs).size=cs.size
 | [],_,_=>rfl
 |v::vs,cs,o=>by rw [over,pZ vs];simp
theorem zO: ∀(vs:List Value) (cs:Array Value) (o k:Nat),o+vs.length≤cs.size→(over cs o vs)[k]?=if o≤k∧k<o+vs.length then vs[k-o]? else cs[k]?
 | [],cs,o,k,_=>by rw [over,if_neg (by simp only [List.length_nil];omega)]
 |v::vs,cs,o,k,h=>by
  simp only [List.length_cons] at h ⊢
  rw [over,zO vs _ _ k (by simp;omega)]
  by_cases h1:k=o
  ·subst h1
   rw [if_neg (by omega),if_pos (by omega)]
   simp [show k<cs.size by omega]
  ·by_cases h2:o+1≤k∧k<o+1+vs.length
   ·rw [if_pos h2,if_pos (by omega),show k-o=(k-(o+1))+1 by omega];rfl
   ·rw [if_neg h2,if_neg (by omega)]
    rw [Array.getElem?_setIfInBounds_ne (by omega)]
theorem JY {g:Nat} {E:TypeId}: ∀(vs:List Value) (cs:Array Value) (o:Nat) (w:World),Bk w g E cs→Bk (w.setCells g o vs) g E (over cs o vs)∧Grown w (w.setCells g o vs) [g]
 | [],cs,o,w,h=>⟨h,⟨rfl,rfl,rfl,Nat.le_refl _,fun _ _ _=>rfl⟩⟩
 |v::vs,cs,o,w,h=>by
  have h1:Bk (w.setCell ⟨g,o,none⟩ v) g E (cs.setIfInBounds o v):=h.set_ o v
  obtain ⟨a,b⟩:=JY vs _ (o+1) _ h1
  exact ⟨a,(Grown.set w g o v).trans b⟩
theorem Tw {cur:Array Value} {xs:List Value} {y:Value} {off n i c:Nat} (hx:(cur.toList.drop off).take n=xs) (hl:xs.length=n) (hi:i≤n) (hc:n+1≤c) (hs:off+c≤cur.size):
 ((over (over cur (off+(i+1)) (xs.drop i)) (off+i) [y]).toList.drop off).take (n+1)=xs.take i++ [y]++xs.drop i:=by
 have hd:(xs.drop i).length=n-i:=by rw [List.length_drop,hl]
 apply List.ext_getElem?
 intro k
 by_cases hk:k<n+1
 ·rw [List.getElem?_take,if_pos hk,List.getElem?_drop,Array.getElem?_toList,zO _ _ _ _ (by rw [pZ];simp;omega),zO _ _ _ _ (by rw [hd];omega)]
  have hxk: ∀j,j<n→xs[j]?=cur[off+j]?:=fun j hj=>by rw [←hx,List.getElem?_take,if_pos hj,List.getElem?_drop,Array.getElem?_toList]
  simp only [List.length_singleton,hd]
  by_cases h1:k<i
  ·rw [if_neg (by omega),if_neg (by omega),List.append_assoc,List.getElem?_append_left (by rw [List.length_take];omega),List.getElem?_take,if_pos h1,hxk k (by omega)]
  ·have hti:(xs.take i).length=i:=by rw [List.length_take];omega
   rw [List.append_assoc,List.getElem?_append_right (by omega),hti]
   by_cases h2:k=i
   ·subst h2
    rw [if_pos (by omega)];simp
   ·rw [if_neg (by omega),if_pos (by omega),show k-i=(k-i-1)+1 by omega]
    show (xs.drop i)[off+k-(off+(i+1))]?=(xs.drop i)[k-i-1]?
    congr 1;omega
 ·rw [List.getElem?_eq_none (by rw [List.length_take];omega),List.getElem?_eq_none (by simp only [List.length_append,List.length_take,List.length_drop,List.length_singleton];omega)]
end Go.Proofs.YtjdlgannencchaaGreatDoor
namespace Go.Proofs.YtjdlgannencchaaGreatDoor
open Go.ChangeShapes Go.WideShapes Go.ChangeAt Go.RowKit Go.Lib
set_option linter.unusedVariables false
set_option linter.unusedSimpArgs false
theorem xl (x:List Int):x.flatMap eI=x.map (Value.int .i64):=by
 induction x with
 |nil=>rfl
 |cons a x ih=>rw [List.flatMap_cons,ih];rfl
theorem aer (x:List Int): ∀v∈x.flatMap eI,v.oneCell'=true:=by
 intro v hv
 rw [xl] at hv
 obtain ⟨z,_,rfl⟩:=List.mem_map.1 hv
 rfl
theorem Vg {w0 w:World} {L:List Asn} (S:St w0 w L) {k m:Nat} {a b:Asn} (ha:L[k]?=some a) (hb:L[m]?=some b) (h:k≠m):a.far b:=by
 obtain ⟨h1,h2⟩:=List.getElem?_eq_some_iff.1 ha
 obtain ⟨h3,h4⟩:=List.getElem?_eq_some_iff.1 hb
 subst h2 h4
 rcases Nat.lt_or_ge k m with h5 |h5
 ·exact List.pairwise_iff_getElem.1 S.apart k m h1 h3 h5
 ·exact (List.pairwise_iff_getElem.1 S.apart m k h3 h1 (by omega)).symm
theorem OK {w0 w w1:World} {L:List Asn} {x:List Int} {y:Int} {g off n c k i:Nat} {cur:Array Value} (S:St w0 w L) (hk:L[k]?=some (.row 3 1 (.slice (some ⟨g,off,none⟩) n c) n (x.flatMap eI))) (hn:n=x.length)
 (hb:Bk w g 3 cur) (hx:(cur.toList.drop off).take (n*1)=x.flatMap eI) (hi:i≤n) (hroom:n+1≤c) (hc:c≤maxLen) (hs:off+c*1≤cur.size) (hw:Bk w1 g 3 cur) (hg:Grown w w1 [g]):
 St w0 ((w1.setCells g (off+(i+1)) ((x.flatMap eI).drop i)).setCells g (off+i) [.int .i64 y]) (L.set k (.row 3 1 (.slice (some ⟨g,off,none⟩) (n+1) c) (n+1) ((x.take i++ [y]++x.drop i).flatMap eI))):=by
 obtain ⟨b1,g1⟩:=JY ((x.flatMap eI).drop i) cur (off+(i+1)) w1 hw
 obtain ⟨b2,g2⟩:=JY [.int .i64 y] _ (off+i) _ b1
 have hl:(x.flatMap eI).length=n:=by rw [xl,List.length_map,hn]
 have hc2:=Tw (cur:=cur) (xs:=x.flatMap eI) (y:=.int .i64 y) (off:=off) (n:=n) (i:=i) (c:=c) (by simpa using hx) hl hi hroom (by omega)
 refine S.turn1 hk ((hg.trans g1).trans g2) (fun x hx=>by simpa [Asn.foot,Value.ownBlock] using hx) ?_ (fun x hx=>.inl (by simpa [Asn.foot,Value.ownBlock] using hx))
 have e:(x.take i++ [y]++x.drop i).flatMap eI=(x.flatMap eI).take i++ [.int .i64 y]++(x.flatMap eI).drop i:=by
  rw [xl,xl,List.map_append,List.map_append,List.map_take,List.map_drop];rfl
 refine ⟨?_,.inr ⟨g,off,c,_,rfl,b2,hroom,hc,?_,?_⟩⟩
 ·rw [xl,List.length_map,List.length_append,List.length_append,List.length_take,List.length_drop];simp;omega
 ·rw [pZ,pZ];exact hs
 ·rw [e,←hc2];simp
theorem MO {w0 w w1:World} {L:List Asn} {x:List Int} {y:Int} {A:Option Addr} {n c k i d:Nat} {cur:Array Value} (S:St w0 w L) (hk:L[k]?=some (.row 3 1 (.slice A n c) n (x.flatMap eI))) (hn:n=x.length) (hi:i≤n)
 (hb:Bk w1 w.heap.size 3 cur) (hg:Grown w w1 []) (hx:cur.toList.take (n+1)=(x.flatMap eI).take i++ [.int .i64 y]++(x.flatMap eI).drop i) (h1:n+1≤d) (h2:d≤maxLen) (h3:d≤cur.size):
 St w0 w1 (L.set k (.row 3 1 (.slice (some ⟨w.heap.size,0,none⟩) (n+1) d) (n+1) ((x.take i++ [y]++x.drop i).flatMap eI))):=by
 have e:(x.take i++ [y]++x.drop i).flatMap eI=(x.flatMap eI).take i++ [.int .i64 y]++(x.flatMap eI).drop i:=by
  rw [xl,xl,List.map_append,List.map_append,List.map_take,List.map_drop];rfl
 refine S.turn1 hk hg (fun x hx=>by simp at hx) ?_ (fun x hx=>.inr (by simp [Asn.foot,Value.ownBlock] at hx;omega))
 refine ⟨?_,.inr ⟨w.heap.size,0,d,cur,rfl,hb,h1,h2,by omega,?_⟩⟩
 ·rw [xl,List.length_map,List.length_append,List.length_append,List.length_take,List.length_drop];simp;omega
 ·rw [e,←hx];simp
end Go.Proofs.YtjdlgannencchaaGreatDoor
namespace Go.Proofs.YtjdlgannencchaaGreatDoor
open Go.ChangeShapes Go.WideShapes Go.ChangeAt Go.RowKit Go.Lib
set_option linter.unusedVariables false
set_option linter.unusedSimpArgs false
set_option maxRecDepth 100000
theorem tt (w:World):Grown w w.drew []:=⟨rfl,rfl,rfl,Nat.le_refl _,fun _ _ _=>rfl⟩
theorem xq {w w':World} (g:Nat) (h:Grown w w' []):Grown w w' [g]:=⟨h.os,h.tape,h.output,h.size,fun k hk hn=>h.block k hk (by simp)⟩
theorem GY (w:World) (o:Obj):Grown w (w.alloc o) []:=⟨rfl,rfl,rfl,by show w.heap.size≤(w.heap.push o).size;rw [Array.size_push];omega,fun k hk _=>Below.heap_alloc w o k hk⟩
theorem Qf (w:World) (cs:Array Value) (t:TypeId):Bk (w.alloc (.cells cs t)) w.heap.size t cs:=Bk.new w t cs
theorem xK (k:Nat):(Builtin.zeroCells (Value.int .i64 0).cells k).size=k:=by
 have:(Value.int .i64 0).cells.size=1:=rfl
 simp [Builtin.zeroCells,this]
theorem QC {cur:Array Value} {xs:List Value} {y:Value} {n i:Nat} (hl:xs.length=n) (hi:i≤n) (hx: ∀k,k<i→cur[k]?=xs[k]?) (hs:n+1≤cur.size):
 (over (over cur i [y]) (i+1) (xs.drop i)).toList.take (n+1)=xs.take i++ [y]++xs.drop i:=by
 have hd:(xs.drop i).length=n-i:=by rw [List.length_drop,hl]
 apply List.ext_getElem?
 intro k
 by_cases hk:k<n+1
 ·rw [List.getElem?_take,if_pos hk,Array.getElem?_toList,zO _ _ _ _ (by rw [pZ,hd];omega),zO _ _ _ _ (by simp only [List.length_singleton];omega)]
  simp only [List.length_singleton,hd]
  by_cases h1:k<i
  ·rw [if_neg (by omega),if_neg (by omega),List.append_assoc,List.getElem?_append_left (by rw [List.length_take];omega),List.getElem?_take,if_pos h1,hx k h1]
  ·have hti:(xs.take i).length=i:=by rw [List.length_take];omega
   rw [List.append_assoc,List.getElem?_append_right (by omega),hti]
   by_cases h2:k=i
   ·subst h2
    rw [if_neg (by omega),if_pos (by omega)];simp
   ·rw [if_pos (by omega),show k-i=(k-(i+1))+1 by omega];rfl
 ·rw [List.getElem?_eq_none (by rw [List.length_take];omega),List.getElem?_eq_none (by simp only [List.length_append,List.length_take,List.length_drop,List.length_singleton];omega)]
theorem Yp {x:List Int} {y i:Int} (h0:0≤i) (h:i≤(x.length:Int)):x.length+1=(x.take i.toNat++ [y]++x.drop i.toNat).length:=by
 simp only [List.length_append,List.length_take,List.length_drop,List.length_singleton];omega
theorem Tv {L:List Asn} {w0 w:World} {x:List Int} {y i:Int} {A B:Option Addr} {n c vc k m:Nat} (S:St w0 w L) (hk:L[k]?=some (.row 3 1 (.slice A n c) n (x.flatMap eI))) (hn:n=x.length) (hv:L[m]?=some (.row 3 1 (.slice B 1 vc) 1 (([y]:List Int).flatMap eI))) (hkm:k≠m) (hi:0≤i∧i≤(n:Int)) (hlen:n+1≤1099511627776):
 Calls Tryz.prog 181 #[.slice A n c,.int .i64 i,.slice B 1 vc] w (fun e w'=> ∃(B':Option Addr) (D:Nat),e= .returned (.slice B' (n+1) D)∧St w0 w' (L.set k (.row 3 1 (.slice B' (n+1) D) (n+1) ((x.take i.toNat++ [y]++x.drop i.toNat).flatMap eI)))):=by
 obtain ⟨j,rfl⟩: ∃j:Nat,i=(j:Int):=⟨i.toNat,by omega⟩
 have hj:j≤n:=by omega
 rw [Int.toNat_natCast]
 have hxl:(x.flatMap eI).length=n:=by rw [xl,List.length_map,hn]
 obtain ⟨vg,voff,rfl,hvs⟩:=(S.rd m hv).2 (by omega)
 have hvs': ∀q v,([.int .i64 y]:List Value)[q]?=some v→w.cell? ⟨vg,voff+q,none⟩=some v:=fun q v h=>hvs q v h
 have h1v: ∀v∈([.int .i64 y]:List Value),v.oneCell'=true:=fun v h=>by simp at h;subst h;rfl
 have h1c:=aer x
 rcases FZ S hk with ⟨rfl,h0,rfl⟩ |⟨g,off,cur,rfl,hb,hx,hnc,hc,hs⟩
 ·subst h0
  have hx0:x=[]:=List.eq_nil_of_length_eq_zero hn.symm
  subst hx0
  obtain rfl:j=0:=by omega
  have h:=Any2.slices_Insert_int_end_grow Fy none 0 0 vg voff 1 vc [] [.int .i64 y] w (by omega) (by omega) (by omega) (by omega) rfl rfl (fun _=>rfl) (fun a h=>by cases h) hvs' h1v
  refine h.mono ?_
  rintro e w' ⟨rfl,rfl⟩
  refine ⟨_,_,rfl,?_⟩
  have hge:=grownCap_ge w (0+1) 0 (nW.t 3)
  refine MO (cur:=([]++ [Value.int .i64 y]).toArray++Builtin.zeroCells (Value.int .i64 0).cells (grownCap w (0+1) 0 (nW.t 3)-(0+1))) S hk rfl (Nat.le_refl 0) (Qf w.drew _ _) ((tt w).trans (GY w.drew _)) (by simp) hge (grownCap_le_maxLen w (0+1) 0 _ (by decide)) ?_
  rw [Array.size_append,xK]
  simp only [List.nil_append,List.size_toArray,List.length_singleton]
  omega
 ·have hcell: ∀q v,(x.flatMap eI)[q]?=some v→w.cell? ⟨g,off+q,none⟩=some v:=by
   intro q v hq
   have hn0:0<n:=by
    rcases Nat.eq_zero_or_pos n with h |h
    ·rw [List.getElem?_eq_none (by omega)] at hq;cases hq
    ·exact h
   obtain ⟨b',o',e,hc'⟩:=(S.rd k hk).2 hn0
   injection e with e
   injection e with e1 e2
   subst e1 e2
   exact hc' q v hq
  by_cases hroom:n+1≤c
  ·have hc63:c≤9223372036854775807:=hc
   have hsp: ∀q,q<n+1→(w.cell? ⟨g,off+q,none⟩).isSome=true:=by
    intro q hq
    rw [cell_of_row w g _ cur 3 (0,0) hb,Array.getElem?_eq_getElem (by omega)];rfl
   have hfz: ∀q,w.frozen? ⟨g,q,none⟩=false:=by
    intro q
    have:w.heap[g]?=some (.cells cur 3 (0,0)):=hb
    simp [World.frozen?,this]
   by_cases hjn:j=n
   ·subst hjn
    have h:=Any2.slices_Insert_int_end_room Fy g off j c vg voff 1 vc [.int .i64 y] w (by omega) hroom hc63 rfl (fun q hq=>by rw [Nat.add_assoc];exact hsp _ (by omega)) (fun q _=>hfz _) hvs' h1v
    refine h.mono ?_
    rintro e w' ⟨rfl,rfl⟩
    have h2:=OK (w1:=w) (y:=y) S hk hn hb hx (Nat.le_refl j) hroom hc hs hb ⟨rfl,rfl,rfl,Nat.le_refl _,fun _ _ _=>rfl⟩
    rw [List.drop_eq_nil_of_le (by omega)] at h2
    exact ⟨_,_,rfl,h2⟩
   ·rcases FZ S hv with ⟨hB,_⟩ |⟨vg',voff',vcur,hB,hvb,_⟩
    ·cases hB
    injection hB with hB
    injection hB with e1 e2
    subst e1 e2
    have hne:vg≠g:=by
     have:=(Vg S hk hv hkm).1 g (by simp [Asn.wf,Asn.foot,Value.ownBlock])
     simpa [Asn.foot,Value.ownBlock,eq_comm] using this
    have hvf: ∀q,w.frozen? ⟨vg,q,none⟩=false:=by
     intro q
     have:w.heap[vg]?=some (.cells vcur 3 (0,0)):=hvb
     simp [World.frozen?,this]
    have hsa:w.shape? vg=some (3,vcur.size):=by
     have:w.heap[vg]?=some (.cells vcur 3 (0,0)):=hvb
     simp [World.shape?,this]
    have hsb:w.shape? g=some (3,cur.size):=by
     have:w.heap[g]?=some (.cells cur 3 (0,0)):=hb
     simp [World.shape?,this]
    have h:=Any2.slices_Insert_int_shift Fy g off n c j vg voff 1 vc (x.flatMap eI) [.int .i64 y] w (by omega) (by omega) hroom hc63 hne hxl rfl hcell hsp (fun q _=>hfz _) hvs' h1c h1v 3 3 vcur.size cur.size hsa hsb (by omega) (hvf _) (hvf _)
    refine h.mono ?_
    rintro e w' ⟨rfl,rfl⟩
    exact ⟨_,_,rfl,OK (w1:=w.drew) S hk hn hb hx hj hroom hc hs hb (xq g (tt w))⟩
  ·have hge:=grownCap_ge w (n+1) c (nW.t 3)
   have hmx:=grownCap_le_maxLen w (n+1) c (nW.t 3) (by unfold maxLen;omega)
   by_cases hjn:j=n
   ·subst hjn
    have h:=Any2.slices_Insert_int_end_grow Fy (some ⟨g,off,none⟩) j c vg voff 1 vc (x.flatMap eI) [.int .i64 y] w (by omega) hnc (by omega) (by omega) hxl rfl (fun h=>by cases h) (fun a h q v hq=>by
     injection h with h
     subst h
     rw [Go.WideShapes.add_plain]
     exact hcell q v hq) hvs' h1v
    refine h.mono ?_
    rintro e w' ⟨rfl,rfl⟩
    have hL:(x.flatMap eI++ [Value.int .i64 y]).length=j+1:=by rw [List.length_append,hxl];rfl
    refine ⟨_,_,rfl,MO S hk hn (Nat.le_refl j) (Qf w.drew _ _) ((tt w).trans (GY w.drew _)) ?_ hge hmx ?_⟩
    ·rw [Array.toList_append]
     show List.take (j+1) ((x.flatMap eI++ [Value.int .i64 y])++_)=_
     rw [List.take_append_of_le_length (show j+1≤(x.flatMap eI++ [Value.int .i64 y]).length by omega),List.take_of_length_le (show (x.flatMap eI++ [Value.int .i64 y]).length≤j+1 by omega),List.take_of_length_le (show (x.flatMap eI).length≤j by omega),List.drop_eq_nil_of_le (show (x.flatMap eI).length≤j by omega),List.append_nil]
    ·rw [Array.size_append,xK,List.size_toArray];omega
   ·have h:=Any2.slices_Insert_int_grow Fy g off n c j vg voff 1 vc (x.flatMap eI) [.int .i64 y] w (by omega) (by omega) hnc (by omega) (by omega) hxl rfl hcell hvs' h1c h1v
    refine h.mono ?_
    rintro e w' ⟨rfl,rfl⟩
    generalize hC:((x.flatMap eI).take j).toArray++Builtin.zeroCells (Value.int .i64 0).cells (n+1-j)++Builtin.zeroCells (Value.int .i64 0).cells (grownCap w (n+1) c (nW.t 3)-(n+1))=C
    have hCs:C.size=grownCap w (n+1) c (nW.t 3):=by
     rw [←hC,Array.size_append,Array.size_append,xK,xK,List.size_toArray,List.length_take,hxl];omega
    have hCx: ∀q,q<j→C[q]?=(x.flatMap eI)[q]?:=by
     intro q hq
     rw [←hC,Array.append_assoc,Array.getElem?_append_left (by rw [List.size_toArray,List.length_take,hxl];omega)]
     rw [List.getElem?_toArray,List.getElem?_take,if_pos hq]
    have b0:Bk (w.alloc (.cells C (nW.t 3))).drew w.heap.size 3 C:=Qf w C 3
    obtain ⟨b1,g1⟩:=JY [.int .i64 y] C j _ b0
    have b1':Bk (((w.alloc (.cells C (nW.t 3))).drew.setCells w.heap.size j [.int .i64 y]).drew) w.heap.size 3 (over C j [.int .i64 y]):=b1
    obtain ⟨b2,g2⟩:=JY ((x.flatMap eI).drop j) _ (j+1) _ b1'
    refine ⟨_,_,rfl,MO S hk hn hj b2 ?_ (QC hxl hj hCx (by omega)) hge hmx (by rw [pZ,pZ,hCs];exact Nat.le_refl _)⟩
    have gall:=((((xq w.heap.size (GY w (.cells C (nW.t 3)))).trans (xq w.heap.size (tt _))).trans g1).trans (xq w.heap.size (tt _))).trans g2
    exact ⟨gall.os,gall.tape,gall.output,gall.size,fun q hq _=>gall.block q hq (by simp;omega)⟩
end Go.Proofs.YtjdlgannencchaaGreatDoor
namespace Go.Proofs.YtjdlgannencchaaGreatDoor
open Go.ChangeShapes Go.WideShapes Go.ChangeAt Go.RowKit
set_option linter.unusedVariables false
set_option linter.unusedSimpArgs false
noncomputable section
def RO (x:Int×Int×Int):List Value:=[.int .i64 x.1,.int .i64 x.2.1,.int .i64 x.2.2]
theorem Tm (x:Int×Int×Int): ∀u∈RO x,u.oneCell'=true:=by simp [RO];exact ⟨rfl,rfl,rfl⟩
def XX (x:Int×Int):List Value:=[.int .i64 x.1,.int .i64 x.2]
theorem UZ (x:Int×Int): ∀u∈XX x,u.oneCell'=true:=by simp [XX];exact ⟨rfl,rfl⟩
def jy (x:Int×Int):List Value:=[.int .i64 x.1,.int .i64 x.2]
theorem Hu (x:Int×Int):(jy x).length=2:=rfl
theorem Hv (x:Int×Int): ∀u∈jy x,u.oneCell'=true:=by simp [jy];exact ⟨rfl,rfl⟩
def Ew (x:Int×Int×Int):List Value:=[.int .i64 x.1,.int .i64 x.2.1,.int .i64 x.2.2]
theorem Qq (x:Int×Int×Int):(Ew x).length=3:=rfl
def LB (x:Int×Int):List Value:=[.int .i64 x.1,.int .i64 x.2]
theorem Tl (x:Int×Int):(LB x).length=2:=rfl
def sR (x:Int×Int):List Value:=[.int .i64 x.1,.int .i64 x.2]
theorem MC (x:Int×Int):(sR x).length=2:=rfl
def ii (a:Int→Option ByteArray) (x0:Int):Option (ByteArray):=(bif (af x0 0)&&(x0==(ay (0-x0))) then some ({data:= #[45,57,50,50,51,51,55,50,48,51,54,56,53,52,55,55,53,56,48,56]}:ByteArray) else (bif af x0 0 then Option.bind (a (ay (0-x0))) (fun b=>aj (Kv ({data:= #[45]}:ByteArray).size b.size) (some (({data:= #[45]}:ByteArray)++b))) else (bif af x0 10 then some (strOfNums ([wk .u8 (ay (48+x0))]:List Int)) else Option.bind (a (ay (Int.tdiv x0 10))) (fun c=>aj (Kv c.size (strOfNums ([wk .u8 (ay (48+(Int.tmod x0 10)))]:List Int)).size) (some (c++(strOfNums ([wk .u8 (ay (48+(Int.tmod x0 10)))]:List Int))))))))
def kQ (x0:Int) (x1:List (Int×Int×Int)) (x2:Int):Option (Bool):=some ((aF 0 x2)&&(af x2 x0))
def ip (x0:Int) (x1:List (Int×Int×Int)) (c:Int→Option (Unit ⊕ Bool)) (a:Int):Option (Unit ⊕ Bool):=(bif af a (x1.length:Int) then aj (aq a x1.length) (Option.bind (kQ x0 x1 ((x1.getD a.toNat ((0,0,0):Int×Int×Int)).1)) (fun b=>Option.bind (gb (!(!b)) (kQ x0 x1 ((x1.getD a.toNat ((0,0,0):Int×Int×Int)).2.1))) (fun d=>(bif ((((!b) ||(!d)) ||(((x1.getD a.toNat ((0,0,0):Int×Int×Int)).1)==((x1.getD a.toNat ((0,0,0):Int×Int×Int)).2.1))) ||(af ((x1.getD a.toNat ((0,0,0):Int×Int×Int)).2.2) 1)) ||(af 999 ((x1.getD a.toNat ((0,0,0):Int×Int×Int)).2.2)) then some (Sum.inr false) else c (ay (a+1)))))) else some (Sum.inl ()))
def eR x0 x1:=cb (ip x0 x1)
theorem sS x0 x1 n p:eR x0 x1 (n+1) p=ip x0 x1 (eR x0 x1 n) p:=rfl
def aX (x0:Int) (x1:List (Int×Int×Int)):Option (Bool):=(bif ((af x0 1) ||(af 8 x0)) ||(af 10 (x1.length:Int)) then some false else Option.bind (eR x0 x1 ah 0:Option (Unit ⊕ Bool)) (Sum.elim (fun (a:Unit)=>some true) (fun (r:Bool)=>some r)))
def iB (x0:ByteArray) (b:(Int×Int)→Option (Int ⊕ Int)) (a:(Int×Int)):Option (Int ⊕ Int):=(bif af a.2 (x0.size:Int) then aj (aq a.2 x0.size) (aj (!(!(af (lO x0 a.2) 48)) ||aq a.2 x0.size) ((bif (af (lO x0 a.2) 48) ||(af 57 (lO x0 a.2)) then some (Sum.inr (-1)) else aj (aq a.2 x0.size) (b (ay ((ay (10*a.1))+(ay (wk .u8 ((lO x0 a.2)-48)))),ay (a.2+1)))))) else some (Sum.inl a.1))
def bT x0:=cb (iB x0)
theorem sW x0 n p:bT x0 (n+1) p=iB x0 (bT x0 n) p:=rfl
def nF (x0:ByteArray):Option (Int):=(bif (af (x0.size:Int) 1) ||(af 3 (x0.size:Int)) then some (-1) else Option.bind (bT x0 ah (0,0):Option (Int ⊕ Int)) (Sum.elim (fun (a:Int)=>some a) (fun (r:Int)=>some r)))
def aD (x0:ByteArray):Option (Int×Bool):=Option.bind (nF x0) (fun a=>Option.bind (gb (aF 0 a) (bH a)) (fun b=>some (a,(aF 0 a)&&(b.toList==x0.toList))))
def cX (b:Int) (ls:List (Int×Int×Int)):Option ByteArray:=Option.bind (aX b ls) (fun p=>bif p then aj (VV b ls) (some (aW (TE b ls))) else some (aW []))
def dG (ws:List ByteArray):Option (Int×Int×Int×Bool):=bif decide (ws.length=2) then Option.bind (aD (ws.getD 1 ByteArray.empty)) (fun p=>some ((pO Ih (ws.getD 0 ByteArray.empty)).1,p.1,0,(pO Ih (ws.getD 0 ByteArray.empty)).2&&p.2)) else bif decide (ws.length=3) then Option.bind (aD (ws.getD 1 ByteArray.empty)) (fun p=>Option.bind (aD (ws.getD 2 ByteArray.empty)) (fun q=>some ((pO Ii (ws.getD 0 ByteArray.empty)).1,p.1,q.1,(pO Ii (ws.getD 0 ByteArray.empty)).2&&p.2&&q.2))) else some (0,0,0,false)
def am (x0:Int) (x1:Int) (x2:Int):Option (Bool):=some ((aF x1 x0)&&(aF x0 x2))
def iR (x0:Int) (x1:List (Int×Int×Int)) (d:Int→Option (Unit ⊕ Bool)) (a:Int):Option (Unit ⊕ Bool):=(bif af a (x1.length:Int) then aj (aq a x1.length) (Option.bind (am ((x1.getD a.toNat ((0,0,0):Int×Int×Int)).1) 0 (ay (x0-1))) (fun b=>Option.bind (gb (!(!b)) (am ((x1.getD a.toNat ((0,0,0):Int×Int×Int)).2.1) 0 (ay (x0-1)))) (fun c=>Option.bind (gb (!(((!b) ||(!c)) ||(((x1.getD a.toNat ((0,0,0):Int×Int×Int)).1)==((x1.getD a.toNat ((0,0,0):Int×Int×Int)).2.1)))) (am ((x1.getD a.toNat ((0,0,0):Int×Int×Int)).2.2) 1 999)) (fun e=>(bif (((!b) ||(!c)) ||(((x1.getD a.toNat ((0,0,0):Int×Int×Int)).1)==((x1.getD a.toNat ((0,0,0):Int×Int×Int)).2.1))) ||(!e) then some (Sum.inr false) else d (ay (a+1))))))) else some (Sum.inl ()))
def fb x0 x1:=cb (iR x0 x1)
theorem tj x0 x1 n p:fb x0 x1 (n+1) p=iR x0 x1 (fb x0 x1 n) p:=rfl
def dI (x0:Int) (x1:List (Int×Int×Int)):Option (Bool):=Option.bind (am x0 1 8) (fun a=>(bif (!a) ||(af 10 (x1.length:Int)) then some false else Option.bind (fb x0 x1 ah 0:Option (Unit ⊕ Bool)) (Sum.elim (fun (b:Unit)=>some true) (fun (r:Bool)=>some r))))
def fq (x2:List (Int×Int)) (c:Int→Option (Unit ⊕ Bool)) (a:Int):Option (Unit ⊕ Bool):=(bif af a (x2.length:Int) then aj (aq a x2.length) (Option.bind (am ((x2.getD a.toNat ((0,0):Int×Int)).1) 0 999) (fun b=>aj (!(!(!b)) ||aq a x2.length) (Option.bind (gb (!(!b)) (am ((x2.getD a.toNat ((0,0):Int×Int)).2) 0 999)) (fun d=>(bif (!b) ||(!d) then some (Sum.inr false) else c (ay (a+1))))))) else some (Sum.inl ()))
def dc x2:=cb (fq x2)
theorem qN x2 n p:dc x2 (n+1) p=fq x2 (dc x2 n) p:=rfl
def gB (x0:Int) (x1:List (Int×Int×Int)) (x2:List (Int×Int)):Option (Bool):=Option.bind (dc x2 ah 0:Option (Unit ⊕ Bool)) (Sum.elim (fun (b:Unit)=>Option.bind (dI x0 x1) (fun a=>some (a&&((x2.length:Int)==x0)))) (fun (r:Bool)=>some r))
def kb (x0:List (Int×Int)) (x1:Int) (x2:Int) (b:Int→Option (Unit ⊕ Int)) (a:Int):Option (Unit ⊕ Int):=(bif af a (x0.length:Int) then aj (aq a x0.length) ((bif (((x0.getD a.toNat ((0,0):Int×Int)).1)==x1)&&(((x0.getD a.toNat ((0,0):Int×Int)).2)==x2) then some (Sum.inr a) else b (ay (a+1)))) else some (Sum.inl ()))
def gS x0 x1 x2:=cb (kb x0 x1 x2)
theorem uE x0 x1 x2 n p:gS x0 x1 x2 (n+1) p=kb x0 x1 x2 (gS x0 x1 x2 n) p:=rfl
def jq (x0:List (Int×Int)) (x1:Int) (x2:Int):Option (Int):=Option.bind (gS x0 x1 x2 ah 0:Option (Unit ⊕ Int)) (Sum.elim (fun (a:Unit)=>some (-1)) (fun (r:Int)=>some r))
def gO (x0:List Bool) (x1:List Bool) (b:Int→Option (Unit ⊕ Bool)) (a:Int):Option (Unit ⊕ Bool):=(bif af a (x0.length:Int) then aj (aq a x0.length) (aj (!(x0.getD a.toNat false) ||aq a x1.length) ((bif (x0.getD a.toNat false)&&(x1.getD a.toNat false) then some (Sum.inr false) else b (ay (a+1))))) else some (Sum.inl ()))
def ee x0 x1:=cb (gO x0 x1)
theorem rV x0 x1 n p:ee x0 x1 (n+1) p=gO x0 x1 (ee x0 x1 n) p:=rfl
def gP (x0:List Bool) (x1:List Bool) (x2:List (Int×Int)) (d:Int→Option (Unit ⊕ Bool)) (a:Int):Option (Unit ⊕ Bool):=(bif af a (x2.length:Int) then aj (aq a x2.length) (Option.bind (am ((x2.getD a.toNat ((0,0):Int×Int)).1) 0 9) (fun b=>Option.bind (gb (!(!b)) (am ((x2.getD a.toNat ((0,0):Int×Int)).2) 0 (ay ((x0.length:Int)-1)))) (fun c=>aj (!(!((!b) ||(!c))) ||aq ((x2.getD a.toNat ((0,0):Int×Int)).2) x1.length) (Option.bind (gb (!(((!b) ||(!c)) ||(!(x1.getD (((x2.getD a.toNat ((0,0):Int×Int)).2).toNat) false)))) (jq x2 ((x2.getD a.toNat ((0,0):Int×Int)).1) ((x2.getD a.toNat ((0,0):Int×Int)).2))) (fun e=>(bif (((!b) ||(!c)) ||(!(x1.getD (((x2.getD a.toNat ((0,0):Int×Int)).2).toNat) false))) ||(af e a) then some (Sum.inr false) else d (ay (a+1)))))))) else some (Sum.inl ()))
def ef x0 x1 x2:=cb (gP x0 x1 x2)
theorem rW x0 x1 x2 n p:ef x0 x1 x2 (n+1) p=gP x0 x1 x2 (ef x0 x1 x2 n) p:=rfl
def eK (x0:List Bool) (x1:List Bool) (x2:List (Int×Int)):Option (Bool):=Option.bind (am (x0.length:Int) 1 10) (fun a=>(bif ((!a) ||((x0.length:Int) !=(x1.length:Int))) ||(af 6 (x2.length:Int)) then some false else Option.bind (ee x0 x1 ah 0:Option (Unit ⊕ Bool)) (Sum.elim (fun (b:Unit)=>Option.bind (ef x0 x1 x2 ah 0:Option (Unit ⊕ Bool)) (Sum.elim (fun (c:Unit)=>some true) (fun (r:Bool)=>some r))) (fun (r:Bool)=>some r))))
def cm (x0:Int) (x1:List (Int×Int×Int)) (x2:List Bool):Option (Bool):=Option.bind (dI x0 x1) (fun a=>some (a&&((x2.length:Int)==(x1.length:Int))))
def gX (x0:Int) (x1:List (Int×Int×Int)) (x2:List Bool) (x3:List (Int×Int)):Option (Bool):=Option.bind (cm x0 x1 x2) (fun a=>Option.bind (gb a (gB x0 x1 x3)) (fun b=>some (a&&b)))
def kJ (x0:List Bool):Option (List Bool):=aj (bw ([]:List Bool).length x0.length) (some (([]:List Bool)++x0))
def lE (x0:Int) (x1:List (Int×Int×Int)) (x2:List Bool) (x3:Int) (x4:Bool):Option (List Bool×Bool):=Option.bind (cm x0 x1 x2) (fun b=>(bif b then Option.bind (kJ x2) (fun a=>Option.bind (am x3 0 (ay ((x2.length:Int)-1))) (fun c=>(bif c then aj (aq x3 a.length) (some (a.set x3.toNat x4,true)) else some (a,false)))) else some (([]:List Bool),false)))
def kf (x0:Int) (x1:List (Int×Int×Int)) (x2:List Bool) (b:(List Bool×Int)→Option ((List Bool))) (a:(List Bool×Int)):Option ((List Bool)):=(bif af a.2 (x1.length:Int) then aj (aq a.2 x1.length) (aj (aq a.2 x2.length) (aj (!(x2.getD a.2.toNat false) ||aq ((x1.getD a.2.toNat ((0,0,0):Int×Int×Int)).1) x0.toNat) (aj (!((x2.getD a.2.toNat false)&&(!(a.1.getD (((x1.getD a.2.toNat ((0,0,0):Int×Int×Int)).1).toNat) false))) ||aq ((x1.getD a.2.toNat ((0,0,0):Int×Int×Int)).2.1) x0.toNat) (Option.bind (bif (x2.getD a.2.toNat false)&&((a.1.getD (((x1.getD a.2.toNat ((0,0,0):Int×Int×Int)).1).toNat) false) ||(a.1.getD (((x1.getD a.2.toNat ((0,0,0):Int×Int×Int)).2.1).toNat) false)) then aj (aq ((x1.getD a.2.toNat ((0,0,0):Int×Int×Int)).1) x0.toNat) (aj (aq ((x1.getD a.2.toNat ((0,0,0):Int×Int×Int)).2.1) x0.toNat) (some ((a.1.set (((x1.getD a.2.toNat ((0,0,0):Int×Int×Int)).1).toNat) true).set (((x1.getD a.2.toNat ((0,0,0):Int×Int×Int)).2.1).toNat) true))) else some a.1) (fun c=>b (c,ay (a.2+1))))))) else some a.1)
def gV x0 x1 x2:=cb (kf x0 x1 x2)
theorem uH x0 x1 x2 n p:gV x0 x1 x2 (n+1) p=kf x0 x1 x2 (gV x0 x1 x2 n) p:=rfl
def ke (x0:Int) (x1:List (Int×Int×Int)) (x2:List Bool) (b:(List Bool×Int)→Option ((List Bool))) (a:(List Bool×Int)):Option ((List Bool)):=(bif af a.2 x0 then Option.bind (gV x0 x1 x2 ah (a.1,0)) (fun c=>b (c,ay (a.2+1))) else some a.1)
def gU x0 x1 x2:=cb (ke x0 x1 x2)
theorem uG x0 x1 x2 n p:gU x0 x1 x2 (n+1) p=ke x0 x1 x2 (gU x0 x1 x2 n) p:=rfl
def px (x0:Int) (x1:List (Int×Int×Int)) (x2:List Bool) (x3:Int):Option (List Bool):=aj (sF x0) (aj (aq x3 x0.toNat) (Option.bind (gU x0 x1 x2 ah ((List.replicate x0.toNat false).set x3.toNat true,0)) (fun a=>some a)))
def jY (x0:Int) (b:List Bool) (c:(List Int×Int)→Option ((List Int))) (a:(List Int×Int)):Option ((List Int)):=(bif af a.2 x0 then aj (aq a.2 b.length) (Option.bind (bif b.getD a.2.toNat false then aj (bw a.1.length ([a.2]:List Int).length) (some (a.1++([a.2]:List Int))) else some a.1) (fun d=>c (d,ay (a.2+1)))) else some a.1)
def gL x0 a:=cb (jY x0 a)
theorem uC x0 p106 n p:gL x0 p106 (n+1) p=jY x0 p106 (gL x0 p106 n) p:=rfl
def jm (x0:Int) (x1:List (Int×Int×Int)) (x2:List Bool) (x3:Int):Option (List Int):=Option.bind (cm x0 x1 x2) (fun a=>Option.bind (gb (!(!a)) (am x3 0 (ay (x0-1)))) (fun b=>(bif (!a) ||(!b) then some ([]:List Int) else Option.bind (px x0 x1 x2 x3) (fun c=>Option.bind (gL x0 c ah (([]:List Int),0)) (fun d=>some d)))))
def mK (x0:List Int) (x1:Int) (b:Int→Option (Unit ⊕ Bool)) (a:Int):Option (Unit ⊕ Bool):=(bif af a (x0.length:Int) then aj (aq a x0.length) ((bif (x0.getD a.toNat (0:Int))==x1 then some (Sum.inr true) else b (ay (a+1)))) else some (Sum.inl ()))
def kF x0 x1:=cb (mK x0 x1)
theorem xR x0 x1 n p:kF x0 x1 (n+1) p=mK x0 x1 (kF x0 x1 n) p:=rfl
def cQ (x0:List Int) (x1:Int):Option (Bool):=Option.bind (kF x0 x1 ah 0:Option (Unit ⊕ Bool)) (Sum.elim (fun (a:Unit)=>some false) (fun (r:Bool)=>some r))
def gM (x0:Int) (x1:List (Int×Int×Int)) (x2:List Bool) (x3:Int) (x4:Int):Option (Bool):=Option.bind (jm x0 x1 x2 x3) (fun a=>Option.bind (cQ a x4) (fun b=>some b))
def ft (x0:Int) (x1:List (Int×Int×Int)) (x2:List Bool) (b:(List Int×Int)→Option ((List Int))) (a:(List Int×Int)):Option ((List Int)):=Option.bind (gb (af a.2 (x2.length:Int)) (cm x0 x1 x2)) (fun c=>(bif (af a.2 (x2.length:Int))&&c then Option.bind (lE x0 x1 x2 a.2 false) (fun d=>aj (aq a.2 x2.length) (aj (!(x2.getD a.2.toNat false) ||aq a.2 x1.length) (aj (!(x2.getD a.2.toNat false) ||aq a.2 x1.length) (Option.bind (gb (x2.getD a.2.toNat false) (gM x0 x1 d.1 ((x1.getD a.2.toNat ((0,0,0):Int×Int×Int)).1) ((x1.getD a.2.toNat ((0,0,0):Int×Int×Int)).2.1))) (fun e=>Option.bind (bif (x2.getD a.2.toNat false)&&e then aj (bw a.1.length ([a.2]:List Int).length) (some (a.1++([a.2]:List Int))) else some a.1) (fun f=>b (f,ay (a.2+1)))))))) else some a.1))
def de x0 x1 x2:=cb (ft x0 x1 x2)
theorem qO x0 x1 x2 n p:de x0 x1 x2 (n+1) p=ft x0 x1 x2 (de x0 x1 x2 n) p:=rfl
def pn (x0:Int) (x1:List (Int×Int×Int)) (x2:List Bool):Option (List Int):=Option.bind (de x0 x1 x2 ah (([]:List Int),0)) (fun a=>some a)
def nN (x0:Int) (x1:List (Int×Int×Int)) (x2:List Bool):Option (Bool):=Option.bind (pn x0 x1 x2) (fun a=>some (af 0 (a.length:Int)))
def lD (x0:Int) (x1:List (Int×Int×Int)) (x2:List Bool) (x3:List (Int×Int)) (a:Int) (c:Int→Option (Unit ⊕ Bool)) (b:Int):Option (Unit ⊕ Bool):=(bif af b a then aj (aq a x3.length) (aj (!(af 0 ((x3.getD a.toNat ((0,0):Int×Int)).1)) ||aq b x3.length) (Option.bind (gb ((af 0 ((x3.getD a.toNat ((0,0):Int×Int)).1))&&(af 0 ((x3.getD b.toNat ((0,0):Int×Int)).1))) (gM x0 x1 x2 b a)) (fun d=>(bif ((af 0 ((x3.getD a.toNat ((0,0):Int×Int)).1))&&(af 0 ((x3.getD b.toNat ((0,0):Int×Int)).1)))&&d then some (Sum.inr false) else c (ay (b+1)))))) else some (Sum.inl ()))
def jl x0 x1 x2 x3 a:=cb (lD x0 x1 x2 x3 a)
theorem vY x0 x1 x2 x3 p108 n p:jl x0 x1 x2 x3 p108 (n+1) p=lD x0 x1 x2 x3 p108 (jl x0 x1 x2 x3 p108 n) p:=rfl
def lC (x0:Int) (x1:List (Int×Int×Int)) (x2:List Bool) (x3:List (Int×Int)) (b:Int→Option (Unit ⊕ Bool)) (a:Int):Option (Unit ⊕ Bool):=(bif af a x0 then Option.bind (jl x0 x1 x2 x3 a ah 0:Option (Unit ⊕ Bool)) (Sum.elim (fun (c:Unit)=>b (ay (a+1))) (fun (r:Bool)=>some (Sum.inr r))) else some (Sum.inl ()))
def jk x0 x1 x2 x3:=cb (lC x0 x1 x2 x3)
theorem vX x0 x1 x2 x3 n p:jk x0 x1 x2 x3 (n+1) p=lC x0 x1 x2 x3 (jk x0 x1 x2 x3 n) p:=rfl
def eD (x0:Int) (x1:List (Int×Int×Int)) (x2:List Bool) (x3:List (Int×Int)):Option (Bool):=Option.bind (gX x0 x1 x2 x3) (fun a=>Option.bind (gb (!(!a)) (nN x0 x1 x2)) (fun b=>(bif (!a) ||b then some false else Option.bind (jk x0 x1 x2 x3 ah 0:Option (Unit ⊕ Bool)) (Sum.elim (fun (c:Unit)=>some true) (fun (r:Bool)=>some r)))))
def fz (x3:List Bool) (x6:List Int) (c:Int→Option (Unit ⊕ Bool)) (a:Int):Option (Unit ⊕ Bool):=(bif af a (x6.length:Int) then aj (aq a x6.length) (Option.bind (am (x6.getD a.toNat (0:Int)) 0 (ay ((x3.length:Int)-1))) (fun b=>aj (!((!(!b))&&(af 0 a)) ||aq (ay (a-1)) x6.length) (aj (!((!(!b))&&(af 0 a)) ||aq a x6.length) (aj (!(!((!b) ||((af 0 a)&&(aF (x6.getD a.toNat (0:Int)) (x6.getD ((ay (a-1)).toNat) (0:Int)))))) ||aq a x6.length) (aj (!(!((!b) ||((af 0 a)&&(aF (x6.getD a.toNat (0:Int)) (x6.getD ((ay (a-1)).toNat) (0:Int)))))) ||aq (x6.getD a.toNat (0:Int)) x3.length) ((bif ((!b) ||((af 0 a)&&(aF (x6.getD a.toNat (0:Int)) (x6.getD ((ay (a-1)).toNat) (0:Int))))) ||(x3.getD ((x6.getD a.toNat (0:Int)).toNat) false) then some (Sum.inr false) else c (ay (a+1))))))))) else some (Sum.inl ()))
def dl x3 x6:=cb (fz x3 x6)
theorem qT x3 x6 n p:dl x3 x6 (n+1) p=fz x3 x6 (dl x3 x6 n) p:=rfl
def bg (x0:Int) (x1:List (Int×Int×Int)) (x2:List (Int×Int)) (x3:List Bool) (x4:List Bool) (x5:List (Int×Int)) (x6:List Int):Option (Bool):=Option.bind (gB x0 x1 x2) (fun a=>Option.bind (gb (!(!a)) (eK x3 x4 x5)) (fun b=>(bif ((!a) ||(!b)) ||((x3.length:Int) !=(x1.length:Int)) then some false else Option.bind (dl x3 x6 ah 0:Option (Unit ⊕ Bool)) (Sum.elim (fun (d:Unit)=>Option.bind (eD x0 x1 x3 x2) (fun c=>some c)) (fun (r:Bool)=>some r)))))
def ma (x0:List Bool) (x1:List Bool) (x2:List (Int×Int)):Option (List Bool×List Bool×List (Int×Int)):=Option.bind (kJ x0) (fun a=>Option.bind (kJ x1) (fun b=>aj (bw ([]:List (Int×Int)).length x2.length) (some (a,b,[]++x2))))
def bb (x0:Int) (x1:List (Int×Int×Int)) (x2:List (Int×Int)) (x3:List Bool) (x4:List Bool) (x5:List (Int×Int)) (x6:List Int):Option (Int×List (Int×Int×Int)×List (Int×Int)×List Bool×List Bool×List (Int×Int)×List Int):=aj (bw ([]:List (Int×Int×Int)).length x1.length) (aj (bw ([]:List (Int×Int)).length x2.length) (Option.bind (ma x3 x4 x5) (fun a=>aj (bw ([]:List Int).length x6.length) (some (x0,[]++x1,[]++x2,a.1,a.2.1,a.2.2,[]++x6)))))
def eb (x0:List Bool) (x1:List Bool) (x2:List (Int×Int)) (x3:Int) (b:(List Int×Int)→Option ((List Int))) (a:(List Int×Int)):Option ((List Int)):=Option.bind (gb (af a.2 (x2.length:Int)) (eK x0 x1 x2)) (fun c=>(bif (af a.2 (x2.length:Int))&&c then aj (aq a.2 x2.length) (Option.bind (bif ((x2.getD a.2.toNat ((0,0):Int×Int)).2)==x3 then aj (aq a.2 x2.length) (aj (bw a.1.length ([(x2.getD a.2.toNat ((0,0):Int×Int)).1]:List Int).length) (some (a.1++([(x2.getD a.2.toNat ((0,0):Int×Int)).1]:List Int)))) else some a.1) (fun d=>b (d,ay (a.2+1)))) else some a.1))
def ka x0 x1 x2 x3:=cb (eb x0 x1 x2 x3)
theorem nV x0 x1 x2 x3 n p:ka x0 x1 x2 x3 (n+1) p=eb x0 x1 x2 x3 (ka x0 x1 x2 x3 n) p:=rfl
def dJ (x0:List Bool) (x1:List Bool) (x2:List (Int×Int)) (x3:Int):Option (List Int):=Option.bind (ka x0 x1 x2 x3 ah (([]:List Int),0)) (fun a=>some a)
def kc (x6:List Int) (x7:Int) (b:(Int×List Int)→Option ((List Int))) (a:(Int×List Int)):Option ((List Int)):=(bif af a.1 (x6.length:Int) then aj (aq a.1 x6.length) (Option.bind (bif (x6.getD a.1.toNat (0:Int)) !=x7 then aj (aq a.1 x6.length) (aj (bw a.2.length ([(x6.getD a.1.toNat (0:Int))]:List Int).length) (some (a.2++([(x6.getD a.1.toNat (0:Int))]:List Int)))) else some a.2) (fun c=>b (ay (a.1+1),c))) else some a.2)
def gT x6 x7:=cb (kc x6 x7)
theorem uF x6 x7 n p:gT x6 x7 (n+1) p=kc x6 x7 (gT x6 x7 n) p:=rfl
def pw (x0:Int) (x1:List (Int×Int×Int)) (x2:List (Int×Int)) (x3:List Bool) (x4:List Bool) (x5:List (Int×Int)) (x6:List Int) (x7:Int):Option (Int×List (Int×Int×Int)×List (Int×Int)×List Bool×List Bool×List (Int×Int)×List Int):=Option.bind (bb x0 x1 x2 x3 x4 x5 x6) (fun a=>Option.bind (gT x6 x7 ah (0,([]:List Int))) (fun b=>some (a.1,a.2.1,a.2.2.1,a.2.2.2.1,a.2.2.2.2.1,a.2.2.2.2.2.1,b)))
def iV (x3:List Bool) (x6:List Int) (x7:Int) (b:(Int×List Int)→Option ((List Int))) (a:(Int×List Int)):Option ((List Int)):=(bif af a.1 (x3.length:Int) then Option.bind (gb (!(a.1==x7)) (cQ x6 a.1)) (fun c=>Option.bind (bif (a.1==x7) ||c then aj (bw a.2.length ([a.1]:List Int).length) (some (a.2++([a.1]:List Int))) else some a.2) (fun d=>b (ay (a.1+1),d))) else some a.2)
def fc x3 x6 x7:=cb (iV x3 x6 x7)
theorem tn x3 x6 x7 n p:fc x3 x6 x7 (n+1) p=iV x3 x6 x7 (fc x3 x6 x7 n) p:=rfl
def nR (x0:Int) (x1:List (Int×Int×Int)) (x2:List (Int×Int)) (x3:List Bool) (x4:List Bool) (x5:List (Int×Int)) (x6:List Int) (x7:Int):Option (Int×List (Int×Int×Int)×List (Int×Int)×List Bool×List Bool×List (Int×Int)×List Int):=Option.bind (bb x0 x1 x2 x3 x4 x5 x6) (fun a=>aj (aq x7 a.2.2.2.1.length) (Option.bind (fc x3 x6 x7 ah (0,([]:List Int))) (fun b=>some (a.1,a.2.1,a.2.2.1,a.2.2.2.1.set x7.toNat false,a.2.2.2.2.1,a.2.2.2.2.2.1,b))))
def qw (x0:List Bool) (x1:List Bool) (x2:List (Int×Int)) (x3:Int) (x4:Int) (x5:Int):Option (Bool):=Option.bind (jq x2 x5 x4) (fun a=>(bif x3==0 then aj (aq x4 x0.length) (aj (!(!(x0.getD x4.toNat false)) ||aq x4 x1.length) (some ((!(x0.getD x4.toNat false))&&(!(x1.getD x4.toNat false))))) else (bif x3==1 then aj (aq x4 x0.length) (some (x0.getD x4.toNat false)) else (bif x3==2 then aj (aq x4 x0.length) (aj (!(!(x0.getD x4.toNat false)) ||aq x4 x1.length) (some ((!(x0.getD x4.toNat false))&&(!(x1.getD x4.toNat false))))) else (bif x3==3 then Option.bind (aj (aq x4 x1.length) ((bif x1.getD x4.toNat false then Option.bind (dJ x0 x1 x2 x4) (fun b=>some ((b.length:Int)==0)) else some false))) (fun c=>some c) else (bif x3==4 then aj (aq x4 x1.length) (Option.bind (gb (x1.getD x4.toNat false) (am x5 0 9)) (fun d=>some ((((x1.getD x4.toNat false)&&d)&&(af a 0))&&(af (x2.length:Int) 6)))) else (bif x3==5 then some (aF 0 a) else some false)))))))
def nk (x0:List Bool) (x1:List Bool) (x2:List (Int×Int)) (x3:Int) (x4:Int) (x5:Int):Option (List Bool×List Bool×List (Int×Int)×Bool):=Option.bind (eK x0 x1 x2) (fun h=>(bif h then Option.bind (ma x0 x1 x2) (fun a=>Option.bind (am x4 0 (ay ((x0.length:Int)-1))) (fun e=>Option.bind (gb (!(!e)) (qw x0 x1 x2 x3 x4 x5)) (fun i=>(bif (!e) ||(!i) then some (a.1,a.2.1,a.2.2,false) else Option.bind (bif x3==0 then aj (aq x4 a.1.length) (some (a.1.set x4.toNat true,a.2.1,a.2.2)) else Option.bind (bif x3==1 then aj (aq x4 a.1.length) (some (a.1.set x4.toNat false,a.2.1,a.2.2)) else Option.bind (bif x3==2 then aj (aq x4 a.2.1.length) (some (a.2.1.set x4.toNat true,a.2.2)) else Option.bind (bif x3==3 then aj (aq x4 a.2.1.length) (some (a.2.1.set x4.toNat false,a.2.2)) else Option.bind (bif x3==4 then aj (bw a.2.2.length ([(x5,x4)]:List (Int×Int)).length) (some (a.2.2++([(x5,x4)]:List (Int×Int)))) else Option.bind (jq x2 x5 x4) (fun b=>aj (DF 0 b a.2.2.length) (aj (DF (ay (b+1)) (x2.length:Int) x2.length) (aj (bw (ai a.2.2 0 b).length (ai x2 (ay (b+1)) (x2.length:Int)).length) (some ((ai a.2.2 0 b)++(ai x2 (ay (b+1)) (x2.length:Int)))))))) (fun j=>some (a.2.1,j))) (fun f=>some (f.1,f.2))) (fun g=>some (a.1,g.1,g.2))) (fun c=>some (c.1,c.2.1,c.2.2))) (fun d=>some (d.1,d.2.1,d.2.2,true)))))) else some (([]:List Bool),([]:List Bool),([]:List (Int×Int)),false)))
def lZ (x0:Int) (x1:List (Int×Int×Int)) (x2:List (Int×Int)) (x3:List Bool) (x4:List Bool) (x5:List (Int×Int)) (x6:List Int) (x7:Int) (x8:Int) (x9:Int):Option (Int×List (Int×Int×Int)×List (Int×Int)×List Bool×List Bool×List (Int×Int)×List Int×Bool):=Option.bind (bg x0 x1 x2 x3 x4 x5 x6) (fun h=>(bif h then Option.bind (am x8 0 (ay ((x3.length:Int)-1))) (fun i=>(bif i then Option.bind (cQ x6 x8) (fun g=>(bif (x7==6)&&(!g) then Option.bind (nR x0 x1 x2 x3 x4 x5 x6 x8) (fun b=>some (b.1,b.2.1,b.2.2.1,b.2.2.2.1,b.2.2.2.2.1,b.2.2.2.2.2.1,b.2.2.2.2.2.2,true)) else Option.bind (bif (x7==7)&&g then Option.bind (dJ x3 x4 x5 x8) (fun j=>Option.bind (cQ j x9) (fun k=>some k)) else some false) (fun l=>(bif l then Option.bind (pw x0 x1 x2 x3 x4 x5 x6 x8) (fun c=>some (c.1,c.2.1,c.2.2.1,c.2.2.2.1,c.2.2.2.2.1,c.2.2.2.2.2.1,c.2.2.2.2.2.2,true)) else (bif (x7==0)&&g then Option.bind (bb x0 x1 x2 x3 x4 x5 x6) (fun d=>some (d.1,d.2.1,d.2.2.1,d.2.2.2.1,d.2.2.2.2.1,d.2.2.2.2.2.1,d.2.2.2.2.2.2,false)) else Option.bind (bb x0 x1 x2 x3 x4 x5 x6) (fun a=>Option.bind (nk x3 x4 x5 x7 x8 x9) (fun f=>Option.bind (gb (!(!f.2.2.2)) (eD x0 x1 f.1 x2)) (fun m=>(bif (!f.2.2.2) ||(!m) then some (a.1,a.2.1,a.2.2.1,a.2.2.2.1,a.2.2.2.2.1,a.2.2.2.2.2.1,a.2.2.2.2.2.2,false) else some (a.1,a.2.1,a.2.2.1,f.1,f.2.1,f.2.2.1,a.2.2.2.2.2.2,true)))))))))) else Option.bind (bb x0 x1 x2 x3 x4 x5 x6) (fun e=>some (e.1,e.2.1,e.2.2.1,e.2.2.2.1,e.2.2.2.2.1,e.2.2.2.2.2.1,e.2.2.2.2.2.2,false)))) else some (0,([]:List (Int×Int×Int)),([]:List (Int×Int)),([]:List Bool),([]:List Bool),([]:List (Int×Int)),([]:List Int),false)))
def kS (x0:Int):Option (Bool):=some ((aF 0 x0)&&(aF x0 999))
def ff (x2:List (Int×Int)) (c:Int→Option (Unit ⊕ Bool)) (a:Int):Option (Unit ⊕ Bool):=(bif af a (x2.length:Int) then aj (aq a x2.length) (Option.bind (kS ((x2.getD a.toNat ((0,0):Int×Int)).1)) (fun b=>Option.bind (gb (!(!b)) (kS ((x2.getD a.toNat ((0,0):Int×Int)).2))) (fun d=>(bif (!b) ||(!d) then some (Sum.inr false) else c (ay (a+1)))))) else some (Sum.inl ()))
def cW x2:=cb (ff x2)
theorem qG x2 n p:cW x2 (n+1) p=ff x2 (cW x2 n) p:=rfl
def fP (x0:Int) (x1:List (Int×Int×Int)) (x2:List (Int×Int)):Option (Bool):=Option.bind (aX x0 x1) (fun a=>(bif (!a) ||((x2.length:Int) !=x0) then some false else Option.bind (cW x2 ah 0:Option (Unit ⊕ Bool)) (Sum.elim (fun (b:Unit)=>some true) (fun (r:Bool)=>some r))))
def aQ (x0:List (Int×Int)) (x1:Int) (x2:Int) (b:Int→Option (Unit ⊕ Int)) (a:Int):Option (Unit ⊕ Int):=(bif af a (x0.length:Int) then aj (aq a x0.length) ((bif (x1==((x0.getD a.toNat ((0,0):Int×Int)).1))&&(x2==((x0.getD a.toNat ((0,0):Int×Int)).2)) then some (Sum.inr a) else b (ay (a+1)))) else some (Sum.inl ()))
def aE x0 x1 x2:=cb (aQ x0 x1 x2)
theorem cz x0 x1 x2 n p:aE x0 x1 x2 (n+1) p=aQ x0 x1 x2 (aE x0 x1 x2 n) p:=rfl
def aK (x0:List (Int×Int)) (x1:Int) (x2:Int):Option (Int):=Option.bind (aE x0 x1 x2 ah 0:Option (Unit ⊕ Int)) (Sum.elim (fun (a:Unit)=>some (-1)) (fun (r:Int)=>some r))
def az (x0:List (Int×Int)) (x1:Int) (x2:Int):Option (Bool):=Option.bind (aK x0 x1 x2) (fun a=>some (aF 0 a))
def fX (x0:List Bool) (x1:List Bool) (b:Int→Option (Unit ⊕ Bool)) (a:Int):Option (Unit ⊕ Bool):=(bif af a (x0.length:Int) then aj (aq a x0.length) (aj (!(x0.getD a.toNat false) ||aq a x1.length) ((bif (x0.getD a.toNat false)&&(x1.getD a.toNat false) then some (Sum.inr false) else b (ay (a+1))))) else some (Sum.inl ()))
def dR x0 x1:=cb (fX x0 x1)
theorem rD x0 x1 n p:dR x0 x1 (n+1) p=fX x0 x1 (dR x0 x1 n) p:=rfl
def fY (x0:List Bool) (x1:List Bool) (x2:List (Int×Int)) (b:Int→Option (Unit ⊕ Bool)) (a:Int):Option (Unit ⊕ Bool):=(bif af a (x2.length:Int) then aj (aq a x2.length) (aj (!(!((((af ((x2.getD a.toNat ((0,0):Int×Int)).1) 0) ||(af 9 ((x2.getD a.toNat ((0,0):Int×Int)).1))) ||(af ((x2.getD a.toNat ((0,0):Int×Int)).2) 0)) ||(aF (x0.length:Int) ((x2.getD a.toNat ((0,0):Int×Int)).2)))) ||aq ((x2.getD a.toNat ((0,0):Int×Int)).2) x1.length) (aj (!(!(((((af ((x2.getD a.toNat ((0,0):Int×Int)).1) 0) ||(af 9 ((x2.getD a.toNat ((0,0):Int×Int)).1))) ||(af ((x2.getD a.toNat ((0,0):Int×Int)).2) 0)) ||(aF (x0.length:Int) ((x2.getD a.toNat ((0,0):Int×Int)).2))) ||(!(x1.getD (((x2.getD a.toNat ((0,0):Int×Int)).2).toNat) false)))) ||DF 0 a x2.length) (Option.bind (gb (!(((((af ((x2.getD a.toNat ((0,0):Int×Int)).1) 0) ||(af 9 ((x2.getD a.toNat ((0,0):Int×Int)).1))) ||(af ((x2.getD a.toNat ((0,0):Int×Int)).2) 0)) ||(aF (x0.length:Int) ((x2.getD a.toNat ((0,0):Int×Int)).2))) ||(!(x1.getD (((x2.getD a.toNat ((0,0):Int×Int)).2).toNat) false)))) (az (ai x2 0 a) ((x2.getD a.toNat ((0,0):Int×Int)).1) ((x2.getD a.toNat ((0,0):Int×Int)).2))) (fun c=>(bif (((((af ((x2.getD a.toNat ((0,0):Int×Int)).1) 0) ||(af 9 ((x2.getD a.toNat ((0,0):Int×Int)).1))) ||(af ((x2.getD a.toNat ((0,0):Int×Int)).2) 0)) ||(aF (x0.length:Int) ((x2.getD a.toNat ((0,0):Int×Int)).2))) ||(!(x1.getD (((x2.getD a.toNat ((0,0):Int×Int)).2).toNat) false))) ||c then some (Sum.inr false) else b (ay (a+1))))))) else some (Sum.inl ()))
def dS x0 x1 x2:=cb (fY x0 x1 x2)
theorem rE x0 x1 x2 n p:dS x0 x1 x2 (n+1) p=fY x0 x1 x2 (dS x0 x1 x2 n) p:=rfl
def eH (x0:List Bool) (x1:List Bool) (x2:List (Int×Int)):Option (Bool):=(bif (((af (x0.length:Int) 1) ||(af 10 (x0.length:Int))) ||((x1.length:Int) !=(x0.length:Int))) ||(af 6 (x2.length:Int)) then some false else Option.bind (dR x0 x1 ah 0:Option (Unit ⊕ Bool)) (Sum.elim (fun (a:Unit)=>Option.bind (dS x0 x1 x2 ah 0:Option (Unit ⊕ Bool)) (Sum.elim (fun (b:Unit)=>some true) (fun (r:Bool)=>some r))) (fun (r:Bool)=>some r)))
def bd (x0:Int) (x1:List (Int×Int×Int)) (x2:Int):Option (Bool):=some ((aF 0 x2)&&(af x2 (x1.length:Int)))
def kR (x0:Int) (x1:List (Int×Int×Int)) (x2:List Bool):Option (Bool):=Option.bind (aX x0 x1) (fun a=>some (a&&((x2.length:Int)==(x1.length:Int))))
def dE (x0:Int) (x1:List (Int×Int×Int)) (x2:List Bool) (x3:List (Int×Int)):Option (Bool):=Option.bind (kR x0 x1 x2) (fun a=>Option.bind (gb a (fP x0 x1 x3)) (fun b=>some (a&&b)))
def iE (x0:Int) (b:(List Int×Int)→Option ((List Int))) (a:(List Int×Int)):Option ((List Int)):=(bif af a.2 (x0.toNat:Int) then aj (aq a.2 x0.toNat) (b (a.1.set a.2.toNat a.2,ay (a.2+1))) else some a.1)
def eV x0:=cb (iE x0)
theorem sZ x0 n p:eV x0 (n+1) p=iE x0 (eV x0 n) p:=rfl
def kD (x0:Int):Option (List Int):=aj (sF x0) (Option.bind (eV x0 ah (List.replicate x0.toNat (0:Int),0)) (fun a=>some a))
def kK (x0:List Int) (b:(List Int×Int)→Option ((Int×List Int))) (a:(List Int×Int)):Option ((Int×List Int)):=aj (aq a.2 x0.length) ((bif (a.1.getD a.2.toNat (0:Int)) !=a.2 then aj (aq a.2 x0.length) (aj (aq (a.1.getD a.2.toNat (0:Int)) x0.length) (aj (aq a.2 x0.length) (aj (aq a.2 x0.length) (b (a.1.set a.2.toNat (a.1.getD ((a.1.getD a.2.toNat (0:Int)).toNat) (0:Int)),((a.1.set a.2.toNat (a.1.getD ((a.1.getD a.2.toNat (0:Int)).toNat) (0:Int))).getD a.2.toNat (0:Int))))))) else some (a.2,a.1)))
def gk x0:=cb (kK x0)
theorem yS x0 n p:gk x0 (n+1) p=kK x0 (gk x0 n) p:=rfl
def bz (x0:List Int) (x1:Int):Option (Int×List Int):=Option.bind (gk x0 ah (x0,x1)) (fun a=>some (a.1,a.2))
def kZ (x0:List Int) (x1:Int) (x2:Int):Option (Bool×List Int):=Option.bind (bz x0 x1) (fun a=>Option.bind (bz a.2 x2) (fun b=>some (a.1==b.1,b.2)))
def gl (x0:List Int) (x1:Int) (x2:Int):Option (List Int):=Option.bind (bz x0 x1) (fun a=>Option.bind (bz a.2 x2) (fun b=>aj (aq (max a.1 b.1) x0.length) (some (b.2.set ((max a.1 b.1).toNat) (min a.1 b.1)))))
def iC (x1:List (Int×Int×Int)) (x2:List Bool) (c:(List Int×Int)→Option (Unit ⊕ Bool)) (a:(List Int×Int)):Option (Unit ⊕ Bool):=(bif af a.2 (x1.length:Int) then aj (aq a.2 x1.length) (aj (aq a.2 x2.length) (Option.bind ((bif x2.getD a.2.toNat false then Option.bind (kZ a.1 ((x1.getD a.2.toNat ((0,0,0):Int×Int×Int)).1) ((x1.getD a.2.toNat ((0,0,0):Int×Int×Int)).2.1)) (fun b=>(bif b.1 then some (Sum.inr true) else Option.bind (gl b.2 ((x1.getD a.2.toNat ((0,0,0):Int×Int×Int)).1) ((x1.getD a.2.toNat ((0,0,0):Int×Int×Int)).2.1)) (fun d=>some (Sum.inl d)))) else some (Sum.inl a.1)):Option ((List Int) ⊕ Bool)) (Sum.elim (fun (e:List Int)=>c (e,ay (a.2+1))) (fun (r:Bool)=>some (Sum.inr r))))) else some (Sum.inl ()))
def jE x1 x2:=cb (iC x1 x2)
theorem sX x1 x2 n p:jE x1 x2 (n+1) p=iC x1 x2 (jE x1 x2 n) p:=rfl
def nG (x0:Int) (x1:List (Int×Int×Int)) (x2:List Bool):Option (Bool):=Option.bind (kD x0) (fun a=>Option.bind (jE x1 x2 ah (a,0):Option (Unit ⊕ Bool)) (Sum.elim (fun (b:Unit)=>some false) (fun (r:Bool)=>some r)))
def fT (x0:Int) (x1:Int) (x2:Int) (x3:Int):Option (Int):=(bif x3==x0 then some x1 else (bif x3==x1 then some x0 else some (-1)))
def ep (x1:List (Int×Int×Int)) (x2:List Int) (x3:List Int) (x5:List Bool) (x6:Int) (d:Int×List Int×List Int×List Int) (e:(Int×List Int×List Int×List Int)→Option ((List Int×List Int×List Int))) (a:(Int×List Int×List Int×List Int)):Option ((List Int×List Int×List Int)):=(bif af a.1 (x1.length:Int) then aj (aq a.1 x1.length) (Option.bind (fT ((x1.getD a.1.toNat ((0,0,0):Int×Int×Int)).1) ((x1.getD a.1.toNat ((0,0,0):Int×Int×Int)).2.1) ((x1.getD a.1.toNat ((0,0,0):Int×Int×Int)).2.2) (d.2.2.2.getD d.1.toNat (0:Int))) (fun b=>aj (aq a.1 x5.length) (aj (!((x5.getD a.1.toNat false)&&(aF 0 b)) ||aq b x2.length) (Option.bind (bif ((x5.getD a.1.toNat false)&&(aF 0 b))&&(af (a.2.1.getD b.toNat (0:Int)) 0) then aj (aq b x2.length) (aj (aq b x3.length) (aj (bw a.2.2.2.length ([b]:List Int).length) (some (a.2.1.set b.toNat x6,a.2.2.1.set b.toNat a.1,a.2.2.2++([b]:List Int))))) else some (a.2.1,a.2.2.1,a.2.2.2)) (fun c=>e (ay (a.1+1),c.1,c.2.1,c.2.2)))))) else some (a.2.1,a.2.2.1,a.2.2.2))
def cF x1 x2 x3 x5 x6 a:=cb (ep x1 x2 x3 x5 x6 a)
theorem pJ x1 x2 x3 x5 x6 p112 n p:cF x1 x2 x3 x5 x6 p112 (n+1) p=ep x1 x2 x3 x5 x6 p112 (cF x1 x2 x3 x5 x6 p112 n) p:=rfl
def eo (x1:List (Int×Int×Int)) (x2:List Int) (x3:List Int) (x5:List Bool) (x6:Int) (c:(Int×List Int×List Int×List Int)→Option ((List Int×List Int×List Int))) (a:(Int×List Int×List Int×List Int)):Option ((List Int×List Int×List Int)):=(bif af a.1 (a.2.2.2.length:Int) then aj (aq a.1 a.2.2.2.length) (Option.bind (cF x1 x2 x3 x5 x6 a ah (0,a.2.1,a.2.2.1,a.2.2.2)) (fun b=>c (ay (a.1+1),b.1,b.2.1,b.2.2))) else some (a.2.1,a.2.2.1,a.2.2.2))
def fl x1 x2 x3 x5 x6:=cb (eo x1 x2 x3 x5 x6)
theorem pI x1 x2 x3 x5 x6 n p:fl x1 x2 x3 x5 x6 (n+1) p=eo x1 x2 x3 x5 x6 (fl x1 x2 x3 x5 x6 n) p:=rfl
def jH (x0:Int) (x1:List (Int×Int×Int)) (x2:List Int) (x3:List Int) (x4:List Int) (x5:List Bool) (x6:Int):Option (Int×List Int×List Int×List Int):=aj (bw x4.length ([x6]:List Int).length) (Option.bind (fl x1 x2 x3 x5 x6 ah ((x4.length:Int),x2,x3,x4++([x6]:List Int))) (fun a=>some (x0,a.1,a.2.1,a.2.2)))
def kU (x0:Int) (b:(Int×List Int×List Int)→Option ((List Int×List Int))) (a:(Int×List Int×List Int)):Option ((List Int×List Int)):=(bif af a.1 x0 then aj (aq a.1 x0.toNat) (aj (aq a.1 x0.toNat) (b (ay (a.1+1),a.2.1.set a.1.toNat (-1),a.2.2.set a.1.toNat (-1)))) else some (a.2.1,a.2.2))
def je x0:=cb (kU x0)
theorem vR x0 n p:je x0 (n+1) p=kU x0 (je x0 n) p:=rfl
def kV (x1:List (Int×Int×Int)) (x2:List Bool) (x3:List (Int×Int)) (d:(Int×Int×List Int×List Int×List Int)→Option ((Int×List Int×List Int×List Int) ⊕ (Int×Bool×List Int×List Int×List Int×Bool))) (a:(Int×Int×List Int×List Int×List Int)):Option ((Int×List Int×List Int×List Int) ⊕ (Int×Bool×List Int×List Int×List Int×Bool)):=(bif af a.1 (x3.length:Int) then Option.bind (aj (aq a.1 x3.length) ((bif ((x3.getD a.1.toNat ((0,0):Int×Int)).1)==0 then some (Sum.inl (a.2.1,a.2.2.1,a.2.2.2.1,a.2.2.2.2)) else aj (aq a.1 a.2.2.1.length) ((bif aF 0 (a.2.2.1.getD a.1.toNat (0:Int)) then some (Sum.inr (0,false,([]:List Int),([]:List Int),([]:List Int),false)) else aj (aq a.1 a.2.2.1.length) (Option.bind (jH a.2.1 x1 (a.2.2.1.set a.1.toNat a.1) a.2.2.2.1 a.2.2.2.2 x2 a.1) (fun b=>some (Sum.inl (b.1,b.2.1,b.2.2.1,b.2.2.2)))))))):Option ((Int×List Int×List Int×List Int) ⊕ (Int×Bool×List Int×List Int×List Int×Bool))) (Sum.elim (fun (c:Int×List Int×List Int×List Int)=>d (ay (a.1+1),c.1,c.2.1,c.2.2.1,c.2.2.2)) (fun (r:(Int×Bool×List Int×List Int×List Int×Bool))=>some (Sum.inr r))) else some (Sum.inl (a.2.1,a.2.2.1,a.2.2.2.1,a.2.2.2.2)))
def mo x1 x2 x3:=cb (kV x1 x2 x3)
theorem vS x1 x2 x3 n p:mo x1 x2 x3 (n+1) p=kV x1 x2 x3 (mo x1 x2 x3 n) p:=rfl
def kI (x0:Int) (x1:List (Int×Int×Int)) (x2:List Bool) (x3:List (Int×Int)):Option (Int×Bool×List Int×List Int×List Int×Bool):=Option.bind (dE x0 x1 x2 x3) (fun b=>Option.bind (gb (!(!b)) (nG x0 x1 x2)) (fun d=>(bif (!b) ||d then some (0,false,([]:List Int),([]:List Int),([]:List Int),false) else aj (sF x0) (aj (sF x0) (Option.bind (je x0 ah (0,List.replicate x0.toNat (0:Int),List.replicate x0.toNat (0:Int))) (fun c=>Option.bind (mo x1 x2 x3 ah (0,x0,c.1,c.2,([]:List Int)):Option ((Int×List Int×List Int×List Int) ⊕ (Int×Bool×List Int×List Int×List Int×Bool))) (Sum.elim (fun (a:Int×List Int×List Int×List Int)=>some (a.1,true,a.2.1,a.2.2.1,a.2.2.2,true)) (fun (r:(Int×Bool×List Int×List Int×List Int×Bool))=>some r))))))))
def ij (x0:Int) (x1:List (Int×Int×Int)) (x2:List Bool) (x3:List (Int×Int)):Option (Bool):=Option.bind (kI x0 x1 x2 x3) (fun a=>some a.2.2.2.2.2)
def fh (x0:Int) (x1:List (Int×Int×Int)) (x3:List Bool) (x6:List Int) (c:Int→Option (Unit ⊕ Bool)) (a:Int):Option (Unit ⊕ Bool):=(bif af a (x6.length:Int) then aj (aq a x6.length) (Option.bind (bd x0 x1 (x6.getD a.toNat (0:Int))) (fun b=>aj (!(!(!b)) ||aq (x6.getD a.toNat (0:Int)) x3.length) (aj (!((!((!b) ||(x3.getD ((x6.getD a.toNat (0:Int)).toNat) false)))&&(af 0 a)) ||aq (ay (a-1)) x6.length) ((bif ((!b) ||(x3.getD ((x6.getD a.toNat (0:Int)).toNat) false)) ||((af 0 a)&&(aF (x6.getD a.toNat (0:Int)) (x6.getD ((ay (a-1)).toNat) (0:Int)))) then some (Sum.inr false) else c (ay (a+1))))))) else some (Sum.inl ()))
def cZ x0 x1 x3 x6:=cb (fh x0 x1 x3 x6)
theorem qI x0 x1 x3 x6 n p:cZ x0 x1 x3 x6 (n+1) p=fh x0 x1 x3 x6 (cZ x0 x1 x3 x6 n) p:=rfl
def bf (x0:Int) (x1:List (Int×Int×Int)) (x2:List (Int×Int)) (x3:List Bool) (x4:List Bool) (x5:List (Int×Int)) (x6:List Int):Option (Bool):=Option.bind (fP x0 x1 x2) (fun a=>Option.bind (gb (!(!a)) (eH x3 x4 x5)) (fun b=>(bif ((!a) ||(!b)) ||((x3.length:Int) !=(x1.length:Int)) then some false else Option.bind (cZ x0 x1 x3 x6 ah 0:Option (Unit ⊕ Bool)) (Sum.elim (fun (d:Unit)=>Option.bind (ij x0 x1 x3 x2) (fun c=>some c)) (fun (r:Bool)=>some r)))))
def aU (x0:List (Int×Int×Int)):Option (List (Int×Int×Int)):=aj (bw ([]:List (Int×Int×Int)).length x0.length) (some x0)
def ba (x0:List (Int×Int)):Option (List (Int×Int)):=aj (bw ([]:List (Int×Int)).length x0.length) (some x0)
def aR (x0:List Bool):Option (List Bool):=aj (bw ([]:List Bool).length x0.length) (some x0)
def aJ (x0:List (Int×Int)):Option (List (Int×Int)):=aj (bw ([]:List (Int×Int)).length x0.length) (some x0)
def fZ (x0:List Bool) (x1:List Bool) (x2:List (Int×Int)):Option (List Bool×List Bool×List (Int×Int)):=Option.bind (aR x0) (fun a=>Option.bind (aR x1) (fun b=>Option.bind (aJ x2) (fun c=>some (a,b,c))))
def cg (x0:List Int):Option (List Int):=aj (bw ([]:List Int).length x0.length) (some x0)
def bG (x0:Int) (x1:List (Int×Int×Int)) (x2:List (Int×Int)) (x3:List Bool) (x4:List Bool) (x5:List (Int×Int)) (x6:List Int):Option (Int×List (Int×Int×Int)×List (Int×Int)×List Bool×List Bool×List (Int×Int)×List Int):=Option.bind (aU x1) (fun b=>Option.bind (ba x2) (fun c=>Option.bind (fZ x3 x4 x5) (fun a=>Option.bind (cg x6) (fun d=>some (x0,b,c,a.1,a.2.1,a.2.2,d)))))
def nv (x0:Int):Option (Bool):=some (x0 !=x0)
def oZ (x0:Int) (x1:Int):Option (Bool):=Option.bind (nv x0) (fun a=>Option.bind (gb a (nv x1)) (fun b=>some ((a&&(!b)) ||(af x0 x1))))
def jT (x0:Int):Option (Bool):=some (x0 !=x0)
def cc (x0:List Int) (x1:Int) (c:(Int×Int)→Option (Int)) (a:(Int×Int)):Option (Int):=(bif af a.1 a.2 then aj (aq (ay (kL .u64 (wk .u64 (ay (a.1+a.2))) 1)) x0.length) (Option.bind (oZ (x0.getD ((ay (kL .u64 (wk .u64 (ay (a.1+a.2))) 1)).toNat) (0:Int)) x1) (fun d=>Option.bind (bif d then some (ay ((ay (kL .u64 (wk .u64 (ay (a.1+a.2))) 1))+1),a.2) else some (a.1,ay (kL .u64 (wk .u64 (ay (a.1+a.2))) 1))) (fun b=>c (b.1,b.2)))) else some a.1)
def aZ x0 x1:=cb (cc x0 x1)
theorem oz x0 x1 n p:aZ x0 x1 (n+1) p=cc x0 x1 (aZ x0 x1 n) p:=rfl
def bO (x0:List Int) (x1:Int):Option (Int×Bool):=Option.bind (aZ x0 x1 ah (0,(x0.length:Int))) (fun a=>aj (!(af a (x0.length:Int)) ||aq a x0.length) (aj (!((af a (x0.length:Int))&&(!((x0.getD a.toNat (0:Int))==x1))) ||aq a x0.length) (Option.bind (gb ((af a (x0.length:Int))&&(!((x0.getD a.toNat (0:Int))==x1))) (jT (x0.getD a.toNat (0:Int)))) (fun b=>Option.bind (gb (((af a (x0.length:Int))&&(!((x0.getD a.toNat (0:Int))==x1)))&&b) (jT x1)) (fun c=>some (a,(af a (x0.length:Int))&&(((x0.getD a.toNat (0:Int))==x1) ||(b&&c))))))))
def bX (x0:List Int) (x1:Int) (x2:Int):Option (List Int):=aj (DF x1 x2 x0.length) ((bif x1==x2 then some x0 else aj (DF 0 x1 x0.length) (aj (DF x2 (x0.length:Int) x0.length) (aj (bw (ai x0 0 x1).length (ai x0 x2 (x0.length:Int)).length) (some ((ai x0 0 x1)++(ai x0 x2 (x0.length:Int))))))))
def bY (x0:List Int) (x1:Int) (x2:List Int):Option (List Int):=aj (DF 0 x1 x0.length) (aj (bw x0.length 1) (aj ((x2.length:Int)==1) (some (x0.take x1.toNat++x2++x0.drop x1.toNat))))
def iu (x2:List (Int×Int)) (x3:Int) (b:(List Int×Int)→Option ((List Int))) (a:(List Int×Int)):Option ((List Int)):=(bif af a.2 (x2.length:Int) then aj (aq a.2 x2.length) (Option.bind (bif ((x2.getD a.2.toNat ((0,0):Int×Int)).2)==x3 then aj (bw a.1.length ([(x2.getD a.2.toNat ((0,0):Int×Int)).1]:List Int).length) (some (a.1++([(x2.getD a.2.toNat ((0,0):Int×Int)).1]:List Int))) else some a.1) (fun c=>b (c,ay (a.2+1)))) else some a.1)
def jC x2 x3:=cb (iu x2 x3)
theorem sT x2 x3 n p:jC x2 x3 (n+1) p=iu x2 x3 (jC x2 x3 n) p:=rfl
def nA (x0:List Bool) (x1:List Bool) (x2:List (Int×Int)) (x3:Int):Option (List Int):=Option.bind (eH x0 x1 x2) (fun a=>(bif a then Option.bind (jC x2 x3 ah (([]:List Int),0)) (fun b=>some b) else some ([]:List Int)))
def nB (x0:List Bool) (x1:List Bool) (x2:List (Int×Int)) (x3:Int) (x4:Int) (x5:Int):Option (Bool):=aj (aq x4 x0.length) (aj (aq x4 x1.length) (Option.bind (az x2 x5 x4) (fun a=>Option.bind (bif x3==0 then some (x3==0) else some (x3==2)) (fun b=>(bif b then some ((!(x0.getD x4.toNat false))&&(!(x1.getD x4.toNat false))) else (bif x3==1 then some (x0.getD x4.toNat false) else (bif x3==3 then Option.bind (bif x1.getD x4.toNat false then Option.bind (nA x0 x1 x2 x4) (fun c=>some ((c.length:Int)==0)) else some false) (fun d=>some d) else (bif x3==4 then some (((((x1.getD x4.toNat false)&&(!a))&&(aF 0 x5))&&(aF x5 9))&&(af (x2.length:Int) 6)) else (bif x3==5 then some a else some false)))))))))
def aH (x0:List (Int×Int)) (x1:Int) (x2:Int):Option (List (Int×Int)):=aj (DF x1 x2 x0.length) ((bif x1==x2 then some x0 else aj (DF 0 x1 x0.length) (aj (DF x2 (x0.length:Int) x0.length) (aj (bw (ai x0 0 x1).length (ai x0 x2 (x0.length:Int)).length) (some ((ai x0 0 x1)++(ai x0 x2 (x0.length:Int))))))))
def qj (x0:List Bool) (x1:List Bool) (x2:List (Int×Int)) (x3:Int) (x4:Int) (x5:Int):Option (List Bool×List Bool×List (Int×Int)×Bool):=Option.bind (eH x0 x1 x2) (fun e=>(bif e then Option.bind (fZ x0 x1 x2) (fun a=>Option.bind (gb (!((af x4 0) ||(aF (x0.length:Int) x4))) (nB x0 x1 x2 x3 x4 x5)) (fun f=>(bif ((af x4 0) ||(aF (x0.length:Int) x4)) ||(!f) then some (a.1,a.2.1,a.2.2,false) else Option.bind (bif x3==0 then some (x3==0) else some (x3==1)) (fun g=>Option.bind (bif g then aj (aq x4 a.1.length) (some (a.1.set x4.toNat (x3==0),a.2.1,a.2.2)) else Option.bind (bif x3==2 then some (x3==2) else some (x3==3)) (fun h=>Option.bind (bif h then aj (aq x4 a.2.1.length) (some (a.2.1.set x4.toNat (x3==2),a.2.2)) else Option.bind (bif x3==4 then aj (bw a.2.2.length ([(x5,x4)]:List (Int×Int)).length) (some (a.2.2++([(x5,x4)]:List (Int×Int)))) else Option.bind (bif x3==5 then Option.bind (aK a.2.2 x5 x4) (fun c=>Option.bind (aH a.2.2 c (ay (c+1))) (fun i=>some i)) else some a.2.2) (fun j=>some j)) (fun k=>some (a.2.1,k))) (fun d=>some (a.1,d.1,d.2)))) (fun b=>some (b.1,b.2.1,b.2.2,true)))))) else some (([]:List Bool),([]:List Bool),([]:List (Int×Int)),false)))
def nD (x0:Int) (x1:List (Int×Int×Int)) (x2:List (Int×Int)) (x3:List Bool) (x4:List Bool) (x5:List (Int×Int)) (x6:List Int) (x7:Int) (x8:Int) (x9:Int):Option (Bool×Int×List (Int×Int×Int)×List (Int×Int)×List Bool×List Bool×List (Int×Int)×List Int):=Option.bind (bO x6 x8) (fun a=>(bif x7==6 then (bif a.2 then some (false,x0,x1,x2,x3,x4,x5,x6) else Option.bind (bY x6 a.1 ([x8]:List Int)) (fun c=>aj (aq x8 x3.length) (some (true,x0,x1,x2,x3.set x8.toNat false,x4,x5,c)))) else (bif x7==7 then Option.bind (gb (!(!a.2)) (az x5 x9 x8)) (fun d=>(bif (!a.2) ||(!d) then some (false,x0,x1,x2,x3,x4,x5,x6) else Option.bind (bX x6 a.1 (ay (a.1+1))) (fun e=>some (true,x0,x1,x2,x3,x4,x5,e)))) else Option.bind ((bif x7==0 then (bif a.2 then some (Sum.inr (false,x0,x1,x2,x3,x4,x5,x6)) else some (Sum.inl ())) else some (Sum.inl ())):Option (Unit ⊕ (Bool×Int×List (Int×Int×Int)×List (Int×Int)×List Bool×List Bool×List (Int×Int)×List Int))) (Sum.elim (fun (g:Unit)=>Option.bind (qj x3 x4 x5 x7 x8 x9) (fun b=>Option.bind (gb (b.2.2.2&&(!(x7 !=0))) (ij x0 x1 b.1 x2)) (fun f=>some (b.2.2.2&&((x7 !=0) ||f),x0,x1,x2,b.1,b.2.1,b.2.2.1,x6)))) (fun (r:(Bool×Int×List (Int×Int×Int)×List (Int×Int)×List Bool×List Bool×List (Int×Int)×List Int))=>some r)))))
def lT (x0:Int) (x1:List (Int×Int×Int)) (x2:List (Int×Int)) (x3:List Bool) (x4:List Bool) (x5:List (Int×Int)) (x6:List Int) (x7:Int) (x8:Int) (x9:Int):Option (Int×List (Int×Int×Int)×List (Int×Int)×List Bool×List Bool×List (Int×Int)×List Int×Bool):=Option.bind (bf x0 x1 x2 x3 x4 x5 x6) (fun e=>(bif e then Option.bind (bG x0 x1 x2 x3 x4 x5 x6) (fun a=>Option.bind (Option.bind (bd x0 x1 x8) (fun f=>(bif f then Option.bind (nD a.1 a.2.1 a.2.2.1 a.2.2.2.1 a.2.2.2.2.1 a.2.2.2.2.2.1 a.2.2.2.2.2.2 x7 x8 x9) (fun b=>some (!b.1,b.2.1,b.2.2.1,b.2.2.2.1,b.2.2.2.2.1,b.2.2.2.2.2.1,b.2.2.2.2.2.2.1,b.2.2.2.2.2.2.2)) else some (true,a.1,a.2.1,a.2.2.1,a.2.2.2.1,a.2.2.2.2.1,a.2.2.2.2.2.1,a.2.2.2.2.2.2)))) (fun c=>(bif c.1 then Option.bind (bG x0 x1 x2 x3 x4 x5 x6) (fun d=>some (d.1,d.2.1,d.2.2.1,d.2.2.2.1,d.2.2.2.2.1,d.2.2.2.2.2.1,d.2.2.2.2.2.2,false)) else some (c.2.1,c.2.2.1,c.2.2.2.1,c.2.2.2.2.1,c.2.2.2.2.2.1,c.2.2.2.2.2.2.1,c.2.2.2.2.2.2.2,true)))) else some (0,([]:List (Int×Int×Int)),([]:List (Int×Int)),([]:List Bool),([]:List Bool),([]:List (Int×Int)),([]:List Int),false)))
def dB (x2:List (Int×Int)) (b:(List (Int×Int×Int)×Int)→Option ((List (Int×Int×Int)))) (a:(List (Int×Int×Int)×Int)):Option ((List (Int×Int×Int))):=(bif af a.2 (x2.length:Int) then aj (aq a.2 x2.length) (aj (bw a.1.length ([(5,(x2.getD a.2.toNat ((0,0):Int×Int)).2,(x2.getD a.2.toNat ((0,0):Int×Int)).1)]:List (Int×Int×Int)).length) (b (a.1++([(5,(x2.getD a.2.toNat ((0,0):Int×Int)).2,(x2.getD a.2.toNat ((0,0):Int×Int)).1)]:List (Int×Int×Int)),ay (a.2+1)))) else some a.1)
def em x2:=cb (dB x2)
theorem oy x2 n p:em x2 (n+1) p=dB x2 (em x2 n) p:=rfl
def iv (x0:List Bool) (x1:List Bool) (x2:List (Int×Int)):Option (List (Int×Int×Int)):=Option.bind (em x2 ah (([]:List (Int×Int×Int)),0)) (fun a=>some a)
def iA (x0:Int) (x1:List Bool) (x2:Bool) (b:(List (Int×Int×Int)×Int)→Option ((List (Int×Int×Int)))) (a:(List (Int×Int×Int)×Int)):Option ((List (Int×Int×Int))):=(bif af a.2 (x1.length:Int) then aj (aq a.2 x1.length) (Option.bind (bif (x1.getD a.2.toNat false)==x2 then aj (bw a.1.length ([(x0,a.2,0)]:List (Int×Int×Int)).length) (some (a.1++([(x0,a.2,0)]:List (Int×Int×Int)))) else some a.1) (fun c=>b (c,ay (a.2+1)))) else some a.1)
def jD x0 x1 x2:=cb (iA x0 x1 x2)
theorem sV x0 x1 x2 n p:jD x0 x1 x2 (n+1) p=iA x0 x1 x2 (jD x0 x1 x2 n) p:=rfl
def nE (x0:Int) (x1:List Bool) (x2:Bool):Option (List (Int×Int×Int)):=Option.bind (jD x0 x1 x2 ah (([]:List (Int×Int×Int)),0)) (fun a=>some a)
def jG (x0:Int) (x1:Int) (b:(List Bool×Int)→Option ((List Bool))) (a:(List Bool×Int)):Option ((List Bool)):=(bif af a.2 (x1.toNat:Int) then aj (qZ a.2) (aj (aq a.2 x1.toNat) (b (a.1.set a.2.toNat ((qe .i64 (kL .i64 x0 a.2) 1)==1),ay (a.2+1)))) else some a.1)
def gf x0 x1:=cb (jG x0 x1)
theorem um x0 x1 n p:gf x0 x1 (n+1) p=jG x0 x1 (gf x0 x1 n) p:=rfl
def pe (x0:Int) (x1:Int):Option (List Bool):=aj (sF x1) (Option.bind (gf x0 x1 ah (List.replicate x1.toNat false,0)) (fun a=>some a))
def jI (x1:List (Int×Int×Int)) (x2:List Bool) (b:(List Int×Int)→Option ((List Int))) (a:(List Int×Int)):Option ((List Int)):=(bif af a.2 (x1.length:Int) then aj (aq a.2 x1.length) (aj (aq a.2 x2.length) (Option.bind (bif x2.getD a.2.toNat false then Option.bind (gl a.1 ((x1.getD a.2.toNat ((0,0,0):Int×Int×Int)).1) ((x1.getD a.2.toNat ((0,0,0):Int×Int×Int)).2.1)) (fun c=>some c) else some a.1) (fun d=>b (d,ay (a.2+1))))) else some a.1)
def kY x1 x2:=cb (jI x1 x2)
theorem uo x1 x2 n p:kY x1 x2 (n+1) p=jI x1 x2 (kY x1 x2 n) p:=rfl
def lU (x0:Int) (x1:List (Int×Int×Int)) (x2:List Bool):Option (List Int):=Option.bind (kD x0) (fun a=>Option.bind (kY x1 x2 ah (a,0)) (fun b=>some b))
def kT (x3:List (Int×Int)) (c:(List Int×Int×Int×Int×Int×Int×Int×Int×Int×Int×Int×Int×Int×Int×Int×Int×Int×Int)→Option ((Int×Int×Int×Int×Int×Int×Int×Int×Int×Int×Int×Int×Int×Int×Int×Int))) (a:(List Int×Int×Int×Int×Int×Int×Int×Int×Int×Int×Int×Int×Int×Int×Int×Int×Int×Int)):Option ((Int×Int×Int×Int×Int×Int×Int×Int×Int×Int×Int×Int×Int×Int×Int×Int)):=(bif af a.2.1 (x3.length:Int) then aj (aq a.2.1 x3.length) (Option.bind (bz a.1 a.2.1) (fun b=>aj (aq b.1 8) (aj (aq b.1 8) (aj (aq b.1 8) (aj (aq b.1 8) (c (b.2,ay (a.2.1+1),bif b.1==0 then (ay ((([a.2.2.1,a.2.2.2.1,a.2.2.2.2.1,a.2.2.2.2.2.1,a.2.2.2.2.2.2.1,a.2.2.2.2.2.2.2.1,a.2.2.2.2.2.2.2.2.1,a.2.2.2.2.2.2.2.2.2.1]:List Int).getD b.1.toNat 0)+((x3.getD a.2.1.toNat ((0,0):Int×Int)).1))) else a.2.2.1,bif b.1==1 then (ay ((([a.2.2.1,a.2.2.2.1,a.2.2.2.2.1,a.2.2.2.2.2.1,a.2.2.2.2.2.2.1,a.2.2.2.2.2.2.2.1,a.2.2.2.2.2.2.2.2.1,a.2.2.2.2.2.2.2.2.2.1]:List Int).getD b.1.toNat 0)+((x3.getD a.2.1.toNat ((0,0):Int×Int)).1))) else a.2.2.2.1,bif b.1==2 then (ay ((([a.2.2.1,a.2.2.2.1,a.2.2.2.2.1,a.2.2.2.2.2.1,a.2.2.2.2.2.2.1,a.2.2.2.2.2.2.2.1,a.2.2.2.2.2.2.2.2.1,a.2.2.2.2.2.2.2.2.2.1]:List Int).getD b.1.toNat 0)+((x3.getD a.2.1.toNat ((0,0):Int×Int)).1))) else a.2.2.2.2.1,bif b.1==3 then (ay ((([a.2.2.1,a.2.2.2.1,a.2.2.2.2.1,a.2.2.2.2.2.1,a.2.2.2.2.2.2.1,a.2.2.2.2.2.2.2.1,a.2.2.2.2.2.2.2.2.1,a.2.2.2.2.2.2.2.2.2.1]:List Int).getD b.1.toNat 0)+((x3.getD a.2.1.toNat ((0,0):Int×Int)).1))) else a.2.2.2.2.2.1,bif b.1==4 then (ay ((([a.2.2.1,a.2.2.2.1,a.2.2.2.2.1,a.2.2.2.2.2.1,a.2.2.2.2.2.2.1,a.2.2.2.2.2.2.2.1,a.2.2.2.2.2.2.2.2.1,a.2.2.2.2.2.2.2.2.2.1]:List Int).getD b.1.toNat 0)+((x3.getD a.2.1.toNat ((0,0):Int×Int)).1))) else a.2.2.2.2.2.2.1,bif b.1==5 then (ay ((([a.2.2.1,a.2.2.2.1,a.2.2.2.2.1,a.2.2.2.2.2.1,a.2.2.2.2.2.2.1,a.2.2.2.2.2.2.2.1,a.2.2.2.2.2.2.2.2.1,a.2.2.2.2.2.2.2.2.2.1]:List Int).getD b.1.toNat 0)+((x3.getD a.2.1.toNat ((0,0):Int×Int)).1))) else a.2.2.2.2.2.2.2.1,bif b.1==6 then (ay ((([a.2.2.1,a.2.2.2.1,a.2.2.2.2.1,a.2.2.2.2.2.1,a.2.2.2.2.2.2.1,a.2.2.2.2.2.2.2.1,a.2.2.2.2.2.2.2.2.1,a.2.2.2.2.2.2.2.2.2.1]:List Int).getD b.1.toNat 0)+((x3.getD a.2.1.toNat ((0,0):Int×Int)).1))) else a.2.2.2.2.2.2.2.2.1,bif b.1==7 then (ay ((([a.2.2.1,a.2.2.2.1,a.2.2.2.2.1,a.2.2.2.2.2.1,a.2.2.2.2.2.2.1,a.2.2.2.2.2.2.2.1,a.2.2.2.2.2.2.2.2.1,a.2.2.2.2.2.2.2.2.2.1]:List Int).getD b.1.toNat 0)+((x3.getD a.2.1.toNat ((0,0):Int×Int)).1))) else a.2.2.2.2.2.2.2.2.2.1,bif b.1==0 then (ay ((([a.2.2.2.2.2.2.2.2.2.2.1,a.2.2.2.2.2.2.2.2.2.2.2.1,a.2.2.2.2.2.2.2.2.2.2.2.2.1,a.2.2.2.2.2.2.2.2.2.2.2.2.2.1,a.2.2.2.2.2.2.2.2.2.2.2.2.2.2.1,a.2.2.2.2.2.2.2.2.2.2.2.2.2.2.2.1,a.2.2.2.2.2.2.2.2.2.2.2.2.2.2.2.2.1,a.2.2.2.2.2.2.2.2.2.2.2.2.2.2.2.2.2]:List Int).getD b.1.toNat 0)+((x3.getD a.2.1.toNat ((0,0):Int×Int)).2))) else a.2.2.2.2.2.2.2.2.2.2.1,bif b.1==1 then (ay ((([a.2.2.2.2.2.2.2.2.2.2.1,a.2.2.2.2.2.2.2.2.2.2.2.1,a.2.2.2.2.2.2.2.2.2.2.2.2.1,a.2.2.2.2.2.2.2.2.2.2.2.2.2.1,a.2.2.2.2.2.2.2.2.2.2.2.2.2.2.1,a.2.2.2.2.2.2.2.2.2.2.2.2.2.2.2.1,a.2.2.2.2.2.2.2.2.2.2.2.2.2.2.2.2.1,a.2.2.2.2.2.2.2.2.2.2.2.2.2.2.2.2.2]:List Int).getD b.1.toNat 0)+((x3.getD a.2.1.toNat ((0,0):Int×Int)).2))) else a.2.2.2.2.2.2.2.2.2.2.2.1,bif b.1==2 then (ay ((([a.2.2.2.2.2.2.2.2.2.2.1,a.2.2.2.2.2.2.2.2.2.2.2.1,a.2.2.2.2.2.2.2.2.2.2.2.2.1,a.2.2.2.2.2.2.2.2.2.2.2.2.2.1,a.2.2.2.2.2.2.2.2.2.2.2.2.2.2.1,a.2.2.2.2.2.2.2.2.2.2.2.2.2.2.2.1,a.2.2.2.2.2.2.2.2.2.2.2.2.2.2.2.2.1,a.2.2.2.2.2.2.2.2.2.2.2.2.2.2.2.2.2]:List Int).getD b.1.toNat 0)+((x3.getD a.2.1.toNat ((0,0):Int×Int)).2))) else a.2.2.2.2.2.2.2.2.2.2.2.2.1,bif b.1==3 then (ay ((([a.2.2.2.2.2.2.2.2.2.2.1,a.2.2.2.2.2.2.2.2.2.2.2.1,a.2.2.2.2.2.2.2.2.2.2.2.2.1,a.2.2.2.2.2.2.2.2.2.2.2.2.2.1,a.2.2.2.2.2.2.2.2.2.2.2.2.2.2.1,a.2.2.2.2.2.2.2.2.2.2.2.2.2.2.2.1,a.2.2.2.2.2.2.2.2.2.2.2.2.2.2.2.2.1,a.2.2.2.2.2.2.2.2.2.2.2.2.2.2.2.2.2]:List Int).getD b.1.toNat 0)+((x3.getD a.2.1.toNat ((0,0):Int×Int)).2))) else a.2.2.2.2.2.2.2.2.2.2.2.2.2.1,bif b.1==4 then (ay ((([a.2.2.2.2.2.2.2.2.2.2.1,a.2.2.2.2.2.2.2.2.2.2.2.1,a.2.2.2.2.2.2.2.2.2.2.2.2.1,a.2.2.2.2.2.2.2.2.2.2.2.2.2.1,a.2.2.2.2.2.2.2.2.2.2.2.2.2.2.1,a.2.2.2.2.2.2.2.2.2.2.2.2.2.2.2.1,a.2.2.2.2.2.2.2.2.2.2.2.2.2.2.2.2.1,a.2.2.2.2.2.2.2.2.2.2.2.2.2.2.2.2.2]:List Int).getD b.1.toNat 0)+((x3.getD a.2.1.toNat ((0,0):Int×Int)).2))) else a.2.2.2.2.2.2.2.2.2.2.2.2.2.2.1,bif b.1==5 then (ay ((([a.2.2.2.2.2.2.2.2.2.2.1,a.2.2.2.2.2.2.2.2.2.2.2.1,a.2.2.2.2.2.2.2.2.2.2.2.2.1,a.2.2.2.2.2.2.2.2.2.2.2.2.2.1,a.2.2.2.2.2.2.2.2.2.2.2.2.2.2.1,a.2.2.2.2.2.2.2.2.2.2.2.2.2.2.2.1,a.2.2.2.2.2.2.2.2.2.2.2.2.2.2.2.2.1,a.2.2.2.2.2.2.2.2.2.2.2.2.2.2.2.2.2]:List Int).getD b.1.toNat 0)+((x3.getD a.2.1.toNat ((0,0):Int×Int)).2))) else a.2.2.2.2.2.2.2.2.2.2.2.2.2.2.2.1,bif b.1==6 then (ay ((([a.2.2.2.2.2.2.2.2.2.2.1,a.2.2.2.2.2.2.2.2.2.2.2.1,a.2.2.2.2.2.2.2.2.2.2.2.2.1,a.2.2.2.2.2.2.2.2.2.2.2.2.2.1,a.2.2.2.2.2.2.2.2.2.2.2.2.2.2.1,a.2.2.2.2.2.2.2.2.2.2.2.2.2.2.2.1,a.2.2.2.2.2.2.2.2.2.2.2.2.2.2.2.2.1,a.2.2.2.2.2.2.2.2.2.2.2.2.2.2.2.2.2]:List Int).getD b.1.toNat 0)+((x3.getD a.2.1.toNat ((0,0):Int×Int)).2))) else a.2.2.2.2.2.2.2.2.2.2.2.2.2.2.2.2.1,bif b.1==7 then (ay ((([a.2.2.2.2.2.2.2.2.2.2.1,a.2.2.2.2.2.2.2.2.2.2.2.1,a.2.2.2.2.2.2.2.2.2.2.2.2.1,a.2.2.2.2.2.2.2.2.2.2.2.2.2.1,a.2.2.2.2.2.2.2.2.2.2.2.2.2.2.1,a.2.2.2.2.2.2.2.2.2.2.2.2.2.2.2.1,a.2.2.2.2.2.2.2.2.2.2.2.2.2.2.2.2.1,a.2.2.2.2.2.2.2.2.2.2.2.2.2.2.2.2.2]:List Int).getD b.1.toNat 0)+((x3.getD a.2.1.toNat ((0,0):Int×Int)).2))) else a.2.2.2.2.2.2.2.2.2.2.2.2.2.2.2.2.2))))))) else some (a.2.2.1,a.2.2.2.1,a.2.2.2.2.1,a.2.2.2.2.2.1,a.2.2.2.2.2.2.1,a.2.2.2.2.2.2.2.1,a.2.2.2.2.2.2.2.2.1,a.2.2.2.2.2.2.2.2.2.1,a.2.2.2.2.2.2.2.2.2.2.1,a.2.2.2.2.2.2.2.2.2.2.2.1,a.2.2.2.2.2.2.2.2.2.2.2.2.1,a.2.2.2.2.2.2.2.2.2.2.2.2.2.1,a.2.2.2.2.2.2.2.2.2.2.2.2.2.2.1,a.2.2.2.2.2.2.2.2.2.2.2.2.2.2.2.1,a.2.2.2.2.2.2.2.2.2.2.2.2.2.2.2.2.1,a.2.2.2.2.2.2.2.2.2.2.2.2.2.2.2.2.2))
def jd x3:=cb (kT x3)
theorem vQ x3 n p:jd x3 (n+1) p=kT x3 (jd x3 n) p:=rfl
def nj (x0:Int) (x1:List (Int×Int×Int)) (x2:List Bool) (x3:List (Int×Int)):Option (Int×Int×Int×Int×Int×Int×Int×Int×Int×Int×Int×Int×Int×Int×Int×Int):=Option.bind (lU x0 x1 x2) (fun b=>Option.bind (jd x3 ah (b,0,0,0,0,0,0,0,0,0,0,0,0,0,0,0,0,0)) (fun a=>some (a.1,a.2.1,a.2.2.1,a.2.2.2.1,a.2.2.2.2.1,a.2.2.2.2.2.1,a.2.2.2.2.2.2.1,a.2.2.2.2.2.2.2.1,a.2.2.2.2.2.2.2.2.1,a.2.2.2.2.2.2.2.2.2.1,a.2.2.2.2.2.2.2.2.2.2.1,a.2.2.2.2.2.2.2.2.2.2.2.1,a.2.2.2.2.2.2.2.2.2.2.2.2.1,a.2.2.2.2.2.2.2.2.2.2.2.2.2.1,a.2.2.2.2.2.2.2.2.2.2.2.2.2.2.1,a.2.2.2.2.2.2.2.2.2.2.2.2.2.2.2)))
def fi (a:Int×Int×Int×Int×Int×Int×Int×Int×Int×Int×Int×Int×Int×Int×Int×Int) (c:(Int×Int)→Option (Int)) (b:(Int×Int)):Option (Int):=(bif af b.2 8 then aj (aq b.2 8) (aj (aq b.2 8) (Option.bind (bif aF (([a.2.2.2.2.2.2.2.2.1,a.2.2.2.2.2.2.2.2.2.1,a.2.2.2.2.2.2.2.2.2.2.1,a.2.2.2.2.2.2.2.2.2.2.2.1,a.2.2.2.2.2.2.2.2.2.2.2.2.1,a.2.2.2.2.2.2.2.2.2.2.2.2.2.1,a.2.2.2.2.2.2.2.2.2.2.2.2.2.2.1,a.2.2.2.2.2.2.2.2.2.2.2.2.2.2.2]:List Int).getD b.2.toNat (0:Int)) (([a.1,a.2.1,a.2.2.1,a.2.2.2.1,a.2.2.2.2.1,a.2.2.2.2.2.1,a.2.2.2.2.2.2.1,a.2.2.2.2.2.2.2.1]:List Int).getD b.2.toNat 0) then some (ay (b.1+(([a.2.2.2.2.2.2.2.2.1,a.2.2.2.2.2.2.2.2.2.1,a.2.2.2.2.2.2.2.2.2.2.1,a.2.2.2.2.2.2.2.2.2.2.2.1,a.2.2.2.2.2.2.2.2.2.2.2.2.1,a.2.2.2.2.2.2.2.2.2.2.2.2.2.1,a.2.2.2.2.2.2.2.2.2.2.2.2.2.2.1,a.2.2.2.2.2.2.2.2.2.2.2.2.2.2.2]:List Int).getD b.2.toNat (0:Int)))) else some b.1) (fun d=>c (d,ay (b.2+1))))) else some b.1)
def da a:=cb (fi a)
theorem qJ p102 n p:da p102 (n+1) p=fi p102 (da p102 n) p:=rfl
def gc (x0:Int) (x1:List (Int×Int×Int)) (x2:List Bool) (x3:List (Int×Int)):Option (Int):=Option.bind (nj x0 x1 x2 x3) (fun a=>Option.bind (da a ah (0,0)) (fun b=>some b))
def jA (x0:List Bool) (x1:List Bool) (b:(List Int×Int)→Option ((List Int))) (a:(List Int×Int)):Option ((List Int)):=(bif af a.2 (x0.length:Int) then aj (aq a.2 x0.length) (aj (aq a.2 x1.length) (Option.bind (bif (x0.getD a.2.toNat false) !=(x1.getD a.2.toNat false) then aj (bw a.1.length ([a.2]:List Int).length) (some (a.1++([a.2]:List Int))) else some a.1) (fun c=>b (c,ay (a.2+1))))) else some a.1)
def kP x0 x1:=cb (jA x0 x1)
theorem uj x0 x1 n p:kP x0 x1 (n+1) p=jA x0 x1 (kP x0 x1 n) p:=rfl
def pb (x0:List Bool) (x1:List Bool):Option (List Int):=(bif (x0.length:Int) !=(x1.length:Int) then some ([]:List Int) else Option.bind (kP x0 x1 ah (([]:List Int),0)) (fun a=>some a))
def kW (x0:Int) (x1:List (Int×Int×Int)) (x2:List Int) (x3:List Int) (x4:List Int) (x5:Int):Option (Int):=aj (aq x5 x3.length) (aj (aq (x3.getD x5.toNat (0:Int)) x1.length) (Option.bind (fT ((x1.getD ((x3.getD x5.toNat (0:Int)).toNat) ((0,0,0):Int×Int×Int)).1) ((x1.getD ((x3.getD x5.toNat (0:Int)).toNat) ((0,0,0):Int×Int×Int)).2.1) ((x1.getD ((x3.getD x5.toNat (0:Int)).toNat) ((0,0,0):Int×Int×Int)).2.2) x5) (fun a=>some a)))
def fj (x0:Int) (x1:List (Int×Int×Int)) (x2:List Int) (x3:List Int) (x4:List Int) (x5:List (Int×Int)) (d:(List Int×List Int×Int)→Option ((List Int))) (a:(List Int×List Int×Int)):Option ((List Int)):=(bif aF 0 a.2.2 then aj (aq a.2.2 x4.length) (aj (aq (x4.getD a.2.2.toNat (0:Int)) x5.length) (aj (aq (x4.getD a.2.2.toNat (0:Int)) x5.length) (aj (aq (x4.getD a.2.2.toNat (0:Int)) x5.length) (aj (aq (x4.getD a.2.2.toNat (0:Int)) x3.length) (Option.bind (bif aF 0 (x3.getD ((x4.getD a.2.2.toNat (0:Int)).toNat) (0:Int)) then aj (aq (x4.getD a.2.2.toNat (0:Int)) x5.length) (aj (aq (x3.getD ((x4.getD a.2.2.toNat (0:Int)).toNat) (0:Int)) x1.length) (Option.bind (kW x0 x1 x2 x3 x4 (x4.getD a.2.2.toNat (0:Int))) (fun b=>aj (aq b x5.length) (aj (aq (x4.getD a.2.2.toNat (0:Int)) x5.length) (aj (aq b x5.length) (some (a.1.set ((x3.getD ((x4.getD a.2.2.toNat (0:Int)).toNat) (0:Int)).toNat) ((a.2.1.set ((x4.getD a.2.2.toNat (0:Int)).toNat) (ay ((a.2.1.getD ((x4.getD a.2.2.toNat (0:Int)).toNat) (0:Int))+((x5.getD ((x4.getD a.2.2.toNat (0:Int)).toNat) ((0,0):Int×Int)).2)))).getD ((x4.getD a.2.2.toNat (0:Int)).toNat) (0:Int)),(a.2.1.set ((x4.getD a.2.2.toNat (0:Int)).toNat) (ay ((a.2.1.getD ((x4.getD a.2.2.toNat (0:Int)).toNat) (0:Int))+((x5.getD ((x4.getD a.2.2.toNat (0:Int)).toNat) ((0,0):Int×Int)).2)))).set b.toNat (ay (((a.2.1.set ((x4.getD a.2.2.toNat (0:Int)).toNat) (ay ((a.2.1.getD ((x4.getD a.2.2.toNat (0:Int)).toNat) (0:Int))+((x5.getD ((x4.getD a.2.2.toNat (0:Int)).toNat) ((0,0):Int×Int)).2)))).getD b.toNat (0:Int))+((a.2.1.set ((x4.getD a.2.2.toNat (0:Int)).toNat) (ay ((a.2.1.getD ((x4.getD a.2.2.toNat (0:Int)).toNat) (0:Int))+((x5.getD ((x4.getD a.2.2.toNat (0:Int)).toNat) ((0,0):Int×Int)).2)))).getD ((x4.getD a.2.2.toNat (0:Int)).toNat) (0:Int))))))))))) else some (a.1,a.2.1.set ((x4.getD a.2.2.toNat (0:Int)).toNat) (ay ((a.2.1.getD ((x4.getD a.2.2.toNat (0:Int)).toNat) (0:Int))+((x5.getD ((x4.getD a.2.2.toNat (0:Int)).toNat) ((0,0):Int×Int)).2))))) (fun c=>d (c.1,c.2,ay (a.2.2-1)))))))) else some a.1)
def gh x0 x1 x2 x3 x4 x5:=cb (fj x0 x1 x2 x3 x4 x5)
theorem qK x0 x1 x2 x3 x4 x5 n p:gh x0 x1 x2 x3 x4 x5 (n+1) p=fj x0 x1 x2 x3 x4 x5 (gh x0 x1 x2 x3 x4 x5 n) p:=rfl
def gg (x0:Int) (x1:List (Int×Int×Int)) (x2:List Int) (x3:List Int) (x4:List Int) (x5:List (Int×Int)):Option (List Int):=aj (sF (x1.length:Int)) (aj (sF (x5.length:Int)) (Option.bind (gh x0 x1 x2 x3 x4 x5 ah (List.replicate x1.length (0:Int),List.replicate x5.length (0:Int),ay ((x4.length:Int)-1))) (fun a=>some a)))
def fk (x2:List Int) (x5:List (Int×Int)) (x6:Int) (b:(Int×Int)→Option (Int)) (a:(Int×Int)):Option (Int):=(bif af a.2 (x2.length:Int) then aj (aq a.2 x2.length) (Option.bind (bif (x2.getD a.2.toNat (0:Int))==x6 then aj (aq a.2 x5.length) (some (ay (a.1+((x5.getD a.2.toNat ((0,0):Int×Int)).2)))) else some a.1) (fun c=>b (c,ay (a.2+1)))) else some a.1)
def db x2 x5 x6:=cb (fk x2 x5 x6)
theorem qL x2 x5 x6 n p:db x2 x5 x6 (n+1) p=fk x2 x5 x6 (db x2 x5 x6 n) p:=rfl
def kX (x0:Int) (x1:List (Int×Int×Int)) (x2:List Int) (x3:List Int) (x4:List Int) (x5:List (Int×Int)) (x6:Int):Option (Int):=Option.bind (db x2 x5 x6 ah (0,0)) (fun a=>some a)
def gi (x1:List (Int×Int×Int)) (b:List Int) (c:Int→Option (Unit ⊕ Bool)) (a:Int):Option (Unit ⊕ Bool):=(bif af a (b.length:Int) then aj (aq a b.length) (aj (aq a x1.length) ((bif af ((x1.getD a.toNat ((0,0,0):Int×Int×Int)).2.2) (b.getD a.toNat (0:Int)) then some (Sum.inr false) else c (ay (a+1))))) else some (Sum.inl ()))
def dT x1 a:=cb (gi x1 a)
theorem rG x1 p102 n p:dT x1 p102 (n+1) p=gi x1 p102 (dT x1 p102 n) p:=rfl
def gj (x0:Int) (x1:List (Int×Int×Int)) (x2:List Int) (x3:List Int) (x4:List Int) (x5:List (Int×Int)) (b:Int→Option (Unit ⊕ Bool)) (a:Int):Option (Unit ⊕ Bool):=(bif af a (x5.length:Int) then aj (aq a x5.length) (Option.bind (kX x0 x1 x2 x3 x4 x5 a) (fun c=>(bif af ((x5.getD a.toNat ((0,0):Int×Int)).1) c then some (Sum.inr false) else b (ay (a+1))))) else some (Sum.inl ()))
def dU x0 x1 x2 x3 x4 x5:=cb (gj x0 x1 x2 x3 x4 x5)
theorem rH x0 x1 x2 x3 x4 x5 n p:dU x0 x1 x2 x3 x4 x5 (n+1) p=gj x0 x1 x2 x3 x4 x5 (dU x0 x1 x2 x3 x4 x5 n) p:=rfl
def mq (x0:Int) (x1:List (Int×Int×Int)) (x2:List Int) (x3:List Int) (x4:List Int) (x5:List (Int×Int)):Option (Bool):=Option.bind (gg x0 x1 x2 x3 x4 x5) (fun a=>Option.bind (dT x1 a ah 0:Option (Unit ⊕ Bool)) (Sum.elim (fun (b:Unit)=>Option.bind (dU x0 x1 x2 x3 x4 x5 ah 0:Option (Unit ⊕ Bool)) (Sum.elim (fun (c:Unit)=>some true) (fun (r:Bool)=>some r))) (fun (r:Bool)=>some r)))
def pc (x0:Int) (x1:List (Int×Int×Int)) (x2:List Bool) (x3:List (Int×Int)):Option (Bool):=Option.bind (kI x0 x1 x2 x3) (fun a=>Option.bind (gb a.2.2.2.2.2 (mq a.1 (ifL a.2.1 x1) a.2.2.1 a.2.2.2.1 a.2.2.2.2.1 x3)) (fun b=>some (a.2.2.2.2.2&&b)))
def zH (x0:Int) (x1:List (Int×Int×Int)) (x4:List Int) (b:(Int×Int)→Option (Int)) (a:(Int×Int)):Option (Int):=(bif af a.2 (x4.length:Int) then aj (aq a.2 x4.length) (Option.bind (bd x0 x1 (x4.getD a.2.toNat (0:Int))) (fun c=>Option.bind (bif c then aj (qZ (x4.getD a.2.toNat (0:Int))) (some (Mq .i64 a.1 (tW .i64 1 (x4.getD a.2.toNat (0:Int))))) else some a.1) (fun d=>b (d,ay (a.2+1))))) else some a.1)
def sf x0 x1 x4:=cb (zH x0 x1 x4)
def fO (x0:Int) (x1:List (Int×Int×Int)) (x2:List Bool) (x3:List (Int×Int)) (g:Int) (h:(List Bool×Int×Int×Int)→Option ((List Bool))) (a:(List Bool×Int×Int×Int)):Option ((List Bool)):=(bif af a.2.2.2 (tW .i64 1 (x1.length:Int)) then Option.bind (bif (qe .i64 a.2.2.2 g) !=0 then some (a.1,a.2.1,a.2.2.1) else Option.bind (pe a.2.2.2 (x1.length:Int)) (fun b=>Option.bind (gc x0 x1 b x3) (fun c=>(bif af c a.2.1 then some (a.1,a.2.1,a.2.2.1) else Option.bind (pb x2 b) (fun d=>Option.bind (gb ((af a.2.1 c) ||(af (d.length:Int) a.2.2.1)) (pc x0 x1 b x3)) (fun i=>Option.bind (bif ((af a.2.1 c) ||(af (d.length:Int) a.2.2.1))&&i then aj (!(List.isEmpty b)) (some (b,c,(d.length:Int))) else some (a.1,a.2.1,a.2.2.1)) (fun e=>some (e.1,e.2.1,e.2.2)))))))) (fun f=>h (f.1,f.2.1,f.2.2,ay (a.2.2.2+1))) else some a.1)
def dN x0 x1 x2 x3 a:=cb (fO x0 x1 x2 x3 a)
theorem ry x0 x1 x2 x3 p104 n p:dN x0 x1 x2 x3 p104 (n+1) p=fO x0 x1 x2 x3 p104 (dN x0 x1 x2 x3 p104 n) p:=rfl
def mm (x0:Int) (x1:List (Int×Int×Int)) (x2:List Bool) (x3:List (Int×Int)) (x4:List Int):Option (List Bool×Bool):=Option.bind (dE x0 x1 x2 x3) (fun b=>(bif b then Option.bind (sf x0 x1 x4 ah (0,0)) (fun c=>aj (qZ (x1.length:Int)) (Option.bind (dN x0 x1 x2 x3 c ah (([]:List Bool),-1,0,0)) (fun a=>some (a,!(List.isEmpty a))))) else some (([]:List Bool),false)))
def jB (x0:List Bool) (x1:List Bool) (c:(List (Int×Bool)×List (Int×Bool)×Int)→Option ((List (Int×Bool)×List (Int×Bool)))) (a:(List (Int×Bool)×List (Int×Bool)×Int)):Option ((List (Int×Bool)×List (Int×Bool))):=(bif af a.2.2 (x0.length:Int) then aj (aq a.2.2 x0.length) (aj (!(x0.getD a.2.2.toNat false) ||aq a.2.2 x1.length) (Option.bind (bif (x0.getD a.2.2.toNat false)&&(!(x1.getD a.2.2.toNat false)) then aj (bw a.1.length ([(a.2.2,false)]:List (Int×Bool)).length) (some (a.1++([(a.2.2,false)]:List (Int×Bool)),a.2.1)) else aj (aq a.2.2 x1.length) (aj (!(x1.getD a.2.2.toNat false) ||aq a.2.2 x0.length) (Option.bind (bif (x1.getD a.2.2.toNat false)&&(!(x0.getD a.2.2.toNat false)) then aj (bw a.2.1.length ([(a.2.2,true)]:List (Int×Bool)).length) (some (a.2.1++([(a.2.2,true)]:List (Int×Bool)))) else some a.2.1) (fun d=>some (a.1,d))))) (fun b=>c (b.1,b.2,ay (a.2.2+1))))) else some (a.1,a.2.1))
def fU x0 x1:=cb (jB x0 x1)
theorem uk x0 x1 n p:fU x0 x1 (n+1) p=jB x0 x1 (fU x0 x1 n) p:=rfl
def pd (x0:List Bool) (x1:List Bool):Option (List (Int×Bool)):=(bif ((x0.length:Int) !=(x1.length:Int)) ||(af 10 (x0.length:Int)) then some ([]:List (Int×Bool)) else Option.bind (fU x0 x1 ah (([]:List (Int×Bool)),([]:List (Int×Bool)),0)) (fun a=>aj (bw a.1.length a.2.length) (some (a.1++a.2))))
def iq (x0:Int) (x1:List (Int×Int×Int)) (x2:List Bool) (x3:List (Int×Int)) (x4:List Int):Option (List (Int×Bool)×Bool):=Option.bind (mm x0 x1 x2 x3 x4) (fun a=>(bif a.2 then Option.bind (pd x2 a.1) (fun b=>some (b,true)) else some (([]:List (Int×Bool)),false)))
def fR (x6:List Int) (b:List (Int×Int×Int)×List Bool×Int) (c:(List (Int×Int×Int)×Int)→Option ((List (Int×Int×Int)))) (a:(List (Int×Int×Int)×Int)):Option ((List (Int×Int×Int))):=(bif af a.2 3 then aj (aq a.2 3) (aj (bw a.1.length ([((([4,7,5]:List Int).getD a.2.toNat (0:Int)),(x6.getD b.2.2.toNat (0:Int)),0)]:List (Int×Int×Int)).length) (c (a.1++([((([4,7,5]:List Int).getD a.2.toNat (0:Int)),(x6.getD b.2.2.toNat (0:Int)),0)]:List (Int×Int×Int)),ay (a.2+1)))) else some a.1)
def dP x6 a:=cb (fR x6 a)
theorem rA x6 p118 n p:dP x6 p118 (n+1) p=fR x6 p118 (dP x6 p118 n) p:=rfl
def fQ (x6:List Int) (b:List Bool) (d:(List (Int×Int×Int)×List Bool×Int)→Option ((List (Int×Int×Int)×List Bool))) (a:(List (Int×Int×Int)×List Bool×Int)):Option ((List (Int×Int×Int)×List Bool)):=(bif af a.2.2 (x6.length:Int) then aj (aq a.2.2 x6.length) (aj (aq (x6.getD a.2.2.toNat (0:Int)) b.length) (Option.bind (bif a.2.1.getD ((x6.getD a.2.2.toNat (0:Int)).toNat) false then some (a.1,a.2.1) else aj (bw a.1.length ([(2,(x6.getD a.2.2.toNat (0:Int)),0)]:List (Int×Int×Int)).length) (aj (aq (x6.getD a.2.2.toNat (0:Int)) b.length) (some (a.1++([(2,(x6.getD a.2.2.toNat (0:Int)),0)]:List (Int×Int×Int)),a.2.1.set ((x6.getD a.2.2.toNat (0:Int)).toNat) true)))) (fun c=>Option.bind (dP x6 a ah (c.1,0)) (fun e=>d (e,c.2,ay (a.2.2+1)))))) else some (a.1,a.2.1))
def dO x6 a:=cb (fQ x6 a)
theorem rz x6 p108 n p:dO x6 p108 (n+1) p=fQ x6 p108 (dO x6 p108 n) p:=rfl
def fS (b:List (Int×Bool)×Bool) (d:(List (Int×Int×Int)×Int)→Option ((List (Int×Int×Int)))) (a:(List (Int×Int×Int)×Int)):Option ((List (Int×Int×Int))):=(bif af a.2 (b.1.length:Int) then aj (aq a.2 b.1.length) (Option.bind (bif (b.1.getD a.2.toNat ((0,false):Int×Bool)).2 then some 0 else some 1) (fun c=>aj (bw a.1.length ([(c,(b.1.getD a.2.toNat ((0,false):Int×Bool)).1,0)]:List (Int×Int×Int)).length) (d (a.1++([(c,(b.1.getD a.2.toNat ((0,false):Int×Bool)).1,0)]:List (Int×Int×Int)),ay (a.2+1))))) else some a.1)
def dQ a:=cb (fS a)
theorem rB p158 n p:dQ p158 (n+1) p=fS p158 (dQ p158 n) p:=rfl
def ja (x0:Int) (x1:List (Int×Int×Int)) (x2:List (Int×Int)) (x3:List Bool) (x4:List Bool) (x5:List (Int×Int)) (x6:List Int):Option (List (Int×Int×Int)):=Option.bind (bf x0 x1 x2 x3 x4 x5 x6) (fun d=>(bif d then Option.bind (iv x3 x4 x5) (fun e=>Option.bind (aR x4) (fun b=>Option.bind (dO x6 b ah (e,b,0)) (fun a=>Option.bind (nE 3 a.2 true) (fun c=>aj (bw a.1.length c.length) (Option.bind (iq x0 x1 x3 x2 ([]:List Int)) (fun f=>Option.bind (dQ f ah (a.1++c,0)) (fun g=>some g))))))) else some ([]:List (Int×Int×Int))))
def iy (x7:List (Int×Int×Int)) (d:(Int×Int×Int×List (Int×Int×Int)×List (Int×Int)×List Bool×List Bool×List (Int×Int)×List Int)→Option ((Int×Int×List (Int×Int×Int)×List (Int×Int)×List Bool×List Bool×List (Int×Int)×List Int))) (a:(Int×Int×Int×List (Int×Int×Int)×List (Int×Int)×List Bool×List Bool×List (Int×Int)×List Int)):Option ((Int×Int×List (Int×Int×Int)×List (Int×Int)×List Bool×List Bool×List (Int×Int)×List Int)):=(bif af a.2.1 (x7.length:Int) then aj (aq a.2.1 x7.length) (Option.bind (lT a.2.2.1 a.2.2.2.1 a.2.2.2.2.1 a.2.2.2.2.2.1 a.2.2.2.2.2.2.1 a.2.2.2.2.2.2.2.1 a.2.2.2.2.2.2.2.2 ((x7.getD a.2.1.toNat ((0,0,0):Int×Int×Int)).1) ((x7.getD a.2.1.toNat ((0,0,0):Int×Int×Int)).2.1) ((x7.getD a.2.1.toNat ((0,0,0):Int×Int×Int)).2.2)) (fun b=>Option.bind (bif b.2.2.2.2.2.2.2 then some (ay (a.1+1),b.1,b.2.1,b.2.2.1,b.2.2.2.1,b.2.2.2.2.1,b.2.2.2.2.2.1,b.2.2.2.2.2.2.1) else some (a.1,a.2.2.1,a.2.2.2.1,a.2.2.2.2.1,a.2.2.2.2.2.1,a.2.2.2.2.2.2.1,a.2.2.2.2.2.2.2.1,a.2.2.2.2.2.2.2.2)) (fun c=>d (c.1,ay (a.2.1+1),c.2.1,c.2.2.1,c.2.2.2.1,c.2.2.2.2.1,c.2.2.2.2.2.1,c.2.2.2.2.2.2.1,c.2.2.2.2.2.2.2)))) else some (a.1,a.2.2.1,a.2.2.2.1,a.2.2.2.2.1,a.2.2.2.2.2.1,a.2.2.2.2.2.2.1,a.2.2.2.2.2.2.2.1,a.2.2.2.2.2.2.2.2))
def cK x7:=cb (iy x7)
theorem sU x7 n p:cK x7 (n+1) p=iy x7 (cK x7 n) p:=rfl
def nC (x0:Int) (x1:List (Int×Int×Int)) (x2:List (Int×Int)) (x3:List Bool) (x4:List Bool) (x5:List (Int×Int)) (x6:List Int) (x7:List (Int×Int×Int)):Option (Int×List (Int×Int×Int)×List (Int×Int)×List Bool×List Bool×List (Int×Int)×List Int×Int):=Option.bind (bf x0 x1 x2 x3 x4 x5 x6) (fun c=>(bif c then Option.bind (bG x0 x1 x2 x3 x4 x5 x6) (fun b=>Option.bind (cK x7 ah (0,0,b.1,b.2.1,b.2.2.1,b.2.2.2.1,b.2.2.2.2.1,b.2.2.2.2.2.1,b.2.2.2.2.2.2)) (fun a=>some (a.2.1,a.2.2.1,a.2.2.2.1,a.2.2.2.2.1,a.2.2.2.2.2.1,a.2.2.2.2.2.2.1,a.2.2.2.2.2.2.2,a.1))) else some (0,([]:List (Int×Int×Int)),([]:List (Int×Int)),([]:List Bool),([]:List Bool),([]:List (Int×Int)),([]:List Int),0)))
def mn (x0:Int) (x1:List (Int×Int×Int)) (x2:List (Int×Int)) (x3:List Bool) (x4:List Bool) (x5:List (Int×Int)) (x6:List Int):Option (Int×List (Int×Int×Int)×List (Int×Int)×List Bool×List Bool×List (Int×Int)×List Int):=Option.bind (ja x0 x1 x2 x3 x4 x5 x6) (fun b=>Option.bind (nC x0 x1 x2 x3 x4 x5 x6 b) (fun a=>some (a.1,a.2.1,a.2.2.1,a.2.2.2.1,a.2.2.2.2.1,a.2.2.2.2.2.1,a.2.2.2.2.2.2.1)))
def nz (x0:Int) (x1:List (Int×Int×Int)) (x2:List Bool) (x3:List (Int×Int)) (x4:Int):Option (Int):=Option.bind (kI x0 x1 x2 x3) (fun a=>Option.bind (gb (!(!a.2.2.2.2.2)) (bd x0 x1 x4)) (fun c=>(bif (!a.2.2.2.2.2) ||(!c) then some (-1) else Option.bind (gg a.1 (ifL a.2.1 x1) a.2.2.1 a.2.2.2.1 a.2.2.2.2.1 x3) (fun b=>aj (aq x4 b.length) (some (b.getD x4.toNat (0:Int)))))))
def iD (x0:List Int) (b:(List ByteArray×Int)→Option ((List ByteArray))) (a:(List ByteArray×Int)):Option ((List ByteArray)):=(bif af a.2 (x0.length:Int) then aj (aq a.2 x0.length) (Option.bind (bH (x0.getD a.2.toNat (0:Int))) (fun c=>aj (aq a.2 x0.length) (b (a.1.set a.2.toNat c,ay (a.2+1))))) else some a.1)
def jF x0:=cb (iD x0)
theorem sY x0 n p:jF x0 (n+1) p=iD x0 (jF x0 n) p:=rfl
def dF (x0:List Int):Option (ByteArray):=(bif (x0.length:Int)==0 then some ({data:= #[110,111,110,101]}:ByteArray) else aj (sF (x0.length:Int)) (Option.bind (jF x0 ah (List.replicate x0.length ByteArray.empty,0)) (fun a=>Option.bind (dp a ({data:= #[44]}:ByteArray)) (fun b=>some b))))
def fe (x3:List (Int×Int)) (b:Int×Int×Int×Int×Int×Int×Int×Int×Int×Int×Int×Int×Int×Int×Int×Int) (d:(List Int×List Int×Int)→Option ((List Int))) (a:(List Int×List Int×Int)):Option ((List Int)):=(bif af a.2.2 (x3.length:Int) then Option.bind (bz a.1 a.2.2) (fun c=>aj (aq c.1 8) (Option.bind (bif af 0 (([b.1,b.2.1,b.2.2.1,b.2.2.2.1,b.2.2.2.2.1,b.2.2.2.2.2.1,b.2.2.2.2.2.2.1,b.2.2.2.2.2.2.2.1]:List Int).getD c.1.toNat 0) then aj (bw a.2.1.length ([a.2.2]:List Int).length) (some (a.2.1++([a.2.2]:List Int))) else some a.2.1) (fun e=>d (c.2,e,ay (a.2.2+1))))) else some a.2.1)
def fN x3 a:=cb (fe x3 a)
theorem qF x3 p108 n p:fN x3 p108 (n+1) p=fe x3 p108 (fN x3 p108 n) p:=rfl
def kO (x0:Int) (x1:List (Int×Int×Int)) (x2:List Bool) (x3:List (Int×Int)):Option (List Int):=Option.bind (dE x0 x1 x2 x3) (fun a=>(bif a then Option.bind (lU x0 x1 x2) (fun b=>Option.bind (nj x0 x1 x2 x3) (fun c=>Option.bind (fN x3 c ah (b,([]:List Int),0)) (fun d=>some d))) else some ([]:List Int)))
def ci (x0:List Int) (x1:Int) (b:Int→Option (Unit ⊕ Int)) (a:Int):Option (Unit ⊕ Int):=(bif af a (x0.length:Int) then aj (aq a x0.length) ((bif x1==(x0.getD a.toNat (0:Int)) then some (Sum.inr a) else b (ay (a+1)))) else some (Sum.inl ()))
def bM x0 x1:=cb (ci x0 x1)
theorem mP x0 x1 n p:bM x0 x1 (n+1) p=ci x0 x1 (bM x0 x1 n) p:=rfl
def ez (x0:List Int) (x1:Int):Option (Int):=Option.bind (bM x0 x1 ah 0:Option (Unit ⊕ Int)) (Sum.elim (fun (a:Unit)=>some (-1)) (fun (r:Int)=>some r))
def cD (x0:List Int) (x1:Int):Option (Bool):=Option.bind (ez x0 x1) (fun a=>some (aF 0 a))
def ga (x2:List (Int×Int)) (b:List Int) (c:(List Int×Int)→Option ((List Int))) (a:(List Int×Int)):Option ((List Int)):=(bif af a.2 (x2.length:Int) then aj (aq a.2 x2.length) (Option.bind (gb (af 0 ((x2.getD a.2.toNat ((0,0):Int×Int)).2)) (cD b a.2)) (fun d=>Option.bind (bif (af 0 ((x2.getD a.2.toNat ((0,0):Int×Int)).2))&&(!d) then aj (bw a.1.length ([a.2]:List Int).length) (some (a.1++([a.2]:List Int))) else some a.1) (fun e=>c (e,ay (a.2+1))))) else some a.1)
def iw x2 a:=cb (ga x2 a)
theorem rF x2 p104 n p:iw x2 p104 (n+1) p=ga x2 p104 (iw x2 p104 n) p:=rfl
def eJ (x0:Int) (x1:List (Int×Int×Int)) (x2:List (Int×Int)) (x3:List Bool) (x4:List Bool) (x5:List (Int×Int)) (x6:List Int):Option (List Int):=Option.bind (bf x0 x1 x2 x3 x4 x5 x6) (fun a=>(bif a then Option.bind (kO x0 x1 x3 x2) (fun b=>Option.bind (iw x2 b ah (([]:List Int),0)) (fun c=>some c)) else some ([]:List Int)))
def fV (x0:Int) (x1:List (Int×Int×Int)) (x2:List Bool) (x3:List (Int×Int)):Option (Int):=Option.bind (dE x0 x1 x2 x3) (fun a=>(bif a then Option.bind (gc x0 x1 x2 x3) (fun b=>some b) else some (-1)))
def fW (x0:List Bool) (b:(List Int×Int)→Option ((List Int))) (a:(List Int×Int)):Option ((List Int)):=(bif af a.2 (x0.length:Int) then aj (aq a.2 x0.length) (aj (aq a.2 x0.length) (Option.bind (bif x0.getD a.2.toNat false then aj (aq a.2 x0.length) (some (a.1.set a.2.toNat 49)) else some (a.1.set a.2.toNat 48)) (fun c=>b (c,ay (a.2+1))))) else some a.1)
def ir x0:=cb (fW x0)
theorem rC x0 n p:ir x0 (n+1) p=fW x0 (ir x0 n) p:=rfl
def jb (x0:List Bool):Option (ByteArray):=(bif af 10 (x0.length:Int) then some ({data:= #[]}:ByteArray) else aj (sF (x0.length:Int)) (Option.bind (ir x0 ah (List.replicate x0.length (0:Int),0)) (fun a=>some (strOfNums a))))
def iz (x0:Int) (x1:List (Int×Int×Int)) (x2:List (Int×Int)) (x3:List Bool) (x4:List Bool) (x5:List (Int×Int)) (x6:List Int) (x7:List ByteArray):Option (ByteArray):=aj (!((x7.length:Int)==2) ||aq 0 x7.length) ((bif ((x7.length:Int)==2)&&((x7.getD ((0:Int).toNat) ByteArray.empty).toList==({data:= #[102,108,111,119]}:ByteArray).toList) then aj (aq 1 x7.length) (Option.bind (aD (x7.getD ((1:Int).toNat) ByteArray.empty)) (fun b=>(bif b.2 then Option.bind (bd x0 x1 b.1) (fun c=>(bif c then Option.bind (nz x0 x1 x3 x2 b.1) (fun d=>Option.bind (bH d) (fun e=>some e)) else some ({data:= #[110,111]}:ByteArray))) else some ({data:= #[119,104,97,116]}:ByteArray)))) else Option.bind (dp x7 ({data:= #[32]}:ByteArray)) (fun a=>(bif a.toList==({data:= #[115,116,97,116,101]}:ByteArray).toList then Option.bind (jb x3) (fun f=>some f) else (bif a.toList==({data:= #[115,101,114,118,101,100]}:ByteArray).toList then Option.bind (fV x0 x1 x3 x2) (fun g=>Option.bind (bH g) (fun h=>some h)) else (bif a.toList==({data:= #[100,97,114,107]}:ByteArray).toList then Option.bind (eJ x0 x1 x2 x3 x4 x5 x6) (fun i=>Option.bind (dF i) (fun j=>some j)) else (bif a.toList==({data:= #[98,114,111,107,101,110]}:ByteArray).toList then Option.bind (dF x6) (fun k=>some k) else (bif a.toList==({data:= #[110,101,116]}:ByteArray).toList then Option.bind (cX x0 x1) (fun l=>some l) else some ({data:= #[119,104,97,116]}:ByteArray)))))))))
def jc (x0:Int) (x1:List (Int×Int×Int)) (x2:List (Int×Int)) (x3:List Bool) (x4:List Bool) (x5:List (Int×Int)) (x6:List Int) (x7:ByteArray):Option (Int×List (Int×Int×Int)×List (Int×Int)×List Bool×List Bool×List (Int×Int)×List Int×ByteArray):=Option.bind (bf x0 x1 x2 x3 x4 x5 x6) (fun f=>(bif f then Option.bind (fH x7 ({data:= #[32]}:ByteArray)) (fun e=>Option.bind (dG e) (fun d=>(bif d.2.2.2 then Option.bind (lT x0 x1 x2 x3 x4 x5 x6 d.1 d.2.1 d.2.2.1) (fun a=>(bif a.2.2.2.2.2.2.2 then some (a.1,a.2.1,a.2.2.1,a.2.2.2.1,a.2.2.2.2.1,a.2.2.2.2.2.1,a.2.2.2.2.2.2.1,({data:= #[111,107]}:ByteArray)) else some (a.1,a.2.1,a.2.2.1,a.2.2.2.1,a.2.2.2.2.1,a.2.2.2.2.2.1,a.2.2.2.2.2.2.1,({data:= #[110,111]}:ByteArray)))) else (bif x7.toList==({data:= #[104,101,97,108]}:ByteArray).toList then Option.bind (mn x0 x1 x2 x3 x4 x5 x6) (fun b=>some (b.1,b.2.1,b.2.2.1,b.2.2.2.1,b.2.2.2.2.1,b.2.2.2.2.2.1,b.2.2.2.2.2.2,({data:= #[111,107]}:ByteArray))) else Option.bind (bG x0 x1 x2 x3 x4 x5 x6) (fun c=>Option.bind (iz x0 x1 x2 x3 x4 x5 x6 e) (fun g=>some (c.1,c.2.1,c.2.2.1,c.2.2.2.1,c.2.2.2.2.1,c.2.2.2.2.2.1,c.2.2.2.2.2.2,g))))))) else some (0,([]:List (Int×Int×Int)),([]:List (Int×Int)),([]:List Bool),([]:List Bool),([]:List (Int×Int)),([]:List Int),({data:= #[]}:ByteArray))))
def mJ (x0:ByteArray) (x1:Int) (c:(List ByteArray×Int×Int)→Option ((List ByteArray×Int))) (a:(List ByteArray×Int×Int)):Option ((List ByteArray×Int)):=(bif af a.2.2 (x0.size:Int) then aj (aq a.2.2 x0.size) (Option.bind (bif (lO x0 a.2.2)==x1 then aj (DF a.2.1 a.2.2 x0.size) (aj (bw a.1.length ([ByteArray.extract x0 a.2.1.toNat a.2.2.toNat]:List ByteArray).length) (some (a.1++([ByteArray.extract x0 a.2.1.toNat a.2.2.toNat]:List ByteArray),ay (a.2.2+1)))) else some (a.1,a.2.1)) (fun b=>c (b.1,b.2,ay (a.2.2+1)))) else some (a.1,a.2.1))
def kE x0 x1:=cb (mJ x0 x1)
theorem xQ x0 x1 n p:kE x0 x1 (n+1) p=mJ x0 x1 (kE x0 x1 n) p:=rfl
def ss (x0:ByteArray) (x1:Int):Option (List ByteArray):=Option.bind (kE x0 x1 ah (([]:List ByteArray),0,0)) (fun a=>aj (DF a.2 (x0.size:Int) x0.size) (aj (bw a.1.length ([ByteArray.extract x0 a.2.toNat x0.size]:List ByteArray).length) (some (a.1++([ByteArray.extract x0 a.2.toNat x0.size]:List ByteArray)))))
def FJ (x0:ByteArray) (b:(Int×Int)→Option (Int ⊕ Int)) (a:(Int×Int)):Option (Int ⊕ Int):=(bif af a.2 (x0.size:Int) then aj (aq a.2 x0.size) (aj (!(!(af (lO x0 a.2) 48)) ||aq a.2 x0.size) ((bif (af (lO x0 a.2) 48) ||(af 57 (lO x0 a.2)) then some (Sum.inr (-1)) else aj (aq a.2 x0.size) (b (ay ((ay (10*a.1))+(ay (wk .u8 ((lO x0 a.2)-48)))),ay (a.2+1)))))) else some (Sum.inl a.1))
def wT x0:=cb (FJ x0)
def nm (x0:ByteArray):Option (Int):=Option.bind (am (x0.size:Int) 1 3) (fun a=>aj (!((!(!a))&&(af 1 (x0.size:Int))) ||aq 0 x0.size) ((bif (!a) ||((af 1 (x0.size:Int))&&((lO x0 0)==48)) then some (-1) else Option.bind (wT x0 ah (0,0):Option (Int ⊕ Int)) (Sum.elim (fun (b:Int)=>some b) (fun (r:Int)=>some r)))))
def fA (x0:List ByteArray) (c:(List Int×Bool×Int)→Option ((List Int×Bool))) (a:(List Int×Bool×Int)):Option ((List Int×Bool)):=(bif af a.2.2 (x0.length:Int) then aj (aq a.2.2 x0.length) (Option.bind (nm (x0.getD a.2.2.toNat ByteArray.empty)) (fun b=>aj (bw a.1.length ([b]:List Int).length) (aj (!a.2.1 ||aq a.2.2 x0.length) (Option.bind (gb a.2.1 (nm (x0.getD a.2.2.toNat ByteArray.empty))) (fun d=>c (a.1++([b]:List Int),a.2.1&&(aF 0 d),ay (a.2.2+1))))))) else some (a.1,a.2.1))
def dm x0:=cb (fA x0)
theorem qU x0 n p:dm x0 (n+1) p=fA x0 (dm x0 n) p:=rfl
def lF (x0:List ByteArray):Option (List Int×Bool):=Option.bind (dm x0 ah (([]:List Int),true,1)) (fun a=>some (a.1,a.2))
def py (x0:ByteArray):Option (Int×Int):=(bif x0.toList==({data:= #[111,110]}:ByteArray).toList then some (0,1) else (bif x0.toList==({data:= #[111,102,102]}:ByteArray).toList then some (1,1) else (bif x0.toList==({data:= #[101,97,114,116,104]}:ByteArray).toList then some (2,1) else (bif x0.toList==({data:= #[99,108,101,97,114]}:ByteArray).toList then some (3,1) else (bif x0.toList==({data:= #[105,115,115,117,101]}:ByteArray).toList then some (4,2) else (bif x0.toList==({data:= #[114,101,116,117,114,110]}:ByteArray).toList then some (5,2) else (bif x0.toList==({data:= #[98,114,101,97,107]}:ByteArray).toList then some (6,1) else (bif x0.toList==({data:= #[109,101,110,100]}:ByteArray).toList then some (7,2) else some (-1,0)))))))))
def jV (x1:List (Int×Int×Int)) (e:(ByteArray×Int)→Option (ByteArray)) (a:(ByteArray×Int)):Option (ByteArray):=(bif af a.2 (x1.length:Int) then aj (aq a.2 x1.length) (aj (Kv a.1.size ({data:= #[32]}:ByteArray).size) (Option.bind (aY ((x1.getD a.2.toNat ((0,0,0):Int×Int×Int)).1)) (fun b=>aj (Kv (a.1++({data:= #[32]}:ByteArray)).size b.size) (aj (Kv ((a.1++({data:= #[32]}:ByteArray))++b).size ({data:= #[45]}:ByteArray).size) (Option.bind (aY ((x1.getD a.2.toNat ((0,0,0):Int×Int×Int)).2.1)) (fun c=>aj (Kv (((a.1++({data:= #[32]}:ByteArray))++b)++({data:= #[45]}:ByteArray)).size c.size) (aj (Kv ((((a.1++({data:= #[32]}:ByteArray))++b)++({data:= #[45]}:ByteArray))++c).size ({data:= #[58]}:ByteArray).size) (Option.bind (aY ((x1.getD a.2.toNat ((0,0,0):Int×Int×Int)).2.2)) (fun d=>aj (Kv (((((a.1++({data:= #[32]}:ByteArray))++b)++({data:= #[45]}:ByteArray))++c)++({data:= #[58]}:ByteArray)).size d.size) (e ((((((a.1++({data:= #[32]}:ByteArray))++b)++({data:= #[45]}:ByteArray))++c)++({data:= #[58]}:ByteArray))++d,ay (a.2+1)))))))))))) else some a.1)
def gI x1:=cb (jV x1)
theorem uz x1 n p:gI x1 (n+1) p=jV x1 (gI x1 n) p:=rfl
def pp (x0:Int) (x1:List (Int×Int×Int)):Option (ByteArray):=Option.bind (dI x0 x1) (fun a=>(bif a then Option.bind (aY x0) (fun b=>Option.bind (gI x1 ah (b,0)) (fun c=>some c)) else some ({data:= #[]}:ByteArray)))
def kg (x0:List Int) (d:(ByteArray×Int)→Option (ByteArray)) (a:(ByteArray×Int)):Option (ByteArray):=(bif af a.2 (x0.length:Int) then Option.bind (bif af 0 a.2 then aj (Kv a.1.size ({data:= #[44]}:ByteArray).size) (some (a.1++({data:= #[44]}:ByteArray))) else some a.1) (fun b=>aj (aq a.2 x0.length) (Option.bind (aY (x0.getD a.2.toNat (0:Int))) (fun c=>aj (Kv b.size c.size) (d (b++c,ay (a.2+1)))))) else some a.1)
def gW x0:=cb (kg x0)
theorem uI x0 n p:gW x0 (n+1) p=kg x0 (gW x0 n) p:=rfl
def mb (x0:List Int):Option (ByteArray):=Option.bind (gW x0 ah (({data:= #[]}:ByteArray),0)) (fun a=>(bif a.toList==({data:= #[]}:ByteArray).toList then some ({data:= #[110,111,110,101]}:ByteArray) else some a))
def fu (x3:List (Int×Int)) (b:List Int) (c:(Int×Int)→Option (Int)) (a:(Int×Int)):Option (Int):=(bif af a.2 (b.length:Int) then aj (aq a.2 b.length) (aj (aq (b.getD a.2.toNat (0:Int)) x3.length) (c (ay (a.1+((x3.getD ((b.getD a.2.toNat (0:Int)).toNat) ((0,0):Int×Int)).1)),ay (a.2+1)))) else some a.1)
def dg x3 a:=cb (fu x3 a)
theorem qP x3 p105 n p:dg x3 p105 (n+1) p=fu x3 p105 (dg x3 p105 n) p:=rfl
def gG (x0:Int) (x1:List (Int×Int×Int)) (x2:List Bool) (x3:List (Int×Int)) (x4:Int):Option (Int):=Option.bind (gX x0 x1 x2 x3) (fun a=>Option.bind (gb (!(!a)) (am x4 0 (ay (x0-1)))) (fun b=>(bif (!a) ||(!b) then some (-1) else Option.bind (jm x0 x1 x2 x4) (fun c=>Option.bind (dg x3 c ah (0,0)) (fun d=>some d)))))
def fp (x0:Int) (x1:List (Int×Int×Int)) (x2:List Bool) (x3:List (Int×Int)) (b:(List Int×Int)→Option ((List Int))) (a:(List Int×Int)):Option ((List Int)):=Option.bind (gb (af a.2 x0) (gX x0 x1 x2 x3)) (fun c=>(bif (af a.2 x0)&&c then Option.bind (gG x0 x1 x2 x3 a.2) (fun d=>Option.bind (bif af 0 d then aj (bw a.1.length ([a.2]:List Int).length) (some (a.1++([a.2]:List Int))) else some a.1) (fun e=>b (e,ay (a.2+1)))) else some a.1))
def gz x0 x1 x2 x3:=cb (fp x0 x1 x2 x3)
theorem qM x0 x1 x2 x3 n p:gz x0 x1 x2 x3 (n+1) p=fp x0 x1 x2 x3 (gz x0 x1 x2 x3 n) p:=rfl
def lw (x0:Int) (x1:List (Int×Int×Int)) (x2:List Bool) (x3:List (Int×Int)):Option (List Int):=Option.bind (gz x0 x1 x2 x3 ah (([]:List Int),0)) (fun a=>some a)
def gQ (x2:List (Int×Int)) (c:List Int) (d:(List Int×Int)→Option ((List Int))) (a:(List Int×Int)):Option ((List Int)):=(bif af a.2 (x2.length:Int) then Option.bind (cQ c a.2) (fun b=>aj (!(!b) ||aq a.2 x2.length) (Option.bind (bif (!b)&&(af 0 ((x2.getD a.2.toNat ((0,0):Int×Int)).2)) then aj (bw a.1.length ([a.2]:List Int).length) (some (a.1++([a.2]:List Int))) else some a.1) (fun e=>d (e,ay (a.2+1))))) else some a.1)
def iT x2 a:=cb (gQ x2 a)
theorem rX x2 p105 n p:iT x2 p105 (n+1) p=gQ x2 p105 (iT x2 p105 n) p:=rfl
def jn (x0:Int) (x1:List (Int×Int×Int)) (x2:List (Int×Int)) (x3:List Bool) (x4:List Bool) (x5:List (Int×Int)) (x6:List Int):Option (List Int):=Option.bind (bg x0 x1 x2 x3 x4 x5 x6) (fun a=>(bif a then Option.bind (lw x0 x1 x3 x2) (fun b=>Option.bind (iT x2 b ah (([]:List Int),0)) (fun c=>some c)) else some ([]:List Int)))
def fw (x3:List (Int×Int)) (b:List Int) (c:(Int×Int)→Option (Int)) (a:(Int×Int)):Option (Int):=(bif af a.2 (b.length:Int) then aj (aq a.2 b.length) (aj (aq (b.getD a.2.toNat (0:Int)) x3.length) (c (ay (a.1+((x3.getD ((b.getD a.2.toNat (0:Int)).toNat) ((0,0):Int×Int)).2)),ay (a.2+1)))) else some a.1)
def dh x3 a:=cb (fw x3 a)
theorem qQ x3 p105 n p:dh x3 p105 (n+1) p=fw x3 p105 (dh x3 p105 n) p:=rfl
def gH (x0:Int) (x1:List (Int×Int×Int)) (x2:List Bool) (x3:List (Int×Int)) (x4:Int):Option (Int):=Option.bind (gX x0 x1 x2 x3) (fun a=>Option.bind (gb (!(!a)) (am x4 0 (ay (x0-1)))) (fun b=>(bif (!a) ||(!b) then some (-1) else Option.bind (jm x0 x1 x2 x4) (fun c=>Option.bind (dh x3 c ah (0,0)) (fun d=>some d)))))
def fx (x0:Int) (x1:List (Int×Int×Int)) (x2:List Bool) (x3:List (Int×Int)) (b:(Int×Int)→Option (Int)) (a:(Int×Int)):Option (Int):=(bif af a.2 x0 then Option.bind (gG x0 x1 x2 x3 a.2) (fun c=>Option.bind (gH x0 x1 x2 x3 a.2) (fun d=>Option.bind (bif aF d c then aj (aq a.2 x3.length) (some (ay (a.1+((x3.getD a.2.toNat ((0,0):Int×Int)).2)))) else some a.1) (fun e=>b (e,ay (a.2+1))))) else some a.1)
def di x0 x1 x2 x3:=cb (fx x0 x1 x2 x3)
theorem qR x0 x1 x2 x3 n p:di x0 x1 x2 x3 (n+1) p=fx x0 x1 x2 x3 (di x0 x1 x2 x3 n) p:=rfl
def cj (x0:Int) (x1:List (Int×Int×Int)) (x2:List Bool) (x3:List (Int×Int)):Option (Int):=Option.bind (gX x0 x1 x2 x3) (fun a=>(bif a then Option.bind (di x0 x1 x2 x3 ah (0,0)) (fun b=>some b) else some (-1)))
def dj (x0:List Bool) (b:(ByteArray×Int)→Option (ByteArray)) (a:(ByteArray×Int)):Option (ByteArray):=(bif (af a.2 (x0.length:Int))&&(aF (x0.length:Int) 10) then aj (aq a.2 x0.length) (Option.bind (bif x0.getD a.2.toNat false then aj (Kv a.1.size ({data:= #[49]}:ByteArray).size) (some (a.1++({data:= #[49]}:ByteArray))) else aj (Kv a.1.size ({data:= #[48]}:ByteArray).size) (some (a.1++({data:= #[48]}:ByteArray)))) (fun c=>b (c,ay (a.2+1)))) else some a.1)
def cv x0:=cb (dj x0)
theorem mT x0 n p:cv x0 (n+1) p=dj x0 (cv x0 n) p:=rfl
def mH (x0:List Bool):Option (ByteArray):=Option.bind (cv x0 ah (({data:= #[]}:ByteArray),0)) (fun a=>some a)
def qx (x0:Int) (x1:List (Int×Int×Int)) (x2:List (Int×Int)) (x3:List Bool) (x4:List Bool) (x5:List (Int×Int)) (x6:List Int) (x7:ByteArray):Option (ByteArray):=(bif x7.toList==({data:= #[115,116,97,116,101]}:ByteArray).toList then Option.bind (mH x3) (fun a=>some a) else (bif x7.toList==({data:= #[115,101,114,118,101,100]}:ByteArray).toList then Option.bind (cj x0 x1 x3 x2) (fun b=>Option.bind (aY b) (fun c=>some c)) else (bif x7.toList==({data:= #[100,97,114,107]}:ByteArray).toList then Option.bind (jn x0 x1 x2 x3 x4 x5 x6) (fun d=>Option.bind (mb d) (fun e=>some e)) else (bif x7.toList==({data:= #[98,114,111,107,101,110]}:ByteArray).toList then Option.bind (mb x6) (fun f=>some f) else (bif x7.toList==({data:= #[110,101,116]}:ByteArray).toList then Option.bind (pp x0 x1) (fun g=>some g) else some ({data:= #[119,104,97,116]}:ByteArray))))))
def gY (x0:Int) (x3:List (Int×Int)) (b:(List Int×Int)→Option ((List Int))) (a:(List Int×Int)):Option ((List Int)):=(bif af a.2 x0 then aj (aq a.2 x3.length) (Option.bind (bif af 0 ((x3.getD a.2.toNat ((0,0):Int×Int)).1) then aj (bw a.1.length ([-1]:List Int).length) (some (a.1++([-1]:List Int))) else aj (bw a.1.length ([-2]:List Int).length) (some (a.1++([-2]:List Int)))) (fun c=>b (c,ay (a.2+1)))) else some a.1)
def eh x0 x3:=cb (gY x0 x3)
theorem rY x0 x3 n p:eh x0 x3 (n+1) p=gY x0 x3 (eh x0 x3 n) p:=rfl
def hH (x1:List (Int×Int×Int)) (x2:List Bool) (b:List Int) (d:(List Int×Int)→Option ((List Int))) (a:(List Int×Int)):Option ((List Int)):=(bif af a.2 (x2.length:Int) then aj (aq a.2 x1.length) (aj (aq a.2 x2.length) (aj (!(x2.getD a.2.toNat false) ||aq ((x1.getD a.2.toNat ((0,0,0):Int×Int×Int)).1) b.length) (aj (!((x2.getD a.2.toNat false)&&(af (-2) (a.1.getD (((x1.getD a.2.toNat ((0,0,0):Int×Int×Int)).1).toNat) (0:Int)))) ||aq ((x1.getD a.2.toNat ((0,0,0):Int×Int×Int)).2.1) b.length) (Option.bind (bif ((x2.getD a.2.toNat false)&&(af (-2) (a.1.getD (((x1.getD a.2.toNat ((0,0,0):Int×Int×Int)).1).toNat) (0:Int))))&&((a.1.getD (((x1.getD a.2.toNat ((0,0,0):Int×Int×Int)).2.1).toNat) (0:Int))==(-2)) then aj (aq ((x1.getD a.2.toNat ((0,0,0):Int×Int×Int)).2.1) b.length) (some (a.1.set (((x1.getD a.2.toNat ((0,0,0):Int×Int×Int)).2.1).toNat) a.2)) else some a.1) (fun c=>aj (aq a.2 x2.length) (aj (!(x2.getD a.2.toNat false) ||aq ((x1.getD a.2.toNat ((0,0,0):Int×Int×Int)).2.1) b.length) (aj (!((x2.getD a.2.toNat false)&&(af (-2) (c.getD (((x1.getD a.2.toNat ((0,0,0):Int×Int×Int)).2.1).toNat) (0:Int)))) ||aq ((x1.getD a.2.toNat ((0,0,0):Int×Int×Int)).1) b.length) (Option.bind (bif ((x2.getD a.2.toNat false)&&(af (-2) (c.getD (((x1.getD a.2.toNat ((0,0,0):Int×Int×Int)).2.1).toNat) (0:Int))))&&((c.getD (((x1.getD a.2.toNat ((0,0,0):Int×Int×Int)).1).toNat) (0:Int))==(-2)) then aj (aq ((x1.getD a.2.toNat ((0,0,0):Int×Int×Int)).1) b.length) (some (c.set (((x1.getD a.2.toNat ((0,0,0):Int×Int×Int)).1).toNat) a.2)) else some c) (fun e=>d (e,ay (a.2+1))))))))))) else some a.1)
def ei x1 x2 a:=cb (hH x1 x2 a)
theorem sa x1 x2 p103 n p:ei x1 x2 p103 (n+1) p=hH x1 x2 p103 (ei x1 x2 p103 n) p:=rfl
def gZ (x0:Int) (x1:List (Int×Int×Int)) (x2:List Bool) (b:List Int) (c:(List Int×Int)→Option ((List Int))) (a:(List Int×Int)):Option ((List Int)):=(bif af a.2 x0 then Option.bind (ei x1 x2 b ah (a.1,0)) (fun d=>c (d,ay (a.2+1))) else some a.1)
def iW x0 x1 x2 a:=cb (gZ x0 x1 x2 a)
theorem rZ x0 x1 x2 p103 n p:iW x0 x1 x2 p103 (n+1) p=gZ x0 x1 x2 p103 (iW x0 x1 x2 p103 n) p:=rfl
def mL (x0:Int) (x1:List (Int×Int×Int)) (x2:List Bool) (x3:List (Int×Int)):Option (List Int):=Option.bind (eh x0 x3 ah (([]:List Int),0)) (fun a=>Option.bind (iW x0 x1 x2 a ah (a,0)) (fun b=>some b))
def nP (x0:Int) (x1:List (Int×Int×Int)) (x2:Int) (x3:Int):Option (Int):=Option.bind (dI x0 x1) (fun a=>Option.bind (gb (!(!a)) (am x2 0 (ay ((x1.length:Int)-1)))) (fun b=>(bif (!a) ||(!b) then some (-1) else aj (aq x2 x1.length) ((bif ((x1.getD x2.toNat ((0,0,0):Int×Int×Int)).1)==x3 then some ((x1.getD x2.toNat ((0,0,0):Int×Int×Int)).2.1) else (bif ((x1.getD x2.toNat ((0,0,0):Int×Int×Int)).2.1)==x3 then some ((x1.getD x2.toNat ((0,0,0):Int×Int×Int)).1) else some (-1)))))))
def mM (x0:Int) (x1:List (Int×Int×Int)) (x2:List Int) (b:(Int×List Int)→Option ((List Int))) (a:(Int×List Int)):Option ((List Int)):=aj (aq a.1 x2.length) ((bif aF 0 (x2.getD a.1.toNat (0:Int)) then aj (aq a.1 x2.length) (aj (bw ([(x2.getD a.1.toNat (0:Int))]:List Int).length a.2.length) (aj (aq a.1 x2.length) (Option.bind (nP x0 x1 (x2.getD a.1.toNat (0:Int)) a.1) (fun c=>b (c,([(x2.getD a.1.toNat (0:Int))]:List Int)++a.2))))) else some a.2))
def nS x0 x1 x2:=cb (mM x0 x1 x2)
theorem xS x0 x1 x2 n p:nS x0 x1 x2 (n+1) p=mM x0 x1 x2 (nS x0 x1 x2 n) p:=rfl
def su (x0:Int) (x1:List (Int×Int×Int)) (x2:List Int) (x3:Int):Option (List Int):=Option.bind (nS x0 x1 x2 ah (x3,([]:List Int))) (fun a=>some a)
def ko (x2:List Bool) (x3:List (Int×Int)) (c:List Int×Int) (b:List Int) (d:(List Int×Int)→Option ((List Int))) (a:(List Int×Int)):Option ((List Int)):=(bif af a.2 (b.length:Int) then aj (aq a.2 b.length) (aj (aq a.2 b.length) (aj (aq (b.getD a.2.toNat (0:Int)) x2.length) (aj (aq c.2 x3.length) (aj (aq (b.getD a.2.toNat (0:Int)) x2.length) (d (a.1.set ((b.getD a.2.toNat (0:Int)).toNat) (ay ((a.1.getD ((b.getD a.2.toNat (0:Int)).toNat) (0:Int))+((x3.getD c.2.toNat ((0,0):Int×Int)).2))),ay (a.2+1))))))) else some a.1)
def ia x2 x3 a b:=cb (ko x2 x3 a b)
theorem uK x2 x3 p112 p115 n p:ia x2 x3 p112 p115 (n+1) p=ko x2 x3 p112 p115 (ia x2 x3 p112 p115 n) p:=rfl
def kj (x0:Int) (x1:List (Int×Int×Int)) (b:List Int) (x2:List Bool) (x3:List (Int×Int)) (c:(List Int×Int)→Option ((List Int))) (a:(List Int×Int)):Option ((List Int)):=(bif af a.2 x0 then Option.bind (su x0 x1 b a.2) (fun d=>Option.bind (ia x2 x3 a d ah (a.1,0)) (fun e=>c (e,ay (a.2+1)))) else some a.1)
def hZ x0 x1 a x2 x3:=cb (kj x0 x1 a x2 x3)
theorem uJ x0 x1 p104 x2 x3 n p:hZ x0 x1 p104 x2 x3 (n+1) p=kj x0 x1 p104 x2 x3 (hZ x0 x1 p104 x2 x3 n) p:=rfl
def mc (x0:Int) (x1:List (Int×Int×Int)) (x2:List Bool) (x3:List (Int×Int)):Option (List Int):=aj (sF (x2.length:Int)) (Option.bind (mL x0 x1 x2 x3) (fun a=>Option.bind (hZ x0 x1 a x2 x3 ah (List.replicate x2.length (0:Int),0)) (fun b=>some b)))
def nO (x0:Int) (x1:List (Int×Int×Int)) (x2:List Bool) (x3:List (Int×Int)) (x4:Int):Option (Int):=Option.bind (eD x0 x1 x2 x3) (fun a=>Option.bind (gb (!(!a)) (am x4 0 (ay ((x2.length:Int)-1)))) (fun c=>(bif (!a) ||(!c) then some (-1) else Option.bind (mc x0 x1 x2 x3) (fun b=>aj (aq x4 b.length) (some (b.getD x4.toNat (0:Int)))))))
def jZ (x1:Int) (b:(Int×List Bool×Int)→Option ((List Bool))) (a:(Int×List Bool×Int)):Option ((List Bool)):=(bif af a.2.2 x1 then aj (bw a.2.1.length ([(Int.tmod a.1 2)==1]:List Bool).length) (b (ay (Int.tdiv a.1 2),a.2.1++([(Int.tmod a.1 2)==1]:List Bool),ay (a.2.2+1))) else some a.2.1)
def gN x1:=cb (jZ x1)
theorem uD x1 n p:gN x1 (n+1) p=jZ x1 (gN x1 n) p:=rfl
def pu (x0:Int) (x1:Int):Option (List Bool×Bool):=Option.bind (am x1 0 10) (fun a=>aj (!(!(!a)) ||qZ x1) (Option.bind (gb (!(!a)) (am x0 0 (ay ((tW .i64 1 x1)-1)))) (fun b=>(bif (!a) ||(!b) then some (([]:List Bool),false) else Option.bind (gN x1 ah (x0,([]:List Bool),0)) (fun c=>some (c,true))))))
def lH (x1:List (Int×Int×Int)) (x2:List Bool) (b:List Int) (c:(List Int×Int)→Option ((List Int))) (a:(List Int×Int)):Option ((List Int)):=(bif af a.2 (x2.length:Int) then aj (aq a.2 b.length) (aj (aq a.2 x1.length) (Option.bind (bif af ((x1.getD a.2.toNat ((0,0,0):Int×Int×Int)).2.2) (b.getD a.2.toNat (0:Int)) then aj (bw a.1.length ([a.2]:List Int).length) (some (a.1++([a.2]:List Int))) else some a.1) (fun d=>c (d,ay (a.2+1))))) else some a.1)
def mN x1 x2 a:=cb (lH x1 x2 a)
theorem wa x1 x2 p103 n p:mN x1 x2 p103 (n+1) p=lH x1 x2 p103 (mN x1 x2 p103 n) p:=rfl
def qz (x0:Int) (x1:List (Int×Int×Int)) (x2:List Bool) (x3:List (Int×Int)):Option (List Int):=Option.bind (mc x0 x1 x2 x3) (fun a=>Option.bind (mN x1 x2 a ah (([]:List Int),0)) (fun b=>some b))
def lG (x0:Int) (x1:List (Int×Int×Int)) (x2:List Bool) (x3:List (Int×Int)) (b:Int→Option (Unit ⊕ Bool)) (a:Int):Option (Unit ⊕ Bool):=(bif af a x0 then aj (aq a x3.length) (Option.bind (gb (af 0 ((x3.getD a.toNat ((0,0):Int×Int)).1)) (gH x0 x1 x2 x3 a)) (fun c=>aj (!(af 0 ((x3.getD a.toNat ((0,0):Int×Int)).1)) ||aq a x3.length) ((bif (af 0 ((x3.getD a.toNat ((0,0):Int×Int)).1))&&(af ((x3.getD a.toNat ((0,0):Int×Int)).1) c) then some (Sum.inr false) else b (ay (a+1)))))) else some (Sum.inl ()))
def jr x0 x1 x2 x3:=cb (lG x0 x1 x2 x3)
theorem vZ x0 x1 x2 x3 n p:jr x0 x1 x2 x3 (n+1) p=lG x0 x1 x2 x3 (jr x0 x1 x2 x3 n) p:=rfl
def qy (x0:Int) (x1:List (Int×Int×Int)) (x2:List Bool) (x3:List (Int×Int)):Option (Bool):=Option.bind (jr x0 x1 x2 x3 ah 0:Option (Unit ⊕ Bool)) (Sum.elim (fun (b:Unit)=>Option.bind (qz x0 x1 x2 x3) (fun a=>some ((a.length:Int)==0))) (fun (r:Bool)=>some r))
def po (x0:Int) (x1:List (Int×Int×Int)) (x2:List Bool) (x3:List (Int×Int)):Option (Bool):=Option.bind (eD x0 x1 x2 x3) (fun a=>Option.bind (gb a (qy x0 x1 x2 x3)) (fun b=>some (a&&b)))
def jU (x0:List Bool) (x1:List Bool) (b:(List Int×Int)→Option ((List Int))) (a:(List Int×Int)):Option ((List Int)):=(bif (af a.2 (x0.length:Int))&&((x0.length:Int)==(x1.length:Int)) then aj (aq a.2 x0.length) (aj (aq a.2 x1.length) (Option.bind (bif (x0.getD a.2.toNat false) !=(x1.getD a.2.toNat false) then aj (bw a.1.length ([a.2]:List Int).length) (some (a.1++([a.2]:List Int))) else some a.1) (fun c=>b (c,ay (a.2+1))))) else some a.1)
def lz x0 x1:=cb (jU x0 x1)
theorem ux x0 x1 n p:lz x0 x1 (n+1) p=jU x0 x1 (lz x0 x1 n) p:=rfl
def jh (x0:List Bool) (x1:List Bool):Option (List Int):=Option.bind (lz x0 x1 ah (([]:List Int),0)) (fun a=>some a)
def pW (x0:Int) (x1:Int) (x2:Int) (x3:Int):Option (Bool):=some ((af x2 x0) ||((x0==x2)&&(af x1 x3)))
def zI (x2:List Bool) (x4:List Int) (c:List Bool×Bool) (d:(Bool×Int)→Option (Bool)) (a:(Bool×Int)):Option (Bool):=(bif af a.2 (x4.length:Int) then aj (!a.1 ||aq a.2 x4.length) (Option.bind (gb a.1 (am (x4.getD a.2.toNat (0:Int)) 0 (ay ((x2.length:Int)-1)))) (fun b=>aj (!(a.1&&(!(!b))) ||aq a.2 x4.length) (aj (!(a.1&&(!(!b))) ||aq (x4.getD a.2.toNat (0:Int)) c.1.length) (d (a.1&&((!b) ||(!(c.1.getD ((x4.getD a.2.toNat (0:Int)).toNat) false))),ay (a.2+1)))))) else some a.1)
def sg x2 x4 a:=cb (zI x2 x4 a)
def gA (x0:Int) (x1:List (Int×Int×Int)) (x2:List Bool) (x3:List (Int×Int)) (x4:List Int) (f:(List Bool×Int×Int×Int)→Option ((List Bool×Int))) (a:(List Bool×Int×Int×Int)):Option ((List Bool×Int)):=aj (qZ (x2.length:Int)) ((bif af a.2.2.2 (tW .i64 1 (x2.length:Int)) then Option.bind (pu a.2.2.2 (x2.length:Int)) (fun b=>Option.bind (sg x2 x4 b ah (true,0)) (fun c=>Option.bind (Option.bind (gb c (po x0 x1 b.1 x3)) (fun e=>Option.bind (gb (c&&e) (cj x0 x1 b.1 x3)) (fun g=>(bif c&&e then Option.bind (jh x2 b.1) (fun h=>Option.bind (pW g (h.length:Int) a.2.1 a.2.2.1) (fun i=>some i)) else some false)))) (fun j=>Option.bind (bif j then Option.bind (cj x0 x1 b.1 x3) (fun k=>Option.bind (jh x2 b.1) (fun l=>some (b.1,k,(l.length:Int)))) else some (a.1,a.2.1,a.2.2.1)) (fun d=>f (d.1,d.2.1,d.2.2,ay (a.2.2.2+1)))))) else some (a.1,a.2.1)))
def dW x0 x1 x2 x3 x4:=cb (gA x0 x1 x2 x3 x4)
theorem rQ x0 x1 x2 x3 x4 n p:dW x0 x1 x2 x3 x4 (n+1) p=gA x0 x1 x2 x3 x4 (dW x0 x1 x2 x3 x4 n) p:=rfl
def mG (x0:Int) (x1:List (Int×Int×Int)) (x2:List Bool) (x3:List (Int×Int)) (x4:List Int):Option (List Bool×Bool):=Option.bind (gX x0 x1 x2 x3) (fun b=>(bif b then Option.bind (dW x0 x1 x2 x3 x4 ah (([]:List Bool),-1,0,0)) (fun a=>some (a.1,aF 0 a.2)) else some (([]:List Bool),false)))
def jW (x0:List Bool) (b:List Int) (c:(List (Int×Bool)×Int)→Option ((List (Int×Bool)))) (a:(List (Int×Bool)×Int)):Option ((List (Int×Bool))):=(bif af a.2 (b.length:Int) then aj (aq a.2 b.length) (aj (aq (b.getD a.2.toNat (0:Int)) x0.length) (Option.bind (bif x0.getD ((b.getD a.2.toNat (0:Int)).toNat) false then aj (aq a.2 b.length) (aj (bw a.1.length ([((b.getD a.2.toNat (0:Int)),false)]:List (Int×Bool)).length) (some (a.1++([((b.getD a.2.toNat (0:Int)),false)]:List (Int×Bool))))) else some a.1) (fun d=>c (d,ay (a.2+1))))) else some a.1)
def gJ x0 a:=cb (jW x0 a)
theorem uA x0 p102 n p:gJ x0 p102 (n+1) p=jW x0 p102 (gJ x0 p102 n) p:=rfl
def jX (x1:List Bool) (b:List Int) (c:(List (Int×Bool)×Int)→Option ((List (Int×Bool)))) (a:(List (Int×Bool)×Int)):Option ((List (Int×Bool))):=(bif af a.2 (b.length:Int) then aj (aq a.2 b.length) (aj (aq (b.getD a.2.toNat (0:Int)) x1.length) (Option.bind (bif x1.getD ((b.getD a.2.toNat (0:Int)).toNat) false then aj (aq a.2 b.length) (aj (bw a.1.length ([((b.getD a.2.toNat (0:Int)),true)]:List (Int×Bool)).length) (some (a.1++([((b.getD a.2.toNat (0:Int)),true)]:List (Int×Bool))))) else some a.1) (fun d=>c (d,ay (a.2+1))))) else some a.1)
def gK x1 a:=cb (jX x1 a)
theorem uB x1 p102 n p:gK x1 p102 (n+1) p=jX x1 p102 (gK x1 p102 n) p:=rfl
def pq (x0:List Bool) (x1:List Bool):Option (List (Int×Bool)):=Option.bind (jh x0 x1) (fun a=>(bif af 10 (x0.length:Int) then some ([]:List (Int×Bool)) else Option.bind (gJ x0 a ah (([]:List (Int×Bool)),0)) (fun b=>Option.bind (gK x1 a ah (b,0)) (fun c=>some c))))
def iS (x0:Int) (x1:List (Int×Int×Int)) (x2:List Bool) (x3:List (Int×Int)) (x4:List Int):Option (List (Int×Bool)×Bool):=Option.bind (mG x0 x1 x2 x3 x4) (fun a=>(bif a.2 then Option.bind (pq x2 a.1) (fun b=>some (b,true)) else some (([]:List (Int×Bool)),false)))
def gC (x5:List (Int×Int)) (b:(List (Int×Int×Int)×Int)→Option ((List (Int×Int×Int)))) (a:(List (Int×Int×Int)×Int)):Option ((List (Int×Int×Int))):=(bif af a.2 (x5.length:Int) then aj (aq a.2 x5.length) (aj (aq a.2 x5.length) (aj (bw a.1.length ([(5,(x5.getD a.2.toNat ((0,0):Int×Int)).2,(x5.getD a.2.toNat ((0,0):Int×Int)).1)]:List (Int×Int×Int)).length) (b (a.1++([(5,(x5.getD a.2.toNat ((0,0):Int×Int)).2,(x5.getD a.2.toNat ((0,0):Int×Int)).1)]:List (Int×Int×Int)),ay (a.2+1))))) else some a.1)
def dX x5:=cb (gC x5)
theorem rR x5 n p:dX x5 (n+1) p=gC x5 (dX x5 n) p:=rfl
def gD (x4:List Bool) (x6:List Int) (c:(List (Int×Int×Int)×Int)→Option ((List (Int×Int×Int)))) (a:(List (Int×Int×Int)×Int)):Option ((List (Int×Int×Int))):=(bif af a.2 (x6.length:Int) then aj (aq a.2 x6.length) (aj (aq (x6.getD a.2.toNat (0:Int)) x4.length) (Option.bind (bif x4.getD ((x6.getD a.2.toNat (0:Int)).toNat) false then some a.1 else aj (aq a.2 x6.length) (aj (bw a.1.length ([(2,(x6.getD a.2.toNat (0:Int)),0)]:List (Int×Int×Int)).length) (some (a.1++([(2,(x6.getD a.2.toNat (0:Int)),0)]:List (Int×Int×Int)))))) (fun b=>aj (aq a.2 x6.length) (aj (aq a.2 x6.length) (aj (aq a.2 x6.length) (aj (bw b.length ([(4,(x6.getD a.2.toNat (0:Int)),0),(7,(x6.getD a.2.toNat (0:Int)),0),(5,(x6.getD a.2.toNat (0:Int)),0)]:List (Int×Int×Int)).length) (c (b++([(4,(x6.getD a.2.toNat (0:Int)),0),(7,(x6.getD a.2.toNat (0:Int)),0),(5,(x6.getD a.2.toNat (0:Int)),0)]:List (Int×Int×Int)),ay (a.2+1))))))))) else some a.1)
def dY x4 x6:=cb (gD x4 x6)
theorem rS x4 x6 n p:dY x4 x6 (n+1) p=gD x4 x6 (dY x4 x6 n) p:=rfl
def gE (x3:List Bool) (x4:List Bool) (x6:List Int) (b:(List (Int×Int×Int)×Int)→Option ((List (Int×Int×Int)))) (a:(List (Int×Int×Int)×Int)):Option ((List (Int×Int×Int))):=(bif af a.2 (x3.length:Int) then aj (aq a.2 x4.length) (Option.bind (gb (!(x4.getD a.2.toNat false)) (cQ x6 a.2)) (fun c=>Option.bind (bif (x4.getD a.2.toNat false) ||c then aj (bw a.1.length ([(3,a.2,0)]:List (Int×Int×Int)).length) (some (a.1++([(3,a.2,0)]:List (Int×Int×Int)))) else some a.1) (fun d=>b (d,ay (a.2+1))))) else some a.1)
def dZ x3 x4 x6:=cb (gE x3 x4 x6)
theorem rT x3 x4 x6 n p:dZ x3 x4 x6 (n+1) p=gE x3 x4 x6 (dZ x3 x4 x6 n) p:=rfl
def gF (b:List (Int×Bool)×Bool) (c:(List (Int×Int×Int)×Int)→Option ((List (Int×Int×Int)))) (a:(List (Int×Int×Int)×Int)):Option ((List (Int×Int×Int))):=(bif af a.2 (b.1.length:Int) then aj (aq a.2 b.1.length) (Option.bind (bif (b.1.getD a.2.toNat ((0,false):Int×Bool)).2 then aj (aq a.2 b.1.length) (aj (bw a.1.length ([(0,(b.1.getD a.2.toNat ((0,false):Int×Bool)).1,0)]:List (Int×Int×Int)).length) (some (a.1++([(0,(b.1.getD a.2.toNat ((0,false):Int×Bool)).1,0)]:List (Int×Int×Int))))) else aj (aq a.2 b.1.length) (aj (bw a.1.length ([(1,(b.1.getD a.2.toNat ((0,false):Int×Bool)).1,0)]:List (Int×Int×Int)).length) (some (a.1++([(1,(b.1.getD a.2.toNat ((0,false):Int×Bool)).1,0)]:List (Int×Int×Int)))))) (fun d=>c (d,ay (a.2+1)))) else some a.1)
def ea a:=cb (gF a)
theorem rU p171 n p:ea p171 (n+1) p=gF p171 (ea p171 n) p:=rfl
def jj (x0:Int) (x1:List (Int×Int×Int)) (x2:List (Int×Int)) (x3:List Bool) (x4:List Bool) (x5:List (Int×Int)) (x6:List Int):Option (List (Int×Int×Int)):=Option.bind (bg x0 x1 x2 x3 x4 x5 x6) (fun a=>(bif a then Option.bind (dX x5 ah (([]:List (Int×Int×Int)),0)) (fun b=>Option.bind (dY x4 x6 ah (b,0)) (fun c=>Option.bind (dZ x3 x4 x6 ah (c,0)) (fun d=>Option.bind (iS x0 x1 x3 x2 ([]:List Int)) (fun e=>Option.bind (ea e ah (d,0)) (fun f=>some f))))) else some ([]:List (Int×Int×Int))))
def iU (x7:List (Int×Int×Int)) (d:(Int×Int×Int×List (Int×Int×Int)×List (Int×Int)×List Bool×List Bool×List (Int×Int)×List Int)→Option ((Int×Int×List (Int×Int×Int)×List (Int×Int)×List Bool×List Bool×List (Int×Int)×List Int))) (a:(Int×Int×Int×List (Int×Int×Int)×List (Int×Int)×List Bool×List Bool×List (Int×Int)×List Int)):Option ((Int×Int×List (Int×Int×Int)×List (Int×Int)×List Bool×List Bool×List (Int×Int)×List Int)):=(bif af a.2.1 (x7.length:Int) then aj (aq a.2.1 x7.length) (Option.bind (lZ a.2.2.1 a.2.2.2.1 a.2.2.2.2.1 a.2.2.2.2.2.1 a.2.2.2.2.2.2.1 a.2.2.2.2.2.2.2.1 a.2.2.2.2.2.2.2.2 ((x7.getD a.2.1.toNat ((0,0,0):Int×Int×Int)).1) ((x7.getD a.2.1.toNat ((0,0,0):Int×Int×Int)).2.1) ((x7.getD a.2.1.toNat ((0,0,0):Int×Int×Int)).2.2)) (fun b=>Option.bind (bif b.2.2.2.2.2.2.2 then some (ay (a.1+1),b.1,b.2.1,b.2.2.1,b.2.2.2.1,b.2.2.2.2.1,b.2.2.2.2.2.1,b.2.2.2.2.2.2.1) else some (a.1,a.2.2.1,a.2.2.2.1,a.2.2.2.2.1,a.2.2.2.2.2.1,a.2.2.2.2.2.2.1,a.2.2.2.2.2.2.2.1,a.2.2.2.2.2.2.2.2)) (fun c=>d (c.1,ay (a.2.1+1),c.2.1,c.2.2.1,c.2.2.2.1,c.2.2.2.2.1,c.2.2.2.2.2.1,c.2.2.2.2.2.2.1,c.2.2.2.2.2.2.2)))) else some (a.1,a.2.2.1,a.2.2.2.1,a.2.2.2.2.1,a.2.2.2.2.2.1,a.2.2.2.2.2.2.1,a.2.2.2.2.2.2.2.1,a.2.2.2.2.2.2.2.2))
def cN x7:=cb (iU x7)
theorem tm x7 n p:cN x7 (n+1) p=iU x7 (cN x7 n) p:=rfl
def nQ (x0:Int) (x1:List (Int×Int×Int)) (x2:List (Int×Int)) (x3:List Bool) (x4:List Bool) (x5:List (Int×Int)) (x6:List Int) (x7:List (Int×Int×Int)):Option (Int×List (Int×Int×Int)×List (Int×Int)×List Bool×List Bool×List (Int×Int)×List Int×Int):=Option.bind (bg x0 x1 x2 x3 x4 x5 x6) (fun c=>(bif c then Option.bind (bb x0 x1 x2 x3 x4 x5 x6) (fun b=>Option.bind (cN x7 ah (0,0,b.1,b.2.1,b.2.2.1,b.2.2.2.1,b.2.2.2.2.1,b.2.2.2.2.2.1,b.2.2.2.2.2.2)) (fun a=>some (a.2.1,a.2.2.1,a.2.2.2.1,a.2.2.2.2.1,a.2.2.2.2.2.1,a.2.2.2.2.2.2.1,a.2.2.2.2.2.2.2,a.1))) else some (0,([]:List (Int×Int×Int)),([]:List (Int×Int)),([]:List Bool),([]:List Bool),([]:List (Int×Int)),([]:List Int),0)))
def mI (x0:Int) (x1:List (Int×Int×Int)) (x2:List (Int×Int)) (x3:List Bool) (x4:List Bool) (x5:List (Int×Int)) (x6:List Int):Option (Int×List (Int×Int×Int)×List (Int×Int)×List Bool×List Bool×List (Int×Int)×List Int):=Option.bind (jj x0 x1 x2 x3 x4 x5 x6) (fun b=>Option.bind (nQ x0 x1 x2 x3 x4 x5 x6 b) (fun a=>some (a.1,a.2.1,a.2.2.1,a.2.2.2.1,a.2.2.2.2.1,a.2.2.2.2.2.1,a.2.2.2.2.2.2.1)))
def jo (x0:Int) (x1:List (Int×Int×Int)) (x2:List (Int×Int)) (x3:List Bool) (x4:List Bool) (x5:List (Int×Int)) (x6:List Int) (x7:ByteArray):Option (Int×List (Int×Int×Int)×List (Int×Int)×List Bool×List Bool×List (Int×Int)×List Int×ByteArray):=Option.bind (bg x0 x1 x2 x3 x4 x5 x6) (fun k=>(bif k then Option.bind (ss x7 32) (fun h=>Option.bind (lF h) (fun b=>aj (aq 0 h.length) (Option.bind (py (h.getD ((0:Int).toNat) ByteArray.empty)) (fun i=>(bif x7.toList==({data:= #[104,101,97,108]}:ByteArray).toList then Option.bind (mI x0 x1 x2 x3 x4 x5 x6) (fun c=>some (c.1,c.2.1,c.2.2.1,c.2.2.2.1,c.2.2.2.2.1,c.2.2.2.2.2.1,c.2.2.2.2.2.2,({data:= #[111,107]}:ByteArray))) else aj (aq 0 h.length) ((bif (((h.getD ((0:Int).toNat) ByteArray.empty).toList==({data:= #[102,108,111,119]}:ByteArray).toList)&&((b.1.length:Int)==1))&&b.2 then aj (aq 0 b.1.length) (Option.bind (nO x0 x1 x3 x2 (b.1.getD ((0:Int).toNat) (0:Int))) (fun j=>(bif af j 0 then Option.bind (bb x0 x1 x2 x3 x4 x5 x6) (fun d=>some (d.1,d.2.1,d.2.2.1,d.2.2.2.1,d.2.2.2.2.1,d.2.2.2.2.2.1,d.2.2.2.2.2.2,({data:= #[110,111]}:ByteArray))) else Option.bind (bb x0 x1 x2 x3 x4 x5 x6) (fun e=>Option.bind (aY j) (fun l=>some (e.1,e.2.1,e.2.2.1,e.2.2.2.1,e.2.2.2.2.1,e.2.2.2.2.2.1,e.2.2.2.2.2.2,l)))))) else (bif af i.1 0 then Option.bind (bb x0 x1 x2 x3 x4 x5 x6) (fun f=>Option.bind (qx x0 x1 x2 x3 x4 x5 x6 x7) (fun m=>some (f.1,f.2.1,f.2.2.1,f.2.2.2.1,f.2.2.2.2.1,f.2.2.2.2.2.1,f.2.2.2.2.2.2,m))) else (bif ((b.1.length:Int) !=i.2) ||(!b.2) then Option.bind (bb x0 x1 x2 x3 x4 x5 x6) (fun g=>some (g.1,g.2.1,g.2.2.1,g.2.2.2.1,g.2.2.2.2.1,g.2.2.2.2.2.1,g.2.2.2.2.2.2,({data:= #[119,104,97,116]}:ByteArray))) else aj (aq 0 b.1.length) (Option.bind (bif i.2==2 then aj (aq 1 b.1.length) (some (b.1.getD ((1:Int).toNat) (0:Int))) else some 0) (fun o=>Option.bind (lZ x0 x1 x2 x3 x4 x5 x6 i.1 (b.1.getD ((0:Int).toNat) (0:Int)) o) (fun a=>(bif a.2.2.2.2.2.2.2 then some (a.1,a.2.1,a.2.2.1,a.2.2.2.1,a.2.2.2.2.1,a.2.2.2.2.2.1,a.2.2.2.2.2.2.1,({data:= #[111,107]}:ByteArray)) else some (a.1,a.2.1,a.2.2.1,a.2.2.2.1,a.2.2.2.2.1,a.2.2.2.2.2.1,a.2.2.2.2.2.2.1,({data:= #[110,111]}:ByteArray))))))))))))))) else some (0,([]:List (Int×Int×Int)),([]:List (Int×Int)),([]:List Bool),([]:List Bool),([]:List (Int×Int)),([]:List Int),({data:= #[]}:ByteArray))))
def fg (x7:List ByteArray) (c:(List ByteArray×Int×Int×List (Int×Int×Int)×List (Int×Int)×List Bool×List Bool×List (Int×Int)×List Int)→Option ((List ByteArray×Int×List (Int×Int×Int)×List (Int×Int)×List Bool×List Bool×List (Int×Int)×List Int))) (a:(List ByteArray×Int×Int×List (Int×Int×Int)×List (Int×Int)×List Bool×List Bool×List (Int×Int)×List Int)):Option ((List ByteArray×Int×List (Int×Int×Int)×List (Int×Int)×List Bool×List Bool×List (Int×Int)×List Int)):=(bif af a.2.1 (x7.length:Int) then aj (aq a.2.1 x7.length) (Option.bind (jc a.2.2.1 a.2.2.2.1 a.2.2.2.2.1 a.2.2.2.2.2.1 a.2.2.2.2.2.2.1 a.2.2.2.2.2.2.2.1 a.2.2.2.2.2.2.2.2 (x7.getD a.2.1.toNat ByteArray.empty)) (fun b=>aj (aq a.2.1 x7.length) (c (a.1.set a.2.1.toNat b.2.2.2.2.2.2.2,ay (a.2.1+1),b.1,b.2.1,b.2.2.1,b.2.2.2.1,b.2.2.2.2.1,b.2.2.2.2.2.1,b.2.2.2.2.2.2.1)))) else some (a.1,a.2.2.1,a.2.2.2.1,a.2.2.2.2.1,a.2.2.2.2.2.1,a.2.2.2.2.2.2.1,a.2.2.2.2.2.2.2.1,a.2.2.2.2.2.2.2.2))
def cY x7:=cb (fg x7)
theorem qH x7 n p:cY x7 (n+1) p=fg x7 (cY x7 n) p:=rfl
def dC (x0:Int) (x1:List (Int×Int×Int)) (x2:List (Int×Int)) (x3:List Bool) (x4:List Bool) (x5:List (Int×Int)) (x6:List Int) (x7:List ByteArray):Option (Int×List (Int×Int×Int)×List (Int×Int)×List Bool×List Bool×List (Int×Int)×List Int×List ByteArray):=Option.bind (bf x0 x1 x2 x3 x4 x5 x6) (fun c=>(bif (!c) ||(af 40 (x7.length:Int)) then some (0,([]:List (Int×Int×Int)),([]:List (Int×Int)),([]:List Bool),([]:List Bool),([]:List (Int×Int)),([]:List Int),([]:List ByteArray)) else Option.bind (bG x0 x1 x2 x3 x4 x5 x6) (fun b=>aj (sF (x7.length:Int)) (Option.bind (cY x7 ah (List.replicate x7.length ByteArray.empty,0,b.1,b.2.1,b.2.2.1,b.2.2.2.1,b.2.2.2.2.1,b.2.2.2.2.2.1,b.2.2.2.2.2.2)) (fun a=>some (a.2.1,a.2.2.1,a.2.2.2.1,a.2.2.2.2.1,a.2.2.2.2.2.1,a.2.2.2.2.2.2.1,a.2.2.2.2.2.2.2,a.1))))))
def fy (x7:List ByteArray) (c:(List ByteArray×Int×Int×List (Int×Int×Int)×List (Int×Int)×List Bool×List Bool×List (Int×Int)×List Int)→Option ((List ByteArray×Int×List (Int×Int×Int)×List (Int×Int)×List Bool×List Bool×List (Int×Int)×List Int))) (a:(List ByteArray×Int×Int×List (Int×Int×Int)×List (Int×Int)×List Bool×List Bool×List (Int×Int)×List Int)):Option ((List ByteArray×Int×List (Int×Int×Int)×List (Int×Int)×List Bool×List Bool×List (Int×Int)×List Int)):=(bif af a.2.1 (x7.length:Int) then aj (aq a.2.1 x7.length) (Option.bind (jo a.2.2.1 a.2.2.2.1 a.2.2.2.2.1 a.2.2.2.2.2.1 a.2.2.2.2.2.2.1 a.2.2.2.2.2.2.2.1 a.2.2.2.2.2.2.2.2 (x7.getD a.2.1.toNat ByteArray.empty)) (fun b=>aj (bw a.1.length ([b.2.2.2.2.2.2.2]:List ByteArray).length) (c (a.1++([b.2.2.2.2.2.2.2]:List ByteArray),ay (a.2.1+1),b.1,b.2.1,b.2.2.1,b.2.2.2.1,b.2.2.2.2.1,b.2.2.2.2.2.1,b.2.2.2.2.2.2.1)))) else some (a.1,a.2.2.1,a.2.2.2.1,a.2.2.2.2.1,a.2.2.2.2.2.1,a.2.2.2.2.2.2.1,a.2.2.2.2.2.2.2.1,a.2.2.2.2.2.2.2.2))
def dk x7:=cb (fy x7)
theorem qS x7 n p:dk x7 (n+1) p=fy x7 (dk x7 n) p:=rfl
def gR (x0:Int) (x1:List (Int×Int×Int)) (x2:List (Int×Int)) (x3:List Bool) (x4:List Bool) (x5:List (Int×Int)) (x6:List Int) (x7:List ByteArray):Option (Int×List (Int×Int×Int)×List (Int×Int)×List Bool×List Bool×List (Int×Int)×List Int×List ByteArray):=Option.bind (bg x0 x1 x2 x3 x4 x5 x6) (fun c=>(bif (!c) ||(af 40 (x7.length:Int)) then some (0,([]:List (Int×Int×Int)),([]:List (Int×Int)),([]:List Bool),([]:List Bool),([]:List (Int×Int)),([]:List Int),([]:List ByteArray)) else Option.bind (bb x0 x1 x2 x3 x4 x5 x6) (fun b=>Option.bind (dk x7 ah (([]:List ByteArray),0,b.1,b.2.1,b.2.2.1,b.2.2.2.1,b.2.2.2.2.1,b.2.2.2.2.2.1,b.2.2.2.2.2.2)) (fun a=>some (a.2.1,a.2.2.1,a.2.2.2.1,a.2.2.2.2.1,a.2.2.2.2.2.1,a.2.2.2.2.2.2.1,a.2.2.2.2.2.2.2,a.1)))))
def ph (x0:List (Int×Int×Int)) (x1:Int):Option (Int):=(bif af (ay (x1-(x0.length:Int))) 0 then some (-1) else some (ay (x1-(x0.length:Int))))
def sn (x0:Int) (x1:List (Int×Int×Int)) (x2:Int):Option (Int):=Option.bind (ph x1 x2) (fun a=>(bif af a 0 then some (-1) else some a))
def qo (x0:List (Int×Int)) (x1:Int):Option (Int):=(bif af (ay (x1-(x0.length:Int))) 0 then some (-1) else some (ay (x1-(x0.length:Int))))
def lW (x0:List Bool) (x1:Int):Option (Int):=(bif af (ay (x1-(x0.length:Int))) 0 then some (-1) else some (ay (x1-(x0.length:Int))))
def mB (x0:List (Int×Int)) (x1:Int):Option (Int):=(bif af (ay (x1-(x0.length:Int))) 0 then some (-1) else some (ay (x1-(x0.length:Int))))
def qq (x0:List Bool) (x1:List Bool) (x2:List (Int×Int)) (x3:Int):Option (Int):=Option.bind (lW x0 x3) (fun a=>(bif af a 0 then some (-1) else Option.bind (lW x1 a) (fun b=>(bif af b 0 then some (-1) else Option.bind (mB x2 b) (fun c=>(bif af c 0 then some (-1) else some c))))))
def qp (x0:List Int) (x1:Int):Option (Int):=(bif af (ay (x1-(x0.length:Int))) 0 then some (-1) else some (ay (x1-(x0.length:Int))))
def pi (x0:Int) (x1:List (Int×Int×Int)) (x2:List (Int×Int)) (x3:List Bool) (x4:List Bool) (x5:List (Int×Int)) (x6:List Int) (x7:Int):Option (Int):=Option.bind (sn x0 x1 x7) (fun a=>(bif af a 0 then some (-1) else Option.bind (qo x2 a) (fun b=>(bif af b 0 then some (-1) else Option.bind (qq x3 x4 x5 b) (fun c=>(bif af c 0 then some (-1) else Option.bind (qp x6 c) (fun d=>(bif af d 0 then some (-1) else some d))))))))
def qu (x0:Int) (x1:Int) (x2:Int):Option (Int×Int×Int):=some (x0,x1,x2)
def jS (x0:List (Int×Int×Int)) (c:(List (Int×Int×Int)×Int)→Option ((List (Int×Int×Int)))) (a:(List (Int×Int×Int)×Int)):Option ((List (Int×Int×Int))):=(bif af a.2 (x0.length:Int) then aj (aq a.2 x0.length) (Option.bind (qu ((x0.getD a.2.toNat ((0,0,0):Int×Int×Int)).1) ((x0.getD a.2.toNat ((0,0,0):Int×Int×Int)).2.1) ((x0.getD a.2.toNat ((0,0,0):Int×Int×Int)).2.2)) (fun b=>aj (aq a.2 x0.length) (c (a.1.set a.2.toNat (b.1,b.2.1,b.2.2),ay (a.2+1))))) else some a.1)
def lv x0:=cb (jS x0)
theorem uw x0 n p:lv x0 (n+1) p=jS x0 (lv x0 n) p:=rfl
def pj (x0:List (Int×Int×Int)):Option (List (Int×Int×Int)):=aj (sF (x0.length:Int)) (Option.bind (lv x0 ah (List.replicate x0.length ((0,0,0):Int×Int×Int),0)) (fun a=>some a))
def sq (x0:Int) (x1:List (Int×Int×Int)):Option (Int×List (Int×Int×Int)):=Option.bind (pj x1) (fun a=>some (x0,a))
def sp (x0:Int) (x1:Int):Option (Int×Int):=some (x0,x1)
def lr (x0:List (Int×Int)) (c:(List (Int×Int)×Int)→Option ((List (Int×Int)))) (a:(List (Int×Int)×Int)):Option ((List (Int×Int))):=(bif af a.2 (x0.length:Int) then aj (aq a.2 x0.length) (Option.bind (sp ((x0.getD a.2.toNat ((0,0):Int×Int)).1) ((x0.getD a.2.toNat ((0,0):Int×Int)).2)) (fun b=>aj (aq a.2 x0.length) (c (a.1.set a.2.toNat (b.1,b.2),ay (a.2+1))))) else some a.1)
def mD x0:=cb (lr x0)
theorem vV x0 n p:mD x0 (n+1) p=lr x0 (mD x0 n) p:=rfl
def qs (x0:List (Int×Int)):Option (List (Int×Int)):=aj (sF (x0.length:Int)) (Option.bind (mD x0 ah (List.replicate x0.length ((0,0):Int×Int),0)) (fun a=>some a))
def jR (x0:List Bool) (b:(List Bool×Int)→Option ((List Bool))) (a:(List Bool×Int)):Option ((List Bool)):=(bif af a.2 (x0.length:Int) then aj (aq a.2 x0.length) (aj (aq a.2 x0.length) (b (a.1.set a.2.toNat (x0.getD a.2.toNat false),ay (a.2+1)))) else some a.1)
def lq x0:=cb (jR x0)
theorem uu x0 n p:lq x0 (n+1) p=jR x0 (lq x0 n) p:=rfl
def lY (x0:List Bool):Option (List Bool):=aj (sF (x0.length:Int)) (Option.bind (lq x0 ah (List.replicate x0.length false,0)) (fun a=>some a))
def nM (x0:Int) (x1:Int):Option (Int×Int):=some (x0,x1)
def gx (x0:List (Int×Int)) (c:(List (Int×Int)×Int)→Option ((List (Int×Int)))) (a:(List (Int×Int)×Int)):Option ((List (Int×Int))):=(bif af a.2 (x0.length:Int) then aj (aq a.2 x0.length) (Option.bind (nM ((x0.getD a.2.toNat ((0,0):Int×Int)).1) ((x0.getD a.2.toNat ((0,0):Int×Int)).2)) (fun b=>aj (aq a.2 x0.length) (c (a.1.set a.2.toNat (b.1,b.2),ay (a.2+1))))) else some a.1)
def iP x0:=cb (gx x0)
theorem rO x0 n p:iP x0 (n+1) p=gx x0 (iP x0 n) p:=rfl
def mF (x0:List (Int×Int)):Option (List (Int×Int)):=aj (sF (x0.length:Int)) (Option.bind (iP x0 ah (List.replicate x0.length ((0,0):Int×Int),0)) (fun a=>some a))
def qv (x0:List Bool) (x1:List Bool) (x2:List (Int×Int)):Option (List Bool×List Bool×List (Int×Int)):=Option.bind (lY x0) (fun a=>Option.bind (lY x1) (fun b=>Option.bind (mF x2) (fun c=>some (a,b,c))))
def lu (x0:List Int) (b:(List Int×Int)→Option ((List Int))) (a:(List Int×Int)):Option ((List Int)):=(bif af a.2 (x0.length:Int) then aj (aq a.2 x0.length) (aj (aq a.2 x0.length) (b (a.1.set a.2.toNat (x0.getD a.2.toNat (0:Int)),ay (a.2+1)))) else some a.1)
def mE x0:=cb (lu x0)
theorem vW x0 n p:mE x0 (n+1) p=lu x0 (mE x0 n) p:=rfl
def qt (x0:List Int):Option (List Int):=aj (sF (x0.length:Int)) (Option.bind (mE x0 ah (List.replicate x0.length (0:Int),0)) (fun a=>some a))
def fa (x0:Int) (x1:List (Int×Int×Int)) (x2:List (Int×Int)) (x3:List Bool) (x4:List Bool) (x5:List (Int×Int)) (x6:List Int):Option (Int×List (Int×Int×Int)×List (Int×Int)×List Bool×List Bool×List (Int×Int)×List Int):=Option.bind (sq x0 x1) (fun b=>Option.bind (qs x2) (fun c=>Option.bind (qv x3 x4 x5) (fun a=>Option.bind (qt x6) (fun d=>some (b.1,b.2,c,a.1,a.2.1,a.2.2,d)))))
def qm (x0:Int) (x1:Int) (x2:Int) (x3:Int) (x4:Int) (x5:Int):Option (Bool):=(bif x0 !=x3 then some false else (bif x1 !=x4 then some false else (bif x2 !=x5 then some false else some true)))
def jK (x0:List (Int×Int×Int)) (x1:List (Int×Int×Int)) (b:Int→Option (Unit ⊕ Bool)) (a:Int):Option (Unit ⊕ Bool):=(bif af a (x0.length:Int) then aj (aq a x0.length) (aj (aq a x1.length) (Option.bind (qm ((x0.getD a.toNat ((0,0,0):Int×Int×Int)).1) ((x0.getD a.toNat ((0,0,0):Int×Int×Int)).2.1) ((x0.getD a.toNat ((0,0,0):Int×Int×Int)).2.2) ((x1.getD a.toNat ((0,0,0):Int×Int×Int)).1) ((x1.getD a.toNat ((0,0,0):Int×Int×Int)).2.1) ((x1.getD a.toNat ((0,0,0):Int×Int×Int)).2.2)) (fun c=>(bif c then b (ay (a+1)) else some (Sum.inr false))))) else some (Sum.inl ()))
def lj x0 x1:=cb (jK x0 x1)
theorem ut x0 x1 n p:lj x0 x1 (n+1) p=jK x0 x1 (lj x0 x1 n) p:=rfl
def pf (x0:List (Int×Int×Int)) (x1:List (Int×Int×Int)):Option (Bool):=(bif (x0.length:Int) !=(x1.length:Int) then some false else Option.bind (lj x0 x1 ah 0:Option (Unit ⊕ Bool)) (Sum.elim (fun (a:Unit)=>some true) (fun (r:Bool)=>some r)))
def sk (x0:Int) (x1:List (Int×Int×Int)) (x2:Int) (x3:List (Int×Int×Int)):Option (Bool):=(bif x0 !=x2 then some false else Option.bind (pf x1 x3) (fun a=>(bif a then some true else some false)))
def sj (x0:Int) (x1:Int) (x2:Int) (x3:Int):Option (Bool):=(bif x0 !=x2 then some false else (bif x1 !=x3 then some false else some true))
def lh (x0:List (Int×Int)) (x1:List (Int×Int)) (b:Int→Option (Unit ⊕ Bool)) (a:Int):Option (Unit ⊕ Bool):=(bif af a (x0.length:Int) then aj (aq a x0.length) (aj (aq a x1.length) (Option.bind (sj ((x0.getD a.toNat ((0,0):Int×Int)).1) ((x0.getD a.toNat ((0,0):Int×Int)).2) ((x1.getD a.toNat ((0,0):Int×Int)).1) ((x1.getD a.toNat ((0,0):Int×Int)).2)) (fun c=>(bif c then b (ay (a+1)) else some (Sum.inr false))))) else some (Sum.inl ()))
def mr x0 x1:=cb (lh x0 x1)
theorem vT x0 x1 n p:mr x0 x1 (n+1) p=lh x0 x1 (mr x0 x1 n) p:=rfl
def qk (x0:List (Int×Int)) (x1:List (Int×Int)):Option (Bool):=(bif (x0.length:Int) !=(x1.length:Int) then some false else Option.bind (mr x0 x1 ah 0:Option (Unit ⊕ Bool)) (Sum.elim (fun (a:Unit)=>some true) (fun (r:Bool)=>some r)))
def jJ (x0:List Bool) (x1:List Bool) (b:Int→Option (Unit ⊕ Bool)) (a:Int):Option (Unit ⊕ Bool):=(bif af a (x0.length:Int) then aj (aq a x0.length) (aj (aq a x1.length) ((bif (x0.getD a.toNat false) !=(x1.getD a.toNat false) then some (Sum.inr false) else b (ay (a+1))))) else some (Sum.inl ()))
def ld x0 x1:=cb (jJ x0 x1)
theorem uq x0 x1 n p:ld x0 x1 (n+1) p=jJ x0 x1 (ld x0 x1 n) p:=rfl
def lV (x0:List Bool) (x1:List Bool):Option (Bool):=(bif (x0.length:Int) !=(x1.length:Int) then some false else Option.bind (ld x0 x1 ah 0:Option (Unit ⊕ Bool)) (Sum.elim (fun (a:Unit)=>some true) (fun (r:Bool)=>some r)))
def nH (x0:Int) (x1:Int) (x2:Int) (x3:Int):Option (Bool):=(bif x0 !=x2 then some false else (bif x1 !=x3 then some false else some true))
def gm (x0:List (Int×Int)) (x1:List (Int×Int)) (b:Int→Option (Unit ⊕ Bool)) (a:Int):Option (Unit ⊕ Bool):=(bif af a (x0.length:Int) then aj (aq a x0.length) (aj (aq a x1.length) (Option.bind (nH ((x0.getD a.toNat ((0,0):Int×Int)).1) ((x0.getD a.toNat ((0,0):Int×Int)).2) ((x1.getD a.toNat ((0,0):Int×Int)).1) ((x1.getD a.toNat ((0,0):Int×Int)).2)) (fun c=>(bif c then b (ay (a+1)) else some (Sum.inr false))))) else some (Sum.inl ()))
def iF x0 x1:=cb (gm x0 x1)
theorem rI x0 x1 n p:iF x0 x1 (n+1) p=gm x0 x1 (iF x0 x1 n) p:=rfl
def mv (x0:List (Int×Int)) (x1:List (Int×Int)):Option (Bool):=(bif (x0.length:Int) !=(x1.length:Int) then some false else Option.bind (iF x0 x1 ah 0:Option (Unit ⊕ Bool)) (Sum.elim (fun (a:Unit)=>some true) (fun (r:Bool)=>some r)))
def qn (x0:List Bool) (x1:List Bool) (x2:List (Int×Int)) (x3:List Bool) (x4:List Bool) (x5:List (Int×Int)):Option (Bool):=Option.bind (lV x0 x3) (fun a=>(bif a then Option.bind (lV x1 x4) (fun b=>(bif b then Option.bind (mv x2 x5) (fun c=>(bif c then some true else some false)) else some false)) else some false))
def li (x0:List Int) (x1:List Int) (b:Int→Option (Unit ⊕ Bool)) (a:Int):Option (Unit ⊕ Bool):=(bif af a (x0.length:Int) then aj (aq a x0.length) (aj (aq a x1.length) ((bif (x0.getD a.toNat (0:Int)) !=(x1.getD a.toNat (0:Int)) then some (Sum.inr false) else b (ay (a+1))))) else some (Sum.inl ()))
def mt x0 x1:=cb (li x0 x1)
theorem vU x0 x1 n p:mt x0 x1 (n+1) p=li x0 x1 (mt x0 x1 n) p:=rfl
def ql (x0:List Int) (x1:List Int):Option (Bool):=(bif (x0.length:Int) !=(x1.length:Int) then some false else Option.bind (mt x0 x1 ah 0:Option (Unit ⊕ Bool)) (Sum.elim (fun (a:Unit)=>some true) (fun (r:Bool)=>some r)))
def eW (x0:Int) (x1:List (Int×Int×Int)) (x2:List (Int×Int)) (x3:List Bool) (x4:List Bool) (x5:List (Int×Int)) (x6:List Int) (x7:Int) (x8:List (Int×Int×Int)) (x9:List (Int×Int)) (x10:List Bool) (x11:List Bool) (x12:List (Int×Int)) (x13:List Int):Option (Bool):=Option.bind (sk x0 x1 x7 x8) (fun a=>(bif a then Option.bind (qk x2 x9) (fun b=>(bif b then Option.bind (qn x3 x4 x5 x10 x11 x12) (fun c=>(bif c then Option.bind (ql x6 x13) (fun d=>(bif d then some true else some false)) else some false)) else some false)) else some false))
def gw (x0:List (Int×Int×Int)) (b:(List (Int×Int×Int)×Int×Int)→Option ((Int×List (Int×Int×Int)))) (a:(List (Int×Int×Int)×Int×Int)):Option ((Int×List (Int×Int×Int))):=(bif af a.2.2 (x0.length:Int) then aj (aq a.2.2 x0.length) (aj (aq a.2.2 x0.length) (aj (aq a.2.2 x0.length) (b (a.1.set a.2.2.toNat (a.2.1,ay (a.2.1+1),ay ((ay (a.2.1+1))+1)),ay ((ay ((ay (a.2.1+1))+1))+1),ay (a.2.2+1))))) else some (a.2.1,a.1))
def iN x0:=cb (gw x0)
theorem rN x0 n p:iN x0 (n+1) p=gw x0 (iN x0 n) p:=rfl
def mz (x0:List (Int×Int×Int)) (x1:Int):Option (Int×List (Int×Int×Int)):=Option.bind (iN x0 ah (x0,x1,0)) (fun a=>some (a.1,a.2))
def tM (x0:Int) (x1:List (Int×Int×Int)) (x2:Int):Option (Int×List (Int×Int×Int)):=Option.bind (mz x1 x2) (fun a=>some (a.1,a.2))
def iL (x0:List (Int×Int)) (b:(List (Int×Int)×Int×Int)→Option ((Int×List (Int×Int)))) (a:(List (Int×Int)×Int×Int)):Option ((Int×List (Int×Int))):=(bif af a.2.2 (x0.length:Int) then aj (aq a.2.2 x0.length) (aj (aq a.2.2 x0.length) (b (a.1.set a.2.2.toNat (a.2.1,ay (a.2.1+1)),ay ((ay (a.2.1+1))+1),ay (a.2.2+1)))) else some (a.2.1,a.1))
def jO x0:=cb (iL x0)
theorem te x0 n p:jO x0 (n+1) p=iL x0 (jO x0 n) p:=rfl
def nK (x0:List (Int×Int)) (x1:Int):Option (Int×List (Int×Int)):=Option.bind (jO x0 ah (x0,x1,0)) (fun a=>some (a.1,a.2))
def gu (x0:List Bool) (b:(List Bool×Int×Int)→Option ((Int×List Bool))) (a:(List Bool×Int×Int)):Option ((Int×List Bool)):=(bif af a.2.2 (x0.length:Int) then aj (aq a.2.2 x0.length) (b (a.1.set a.2.2.toNat ((Int.tmod a.2.1 3)==0),ay (a.2.1+1),ay (a.2.2+1))) else some (a.2.1,a.1))
def iK x0:=cb (gu x0)
theorem rM x0 n p:iK x0 (n+1) p=gu x0 (iK x0 n) p:=rfl
def jg (x0:List Bool) (x1:Int):Option (Int×List Bool):=Option.bind (iK x0 ah (x0,x1,0)) (fun a=>some (a.1,a.2))
def ew (x0:List (Int×Int)) (b:(List (Int×Int)×Int×Int)→Option ((Int×List (Int×Int)))) (a:(List (Int×Int)×Int×Int)):Option ((Int×List (Int×Int))):=(bif af a.2.2 (x0.length:Int) then aj (aq a.2.2 x0.length) (aj (aq a.2.2 x0.length) (b (a.1.set a.2.2.toNat (a.2.1,ay (a.2.1+1)),ay ((ay (a.2.1+1))+1),ay (a.2.2+1)))) else some (a.2.1,a.1))
def fo x0:=cb (ew x0)
theorem pM x0 n p:fo x0 (n+1) p=ew x0 (fo x0 n) p:=rfl
def jQ (x0:List (Int×Int)) (x1:Int):Option (Int×List (Int×Int)):=Option.bind (fo x0 ah (x0,x1,0)) (fun a=>some (a.1,a.2))
def rp (x0:List Bool) (x1:List Bool) (x2:List (Int×Int)) (x3:Int):Option (Int×List Bool×List Bool×List (Int×Int)):=Option.bind (jg x0 x3) (fun a=>Option.bind (jg x1 a.1) (fun b=>Option.bind (jQ x2 b.1) (fun c=>some (c.1,a.2,b.2,c.2))))
def iM (x0:List Int) (b:(List Int×Int×Int)→Option ((Int×List Int))) (a:(List Int×Int×Int)):Option ((Int×List Int)):=(bif af a.2.2 (x0.length:Int) then aj (aq a.2.2 x0.length) (b (a.1.set a.2.2.toNat a.2.1,ay (a.2.1+1),ay (a.2.2+1))) else some (a.2.1,a.1))
def jP x0:=cb (iM x0)
theorem tg x0 n p:jP x0 (n+1) p=iM x0 (jP x0 n) p:=rfl
def nL (x0:List Int) (x1:Int):Option (Int×List Int):=Option.bind (jP x0 ah (x0,x1,0)) (fun a=>some (a.1,a.2))
def mA (x0:Int) (x1:List (Int×Int×Int)) (x2:List (Int×Int)) (x3:List Bool) (x4:List Bool) (x5:List (Int×Int)) (x6:List Int) (x7:Int):Option (Int×List (Int×Int×Int)×List (Int×Int)×List Bool×List Bool×List (Int×Int)×List Int):=Option.bind (tM x0 x1 x7) (fun b=>Option.bind (nK x2 b.1) (fun c=>Option.bind (rp x3 x4 x5 c.1) (fun a=>Option.bind (nL x6 a.1) (fun d=>some (d.1,b.2,c.2,a.2.1,a.2.2.1,a.2.2.2,d.2)))))
def gr (x0:List (Int×Int×Int)) (b:(Int×Int)→Option (Int ⊕ Int)) (a:(Int×Int)):Option (Int ⊕ Int):=(bif af a.2 (x0.length:Int) then aj (aq a.2 x0.length) ((bif ((x0.getD a.2.toNat ((0,0,0):Int×Int×Int)).1) !=a.1 then some (Sum.inr (-1)) else aj (aq a.2 x0.length) ((bif ((x0.getD a.2.toNat ((0,0,0):Int×Int×Int)).2.1) !=(ay (a.1+1)) then some (Sum.inr (-1)) else aj (aq a.2 x0.length) ((bif ((x0.getD a.2.toNat ((0,0,0):Int×Int×Int)).2.2) !=(ay ((ay (a.1+1))+1)) then some (Sum.inr (-1)) else b (ay ((ay ((ay (a.1+1))+1))+1),ay (a.2+1)))))))) else some (Sum.inl a.1))
def iJ x0:=cb (gr x0)
theorem rL x0 n p:iJ x0 (n+1) p=gr x0 (iJ x0 n) p:=rfl
def mw (x0:List (Int×Int×Int)) (x1:Int):Option (Int):=Option.bind (iJ x0 ah (x1,0):Option (Int ⊕ Int)) (Sum.elim (fun (a:Int)=>some a) (fun (r:Int)=>some r))
def tL (x0:Int) (x1:List (Int×Int×Int)) (x2:Int):Option (Int):=Option.bind (mw x1 x2) (fun a=>(bif af a 0 then some (-1) else some a))
def iH (x0:List (Int×Int)) (b:(Int×Int)→Option (Int ⊕ Int)) (a:(Int×Int)):Option (Int ⊕ Int):=(bif af a.2 (x0.length:Int) then aj (aq a.2 x0.length) ((bif ((x0.getD a.2.toNat ((0,0):Int×Int)).1) !=a.1 then some (Sum.inr (-1)) else aj (aq a.2 x0.length) ((bif ((x0.getD a.2.toNat ((0,0):Int×Int)).2) !=(ay (a.1+1)) then some (Sum.inr (-1)) else b (ay ((ay (a.1+1))+1),ay (a.2+1)))))) else some (Sum.inl a.1))
def jL x0:=cb (iH x0)
theorem ta x0 n p:jL x0 (n+1) p=iH x0 (jL x0 n) p:=rfl
def nI (x0:List (Int×Int)) (x1:Int):Option (Int):=Option.bind (jL x0 ah (x1,0):Option (Int ⊕ Int)) (Sum.elim (fun (a:Int)=>some a) (fun (r:Int)=>some r))
def gq (x0:List Bool) (b:(Int×Int)→Option (Int ⊕ Int)) (a:(Int×Int)):Option (Int ⊕ Int):=(bif af a.2 (x0.length:Int) then aj (aq a.2 x0.length) ((bif (x0.getD a.2.toNat false) !=((Int.tmod a.1 3)==0) then some (Sum.inr (-1)) else b (ay (a.1+1),ay (a.2+1)))) else some (Sum.inl a.1))
def iG x0:=cb (gq x0)
theorem rK x0 n p:iG x0 (n+1) p=gq x0 (iG x0 n) p:=rfl
def jf (x0:List Bool) (x1:Int):Option (Int):=Option.bind (iG x0 ah (x1,0):Option (Int ⊕ Int)) (Sum.elim (fun (a:Int)=>some a) (fun (r:Int)=>some r))
def er (x0:List (Int×Int)) (b:(Int×Int)→Option (Int ⊕ Int)) (a:(Int×Int)):Option (Int ⊕ Int):=(bif af a.2 (x0.length:Int) then aj (aq a.2 x0.length) ((bif ((x0.getD a.2.toNat ((0,0):Int×Int)).1) !=a.1 then some (Sum.inr (-1)) else aj (aq a.2 x0.length) ((bif ((x0.getD a.2.toNat ((0,0):Int×Int)).2) !=(ay (a.1+1)) then some (Sum.inr (-1)) else b (ay ((ay (a.1+1))+1),ay (a.2+1)))))) else some (Sum.inl a.1))
def fm x0:=cb (er x0)
theorem pK x0 n p:fm x0 (n+1) p=er x0 (fm x0 n) p:=rfl
def jN (x0:List (Int×Int)) (x1:Int):Option (Int):=Option.bind (fm x0 ah (x1,0):Option (Int ⊕ Int)) (Sum.elim (fun (a:Int)=>some a) (fun (r:Int)=>some r))
def rn (x0:List Bool) (x1:List Bool) (x2:List (Int×Int)) (x3:Int):Option (Int):=Option.bind (jf x0 x3) (fun a=>(bif af a 0 then some (-1) else Option.bind (jf x1 a) (fun b=>(bif af b 0 then some (-1) else Option.bind (jN x2 b) (fun c=>(bif af c 0 then some (-1) else some c))))))
def iI (x0:List Int) (b:(Int×Int)→Option (Int ⊕ Int)) (a:(Int×Int)):Option (Int ⊕ Int):=(bif af a.2 (x0.length:Int) then aj (aq a.2 x0.length) ((bif (x0.getD a.2.toNat (0:Int)) !=a.1 then some (Sum.inr (-1)) else b (ay (a.1+1),ay (a.2+1)))) else some (Sum.inl a.1))
def jM x0:=cb (iI x0)
theorem tc x0 n p:jM x0 (n+1) p=iI x0 (jM x0 n) p:=rfl
def nJ (x0:List Int) (x1:Int):Option (Int):=Option.bind (jM x0 ah (x1,0):Option (Int ⊕ Int)) (Sum.elim (fun (a:Int)=>some a) (fun (r:Int)=>some r))
def my (x0:Int) (x1:List (Int×Int×Int)) (x2:List (Int×Int)) (x3:List Bool) (x4:List Bool) (x5:List (Int×Int)) (x6:List Int) (x7:Int):Option (Int):=Option.bind (tL x0 x1 x7) (fun a=>(bif af a 0 then some (-1) else Option.bind (nI x2 a) (fun b=>(bif af b 0 then some (-1) else Option.bind (rn x3 x4 x5 b) (fun c=>(bif af c 0 then some (-1) else Option.bind (nJ x6 c) (fun d=>(bif af d 0 then some (-1) else some d))))))))
def lX (x0:List ByteArray) (b:(Int×Int)→Option (Int ⊕ Int)) (a:(Int×Int)):Option (Int ⊕ Int):=(bif af a.2 (x0.length:Int) then aj (aq a.2 x0.length) ((bif af (ay (a.1-((x0.getD a.2.toNat ByteArray.empty).size:Int))) 0 then some (Sum.inr (-1)) else b (ay (a.1-((x0.getD a.2.toNat ByteArray.empty).size:Int)),ay (a.2+1)))) else some (Sum.inl a.1))
def iO x0:=cb (lX x0)
theorem DC x0 n p:iO x0 (n+1) p=lX x0 (iO x0 n) p:=rfl
def mC (x0:List ByteArray) (x1:Int):Option (Int):=(bif af (ay (x1-(x0.length:Int))) 0 then some (-1) else Option.bind (iO x0 ah (ay (x1-(x0.length:Int)),0):Option (Int ⊕ Int)) (Sum.elim (fun (a:Int)=>some a) (fun (r:Int)=>some r)))
def gy (x0:List ByteArray) (b:(List ByteArray×Int)→Option ((List ByteArray))) (a:(List ByteArray×Int)):Option ((List ByteArray)):=(bif af a.2 (x0.length:Int) then aj (aq a.2 x0.length) (aj (aq a.2 x0.length) (b (a.1.set a.2.toNat (x0.getD a.2.toNat ByteArray.empty),ay (a.2+1)))) else some a.1)
def iQ x0:=cb (gy x0)
theorem rP x0 n p:iQ x0 (n+1) p=gy x0 (iQ x0 n) p:=rfl
def cM (x0:List ByteArray):Option (List ByteArray):=aj (sF (x0.length:Int)) (Option.bind (iQ x0 ah (List.replicate x0.length ByteArray.empty,0)) (fun a=>some a))
def gn (x0:List ByteArray) (x1:List ByteArray) (b:Int→Option (Unit ⊕ Bool)) (a:Int):Option (Unit ⊕ Bool):=(bif af a (x0.length:Int) then aj (aq a x0.length) (aj (aq a x1.length) ((bif (x0.getD a.toNat ByteArray.empty).toList==(x1.getD a.toNat ByteArray.empty).toList then b (ay (a+1)) else some (Sum.inr false)))) else some (Sum.inl ()))
def dV x0 x1:=cb (gn x0 x1)
theorem rJ x0 x1 n p:dV x0 x1 (n+1) p=gn x0 x1 (dV x0 x1 n) p:=rfl
def cL (x0:List ByteArray) (x1:List ByteArray):Option (Bool):=(bif (x0.length:Int) !=(x1.length:Int) then some false else Option.bind (dV x0 x1 ah 0:Option (Unit ⊕ Bool)) (Sum.elim (fun (a:Unit)=>some true) (fun (r:Bool)=>some r)))
def mW (b:(Int×ByteArray)→Option (ByteArray)) (a:(Int×ByteArray)):Option (ByteArray):=(bif af 0 a.1 then aj (Kv (strOfNums ([wk .u8 (ay (48+(Int.tmod a.1 10)))]:List Int)).size a.2.size) (b (ay (Int.tdiv a.1 10),(strOfNums ([wk .u8 (ay (48+(Int.tmod a.1 10)))]:List Int))++a.2)) else some a.2)
def eZ:=cb mW
theorem Ey n p:eZ (n+1) p=mW (eZ n) p:=rfl
def dH (x0:Int):Option (ByteArray):=(bif aF x0 0 then some ({data:= #[109,48]}:ByteArray) else Option.bind (eZ ah (x0,({data:= #[]}:ByteArray))) (fun a=>aj (Kv ({data:= #[109]}:ByteArray).size a.size) (some (({data:= #[109]}:ByteArray)++a))))
def ey (x0:List ByteArray) (b:(List ByteArray×Int×Int)→Option ((Int×List ByteArray))) (a:(List ByteArray×Int×Int)):Option ((Int×List ByteArray)):=(bif af a.2.2 (x0.length:Int) then Option.bind (dH a.2.1) (fun c=>aj (aq a.2.2 x0.length) (b (a.1.set a.2.2.toNat c,ay (a.2.1+1),ay (a.2.2+1)))) else some (a.2.1,a.1))
def cH x0:=cb (ey x0)
theorem pN x0 n p:cH x0 (n+1) p=ey x0 (cH x0 n) p:=rfl
def eY (x0:List ByteArray) (x1:Int):Option (Int×List ByteArray):=Option.bind (cH x0 ah (x0,x1,0)) (fun a=>some (a.1,a.2))
def eu (x0:List ByteArray) (b:(Int×Int)→Option (Int ⊕ Int)) (a:(Int×Int)):Option (Int ⊕ Int):=(bif af a.2 (x0.length:Int) then aj (aq a.2 x0.length) (Option.bind (dH a.1) (fun c=>(bif (x0.getD a.2.toNat ByteArray.empty).toList==c.toList then b (ay (a.1+1),ay (a.2+1)) else some (Sum.inr (-1))))) else some (Sum.inl a.1))
def cG x0:=cb (eu x0)
theorem pL x0 n p:cG x0 (n+1) p=eu x0 (cG x0 n) p:=rfl
def eX (x0:List ByteArray) (x1:Int):Option (Int):=Option.bind (cG x0 ah (x1,0):Option (Int ⊕ Int)) (Sum.elim (fun (a:Int)=>some a) (fun (r:Int)=>some r))
def cP (x0:Int) (x1:List (Int×Int×Int)) (x2:List (Int×Int)) (x3:List Bool) (x4:List Bool) (x5:List (Int×Int)) (x6:List Int) (x7:List ByteArray):Option (Bool):=Option.bind (pi x0 x1 x2 x3 x4 x5 x6 1048576) (fun l=>(bif af l 0 then some true else Option.bind (mC x7 l) (fun v=>(bif af v 0 then some true else Option.bind (fa x0 x1 x2 x3 x4 x5 x6) (fun f=>Option.bind (cM x7) (fun y=>Option.bind (gR f.1 f.2.1 f.2.2.1 f.2.2.2.1 f.2.2.2.2.1 f.2.2.2.2.2.1 f.2.2.2.2.2.2 y) (fun b=>Option.bind (fa x0 x1 x2 x3 x4 x5 x6) (fun c=>Option.bind (cM x7) (fun j=>Option.bind (dC c.1 c.2.1 c.2.2.1 c.2.2.2.1 c.2.2.2.2.1 c.2.2.2.2.2.1 c.2.2.2.2.2.2 j) (fun a=>Option.bind (eW a.1 a.2.1 a.2.2.1 a.2.2.2.1 a.2.2.2.2.1 a.2.2.2.2.2.1 a.2.2.2.2.2.2.1 b.1 b.2.1 b.2.2.1 b.2.2.2.1 b.2.2.2.2.1 b.2.2.2.2.2.1 b.2.2.2.2.2.2.1) (fun m=>Option.bind (gb (!(!m)) (cL a.2.2.2.2.2.2.2 b.2.2.2.2.2.2.2)) (fun z=>(bif (!m) ||(!z) then some false else Option.bind (fa x0 x1 x2 x3 x4 x5 x6) (fun g=>Option.bind (eW c.1 c.2.1 c.2.2.1 c.2.2.2.1 c.2.2.2.2.1 c.2.2.2.2.2.1 c.2.2.2.2.2.2 g.1 g.2.1 g.2.2.1 g.2.2.2.1 g.2.2.2.2.1 g.2.2.2.2.2.1 g.2.2.2.2.2.2) (fun a0=>(bif a0 then Option.bind (cM x7) (fun b0=>Option.bind (cL j b0) (fun c0=>(bif c0 then Option.bind (mA c.1 c.2.1 c.2.2.1 c.2.2.2.1 c.2.2.2.2.1 c.2.2.2.2.2.1 c.2.2.2.2.2.2 1) (fun d0=>Option.bind (eY j d0.1) (fun k=>Option.bind (gb (!(af k.1 0)) (eW a.1 a.2.1 a.2.2.1 a.2.2.2.1 a.2.2.2.2.1 a.2.2.2.2.2.1 a.2.2.2.2.2.2.1 b.1 b.2.1 b.2.2.1 b.2.2.2.1 b.2.2.2.2.1 b.2.2.2.2.2.1 b.2.2.2.2.2.2.1)) (fun o=>Option.bind (gb (!((af k.1 0) ||(!o))) (cL a.2.2.2.2.2.2.2 b.2.2.2.2.2.2.2)) (fun e0=>(bif ((af k.1 0) ||(!o)) ||(!e0) then some false else Option.bind (mA a.1 a.2.1 a.2.2.1 a.2.2.2.1 a.2.2.2.2.1 a.2.2.2.2.2.1 a.2.2.2.2.2.2.1 1) (fun d=>Option.bind (eY a.2.2.2.2.2.2.2 d.1) (fun i=>Option.bind (my a.1 d.2.1 d.2.2.1 d.2.2.2.1 d.2.2.2.2.1 d.2.2.2.2.2.1 d.2.2.2.2.2.2 1) (fun p=>(bif af p 0 then some false else Option.bind (eX i.2 p) (fun q=>(bif af q 0 then some false else (bif q !=i.1 then some false else Option.bind (fa x0 x1 x2 x3 x4 x5 x6) (fun h=>Option.bind (cM x7) (fun g0=>Option.bind (dC h.1 h.2.1 h.2.2.1 h.2.2.2.1 h.2.2.2.2.1 h.2.2.2.2.2.1 h.2.2.2.2.2.2 g0) (fun e=>Option.bind (eW e.1 e.2.1 e.2.2.1 e.2.2.2.1 e.2.2.2.2.1 e.2.2.2.2.2.1 e.2.2.2.2.2.2.1 b.1 b.2.1 b.2.2.1 b.2.2.2.1 b.2.2.2.2.1 b.2.2.2.2.2.1 b.2.2.2.2.2.2.1) (fun s=>Option.bind (gb (!(!s)) (cL e.2.2.2.2.2.2.2 b.2.2.2.2.2.2.2)) (fun i0=>(bif (!s) ||(!i0) then some false else Option.bind (my a.1 d.2.1 d.2.2.1 d.2.2.2.1 d.2.2.2.2.1 d.2.2.2.2.2.1 d.2.2.2.2.2.2 1) (fun t=>(bif af t 0 then some false else Option.bind (eX i.2 t) (fun u=>(bif af u 0 then some false else (bif u !=i.1 then some false else some true))))))))))))))))))))))) else some false))) else some false))))))))))))))))
end
theorem ac {α:Type} {l:List α} {k:Nat} {d:α} (h:k<l.length):l.getD k d=l[k]:=by simp [List.getD,h]
theorem ael {n:Int} (h:0≤n):af n 0=false:=by simp [af];omega
theorem ab {k:Nat} (h:k<4611686018427387904):ay ((k:Int)+1)=((k+1:Nat):Int):=by rw [bD (by omega) (by omega)];rfl
theorem aO {n:Int} (h: -9223372036854775808≤n∧n≤9223372036854775807):ay n=n:=bD h.1 h.2
theorem qh {n:Nat} (h:n≤1099511627776):n<ah:=by rw [ER];omega
theorem au {k n:Nat} (h:k<n):af (k:Int) (n:Int)=true:=by simp [af,h]
theorem ae {k n:Nat} (h:k<n):aq (k:Int) n=true:=by simp [aq,h]
theorem ak {n:Nat}:af (n:Int) (n:Int)=false:=by simp [af]
theorem pV (n lo hi:Int):LK n lo hi=(aF lo n&&aF n hi):=rfl
theorem Ho {α β:Type} (f:β→α→β) (l:List α) (a:β) (d:α) {k:Nat} (h:k<l.length):(l.take (k+1)).foldl f a=f ((l.take k).foldl f a) (l.getD k d):=by
 rw [List.take_succ_eq_append_getElem h,List.foldl_append,ac h];rfl
theorem Yy {σ Out:Type} (L:Nat→σ→Option Out) (st:Nat→σ) (n:Nat) (out:Option Out) (hstep: ∀k fuel,k<n→L (fuel+1) (st k)=L fuel (st (k+1))) (hend: ∀fuel,L (fuel+1) (st n)=out): ∀j k fuel,k+j=n→j<fuel→L fuel (st k)=out:=by
 intro j
 induction j with
 |zero=>
  intro k fuel hk hf
  obtain ⟨f,rfl⟩: ∃f,fuel=f+1:=⟨fuel-1,by omega⟩
  obtain rfl:k=n:=by omega
  exact hend f
 |succ j ih=>
  intro k fuel hk hf
  obtain ⟨f,rfl⟩: ∃f,fuel=f+1:=⟨fuel-1,by omega⟩
  rw [hstep k f (by omega)]
  exact ih (k+1) f (by omega) (by omega)
theorem av {σ Out:Type} (L:Nat→σ→Option Out) (st:Nat→σ) (n:Nat) (out:Option Out) (hn:n≤1099511627776) (hstep: ∀k fuel,k<n→L (fuel+1) (st k)=L fuel (st (k+1))) (hend: ∀fuel,L (fuel+1) (st n)=out):L ah (st 0)=out:=
 Yy L st n out hstep hend n 0 ah (by omega) (qh hn)
theorem bW {σ Out:Type} (L:Nat→σ→Option Out) (st:Nat→σ) (n:Nat) (P:Nat→Bool) (fv out:Option Out) (hn:n≤1099511627776) (hstep: ∀k fuel,k<n→L (fuel+1) (st k)=bif P k then fv else L fuel (st (k+1))) (hend: ∀fuel,L (fuel+1) (st n)=out):
 L ah (st 0)=bif (List.range n).any P then fv else out:=by
 have key: ∀j k fuel,k+j=n→j<fuel→L fuel (st k)=bif (List.range' k j).any P then fv else out:=by
  intro j
  induction j with
  |zero=>
   intro k fuel hk hf
   obtain ⟨f,rfl⟩: ∃f,fuel=f+1:=⟨fuel-1,by omega⟩
   obtain rfl:k=n:=by omega
   simpa using hend f
  |succ j ih=>
   intro k fuel hk hf
   obtain ⟨f,rfl⟩: ∃f,fuel=f+1:=⟨fuel-1,by omega⟩
   rw [hstep k f (by omega),ih (k+1) f (by omega) (by omega),List.range'_succ,List.any_cons]
   cases P k<;>simp
 rw [key n 0 ah (by omega) (qh hn),List.range_eq_range']
theorem NU {α:Type} (l:List α) (d:α) (p:α→Bool):(List.range l.length).any (fun k=>p (l.getD k d))=l.any p:=by
 rw [Bool.eq_iff_iff,List.any_eq_true,List.any_eq_true]
 constructor
 ·rintro ⟨k,hk,h⟩
  have hk:k<l.length:=by simpa using hk
  exact ⟨l[k],List.getElem_mem hk,by simpa [List.getD,hk] using h⟩
 ·rintro ⟨x,hx,h⟩
  obtain ⟨k,hk,rfl⟩:=List.mem_iff_getElem.1 hx
  exact ⟨k,by simpa using hk,by simpa [List.getD,hk] using h⟩
def bC {β:Type} (mk:Int→β) (c:Int) (k:Int) (n:Nat):List β:=(List.range n).map fun (j:Nat)=>mk (k+c*(j:Int))
theorem bU {β:Type} (mk:Int→β) (c k:Int) (n:Nat):(bC mk c k n).length=n:=by simp [bC]
theorem QI {β:Type} (mk:Int→β) (c k:Int) {n j:Nat} (d:β) (h:j<n):(bC mk c k n).getD j d=mk (k+c*j):=by simp [bC,List.getD,h]
theorem QJ {β:Type} (mk:Int→β) (c k:Int) (x:List β) {j:Nat} (h:j<x.length):(bC mk c k j++x.drop j).set j (mk (k+c*j))=bC mk c k (j+1)++x.drop (j+1):=by
 rw [List.set_append_right _ _ (by rw [bU];exact Nat.le_refl _),bU,Nat.sub_self,List.drop_eq_getElem_cons h,List.set_cons_zero]
 simp [bC,List.range_succ]
theorem sE {β:Type} (L:Nat→(List β×Int×Int)→Option (Int×List β)) (mk:Int→β) (c:Int) (hc:0≤c∧c≤16) (x:List β) (k:Int) (hx:x.length≤1048576) (hk:0≤k∧k≤33554432)
 (hstep: ∀fuel (l:List β) (q:Int) (j:Nat),j<x.length→l.length=x.length→0≤q→q≤134217728→L (fuel+1) (l,q,(j:Int))=L fuel (l.set j (mk q),q+c,((j+1:Nat):Int)))
 (hend: ∀fuel (l:List β) (q:Int),l.length=x.length→L (fuel+1) (l,q,(x.length:Int))=some (q,l)):
 L ah (x,k,0)=some (k+c*x.length,bC mk c k x.length):=by
 have h:=av L (fun j=>(bC mk c k j++x.drop j,k+c*j,(j:Int))) x.length (some (k+c*x.length,bC mk c k x.length)) (by omega) (fun j fuel hj=>?_) (fun fuel=>?_)
 ·simpa [bC] using h
 ·have hq:0≤c*(j:Int):=Int.mul_nonneg hc.1 (by omega)
  have hq2:c*(j:Int)≤16*1048576:=Int.mul_le_mul hc.2 (by omega) (by omega) (by decide)
  have:=hstep fuel (bC mk c k j++x.drop j) (k+c*j) j hj (by simp [bU];omega) (by omega) (by omega)
  rw [this,QJ mk c k x hj]
  have e:k+c*((j+1:Nat):Int)=k+c*j+c:=by rw [Int.natCast_add,Int.mul_add];omega
  rw [e]
 ·have:=hend fuel (bC mk c k x.length++x.drop x.length) (k+c*x.length) (by simp [bU])
  simpa using this
theorem sC {β:Type} (L:Nat→(Int×Int)→Option (Int ⊕ Int)) (mk:Int→β) (c:Int) (hc:0≤c∧c≤16) (n:Nat) (k:Int) (hx:n≤1048576) (hk:0≤k∧k≤33554432)
 (hstep: ∀fuel (q:Int) (j:Nat),j<n→(∀d,(bC mk c k n)[j]?.getD d=mk q)→0≤q→q≤134217728→L (fuel+1) (q,(j:Int))=L fuel (q+c,((j+1:Nat):Int)))
 (hend: ∀fuel (q:Int),L (fuel+1) (q,(n:Int))=some (.inl q)):L ah (k,0)=some (.inl (k+c*n)):=by
 have h:=av L (fun j=>(k+c*j,(j:Int))) n (some (.inl (k+c*n))) (by omega) (fun j fuel hj=>?_) (fun fuel=>hend fuel _)
 ·simpa using h
 ·have hq:0≤c*(j:Int):=Int.mul_nonneg hc.1 (by omega)
  have hq2:c*(j:Int)≤16*1048576:=Int.mul_le_mul hc.2 (by omega) (by omega) (by decide)
  rw [hstep fuel (k+c*j) j hj (fun d=>by simpa [List.getD] using QI mk c k d hj) (by omega) (by omega)]
  have e:k+c*((j+1:Nat):Int)=k+c*j+c:=by rw [Int.natCast_add,Int.mul_add];omega
  rw [e]
theorem vj {β:Type} (L:Nat→(List β×Int)→Option (List β)) (x:List β) (l0:List β) (hl:l0.length=x.length) (hx:x.length≤1048576)
 (hstep: ∀fuel (l:List β) (j:Nat) (hj:j<x.length),l.length=x.length→L (fuel+1) (l,(j:Int))=L fuel (l.set j x[j],((j+1:Nat):Int)))
 (hend: ∀fuel (l:List β),l.length=x.length→L (fuel+1) (l,(x.length:Int))=some l):L ah (l0,0)=some x:=by
 have h:=av L (fun j=>(x.take j++l0.drop j,(j:Int))) x.length (some x) (by omega) (fun j fuel hj=>?_) (fun fuel=>?_)
 ·simpa using h
 ·rw [hstep fuel _ j hj (by simp;omega)]
  congr 2
  rw [List.set_append_right _ _ (by simp;omega),List.length_take,Nat.min_eq_left (by omega),Nat.sub_self,List.drop_eq_getElem_cons (by omega:j<l0.length),List.set_cons_zero,List.take_succ_eq_append_getElem hj,List.append_assoc]
  rfl
 ·have:=hend fuel (x.take x.length++l0.drop x.length) (by simp;omega)
  rw [this,List.take_length,List.drop_of_length_le (by omega),List.append_nil]
theorem Ft {Out:Type} (L:Nat→Int→Option Out) (n:Nat) (hx:n≤1048576) (out:Option Out) (hstep: ∀fuel (j:Nat),j<n→L (fuel+1) (j:Int)=L fuel ((j+1:Nat):Int)) (hend: ∀fuel,L (fuel+1) (n:Int)=out):L ah 0=out:=by
 have h:=av L (fun j=>(j:Int)) n out (by omega) (fun j fuel hj=>hstep fuel j hj) hend
 simpa using h
end Go.Proofs.YtjdlgannencchaaGreatDoor
namespace Go.Proofs.YtjdlgannencchaaGreatDoor
open Go.Lib
set_option linter.unusedVariables false
set_option linter.unusedSimpArgs false
theorem wk8 {n:Int} (h:0≤n∧n<256):wk .u8 n=n:=by
 unfold wk IntKind.wrap
 simp [IntKind.bits,IntKind.signed]
 omega
theorem Jp {n:Nat} (h:n<10):strOfNums ([wk .u8 (ay (48+(n:Int)))]:List Int)=aW [UInt8.ofNat (48+n)]:=by
 rw [aO (by omega),wk8 (by omega)]
 unfold strOfNums aW
 have e:(48+(n:Int)).toNat=48+n:=by omega
 simp only [List.map_cons,List.map_nil,e]
theorem zY (a b:List UInt8):aW a++aW b=aW (a++b):=by
 have h: ∀ {x y:ByteArray},x.data.toList=y.data.toList→x=y:=fun {x y} h=>by
  cases x;cases y;simp at h;rw [ByteArray.mk.injEq];exact h
 apply h
 rw [ByteArray.data_append,Array.toList_append,lN,lN,lN]
theorem MA: ∀(k n:Nat),n<10 ^ (k+1)→(decDigits n).length≤k+1
 |0,n,h=>by rw [decDigits_one (by simpa using h)];simp
 |k+1,n,h=>by
  rw [decDigits]
  split
  ·simp
  ·have:=MA k (n / 10) (by rw [Nat.pow_succ] at h;omega)
   simp;omega
theorem aeo: ∀(k n:Nat),n<10 ^ (k+1)→n<9223372036854775808→k<100→cb ii (k+1) (n:Int)=some (aW (decDigits n)):=by
 intro k
 induction k with
 |zero=>
  intro n h h2 _
  have h:n<10:=by simpa using h
  show ii (cb ii 0) (n:Int)=_
  rw [ii]
  rw [show af (n:Int) 0=false from decide_eq_false (by omega),show af (n:Int) 10=true from decide_eq_true (by omega),decDigits_one h,Jp h]
  rfl
 |succ k ih=>
  intro n h h2 hk
  show ii (cb ii (k+1)) (n:Int)=_
  rw [ii]
  rw [show af (n:Int) 0=false from decide_eq_false (by omega)]
  by_cases h10:n<10
  ·rw [show af (n:Int) 10=true from decide_eq_true (by omega),decDigits_one h10,Jp h10];rfl
  ·rw [show af (n:Int) 10=false from decide_eq_false (by omega)]
   have e1:ay (Int.tdiv (n:Int) 10)=((n / 10:Nat):Int):=by
    rw [Int.tdiv_eq_ediv_of_nonneg (by omega),aO (by omega)];rfl
   have e2:Int.tmod (n:Int) 10=((n % 10:Nat):Int):=by
    rw [Int.tmod_eq_emod_of_nonneg (by omega)];rfl
   have hlt:n / 10<10 ^ (k+1):=by rw [Nat.pow_succ] at h;omega
   have hl:=MA k (n / 10) hlt
   rw [e1,e2,ih (n / 10) hlt (by omega) (by omega),Jp (n:=n % 10) (Nat.mod_lt _ (by decide))]
   have hs:Kv (aW (decDigits (n / 10))).size (aW [UInt8.ofNat (48+n % 10)]).size=true:=decide_eq_true (by rw [eL,eL];simp;omega)
   simp only [Bool.false_and,cond_false,Option.bind_some,hs,aa]
   rw [zY]
   conv=>rhs;rw [decDigits,dif_neg h10]
theorem aen {x:Int} {r:ByteArray} (h:aY x=some r):cb ii 30 x=some r:=by
 obtain ⟨h1,h2⟩:=cI h
 injection h2 with h2
 have h1:0≤x∧x≤9223372036854775807:=of_decide_eq_true h1
 obtain ⟨n,rfl⟩: ∃n:Nat,x=n:=⟨x.toNat,by omega⟩
 rw [aeo 29 n (by have:(10:Nat) ^ 20≤10 ^ 30:=Nat.pow_le_pow_right (by decide) (by decide);omega) (by omega) (by decide),←h2]
 simp
theorem aa7 {n:Nat} (h:n<9223372036854775808):aY (n:Int)=some (aW (decDigits n)):=by
 unfold aY
 rw [decide_eq_true (by omega),aa];simp
theorem Sj {n:Nat} (h:n<9223372036854775808):bH (n:Int)=some (aW (decDigits n)):=by
 unfold bH
 rw [decide_eq_true (by omega),aa,itoa_nonneg]
end Go.Proofs.YtjdlgannencchaaGreatDoor
