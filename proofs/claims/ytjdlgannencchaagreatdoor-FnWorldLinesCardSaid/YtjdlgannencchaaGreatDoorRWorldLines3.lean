/- Texts of the claim, one behind the other: Er, Es, Et, Eu, Ev, Opn, Ew, LnA, LnM, Shf, LnH, InsA, InsB, InsC, InsD, DaM, Pu, LnN. -/
import Derived.Lib.Split
import Derived.Lib.SplitLaws
import Derived.Lib.Join
import Derived.Lib.ItoaMem
import Derived.Shelf.Strings.BuilderK
import Derived.Shelf.Strings.OnBuilder
import Derived.Shelf.Strconv.Itoa3
import Derived.Shelf.Strings.Split
import Derived.Test.YtjdlgannencchaaGreatDoorProg
import Derived.Shelf.Spec.SlicesInsertGrow
import Derived.Shelf.Spec.SlicesInsert
import Derived.Test.YtjdlgannencchaaGreatDoorRWorldLines2
namespace Go.Proofs.YtjdlgannencchaaGreatDoor
open Go.ChangeShapes Go.WideShapes Go.ChangeAt Go.RowKit
set_option linter.unusedVariables false
set_option linter.unusedSimpArgs false
theorem Tu {k:RK} {v:PV} {a:k.ty} (h:k.get v=some a):k.put a=v:=by
 cases k with
 |int k=>
  cases v<;>simp only [RK.get,reduceCtorEq] at h
  rename_i k' x
  cases hb:(k==k') with
  |false=>rw [hb] at h;cases h
  |true=>
   rw [hb] at h;injection h with h;subst h
   have:k=k':=by simpa using hb
   subst this;rfl
 |b=>cases v<;>simp only [RK.get,reduceCtorEq] at h;injection h with h;subst h;rfl
 |s=>cases v<;>simp only [RK.get,reduceCtorEq] at h;injection h with h;subst h;rfl
 |al j=>cases v<;>simp only [RK.get,reduceCtorEq] at h;injection h with h;subst h;rfl
 |row E e=>
  cases v with
  |sl e' l=>obtain ⟨q,hq⟩:=jh h;subst q;dsimp only at hq;subst hq;rfl
  |_=>cases h
 |part e=>
  cases v with
  |sl e' l=>obtain ⟨q,hq⟩:=jh h;subst q;dsimp only at hq;subst hq;rfl
  |_=>cases h
section
variable {r:Rn} {s0 s s':Sy} {e0 e ec e':Env} {a:Act} {w:World} {X:List Asn}
theorem Uy (hW:Wf r s) {E:Nat} {k:EK} (l:List k.ty) (e:Env) (ad:Option Addr) (c:Nat):
 let s':Sy:= {s with n:=s.n+3,vs:=(s.n+2,.zl (s.n+1) l.length s.n)::s.vs,ct:=(s.n,⟨k,l,s.n,none⟩)::s.ct}
 Gr2 r s s'∧cb (e.up (s.n+1) 0 ad c) s' (.a (.t (s.n+2))) (.slice (UD (!(Nat.beq l.length 0)) ad) l.length (ME (!(Nat.beq l.length 0)) c))∧ij (e.up (s.n+1) 0 ad c) s'.vs s'.ct [(s.n+1,.row E s.n)]=some [.row E k.sz (.slice ad l.length c) l.length (l.flatMap k.enc)]∧tQ s.n s' [(s.n+1,.row E s.n)]:=by
 intro s'
 have Ex:Ext s s':=wK hW (fun t h=>oQ (by omega)) (fun t h=>oQ (by omega)) (by simp [s'])
 refine ⟨⟨Ex,hW.grow Ex (fun t x h=>?_) (fun t c h=>?_) (fun p hp=>.inl hp) rfl (fun t b h=>.inl h),rfl,rfl,rfl,rfl⟩,⟨by simp [SV1.den,Ax.lf,s',bg,Lf.den,Env.up],.zl (s.n+1) l.length s.n,bg,⟨_,bg,rfl⟩,fun g hg=>?_⟩,aG.2 ⟨_,[],?_,rfl,rfl⟩,fun p hp=>?_⟩
 ·rcases bd h with ⟨rfl,rfl⟩ |h
  ·exact .inr ⟨by simp [s'],nofun⟩
  ·exact .inl h
 ·rcases bd h with ⟨rfl,rfl⟩ |h
  ·exact .inr ⟨by simp [s'],⟨_,bg,rfl,rfl⟩,nofun⟩
  ·exact .inl h
 ·simp [Lf.gs] at hg;subst hg;simp [s']
 ·simp [Th.den,s',bg,Env.up,Ct.cells]
 ·simp only [List.mem_singleton] at hp;subst hp
  exact ⟨Nat.le_succ _,by simp [s'],trivial,nofun⟩
theorem ON (hW0:Wf r s0) (G:Gr2 r s0 s) (ha:dX s0.n e ec) {p:P0} {x0:Option Ax} {u:Value} {v rest:List PV} {A:List Asn} {f:In} (hp:VW s0 e p x0 u v A) (h:Qh s0 s p x0 (v++rest)=some f):
 f.vs=rest∧ ∃ec' x,dX s.n ec ec'∧Gr2 r s f.s∧f.xs=[x]∧cb ec' f.s (.a x) u∧ij ec' f.s.vs f.s.ct f.ts=some A∧tO s0 f.s f.ts:=by
 cases p with
 |k=>
  obtain ⟨⟨x,rfl,hd⟩,rfl,rfl⟩:=hp
  simp only [Qh,Option.map_some,Option.some.injEq] at h
  subst h
  exact ⟨rfl,ec,x,dX.refl _ _,.refl G.wf,rfl,(hd.agr ha).mono G.ext,rfl,tO.nil⟩
 |i ik=>
  obtain ⟨k,z,rfl,rfl,rfl⟩:=hp
  injection h with h;subst h
  obtain ⟨G1,D⟩:=vk (e:=ec) G.wf (x:=.int k z) rfl ⟨trivial,by simp [Lf.gs]⟩ rfl
  exact ⟨rfl,ec,_,dX.refl _ _,G1,rfl,D,rfl,tO.nil⟩
 |b=>
  obtain ⟨z,rfl,rfl,rfl⟩:=hp
  injection h with h;subst h
  obtain ⟨G1,D⟩:=vk (e:=ec) G.wf (x:=.bool z) rfl ⟨trivial,by simp [Lf.gs]⟩ rfl
  exact ⟨rfl,ec,_,dX.refl _ _,G1,rfl,D,rfl,tO.nil⟩
 |s=>
  obtain ⟨z,rfl,rfl,rfl⟩:=hp
  injection h with h;subst h
  obtain ⟨G1,D⟩:=vk (e:=ec) G.wf (x:=.str z) rfl ⟨trivial,by simp [Lf.gs]⟩ rfl
  exact ⟨rfl,ec,_,dX.refl _ _,G1,rfl,D,rfl,tO.nil⟩
 |r E k=>
  obtain ⟨v1,rfl,l,ad,c,rfl,rfl,rfl⟩:=hp
  injection h with h;subst h
  obtain ⟨d1,d2,d3⟩:=GT G.wf (E:=E) l false ec ad c
  exact ⟨rfl,_,_,rb (Nat.le_succ _),JF G.wf E k l l.length,rfl,d1,d2,d3.w⟩
 |w E k=>
  obtain ⟨l,x,g,n,rt,d,rfl,hx,hg,rfl,rfl,rfl,h1,h2,h3,h4⟩:=hp
  simp only [Qh,abT,List.cons_append,List.nil_append,hx,Option.some.injEq] at h
  subst h
  have G1:=RE (c:=⟨k,l,rt,none⟩) G.wf ⟨d,G.ext.c _ _ h1,h3,h4⟩ rfl
  have hh:=ha g hg
  refine ⟨rfl,ec,x,dX.refl _ _,G1,rfl,⟨?_,_,(G.ext.trans G1.ext).lf hx,⟨d,(G.ext.trans G1.ext).c _ _ h1,h2⟩,fun q hq=>?_⟩,aG.2 ⟨_,[],?_,rfl,rfl⟩,fun p hp=>?_⟩
  ·simp only [SV1.den,(G.ext.trans G1.ext).lf hx,Option.map_some,Lf.den,hh.2.1,hh.2.2.1,h2,h3]
  ·simp [Lf.gs] at hq;subst hq;exact Nat.lt_of_lt_of_le hg (G.ext.trans G1.ext).n
  ·have:lk ((s.n,(⟨k,l,rt,none⟩:Ct))::s.ct) s.n=some ⟨k,l,rt,none⟩:=bg
   simp only [Th.den,this,Option.map_some,Ct.cells,hh.2.1,hh.2.2.1]
  ·simp only [List.mem_singleton] at hp;subst hp
   exact .inr ⟨Nat.lt_of_lt_of_le hg (G.ext.trans G1.ext).n,trivial,nofun⟩
 |a j=>exact hp.elim
theorem GB (hW0:Wf r s0): ∀ {ps:List P0} {old:List Ax} {us:List Value} {v rest:List PV} {A:List Asn} {s:Sy} {ec:Env} {f:In},Gr2 r s0 s→dX s0.n e ec→Nw s0 e ps old us v A→Lq s0 s ps old (v++rest)=some f→
 f.vs=rest∧ ∃ec',dX s.n ec ec'∧Gr2 r s f.s∧cb ec' f.s (.g f.xs) (.agg us.toArray)∧ij ec' f.s.vs f.s.ct f.ts=some A∧tO s0 f.s f.ts
 | [],old,us,v,rest,A,s,ec,f,G,ha,hp,h=>by
  obtain ⟨rfl,rfl,rfl⟩:=hp
  injection h with h;subst h
  exact ⟨rfl,ec,dX.refl _ _,.refl G.wf,xL,rfl,tO.nil⟩
 |p::ps,old,us,v,rest,A,s,ec,f,G,ha,hp,h=>by
  obtain ⟨u,ur,v1,v2,A1,A2,rfl,rfl,rfl,h1,h2⟩:=hp
  simp only [Lq,List.append_assoc] at h
  split at h
  ·rename_i s1 x m vs1 hA
   split at h
   ·rename_i s2 xs ms vs2 hB
    injection h with h;subst h
    obtain ⟨a1,ec1,y,a2,a3,a4,a5,a6,a7⟩:=ON hW0 G ha h1 hA
    dsimp only at a1 a3 a4 a5 a6 a7
    subst a1;subst a4
    obtain ⟨b1,ec2,b2,b3,b4,b5,b6⟩:=GB hW0 (G.trans a3) (ha.trans (a2.le G.ext.n)) h2 hB
    dsimp only at b1 b3 b4 b5 b6
    subst b1
    exact ⟨rfl,ec2,a2.trans (b2.le a3.ext.n),a3.trans b3,rj ((a5.agr b2).mono b3.ext) b4,cP.2 ⟨A1,A2,zW hW0 (G.ext.trans a3.ext) a6 a7 b2 b3.ext,b5,rfl⟩,(a7.mono b3.ext).app b6⟩
   ·cases h
  ·cases h
theorem Vy (hW0:Wf r s0) (G:Gr2 r s0 s) (ha:dX s0.n e ec) {acc:List (Nat×SV)} (hacc: ∀k v,lk acc k=some v→kT ec s v (sl a k)) {d:Nat} {p:P1} {v rest:List PV} {A:List Asn} {q:Sy×SV×List (Nat×Th)×List PV} (hp:pcV s0 e a d p v A) (h:SG s0 s acc d (v++rest) p=some q):
 q.2.2.2=rest∧ ∃ec',dX s.n ec ec'∧Gr2 r s q.1∧kT ec' q.1 q.2.1 (sl a d)∧ij ec' q.1.vs q.1.ct q.2.2.1=some A∧tO s0 q.1 q.2.2.1:=by
 have plain: ∀ {p0:P0},VW s0 e p0 (Nu s0 d) (sl a d) v A→(match Qh s0 s p0 (match lk s0.sl d with |some (.v (.a x))=>some x |_=>none) (v++rest) with
  |some ⟨s1,[x],m,vs1⟩=>some (s1,SV.v (.a x),m,vs1)
  |_=>none)=some q→q.2.2.2=rest∧ ∃ec',dX s.n ec ec'∧Gr2 r s q.1∧kT ec' q.1 q.2.1 (sl a d)∧ij ec' q.1.vs q.1.ct q.2.2.1=some A∧tO s0 q.1 q.2.2.1:=by
  intro p0 hp h
  split at h
  ·rename_i s1 x m vs1 hA
   injection h with h;subst h
   obtain ⟨a1,ec1,y,a2,a3,a4,a5,a6,a7⟩:=ON hW0 G ha hp hA
   dsimp only at a1 a3 a4 a5 a6 a7
   injection a4 with a4 _;subst a4
   exact ⟨a1,ec1,a2,a3,a5,a6,a7⟩
  ·cases h
 cases p with
 |g ps=>
  obtain ⟨us,hu,hp⟩:=hp
  simp only [SG] at h
  split at h
  ·rename_i s1 xs m vs1 hA
   injection h with h;subst h
   obtain ⟨a1,ec1,a2,a3,a4,a5,a6⟩:=GB hW0 G ha hp hA
   dsimp only at a1 a3 a4 a5 a6
   exact ⟨a1,ec1,a2,a3,by rw [hu];exact a4,a5,a6⟩
  ·cases h
 |z E k=>
  obtain ⟨l,ad,c,rfl,hu,rfl⟩:=hp
  injection h with h;subst h
  obtain ⟨G1,d1,d2,d3⟩:=Uy G.wf (E:=E) l ec ad c
  exact ⟨rfl,_,rb (Nat.le_succ _),G1,by rw [hu];exact d1,d2,d3.w⟩
 |o p=>
  cases p with
  |k=>
   obtain ⟨rfl,rfl,v0,hv0,hd⟩:=hp
   simp only [SG,hv0,Option.map_some,Option.some.injEq] at h
   subst h
   exact ⟨rfl,ec,dX.refl _ _,.refl G.wf,(hd.agr ha).mono G.ext,rfl,tO.nil⟩
  |a j=>
   obtain ⟨rfl,rfl,he⟩:=hp
   simp only [SG,Option.map_eq_some_iff] at h
   obtain ⟨v0,hv0,h⟩:=h
   subst h
   exact ⟨rfl,ec,dX.refl _ _,.refl G.wf,by rw [he];exact hacc j v0 hv0,rfl,tO.nil⟩
  |i k=>exact plain (p0:=.i k) hp h
  |b=>exact plain (p0:=.b) hp h
  |s=>exact plain (p0:=.s) hp h
  |r E k=>exact plain (p0:=.r E k) hp h
  |w E k=>exact plain (p0:=.w E k) hp h
theorem Lt (hW0:Wf r s0): ∀ {l:List (Nat×P1)} {acc:List (Nat×SV)} {ts:List (Nat×Th)} {v rest:List PV} {A A0:List Asn} {s:Sy} {ec:Env} {f:InS},Gr2 r s0 s→dX s0.n e ec→(∀k v,lk acc k=some v→kT ec s v (sl a k))→ij ec s.vs s.ct ts=some A0→tO s0 s ts→YM s0 e a l v A→OP s0 s acc ts l (v++rest)=some f→
 f.vs=rest∧ ∃ec',dX s.n ec ec'∧Gr2 r s f.s∧(∀k v,lk f.sl k=some v→kT ec' f.s v (sl a k))∧ij ec' f.s.vs f.s.ct f.ts=some (A0++A)∧tO s0 f.s f.ts
 | [],acc,ts,v,rest,A,A0,s,ec,f,G,ha,hacc,ht,hnt,hp,h=>by
  obtain ⟨rfl,rfl⟩:=hp
  injection h with h;subst h
  exact ⟨rfl,ec,dX.refl _ _,.refl G.wf,hacc,by rw [List.append_nil];exact ht,hnt⟩
 |(d,p)::l,acc,ts,v,rest,A,A0,s,ec,f,G,ha,hacc,ht,hnt,hp,h=>by
  obtain ⟨v1,v2,A1,A2,rfl,rfl,h1,h2⟩:=hp
  simp only [OP,List.append_assoc] at h
  split at h
  ·rename_i s1 x m vs1 hV
   obtain ⟨a1,ec1,a2,a3,a4,a5,a6⟩:=Vy hW0 G ha hacc h1 hV
   dsimp only at a1 a3 a4 a5 a6
   subst a1
   obtain ⟨b1,ec2,b2,b3,b4,b5,b6⟩:=Lt hW0 (A0:=A0++A1) (G.trans a3) (ha.trans (a2.le G.ext.n)) (fun k v hk=>by
    rcases bd hk with ⟨rfl,rfl⟩ |hk
    ·exact a4
    ·exact ((hacc k v hk).agr a2).mono a3.ext) (cP.2 ⟨A0,A1,zW hW0 G.ext ht hnt a2 a3.ext,a5,rfl⟩) ((hnt.mono a3.ext).app a6) h2 h
   exact ⟨b1,ec2,a2.trans (b2.le a3.ext.n),a3.trans b3,b4,by rw [←List.append_assoc];exact b5,b6⟩
  ·cases h
theorem Ls (hW0:Wf r s0): ∀ {l:List (Nat×List P0)} {v rest:List PV} {A B:List Asn} {s:Sy} {ec:Env} {q:Sy×List (Nat×Th)×List (Nat×Th)×List PV},Gr2 r s0 s→dX s0.n e ec→YL s0 e l v A B→OO s0 s l (v++rest)=some q→
 q.2.2.2=rest∧ ∃ec',dX s.n ec ec'∧Gr2 r s q.1∧ij ec' q.1.vs q.1.ct q.2.1=some B∧ij ec' q.1.vs q.1.ct q.2.2.1=some A∧tO s0 q.1 q.2.1∧tO s0 q.1 q.2.2.1
 | [],v,rest,A,B,s,ec,q,G,ha,hp,h=>by
  obtain ⟨rfl,rfl,rfl⟩:=hp
  injection h with h;subst h
  exact ⟨rfl,ec,dX.refl _ _,.refl G.wf,rfl,rfl,tO.nil,tO.nil⟩
 |(d,ps)::l,v,rest,A,B,s,ec,q,G,ha,hp,h=>by
  obtain ⟨g,T,xs,us,v1,v2,A1,A2,Br,hg,hx,rfl,rfl,rfl,h1,h2⟩:=hp
  simp only [OO,hg,hx,List.append_assoc] at h
  split at h
  ·rename_i s1 ys m vs1 hA
   split at h
   ·rename_i s2 bs ms vs2 hB
    injection h with h;subst h
    obtain ⟨a1,ec1,a2,a3,a4,a5,a6⟩:=GB hW0 G ha h1 hA
    dsimp only at a1 a3 a4 a5 a6
    subst a1
    obtain ⟨b1,ec2,b2,b3,b4,b5,b6,b7⟩:=Ls hW0 (G.trans a3) (ha.trans (a2.le G.ext.n)) h2 hB
    dsimp only at b1 b3 b4 b5 b6 b7
    have hgn:g<s0.n:=(hW0.th _ (iQ hx)).1
    have dx:=(a4.agr b2).mono b3.ext
    refine ⟨b1,ec2,a2.trans (b2.le a3.ext.n),a3.trans b3,aG.2 ⟨_,Br,?_,b4,rfl⟩,cP.2 ⟨A1,A2,zW hW0 (G.ext.trans a3.ext) a5 a6 b2 b3.ext,b5,rfl⟩,fun p hp=>?_,(a6.mono b3.ext).app b7⟩
    ·have hb:ec2.b g=e.b g:=by
      rw [(b2 g (Nat.lt_of_lt_of_le hgn (Nat.le_trans G.ext.n a3.ext.n))).1,(a2 g (Nat.lt_of_lt_of_le hgn G.ext.n)).1,(ha g hgn).1]
     have:=dx.1
     simp only [SV1.den,Option.map_eq_some_iff,Value.agg.injEq] at this
     obtain ⟨ls,l1,l2⟩:=this
     simp only [Th.den,l1,Option.map_some,l2,hb]
    ·rcases List.mem_cons.1 hp with rfl |hp
     ·exact .inr ⟨Nat.lt_of_lt_of_le hgn (Nat.le_trans G.ext.n (Nat.le_trans a3.ext.n b3.ext.n)),dx.2,nofun⟩
     ·exact b6 p hp
   ·cases h
  ·cases h
theorem GD (hW0:Wf r s0): ∀ {l:List (Nat×P0)} {v rest:List PV} {A:List Asn} {s:Sy} {ec:Env} {q:Sy×List (Nat×Th)},Gr2 r s0 s→dX s0.n e ec→Ti s0 e l v A→EC s0 s l (v++rest)=some q→
 Gr2 r s q.1∧ij ec q.1.vs q.1.ct q.2=some A∧tO s0 q.1 q.2
 | [],v,rest,A,s,ec,q,G,ha,hp,h=>by
  obtain ⟨rfl,rfl⟩:=hp
  injection h with h;subst h
  exact ⟨.refl G.wf,rfl,tO.nil⟩
 |(j,p)::l,v,rest,A,s,ec,q,G,ha,hp,h=>by
  cases p with
  |k=>
   have h:EC s0 s l (v++rest)=some q:=by simpa only [EC] using h
   exact GD hW0 (rest:=rest) G ha (show Ti s0 e l v A from hp) h
  |r E k=>
   obtain ⟨ll,vr,A2,n0,c0,d,h1,h2,rfl,rfl,h3,h4,h5,h6⟩:=hp
   simp only [EC,List.cons_append,h1,h2] at h
   split at h
   ·rename_i s2 ms hB
    injection h with h;subst h
    have hj:j<s0.n:=(hW0.th _ (iQ h1)).1
    have G1:=RE (c:=⟨k,ll,c0.rt,none⟩) G.wf ⟨d,G.ext.c _ _ h3,h4,h5⟩ rfl
    obtain ⟨b1,b2,b3⟩:=GD hW0 (rest:=rest) (G.trans G1) ha h6 hB
    dsimp only at b1 b2 b3
    have hh:=ha j hj
    refine ⟨G1.trans b1,aG.2 ⟨_,A2,?_,b2,rfl⟩,fun p hp=>?_⟩
    ·have:=b1.ext.c s.n _ bg
     simp only [Th.den,this,Option.map_some,Ct.cells,hh.2.1,hh.2.2.1]
    ·rcases List.mem_cons.1 hp with rfl |hp
     ·exact .inr ⟨Nat.lt_of_lt_of_le hj (Nat.le_trans G.ext.n (Nat.le_trans G1.ext.n b1.ext.n)),trivial,nofun⟩
     ·exact b3 p hp
   ·cases h
  |i _=>exact hp.elim
  |b=>exact hp.elim
  |s=>exact hp.elim
  |w _ _=>exact hp.elim
  |a _=>exact hp.elim
def Oc (r:Rn) (s0:Sy) (e0:Env) (h:Shp) (a:Act) (w:World) (p:h.T):Prop:= ∀s2,ins s0 h (OS s0 h) (Dp RK.put h.ks p)=some s2→ ∃e2,Ext s0 s2∧dX s0.n e0 e2∧Inv r e2 a w s2
theorem DT: ∀ {l seen:List Nat} {x:Nat},x∈KR l seen→x∈l
 | [],seen,x,h=>by cases h
 |y::l,seen,x,h=>by
  simp only [KR] at h
  cases hb:seen.any (Nat.beq y) with
  |true=>rw [hb] at h;exact List.mem_cons_of_mem _ (DT h)
  |false=>
   rw [hb] at h
   rcases List.mem_cons.1 h with rfl |h
   ·simp
   ·exact List.mem_cons_of_mem _ (DT h)
theorem LE: ∀ {a b:List Nat},GN a b=true→a=b
 | [],[],_=>rfl
 |x::a,y::b,h=>by
  simp only [GN,Bool.and_eq_true] at h
  rw [kX h.1,LE h.2]
 | [],_::_,h=>by cases h
 |_::_,[],h=>by cases h
theorem nJ: ∀(l:List Nat),(l.map some).filterMap id=l
 | []=>rfl
 |x::l=>by simp [nJ l]
theorem Om {R:Type} {m:Option R} {y:R}: ∀ {l:List Bool},Xx l m=some y→(∀b∈l,b=true)∧m=some y
 | [],h=>⟨nofun,h⟩
 |b::l,h=>by
  cases b with
  |false=>cases h
  |true=>
   obtain ⟨h1,h2⟩:=Om (l:=l) h
   exact ⟨fun c hc=>by rcases List.mem_cons.1 hc with rfl |hc; · rfl
                       ·exact h1 c hc,h2⟩
theorem Hu (J:Jn r s0 e0 a w s e) {hh:Shp} {R:Type} {f:hh.T→Option R} {y:R} (h:HZ s0 s hh f=some y): ∃p,f p=some y∧Oc r s0 e0 hh a w p:=by
 unfold HZ at h
 split at h
 ·rename_i en hen
  cases hb:(WP en (Zy hh.pr)&&GN en.kept (OS s0 hh)) with
  |false=>rw [hb] at h;cases h
  |true=>
   rw [hb] at h
   simp only [cond_true] at h
   simp only [Bool.and_eq_true] at hb
   split at h
   ·rename_i p hp
    obtain ⟨hz,h⟩:=Om h
    refine ⟨p,h,fun s2 h2=>?_⟩
    rw [Kp (put:=RK.put) (fun k v a h=>Tu h) hp] at h2
    unfold wit at hen
    split at hen
    ·rename_i v1 i1 g1 v2 i2 g2 bs v3 g3 q1 q2 q3
     injection hen with hen;subst hen
     dsimp only at hb h2 hp
     obtain ⟨A1,a1,a2,a3⟩:=J.endSl q1 hz
     obtain ⟨A2,B,b1,b2,b3,b4⟩:=J.endBx q2
     obtain ⟨A3,c1,c2,c3⟩:=J.endPr q3
     have hkept:=LE hb.2
     rw [←hkept] at h2
     -- what is kept
     have hk: ∀g∈OR s0 (g1++(g2++g3)),∃x,lk s0.th g=some x∧lk s.th g=some x:=by
      intro g hg
      have hg:=List.mem_filter.1 hg
      have hm:=DT hg.1
      have hs:fJ (lk s0.th g) (lk s.th g)=true:=by
       rcases List.mem_append.1 hm with hm |hm
       ·exact a3 g hm
       ·rcases List.mem_append.1 hm with hm |hm
        ·exact b4 g hm
        ·exact c3 g hm
      cases h0:lk s0.th g with
      |none=>rw [h0] at hg;cases hg.2
      |some x=>
       rw [h0] at hs hg
       cases h1:lk s.th g with
       |none=>rw [h1] at hs;cases x<;>cases hs
       |some x'=>
        rw [h1] at hs
        refine ⟨x,rfl,?_⟩
        cases x with
        |box T cs=>cases hg.2
        |row E c=>
         cases x'<;>simp only [fJ,Bool.false_eq_true] at hs
         simp only [Bool.and_eq_true] at hs
         rw [kX hs.1,kX hs.2]
        |part c=>
         cases x'<;>simp only [fJ,Bool.false_eq_true] at hs
         rw [kX hs]
        |kp c=>
         cases x'<;>simp only [fJ,Bool.false_eq_true] at hs
         rw [kX hs]
     generalize OR s0 (g1++(g2++g3))=kp at hb h2 hk
     obtain ⟨L,hL,hS⟩:=J.I.st
     obtain ⟨L0,hL0⟩:=J.dn0
     obtain ⟨L0',hL0'⟩:=FG (e:=e) hL0
     obtain ⟨K,hK,hKi⟩: ∃K,ij e s0.vs s0.ct (pk s0.th kp)=some K∧jU s e (kp.map some) K:=by
      clear hb h2
      induction kp with
      |nil=>exact ⟨[],rfl,rfl⟩
      |cons g kp ih=>
       obtain ⟨K,k1,k2⟩:=ih fun g hg=>hk g (by simp [hg])
       obtain ⟨x,x1,x2⟩:=hk g (by simp)
       obtain ⟨yd,_,hy,_,_⟩:=py hL0' x1
       refine ⟨yd::K,?_,yd,K,x,rfl,x2,⟨yd,Th.den_mono J.E hy,ze.refl _⟩,k2⟩
       simp only [pk,x1]
       exact aG.2 ⟨yd,K,hy,k1,rfl⟩
     have hids:=(a2.app b2).app (hKi.app (b3.app c2))
     have hnd:bX (((i1++i2)++(kp.map some++(bs.map some++(Zy hh.pr).map some))).filterMap id)=true:=by
      rw [List.filterMap_append,List.filterMap_append (l:=kp.map some),List.filterMap_append (l:=bs.map some),nJ,nJ,nJ]
      exact hb.1
     have hSt:=St.ids hL hS hids hnd
     -- the new state
     unfold ins at h2
     split at h2
     ·rename_i s1 slN m1 vs1 hI1
      split at h2
      ·rename_i s2' bs' m2 vs2 hI2
       split at h2
       ·rename_i s3 m3 hI3
        injection h2 with h2
        have G0:Gr2 r s0 s0:=.refl J.w0
        obtain ⟨p1,ec1,p2,p3,p4,p5,p6⟩:=Lt (A0:=[]) J.w0 G0 (dX.refl s0.n e) (fun k v hk=>by cases hk) rfl tO.nil a1 hI1
        dsimp only at p1 p3 p4 p5 p6
        subst p1
        obtain ⟨r1,ec2,r2,r3,r4,r5,r6,r7⟩:=Ls J.w0 p3 p2 b1 hI2
        dsimp only at r1 r3 r4 r5 r6 r7
        subst r1
        have hI3':EC s0 s2' hh.pr (vs2++ [])=some (s3,m3):=by rw [List.append_nil];exact hI3
        obtain ⟨t1,t2,t3⟩:=GD J.w0 (p3.trans r3) (p2.trans (r2.le p3.ext.n)) c1 hI3'
        dsimp only at t1 t2 t3
        have Gt:=(p3.trans r3).trans t1
        have hag:dX s0.n e ec2:=p2.trans (r2.le p3.ext.n)
        subst h2
        have E2:Ext s3 {s3 with sl:=slN,th:=m1++(m2++(pk s0.th kp++(bs'++m3))),kn:=[]}:=⟨fun _ _ h=>h,fun _ _ h=>h,Nat.le_refl _⟩
        have hntk:tO s0 s3 (pk s0.th kp):=fun p hp=>by
         left
         have: ∀ {gs:List Nat},p∈pk s0.th gs→p∈s0.th:=by
          intro gs
          induction gs with
          |nil=>intro h;cases h
          |cons g gs ih=>
           intro h
           simp only [pk] at h
           split at h
           ·rename_i x hx
            rcases List.mem_cons.1 h with rfl |h
            ·exact iQ hx
            ·exact ih h
           ·exact ih h
         exact this hp
        have hntall:tO s0 s3 (m1++(m2++(pk s0.th kp++(bs'++m3)))):=(p6.mono (r3.ext.trans t1.ext)).app ((r7.mono t1.ext).app (hntk.app ((r6.mono t1.ext).app t3)))
        refine ⟨ec2,Gt.ext.trans E2,J.A.trans hag,J.I.size,J.I.df,fun k v hk=>?_,⟨(A1++A2)++(K++(B++A3)),?_,hSt⟩,?_,(J.I.par.trans (dX.le (fun g hg=>hag g hg) J.w0.np))⟩
        ·exact ((((p4 k v hk).agr r2).mono r3.ext).mono t1.ext).mono E2
        ·rw [List.append_assoc]
         refine cP.2 ⟨A1,_,?_,cP.2 ⟨A2,_,eJ t1.ext r5,cP.2 ⟨K,_,?_,cP.2 ⟨B,A3,eJ t1.ext r4,t2,rfl⟩,rfl⟩,rfl⟩,rfl⟩
         ·exact zW (s':=s3) J.w0 p3.ext (by simpa using p5) p6 r2 (r3.ext.trans t1.ext)
         ·exact zW (s':=s3) J.w0 (.refl _) hK (fun p hp=>by
           rcases hntk p hp with h |h
           ·exact .inl h
           ·exact .inl (by
             have: ∀ {gs:List Nat},p∈pk s0.th gs→p∈s0.th:=by
              intro gs
              induction gs with
              |nil=>intro h;cases h
              |cons g gs ih=>
               intro h
               simp only [pk] at h
               split at h
               ·rename_i x hx
                rcases List.mem_cons.1 h with rfl |h
                ·exact iQ hx
                ·exact ih h
               ·exact ih h
             exact this hp)) hag Gt.ext
        ·refine Gt.wf.grow E2 (fun t x h=>.inl h) (fun t c h=>.inl h) (fun p hp=>?_) rfl (fun t b h=>by cases h)
         rw [Gt.th]
         exact (hntall p hp).imp id fun h=>⟨h.1,h.2.1.mono E2,h.2.2⟩
       ·cases h2
      ·cases h2
     ·cases h2
    ·cases hen
   ·cases h
 ·cases h
end
section
variable {P:Program} {G:Cx} {F:Sg} {r:Rn} {sI s s':Sy} {e e':Env} {a:Act} {w:World}
theorem SH (I:Inv r e a w s) {q:Nat} {b:Bool} (h:lk s.vs q=some (.bool b)):Inv r e a w (Fh s q b):=
 ⟨I.size,I.df,fun k v hk=>(I.slot k v hk).mono (wJ s q b),I.st,IY I.wf h,I.par⟩
theorem Ft (I:Inv r e a w s) {e2:Env} {a2:Act} {w2:World} {s2:Sy} (E:Ext s s2) (A:dX s.n e e2) (I2:Inv r e2 a2 w2 s2):Jn r s e a2 w2 s2 e2:=
 ⟨I.wf,fun k v hk=>⟨_,I.slot k v hk⟩,by obtain ⟨L,h,_⟩:=I.st;exact ⟨L,h⟩,E,A,I2⟩
theorem Jv {h:Shp} {R:Type} {y:R} {p:h.T} {f:Sy→Option R} (hJ:Oc r s e h a w p) (hk:GC s h p f=some y): ∃s2 e2,f s2=some y∧Ext s s2∧dX s.n e e2∧Inv r e2 a w s2:=by
 unfold GC at hk
 split at hk
 ·rename_i s2 h2
  obtain ⟨e2,h3,h4,h5⟩:=hJ s2 h2
  exact ⟨s2,e2,hk,h3,h4,h5⟩
 ·cases hk
theorem Qb {R Rf:Type} {K:Kt R Rf} {h:Shp} {l:List Alt} {p:h.T}:Oy s K h l (abS l p)=GC s h p K.nrm:=by cases l<;>rfl
theorem Ir {R Rf:Type} {K:Kt R Rf} {h:Shp} {l:List Alt} {q:JQ Rf l} {z:RF Rf h l} (hz:Yi l q=some z):Oy s K h l z=Is s K l q:=by
 cases l with
 |nil=>cases hz
 |cons a l=>injection hz with hz;subst hz;rfl
theorem Od {R Rf:Type} {K:Kt R Rf} {y:R}: ∀ {l:List Alt} {f:Rf} {q:JQ Rf l},UK l f=some q→Is s K l q=some y→K.rt f=some y
 | [],f,q,h,_=>by cases h
 | [.rt],f,q,h,h2=>by injection h with h;subst h;exact h2
 | [.ex _ _],f,q,h,_=>by cases h
 | .rt::b::l,f,q,h,h2=>by injection h with h;subst h;exact h2
 | .ex i hh::b::l,f,q,h,h2=>by
  simp only [UK,Option.map_eq_some_iff] at h
  obtain ⟨q',h3,rfl⟩:=h
  exact Od (l:=b::l) h3 h2
theorem Jc {R Rf:Type} {K:Kt R Rf} {y:R} {s2:Sy} {e2:Env} {a2:Act} {w2:World} (J:Jn r s e a2 w2 s2 e2) {i:Nat}: ∀ {l:List Alt} {q:JQ Rf l},MM s i s2 l=some q→Is s K l q=some y→ ∃h,∃p:Shp.T h,Oc r s e h a2 w2 p∧GC s h p (K.ex i)=some y
 | [],q,h,_=>by cases h
 | [.rt],q,h,_=>by cases h
 | [.ex j hh],q,h,h2=>by
  simp only [MM] at h
  cases hb:Nat.beq i j with
  |false=>rw [hb] at h;cases h
  |true=>
   rw [hb] at h
   have:=kX hb;subst this
   obtain ⟨p,h3,h4⟩:=Hu J h
   injection h3 with h3;subst h3
   exact ⟨hh,p,h4,h2⟩
 | .rt::b::l,q,h,h2=>by
  simp only [MM,Option.map_eq_some_iff] at h
  obtain ⟨q',h3,rfl⟩:=h
  exact Jc J (l:=b::l) h3 h2
 | .ex j hh::b::l,q,h,h2=>by
  simp only [MM] at h
  cases hb:Nat.beq i j with
  |true=>
   rw [hb] at h
   have:=kX hb;subst this
   obtain ⟨p,h3,h4⟩:=Hu J h
   injection h3 with h3;subst h3
   exact ⟨hh,p,h4,h2⟩
  |false=>
   rw [hb] at h
   simp only [cond_false,Option.map_eq_some_iff] at h
   obtain ⟨q',h3,rfl⟩:=h
   exact Jc J (l:=b::l) h3 h2
theorem Pg {α β:Type} {x:Option α} {f:α→Option β} {y:β} (h:YF x f=some y): ∃a,x=some a∧f a=some y:=by
 cases x with
 |none=>cases h
 |some a=>exact ⟨a,rfl,h⟩
theorem abr (hm:P.follows .mixedOrders=true) (hQ:GQ P G) (hn0:F.n=r.n) (FS:F.R→Act→World→Prop)
 (hfin: ∀ {R:Type} {y:R} {k:F.R→Option R} {s:Sy} {e:Env} {a:Act} {w:World},Ext sI s→Inv r e a w s→RX G F s k=some y→ ∃f,k f=some y∧FS f a w):
 ∀(t:Crt) {R:Type} (c:Code) (K:Kt R F.R) (s:Sy) (y:R) (e:Env) (a:Act) (w:World) (Q:Exit→Act→World→Prop),ex G F t c K s=some y→Ext sI s→Inv r e a w s→
  (∀s' e' a' w',Ext s s'→dX s.n e e'→K.nrm s'=some y→Inv r e' a' w' s'→Q .normal a' w')→
  (∀i s' e' a' w',Ext s s'→dX s.n e e'→K.ex i s'=some y→Inv r e' a' w' s'→Q (.exit i) a' w')→
  (∀f a' w',K.rt f=some y→FS f a' w'→Q .ret a' w')→c.wp P Q a w:=by
 intro t
 induction t with
 |z=>
  intro R c K s y e a w Q h hE I hn hx hr
  cases c with
  |skip=>exact wp_skip (hn s e a w (.refl _) (dX.refl _ _) h I)
  |label l=>exact wp_label (hn s e a w (.refl _) (dX.refl _ _) h I)
  |ret=>
   obtain ⟨f,h1,h2⟩:=hfin hE I h
   exact wp_ret (hr f a w h1 h2)
  |exit i=>exact wp_exit (hx i s e a w (.refl _) (dX.refl _ _) h I)
  |region id ops dr=>
   simp only [ex,hn0] at h
   exact YS hm hQ I h hn
  |_=>simp [ex] at h
 |q t1 t2 ih1 ih2=>
  intro R c K s y e a w Q h hE I hn hx hr
  cases c with
  |seq x1 x2=>
   refine wp_seq (ih1 x1 ⟨fun s=>ex G F t2 x2 K s,K.ex,K.rt⟩ s y e a w _ h hE I (fun s' e' a' w' E1 A1 h1 I1=>?_) (fun i s' e' a' w' E1 A1 h1 I1=>hx i s' e' a' w' E1 A1 h1 I1) (fun f a' w' h1 h2=>hr f a' w' h1 h2))
   exact ih2 x2 K s' y e' a' w' Q h1 (hE.trans E1) I1 (fun s2 e2 a2 w2 E2 A2=>hn s2 e2 a2 w2 (E1.trans E2) (A1.trans (A2.le E1.n))) (fun i s2 e2 a2 w2 E2 A2=>hx i s2 e2 a2 w2 (E1.trans E2) (A1.trans (A2.le E1.n))) hr
  |cond o x1 x2=>
   cases o with
   |tmp k=>
    simp only [ex] at h
    split at h
    ·rename_i v hv
     have hd:cb e s (.a v) (sl a k):=I.slot k _ hv
     obtain ⟨z,hz,hzk⟩:=hd.2
     have hden:z.den e=sl a k:=by have:=hd.1;simpa [SV1.den,hz] using this
     split at h
     ·rename_i hdec
      have hb:=MX I.wf hz hdec
      refine wp_cond_true (jW (by rw [←hden,nB hb])) ?_
      exact ih1 x1 K s y e a w Q h hE I hn hx hr
     ·rename_i hdec
      have hb:=MX I.wf hz hdec
      refine wp_cond_false (jW (by rw [←hden,nB hb])) ?_
      exact ih2 x2 K s y e a w Q h hE I hn hx hr
     ·split at h
      ·rename_i n _
       have hval: ∀ {q:Nat} {u v:Bool},inn s.vs 5 n=some (q,u,v)→sl a k= .bool (uU u v)∧lk s.vs q=some (.bool u):=by
        intro q u v hi
        obtain ⟨h1,h2⟩:=tH I.wf hi
        rw [Ih hz] at h2
        exact ⟨by rw [←hden,nB h2],h1⟩
       have go1: ∀ {q:Nat} {u:Bool},lk s.vs q=some (.bool u)→ex G F t1 x1 K (Fh s q u)=some y→x1.wp P Q a w:=fun hq h=>
        ih1 x1 K (Fh s _ _) y e a w Q h (hE.trans (wJ _ _ _)) (SH I hq) (fun s2 e2 a2 w2 E2 A2=>hn s2 e2 a2 w2 ((wJ _ _ _).trans E2) A2) (fun i s2 e2 a2 w2 E2 A2=>hx i s2 e2 a2 w2 ((wJ _ _ _).trans E2) A2) hr
       have go2: ∀ {q:Nat} {u:Bool},lk s.vs q=some (.bool u)→ex G F t2 x2 K (Fh s q u)=some y→x2.wp P Q a w:=fun hq h=>
        ih2 x2 K (Fh s _ _) y e a w Q h (hE.trans (wJ _ _ _)) (SH I hq) (fun s2 e2 a2 w2 E2 A2=>hn s2 e2 a2 w2 ((wJ _ _ _).trans E2) A2) (fun i s2 e2 a2 w2 E2 A2=>hx i s2 e2 a2 w2 ((wJ _ _ _).trans E2) A2) hr
       split at h
       ·rename_i q u hi
        obtain ⟨v1,v2⟩:=hval hi
        cases u with
        |true=>exact wp_cond_true (jW v1) (go1 v2 h)
        |false=>exact wp_cond_false (jW v1) (go2 v2 h)
       ·rename_i q u hi
        obtain ⟨v1,v2⟩:=hval hi
        cases u with
        |true=>exact wp_cond_false (jW v1) (go2 v2 h)
        |false=>exact wp_cond_true (jW v1) (go1 v2 h)
       ·cases h
      ·cases h
    ·cases h
   |_=>simp [ex] at h
  |_=>simp [ex] at h
 |b t1 ih=>
  intro R c K s y e a w Q h hE I hn hx hr
  cases c with
  |block i x=>
   refine wp_block (ih x ⟨K.nrm,fun j s=>bif Nat.beq j i then K.nrm s else K.ex j s,K.rt⟩ s y e a w _ h hE I (fun s' e' a' w' E1 A1 h1 I1=>hn s' e' a' w' E1 A1 h1 I1) (fun j s' e' a' w' E1 A1 h1 I1=>?_) (fun f a' w' h1 h2=>hr f a' w' h1 h2))
   cases hb:Nat.beq j i with
   |true=>
    have:=kX hb;subst this
    simp only [hb,cond_true] at h1
    exact Yg (hn s' e' a' w' E1 A1 h1 I1)
   |false=>
    simp only [hb,cond_false] at h1
    exact Vw hb (hx j s' e' a' w' E1 A1 h1 I1)
  |_=>simp [ex] at h
 |lp hh t1 ih=>
  intro R c K s y e a w Q h hE I hn hx hr
  cases c with
  |loop x=>
   simp only [ex] at h
   obtain ⟨p0,h1,h2⟩:=Hu (Ft I (.refl s) (dX.refl _ _) I) h
   refine VG (fun m a' w'=> ∃p,de (fun rec p=>GC s hh p fun s1=>ex G F t1 x ⟨fun s2=>HZ s s2 hh rec,K.ex,K.rt⟩ s1) m p=some y∧Oc r s e hh a' w' p) aq ⟨p0,h1,h2⟩ ?_
   rintro m a1 w1 ⟨p,h3,h4⟩
   cases m with
   |zero=>cases h3
   |succ m=>
    obtain ⟨s1,e1,h5,E1,A1,I1⟩:=Jv h4 h3
    refine ih x ⟨fun s2=>HZ s s2 hh (de (fun rec p=>GC s hh p fun s1=>ex G F t1 x ⟨fun s2=>HZ s s2 hh rec,K.ex,K.rt⟩ s1) m),K.ex,K.rt⟩ s1 y e1 a1 w1 _ h5 (hE.trans E1) I1 (fun s2 e2 a2 w2 E2 A2 h6 I2=>?_) (fun i s2 e2 a2 w2 E2 A2 h6 I2=>hx i s2 e2 a2 w2 (E1.trans E2) (A1.trans (A2.le E1.n)) h6 I2) (fun f a2 w2 h6 h7=>hr f a2 w2 h6 h7)
    obtain ⟨p',h7,h8⟩:=Hu (Ft I (E1.trans E2) (A1.trans (A2.le E1.n)) I2) h6
    exact ⟨m,Nat.lt_succ_self m,p',h7,h8⟩
  |_=>simp [ex] at h
 |cut hh l t1 ih=>
  intro R c K s y e a w Q h hE I hn hx hr
  have h:Option.bind (ex G F t1 c (Nm s hh l) s) (Oy s K hh l)=some y:=by
   cases c<;>simpa only [ex] using h
  obtain ⟨z,h1,h2⟩:=uW h
  refine ih c (Nm s hh l) s z e a w Q h1 hE I (fun s' e' a' w' E1 A1 h3 I1=>?_) (fun i s' e' a' w' E1 A1 h3 I1=>?_) (fun f a' w' h3 h4=>?_)
  ·obtain ⟨p,h4,h5⟩:=Hu (Ft I E1 A1 I1) h3
   injection h4 with h4;subst h4
   rw [Qb] at h2
   obtain ⟨s2,e2,h6,E2,A2,I2⟩:=Jv h5 h2
   exact hn s2 e2 a' w' E2 A2 h6 I2
  ·obtain ⟨q,h4,h5⟩:=Pg h3
   rw [Ir h5] at h2
   obtain ⟨h',p,h6,h7⟩:=Jc (Ft I E1 A1 I1) h4 h2
   obtain ⟨s2,e2,h8,E2,A2,I2⟩:=Jv h6 h7
   exact hx i s2 e2 a' w' E2 A2 h8 I2
  ·obtain ⟨q,h5,h6⟩:=Pg h3
   rw [Ir h6] at h2
   exact hr f a' w' (Od h5 h2) h4
end
structure Ini (r:Rn) (s:Sy) (i j:Nat) (args:List Value) (L:List Asn) (v0:List PV):Prop where
 wf:Wf r s
 ct: ∀t c,lk s.ct t=some c→t<j
 jp:j<PB
 sl: ∀k v,lk s.sl k=some v→k<i∧ ∃u,args[k]?=some u∧kT r.e0 s v u
 th: ∃L',ij r.e0 s.vs s.ct s.th=some L'∧L'.Perm L
 v0: ∀q k l,dW v0 q=some (.sl k l)→q<j→lk s.ct q=some ⟨k,l,q,none⟩
section
variable {r:Rn} {s s':Sy} {L:List Asn} {args:List Value} {v0:List PV}
theorem Ini.grow {i j:Nat} (I:Ini r s i j args L v0) (G:Gr2 r s s') (hc:s'.ct=s.ct) (hj:j+1<PB) (hv: ∀k l,dW v0 j≠some (.sl k l)):Ini r s' i (j+1) args L v0:=by
 refine ⟨G.wf,fun t c h=>?_,hj,fun k v h=>?_,?_,fun q k l hq hlt=>?_⟩
 ·rw [hc] at h;exact Nat.lt_succ_of_lt (I.ct t c h)
 ·rw [G.sl] at h;obtain ⟨a,u,b,c⟩:=I.sl k v h;exact ⟨a,u,b,c.mono G.ext⟩
 ·obtain ⟨L',a,b⟩:=I.th;exact ⟨L',by rw [G.th];exact eJ G.ext a,b⟩
 ·rw [hc]
  rcases Nat.lt_or_ge q j with h |h
  ·exact I.v0 q k l hq h
  ·obtain rfl:q=j:=by omega
   exact absurd hq (hv k l)
theorem Vx {i j:Nat} {k:PK} {v:PV} (I:Ini r s i j args L v0) (hp:Lw r.w0 r.X r.e0 j k v) (hv:dW v0 j=some v) (hj:j+1<PB):Ini r (Ju s j k v).1 i (j+1) args (IC r.e0 j k v++L) v0∧Ext s (Ju s j k v).1∧(Ju s j k v).1.sl=s.sl∧cb r.e0 (Ju s j k v).1 (.a (Ju s j k v).2) (Dv r.e0 j v):=by
 have one: ∀ {x:Lf} {u:Value},uM x=true→x.Ok s→x.den r.e0=u→(∀kk l,v≠ .sl kk l)→Ini r (nw s x) i (j+1) args L v0∧Ext s (nw s x)∧(nw s x).sl=s.sl∧cb r.e0 (nw s x) (.a (.t s.n)) u:=by
  intro x u h1 h2 h3 h4
  obtain ⟨G,D⟩:=vk (e:=r.e0) I.wf h1 h2 h3
  exact ⟨I.grow G rfl hj (fun kk l h=>h4 kk l (by rw [hv] at h;injection h)),G.ext,rfl,D⟩
 cases k with
 |int k=>
  obtain ⟨k',x,rfl⟩:=hp
  exact one (x:=.int k' x) rfl ⟨trivial,by simp [Lf.gs]⟩ rfl (fun _ _=>nofun)
 |b=>
  obtain ⟨x,rfl⟩:=hp
  exact one (x:=.bool x) rfl ⟨trivial,by simp [Lf.gs]⟩ rfl (fun _ _=>nofun)
 |s=>
  obtain ⟨x,rfl⟩:=hp
  exact one (x:=.str x) rfl ⟨trivial,by simp [Lf.gs]⟩ rfl (fun _ _=>nofun)
 |sl m E kk=>
  obtain ⟨l,rfl,hm⟩:=hp
  have hjn:j<s.n:=Nat.lt_of_lt_of_le (Nat.lt_of_lt_of_le I.jp (by decide)) I.wf.np
  have hjP:j<NP:=Nat.lt_of_lt_of_le I.jp (by decide)
  have hfr: ∀t,t<j→t≠j:=fun t h=>by omega
  -- whatever the thing is
  have gen: ∀(th:List (Nat×Th)) (ro:List (Nat×Nat)) (T:List Asn),(∀p∈th,p∈s.th∨p.1=j∧((p.2= .row E j)∨(p.2= .kp j∧ ∀u,(r.e0.y j).holds u→Rc u kk.sz (r.e0.a j) l.length (r.e0.c j) (l.flatMap kk.enc))))→
   (∀g t,lk ro g=some t→lk s.ro g=some t∨(g=j∧t=j∧ ∀u L,St r.w0 u L→(∀y∈r.X,y∈L)→Rc u kk.sz (r.e0.a j) l.length (r.e0.c j) (l.flatMap kk.enc)))→
   (∀L' vs ct,lk ct j=some ⟨kk,l,j,none⟩→ij r.e0 vs ct s.th=some L'→ ∃L2,ij r.e0 vs ct th=some L2∧L2.Perm (T++L'))→
   let s2:Sy:= {s with n:=s.n+1,vs:=(s.n,.sl j l.length j)::s.vs,ct:=(j,⟨kk,l,j,none⟩)::s.ct,th:=th,ro:=ro}
   Ini r s2 i (j+1) args (T++L) v0∧Ext s s2∧s2.sl=s.sl∧cb r.e0 s2 (.a (.t s.n)) (.slice (r.e0.a j) l.length (r.e0.c j)):=by
   intro th ro T hth hro hT s2
   have E1:Ext s s2:=⟨fun t x h=>by rw [show s2.vs=(s.n,.sl j l.length j)::s.vs from rfl,oQ (by have:=I.wf.vn t x h;omega)];exact h,fun t c h=>by rw [show s2.ct=(j,⟨kk,l,j,none⟩)::s.ct from rfl,oQ (hfr t (I.ct t c h))];exact h,by simp [s2]⟩
   have hcj:lk s2.ct j=some ⟨kk,l,j,none⟩:=bg
   have W:Wf r s2:=by
    refine ⟨fun t x h=>?_,fun t c h=>?_,fun t m x h=>?_,fun t c h=>?_,fun t c h l0 it y0 hs=>?_,fun p hp=>?_,fun g ct hp=>?_,fun g t h=>?_,fun t b h=>?_,Nat.le_trans I.wf.np E1.n⟩
    ·rcases bd h with ⟨rfl,rfl⟩ |h
     ·simp [s2]
     ·exact Nat.lt_of_lt_of_le (I.wf.vn t x h) E1.n
    ·rcases bd h with ⟨rfl,rfl⟩ |h
     ·exact Nat.lt_of_lt_of_le hjn E1.n
     ·exact Nat.lt_of_lt_of_le (I.wf.cn t c h) E1.n
    ·rcases bd h with ⟨rfl,hx⟩ |h
     ·cases hx
     ·exact E1.bo (I.wf.nb t m x h)
    ·rcases bd h with ⟨rfl,rfl⟩ |h
     ·exact ⟨_,hcj,rfl,rfl⟩
     ·obtain ⟨d,a,b⟩:=I.wf.rt t c h;exact ⟨d,E1.c _ _ a,b⟩
    ·rcases bd h with ⟨rfl,rfl⟩ |h
     ·cases hs
     ·obtain ⟨k,ix,a,b⟩:=I.wf.si t c h l0 it y0 hs;exact ⟨k,ix,E1.v _ _ a,b⟩
    ·rcases hth p hp with h |⟨h1,h2⟩
     ·exact ⟨Nat.lt_of_lt_of_le (I.wf.th p h).1 E1.n,(I.wf.th p h).2.mono E1⟩
     ·refine ⟨by rw [h1];exact Nat.lt_of_lt_of_le hjn E1.n,?_⟩
      rcases h2 with h2 |⟨h2,_⟩<;>rw [h2]<;>trivial
    ·rcases hth _ hp with h |⟨h1,h2⟩
     ·obtain ⟨a,c,b,d⟩:=I.wf.kp g ct h;exact ⟨a,c,E1.c _ _ b,d⟩
     ·dsimp only at h1 h2
      subst h1
      rcases h2 with h2 |⟨h2,h3⟩
      ·cases h2
      ·injection h2 with h2;subst h2
       exact ⟨hjP,_,hcj,h3⟩
    ·rcases hro g t h with h |⟨rfl,rfl,h3⟩
     ·obtain ⟨a,c,b,d⟩:=I.wf.ro g t h;exact ⟨a,c,E1.c _ _ b,d⟩
     ·exact ⟨hjP,_,hcj,h3⟩
    ·exact E1.v _ _ (I.wf.kn t b h)
   refine ⟨⟨W,fun t c h=>?_,hj,fun k v h=>?_,?_,fun q k l' hq hlt=>?_⟩,E1,rfl,⟨?_,.sl j l.length j,bg,⟨_,hcj,rfl⟩,fun g hg=>?_⟩⟩
   ·rcases bd h with ⟨rfl,rfl⟩ |h
    ·exact Nat.lt_succ_self _
    ·exact Nat.lt_succ_of_lt (I.ct t c h)
   ·obtain ⟨a,u,b,c⟩:=I.sl k v h;exact ⟨a,u,b,c.mono E1⟩
   ·obtain ⟨L',a,b⟩:=I.th
    obtain ⟨L2,c,d⟩:=hT L' s2.vs s2.ct hcj (eJ E1 a)
    exact ⟨L2,c,d.trans (b.append_left T)⟩
   ·rcases Nat.lt_or_ge q j with h |h
    ·exact E1.c _ _ (I.v0 q k l' hq h)
    ·obtain rfl:q=j:=by omega
     rw [hv] at hq;injection hq with hq;injection hq with hq1 hq2;subst hq1;subst hq2
     exact hcj
   ·have:lk s2.vs s.n=some (.sl j l.length j):=bg
    simp only [SV1.den,Ax.lf,this,Option.map_some,Lf.den]
   ·simp [Lf.gs] at hg;subst hg;exact Nat.lt_of_lt_of_le hjn E1.n
  have rowc: ∀L' vs ct,lk ct j=some ⟨kk,l,j,none⟩→ij r.e0 vs ct s.th=some L'→ ∃L2,ij r.e0 vs ct ((j,Th.row E j)::s.th)=some L2∧L2.Perm ([Db r.e0 j E kk l]++L'):=by
   intro L' vs ct h1 h2
   refine ⟨Db r.e0 j E kk l::L',?_,List.Perm.refl _⟩
   have:Th.den r.e0 vs ct j (.row E j)=some (Db r.e0 j E kk l):=by simp only [Th.den,h1,Option.map_some];rfl
   simp only [ij,this,h2]
  cases m with
  |ro=>exact gen s.th ((j,j)::s.ro) [] (fun p hp=>.inl hp) (fun g t h=>by
   rcases bd h with ⟨rfl,rfl⟩ |h
   ·exact .inr ⟨rfl,rfl,hm⟩
   ·exact .inl h) (fun L' vs ct _ h=>⟨L',h,List.Perm.refl _⟩)
  |kp=>exact gen ((j,.kp j)::s.th) s.ro [r.e0.y j] (fun p hp=>by
   rcases List.mem_cons.1 hp with rfl |hp
   ·exact .inr ⟨rfl,.inr ⟨rfl,hm⟩⟩
   ·exact .inl hp) (fun g t h=>.inl h) (fun L' vs ct _ h=>⟨r.e0.y j::L',by simp only [ij,Th.den,h],List.Perm.refl _⟩)
  |mu=>exact gen ((j,.row E j)::s.th) s.ro [Db r.e0 j E kk l] (fun p hp=>by
   rcases List.mem_cons.1 hp with rfl |hp
   ·exact .inr ⟨rfl,.inl rfl⟩
   ·exact .inl hp) (fun g t h=>.inl h) rowc
  |tk=>exact gen ((j,.row E j)::s.th) s.ro [Db r.e0 j E kk l] (fun p hp=>by
   rcases List.mem_cons.1 hp with rfl |hp
   ·exact .inr ⟨rfl,.inl rfl⟩
   ·exact .inl hp) (fun g t h=>.inl h) rowc
theorem Lp: ∀ {ks:List PK} {vs:List PV} {s:Sy} {i j:Nat} {L:List Asn},Ini r s i j args L v0→fH r.w0 r.X r.e0 j ks vs→(∀q v,dW vs q=some v→dW v0 (j+q)=some v)→j+ks.length<PB→
 ∃L',L'.Perm (rR r.e0 j ks vs++L)∧Ini r (mc s j ks vs).1 i (j+ks.length) args L' v0∧Ext s (mc s j ks vs).1∧(mc s j ks vs).1.sl=s.sl∧cb r.e0 (mc s j ks vs).1 (.g (mc s j ks vs).2) (.agg (oJ r.e0 j vs).toArray)∧vs.length=ks.length
 | [],vs,s,i,j,L,I,hp,hv,hj=>by
  have:vs=[]:=hp
  subst this
  exact ⟨L,List.Perm.refl _,I,.refl _,rfl,xL,rfl⟩
 |k::ks,vs,s,i,j,L,I,hp,hv,hj=>by
  obtain ⟨v,vr,rfl,h1,h2⟩:=hp
  simp only [List.length_cons] at hj
  obtain ⟨a1,a2,a3,a4⟩:=Vx I h1 (hv 0 v rfl) (by omega)
  obtain ⟨L',b0,b1,b2,b3,b4,b5⟩:=Lp a1 h2 (fun q v' hq=>by have:=hv (q+1) v' hq;rwa [show j+(q+1)=j+1+q by omega] at this) (by omega)
  have e0:mc s j (k::ks) (v::vr)=((mc (Ju s j k v).1 (j+1) ks vr).1,(Ju s j k v).2::(mc (Ju s j k v).1 (j+1) ks vr).2):=rfl
  rw [e0]
  refine ⟨L',?_,by rw [List.length_cons,show j+(ks.length+1)=j+1+ks.length by omega];exact b1,a2.trans b2,b3.trans a3,rj (a4.mono b2) b4,by simp [b5]⟩
  refine b0.trans ?_
  simp only [rR]
  rw [←List.append_assoc]
  exact (List.perm_append_comm).append_right _
theorem od {w0:World} {X:List Asn} {e1:Env}: ∀ {ks ks':List PK} {vs:List PV} {j:Nat},fH w0 X e1 j (ks++ks') vs→ ∃v vr,vs=v++vr∧fH w0 X e1 j ks v∧fH w0 X e1 (j+ks.length) ks' vr
 | [],ks',vs,j,h=>⟨[],vs,rfl,rfl,h⟩
 |k::ks,ks',vs,j,h=>by
  obtain ⟨v,r,rfl,h1,h2⟩:=h
  obtain ⟨v',r',rfl,h3,h4⟩:=od h2
  exact ⟨v::v',r',rfl,⟨v,v',rfl,h1,h3⟩,by rw [List.length_cons,show j+(ks.length+1)=j+1+ks.length by omega];exact h4⟩
theorem na {w0:World} {X:List Asn} {e1:Env}: ∀ {ks:List PK} {vs:List PV} {j:Nat},fH w0 X e1 j ks vs→vs.length=ks.length
 | [],vs,j,h=>by rw [show vs=[] from h];rfl
 |k::ks,vs,j,h=>by obtain ⟨v,r,rfl,_,h2⟩:=h;simp [na h2]
theorem Ini.slot {i j:Nat} (I:Ini r s i j args L v0) {v:SV} {u:Value} (hu:args[i]?=some u) (hd:kT r.e0 s v u):Ini r (oS s (some i) v) (i+1) j args L v0:=by
 have E:=Lb s (some i) v
 refine ⟨PQ I.wf _ _,I.ct,I.jp,fun k v' h=>?_,by obtain ⟨L',a,b⟩:=I.th;exact ⟨L',eJ E a,b⟩,I.v0⟩
 rcases bd h with ⟨rfl,rfl⟩ |h
 ·exact ⟨Nat.lt_succ_self _,u,hu,hd.mono E⟩
 ·obtain ⟨a,u',b,c⟩:=I.sl k v' h;exact ⟨Nat.lt_succ_of_lt a,u',b,c.mono E⟩
theorem Ini.perm {i j:Nat} {L2:List Asn} (I:Ini r s i j args L v0) (h:L.Perm L2):Ini r s i j args L2 v0:=⟨I.wf,I.ct,I.jp,I.sl,by obtain ⟨L',a,b⟩:=I.th;exact ⟨L',a,b.trans h⟩,I.v0⟩
theorem OM: ∀ {ps:List Prm} {vs:List PV} {s:Sy} {i j:Nat} {L:List Asn},Ini r s i j args L v0→fH r.w0 r.X r.e0 j (nf ps) vs→(∀q v,dW vs q=some v→dW v0 (j+q)=some v)→j+(nf ps).length<PB→i+ps.length≤PB→(∀q u,(cA r.e0 i j ps vs)[q]?=some u→args[i+q]?=some u)→
 ∃L',L'.Perm (dJ r.e0 i j ps vs++L)∧Ini r (wO s i j ps vs) (i+ps.length) (j+(nf ps).length) args L' v0
 | [],vs,s,i,j,L,I,hp,hv,hj,hi,ha=>⟨L,List.Perm.refl _,by simpa [wO,nf] using I⟩
 |p::ps,vs,s,i,j,L,I,hp,hv,hj,hi,ha=>by
  have hpk:nf (p::ps)=p.ks++nf ps:=by simp [nf]
  rw [hpk] at hp hj
  simp only [List.length_append] at hj
  simp only [List.length_cons] at hi
  obtain ⟨v,vr,rfl,h1,h2⟩:=od hp
  have hl:=na h1
  obtain ⟨L1,b0,b1,b2,b3,b4,b5⟩:=Lp I h1 (fun q x hq=>hv q x (uN hq)) (by omega)
  have hv2: ∀q x,dW vr q=some x→dW v0 (j+p.ks.length+q)=some x:=fun q x hq=>by
   have:=hv (p.ks.length+q) x (by rw [←hl,xS];exact hq)
   rwa [←Nat.add_assoc] at this
  have yg: ∀ {s2:Sy} {L2:List Asn} {T:List Asn} {u:Value},Ini r s2 (i+1) (j+p.ks.length) args L2 v0→L2.Perm (T++L)→cA r.e0 i j (p::ps) (v++vr)=u::cA r.e0 (i+1) (j+p.ks.length) ps vr→dJ r.e0 i j (p::ps) (v++vr)=T++dJ r.e0 (i+1) (j+p.ks.length) ps vr→wO s i j (p::ps) (v++vr)=wO s2 (i+1) (j+p.ks.length) ps vr→
   ∃L',L'.Perm (dJ r.e0 i j (p::ps) (v++vr)++L)∧Ini r (wO s i j (p::ps) (v++vr)) (i+(p::ps).length) (j+(nf (p::ps)).length) args L' v0:=by
   intro s2 L2 T u I2 hL2 hargs hth hini
   obtain ⟨L',c1,c2⟩:=OM I2 h2 hv2 (by omega) (by omega) (fun q u' hq=>by
    have:=ha (q+1) u' (by rw [hargs];simpa using hq)
    rwa [show i+(q+1)=i+1+q by omega] at this)
   refine ⟨L',?_,?_⟩
   ·rw [hth]
    refine c1.trans ((hL2.append_left _).trans ?_)
    rw [←List.append_assoc]
    exact (List.perm_append_comm).append_right _
   ·rw [hini,hpk,List.length_append,List.length_cons,show i+(ps.length+1)=i+1+ps.length by omega,←Nat.add_assoc]
    exact c2
  have hu0: ∀ {u:Value} {tl:List Value},cA r.e0 i j (p::ps) (v++vr)=u::tl→args[i]?=some u:=fun h=>by
   have:=ha 0 _ (by rw [h];rfl)
   simpa using this
  have ht:(v++vr).take p.ks.length=v:=by rw [←hl];simp
  have hdr:(v++vr).drop p.ks.length=vr:=by rw [←hl];simp
  cases p with
  |o k=>
   have hv1: ∃x,v=[x]:=by
    cases v with
    |nil=>simp [Prm.ks] at hl
    |cons x v=>cases v with
     |nil=>exact ⟨x,rfl⟩
     |cons=>simp [Prm.ks] at hl
   obtain ⟨x,rfl⟩:=hv1
   have hxs: ∃y,(mc s j [k] [x]).2=[y]:=⟨_,rfl⟩
   obtain ⟨y,hy⟩:=hxs
   have hargs:cA r.e0 i j (.o k::ps) ([x]++vr)=Dv r.e0 j x::cA r.e0 (i+1) (j+1) ps vr:=rfl
   have d1:cb r.e0 (mc s j [k] [x]).1 (.a y) (Dv r.e0 j x):=by
    obtain ⟨z,zr,he,q1,_⟩:=oW (show cb r.e0 (mc s j [k] [x]).1 (.g [y]) (.agg (Dv r.e0 j x:: []).toArray) by rw [←hy];exact b4)
    injection he with he _;subst he;exact q1
   exact yg (T:=rR r.e0 j [k] [x]) (b1.slot (v:=.v (.a y)) (hu0 hargs) d1) b0 hargs rfl (by
    have e1:wO s i j (.o k::ps) ([x]++vr)=wO (oS (mc s j [k] [x]).1 (some i) (.v (match (mc s j [k] [x]).2 with |x::_=>.a x | []=>.g []))) (i+1) (j+1) ps vr:=rfl
    rw [e1,hy];rfl)
  |g ks=>
   have ht:(v++vr).take ks.length=v:=ht
   have hdr:(v++vr).drop ks.length=vr:=hdr
   have hargs:cA r.e0 i j (.g ks::ps) (v++vr)= .agg (oJ r.e0 j v).toArray::cA r.e0 (i+1) (j+ks.length) ps vr:=by simp only [cA,ht,hdr]
   exact yg (T:=rR r.e0 j ks v) (b1.slot (v:=.v (.g (mc s j ks v).2)) (hu0 hargs) b4) b0 hargs (by simp only [dJ,Prm.ks,ht,hdr]) (by simp only [wO,ht,hdr];rfl)
  |bx T ks=>
   have ht:(v++vr).take ks.length=v:=ht
   have hdr:(v++vr).drop ks.length=vr:=hdr
   have hargs:cA r.e0 i j (.bx T ks::ps) (v++vr)= .pointer (some ⟨r.e0.b (PB+i),0,none⟩)::cA r.e0 (i+1) (j+ks.length) ps vr:=by simp only [cA,hdr]
   let s1:=(mc s j ks v).1
   let s2:Sy:= {s1 with n:=s1.n+1,vs:=(s1.n,.pt (PB+i) 0)::s1.vs,th:=(PB+i,.box T (mc s j ks v).2)::s1.th}
   have hbn:PB+i<s1.n:=Nat.lt_of_lt_of_le (show PB+i<NP by unfold PB NP at*;omega) b1.wf.np
   have E2:Ext s1 s2:=wK b1.wf (fun t h=>oQ (by omega)) (fun t h=>rfl) (by simp [s2])
   have b4:cb r.e0 s1 (.g (mc s j ks v).2) (.agg (oJ r.e0 j v).toArray):=b4
   have b1:Ini r s1 i (j+ks.length) args L1 v0:=b1
   have W:Wf r s2:=b1.wf.grow E2 (fun t x h=>by
    rcases bd h with ⟨rfl,rfl⟩ |h
    ·exact .inr ⟨by simp [s2],nofun⟩
    ·exact .inl h) (fun t c h=>.inl h) (fun p hp=>by
    rcases List.mem_cons.1 hp with rfl |hp
    ·exact .inr ⟨Nat.lt_of_lt_of_le hbn E2.n,fun x hx=>(b4.2 x hx).mono E2,nofun⟩
    ·exact .inl hp) rfl (fun t b h=>.inl h)
   have hden:Th.den r.e0 s2.vs s2.ct (PB+i) (.box T (mc s j ks v).2)=some (.box (r.e0.b (PB+i)) T (oJ r.e0 j v).toArray):=by
    have:=b4.1
    simp only [SV1.den,Option.map_eq_some_iff,Value.agg.injEq] at this
    obtain ⟨ls,l1,l2⟩:=this
    simp only [Th.den,E2.lfs l1,Option.map_some,l2]
   have I2:Ini r s2 i (j+ks.length) args (.box (r.e0.b (PB+i)) T (oJ r.e0 j v).toArray::L1) v0:=by
    refine ⟨W,b1.ct,b1.jp,fun k v' h=>?_,?_,b1.v0⟩
    ·obtain ⟨a,u,b,c⟩:=b1.sl k v' h;exact ⟨a,u,b,c.mono E2⟩
    ·obtain ⟨L',a,b⟩:=b1.th
     exact ⟨_::L',aG.2 ⟨_,L',hden,eJ E2 a,rfl⟩,b.cons _⟩
   have d2:cb r.e0 s2 (.a (.t s1.n)) (.pointer (some ⟨r.e0.b (PB+i),0,none⟩)):=by
    refine ⟨?_,.pt (PB+i) 0,bg,trivial,fun g hg=>?_⟩
    ·have:lk s2.vs s1.n=some (.pt (PB+i) 0):=bg
     simp only [SV1.den,Ax.lf,this,Option.map_some,Lf.den]
    ·simp [Lf.gs] at hg;subst hg;exact Nat.lt_of_lt_of_le hbn E2.n
   exact yg (T:=.box (r.e0.b (PB+i)) T (oJ r.e0 j v).toArray::rR r.e0 j ks v) (I2.slot (v:=.v (.a (.t s1.n))) (hu0 hargs) d2) (b0.cons _) hargs (by simp only [dJ,ht,hdr];rfl) (by simp only [wO,ht,hdr];rfl)
end
structure Ou (P:Program) (G:Cx) (r:Rn) (sI s:Sy) (e:Env) (a:Act) (w:World) (v0:List PV):Prop where
 g:GP P G
 I:Inv r e a w s
 E:Ext sI s
 pv: ∀q k l,dW v0 q=some (.sl k l)→lk sI.ct q=some ⟨k,l,q,none⟩
 lt:v0.length<PB
section
variable {P:Program} {G:Cx} {r:Rn} {sI s:Sy} {e:Env} {a:Act} {w:World} {v0:List PV} (O:Ou P G r sI s e a w v0)
include O
theorem Ou.par {j n rt:Nat} {k:EK} {l:List k.ty} (hv:dW v0 j=some (.sl k l)) (hk:(Lf.sl j n rt).Ok s) (hrt:rt=j):(Lf.sl j n rt).den e=Dv r.e0 j (.sl k l):=by
 subst hrt
 have hj:rt<NP:=Nat.lt_of_lt_of_le (JG hv) (Nat.le_trans (Nat.le_of_lt O.lt) (show PB≤NP by decide))
 obtain ⟨c,c1,c2⟩:=hk.1
 rw [O.E.c _ _ (O.pv _ _ _ hv)] at c1
 injection c1 with c1;subst c1
 have:=O.I.par rt hj
 simp only [Lf.den,Dv,this.2.1,this.2.2.1,c2]
theorem Ou.outA {k:RK} {x:Ax} {v:PV} {ids:List (Option Nat)} {u:Value} (h:outA s k x=some (v,ids)) (hd:cb e s (.a x) u) (hal: ∀j,k= .al j→ ∃kk l,dW v0 j=some (.sl kk l)): ∃A0 A,k.res r.e0 (zU v0) v u A∧jU s e ids A0∧ra A0 A:=by
 obtain ⟨y,hy,hk⟩:=hd.2
 have hu:y.den e=u:=by have:=hd.1;simpa [SV1.den,hy] using this
 cases k with
 |int k=>
  simp only [Go.Proofs.YtjdlgannencchaaGreatDoor.outA,hy] at h
  split at h
  ·rename_i k' v hh
   injection h with h;injection h with h1 h2;subst h1;subst h2
   injection hh with hh;subst hh
   exact ⟨[],[],⟨_,_,rfl,hu.symm,rfl⟩,rfl,rfl⟩
  ·cases h
 |b=>
  simp only [Go.Proofs.YtjdlgannencchaaGreatDoor.outA,hy] at h
  split at h
  ·rename_i b hb
   injection h with h;injection h with h1 h2;subst h1;subst h2
   exact ⟨[],[],⟨_,rfl,by rw [←hu,nB hb],rfl⟩,rfl,rfl⟩
  ·cases h
 |s=>
  simp only [Go.Proofs.YtjdlgannencchaaGreatDoor.outA,hy] at h
  split at h
  ·rename_i v hh
   injection h with h;injection h with h1 h2;subst h1;subst h2
   injection hh with hh;subst hh
   exact ⟨[],[],⟨_,rfl,hu.symm,rfl⟩,rfl,rfl⟩
  ·cases h
 |al j=>
  simp only [Go.Proofs.YtjdlgannencchaaGreatDoor.outA,hy] at h
  split at h
  ·rename_i hh
   injection h with h;injection h with h1 h2;subst h1;subst h2
   injection hh with hh;subst hh
   exact ⟨[],[],⟨false,rfl,hu.symm,rfl⟩,rfl,rfl⟩
  ·rename_i g n rt hh
   cases hb:(Nat.beq g j&&Nat.beq rt j) with
   |false=>rw [hb] at h;cases h
   |true=>
    rw [hb] at h
    injection h with h;injection h with h1 h2;subst h1;subst h2
    injection hh with hh;subst hh
    simp only [Bool.and_eq_true] at hb
    have e1:=kX hb.1;have e2:=kX hb.2
    subst e1
    obtain ⟨kk,l,hv⟩:=hal g rfl
    have:=O.par hv hk e2
    rw [hu] at this
    refine ⟨[],[],⟨true,rfl,?_,rfl⟩,rfl,rfl⟩
    rw [this]
    simp only [Dv,UD,ME,cond_true,zU,hv]
  ·cases h
 |row E k=>
  simp only [Go.Proofs.YtjdlgannencchaaGreatDoor.outA,hy] at h
  split at h
  ·rename_i hh
   injection h with h;injection h with h1 h2;subst h1;subst h2
   injection hh with hh;subst hh
   exact ⟨_,[.row E k.sz (.slice none 0 0) 0 []],⟨[],none,0,rfl,hu.symm,by rw [←hu];rfl⟩,⟨_,[],rfl,⟨E,k.sz,.inl rfl⟩,rfl⟩,ra.refl _⟩
  ·rename_i g n rt hh
   injection hh with hh;subst hh
   split at h
   ·rename_i ct l hth hl
    injection h with h;injection h with h1 h2;subst h1;subst h2
    obtain ⟨ct',c,q1,q2,q3,q4,q5,q6⟩:=xE O.I.wf hk hl
    have hth:=dI hth
    obtain ⟨ck,cl,crt,csi⟩:=c
    dsimp only at q3;subst q3;dsimp only at q4;subst q4
    simp only [zb,hth,Option.some.injEq] at q1
    subst q1
    subst q6
    exact ⟨_,[.row E ck.sz u cl.length (cl.flatMap ck.enc)],⟨cl,e.a g,e.c g,rfl,hu.symm,rfl⟩,⟨_,[],_,rfl,hth,⟨_,by simp only [Th.den,q2,Option.map_some];rw [←hu];rfl,ze.refl _⟩,rfl⟩,ra.refl _⟩
   ·cases h
  ·rename_i g ct sz n lo hi pre hh
   injection hh with hh;subst hh
   split at h
   ·rename_i ct1 l hth hl
    injection h with h;injection h with h1 h2;subst h1;subst h2
    obtain ⟨a1,a2⟩:=Um hk (dI hth) hl hu
    exact ⟨_,[.row E k.sz u l.length (l.flatMap k.enc)],⟨l,_,_,rfl,a1,rfl⟩,⟨_,[],_,rfl,dI hth,a2,rfl⟩,ra.refl _⟩
   ·cases h
  ·rename_i g n rt hh
   injection hh with hh;subst hh
   split at h
   ·rename_i ct1 l hth hl
    injection h with h;injection h with h1 h2;subst h1;subst h2
    obtain ⟨ct',c,q1,q2,q3,q4,q5,q6⟩:=xE (n:=n) (rt:=rt) O.I.wf hk hl
    have hth:=dI hth
    obtain ⟨ck,cl,crt,csi⟩:=c
    dsimp only at q3;subst q3;dsimp only at q4;subst q4
    simp only [zb,hth,Option.some.injEq] at q1
    subst q1
    subst q6
    refine ⟨_,[.row E ck.sz u cl.length (cl.flatMap ck.enc)],⟨cl,_,_,rfl,hu.symm,rfl⟩,⟨_,[],_,rfl,hth,⟨_,by simp only [Th.den,q2,Option.map_some];rfl,?_⟩,rfl⟩,ra.refl _⟩
    rw [←hu]
    cases cl with
    |nil=>exact ze.nil
    |cons x cl=>exact ze.refl _
   ·cases h
  ·cases h
 |part k=>
  simp only [Go.Proofs.YtjdlgannencchaaGreatDoor.outA,hy] at h
  split at h
  ·rename_i hh
   injection h with h;injection h with h1 h2;subst h1;subst h2
   injection hh with hh;subst hh
   exact ⟨_,[.part k.sz (.slice none 0 0) 0 []],⟨[],none,0,rfl,hu.symm,by rw [←hu];rfl⟩,⟨_,[],rfl,⟨0,k.sz,.inr rfl⟩,rfl⟩,ra.refl _⟩
  ·rename_i g n rt hh
   injection hh with hh;subst hh
   have yg: ∀ {l:List k.ty} {x:Th} {ct:Nat},yn s k (.sl g n rt)=some l→lk s.th g=some x→((∃E,x= .row E ct)∨x= .part ct)→v= .sl k l→ids=[some g]→ ∃A0 A,(RK.part k).res r.e0 (zU v0) v u A∧jU s e ids A0∧ra A0 A:=by
    rintro l x ct hl hth hx rfl rfl
    obtain ⟨ct',c,q1,q2,q3,q4,q5,q6⟩:=xE O.I.wf hk hl
    obtain ⟨ck,cl,crt,csi⟩:=c
    dsimp only at q3;subst q3;dsimp only at q4;subst q4
    subst q6
    rcases hx with ⟨E,rfl⟩ |rfl
    ·simp only [zb,hth,Option.some.injEq] at q1
     subst q1
     exact ⟨[.row E ck.sz u cl.length (cl.flatMap ck.enc)],[.part ck.sz u cl.length (cl.flatMap ck.enc)],⟨cl,e.a g,e.c g,rfl,hu.symm,rfl⟩,⟨_,[],_,rfl,hth,⟨_,by simp only [Th.den,q2,Option.map_some];rw [←hu];rfl,ze.refl _⟩,rfl⟩,⟨_,[],rfl,ze.part,rfl⟩⟩
    ·simp only [zb,hth,Option.some.injEq] at q1
     subst q1
     exact ⟨_,[.part ck.sz u cl.length (cl.flatMap ck.enc)],⟨cl,e.a g,e.c g,rfl,hu.symm,rfl⟩,⟨_,[],_,rfl,hth,⟨_,by simp only [Th.den,q2,Option.map_some];rw [←hu];rfl,ze.refl _⟩,rfl⟩,ra.refl _⟩
   split at h
   ·rename_i hth hl
    injection h with h;injection h with h1 h2
    exact yg hl hth (.inl ⟨_,rfl⟩) h1.symm h2.symm
   ·rename_i hth hl
    injection h with h;injection h with h1 h2
    exact yg hl hth (.inr rfl) h1.symm h2.symm
   ·cases h
  ·cases h
def AlP (v0:List PV) (k:RK):Prop:= ∀j,k= .al j→ ∃kk l,dW v0 j=some (.sl kk l)
theorem Ou.outAs: ∀ {ks:List RK} {xs:List Ax} {vs:List PV} {ids:List (Option Nat)} {us:List Value},outAs s ks xs=some (vs,ids)→cb e s (.g xs) (.agg us.toArray)→(∀k∈ks,AlP v0 k)→ ∃A0 A,Ts r.e0 (zU v0) ks vs us A∧jU s e ids A0∧ra A0 A
 | [],[],vs,ids,us,h,hd,_=>by
  injection h with h;injection h with h1 h2;subst h1;subst h2
  have hu:us=[]:=by have:=hd.1;simp [SV1.den,lfs] at this;exact this
  subst hu
  exact ⟨[],[],⟨rfl,rfl,rfl⟩,rfl,rfl⟩
 | [],_::_,vs,ids,us,h,_,_=>by cases h
 |_::_,[],vs,ids,us,h,_,_=>by cases h
 |k::ks,x::xs,vs,ids,us,h,hd,hal=>by
  simp only [Go.Proofs.YtjdlgannencchaaGreatDoor.outAs] at h
  split at h
  ·rename_i v t vs' ts h1 h2
   injection h with h;injection h with h3 h4;subst h3;subst h4
   have hus: ∃u ur,us=u::ur:=by
    have:=hd.1
    simp only [SV1.den,Option.map_eq_some_iff,Value.agg.injEq] at this
    obtain ⟨ls,q1,q2⟩:=this
    obtain ⟨z,q,_,_,rfl⟩:=bR.1 q1
    have:List.map (Lf.den e) (z::q)=us:=by simpa using q2
    exact ⟨_,_,this.symm⟩
   obtain ⟨u,ur,rfl⟩:=hus
   obtain ⟨x',xr,he,hx,hxr⟩:=oW hd
   injection he with e1 e2;subst e1;subst e2
   obtain ⟨A0,A,a1,a2,a3⟩:=O.outA h1 hx (hal k (by simp))
   obtain ⟨B0,B,b1,b2,b3⟩:=Ou.outAs h2 hxr fun k' hk'=>hal k' (by simp [hk'])
   exact ⟨A0++B0,A++B,⟨v,vs',u,ur,A,B,rfl,rfl,rfl,a1,b1⟩,a2.app b2,a3.app b3⟩
  ·cases h
theorem Ou.rvA {rv:ResultVar} {x:SV1} (h:rvA G s rv=some x): ∃u,(JR a rv).run P w= .ok u w∧cb e s x u:=by
 cases rv with
 |tmp k=>
  simp only [Go.Proofs.YtjdlgannencchaaGreatDoor.rvA] at h
  split at h
  ·rename_i y hy
   injection h with h;subst h
   exact ⟨sl a k,hZ (jW rfl),O.I.slot k _ hy⟩
  ·cases h
 |cell k T=>
  simp only [Go.Proofs.YtjdlgannencchaaGreatDoor.rvA] at h
  split at h
  ·rename_i z i hz hT
   split at h
   ·rename_i g off hx
    split at h
    ·rename_i T' cs hg
     have M:=O.I.mem g
     obtain ⟨l,h4,h5⟩:=M.bk _ _ hg
     have hlen:=oe h4
     have ht:=O.g.ty hT
     have hcs:=(O.I.wf.th _ (iQ hg)).2
     have hp:a.eval (.tmp k)= .pointer (some ⟨e.b g,off,none⟩):=by
      have:=(O.I.slot k _ hz).1
      simp only [SV1.den,hx,Option.map_some,Option.some.injEq] at this
      exact jW this.symm
     cases ha:MD i.d with
     |true=>
      rw [ha] at h
      simp only [cond_true] at h
      cases hb:Nat.ble (off+i.sz) cs.length with
      |false=>rw [hb] at h;cases h
      |true=>
       rw [hb] at h
       injection h with h;subst h
       have hle:off+i.sz≤cs.length:=by simpa using hb
       have hs:=Fv off i.sz h4
       have hsz:((nu l off i.sz).map (Lf.den e)).toArray.size=i.sz:=by simp [Dl (show off+i.sz≤l.length by omega)]
       refine ⟨.agg ((nu l off i.sz).map (Lf.den e)).toArray,Mb hp (QB (ht.agg ha) hsz (h5.cells off _ ?_)),by simp [SV1.den,hs],fun z hz=>hcs z ?_⟩
       ·rw [hsz,Kl];simp [nu]
       ·exact List.mem_of_mem_drop (List.mem_of_mem_take hz)
     |false=>
      rw [ha] at h
      simp only [cond_false] at h
      split at h
      ·rename_i z' hz'
       injection h with h;subst h
       obtain ⟨u,h6,h7⟩:=Jy h4 hz'
       have hc:w.cell? ⟨e.b g,off,none⟩=some (u.den e):=h5.cell (by simp [h7])
       exact ⟨u.den e,Mb hp (QA (ht.tone ha) hc),by simp [SV1.den,h6],hcs z' (Fx hz')⟩
      ·cases h
    ·cases h
   ·cases h
  ·cases h
theorem Ou.outRs: ∀ {rs:List RSh} {rv:List ResultVar} {vs:List PV} {ids:List (Option Nat)},outRs G s rs rv=some (vs,ids)→(∀k∈rs.flatMap RSh.ks,AlP v0 k)→ ∃us A0 A,(rv.mapM (JR a)).run P w= .ok us w∧Tt r.e0 (zU v0) rs vs us A∧jU s e ids A0∧ra A0 A
 | [],[],vs,ids,h,_=>by
  injection h with h;injection h with h1 h2;subst h1;subst h2
  exact ⟨[],[],[],rfl,⟨rfl,rfl,rfl⟩,rfl,rfl⟩
 | [],_::_,vs,ids,h,_=>by cases h
 |p::_,[],vs,ids,h,_=>by cases p<;>cases h
 | .o k::rs,v::rv,vs,ids,h,hal=>by
  simp only [Go.Proofs.YtjdlgannencchaaGreatDoor.outRs] at h
  split at h
  ·rename_i x b u h1 h2
   split at h
   ·rename_i v1 t h3
    injection h with h;injection h with h4 h5;subst h4;subst h5
    obtain ⟨uv,c1,c2⟩:=O.rvA h1
    obtain ⟨A0,A,a1,a2,a3⟩:=O.outA h3 c2 (hal k (by simp [RSh.ks]))
    obtain ⟨us,B0,B,b0,b1,b2,b3⟩:=Ou.outRs h2 fun k' hk'=>hal k' (by simp only [List.flatMap_cons];exact List.mem_append_right _ hk')
    refine ⟨uv::us,A0++B0,A++B,?_,⟨v1,b,uv,us,A,B,rfl,rfl,rfl,a1,b1⟩,a2.app b2,a3.app b3⟩
    rw [List.mapM_cons]
    simp only [Sem.run_bind,c1,Result.andThen_ok,b0,Sem.run_pure]
   ·cases h
  ·cases h
 | .g ks::rs,v::rv,vs,ids,h,hal=>by
  simp only [Go.Proofs.YtjdlgannencchaaGreatDoor.outRs] at h
  split at h
  ·rename_i xs b u h1 h2
   split at h
   ·rename_i v1 t h3
    injection h with h;injection h with h4 h5;subst h4;subst h5
    obtain ⟨uv,c1,c2⟩:=O.rvA h1
    obtain ⟨ul,rfl⟩: ∃ul:List Value,uv= .agg ul.toArray:=by
     have:=c2.1
     simp only [SV1.den,Option.map_eq_some_iff] at this
     obtain ⟨l,_,rfl⟩:=this
     exact ⟨_,rfl⟩
    obtain ⟨A0,A,a1,a2,a3⟩:=O.outAs h3 c2 fun k' hk'=>hal k' (by simp only [List.flatMap_cons,RSh.ks];exact List.mem_append_left _ hk')
    obtain ⟨us,B0,B,b0,b1,b2,b3⟩:=Ou.outRs h2 fun k' hk'=>hal k' (by simp only [List.flatMap_cons];exact List.mem_append_right _ hk')
    refine ⟨.agg ul.toArray::us,A0++B0,A++B,?_,⟨v1,b,ul,us,A,B,rfl,rfl,rfl,a1,b1⟩,a2.app b2,a3.app b3⟩
    rw [List.mapM_cons]
    simp only [Sem.run_bind,c1,Result.andThen_ok,b0,Sem.run_pure]
   ·cases h
  ·cases h
theorem Ou.outCs: ∀ {ks:List PK} {j:Nat} {xs:List Ax} {vs v:List PV} {ids:List (Option Nat)} {us:List Value},outCs s j ks xs=some (v,ids)→cb e s (.g xs) (.agg us.toArray)→fH r.w0 r.X r.e0 j ks vs→(∀q x,dW vs q=some x→dW v0 (j+q)=some x)→ ∃A0 A,Tr r.e0 (zU v0) ks (oJ r.e0 j vs) v us A∧jU s e ids A0∧ra A0 A
 | [],j,[],vs,v,ids,us,h,hd,hp,_=>by
  injection h with h;injection h with h1 h2;subst h1;subst h2
  have hu:us=[]:=by have:=hd.1;simp [SV1.den,lfs] at this;exact this
  subst hu
  rw [show vs=[] from hp]
  exact ⟨[],[],⟨rfl,rfl,rfl,rfl⟩,rfl,rfl⟩
 | [],j,_::_,vs,v,ids,us,h,_,_,_=>by cases h
 |k::_,j,[],vs,v,ids,us,h,_,_,_=>by cases h
 |k::ks,j,x::xs,vs,v,ids,us,h,hd,hp,hv=>by
  obtain ⟨pv,pr,rfl,p1,p2⟩:=hp
  have hus: ∃u ur,us=u::ur:=by
   have:=hd.1
   simp only [SV1.den,Option.map_eq_some_iff,Value.agg.injEq] at this
   obtain ⟨ls,q1,q2⟩:=this
   obtain ⟨z,q,_,_,rfl⟩:=bR.1 q1
   have:List.map (Lf.den e) (z::q)=us:=by simpa using q2
   exact ⟨_,_,this.symm⟩
  obtain ⟨u,ur,rfl⟩:=hus
  obtain ⟨x',xr,he,hx,hxr⟩:=oW hd
  injection he with e1 e2;subst e1;subst e2
  have hv': ∀q x,dW pr q=some x→dW v0 (j+1+q)=some x:=fun q x hq=>by
   have:=hv (q+1) x hq
   rwa [show j+(q+1)=j+1+q by omega] at this
  simp only [Go.Proofs.YtjdlgannencchaaGreatDoor.outCs] at h
  split at h
  ·rename_i rk rks b t hc h2
   split at h
   ·rename_i v1 t1 h1
    injection h with h;injection h with h4 h5;subst h4;subst h5
    obtain ⟨A0,A,a1,a2,a3⟩:=O.outA h1 hx (fun q hq=>by
     subst hq
     cases k with
     |sl m E kk=>cases m<;>cases hc
     |_=>cases hc)
    obtain ⟨B0,B,b1,b2,b3⟩:=Ou.outCs h2 hxr p2 hv'
    refine ⟨A0++B0,A++B,⟨_,_,u,ur,rfl,rfl,?_⟩,a2.app b2,a3.app b3⟩
    rw [hc]
    exact ⟨v1,b,A,B,rfl,rfl,a1,b1⟩
   ·cases h
  ·rename_i b t hc h2
   split at h
   ·rename_i g n rt hh
    cases hb:(Nat.beq g j&&Nat.beq rt j) with
    |false=>rw [hb] at h;cases h
    |true=>
     rw [hb] at h
     injection h with h;injection h with h4 h5;subst h4;subst h5
     simp only [Bool.and_eq_true] at hb
     have e1:=kX hb.1;have e2:=kX hb.2
     subst e1
     obtain ⟨y,hy,hk⟩:=hx.2
     rw [hh] at hy;injection hy with hy;subst hy
     obtain ⟨B0,B,b1,b2,b3⟩:=Ou.outCs h2 hxr p2 hv'
     refine ⟨B0,B,⟨_,_,u,ur,rfl,rfl,?_⟩,b2,b3⟩
     rw [hc]
     refine ⟨?_,b1⟩
     have hsl: ∃kk l,pv= .sl kk l:=by
      cases k with
      |sl m E kk=>obtain ⟨l,rfl,_⟩:=p1;exact ⟨kk,l,rfl⟩
      |_=>cases hc
     obtain ⟨kk,l,rfl⟩:=hsl
     have:=O.par (hv 0 _ rfl) hk e2
     have hu:=hx.1
     simp only [SV1.den,hh,Option.map_some,Option.some.injEq] at hu
     rw [←hu];exact this
   ·cases h
  ·cases h
theorem Ou.outBs: ∀ {ps:List Prm} {i j:Nat} {vs v:List PV} {ids:List (Option Nat)},outBs s i j ps=some (v,ids)→fH r.w0 r.X r.e0 j (nf ps) vs→(∀q x,dW vs q=some x→dW v0 (j+q)=some x)→i+ps.length≤PB→ ∃A0 A,HR r.e0 (zU v0) i j ps vs v A∧jU s e ids A0∧ra A0 A
 | [],i,j,vs,v,ids,h,hp,_,_=>by
  injection h with h;injection h with h1 h2;subst h1;subst h2
  exact ⟨[],[],⟨rfl,rfl⟩,rfl,rfl⟩
 |p::ps,i,j,vs,v,ids,h,hp,hv,hi=>by
  rw [show nf (p::ps)=p.ks++nf ps by simp [nf]] at hp
  obtain ⟨va,vb,rfl,p1,p2⟩:=od hp
  have hl:=na p1
  simp only [List.length_cons] at hi
  have ht:(va++vb).take p.ks.length=va:=by rw [←hl];simp
  have hdr:(va++vb).drop p.ks.length=vb:=by rw [←hl];simp
  have hv2: ∀q x,dW vb q=some x→dW v0 (j+p.ks.length+q)=some x:=fun q x hq=>by
   have:=hv (p.ks.length+q) x (by rw [←hl,xS];exact hq)
   rwa [←Nat.add_assoc] at this
  cases p with
  |o k=>
   obtain ⟨A0,A,a1,a2,a3⟩:=Ou.outBs (i:=i+1) (j:=j+1) (by simpa only [Go.Proofs.YtjdlgannencchaaGreatDoor.outBs,Prm.ks,List.length_singleton] using h) p2 hv2 (by omega)
   exact ⟨A0,A,by have hdr:(va++vb).drop 1=vb:=hdr
                  show HR r.e0 (zU v0) (i+1) (j+1) ps ((va++vb).drop 1) v A
                  rw [hdr];exact a1,a2,a3⟩
  |g ks=>
   obtain ⟨A0,A,a1,a2,a3⟩:=Ou.outBs (i:=i+1) (j:=j+ks.length) (by simpa only [Go.Proofs.YtjdlgannencchaaGreatDoor.outBs,Prm.ks] using h) p2 hv2 (by omega)
   exact ⟨A0,A,by have hdr:(va++vb).drop ks.length=vb:=hdr
                  show HR r.e0 (zU v0) (i+1) (j+ks.length) ps ((va++vb).drop ks.length) v A
                  rw [hdr];exact a1,a2,a3⟩
  |bx T ks=>
   have hdr:(va++vb).drop ks.length=vb:=hdr
   have ht:(va++vb).take ks.length=va:=ht
   simp only [Go.Proofs.YtjdlgannencchaaGreatDoor.outBs] at h
   split at h
   ·rename_i T' xs b u hg h2
    cases hb:Nat.beq T T' with
    |false=>rw [hb] at h;cases h
    |true=>
     rw [hb] at h
     have eT:=kX hb;subst eT
     simp only [cond_true] at h
     split at h
     ·rename_i v1 t1 h1
      injection h with h;injection h with h4 h5;subst h4;subst h5
      have hok:=(O.I.wf.th _ (iQ hg)).2
      obtain ⟨q,hq⟩: ∃q,lfs s.vs xs=some q:=by
       obtain ⟨L,hL,_⟩:=O.I.st
       obtain ⟨y,R,h',_,_⟩:=py hL hg
       simp only [Th.den,Option.map_eq_some_iff] at h'
       obtain ⟨l,h',_⟩:=h'
       exact ⟨l,h'⟩
      obtain ⟨A0,A,a1,a2,a3⟩:=O.outCs (us:=q.map (Lf.den e)) h1 ⟨by simp [SV1.den,hq],hok⟩ p1 (fun q x hq=>hv q x (uN hq))
      obtain ⟨B0,B,b1,b2,b3⟩:=Ou.outBs h2 p2 hv2 (by omega)
      have hbe:e.b (PB+i)=r.e0.b (PB+i):=(O.I.par (PB+i) (by unfold PB NP at*;omega)).1
      refine ⟨.box (r.e0.b (PB+i)) T (q.map (Lf.den e)).toArray::(A0++B0),_,⟨v1,b,q.map (Lf.den e),A,B,rfl,rfl,by rw [ht];exact a1,by rw [hdr];exact b1⟩,?_,?_⟩
      ·refine ⟨_,A0++B0,_,rfl,hg,⟨_,by simp only [Th.den,hq,hbe,Option.map_some],ze.refl _⟩,a2.app b2⟩
      ·exact ⟨_,A++B,rfl,ze.refl _,a3.app b3⟩
     ·cases h
   ·cases h
theorem Ou.outRw: ∀ {ks:List PK} {j:Nat} {vs v:List PV} {ids:List (Option Nat)},outRw s j ks=some (v,ids)→fH r.w0 r.X r.e0 j ks vs→(∀q x,dW vs q=some x→dW v0 (j+q)=some x)→ ∃A,HS r.e0 j ks vs v A∧jU s e ids A
 | [],j,vs,v,ids,h,_,_=>by
  injection h with h;injection h with h1 h2;subst h1;subst h2
  exact ⟨[],⟨rfl,rfl⟩,rfl⟩
 |k::ks,j,vs,v,ids,h,hp,hv=>by
  obtain ⟨pv,pr,rfl,p1,p2⟩:=hp
  have hv': ∀q x,dW pr q=some x→dW v0 (j+1+q)=some x:=fun q x hq=>by
   have:=hv (q+1) x hq
   rwa [show j+(q+1)=j+1+q by omega] at this
  have hjv:dW v0 j=some pv:=hv 0 pv rfl
  have hj:j<NP:=Nat.lt_of_lt_of_le (JG hjv) (Nat.le_trans (Nat.le_of_lt O.lt) (show PB≤NP by decide))
  have hpar:=O.I.par j hj
  have gen:Go.Proofs.YtjdlgannencchaaGreatDoor.outRw s (j+1) ks=some (v,ids)→ ∃A,HS r.e0 (j+1) ks pr v A∧jU s e ids A:=fun h=>Ou.outRw h p2 hv'
  cases k with
  |int k=>exact gen h
  |b=>exact gen h
  |s=>exact gen h
  |sl m E kk=>
   cases m with
   |ro=>exact gen h
   |tk=>exact gen h
   |mu=>
    obtain ⟨l0,rfl,_⟩:=p1
    simp only [Go.Proofs.YtjdlgannencchaaGreatDoor.outRw] at h
    split at h
    ·rename_i ct b u hth h2
     split at h
     ·rename_i c hc
      cases hb:Nat.beq c.rt j with
      |false=>rw [hb] at h;cases h
      |true=>
       rw [hb] at h
       simp only [cond_true] at h
       split at h
       ·rename_i l hl
        injection h with h;injection h with h4 h5;subst h4;subst h5
        obtain ⟨A,a1,a2⟩:=Ou.outRw h2 p2 hv'
        have hth:=dI hth
        obtain ⟨d,d1,d2,d3⟩:=O.I.wf.rt _ _ hc
        rw [kX hb,O.E.c _ _ (O.pv _ _ _ hjv)] at d1
        injection d1 with d1;subst d1
        obtain ⟨ck,cl,crt,csi⟩:=c
        obtain ⟨q,hq⟩:=jh hl
        dsimp only at q;subst q;dsimp only at hq;subst hq
        refine ⟨Db r.e0 j E ck cl::A,⟨l0,cl,pr,b,A,rfl,rfl,d2,rfl,a1⟩,_,A,_,rfl,hth,⟨_,?_,ze.refl _⟩,a2⟩
        simp only [Th.den,hc,Option.map_some,Db,hpar.2.1,hpar.2.2.1];rfl
       ·cases h
     ·cases h
    ·cases h
   |kp=>
    simp only [Go.Proofs.YtjdlgannencchaaGreatDoor.outRw] at h
    split at h
    ·rename_i ct b u hth h2
     injection h with h;injection h with h4 h5;subst h4;subst h5
     obtain ⟨A,a1,a2⟩:=Ou.outRw h2 p2 hv'
     exact ⟨r.e0.y j::A,⟨A,rfl,a1⟩,_,A,_,rfl,hth,⟨_,by simp only [Th.den,hpar.2.2.2],ze.refl _⟩,a2⟩
    ·cases h
theorem Ou.outWs: ∀ {ps:List Prm} {j:Nat} {vs v:List PV} {ids:List (Option Nat)},outWs s j ps=some (v,ids)→fH r.w0 r.X r.e0 j (nf ps) vs→(∀q x,dW vs q=some x→dW v0 (j+q)=some x)→ ∃A,HT r.e0 j ps vs v A∧jU s e ids A
 | [],j,vs,v,ids,h,_,_=>by
  injection h with h;injection h with h1 h2;subst h1;subst h2
  exact ⟨[],⟨rfl,rfl⟩,rfl⟩
 |p::ps,j,vs,v,ids,h,hp,hv=>by
  rw [show nf (p::ps)=p.ks++nf ps by simp [nf]] at hp
  obtain ⟨va,vb,rfl,p1,p2⟩:=od hp
  have hl:=na p1
  have ht:(va++vb).take p.ks.length=va:=by rw [←hl];simp
  have hdr:(va++vb).drop p.ks.length=vb:=by rw [←hl];simp
  have hv2: ∀q x,dW vb q=some x→dW v0 (j+p.ks.length+q)=some x:=fun q x hq=>by
   have:=hv (p.ks.length+q) x (by rw [←hl,xS];exact hq)
   rwa [←Nat.add_assoc] at this
  have gen:(match Go.Proofs.YtjdlgannencchaaGreatDoor.outRw s j p.ks,Go.Proofs.YtjdlgannencchaaGreatDoor.outWs s (j+p.ks.length) ps with
   |some (a,t),some (b,u)=>some (a++b,t++u)
   |_,_=>none)=some (v,ids)→ ∃v1 v2 A1 A2,v=v1++v2∧HS r.e0 j p.ks va v1 A1∧HT r.e0 (j+p.ks.length) ps vb v2 A2∧jU s e ids (A1++A2):=by
   intro h
   split at h
   ·rename_i h1 h2
    injection h with h;injection h with h4 h5;subst h4;subst h5
    obtain ⟨A,a1,a2⟩:=O.outRw h1 p1 (fun q x hq=>hv q x (uN hq))
    obtain ⟨B,b1,b2⟩:=Ou.outWs h2 p2 hv2
    exact ⟨_,_,A,B,rfl,a1,b1,a2.app b2⟩
   ·cases h
  cases p with
  |o k=>
   obtain ⟨v1,v2,A1,A2,rfl,a1,a2,a3⟩:=gen h
   exact ⟨A1++A2,⟨v1,v2,A1,A2,rfl,rfl,by rw [ht];exact a1,by rw [hdr];exact a2⟩,a3⟩
  |g ks=>
   obtain ⟨v1,v2,A1,A2,rfl,a1,a2,a3⟩:=gen h
   exact ⟨A1++A2,⟨v1,v2,A1,A2,rfl,rfl,by rw [ht];exact a1,by rw [hdr];exact a2⟩,a3⟩
  |bx T ks=>
   have hdr:(va++vb).drop ks.length=vb:=hdr
   obtain ⟨A,a1,a2⟩:=Ou.outWs (j:=j+ks.length) (by simpa only [Go.Proofs.YtjdlgannencchaaGreatDoor.outWs] using h) p2 hv2
   exact ⟨A,by show HT r.e0 (j+ks.length) ps ((va++vb).drop ks.length) v A
               rw [hdr];exact a1,a2⟩
end
def Xl (P:Program) (r:Rn) (F:Sg) (v0:List PV) (f:F.R) (a:Act) (w:World):Prop:=
 a.defers=[]∧ ∃us A,(F.rv.mapM (JR a)).run P w= .ok us w∧Ia r.e0 F.ps F.rs v0 (Dp RK.put (xv F.ps F.rs) f) us A∧St r.w0 w (A++r.X)
theorem OB {P:Program} {G:Cx} {F:Sg} {r:Rn} {sI s:Sy} {e:Env} {a:Act} {w:World} {v0:List PV} {R:Type} {y:R} {k:F.R→Option R} (O:Ou P G r sI s e a w v0) (hp:fH r.w0 r.X r.e0 0 (nf F.ps) v0) (hi:F.ps.length≤PB) (hal: ∀k∈F.rs.flatMap RSh.ks,AlP v0 k) (h:RX G F s k=some y): ∃f,k f=some y∧Xl P r F v0 f a w:=by
 unfold RX at h
 split at h
 ·rename_i v1 i1 v2 i2 v3 i3 h1 h2 h3
  cases hb:bX ((i1++(i2++i3)).filterMap id) with
  |false=>rw [hb] at h;cases h
  |true=>
   rw [hb] at h
   simp only [cond_true] at h
   split at h
   ·rename_i f hf
    have hv: ∀q x,dW v0 q=some x→dW v0 (0+q)=some x:=fun q x h=>by rw [Nat.zero_add];exact h
    obtain ⟨us,A0,A,a0,a1,a2,a3⟩:=O.outRs h1 hal
    obtain ⟨B0,B,b1,b2,b3⟩:=O.outBs h2 hp hv (by omega)
    obtain ⟨C,c1,c2⟩:=O.outWs h3 hp hv
    obtain ⟨L,hL,hS⟩:=O.I.st
    have S1:=St.ids hL hS (a2.app (b2.app c2)) hb
    have S2:=St.wkns (P:=[]) (B:=A++(B++C)) (by simpa using S1) (a3.app (b3.app (ra.refl C)))
    refine ⟨f,h,O.I.df,us,A++(B++C),a0,⟨v1,v2,v3,A,B,C,?_,rfl,a1,b1,c1⟩,by simpa using S2⟩
    exact Kp (put:=RK.put) (fun k v a h=>Tu h) hf
   ·cases h
 ·cases h
def alK (ps:List PK) (k:RK):Bool:=match k with
 | .al j=>(match dW ps j with |some (.sl _ _ _)=>true |_=>false)
 |_=>true
theorem Rm {w0:World} {X:List Asn} {e:Env}: ∀ {ks:List PK} {vs:List PV} {j q:Nat},fH w0 X e j ks vs→(match dW ks q with |some (.sl _ _ _)=>true |_=>false)=true→ ∃kk l,dW vs q=some (.sl kk l)
 | [],vs,j,q,_,h=>by simp [dW] at h
 |k::ks,vs,j,q,hp,h=>by
  obtain ⟨v,vr,rfl,h1,h2⟩:=hp
  cases q with
  |zero=>
   cases k with
   |sl m E kk=>obtain ⟨l,rfl,_⟩:=h1;exact ⟨kk,l,rfl⟩
   |_=>cases h
  |succ q=>exact Rm (q:=q) h2 h
theorem Xy {P:Program} {G:Cx} {c:Ctr} {fn:Func} {body:Code} {rv:List ResultVar} {n:Nat} {crt:Crt} (hm:P.follows .mixedOrders=true) (hQ:GQ P G) (hf:P.funcs[c.f]?=some fn) (hb:fn.body=some body) (hn:fn.ntmps=n) (hr:fn.results=rv.toArray) (hal:(c.rs.flatMap RSh.ks).all (alK (nf c.ps))=true)
 (he: ∀x,c.m x=exF G ⟨c.ps,c.rs,rv,n⟩ crt body x):Rh P c:=by
 intro x res hx e w0 w X hbs hp hS
 rw [he] at hx
 unfold exF at hx
 dsimp only at hx
 cases hbb:(Nat.blt (nf c.ps).length PB&&Nat.blt c.ps.length PB&&Nat.ble c.ps.length n) with
 |false=>rw [hbb] at hx;cases hx
 |true=>
  rw [hbb] at hx
  simp only [cond_true] at hx
  simp only [Bool.and_eq_true] at hbb
  obtain ⟨⟨k1,k2⟩,k3⟩:=hbb
  have k1:(nf c.ps).length<PB:=by simpa using k1
  have k2:c.ps.length<PB:=by simpa using k2
  have k3:c.ps.length≤n:=by simpa using k3
  let v0:=Dp PK.put (nf c.ps) x
  let args:=cA e 0 0 c.ps v0
  let r:Rn:=⟨w0,X,n,e,hbs⟩
  have hlen: ∀ {ps:List Prm} {vs:List PV} {i j:Nat},fH w0 X e j (nf ps) vs→(cA e i j ps vs).length=ps.length:=by
   intro ps
   induction ps with
   |nil=>intro vs i j _;rfl
   |cons p ps ih=>
    intro vs i j h
    rw [show nf (p::ps)=p.ks++nf ps by simp [nf]] at h
    obtain ⟨va,vb,rfl,p1,p2⟩:=od h
    have hl:=na p1
    cases p with
    |o k=>
     have hdr:(va++vb).drop 1=vb:=by rw [show 1=va.length from hl.symm];simp
     have ht:(va++vb).take 1=va:=by rw [show 1=va.length from hl.symm];simp
     have hl:va.length=1:=hl
     simp only [cA,hdr,ht,List.length_append,Ic,List.length_cons,ih (j:=j+1) p2,hl]
     omega
    |g ks=>
     have hdr:(va++vb).drop ks.length=vb:=by rw [show ks.length=va.length from hl.symm];simp
     simp only [cA,hdr,List.length_cons,ih (j:=j+ks.length) p2]
    |bx T ks=>
     have hdr:(va++vb).drop ks.length=vb:=by rw [show ks.length=va.length from hl.symm];simp
     simp only [cA,hdr,List.length_cons,ih (j:=j+ks.length) p2]
  have hal':args.length=c.ps.length:=hlen hp
  refine calls_of_wp hf hb ?_
  let a0:Act:= {tmps:=args.toArray++Array.replicate (fn.ntmps-args.toArray.size) undef,defers:=[]}
  have hW0:Wf r Zm:=⟨nofun,nofun,nofun,nofun,nofun,nofun,nofun,nofun,nofun,Nat.le_refl _⟩
  have I0:Ini r Zm 0 0 args [] v0:=⟨hW0,nofun,by decide,nofun,⟨[],rfl,List.Perm.refl _⟩,fun q k l _ h=>by omega⟩
  obtain ⟨L',h1,h2⟩:=OM I0 hp (fun q v h=>by rw [Nat.zero_add];exact h) (by omega) (by omega) (fun q u h=>by rw [Nat.zero_add];exact h)
  rw [List.append_nil] at h1
  have hI:Inv r e a0 w (wO Zm 0 0 c.ps v0):=by
   refine ⟨?_,rfl,fun k v hk=>?_,?_,h2.wf,dX.refl _ _⟩
   ·show (args.toArray++Array.replicate (fn.ntmps-args.toArray.size) undef).size=n
    simp only [Array.size_append,List.size_toArray,Array.size_replicate,hn];omega
   ·obtain ⟨q1,u,q2,q3⟩:=h2.sl k v hk
    obtain ⟨q4,_⟩:=List.getElem?_eq_some_iff.1 q2
    have:sl a0 k=u:=by
     show (args.toArray++Array.replicate (fn.ntmps-args.toArray.size) undef)[k]?.getD undef=u
     rw [Array.getElem?_append_left (by simpa using q4)]
     simp [q2]
    rw [this];exact q3
   ·obtain ⟨L2,l1,l2⟩:=h2.th
    exact ⟨L2,l1,hS.perm ((l2.trans h1).symm.append_right _)⟩
  have hOu: ∀ {s:Sy} {e':Env} {a:Act} {w':World},Ext (wO Zm 0 0 c.ps v0) s→Inv r e' a w' s→Ou P G r (wO Zm 0 0 c.ps v0) s e' a w' v0:=fun hE I=>⟨hQ.gp,I,hE,fun q k l hq=>h2.v0 q k l hq (by
   have:=JG hq
   rw [na hp] at this;omega),by rw [na hp];exact k1⟩
  have hAl: ∀k∈c.rs.flatMap RSh.ks,AlP v0 k:=by
   intro k hk j hj
   have:=List.all_eq_true.1 hal k hk
   subst hj
   exact Rm (q:=j) hp this
  have hend: ∀ {f:Kr ((xv c.ps c.rs).map RK.ty)} {a:Act} {w':World},f=res→Xl P r ⟨c.ps,c.rs,rv,n⟩ v0 f a w'→a.defers=[]∧ ∃v,(results fn a.tmps).run P w'= .ok v w'∧ ∃us A,Ending.returned v= .returned (NC us)∧Ia e c.ps c.rs v0 (Dp RK.put (xv c.ps c.rs) res) us A∧St w0 w' (A++X):=by
   rintro f a w' rfl ⟨hd,us,A,g1,g2,g3⟩
   refine ⟨hd,NC us,?_,us,A,rfl,g2,g3⟩
   rw [Hf,hr,List.mapM_toArray,map_eq_pure_bind]
   have g1:(rv.mapM (JR a)).run P w'= .ok us w':=g1
   simp only [Sem.run_bind,g1,Result.andThen_ok,Sem.run_pure]
   congr 1
   cases us with
   |nil=>rfl
   |cons u us=>cases us with
    |nil=>rfl
    |cons u2 us=>simp [NC]
  refine abr (F:=⟨c.ps,c.rs,rv,n⟩) (sI:=wO Zm 0 0 c.ps v0) hm hQ rfl (Xl P r ⟨c.ps,c.rs,rv,n⟩ v0) (fun hE I h=>OB (hOu hE I) hp (Nat.le_of_lt k2) hAl h) crt body _ _ res e a0 w _ hx (.refl _) hI (fun s' e' a' w' E1 A1 h1 I1=>?_) (fun i s' e' a' w' E1 A1 h1 I1=>by cases h1) (fun f a' w' h1 h2=>?_)
  ·obtain ⟨f,q1,q2⟩:=OB (hOu E1 I1) hp (Nat.le_of_lt k2) hAl h1
   injection q1 with q1
   exact hend q1 q2
  ·injection h1 with h1
   exact hend h1 h2
def bz (P:Program) (c:Ctr):Prop:=CallOk P c.f∧Rh P c
def UE (P:Program):List Ctr→Prop
 | []=>True
 |c::l=>bz P c∧UE P l
theorem KM {P:Program}: ∀ {l:List Ctr},UE P l→ ∀c∈l,bz P c
 |c::l,h,d,hd=>by
  rcases List.mem_cons.1 hd with rfl |hd
  ·exact h.1
  ·exact KM h.2 d hd
def UF (P:Program):List (Nat×EK)→Prop
 | []=>True
 |p::l=>EqP P p.1 p.2∧UF P l
theorem La {P:Program}: ∀ {l:List (Nat×EK)},UF P l→ ∀ {T k},lk l T=some k→EqP P T k
 | [],_,T,k,h=>by cases h
 |(d,x)::l,h,T,k,hx=>by
  rcases bd hx with ⟨rfl,rfl⟩ |hx
  ·exact h.1
  ·exact La h.2 hx
theorem cok {P:Program} {ti:List (Nat×TyI)} {eq:List (Nat×EK)} {cs:List Ctr} {op:List (Nat×Nat)} {c:Ctr} {fn:Func} {body:Code} {rv:List ResultVar} {n:Nat} {crt:Crt} (ht:Mz P ti=true) (hq:UF P eq) (hm:P.follows .mixedOrders=true) (hcs:UE P cs) (hop:KB P op) (hco:CallOk P c.f) (hf:P.funcs[c.f]?=some fn) (hb:fn.body=some body) (hn:fn.ntmps=n) (hr:fn.results=rv.toArray) (hal:(c.rs.flatMap RSh.ks).all (alK (nf c.ps))=true)
 (he: ∀x,c.m x=exF ⟨ti,eq,cs,op⟩ ⟨c.ps,c.rs,rv,n⟩ crt body x):bz P c:=
 ⟨hco,Xy (G:=⟨ti,eq,cs,op⟩) hm ⟨⟨fun h=>IX ht h,fun h=>La hq h⟩,KM hcs,hop⟩ hf hb hn hr hal he⟩
theorem WR {P:Program} {f:FuncId} {ps:List Prm} {own:Bool} {m:Kr ((nf ps).map PK.ty)→Option (Kr ((xv ps [.o .b]).map RK.ty))} (hc:bz P ⟨f,ps,[.o .b],own,m⟩) {x:Kr ((nf ps).map PK.ty)} {res:Kr ((xv ps [.o .b]).map RK.ty)} (hm:m x=some res) {e:Env} {w:World} {b:Bool} {args:List Value}
 (hbs:Bs w) (hp:fH w [] e 0 (nf ps) (Dp PK.put (nf ps) x)) (ht:dJ e 0 0 ps (Dp PK.put (nf ps) x)=[]) (ha:cA e 0 0 ps (Dp PK.put (nf ps) x)=args) (ho:Dp RK.put (xv ps [.o .b]) res=[.b b]):Calls P f args.toArray w fun en w'=>en= .returned (.bool b)∧St w w' []:=by
 have h:=hc.2 x res hm e w w [] hbs hp (by rw [ht];exact St.nil w)
 rw [ha] at h
 refine h.mono ?_
 rintro en w' ⟨us,A,rfl,⟨v1,v2,v3,A1,A2,A3,hv,rfl,h1,h2,h3⟩,S⟩
 obtain ⟨v,vr,u,ur,B1,B2,rfl,rfl,rfl,⟨z,rfl,rfl,rfl⟩,rfl,rfl,rfl⟩:=h1
 rw [ho] at hv
 have:b=z:=by
  simp only [List.cons_append,List.nil_append,List.cons.injEq,PV.b.injEq] at hv
  exact hv.1
 subst this
 exact ⟨rfl,S.sub (List.nil_sublist _)⟩
def YK (l:List (Option Addr×Nat)):Env:=⟨fun _=>0,fun j=>(l.getD j (none,0)).1,fun j=>(l.getD j (none,0)).2,fun _=>.box 0 0 #[]⟩
def Zx (c n:Nat) (A:Option Addr):Option Addr:=if 2000<n then bV c (0:Int).toNat 1 A else A
theorem Uh (l:List Int):l.take 2000=aj l 0 2000:=by simp [aj]
theorem QP (c:Nat) (A:Option Addr):bV c (0:Int).toNat 1 A=A:=by
 unfold bV
 split
 ·rfl
 ·cases A with
  |none=>rfl
  |some a=>simp [Addr.add]
theorem VO (c n:Nat) (A:Option Addr):Zx c n A=bV c (0:Int).toNat 1 A:=by
 unfold Zx
 split
 ·rfl
 ·exact (QP c A).symm
theorem LO {α:Type} (l:List α):aj l 0 (LN l.length)=l.take 2000:=by
 simp only [aj,LN,Int.toNat_zero,List.drop_zero,Nat.sub_zero,Int.toNat_natCast]
 rw [Nat.min_def]
 split
 ·rfl
 ·rw [List.take_length,List.take_of_length_le (by omega)]
theorem VP {P:Program} {f T:Nat} (hc:CallOk P f) (h: ∀ {x0:List Int} {A0:Option Addr} {n0 c0:Nat} {w:World},Rt w 1 eU A0 n0 c0 x0→Calls P f #[.slice A0 n0 c0] w (fun e w'=> ∃G0,e= .returned (.pointer (some ⟨G0,0,none⟩))∧St w w' [.box G0 T #[.slice (Zx c0 n0 A0) (x0.take 2000).length c0,.int .i64 0]])):MI P f T:=
 ⟨hc,fun x0 A0 n0 c0 w hr=>by
  have:=h hr
  rw [VO,←LO] at this
  exact this⟩
end Go.Proofs.YtjdlgannencchaaGreatDoor
namespace Go.Proofs.YtjdlgannencchaaGreatDoor
open Go.Lib
set_option linter.unusedVariables false
def dZ (c:UInt8):List UInt8→List (List UInt8)
 | []=> [[]]
 |x::l=>if x=c then []::dZ c l else match dZ c l with
  | []=> [[x]]
  |y::r=>(x::y)::r
theorem zj (c:UInt8): ∀l,dZ c l≠ []
 | []=>by simp [dZ]
 |x::l=>by
  have:=zj c l
  unfold dZ;split
  ·simp
  ·split<;>simp
theorem wz (c:UInt8): ∀l,(dZ c l).length=l.count c+1
 | []=>rfl
 |x::l=>by
  have h:=wz c l
  have hn:=zj c l
  unfold dZ;split
  ·rename_i e;subst e;simp [h]
  ·rename_i e
   rw [List.count_cons_of_ne e]
   split
   ·contradiction
   ·rename_i e2;rw [e2] at h;simpa using h
theorem IA (c:UInt8): ∀l,join (dZ c l) [c]=l
 | []=>by simp [dZ,join_one]
 |x::l=>by
  have h:=IA c l
  have hn:=zj c l
  unfold dZ;split
  ·rename_i e;subst e
   rw [join_cons]
   cases hc:dZ x l with
   |nil=>contradiction
   |cons y r=>rw [hc,join_cons] at h;simp [joinTail,←h]
  ·split
   ·contradiction
   ·rename_i y r e2
    rw [e2,join_cons] at h
    rw [join_cons,←h];simp
theorem xK (c:UInt8): ∀l,c∉l→dZ c l=[l]
 | [],_=>rfl
 |x::l,h=>by
  simp only [List.mem_cons,not_or] at h
  unfold dZ
  rw [if_neg (fun e=>h.1 e.symm),xK c l h.2]
theorem PW (c x:UInt8) (l:List UInt8):dZ c (x::l)=if x=c then []::dZ c l else match dZ c l with
 | []=> [[x]]
 |y::r=>(x::y)::r:=rfl
theorem FT (c:UInt8) (b:List UInt8): ∀a,c∉a→dZ c (a++c::b)=a::dZ c b
 | [],_=>by simp [dZ]
 |x::a,h=>by
  simp only [List.mem_cons,not_or] at h
  rw [List.cons_append,PW,if_neg (fun e=>h.1 e.symm),FT c b a h.2]
theorem GA (c:UInt8) (b:List UInt8): ∀a,c∉a→index (a++c::b) [c]=(a.length:Int)
 | [],_=>by unfold index;simp [List.isPrefixOf]
 |x::a,h=>by
  simp only [List.mem_cons,not_or] at h
  have ih:=GA c b a h.2
  rw [List.cons_append]
  unfold index
  rw [ih]
  have h1:([c].isPrefixOf (x::(a++c::b)))=false:=by simp [List.isPrefixOf,h.1]
  have h2:(((a.length:Nat):Int)== -1)=false:=by rw [beq_eq_false_iff_ne];omega
  rw [h1,h2]
  simp
theorem VI {c:UInt8} {l:List UInt8} (h:c∈l): ∃a b,l=a++c::b∧c∉a:=by
 induction l with
 |nil=>cases h
 |cons x l ih=>
  by_cases e:x=c
  ·subst e;exact ⟨[],l,rfl,by simp⟩
  ·obtain ⟨a,b,rfl,k⟩:=ih (by simpa [Ne.symm e] using h)
   exact ⟨x::a,b,rfl,by simp [Ne.symm e,k]⟩
theorem Hn (c:UInt8): ∀(k:Nat) (l:List UInt8),l.count c=k→splitK [c] 0 k l=dZ c l
 |0,l,h=>by
  have:c∉l:=List.count_eq_zero.1 h
  rw [xK c l this];rfl
 |k+1,l,h=>by
  have hm:c∈l:=List.count_pos_iff.1 (by omega)
  obtain ⟨a,b,rfl,hn⟩:=VI hm
  rw [FT c b a hn]
  unfold splitK
  rw [GA c b a hn]
  have h2:(((a.length:Nat):Int)== -1)=false:=by rw [beq_eq_false_iff_ne];omega
  rw [h2]
  have hc:b.count c=k:=by
   rw [List.count_append,List.count_cons_self,List.count_eq_zero.2 hn] at h;omega
  have:=Hn c k b hc
  simp [this]
def nL (c:UInt8):Bool:=decide (48≤c.toNat)&&decide (c.toNat≤57)
def dv (c:UInt8):Nat:=c.toNat-48
def pf (l:List UInt8):Nat:=l.foldl (fun n c=>10*n+dv c) 0
def Na (l:List UInt8):Int:=if 1≤l.length∧l.length≤3∧l.all nL=true then (pf l:Int) else-1
def bD (l:List UInt8):Int:=if (1≤l.length∧l.length≤3∧l.all nL=true)∧ ¬(1<l.length∧l.headD 0=48) then (pf l:Int) else-1
theorem zM {c:UInt8} (h:nL c=true):48≤c.toNat∧c.toNat≤57:=by simpa [nL] using h
theorem tX {c:UInt8} (h:nL c=true):dv c<10:=by have:=zM h;unfold dv;omega
theorem xM {c:UInt8} (h:nL c=true):UInt8.ofNat (48+dv c)=c:=by
 have:=zM h
 have e:48+dv c=c.toNat:=by unfold dv;omega
 rw [e];simp
theorem Ov {c:UInt8} (h:nL c=true):c=48↔dv c=0:=by
 have:=zM h
 constructor
 ·rintro rfl;rfl
 ·intro e
  have e1:c.toNat=48:=by unfold dv at e;omega
  exact UInt8.toNat_inj.1 (by rw [e1];rfl)
theorem Ve (l:List UInt8) (h:1≤l.length∧l.length≤3∧l.all nL=true):decDigits (pf l)=l↔ ¬(1<l.length∧l.headD 0=48):=by
 obtain ⟨h1,h2,h3⟩:=h
 match l,h1,h2,h3 with
 | [a],_,_,h3=>
  have ha:nL a=true:=by simpa using h3
  have h0:pf [a]=dv a:=by simp [pf]
  rw [h0,decDigits_one (tX ha),xM ha];simp
 | [a,b],_,_,h3=>
  simp only [List.all_cons,List.all_nil,Bool.and_true,Bool.and_eq_true] at h3
  obtain ⟨ha,hb⟩:=h3
  have la:=tX ha;have lb:=tX hb
  have h0:pf [a,b]=10*dv a+dv b:=by simp [pf]
  rw [h0]
  simp only [List.length_cons,List.length_nil,List.headD_cons,Ov ha]
  by_cases hz:dv a=0
  ·rw [hz,decDigits_one (by omega)];simp
  ·rw [decDigits_two (by omega) (by omega),show (10*dv a+dv b) / 10=dv a by omega,show (10*dv a+dv b) % 10=dv b by omega,xM ha,xM hb];simp [hz]
 | [a,b,c],_,_,h3=>
  simp only [List.all_cons,List.all_nil,Bool.and_true,Bool.and_eq_true] at h3
  obtain ⟨ha,hb,hc⟩:=h3
  have la:=tX ha;have lb:=tX hb;have lc:=tX hc
  have h0:pf [a,b,c]=10*(10*dv a+dv b)+dv c:=by simp [pf]
  rw [h0]
  simp only [List.length_cons,List.length_nil,List.headD_cons,Ov ha]
  by_cases hz:dv a=0
  ·have hl:(decDigits (10*(10*dv a+dv b)+dv c)).length≤2:=by
    rw [hz]
    by_cases h10:10*(10*0+dv b)+dv c<10
    ·rw [decDigits_one h10];simp
    ·rw [decDigits_two h10 (by omega)];simp
   constructor
   ·intro e;rw [e] at hl;simp at hl
   ·intro e;exact absurd ⟨by omega,hz⟩ e
  ·rw [decDigits,dif_neg (by omega),decDigits_two (by omega) (by omega),show (10*(10*dv a+dv b)+dv c) / 10 / 10=dv a by omega,show (10*(10*dv a+dv b)+dv c) / 10 % 10=dv b by omega,show (10*(10*dv a+dv b)+dv c) % 10=dv c by omega,xM ha,xM hb,xM hc];simp [hz]
theorem SY (l:List UInt8):(0≤Na l∧decDigits (Na l).toNat=l)↔0≤bD l:=by
 unfold Na bD
 by_cases h:1≤l.length∧l.length≤3∧l.all nL=true
 ·rw [if_pos h,Int.toNat_natCast,Ve l h]
  by_cases h2:1<l.length∧l.headD 0=48
  ·rw [if_neg (fun k=>k.2 h2)];exact ⟨fun k=>absurd h2 k.2,fun k=>by omega⟩
  ·rw [if_pos ⟨h,h2⟩];simp only [h2,not_false_eq_true,and_true]
 ·rw [if_neg h,if_neg (fun k=>h k.1)];simp
theorem wH {l:List UInt8} (h:0≤bD l):Na l=bD l:=by
 unfold bD at*
 split at h
 ·rename_i k;rw [if_pos k];unfold Na;rw [if_pos k.1]
 ·omega
theorem Ul (l:List UInt8) (h:l.length≤3∧l.all nL=true):pf l<1000:=by
 obtain ⟨h2,h3⟩:=h
 match l,h2,h3 with
 | [],_,_=>simp [pf]
 | [a],_,h3=>have:=tX (c:=a) (by simpa using h3);simp [pf];omega
 | [a,b],_,h3=>
  simp only [List.all_cons,List.all_nil,Bool.and_true,Bool.and_eq_true] at h3
  have:=tX h3.1;have:=tX h3.2;simp [pf];omega
 | [a,b,c],_,h3=>
  simp only [List.all_cons,List.all_nil,Bool.and_true,Bool.and_eq_true] at h3
  have:=tX h3.1;have:=tX h3.2.1;have:=tX h3.2.2;simp [pf];omega
theorem XC (l:List UInt8): -1≤Na l∧Na l<1000:=by
 unfold Na;split
 ·rename_i h;have:=Ul l h.2;omega
 ·omega
theorem Pe (l:List UInt8): -1≤bD l∧bD l<1000:=by
 unfold bD;split
 ·rename_i h;have:=Ul l h.1.2;omega
 ·omega
end Go.Proofs.YtjdlgannencchaaGreatDoor
namespace Go.Proofs.YtjdlgannencchaaGreatDoor
open Go.Lib
set_option linter.unusedVariables false
def ba (l:List UInt8):ByteArray:=⟨l.toArray⟩
theorem kY (l:List UInt8):(ba l).data.toList=l:=by simp [ba]
theorem mn (l:List UInt8):(ba l).toList=l:=by rw [ByteArray.toList_eq];exact kY l
theorem cE (l:List UInt8):(ba l).size=l.length:=by show l.toArray.size=l.length;simp
theorem re (s:ByteArray):ba s.data.toList=s:=by cases s;simp [ba]
def bU (n:Int):Option ByteArray:=au (decide (-9223372036854775808≤n∧n≤9223372036854775807)) (some (ba (itoa n)))
def fN (s sep:ByteArray):Option (List ByteArray):=au (decide (s.size<4294967281)&&decide (sep=ba [32])) (some ((dZ 32 s.data.toList).map ba))
def dH (xs:List ByteArray) (sep:ByteArray):Option ByteArray:=au (decide ((join (xs.map (·.data.toList)) sep.data.toList).length≤140737488355328∧xs.length≤140737488355328)) (some (ba (join (xs.map (·.data.toList)) sep.data.toList)))
def aT (n:Int):Option ByteArray:=au (decide (0≤n∧n≤9223372036854775807)) (some (ba (decDigits n.toNat)))
def Nt (b:Int) (ls:List (Int×Int×Int)):List UInt8:=itoa b++ls.flatMap fun x=>32::(itoa x.1++45::(itoa x.2.1++58::itoa x.2.2))
def Zw (n:Int):Bool:=decide (-9223372036854775808≤n∧n≤9223372036854775807)
def ST (b:Int) (ls:List (Int×Int×Int)):Bool:=Zw b&&decide (ls.length≤1000)&&ls.all fun x=>Zw x.1&&Zw x.2.1&&Zw x.2.2
def Ff:List (ByteArray×Int):=[(⟨#[111,110]⟩,0),(⟨#[111,102,102]⟩,1),(⟨#[101,97,114,116,104]⟩,2),(⟨#[99,108,101,97,114]⟩,3),(⟨#[98,114,101,97,107]⟩,6)]
def Fg:List (ByteArray×Int):=[(⟨#[105,115,115,117,101]⟩,4),(⟨#[114,101,116,117,114,110]⟩,5),(⟨#[109,101,110,100]⟩,7)]
def oP:List (ByteArray×Int)→ByteArray→Int×Bool
 | [],_=>(0,false)
 |(k,v)::l,s=>bif s==k then (v,true) else oP l s
end Go.Proofs.YtjdlgannencchaaGreatDoor
namespace Go.Proofs
open Go.Shelf
def Tryz.lays169_ren:Go.Shelf.Ren:=⟨fun |169=>104 |n=>n,fun |70=>129 |9=>9 |0=>0 |72=>131 |37=>22 |127=>193 |3=>3 |5=>5 |n=>n,fun |n=>n⟩
theorem Tryz.lays169:Go.Proofs.Lays.n169 Tryz.prog Tryz.lays169_ren:= {
 mixed:=by kernel_rfl
 f169:=Tryz.func104.trans (congrArg some (by kernel_rfl))
 t0:=Tryz.underlying0
 a0:=Tryz.isAgg0
 z0:=Tryz.sizeOf0
 v0:=Tryz.zeroValue0
 t3:=Tryz.underlying3
 a3:=Tryz.isAgg3
 z3:=Tryz.sizeOf3
 v3:=Tryz.zeroValue3
 t9:=Tryz.underlying9
 a9:=Tryz.isAgg9
 z9:=Tryz.sizeOf9
 v9:=Tryz.zeroValue9
 t37:=Tryz.underlying22
 a37:=Tryz.isAgg22
 z37:=Tryz.sizeOf22
 v37:=Tryz.zeroValue22
 t70:=Tryz.underlying129
 a70:=Tryz.isAgg129
 z70:=Tryz.sizeOf129
 v70:=Tryz.zeroValue129
 t72:=Tryz.underlying131
 a72:=Tryz.isAgg131
 z72:=Tryz.sizeOf131
 v72:=Tryz.zeroValue131
 t127:=Tryz.underlying193
 a127:=Tryz.isAgg193
 z127:=Tryz.sizeOf193
 v127:=Tryz.zeroValue193}
theorem Tryz.Builder_Extra_169:Builder.Extra Tryz.prog Tryz.lays169_ren:= {
 sizeBuilder:=by kernel_rfl
 liesBuilder:=by kernel_rfl
 t5:=Tryz.underlying5
 a5:=Tryz.isAgg5
 z5:=Tryz.sizeOf5
 v5:=Tryz.zeroValue5
 infoByte:=by kernel_rfl
 cellsByte:=by kernel_rfl
 sizeByte:=by kernel_rfl
 neB5:=by decide}
def Tryz.lays156_ren:Go.Shelf.Ren:=⟨fun |156=>122 |165=>184 |166=>102 |169=>104 |240=>166 |241=>218 |276=>202 |277=>235 |n=>n,fun |31=>34 |9=>9 |3=>3 |4=>4 |0=>0 |20=>20 |72=>131 |76=>134 |70=>129 |37=>22 |75=>133 |127=>193 |164=>217 |5=>5 |80=>136 |n=>n,fun |n=>n⟩
theorem Tryz.lays156:Go.Proofs.Lays.n156 Tryz.prog Tryz.lays156_ren:= {
 mixed:=by kernel_rfl
 f156:=Tryz.func122.trans (congrArg some (by kernel_rfl))
 f165:=Tryz.func184.trans (congrArg some (by kernel_rfl))
 f166:=Tryz.func102.trans (congrArg some (by kernel_rfl))
 f169:=Tryz.func104.trans (congrArg some (by kernel_rfl))
 f240:=Tryz.func166.trans (congrArg some (by kernel_rfl))
 f241:=Tryz.func218.trans (congrArg some (by kernel_rfl))
 f276:=Tryz.func202.trans (congrArg some (by kernel_rfl))
 f277:=Tryz.func235.trans (congrArg some (by kernel_rfl))
 t0:=Tryz.underlying0
 a0:=Tryz.isAgg0
 z0:=Tryz.sizeOf0
 v0:=Tryz.zeroValue0
 t3:=Tryz.underlying3
 a3:=Tryz.isAgg3
 z3:=Tryz.sizeOf3
 v3:=Tryz.zeroValue3
 t4:=Tryz.underlying4
 a4:=Tryz.isAgg4
 z4:=Tryz.sizeOf4
 v4:=Tryz.zeroValue4
 t9:=Tryz.underlying9
 a9:=Tryz.isAgg9
 z9:=Tryz.sizeOf9
 v9:=Tryz.zeroValue9
 t20:=Tryz.underlying20
 a20:=Tryz.isAgg20
 z20:=Tryz.sizeOf20
 v20:=Tryz.zeroValue20
 t31:=Tryz.underlying34
 a31:=Tryz.isAgg34
 z31:=Tryz.sizeOf34
 v31:=Tryz.zeroValue34
 t37:=Tryz.underlying22
 a37:=Tryz.isAgg22
 z37:=Tryz.sizeOf22
 v37:=Tryz.zeroValue22
 t70:=Tryz.underlying129
 a70:=Tryz.isAgg129
 z70:=Tryz.sizeOf129
 v70:=Tryz.zeroValue129
 t72:=Tryz.underlying131
 a72:=Tryz.isAgg131
 z72:=Tryz.sizeOf131
 v72:=Tryz.zeroValue131
 t75:=Tryz.underlying133
 a75:=Tryz.isAgg133
 z75:=Tryz.sizeOf133
 v75:=Tryz.zeroValue133
 t76:=Tryz.underlying134
 a76:=Tryz.isAgg134
 z76:=Tryz.sizeOf134
 v76:=Tryz.zeroValue134
 t127:=Tryz.underlying193
 a127:=Tryz.isAgg193
 z127:=Tryz.sizeOf193
 v127:=Tryz.zeroValue193
 t164:=Tryz.underlying217
 a164:=Tryz.isAgg217
 z164:=Tryz.sizeOf217
 v164:=Tryz.zeroValue217}
theorem Tryz.Builder_Extra_156:Builder.Extra Tryz.prog Tryz.lays156_ren:= {
 sizeBuilder:=by kernel_rfl
 liesBuilder:=by kernel_rfl
 t5:=Tryz.underlying5
 a5:=Tryz.isAgg5
 z5:=Tryz.sizeOf5
 v5:=Tryz.zeroValue5
 infoByte:=by kernel_rfl
 cellsByte:=by kernel_rfl
 sizeByte:=by kernel_rfl
 neB5:=by decide}
open Go.RowKit in
theorem Tryz.strings_Join (bk o c:Nat) (xs:List ByteArray) (sep:ByteArray) (w:World) (hcells: ∀(j:Nat) x,xs[j]?=some x→w.cell? ⟨bk,o+j,none⟩=some (.string x)) (hbk:bk<w.heap.size) (hN:xs.length≤140737488355328) (hcap:xs.length≤c) (hlen:(Lib.join (xs.map (·.data.toList)) sep.data.toList).length≤140737488355328):
 Calls Tryz.prog 122 #[.slice (some ⟨bk,o,none⟩) xs.length c,.string sep] w fun e w'=>e= .returned (.string ⟨(Lib.join (xs.map (·.data.toList)) sep.data.toList).toArray⟩)∧Below w.heap.size w w':=Any.strings_Join Tryz.lays156 Tryz.Builder_Extra_156 bk o c xs sep w hcells hbk hN hcap hlen
open Go.RowKit in
theorem Tryz.Builder_String_any_k (B b:Nat) (l:List UInt8) (w:World) (h:Lib.IsBuilderF 131 5 B b (Lib.byteCells l) w) (hBw:B≤w.heap.size):
 Calls Tryz.prog 104 #[.pointer (some ⟨b,0,none⟩)] w fun e w'=>e= .returned (.string ⟨l.toArray⟩)∧(Lib.IsBuilderF 131 5 B b (Lib.byteCells l) w'∧Below B w w'∧Lib.OthersKept 5 (some b) w w'):=Any.Builder_String_any_k Tryz.lays169 Tryz.Builder_Extra_169 B b l w h hBw
def Tryz.laysM171_ren:Go.Shelf.Ren:=⟨fun |171=>103 |243=>167 |246=>203 |283=>223 |284=>224 |285=>225 |286=>226 |129=>241 |317=>240 |318=>242 |319=>243 |320=>244 |337=>249 |338=>250 |n=>n,fun |3=>3 |9=>9 |2=>2 |4=>4 |171=>230 |0=>0 |53=>231 |37=>22 |5=>5 |173=>234 |212=>240 |51=>241 |20=>20 |213=>242 |46=>227 |232=>252 |233=>253 |n=>n,fun |17=>1 |18=>4 |19=>5 |n=>n⟩
theorem Tryz.laysM171:Go.Proofs.LaysM.n171 Tryz.prog Tryz.laysM171_ren:= {
 mixed:=by kernel_rfl
 f129:=Tryz.func241.trans (congrArg some (by kernel_rfl))
 f171:=Tryz.func103.trans (congrArg some (by kernel_rfl))
 f243:=Tryz.func167.trans (congrArg some (by kernel_rfl))
 f246:=Tryz.func203.trans (congrArg some (by kernel_rfl))
 f283:=Tryz.func223.trans (congrArg some (by kernel_rfl))
 f284:=Tryz.func224.trans (congrArg some (by kernel_rfl))
 f285:=Tryz.func225.trans (congrArg some (by kernel_rfl))
 f286:=Tryz.func226.trans (congrArg some (by kernel_rfl))
 f317:=Tryz.func240.trans (congrArg some (by kernel_rfl))
 f318:=Tryz.func242.trans (congrArg some (by kernel_rfl))
 f319:=Tryz.func243.trans (congrArg some (by kernel_rfl))
 f320:=Tryz.func244.trans (congrArg some (by kernel_rfl))
 f337:=Tryz.func249.trans (congrArg some (by kernel_rfl))
 f338:=Tryz.func250.trans (congrArg some (by kernel_rfl))
 t0:=Tryz.underlying0
 a0:=Tryz.isAgg0
 z0:=Tryz.sizeOf0
 v0:=Tryz.zeroValue0
 t2:=Tryz.underlying2
 a2:=Tryz.isAgg2
 z2:=Tryz.sizeOf2
 v2:=Tryz.zeroValue2
 t3:=Tryz.underlying3
 a3:=Tryz.isAgg3
 z3:=Tryz.sizeOf3
 v3:=Tryz.zeroValue3
 t4:=Tryz.underlying4
 a4:=Tryz.isAgg4
 z4:=Tryz.sizeOf4
 v4:=Tryz.zeroValue4
 t5:=Tryz.underlying5
 a5:=Tryz.isAgg5
 z5:=Tryz.sizeOf5
 v5:=Tryz.zeroValue5
 t9:=Tryz.underlying9
 a9:=Tryz.isAgg9
 z9:=Tryz.sizeOf9
 v9:=Tryz.zeroValue9
 t20:=Tryz.underlying20
 a20:=Tryz.isAgg20
 z20:=Tryz.sizeOf20
 v20:=Tryz.zeroValue20
 t37:=Tryz.underlying22
 a37:=Tryz.isAgg22
 z37:=Tryz.sizeOf22
 v37:=Tryz.zeroValue22
 t46:=Tryz.underlying227
 a46:=Tryz.isAgg227
 z46:=Tryz.sizeOf227
 v46:=Tryz.zeroValue227
 t51:=Tryz.underlying241
 a51:=Tryz.isAgg241
 z51:=Tryz.sizeOf241
 v51:=Tryz.zeroValue241
 t53:=Tryz.underlying231
 a53:=Tryz.isAgg231
 z53:=Tryz.sizeOf231
 v53:=Tryz.zeroValue231
 t171:=Tryz.underlying230
 a171:=Tryz.isAgg230
 z171:=Tryz.sizeOf230
 v171:=Tryz.zeroValue230
 t173:=Tryz.underlying234
 a173:=Tryz.isAgg234
 z173:=Tryz.sizeOf234
 v173:=Tryz.zeroValue234
 t212:=Tryz.underlying240
 a212:=Tryz.isAgg240
 z212:=Tryz.sizeOf240
 v212:=Tryz.zeroValue240
 t213:=Tryz.underlying242
 a213:=Tryz.isAgg242
 z213:=Tryz.sizeOf242
 t232:=Tryz.underlying252
 a232:=Tryz.isAgg252
 z232:=Tryz.sizeOf252
 v232:=Tryz.zeroValue252
 t233:=Tryz.underlying253
 a233:=Tryz.isAgg253
 z233:=Tryz.sizeOf253
 v233:=Tryz.zeroValue253
 g17:=by kernel_rfl
 g18:=by kernel_rfl
 g19:=by kernel_rfl
 i0:=by kernel_rfl
 i2:=by kernel_rfl
 i3:=by kernel_rfl
 i4:=by kernel_rfl
 i5:=by kernel_rfl
 i9:=by kernel_rfl
 i20:=by kernel_rfl
 i37:=by kernel_rfl
 i46:=by kernel_rfl
 i51:=by kernel_rfl
 i53:=by kernel_rfl
 i171:=by kernel_rfl
 i173:=by kernel_rfl
 i212:=by kernel_rfl
 i232:=by kernel_rfl
 i233:=by kernel_rfl
 m17:=by kernel_rfl
 m18:=by kernel_rfl
 m19:=by kernel_rfl}
def Tryz.lays146_ren:Go.Shelf.Ren:=⟨fun |146=>51 |221=>117 |268=>176 |138=>177 |143=>178 |195=>208 |197=>209 |218=>210 |219=>211 |260=>227 |217=>228 |225=>229 |224=>230 |267=>231 |266=>245 |314=>246 |n=>n,fun |9=>9 |31=>34 |3=>3 |4=>4 |0=>0 |105=>224 |21=>21 |5=>5 |46=>227 |119=>244 |139=>247 |138=>246 |146=>248 |51=>241 |n=>n,fun |1=>0 |3=>2 |4=>3 |n=>n⟩
theorem Tryz.lays146:Go.Proofs.Lays.n146 Tryz.prog Tryz.lays146_ren:= {
 mixed:=by kernel_rfl
 f138:=Tryz.func177.trans (congrArg some (by kernel_rfl))
 f143:=Tryz.func178.trans (congrArg some (by kernel_rfl))
 f146:=Tryz.func51.trans (congrArg some (by kernel_rfl))
 f195:=Tryz.func208.trans (congrArg some (by kernel_rfl))
 f197:=Tryz.func209.trans (congrArg some (by kernel_rfl))
 f217:=Tryz.func228.trans (congrArg some (by kernel_rfl))
 f218:=Tryz.func210.trans (congrArg some (by kernel_rfl))
 f219:=Tryz.func211.trans (congrArg some (by kernel_rfl))
 f221:=Tryz.func117.trans (congrArg some (by kernel_rfl))
 f224:=Tryz.func230.trans (congrArg some (by kernel_rfl))
 f225:=Tryz.func229.trans (congrArg some (by kernel_rfl))
 f260:=Tryz.func227.trans (congrArg some (by kernel_rfl))
 f266:=Tryz.func245.trans (congrArg some (by kernel_rfl))
 f267:=Tryz.func231.trans (congrArg some (by kernel_rfl))
 f268:=Tryz.func176.trans (congrArg some (by kernel_rfl))
 f314:=Tryz.func246.trans (congrArg some (by kernel_rfl))
 t0:=Tryz.underlying0
 a0:=Tryz.isAgg0
 z0:=Tryz.sizeOf0
 v0:=Tryz.zeroValue0
 t3:=Tryz.underlying3
 a3:=Tryz.isAgg3
 z3:=Tryz.sizeOf3
 v3:=Tryz.zeroValue3
 t4:=Tryz.underlying4
 a4:=Tryz.isAgg4
 z4:=Tryz.sizeOf4
 v4:=Tryz.zeroValue4
 t5:=Tryz.underlying5
 a5:=Tryz.isAgg5
 z5:=Tryz.sizeOf5
 v5:=Tryz.zeroValue5
 t9:=Tryz.underlying9
 a9:=Tryz.isAgg9
 z9:=Tryz.sizeOf9
 v9:=Tryz.zeroValue9
 t21:=Tryz.underlying21
 a21:=Tryz.isAgg21
 z21:=Tryz.sizeOf21
 v21:=Tryz.zeroValue21
 t31:=Tryz.underlying34
 a31:=Tryz.isAgg34
 z31:=Tryz.sizeOf34
 v31:=Tryz.zeroValue34
 t46:=Tryz.underlying227
 a46:=Tryz.isAgg227
 z46:=Tryz.sizeOf227
 v46:=Tryz.zeroValue227
 t51:=Tryz.underlying241
 a51:=Tryz.isAgg241
 z51:=Tryz.sizeOf241
 v51:=Tryz.zeroValue241
 t105:=Tryz.underlying224
 a105:=Tryz.isAgg224
 z105:=Tryz.sizeOf224
 v105:=Tryz.zeroValue224
 t119:=Tryz.underlying244
 a119:=Tryz.isAgg244
 z119:=Tryz.sizeOf244
 t138:=Tryz.underlying246
 a138:=Tryz.isAgg246
 z138:=Tryz.sizeOf246
 v138:=Tryz.zeroValue246
 t139:=Tryz.underlying247
 a139:=Tryz.isAgg247
 z139:=Tryz.sizeOf247
 v139:=Tryz.zeroValue247
 t146:=Tryz.underlying248
 a146:=Tryz.isAgg248
 z146:=Tryz.sizeOf248
 v146:=Tryz.zeroValue248
 g1:=by kernel_rfl
 g3:=by kernel_rfl
 g4:=by kernel_rfl}
open Go.RowKit Go.Lib in
theorem Tryz.strings_Split (s sep:ByteArray) (m:Int) (w:World) (hs:s.size<4294967281) (hm:w.cell? ⟨0,0,none⟩=some (.int .i64 m)) (h1:1≤sep.size):
 Calls Tryz.prog 51 #[.string s,.string sep] w fun e w'=>
  e= .returned (.slice (some ⟨w.heap.size,0,none⟩) (Lib.countB s sep+1) (Lib.countB s sep+1))∧w'=w.alloc (.cells ((Lib.splitB sep 0 (Lib.countB s sep) s).map Value.string).toArray 9):=Any.strings_Split Tryz.lays146 (by kernel_rfl) s sep m w hs hm h1
end Go.Proofs
namespace Go.Proofs.YtjdlgannencchaaGreatDoor
open Go.ChangeShapes Go.WideShapes Go.ChangeAt Go.RowKit
set_option linter.unusedVariables false
set_option linter.unusedSimpArgs false
theorem MP (w:World) (k:Nat) (os:Array Obj):Below w.heap.size w (Go.Sort.grow (w.drewN k) os):=by
 have h: ∀k,(w.drewN k).heap=w.heap∧(w.drewN k).os=w.os∧(w.drewN k).tape=w.tape∧(w.drewN k).output=w.output:=by
  intro k
  induction k with
  |zero=>exact ⟨rfl,rfl,rfl,rfl⟩
  |succ k ih=>exact ih
 obtain ⟨h1,h2,h3,h4⟩:=h k
 refine ⟨h2,h3,h4,by simp [Go.Sort.grow,h1],fun b hb=>?_⟩
 show ((w.drewN k).heap++os)[b]?=_
 rw [h1,Array.getElem?_append_left hb]
theorem rG {w:World} (hb:Bs w) {n:Int} (h: -9223372036854775808≤n∧n≤9223372036854775807) {w1:World} (h1:Below w.heap.size w w1):Calls Tryz.prog 103 #[.int .i64 n] w1 fun e w'=>e= .returned (.string (ba (Lib.itoa n)))∧Below w1.heap.size w1 w':=by
 refine (Any.strconv_Itoa Tryz.laysM171 n h.1 h.2 w1 (hb.1 w1 h1)).mono ?_
 rintro e w' ⟨rfl,k,os,rfl⟩
 exact ⟨rfl,MP _ _ _⟩
theorem Yj {n:Int} {r:ByteArray} (h:bU n=some r):(-9223372036854775808≤n∧n≤9223372036854775807)∧ba (Lib.itoa n)=r:=by
 obtain ⟨h,hm⟩:=cY h
 injection hm with hm
 exact ⟨of_decide_eq_true h,hm⟩
theorem Tk {e:Env} {ps:List Prm} {x:Kr ((nf ps).map PK.ty)} (s:ByteArray) (hps:HR e (zU (Dp PK.put (nf ps) x)) 0 0 ps (Dp PK.put (nf ps) x) [] []) (hw:HT e 0 ps (Dp PK.put (nf ps) x) [] []):Ia e ps [.o .s] (Dp PK.put (nf ps) x) [.s s] [.string s] []:=
 ⟨[_],[],[],[],[],[],rfl,rfl,⟨_,[],_,[],[],[],rfl,rfl,rfl,⟨_,rfl,rfl,rfl⟩,rfl,rfl,rfl⟩,hps,hw⟩
theorem Vq (co:CallOk Tryz.prog 103):bz Tryz.prog ⟨103,[.o (.int .i64)],[.o .s],false,fun x=>bU x⟩:=⟨co,fun x res hm e w0 w X hbs hp hS=>by
 obtain ⟨h,hm⟩:=Yj (n:=x) hm
 subst hm
 refine (rG hbs h hS.below).mono ?_
 rintro en w' ⟨rfl,hb⟩
 exact ⟨[_],[],rfl,Tk (ps:=[.o (.int .i64)]) (x:=x) _ ⟨rfl,rfl⟩ ⟨[],[],[],[],rfl,rfl,⟨rfl,rfl⟩,⟨rfl,rfl⟩⟩,hS.quiet hb⟩⟩
theorem QO (s:ByteArray):Lib.splitB (ba [32]) 0 (Lib.countB s (ba [32])) s=(dZ 32 s.data.toList).map ba:=by
 have h:=Lib.splitB_data (ba [32]) 0 (Lib.countB s (ba [32])) s
 have hc:Lib.countB s (ba [32])=s.data.toList.count 32:=Lib.count_one 32 s.data.toList
 rw [kY,Hn 32 _ _ hc.symm] at h
 rw [←h,List.map_map]
 conv=>lhs;rw [←List.map_id (Lib.splitB _ _ _ _)]
 exact List.map_congr_left fun a _=>(re a).symm
theorem Sh (co:CallOk Tryz.prog 51):bz Tryz.prog ⟨51,[.o .s,.o .s],[.o (.row 9 .s)],false,fun x=>fN x.1 x.2⟩:=⟨co,fun x res hm e w0 w X hbs hp hS=>by
 obtain ⟨s,sep⟩:=x
 obtain ⟨h,hm⟩:=cY (show fN s sep=some res from hm)
 injection hm with hm
 subst hm
 simp only [Bool.and_eq_true,decide_eq_true_eq] at h
 obtain ⟨h1,rfl⟩:=h
 obtain ⟨m,hm⟩:=hbs.2
 refine (Tryz.strings_Split s (ba [32]) m w h1 (hm w hS.below) (by decide)).mono ?_
 rintro en w' ⟨rfl,rfl⟩
 rw [QO]
 have hl:Lib.countB s (ba [32])+1=((dZ 32 s.data.toList).map ba).length:=by
  rw [List.length_map,wz];exact congrArg (· +1) (Lib.count_one 32 s.data.toList)
 rw [hl]
 have hle:((dZ 32 s.data.toList).map ba).length≤1099511627776:=by
  rw [List.length_map,wz]
  have:=List.count_le_length (a:=(32:UInt8)) (l:=s.data.toList)
  have h2:s.data.toList.length=s.size:=by simp
  omega
 have hf:((dZ 32 s.data.toList).map ba).map Value.string=((dZ 32 s.data.toList).map ba).flatMap (EK.s).enc:=by
  rw [List.map_eq_flatMap];rfl
 rw [hf]
 have S:=(St.nil w).newrowL (e:=(EK.s).enc) (ls:=(dZ 32 s.data.toList).map ba) (E:=9) (size:=1) (m:=((dZ 32 s.data.toList).map ba).length) rfl (fun _=>rfl) hle
 exact ⟨[_],[_],rfl,⟨[_],[],[],[_],[],[],rfl,rfl,⟨_,[],_,[],[_],[],rfl,rfl,rfl,⟨_,_,_,rfl,rfl,rfl⟩,rfl,rfl,rfl⟩,⟨rfl,rfl⟩,⟨[],[],[],[],rfl,rfl,⟨rfl,rfl⟩,⟨[],[],[],[],rfl,rfl,⟨rfl,rfl⟩,⟨rfl,rfl⟩⟩⟩⟩,hS.call S⟩⟩
theorem Yl {xs:List ByteArray} {sep r:ByteArray} (h:dH xs sep=some r):((Lib.join (xs.map (·.data.toList)) sep.data.toList).length≤140737488355328∧xs.length≤140737488355328)∧ba (Lib.join (xs.map (·.data.toList)) sep.data.toList)=r:=by
 obtain ⟨h,hm⟩:=cY h
 injection hm with hm
 exact ⟨of_decide_eq_true h,hm⟩
theorem Vr (co:CallOk Tryz.prog 122):bz Tryz.prog ⟨122,[.o (.sl .ro 9 .s),.o .s],[.o .s],false,fun x=>dH x.1 x.2⟩:=⟨co,fun x res hm e w0 w X hbs hp hS=>by
 obtain ⟨xs,sep⟩:=x
 obtain ⟨h,hm⟩:=Yl (xs:=xs) (sep:=sep) hm
 subst hm
 obtain ⟨v,vr,hv,⟨l,hl,hro⟩,_⟩:=hp
 have hl:=(List.head_eq_of_cons_eq hv).trans hl
 injection hl with _ hl
 subst hl
 have R:=hro w _ hS (fun y hy=>List.mem_append_right _ hy)
 have yg: ∀ {en:Ending} {w':World},(en= .returned (.string (ba (Lib.join (xs.map (·.data.toList)) sep.data.toList)))∧Below w.heap.size w w')→ ∃us A,en= .returned (NC us)∧Ia e [.o (.sl .ro 9 .s),.o .s] [.o .s] (Dp PK.put (nf [.o (.sl .ro 9 .s),.o .s]) (xs,sep)) [.s (ba (Lib.join (xs.map (·.data.toList)) sep.data.toList))] us A∧St w0 w' (A++X):=by
  rintro en w' ⟨rfl,hb⟩
  exact ⟨[_],[],rfl,Tk (ps:=[.o (.sl .ro 9 .s),.o .s]) (x:=(xs,sep)) _ ⟨rfl,rfl⟩ ⟨[],[],[],[],rfl,rfl,⟨rfl,rfl⟩,⟨[],[],[],[],rfl,rfl,⟨rfl,rfl⟩,⟨rfl,rfl⟩⟩⟩,hS.quiet hb⟩
 show Calls Tryz.prog 122 #[.slice (e.a 0) xs.length (e.c 0),.string sep] w _
 cases xs with
 |nil=>
  refine (Any.strings_Join_none Tryz.lays156 Tryz.Builder_Extra_156 (e.a 0) (e.c 0) sep w).mono ?_
  rintro en w' ⟨rfl,rfl⟩
  exact yg ⟨rfl,Below.refl _ _⟩
 |cons y r=>
  obtain ⟨b,off,hA,hcell⟩:=R.rd.2 (by simp)
  rw [hA]
  have hf: ∀(l:List ByteArray),l.flatMap (EK.s).enc=l.map Value.string:=fun l=>by rw [List.map_eq_flatMap];rfl
  rw [hf] at hcell
  have hc: ∀(j:Nat) z,(y::r)[j]?=some z→w.cell? ⟨b,off+j,none⟩=some (.string z):=fun j z hz=>hcell j _ (by rw [List.getElem?_map,hz];rfl)
  have hbk:b<w.heap.size:=by
   have:=hc 0 y rfl
   rcases Nat.lt_or_ge b w.heap.size with h |h
   ·exact h
   ·simp [World.cell?,Array.getElem?_eq_none h] at this
  refine (Tryz.strings_Join b off (e.c 0) (y::r) sep w hc hbk h.2 R.cap h.1).mono ?_
  rintro en w' hh
  exact yg hh⟩
end Go.Proofs.YtjdlgannencchaaGreatDoor
namespace Go.Proofs.YtjdlgannencchaaGreatDoor
open Go.Shelf
set_option maxRecDepth 100000
def mZ:Ren where
 f:=fun x=>match x with |21=>181 |27=>214 |28=>215 |35=>233 |39=>247 |n=>n
 t:=fun x=>match x with |22=>31 |3=>3 |4=>4 |0=>0 |n=>n
 g:=fun n=>n
theorem zL:Lays2.n21 Tryz.prog mZ:=
{mixed:=Eq.refl true,f21:=Eq.trans Tryz.func181 (congrArg some (Eq.refl (Body2.n21 mZ))),
 f27:=Eq.trans Tryz.func214 (congrArg some (Eq.refl (Body2.n27 mZ))),
 f28:=Eq.trans Tryz.func215 (congrArg some (Eq.refl (Body2.n28 mZ))),
 f35:=Eq.trans Tryz.func233 (congrArg some (Eq.refl (Body2.n35 mZ))),
 f39:=Eq.trans Tryz.func247 (congrArg some (Eq.refl (Body2.n39 mZ))),t0:=Tryz.underlying0,
 a0:=Tryz.isAgg0,z0:=Tryz.sizeOf0,v0:=Tryz.zeroValue0,t3:=Tryz.underlying3,a3:=Tryz.isAgg3,
 z3:=Tryz.sizeOf3,v3:=Tryz.zeroValue3,t4:=Tryz.underlying4,a4:=Tryz.isAgg4,z4:=Tryz.sizeOf4,
 v4:=Tryz.zeroValue4,t22:=Tryz.underlying31,a22:=Tryz.isAgg31,z22:=Tryz.sizeOf31,v22:=Tryz.zeroValue31,
 i3:=Eq.refl (some (some (Value.int IntKind.i64 0),1,8))}
end Go.Proofs.YtjdlgannencchaaGreatDoor
namespace Go.Proofs.YtjdlgannencchaaGreatDoor
open Go.ChangeShapes Go.WideShapes Go.ChangeAt Go.RowKit
set_option linter.unusedVariables false
set_option linter.unusedSimpArgs false
def over:Array Value→Nat→List Value→Array Value
 |cs,_,[]=>cs
 |cs,o,v::vs=>over (cs.setIfInBounds o v) (o+1) vs
theorem pb: ∀(vs:List Value) (cs:Array Value) (o:Nat),(over cs o vs).size=cs.size
 | [],_,_=>rfl
 |v::vs,cs,o=>by rw [over,pb vs];simp
theorem xw: ∀(vs:List Value) (cs:Array Value) (o k:Nat),o+vs.length≤cs.size→(over cs o vs)[k]?=if o≤k∧k<o+vs.length then vs[k-o]? else cs[k]?
 | [],cs,o,k,_=>by rw [over,if_neg (by simp only [List.length_nil];omega)]
 |v::vs,cs,o,k,h=>by
  simp only [List.length_cons] at h ⊢
  rw [over,xw vs _ _ k (by simp;omega)]
  by_cases h1:k=o
  ·subst h1
   rw [if_neg (by omega),if_pos (by omega)]
   simp [show k<cs.size by omega]
  ·by_cases h2:o+1≤k∧k<o+1+vs.length
   ·rw [if_pos h2,if_pos (by omega),show k-o=(k-(o+1))+1 by omega];rfl
   ·rw [if_neg h2,if_neg (by omega)]
    rw [Array.getElem?_setIfInBounds_ne (by omega)]
theorem Hb {g:Nat} {E:TypeId}: ∀(vs:List Value) (cs:Array Value) (o:Nat) (w:World),Bk w g E cs→Bk (w.setCells g o vs) g E (over cs o vs)∧Grown w (w.setCells g o vs) [g]
 | [],cs,o,w,h=>⟨h,⟨rfl,rfl,rfl,Nat.le_refl _,fun _ _ _=>rfl⟩⟩
 |v::vs,cs,o,w,h=>by
  have h1:Bk (w.setCell ⟨g,o,none⟩ v) g E (cs.setIfInBounds o v):=h.set_ o v
  obtain ⟨a,b⟩:=Hb vs _ (o+1) _ h1
  exact ⟨a,(Grown.set w g o v).trans b⟩
theorem Qj {cur:Array Value} {xs:List Value} {y:Value} {off n i c:Nat} (hx:(cur.toList.drop off).take n=xs) (hl:xs.length=n) (hi:i≤n) (hc:n+1≤c) (hs:off+c≤cur.size):
 ((over (over cur (off+(i+1)) (xs.drop i)) (off+i) [y]).toList.drop off).take (n+1)=xs.take i++ [y]++xs.drop i:=by
 have hd:(xs.drop i).length=n-i:=by rw [List.length_drop,hl]
 apply List.ext_getElem?
 intro k
 by_cases hk:k<n+1
 ·rw [List.getElem?_take,if_pos hk,List.getElem?_drop,Array.getElem?_toList,xw _ _ _ _ (by rw [pb];simp;omega),xw _ _ _ _ (by rw [hd];omega)]
  have hxk: ∀j,j<n→xs[j]?=cur[off+j]?:=fun j hj=>by rw [←hx,List.getElem?_take,if_pos hj,List.getElem?_drop,Array.getElem?_toList]
  simp only [List.length_singleton,hd]
  by_cases h1:k<i
  ·rw [if_neg (by omega),if_neg (by omega),List.append_assoc,List.getElem?_append_left (by rw [List.length_take];omega),List.getElem?_take,if_pos h1,hxk k (by omega)]
  ·have hti:(xs.take i).length=i:=by rw [List.length_take];omega
   rw [List.append_assoc,List.getElem?_append_right (by omega),hti]
   by_cases h2:k=i
   ·subst h2
    rw [if_pos (by omega)];simp
   ·rw [if_neg (by omega),if_pos (by omega),show k-i=(k-i-1)+1 by omega]
    show (xs.drop i)[off+k-(off+(i+1))]?=(xs.drop i)[k-i-1]?
    congr 1;omega
 ·rw [List.getElem?_eq_none (by rw [List.length_take];omega),List.getElem?_eq_none (by simp only [List.length_append,List.length_take,List.length_drop,List.length_singleton];omega)]
end Go.Proofs.YtjdlgannencchaaGreatDoor
namespace Go.Proofs.YtjdlgannencchaaGreatDoor
open Go.ChangeShapes Go.WideShapes Go.ChangeAt Go.RowKit Go.Lib
set_option linter.unusedVariables false
set_option linter.unusedSimpArgs false
theorem vf (x:List Int):x.flatMap eI=x.map (Value.int .i64):=by
 induction x with
 |nil=>rfl
 |cons a x ih=>rw [List.flatMap_cons,ih];rfl
theorem ab3 (x:List Int): ∀v∈x.flatMap eI,v.oneCell'=true:=by
 intro v hv
 rw [vf] at hv
 obtain ⟨z,_,rfl⟩:=List.mem_map.1 hv
 rfl
theorem RV {w0 w:World} {L:List Asn} (S:St w0 w L) {k m:Nat} {a b:Asn} (ha:L[k]?=some a) (hb:L[m]?=some b) (h:k≠m):a.far b:=by
 obtain ⟨h1,h2⟩:=List.getElem?_eq_some_iff.1 ha
 obtain ⟨h3,h4⟩:=List.getElem?_eq_some_iff.1 hb
 subst h2 h4
 rcases Nat.lt_or_ge k m with h5 |h5
 ·exact List.pairwise_iff_getElem.1 S.apart k m h1 h3 h5
 ·exact (List.pairwise_iff_getElem.1 S.apart m k h3 h1 (by omega)).symm
theorem Lu {w0 w w1:World} {L:List Asn} {x:List Int} {y:Int} {g off n c k i:Nat} {cur:Array Value} (S:St w0 w L) (hk:L[k]?=some (.row 3 1 (.slice (some ⟨g,off,none⟩) n c) n (x.flatMap eI))) (hn:n=x.length)
 (hb:Bk w g 3 cur) (hx:(cur.toList.drop off).take (n*1)=x.flatMap eI) (hi:i≤n) (hroom:n+1≤c) (hc:c≤maxLen) (hs:off+c*1≤cur.size) (hw:Bk w1 g 3 cur) (hg:Grown w w1 [g]):
 St w0 ((w1.setCells g (off+(i+1)) ((x.flatMap eI).drop i)).setCells g (off+i) [.int .i64 y]) (L.set k (.row 3 1 (.slice (some ⟨g,off,none⟩) (n+1) c) (n+1) ((x.take i++ [y]++x.drop i).flatMap eI))):=by
 obtain ⟨b1,g1⟩:=Hb ((x.flatMap eI).drop i) cur (off+(i+1)) w1 hw
 obtain ⟨b2,g2⟩:=Hb [.int .i64 y] _ (off+i) _ b1
 have hl:(x.flatMap eI).length=n:=by rw [vf,List.length_map,hn]
 have hc2:=Qj (cur:=cur) (xs:=x.flatMap eI) (y:=.int .i64 y) (off:=off) (n:=n) (i:=i) (c:=c) (by simpa using hx) hl hi hroom (by omega)
 refine S.turn1 hk ((hg.trans g1).trans g2) (fun x hx=>by simpa [Asn.foot,Value.ownBlock] using hx) ?_ (fun x hx=>.inl (by simpa [Asn.foot,Value.ownBlock] using hx))
 have e:(x.take i++ [y]++x.drop i).flatMap eI=(x.flatMap eI).take i++ [.int .i64 y]++(x.flatMap eI).drop i:=by
  rw [vf,vf,List.map_append,List.map_append,List.map_take,List.map_drop];rfl
 refine ⟨?_,.inr ⟨g,off,c,_,rfl,b2,hroom,hc,?_,?_⟩⟩
 ·rw [vf,List.length_map,List.length_append,List.length_append,List.length_take,List.length_drop];simp;omega
 ·rw [pb,pb];exact hs
 ·rw [e,←hc2];simp
theorem Jw {w0 w w1:World} {L:List Asn} {x:List Int} {y:Int} {A:Option Addr} {n c k i d:Nat} {cur:Array Value} (S:St w0 w L) (hk:L[k]?=some (.row 3 1 (.slice A n c) n (x.flatMap eI))) (hn:n=x.length) (hi:i≤n)
 (hb:Bk w1 w.heap.size 3 cur) (hg:Grown w w1 []) (hx:cur.toList.take (n+1)=(x.flatMap eI).take i++ [.int .i64 y]++(x.flatMap eI).drop i) (h1:n+1≤d) (h2:d≤maxLen) (h3:d≤cur.size):
 St w0 w1 (L.set k (.row 3 1 (.slice (some ⟨w.heap.size,0,none⟩) (n+1) d) (n+1) ((x.take i++ [y]++x.drop i).flatMap eI))):=by
 have e:(x.take i++ [y]++x.drop i).flatMap eI=(x.flatMap eI).take i++ [.int .i64 y]++(x.flatMap eI).drop i:=by
  rw [vf,vf,List.map_append,List.map_append,List.map_take,List.map_drop];rfl
 refine S.turn1 hk hg (fun x hx=>by simp at hx) ?_ (fun x hx=>.inr (by simp [Asn.foot,Value.ownBlock] at hx;omega))
 refine ⟨?_,.inr ⟨w.heap.size,0,d,cur,rfl,hb,h1,h2,by omega,?_⟩⟩
 ·rw [vf,List.length_map,List.length_append,List.length_append,List.length_take,List.length_drop];simp;omega
 ·rw [e,←hx];simp
end Go.Proofs.YtjdlgannencchaaGreatDoor
namespace Go.Proofs.YtjdlgannencchaaGreatDoor
open Go.ChangeShapes Go.WideShapes Go.ChangeAt Go.RowKit Go.Lib
set_option linter.unusedVariables false
set_option linter.unusedSimpArgs false
set_option maxRecDepth 100000
theorem rF (w:World):Grown w w.drew []:=⟨rfl,rfl,rfl,Nat.le_refl _,fun _ _ _=>rfl⟩
theorem vh {w w':World} (g:Nat) (h:Grown w w' []):Grown w w' [g]:=⟨h.os,h.tape,h.output,h.size,fun k hk hn=>h.block k hk (by simp)⟩
theorem DX (w:World) (o:Obj):Grown w (w.alloc o) []:=⟨rfl,rfl,rfl,by show w.heap.size≤(w.heap.push o).size;rw [Array.size_push];omega,fun k hk _=>Below.heap_alloc w o k hk⟩
theorem MR (w:World) (cs:Array Value) (t:TypeId):Bk (w.alloc (.cells cs t)) w.heap.size t cs:=Bk.new w t cs
theorem vz (k:Nat):(Builtin.zeroCells (Value.int .i64 0).cells k).size=k:=by
 have:(Value.int .i64 0).cells.size=1:=rfl
 simp [Builtin.zeroCells,this]
theorem Nn {cur:Array Value} {xs:List Value} {y:Value} {n i:Nat} (hl:xs.length=n) (hi:i≤n) (hx: ∀k,k<i→cur[k]?=xs[k]?) (hs:n+1≤cur.size):
 (over (over cur i [y]) (i+1) (xs.drop i)).toList.take (n+1)=xs.take i++ [y]++xs.drop i:=by
 have hd:(xs.drop i).length=n-i:=by rw [List.length_drop,hl]
 apply List.ext_getElem?
 intro k
 by_cases hk:k<n+1
 ·rw [List.getElem?_take,if_pos hk,Array.getElem?_toList,xw _ _ _ _ (by rw [pb,hd];omega),xw _ _ _ _ (by simp only [List.length_singleton];omega)]
  simp only [List.length_singleton,hd]
  by_cases h1:k<i
  ·rw [if_neg (by omega),if_neg (by omega),List.append_assoc,List.getElem?_append_left (by rw [List.length_take];omega),List.getElem?_take,if_pos h1,hx k h1]
  ·have hti:(xs.take i).length=i:=by rw [List.length_take];omega
   rw [List.append_assoc,List.getElem?_append_right (by omega),hti]
   by_cases h2:k=i
   ·subst h2
    rw [if_neg (by omega),if_pos (by omega)];simp
   ·rw [if_pos (by omega),show k-i=(k-(i+1))+1 by omega];rfl
 ·rw [List.getElem?_eq_none (by rw [List.length_take];omega),List.getElem?_eq_none (by simp only [List.length_append,List.length_take,List.length_drop,List.length_singleton];omega)]
theorem Vz {x:List Int} {y i:Int} (h0:0≤i) (h:i≤(x.length:Int)):x.length+1=(x.take i.toNat++ [y]++x.drop i.toNat).length:=by
 simp only [List.length_append,List.length_take,List.length_drop,List.length_singleton];omega
theorem Qi {L:List Asn} {w0 w:World} {x:List Int} {y i:Int} {A B:Option Addr} {n c vc k m:Nat} (S:St w0 w L) (hk:L[k]?=some (.row 3 1 (.slice A n c) n (x.flatMap eI))) (hn:n=x.length) (hv:L[m]?=some (.row 3 1 (.slice B 1 vc) 1 (([y]:List Int).flatMap eI))) (hkm:k≠m) (hi:0≤i∧i≤(n:Int)) (hlen:n+1≤1099511627776):
 Calls Tryz.prog 181 #[.slice A n c,.int .i64 i,.slice B 1 vc] w (fun e w'=> ∃(B':Option Addr) (D:Nat),e= .returned (.slice B' (n+1) D)∧St w0 w' (L.set k (.row 3 1 (.slice B' (n+1) D) (n+1) ((x.take i.toNat++ [y]++x.drop i.toNat).flatMap eI)))):=by
 obtain ⟨j,rfl⟩: ∃j:Nat,i=(j:Int):=⟨i.toNat,by omega⟩
 have hj:j≤n:=by omega
 rw [Int.toNat_natCast]
 have hxl:(x.flatMap eI).length=n:=by rw [vf,List.length_map,hn]
 obtain ⟨vg,voff,rfl,hvs⟩:=(S.rd m hv).2 (by omega)
 have hvs': ∀q v,([.int .i64 y]:List Value)[q]?=some v→w.cell? ⟨vg,voff+q,none⟩=some v:=fun q v h=>hvs q v h
 have h1v: ∀v∈([.int .i64 y]:List Value),v.oneCell'=true:=fun v h=>by simp at h;subst h;rfl
 have h1c:=ab3 x
 rcases Dc S hk with ⟨rfl,h0,rfl⟩ |⟨g,off,cur,rfl,hb,hx,hnc,hc,hs⟩
 ·subst h0
  have hx0:x=[]:=List.eq_nil_of_length_eq_zero hn.symm
  subst hx0
  obtain rfl:j=0:=by omega
  have h:=Any2.slices_Insert_int_end_grow zL none 0 0 vg voff 1 vc [] [.int .i64 y] w (by omega) (by omega) (by omega) (by omega) rfl rfl (fun _=>rfl) (fun a h=>by cases h) hvs' h1v
  refine h.mono ?_
  rintro e w' ⟨rfl,rfl⟩
  refine ⟨_,_,rfl,?_⟩
  have hge:=grownCap_ge w (0+1) 0 (mZ.t 3)
  refine Jw (cur:=([]++ [Value.int .i64 y]).toArray++Builtin.zeroCells (Value.int .i64 0).cells (grownCap w (0+1) 0 (mZ.t 3)-(0+1))) S hk rfl (Nat.le_refl 0) (MR w.drew _ _) ((rF w).trans (DX w.drew _)) (by simp) hge (grownCap_le_maxLen w (0+1) 0 _ (by decide)) ?_
  rw [Array.size_append,vz]
  simp only [List.nil_append,List.size_toArray,List.length_singleton]
  omega
 ·have hcell: ∀q v,(x.flatMap eI)[q]?=some v→w.cell? ⟨g,off+q,none⟩=some v:=by
   intro q v hq
   have hn0:0<n:=by
    rcases Nat.eq_zero_or_pos n with h |h
    ·rw [List.getElem?_eq_none (by omega)] at hq;cases hq
    ·exact h
   obtain ⟨b',o',e,hc'⟩:=(S.rd k hk).2 hn0
   injection e with e
   injection e with e1 e2
   subst e1 e2
   exact hc' q v hq
  by_cases hroom:n+1≤c
  ·have hc63:c≤9223372036854775807:=hc
   have hsp: ∀q,q<n+1→(w.cell? ⟨g,off+q,none⟩).isSome=true:=by
    intro q hq
    rw [cell_of_row w g _ cur 3 (0,0) hb,Array.getElem?_eq_getElem (by omega)];rfl
   have hfz: ∀q,w.frozen? ⟨g,q,none⟩=false:=by
    intro q
    have:w.heap[g]?=some (.cells cur 3 (0,0)):=hb
    simp [World.frozen?,this]
   by_cases hjn:j=n
   ·subst hjn
    have h:=Any2.slices_Insert_int_end_room zL g off j c vg voff 1 vc [.int .i64 y] w (by omega) hroom hc63 rfl (fun q hq=>by rw [Nat.add_assoc];exact hsp _ (by omega)) (fun q _=>hfz _) hvs' h1v
    refine h.mono ?_
    rintro e w' ⟨rfl,rfl⟩
    have h2:=Lu (w1:=w) (y:=y) S hk hn hb hx (Nat.le_refl j) hroom hc hs hb ⟨rfl,rfl,rfl,Nat.le_refl _,fun _ _ _=>rfl⟩
    rw [List.drop_eq_nil_of_le (by omega)] at h2
    exact ⟨_,_,rfl,h2⟩
   ·rcases Dc S hv with ⟨hB,_⟩ |⟨vg',voff',vcur,hB,hvb,_⟩
    ·cases hB
    injection hB with hB
    injection hB with e1 e2
    subst e1 e2
    have hne:vg≠g:=by
     have:=(RV S hk hv hkm).1 g (by simp [Asn.wf,Asn.foot,Value.ownBlock])
     simpa [Asn.foot,Value.ownBlock,eq_comm] using this
    have hvf: ∀q,w.frozen? ⟨vg,q,none⟩=false:=by
     intro q
     have:w.heap[vg]?=some (.cells vcur 3 (0,0)):=hvb
     simp [World.frozen?,this]
    have hsa:w.shape? vg=some (3,vcur.size):=by
     have:w.heap[vg]?=some (.cells vcur 3 (0,0)):=hvb
     simp [World.shape?,this]
    have hsb:w.shape? g=some (3,cur.size):=by
     have:w.heap[g]?=some (.cells cur 3 (0,0)):=hb
     simp [World.shape?,this]
    have h:=Any2.slices_Insert_int_shift zL g off n c j vg voff 1 vc (x.flatMap eI) [.int .i64 y] w (by omega) (by omega) hroom hc63 hne hxl rfl hcell hsp (fun q _=>hfz _) hvs' h1c h1v 3 3 vcur.size cur.size hsa hsb (by omega) (hvf _) (hvf _)
    refine h.mono ?_
    rintro e w' ⟨rfl,rfl⟩
    exact ⟨_,_,rfl,Lu (w1:=w.drew) S hk hn hb hx hj hroom hc hs hb (vh g (rF w))⟩
  ·have hge:=grownCap_ge w (n+1) c (mZ.t 3)
   have hmx:=grownCap_le_maxLen w (n+1) c (mZ.t 3) (by unfold maxLen;omega)
   by_cases hjn:j=n
   ·subst hjn
    have h:=Any2.slices_Insert_int_end_grow zL (some ⟨g,off,none⟩) j c vg voff 1 vc (x.flatMap eI) [.int .i64 y] w (by omega) hnc (by omega) (by omega) hxl rfl (fun h=>by cases h) (fun a h q v hq=>by
     injection h with h
     subst h
     rw [Go.WideShapes.add_plain]
     exact hcell q v hq) hvs' h1v
    refine h.mono ?_
    rintro e w' ⟨rfl,rfl⟩
    have hL:(x.flatMap eI++ [Value.int .i64 y]).length=j+1:=by rw [List.length_append,hxl];rfl
    refine ⟨_,_,rfl,Jw S hk hn (Nat.le_refl j) (MR w.drew _ _) ((rF w).trans (DX w.drew _)) ?_ hge hmx ?_⟩
    ·rw [Array.toList_append]
     show List.take (j+1) ((x.flatMap eI++ [Value.int .i64 y])++_)=_
     rw [List.take_append_of_le_length (show j+1≤(x.flatMap eI++ [Value.int .i64 y]).length by omega),List.take_of_length_le (show (x.flatMap eI++ [Value.int .i64 y]).length≤j+1 by omega),List.take_of_length_le (show (x.flatMap eI).length≤j by omega),List.drop_eq_nil_of_le (show (x.flatMap eI).length≤j by omega),List.append_nil]
    ·rw [Array.size_append,vz,List.size_toArray];omega
   ·have h:=Any2.slices_Insert_int_grow zL g off n c j vg voff 1 vc (x.flatMap eI) [.int .i64 y] w (by omega) (by omega) hnc (by omega) (by omega) hxl rfl hcell hvs' h1c h1v
    refine h.mono ?_
    rintro e w' ⟨rfl,rfl⟩
    generalize hC:((x.flatMap eI).take j).toArray++Builtin.zeroCells (Value.int .i64 0).cells (n+1-j)++Builtin.zeroCells (Value.int .i64 0).cells (grownCap w (n+1) c (mZ.t 3)-(n+1))=C
    have hCs:C.size=grownCap w (n+1) c (mZ.t 3):=by
     rw [←hC,Array.size_append,Array.size_append,vz,vz,List.size_toArray,List.length_take,hxl];omega
    have hCx: ∀q,q<j→C[q]?=(x.flatMap eI)[q]?:=by
     intro q hq
     rw [←hC,Array.append_assoc,Array.getElem?_append_left (by rw [List.size_toArray,List.length_take,hxl];omega)]
     rw [List.getElem?_toArray,List.getElem?_take,if_pos hq]
    have b0:Bk (w.alloc (.cells C (mZ.t 3))).drew w.heap.size 3 C:=MR w C 3
    obtain ⟨b1,g1⟩:=Hb [.int .i64 y] C j _ b0
    have b1':Bk (((w.alloc (.cells C (mZ.t 3))).drew.setCells w.heap.size j [.int .i64 y]).drew) w.heap.size 3 (over C j [.int .i64 y]):=b1
    obtain ⟨b2,g2⟩:=Hb ((x.flatMap eI).drop j) _ (j+1) _ b1'
    refine ⟨_,_,rfl,Jw S hk hn hj b2 ?_ (Nn hxl hj hCx (by omega)) hge hmx (by rw [pb,pb,hCs];exact Nat.le_refl _)⟩
    have gall:=((((vh w.heap.size (DX w (.cells C (mZ.t 3)))).trans (vh w.heap.size (rF _))).trans g1).trans (vh w.heap.size (rF _))).trans g2
    exact ⟨gall.os,gall.tape,gall.output,gall.size,fun q hq _=>gall.block q hq (by simp;omega)⟩
end Go.Proofs.YtjdlgannencchaaGreatDoor
namespace Go.Proofs.YtjdlgannencchaaGreatDoor
open Go.ChangeShapes Go.WideShapes Go.ChangeAt Go.RowKit
set_option linter.unusedVariables false
set_option linter.unusedSimpArgs false
noncomputable section
def Ox (x:Int×Int×Int):List Value:=[.int .i64 x.1,.int .i64 x.2.1,.int .i64 x.2.2]
theorem Qa (x:Int×Int×Int): ∀u∈Ox x,u.oneCell'=true:=by simp [Ox];exact ⟨rfl,rfl,rfl⟩
def Vh (x:Int×Int):List Value:=[.int .i64 x.1,.int .i64 x.2]
theorem RO (x:Int×Int): ∀u∈Vh x,u.oneCell'=true:=by simp [Vh];exact ⟨rfl,rfl⟩
def jo (x:Int×Int):List Value:=[.int .i64 x.1,.int .i64 x.2]
theorem Ey (x:Int×Int):(jo x).length=2:=rfl
theorem Ez (x:Int×Int): ∀u∈jo x,u.oneCell'=true:=by simp [jo];exact ⟨rfl,rfl⟩
def ic (a:Int→Option ByteArray) (x0:Int):Option (ByteArray):=(bif (av x0 0)&&(x0==(ax (0-x0))) then some ({data:= #[45,57,50,50,51,51,55,50,48,51,54,56,53,52,55,55,53,56,48,56]}:ByteArray) else (bif av x0 0 then Option.bind (a (ax (0-x0))) (fun b=>au (Fk ({data:= #[45]}:ByteArray).size b.size) (some (({data:= #[45]}:ByteArray)++b))) else (bif av x0 10 then some (strOfNums ([wk .u8 (ax (48+x0))]:List Int)) else Option.bind (a (ax (Int.tdiv x0 10))) (fun c=>au (Fk c.size (strOfNums ([wk .u8 (ax (48+(Int.tmod x0 10)))]:List Int)).size) (some (c++(strOfNums ([wk .u8 (ax (48+(Int.tmod x0 10)))]:List Int))))))))
def kz (x0:Int) (x1:List (Int×Int×Int)) (x2:Int):Option (Bool):=some ((bc 0 x2)&&(av x2 x0))
def cQ (x0:Int) (x1:List (Int×Int×Int)) (c:Int→Option (Unit ⊕ Bool)) (a:Int):Option (Unit ⊕ Bool):=(bif av a (x1.length:Int) then au (aB a x1.length) (Option.bind (kz x0 x1 ((x1.getD a.toNat ((0,0,0):Int×Int×Int)).1)) (fun b=>Option.bind (gb (!(!b)) (kz x0 x1 ((x1.getD a.toNat ((0,0,0):Int×Int×Int)).2.1))) (fun d=>(bif ((((!b) ||(!d)) ||(((x1.getD a.toNat ((0,0,0):Int×Int×Int)).1)==((x1.getD a.toNat ((0,0,0):Int×Int×Int)).2.1))) ||(av ((x1.getD a.toNat ((0,0,0):Int×Int×Int)).2.2) 1)) ||(av 999 ((x1.getD a.toNat ((0,0,0):Int×Int×Int)).2.2)) then some (Sum.inr false) else c (ax (a+1)))))) else some (Sum.inl ()))
def cj x0 x1:=de (cQ x0 x1)
theorem jq x0 x1 n p:cj x0 x1 (n+1) p=cQ x0 x1 (cj x0 x1 n) p:=rfl
def aN (x0:Int) (x1:List (Int×Int×Int)):Option (Bool):=(bif ((av x0 1) ||(av 8 x0)) ||(av 10 (x1.length:Int)) then some false else Option.bind (cj x0 x1 aq 0:Option (Unit ⊕ Bool)) (Sum.elim (fun (a:Unit)=>some true) (fun (r:Bool)=>some r)))
def iw (x0:ByteArray) (b:(Int×Int)→Option (Int ⊕ Int)) (a:(Int×Int)):Option (Int ⊕ Int):=(bif av a.2 (x0.size:Int) then au (aB a.2 x0.size) (au (!(!(av (kZ x0 a.2) 48)) ||aB a.2 x0.size) ((bif (av (kZ x0 a.2) 48) ||(av 57 (kZ x0 a.2)) then some (Sum.inr (-1)) else au (aB a.2 x0.size) (b (ax ((ax (10*a.1))+(ax (wk .u8 ((kZ x0 a.2)-48)))),ax (a.2+1)))))) else some (Sum.inl a.1))
def cm x0:=de (iw x0)
theorem rq x0 n p:cm x0 (n+1) p=iw x0 (cm x0 n) p:=rfl
def mJ (x0:ByteArray):Option (Int):=(bif (av (x0.size:Int) 1) ||(av 3 (x0.size:Int)) then some (-1) else Option.bind (cm x0 aq (0,0):Option (Int ⊕ Int)) (Sum.elim (fun (a:Int)=>some a) (fun (r:Int)=>some r)))
def aI (x0:ByteArray):Option (Int×Bool):=Option.bind (mJ x0) (fun a=>Option.bind (gb (bc 0 a) (bU a)) (fun b=>some (a,(bc 0 a)&&(b.toList==x0.toList))))
def cd (b:Int) (ls:List (Int×Int×Int)):Option ByteArray:=Option.bind (aN b ls) (fun p=>bif p then au (ST b ls) (some (ba (Nt b ls))) else some (ba []))
def dT (ws:List ByteArray):Option (Int×Int×Int×Bool):=bif decide (ws.length=2) then Option.bind (aI (ws.getD 1 ByteArray.empty)) (fun p=>some ((oP Ff (ws.getD 0 ByteArray.empty)).1,p.1,0,(oP Ff (ws.getD 0 ByteArray.empty)).2&&p.2)) else bif decide (ws.length=3) then Option.bind (aI (ws.getD 1 ByteArray.empty)) (fun p=>Option.bind (aI (ws.getD 2 ByteArray.empty)) (fun q=>some ((oP Fg (ws.getD 0 ByteArray.empty)).1,p.1,q.1,(oP Fg (ws.getD 0 ByteArray.empty)).2&&p.2&&q.2))) else some (0,0,0,false)
def ac (x0:List Int) (x1:Int) (x2:Int):Option (Int×Int):=(bif (av x2 1) ||((x0.length:Int)==0) then some (0,ax (x1+1)) else (bif av (ax ((ax (x1+1))-1)) (x0.length:Int) then au (aB (ax ((ax (x1+1))-1)) x0.length) (au (Ta x2) (some (Int.tmod (ax ((x0.getD ((ax ((ax (x1+1))-1)).toNat) (0:Int)))) x2,ax (x1+1)))) else au (Ta (x0.length:Int)) (au (aB (Int.tmod (ax ((ax (x1+1))-1)) (x0.length:Int)) x0.length) (au (Ta (x0.length:Int)) (au (aB (Int.tmod (ax ((ax ((ax ((ax (x1+1))-1))*7))+3)) (x0.length:Int)) x0.length) (au (Ta (x0.length:Int)) (au (Ta x2) (some (Int.tmod (uX .i64 (ax ((ax ((ax ((ax ((ax ((x0.getD ((Int.tmod (ax ((ax (x1+1))-1)) (x0.length:Int)).toNat) (0:Int))))*131))+(ax ((ax ((x0.getD ((Int.tmod (ax ((ax ((ax ((ax (x1+1))-1))*7))+3)) (x0.length:Int)).toNat) (0:Int))))*1117))))+(ax ((ax ((ax (x1+1))-1))*29))))+(ax ((ax (Int.tdiv (ax ((ax (x1+1))-1)) (x0.length:Int)))*53)))) (ax (Int.tdiv (ax ((ax ((ax ((ax ((ax ((x0.getD ((Int.tmod (ax ((ax (x1+1))-1)) (x0.length:Int)).toNat) (0:Int))))*131))+(ax ((ax ((x0.getD ((Int.tmod (ax ((ax ((ax ((ax (x1+1))-1))*7))+3)) (x0.length:Int)).toNat) (0:Int))))*1117))))+(ax ((ax ((ax (x1+1))-1))*29))))+(ax ((ax (Int.tdiv (ax ((ax (x1+1))-1)) (x0.length:Int)))*53)))) 64))) x2,ax (x1+1))))))))))
def cv (x0:List Int) (x1:Int) (x2:Int):Option (Bool×Int):=Option.bind (bif av 0 x2 then Option.bind (ac x0 x1 x2) (fun a=>some (a.1==(ax (x2-1)),a.2)) else some (false,x1)) (fun b=>some (b.1,b.2))
def lv (x0:List Int) (h:Int×Int) (i:Int×Int) (j:(List Bool×List (Int×Int)×Int×Int×List (Int×Int×Int))→Option ((List Bool×List (Int×Int)×Int×List (Int×Int×Int)))) (a:(List Bool×List (Int×Int)×Int×Int×List (Int×Int×Int))):Option ((List Bool×List (Int×Int)×Int×List (Int×Int×Int))):=(bif av a.2.2.1 (ax (2+h.1)) then Option.bind (bif av 0 a.2.2.1 then Option.bind (ac x0 a.2.2.2.1 a.2.2.1) (fun c=>Option.bind (ac x0 c.2 90) (fun b=>au (bw a.2.2.2.2.length ([(c.1,a.2.2.1,ax (10+b.1))]:List (Int×Int×Int)).length) (Option.bind (bif i.1==0 then au (bw a.1.length ([true]:List Bool).length) (some (a.1++([true]:List Bool),b.2)) else Option.bind (ac x0 b.2 6) (fun d=>au (bw a.1.length ([av 0 d.1]:List Bool).length) (some (a.1++([av 0 d.1]:List Bool),d.2)))) (fun g=>some (g.1,g.2,a.2.2.2.2++([(c.1,a.2.2.1,ax (10+b.1))]:List (Int×Int×Int))))))) else some (a.1,a.2.2.2.1,a.2.2.2.2)) (fun e=>Option.bind (ac x0 e.2.1 20) (fun f=>au (bw a.2.1.length ([(0,f.1)]:List (Int×Int)).length) (j (e.1,a.2.1++([(0,f.1)]:List (Int×Int)),ax (a.2.2.1+1),f.2,e.2.2)))) else some (a.1,a.2.1,a.2.2.2.1,a.2.2.2.2))
def eC x0 a b:=de (lv x0 a b)
theorem ye x0 p102 p106 n p:eC x0 p102 p106 (n+1) p=lv x0 p102 p106 (eC x0 p102 p106 n) p:=rfl
def lz (x0:List Int) (b:Int×Int) (f:(List Bool×Int×Int×List (Int×Int×Int))→Option ((List Bool×Int×List (Int×Int×Int)))) (a:(List Bool×Int×Int×List (Int×Int×Int))):Option ((List Bool×Int×List (Int×Int×Int))):=(bif av 0 a.2.1 then Option.bind (ac x0 a.2.2.1 (ax (2+b.1))) (fun c=>Option.bind (ac x0 c.2 (ax ((ax (2+b.1))-1))) (fun d=>au (Ta (ax (2+b.1))) (Option.bind (ac x0 d.2 50) (fun e=>au (bw a.2.2.2.length ([(c.1,Int.tmod (ax ((ax (c.1+1))+d.1)) (ax (2+b.1)),ax (10+e.1))]:List (Int×Int×Int)).length) (au (bw a.1.length ([false]:List Bool).length) (f (a.1++([false]:List Bool),ax (a.2.1-1),e.2,a.2.2.2++([(c.1,Int.tmod (ax ((ax (c.1+1))+d.1)) (ax (2+b.1)),ax (10+e.1))]:List (Int×Int×Int))))))))) else some (a.1,a.2.2.1,a.2.2.2))
def eD x0 a:=de (lz x0 a)
theorem yf x0 p102 n p:eD x0 p102 (n+1) p=lz x0 p102 (eD x0 p102 n) p:=rfl
def xl (b:List Bool×Int×List (Int×Int×Int)) (c:(List Bool×Int)→Option ((List Bool))) (a:(List Bool×Int)):Option ((List Bool)):=(bif av a.2 (b.1.length:Int) then au (aB a.2 b.1.length) (c (a.1.set a.2.toNat true,ax (a.2+1))) else some a.1)
def yj a:=de (xl a)
def lX (x0:List Int) (x1:Int) (x2:Int):Option (Int×List (Int×Int×Int)×List Bool×List (Int×Int)×Int):=Option.bind (ac x0 x1 6) (fun c=>Option.bind (ac x0 c.2 2) (fun k=>Option.bind (eC x0 c k aq (([]:List Bool),([]:List (Int×Int)),0,k.2,([]:List (Int×Int×Int)))) (fun a=>Option.bind (ac x0 a.2.2.1 4) (fun l=>Option.bind (eD x0 c aq (a.1,l.1,l.2,a.2.2.2)) (fun d=>Option.bind (ac x0 d.2.1 100) (fun f=>au (aB 0 a.2.1.length) (Option.bind (ac x0 f.2 2) (fun h=>Option.bind (bif h.1==0 then Option.bind (ac x0 h.2 (ax ((ax (2+c.1))-1))) (fun e=>Option.bind (ac x0 e.2 60) (fun m=>au (aB (ax (1+e.1)) a.2.1.length) (au (aB (ax ((ax (1+e.1))-1)) d.1.length) (some (d.1.set ((ax ((ax (1+e.1))-1)).toNat) false,(a.2.1.set ((0:Int).toNat) (ax (60+f.1),(a.2.1.getD ((0:Int).toNat) ((0,0):Int×Int)).2)).set ((ax (1+e.1)).toNat) (ax (30+m.1),((a.2.1.set ((0:Int).toNat) (ax (60+f.1),(a.2.1.getD ((0:Int).toNat) ((0,0):Int×Int)).2)).getD ((ax (1+e.1)).toNat) ((0,0):Int×Int)).2),m.2))))) else some (d.1,a.2.1.set ((0:Int).toNat) (ax (60+f.1),(a.2.1.getD ((0:Int).toNat) ((0,0):Int×Int)).2),h.2)) (fun b=>Option.bind (cv x0 b.2.2 x2) (fun i=>Option.bind (bif i.1 then Option.bind (ac x0 i.2 4) (fun g=>Option.bind (bif g.1==0 then au (aB (ax ((ax (2+c.1))-1)) a.2.1.length) (au (aB (ax ((ax (2+c.1))-2)) a.2.1.length) (some (b.1,(b.2.1.set ((ax ((ax (2+c.1))-1)).toNat) (5,(b.2.1.getD ((ax ((ax (2+c.1))-1)).toNat) ((0,0):Int×Int)).2)).set ((ax ((ax (2+c.1))-2)).toNat) (5,((b.2.1.set ((ax ((ax (2+c.1))-1)).toNat) (5,(b.2.1.getD ((ax ((ax (2+c.1))-1)).toNat) ((0,0):Int×Int)).2)).getD ((ax ((ax (2+c.1))-2)).toNat) ((0,0):Int×Int)).2)))) else Option.bind (bif g.1==1 then Option.bind (yj d aq (b.1,0)) (fun s=>some (s,b.2.1)) else Option.bind (bif g.1==2 then au (bw b.1.length ([false]:List Bool).length) (some (b.1++([false]:List Bool),b.2.1)) else au (vq 1 (a.2.1.length:Int) a.2.1.length) (some (b.1,aj b.2.1 1 (a.2.1.length:Int)))) (fun o=>some (o.1,o.2))) (fun p=>some (p.1,p.2))) (fun q=>some (q.1,q.2,g.2))) else some (b.1,b.2.1,i.2)) (fun j=>some (ax (2+c.1),d.2.2,j.1,j.2.1,j.2.2))))))))))))
def iL (x0:List Int) (x1:Int) (x2:Int) (x3:List (Int×Int×Int)) (x4:List (Int×Int)) (x5:List Bool) (x6:List Bool) (x7:List (Int×Int)) (x8:List Int):Option (Int×Int×Int×Int):=Option.bind (ac x0 x1 12) (fun b=>au (aB b.1 ((([0,0,1,1,2,3,4,4,5,6,6,7]:List Int):List Int).length)) (Option.bind (ac x0 b.2 40) (fun f=>Option.bind (ac x0 f.2 (ax ((x5.length:Int)+1))) (fun g=>Option.bind (ac x0 g.2 20) (fun h=>Option.bind (ac x0 h.2 3) (fun c=>Option.bind (bif av 0 (x7.length:Int) then Option.bind (ac x0 c.2 3) (fun i=>some (i.1==0,i.2)) else some (false,c.2)) (fun d=>(bif d.1 then Option.bind (ac x0 d.2 (x7.length:Int)) (fun a=>au (aB a.1 x7.length) (Option.bind (ac x0 a.2 3) (fun e=>au (aB e.1 ((([5,7,7]:List Int):List Int).length)) (some ((([5,7,7]:List Int).getD e.1.toNat (0:Int)),(x7.getD a.1.toNat ((0,0):Int×Int)).2,(x7.getD a.1.toNat ((0,0):Int×Int)).1,e.2))))) else some (ax ((([0,0,1,1,2,3,4,4,5,6,6,7]:List Int).getD b.1.toNat (0:Int))+(ax ((ax (Int.tdiv f.1 39))*8))),ax (g.1-(ax (Int.tdiv h.1 19))),c.1,d.2)))))))))
def aw (x0:Int) (x1:Int) (x2:Int):Option (Bool):=some ((bc x1 x0)&&(bc x0 x2))
def iH (x0:Int) (x1:List (Int×Int×Int)) (d:Int→Option (Unit ⊕ Bool)) (a:Int):Option (Unit ⊕ Bool):=(bif av a (x1.length:Int) then au (aB a x1.length) (Option.bind (aw ((x1.getD a.toNat ((0,0,0):Int×Int×Int)).1) 0 (ax (x0-1))) (fun b=>Option.bind (gb (!(!b)) (aw ((x1.getD a.toNat ((0,0,0):Int×Int×Int)).2.1) 0 (ax (x0-1)))) (fun c=>Option.bind (gb (!(((!b) ||(!c)) ||(((x1.getD a.toNat ((0,0,0):Int×Int×Int)).1)==((x1.getD a.toNat ((0,0,0):Int×Int×Int)).2.1)))) (aw ((x1.getD a.toNat ((0,0,0):Int×Int×Int)).2.2) 1 999)) (fun e=>(bif (((!b) ||(!c)) ||(((x1.getD a.toNat ((0,0,0):Int×Int×Int)).1)==((x1.getD a.toNat ((0,0,0):Int×Int×Int)).2.1))) ||(!e) then some (Sum.inr false) else d (ax (a+1))))))) else some (Sum.inl ()))
def fe x0 x1:=de (iH x0 x1)
theorem rA x0 x1 n p:fe x0 x1 (n+1) p=iH x0 x1 (fe x0 x1 n) p:=rfl
def dU (x0:Int) (x1:List (Int×Int×Int)):Option (Bool):=Option.bind (aw x0 1 8) (fun a=>(bif (!a) ||(av 10 (x1.length:Int)) then some false else Option.bind (fe x0 x1 aq 0:Option (Unit ⊕ Bool)) (Sum.elim (fun (b:Unit)=>some true) (fun (r:Bool)=>some r))))
def fy (x2:List (Int×Int)) (c:Int→Option (Unit ⊕ Bool)) (a:Int):Option (Unit ⊕ Bool):=(bif av a (x2.length:Int) then au (aB a x2.length) (Option.bind (aw ((x2.getD a.toNat ((0,0):Int×Int)).1) 0 999) (fun b=>au (!(!(!b)) ||aB a x2.length) (Option.bind (gb (!(!b)) (aw ((x2.getD a.toNat ((0,0):Int×Int)).2) 0 999)) (fun d=>(bif (!b) ||(!d) then some (Sum.inr false) else c (ax (a+1))))))) else some (Sum.inl ()))
def dw x2:=de (fy x2)
theorem pJ x2 n p:dw x2 (n+1) p=fy x2 (dw x2 n) p:=rfl
def gA (x0:Int) (x1:List (Int×Int×Int)) (x2:List (Int×Int)):Option (Bool):=Option.bind (dw x2 aq 0:Option (Unit ⊕ Bool)) (Sum.elim (fun (b:Unit)=>Option.bind (dU x0 x1) (fun a=>some (a&&((x2.length:Int)==x0)))) (fun (r:Bool)=>some r))
def jM (x0:List (Int×Int)) (x1:Int) (x2:Int) (b:Int→Option (Unit ⊕ Int)) (a:Int):Option (Unit ⊕ Int):=(bif av a (x0.length:Int) then au (aB a x0.length) ((bif (((x0.getD a.toNat ((0,0):Int×Int)).1)==x1)&&(((x0.getD a.toNat ((0,0):Int×Int)).2)==x2) then some (Sum.inr a) else b (ax (a+1)))) else some (Sum.inl ()))
def gQ x0 x1 x2:=de (jM x0 x1 x2)
theorem sL x0 x1 x2 n p:gQ x0 x1 x2 (n+1) p=jM x0 x1 x2 (gQ x0 x1 x2 n) p:=rfl
def jf (x0:List (Int×Int)) (x1:Int) (x2:Int):Option (Int):=Option.bind (gQ x0 x1 x2 aq 0:Option (Unit ⊕ Int)) (Sum.elim (fun (a:Unit)=>some (-1)) (fun (r:Int)=>some r))
def gN (x0:List Bool) (x1:List Bool) (b:Int→Option (Unit ⊕ Bool)) (a:Int):Option (Unit ⊕ Bool):=(bif av a (x0.length:Int) then au (aB a x0.length) (au (!(x0.getD a.toNat false) ||aB a x1.length) ((bif (x0.getD a.toNat false)&&(x1.getD a.toNat false) then some (Sum.inr false) else b (ax (a+1))))) else some (Sum.inl ()))
def ez x0 x1:=de (gN x0 x1)
theorem qE x0 x1 n p:ez x0 x1 (n+1) p=gN x0 x1 (ez x0 x1 n) p:=rfl
def gO (x0:List Bool) (x1:List Bool) (x2:List (Int×Int)) (d:Int→Option (Unit ⊕ Bool)) (a:Int):Option (Unit ⊕ Bool):=(bif av a (x2.length:Int) then au (aB a x2.length) (Option.bind (aw ((x2.getD a.toNat ((0,0):Int×Int)).1) 0 9) (fun b=>Option.bind (gb (!(!b)) (aw ((x2.getD a.toNat ((0,0):Int×Int)).2) 0 (ax ((x0.length:Int)-1)))) (fun c=>au (!(!((!b) ||(!c))) ||aB ((x2.getD a.toNat ((0,0):Int×Int)).2) x1.length) (Option.bind (gb (!(((!b) ||(!c)) ||(!(x1.getD (((x2.getD a.toNat ((0,0):Int×Int)).2).toNat) false)))) (jf x2 ((x2.getD a.toNat ((0,0):Int×Int)).1) ((x2.getD a.toNat ((0,0):Int×Int)).2))) (fun e=>(bif (((!b) ||(!c)) ||(!(x1.getD (((x2.getD a.toNat ((0,0):Int×Int)).2).toNat) false))) ||(av e a) then some (Sum.inr false) else d (ax (a+1)))))))) else some (Sum.inl ()))
def eA x0 x1 x2:=de (gO x0 x1 x2)
theorem qF x0 x1 x2 n p:eA x0 x1 x2 (n+1) p=gO x0 x1 x2 (eA x0 x1 x2 n) p:=rfl
def eY (x0:List Bool) (x1:List Bool) (x2:List (Int×Int)):Option (Bool):=Option.bind (aw (x0.length:Int) 1 10) (fun a=>(bif ((!a) ||((x0.length:Int) !=(x1.length:Int))) ||(av 6 (x2.length:Int)) then some false else Option.bind (ez x0 x1 aq 0:Option (Unit ⊕ Bool)) (Sum.elim (fun (b:Unit)=>Option.bind (eA x0 x1 x2 aq 0:Option (Unit ⊕ Bool)) (Sum.elim (fun (c:Unit)=>some true) (fun (r:Bool)=>some r))) (fun (r:Bool)=>some r))))
def cO (x0:Int) (x1:List (Int×Int×Int)) (x2:List Bool):Option (Bool):=Option.bind (dU x0 x1) (fun a=>some (a&&((x2.length:Int)==(x1.length:Int))))
def gV (x0:Int) (x1:List (Int×Int×Int)) (x2:List Bool) (x3:List (Int×Int)):Option (Bool):=Option.bind (cO x0 x1 x2) (fun a=>Option.bind (gb a (gA x0 x1 x3)) (fun b=>some (a&&b)))
def kg (x0:List Bool):Option (List Bool):=au (bw ([]:List Bool).length x0.length) (some (([]:List Bool)++x0))
def kO (x0:Int) (x1:List (Int×Int×Int)) (x2:List Bool) (x3:Int) (x4:Bool):Option (List Bool×Bool):=Option.bind (cO x0 x1 x2) (fun b=>(bif b then Option.bind (kg x2) (fun a=>Option.bind (aw x3 0 (ax ((x2.length:Int)-1))) (fun c=>(bif c then au (aB x3 a.length) (some (a.set x3.toNat x4,true)) else some (a,false)))) else some (([]:List Bool),false)))
def jP (x0:Int) (x1:List (Int×Int×Int)) (x2:List Bool) (b:(List Bool×Int)→Option ((List Bool))) (a:(List Bool×Int)):Option ((List Bool)):=(bif av a.2 (x1.length:Int) then au (aB a.2 x1.length) (au (aB a.2 x2.length) (au (!(x2.getD a.2.toNat false) ||aB ((x1.getD a.2.toNat ((0,0,0):Int×Int×Int)).1) x0.toNat) (au (!((x2.getD a.2.toNat false)&&(!(a.1.getD (((x1.getD a.2.toNat ((0,0,0):Int×Int×Int)).1).toNat) false))) ||aB ((x1.getD a.2.toNat ((0,0,0):Int×Int×Int)).2.1) x0.toNat) (Option.bind (bif (x2.getD a.2.toNat false)&&((a.1.getD (((x1.getD a.2.toNat ((0,0,0):Int×Int×Int)).1).toNat) false) ||(a.1.getD (((x1.getD a.2.toNat ((0,0,0):Int×Int×Int)).2.1).toNat) false)) then au (aB ((x1.getD a.2.toNat ((0,0,0):Int×Int×Int)).1) x0.toNat) (au (aB ((x1.getD a.2.toNat ((0,0,0):Int×Int×Int)).2.1) x0.toNat) (some ((a.1.set (((x1.getD a.2.toNat ((0,0,0):Int×Int×Int)).1).toNat) true).set (((x1.getD a.2.toNat ((0,0,0):Int×Int×Int)).2.1).toNat) true))) else some a.1) (fun c=>b (c,ax (a.2+1))))))) else some a.1)
def gT x0 x1 x2:=de (jP x0 x1 x2)
theorem sP x0 x1 x2 n p:gT x0 x1 x2 (n+1) p=jP x0 x1 x2 (gT x0 x1 x2 n) p:=rfl
def jO (x0:Int) (x1:List (Int×Int×Int)) (x2:List Bool) (b:(List Bool×Int)→Option ((List Bool))) (a:(List Bool×Int)):Option ((List Bool)):=(bif av a.2 x0 then Option.bind (gT x0 x1 x2 aq (a.1,0)) (fun c=>b (c,ax (a.2+1))) else some a.1)
def gS x0 x1 x2:=de (jO x0 x1 x2)
theorem sO x0 x1 x2 n p:gS x0 x1 x2 (n+1) p=jO x0 x1 x2 (gS x0 x1 x2 n) p:=rfl
def oB (x0:Int) (x1:List (Int×Int×Int)) (x2:List Bool) (x3:Int):Option (List Bool):=au (yk x0) (au (aB x3 x0.toNat) (Option.bind (gS x0 x1 x2 aq ((List.replicate x0.toNat false).set x3.toNat true,0)) (fun a=>some a)))
def jJ (x0:Int) (b:List Bool) (c:(List Int×Int)→Option ((List Int))) (a:(List Int×Int)):Option ((List Int)):=(bif av a.2 x0 then au (aB a.2 b.length) (Option.bind (bif b.getD a.2.toNat false then au (bw a.1.length ([a.2]:List Int).length) (some (a.1++([a.2]:List Int))) else some a.1) (fun d=>c (d,ax (a.2+1)))) else some a.1)
def gK x0 a:=de (jJ x0 a)
theorem sJ x0 p106 n p:gK x0 p106 (n+1) p=jJ x0 p106 (gK x0 p106 n) p:=rfl
def jb (x0:Int) (x1:List (Int×Int×Int)) (x2:List Bool) (x3:Int):Option (List Int):=Option.bind (cO x0 x1 x2) (fun a=>Option.bind (gb (!(!a)) (aw x3 0 (ax (x0-1)))) (fun b=>(bif (!a) ||(!b) then some ([]:List Int) else Option.bind (oB x0 x1 x2 x3) (fun c=>Option.bind (gK x0 c aq (([]:List Int),0)) (fun d=>some d)))))
def lW (x0:List Int) (x1:Int) (b:Int→Option (Unit ⊕ Bool)) (a:Int):Option (Unit ⊕ Bool):=(bif av a (x0.length:Int) then au (aB a x0.length) ((bif (x0.getD a.toNat (0:Int))==x1 then some (Sum.inr true) else b (ax (a+1)))) else some (Sum.inl ()))
def kc x0 x1:=de (lW x0 x1)
theorem vE x0 x1 n p:kc x0 x1 (n+1) p=lW x0 x1 (kc x0 x1 n) p:=rfl
def dh (x0:List Int) (x1:Int):Option (Bool):=Option.bind (kc x0 x1 aq 0:Option (Unit ⊕ Bool)) (Sum.elim (fun (a:Unit)=>some false) (fun (r:Bool)=>some r))
def gL (x0:Int) (x1:List (Int×Int×Int)) (x2:List Bool) (x3:Int) (x4:Int):Option (Bool):=Option.bind (jb x0 x1 x2 x3) (fun a=>Option.bind (dh a x4) (fun b=>some b))
def fz (x0:Int) (x1:List (Int×Int×Int)) (x2:List Bool) (b:(List Int×Int)→Option ((List Int))) (a:(List Int×Int)):Option ((List Int)):=Option.bind (gb (av a.2 (x2.length:Int)) (cO x0 x1 x2)) (fun c=>(bif (av a.2 (x2.length:Int))&&c then Option.bind (kO x0 x1 x2 a.2 false) (fun d=>au (aB a.2 x2.length) (au (!(x2.getD a.2.toNat false) ||aB a.2 x1.length) (au (!(x2.getD a.2.toNat false) ||aB a.2 x1.length) (Option.bind (gb (x2.getD a.2.toNat false) (gL x0 x1 d.1 ((x1.getD a.2.toNat ((0,0,0):Int×Int×Int)).1) ((x1.getD a.2.toNat ((0,0,0):Int×Int×Int)).2.1))) (fun e=>Option.bind (bif (x2.getD a.2.toNat false)&&e then au (bw a.1.length ([a.2]:List Int).length) (some (a.1++([a.2]:List Int))) else some a.1) (fun f=>b (f,ax (a.2+1)))))))) else some a.1))
def dz x0 x1 x2:=de (fz x0 x1 x2)
theorem pK x0 x1 x2 n p:dz x0 x1 x2 (n+1) p=fz x0 x1 x2 (dz x0 x1 x2 n) p:=rfl
def oq (x0:Int) (x1:List (Int×Int×Int)) (x2:List Bool):Option (List Int):=Option.bind (dz x0 x1 x2 aq (([]:List Int),0)) (fun a=>some a)
def mN (x0:Int) (x1:List (Int×Int×Int)) (x2:List Bool):Option (Bool):=Option.bind (oq x0 x1 x2) (fun a=>some (av 0 (a.length:Int)))
def kN (x0:Int) (x1:List (Int×Int×Int)) (x2:List Bool) (x3:List (Int×Int)) (a:Int) (c:Int→Option (Unit ⊕ Bool)) (b:Int):Option (Unit ⊕ Bool):=(bif av b a then au (aB a x3.length) (au (!(av 0 ((x3.getD a.toNat ((0,0):Int×Int)).1)) ||aB b x3.length) (Option.bind (gb ((av 0 ((x3.getD a.toNat ((0,0):Int×Int)).1))&&(av 0 ((x3.getD b.toNat ((0,0):Int×Int)).1))) (gL x0 x1 x2 b a)) (fun d=>(bif ((av 0 ((x3.getD a.toNat ((0,0):Int×Int)).1))&&(av 0 ((x3.getD b.toNat ((0,0):Int×Int)).1)))&&d then some (Sum.inr false) else c (ax (b+1)))))) else some (Sum.inl ()))
def ja x0 x1 x2 x3 a:=de (kN x0 x1 x2 x3 a)
theorem uc x0 x1 x2 x3 p108 n p:ja x0 x1 x2 x3 p108 (n+1) p=kN x0 x1 x2 x3 p108 (ja x0 x1 x2 x3 p108 n) p:=rfl
def kM (x0:Int) (x1:List (Int×Int×Int)) (x2:List Bool) (x3:List (Int×Int)) (b:Int→Option (Unit ⊕ Bool)) (a:Int):Option (Unit ⊕ Bool):=(bif av a x0 then Option.bind (ja x0 x1 x2 x3 a aq 0:Option (Unit ⊕ Bool)) (Sum.elim (fun (c:Unit)=>b (ax (a+1))) (fun (r:Bool)=>some (Sum.inr r))) else some (Sum.inl ()))
def iZ x0 x1 x2 x3:=de (kM x0 x1 x2 x3)
theorem ub x0 x1 x2 x3 n p:iZ x0 x1 x2 x3 (n+1) p=kM x0 x1 x2 x3 (iZ x0 x1 x2 x3 n) p:=rfl
def eR (x0:Int) (x1:List (Int×Int×Int)) (x2:List Bool) (x3:List (Int×Int)):Option (Bool):=Option.bind (gV x0 x1 x2 x3) (fun a=>Option.bind (gb (!(!a)) (mN x0 x1 x2)) (fun b=>(bif (!a) ||b then some false else Option.bind (iZ x0 x1 x2 x3 aq 0:Option (Unit ⊕ Bool)) (Sum.elim (fun (c:Unit)=>some true) (fun (r:Bool)=>some r)))))
def fE (x3:List Bool) (x6:List Int) (c:Int→Option (Unit ⊕ Bool)) (a:Int):Option (Unit ⊕ Bool):=(bif av a (x6.length:Int) then au (aB a x6.length) (Option.bind (aw (x6.getD a.toNat (0:Int)) 0 (ax ((x3.length:Int)-1))) (fun b=>au (!((!(!b))&&(av 0 a)) ||aB (ax (a-1)) x6.length) (au (!((!(!b))&&(av 0 a)) ||aB a x6.length) (au (!(!((!b) ||((av 0 a)&&(bc (x6.getD a.toNat (0:Int)) (x6.getD ((ax (a-1)).toNat) (0:Int)))))) ||aB a x6.length) (au (!(!((!b) ||((av 0 a)&&(bc (x6.getD a.toNat (0:Int)) (x6.getD ((ax (a-1)).toNat) (0:Int)))))) ||aB (x6.getD a.toNat (0:Int)) x3.length) ((bif ((!b) ||((av 0 a)&&(bc (x6.getD a.toNat (0:Int)) (x6.getD ((ax (a-1)).toNat) (0:Int))))) ||(x3.getD ((x6.getD a.toNat (0:Int)).toNat) false) then some (Sum.inr false) else c (ax (a+1))))))))) else some (Sum.inl ()))
def dF x3 x6:=de (fE x3 x6)
theorem pP x3 x6 n p:dF x3 x6 (n+1) p=fE x3 x6 (dF x3 x6 n) p:=rfl
def bq (x0:Int) (x1:List (Int×Int×Int)) (x2:List (Int×Int)) (x3:List Bool) (x4:List Bool) (x5:List (Int×Int)) (x6:List Int):Option (Bool):=Option.bind (gA x0 x1 x2) (fun a=>Option.bind (gb (!(!a)) (eY x3 x4 x5)) (fun b=>(bif ((!a) ||(!b)) ||((x3.length:Int) !=(x1.length:Int)) then some false else Option.bind (dF x3 x6 aq 0:Option (Unit ⊕ Bool)) (Sum.elim (fun (d:Unit)=>Option.bind (eR x0 x1 x3 x2) (fun c=>some c)) (fun (r:Bool)=>some r)))))
def lu (x0:List Bool) (x1:List Bool) (x2:List (Int×Int)):Option (List Bool×List Bool×List (Int×Int)):=Option.bind (kg x0) (fun a=>Option.bind (kg x1) (fun b=>au (bw ([]:List (Int×Int)).length x2.length) (some (a,b,[]++x2))))
def bu (x0:Int) (x1:List (Int×Int×Int)) (x2:List (Int×Int)) (x3:List Bool) (x4:List Bool) (x5:List (Int×Int)) (x6:List Int):Option (Int×List (Int×Int×Int)×List (Int×Int)×List Bool×List Bool×List (Int×Int)×List Int):=au (bw ([]:List (Int×Int×Int)).length x1.length) (au (bw ([]:List (Int×Int)).length x2.length) (Option.bind (lu x3 x4 x5) (fun a=>au (bw ([]:List Int).length x6.length) (some (x0,[]++x1,[]++x2,a.1,a.2.1,a.2.2,[]++x6)))))
def ey (x0:List Bool) (x1:List Bool) (x2:List (Int×Int)) (x3:Int) (b:(List Int×Int)→Option ((List Int))) (a:(List Int×Int)):Option ((List Int)):=Option.bind (gb (av a.2 (x2.length:Int)) (eY x0 x1 x2)) (fun c=>(bif (av a.2 (x2.length:Int))&&c then au (aB a.2 x2.length) (Option.bind (bif ((x2.getD a.2.toNat ((0,0):Int×Int)).2)==x3 then au (aB a.2 x2.length) (au (bw a.1.length ([(x2.getD a.2.toNat ((0,0):Int×Int)).1]:List Int).length) (some (a.1++([(x2.getD a.2.toNat ((0,0):Int×Int)).1]:List Int)))) else some a.1) (fun d=>b (d,ax (a.2+1)))) else some a.1))
def jL x0 x1 x2 x3:=de (ey x0 x1 x2 x3)
theorem mY x0 x1 x2 x3 n p:jL x0 x1 x2 x3 (n+1) p=ey x0 x1 x2 x3 (jL x0 x1 x2 x3 n) p:=rfl
def dV (x0:List Bool) (x1:List Bool) (x2:List (Int×Int)) (x3:Int):Option (List Int):=Option.bind (jL x0 x1 x2 x3 aq (([]:List Int),0)) (fun a=>some a)
def jN (x6:List Int) (x7:Int) (b:(Int×List Int)→Option ((List Int))) (a:(Int×List Int)):Option ((List Int)):=(bif av a.1 (x6.length:Int) then au (aB a.1 x6.length) (Option.bind (bif (x6.getD a.1.toNat (0:Int)) !=x7 then au (aB a.1 x6.length) (au (bw a.2.length ([(x6.getD a.1.toNat (0:Int))]:List Int).length) (some (a.2++([(x6.getD a.1.toNat (0:Int))]:List Int)))) else some a.2) (fun c=>b (ax (a.1+1),c))) else some a.2)
def gR x6 x7:=de (jN x6 x7)
theorem sM x6 x7 n p:gR x6 x7 (n+1) p=jN x6 x7 (gR x6 x7 n) p:=rfl
def oA (x0:Int) (x1:List (Int×Int×Int)) (x2:List (Int×Int)) (x3:List Bool) (x4:List Bool) (x5:List (Int×Int)) (x6:List Int) (x7:Int):Option (Int×List (Int×Int×Int)×List (Int×Int)×List Bool×List Bool×List (Int×Int)×List Int):=Option.bind (bu x0 x1 x2 x3 x4 x5 x6) (fun a=>Option.bind (gR x6 x7 aq (0,([]:List Int))) (fun b=>some (a.1,a.2.1,a.2.2.1,a.2.2.2.1,a.2.2.2.2.1,a.2.2.2.2.2.1,b)))
def iM (x3:List Bool) (x6:List Int) (x7:Int) (b:(Int×List Int)→Option ((List Int))) (a:(Int×List Int)):Option ((List Int)):=(bif av a.1 (x3.length:Int) then Option.bind (gb (!(a.1==x7)) (dh x6 a.1)) (fun c=>Option.bind (bif (a.1==x7) ||c then au (bw a.2.length ([a.1]:List Int).length) (some (a.2++([a.1]:List Int))) else some a.2) (fun d=>b (ax (a.1+1),d))) else some a.2)
def fh x3 x6 x7:=de (iM x3 x6 x7)
theorem rC x3 x6 x7 n p:fh x3 x6 x7 (n+1) p=iM x3 x6 x7 (fh x3 x6 x7 n) p:=rfl
def mS (x0:Int) (x1:List (Int×Int×Int)) (x2:List (Int×Int)) (x3:List Bool) (x4:List Bool) (x5:List (Int×Int)) (x6:List Int) (x7:Int):Option (Int×List (Int×Int×Int)×List (Int×Int)×List Bool×List Bool×List (Int×Int)×List Int):=Option.bind (bu x0 x1 x2 x3 x4 x5 x6) (fun a=>au (aB x7 a.2.2.2.1.length) (Option.bind (fh x3 x6 x7 aq (0,([]:List Int))) (fun b=>some (a.1,a.2.1,a.2.2.1,a.2.2.2.1.set x7.toNat false,a.2.2.2.2.1,a.2.2.2.2.2.1,b))))
def pq (x0:List Bool) (x1:List Bool) (x2:List (Int×Int)) (x3:Int) (x4:Int) (x5:Int):Option (Bool):=Option.bind (jf x2 x5 x4) (fun a=>(bif x3==0 then au (aB x4 x0.length) (au (!(!(x0.getD x4.toNat false)) ||aB x4 x1.length) (some ((!(x0.getD x4.toNat false))&&(!(x1.getD x4.toNat false))))) else (bif x3==1 then au (aB x4 x0.length) (some (x0.getD x4.toNat false)) else (bif x3==2 then au (aB x4 x0.length) (au (!(!(x0.getD x4.toNat false)) ||aB x4 x1.length) (some ((!(x0.getD x4.toNat false))&&(!(x1.getD x4.toNat false))))) else (bif x3==3 then Option.bind (au (aB x4 x1.length) ((bif x1.getD x4.toNat false then Option.bind (dV x0 x1 x2 x4) (fun b=>some ((b.length:Int)==0)) else some false))) (fun c=>some c) else (bif x3==4 then au (aB x4 x1.length) (Option.bind (gb (x1.getD x4.toNat false) (aw x5 0 9)) (fun d=>some ((((x1.getD x4.toNat false)&&d)&&(av a 0))&&(av (x2.length:Int) 6)))) else (bif x3==5 then some (bc 0 a) else some false)))))))
def mv (x0:List Bool) (x1:List Bool) (x2:List (Int×Int)) (x3:Int) (x4:Int) (x5:Int):Option (List Bool×List Bool×List (Int×Int)×Bool):=Option.bind (eY x0 x1 x2) (fun h=>(bif h then Option.bind (lu x0 x1 x2) (fun a=>Option.bind (aw x4 0 (ax ((x0.length:Int)-1))) (fun e=>Option.bind (gb (!(!e)) (pq x0 x1 x2 x3 x4 x5)) (fun i=>(bif (!e) ||(!i) then some (a.1,a.2.1,a.2.2,false) else Option.bind (bif x3==0 then au (aB x4 a.1.length) (some (a.1.set x4.toNat true,a.2.1,a.2.2)) else Option.bind (bif x3==1 then au (aB x4 a.1.length) (some (a.1.set x4.toNat false,a.2.1,a.2.2)) else Option.bind (bif x3==2 then au (aB x4 a.2.1.length) (some (a.2.1.set x4.toNat true,a.2.2)) else Option.bind (bif x3==3 then au (aB x4 a.2.1.length) (some (a.2.1.set x4.toNat false,a.2.2)) else Option.bind (bif x3==4 then au (bw a.2.2.length ([(x5,x4)]:List (Int×Int)).length) (some (a.2.2++([(x5,x4)]:List (Int×Int)))) else Option.bind (jf x2 x5 x4) (fun b=>au (vq 0 b a.2.2.length) (au (vq (ax (b+1)) (x2.length:Int) x2.length) (au (bw (aj a.2.2 0 b).length (aj x2 (ax (b+1)) (x2.length:Int)).length) (some ((aj a.2.2 0 b)++(aj x2 (ax (b+1)) (x2.length:Int)))))))) (fun j=>some (a.2.1,j))) (fun f=>some (f.1,f.2))) (fun g=>some (a.1,g.1,g.2))) (fun c=>some (c.1,c.2.1,c.2.2))) (fun d=>some (d.1,d.2.1,d.2.2,true)))))) else some (([]:List Bool),([]:List Bool),([]:List (Int×Int)),false)))
def jd (x0:Int) (x1:List (Int×Int×Int)) (x2:List (Int×Int)) (x3:List Bool) (x4:List Bool) (x5:List (Int×Int)) (x6:List Int) (x7:Int) (x8:Int) (x9:Int):Option (Int×List (Int×Int×Int)×List (Int×Int)×List Bool×List Bool×List (Int×Int)×List Int×Bool):=Option.bind (bq x0 x1 x2 x3 x4 x5 x6) (fun h=>(bif h then Option.bind (aw x8 0 (ax ((x3.length:Int)-1))) (fun i=>(bif i then Option.bind (dh x6 x8) (fun g=>(bif (x7==6)&&(!g) then Option.bind (mS x0 x1 x2 x3 x4 x5 x6 x8) (fun b=>some (b.1,b.2.1,b.2.2.1,b.2.2.2.1,b.2.2.2.2.1,b.2.2.2.2.2.1,b.2.2.2.2.2.2,true)) else Option.bind (bif (x7==7)&&g then Option.bind (dV x3 x4 x5 x8) (fun j=>Option.bind (dh j x9) (fun k=>some k)) else some false) (fun l=>(bif l then Option.bind (oA x0 x1 x2 x3 x4 x5 x6 x8) (fun c=>some (c.1,c.2.1,c.2.2.1,c.2.2.2.1,c.2.2.2.2.1,c.2.2.2.2.2.1,c.2.2.2.2.2.2,true)) else (bif (x7==0)&&g then Option.bind (bu x0 x1 x2 x3 x4 x5 x6) (fun d=>some (d.1,d.2.1,d.2.2.1,d.2.2.2.1,d.2.2.2.2.1,d.2.2.2.2.2.1,d.2.2.2.2.2.2,false)) else Option.bind (bu x0 x1 x2 x3 x4 x5 x6) (fun a=>Option.bind (mv x3 x4 x5 x7 x8 x9) (fun f=>Option.bind (gb (!(!f.2.2.2)) (eR x0 x1 f.1 x2)) (fun m=>(bif (!f.2.2.2) ||(!m) then some (a.1,a.2.1,a.2.2.1,a.2.2.2.1,a.2.2.2.2.1,a.2.2.2.2.2.1,a.2.2.2.2.2.2,false) else some (a.1,a.2.1,a.2.2.1,f.1,f.2.1,f.2.2.1,a.2.2.2.2.2.2,true)))))))))) else Option.bind (bu x0 x1 x2 x3 x4 x5 x6) (fun e=>some (e.1,e.2.1,e.2.2.1,e.2.2.2.1,e.2.2.2.2.1,e.2.2.2.2.2.1,e.2.2.2.2.2.2,false)))) else some (0,([]:List (Int×Int×Int)),([]:List (Int×Int)),([]:List Bool),([]:List Bool),([]:List (Int×Int)),([]:List Int),false)))
def mi (x0:List Int) (e:(Int×Int×Int×List (Int×Int×Int)×List (Int×Int)×List Bool×List Bool×List (Int×Int)×List Int)→Option ((Int×Int×List (Int×Int×Int)×List (Int×Int)×List Bool×List Bool×List (Int×Int)×List Int))) (a:(Int×Int×Int×List (Int×Int×Int)×List (Int×Int)×List Bool×List Bool×List (Int×Int)×List Int)):Option ((Int×Int×List (Int×Int×Int)×List (Int×Int)×List Bool×List Bool×List (Int×Int)×List Int)):=(bif av 0 a.1 then Option.bind (iL x0 a.2.1 a.2.2.1 a.2.2.2.1 a.2.2.2.2.1 a.2.2.2.2.2.1 a.2.2.2.2.2.2.1 a.2.2.2.2.2.2.2.1 a.2.2.2.2.2.2.2.2) (fun d=>Option.bind (jd a.2.2.1 a.2.2.2.1 a.2.2.2.2.1 a.2.2.2.2.2.1 a.2.2.2.2.2.2.1 a.2.2.2.2.2.2.2.1 a.2.2.2.2.2.2.2.2 d.1 d.2.1 d.2.2.1) (fun b=>Option.bind (bif b.2.2.2.2.2.2.2 then some (b.1,b.2.1,b.2.2.1,b.2.2.2.1,b.2.2.2.2.1,b.2.2.2.2.2.1,b.2.2.2.2.2.2.1) else some (a.2.2.1,a.2.2.2.1,a.2.2.2.2.1,a.2.2.2.2.2.1,a.2.2.2.2.2.2.1,a.2.2.2.2.2.2.2.1,a.2.2.2.2.2.2.2.2)) (fun c=>e (ax (a.1-1),d.2.2.2,c.1,c.2.1,c.2.2.1,c.2.2.2.1,c.2.2.2.2.1,c.2.2.2.2.2.1,c.2.2.2.2.2.2)))) else some (a.2.1,a.2.2.1,a.2.2.2.1,a.2.2.2.2.1,a.2.2.2.2.2.1,a.2.2.2.2.2.2.1,a.2.2.2.2.2.2.2.1,a.2.2.2.2.2.2.2.2))
def ff x0:=de (mi x0)
theorem yL x0 n p:ff x0 (n+1) p=mi x0 (ff x0 n) p:=rfl
def mj (b:Int×Int×List (Int×Int×Int)×List (Int×Int)×List Bool×List Bool×List (Int×Int)×List Int) (c:(Int×List Int)→Option ((List Int))) (a:(Int×List Int)):Option ((List Int)):=(bif av a.1 (b.2.2.2.2.1.length:Int) then au (aB a.1 b.2.2.2.2.1.length) (Option.bind (bif b.2.2.2.2.1.getD a.1.toNat false then some ([a.1]:List Int) else some a.2) (fun d=>c (ax (a.1+1),d))) else some a.2)
def fg a:=de (mj a)
theorem yM p117 n p:fg p117 (n+1) p=mj p117 (fg p117 n) p:=rfl
def mR (x0:List Int) (x1:Int) (x2:Int):Option (Int×List (Int×Int×Int)×List (Int×Int)×List Bool×List Bool×List (Int×Int)×List Int×Int):=Option.bind (lX x0 x1 0) (fun b=>au (yk (b.2.2.1.length:Int)) (Option.bind (ac x0 b.2.2.2.2 10) (fun j=>Option.bind (ff x0 aq (j.1,j.2,b.1,b.2.1,b.2.2.2.1,b.2.2.1,List.replicate b.2.2.1.length false,([]:List (Int×Int)),([]:List Int))) (fun a=>Option.bind (cv x0 a.1 x2) (fun h=>Option.bind (bif h.1 then Option.bind (ac x0 h.2 5) (fun c=>Option.bind (bif c.1==0 then au (vq 1 (a.2.2.2.1.length:Int) a.2.2.2.1.length) (some (aj a.2.2.2.1 1 (a.2.2.2.1.length:Int),a.2.2.2.2.1,a.2.2.2.2.2.1,a.2.2.2.2.2.2.2)) else Option.bind (bif c.1==1 then au (bw a.2.2.2.2.2.2.2.length ([(a.2.2.2.2.1.length:Int)]:List Int).length) (some (a.2.2.2.1,a.2.2.2.2.1,a.2.2.2.2.2.1,a.2.2.2.2.2.2.2++([(a.2.2.2.2.1.length:Int)]:List Int))) else Option.bind (bif c.1==2 then Option.bind (fg a aq (0,a.2.2.2.2.2.2.2)) (fun k=>some (a.2.2.2.1,a.2.2.2.2.1,a.2.2.2.2.2.1,k)) else Option.bind (bif c.1==3 then au (bw a.2.2.2.2.1.length ([false]:List Bool).length) (au (bw a.2.2.2.2.2.1.length ([false]:List Bool).length) (some (a.2.2.2.1,a.2.2.2.2.1++([false]:List Bool),a.2.2.2.2.2.1++([false]:List Bool)))) else au (aB 0 a.2.2.2.1.length) (au (aB 1 a.2.2.2.1.length) (some ((a.2.2.2.1.set ((0:Int).toNat) (9,(a.2.2.2.1.getD ((0:Int).toNat) ((0,0):Int×Int)).2)).set ((1:Int).toNat) (9,((a.2.2.2.1.set ((0:Int).toNat) (9,(a.2.2.2.1.getD ((0:Int).toNat) ((0,0):Int×Int)).2)).getD ((1:Int).toNat) ((0,0):Int×Int)).2),a.2.2.2.2.1,a.2.2.2.2.2.1)))) (fun i=>some (i.1,i.2.1,i.2.2,a.2.2.2.2.2.2.2))) (fun e=>some (e.1,e.2.1,e.2.2.1,e.2.2.2))) (fun f=>some (f.1,f.2.1,f.2.2.1,f.2.2.2))) (fun g=>some (c.2,g.1,g.2.1,g.2.2.1,g.2.2.2))) else some (h.2,a.2.2.2.1,a.2.2.2.2.1,a.2.2.2.2.2.1,a.2.2.2.2.2.2.2)) (fun d=>some (a.2.1,a.2.2.1,d.2.1,d.2.2.1,d.2.2.2.1,a.2.2.2.2.2.2.1,d.2.2.2.2,d.1)))))))
def oz (x0:List Int) (x1:Int) (x2:Int) (x3:List (Int×Int×Int)) (x4:List (Int×Int)) (x5:List Bool) (x6:List Bool) (x7:List (Int×Int)) (x8:List Int):Option (ByteArray×Int):=Option.bind (ac x0 x1 10) (fun a=>au (aB a.1 (([({data:= #[111,110]}:ByteArray),({data:= #[111,110]}:ByteArray),({data:= #[111,102,102]}:ByteArray),({data:= #[101,97,114,116,104]}:ByteArray),({data:= #[99,108,101,97,114]}:ByteArray),({data:= #[105,115,115,117,101]}:ByteArray),({data:= #[114,101,116,117,114,110]}:ByteArray),({data:= #[98,114,101,97,107]}:ByteArray),({data:= #[109,101,110,100]}:ByteArray),({data:= #[102,108,111,119]}:ByteArray)]:List ByteArray).length)) (au (Fk (([({data:= #[111,110]}:ByteArray),({data:= #[111,110]}:ByteArray),({data:= #[111,102,102]}:ByteArray),({data:= #[101,97,114,116,104]}:ByteArray),({data:= #[99,108,101,97,114]}:ByteArray),({data:= #[105,115,115,117,101]}:ByteArray),({data:= #[114,101,116,117,114,110]}:ByteArray),({data:= #[98,114,101,97,107]}:ByteArray),({data:= #[109,101,110,100]}:ByteArray),({data:= #[102,108,111,119]}:ByteArray)]:List ByteArray).getD a.1.toNat ByteArray.empty).size ({data:= #[32]}:ByteArray).size) (Option.bind (ac x0 a.2 (ax ((x5.length:Int)+1))) (fun d=>Option.bind (aT d.1) (fun b=>au (Fk ((([({data:= #[111,110]}:ByteArray),({data:= #[111,110]}:ByteArray),({data:= #[111,102,102]}:ByteArray),({data:= #[101,97,114,116,104]}:ByteArray),({data:= #[99,108,101,97,114]}:ByteArray),({data:= #[105,115,115,117,101]}:ByteArray),({data:= #[114,101,116,117,114,110]}:ByteArray),({data:= #[98,114,101,97,107]}:ByteArray),({data:= #[109,101,110,100]}:ByteArray),({data:= #[102,108,111,119]}:ByteArray)]:List ByteArray).getD a.1.toNat ByteArray.empty)++({data:= #[32]}:ByteArray)).size b.size) (Option.bind (bif (((([({data:= #[111,110]}:ByteArray),({data:= #[111,110]}:ByteArray),({data:= #[111,102,102]}:ByteArray),({data:= #[101,97,114,116,104]}:ByteArray),({data:= #[99,108,101,97,114]}:ByteArray),({data:= #[105,115,115,117,101]}:ByteArray),({data:= #[114,101,116,117,114,110]}:ByteArray),({data:= #[98,114,101,97,107]}:ByteArray),({data:= #[109,101,110,100]}:ByteArray),({data:= #[102,108,111,119]}:ByteArray)]:List ByteArray).getD a.1.toNat ByteArray.empty).toList==({data:= #[105,115,115,117,101]}:ByteArray).toList) ||((([({data:= #[111,110]}:ByteArray),({data:= #[111,110]}:ByteArray),({data:= #[111,102,102]}:ByteArray),({data:= #[101,97,114,116,104]}:ByteArray),({data:= #[99,108,101,97,114]}:ByteArray),({data:= #[105,115,115,117,101]}:ByteArray),({data:= #[114,101,116,117,114,110]}:ByteArray),({data:= #[98,114,101,97,107]}:ByteArray),({data:= #[109,101,110,100]}:ByteArray),({data:= #[102,108,111,119]}:ByteArray)]:List ByteArray).getD a.1.toNat ByteArray.empty).toList==({data:= #[114,101,116,117,114,110]}:ByteArray).toList)) ||((([({data:= #[111,110]}:ByteArray),({data:= #[111,110]}:ByteArray),({data:= #[111,102,102]}:ByteArray),({data:= #[101,97,114,116,104]}:ByteArray),({data:= #[99,108,101,97,114]}:ByteArray),({data:= #[105,115,115,117,101]}:ByteArray),({data:= #[114,101,116,117,114,110]}:ByteArray),({data:= #[98,114,101,97,107]}:ByteArray),({data:= #[109,101,110,100]}:ByteArray),({data:= #[102,108,111,119]}:ByteArray)]:List ByteArray).getD a.1.toNat ByteArray.empty).toList==({data:= #[109,101,110,100]}:ByteArray).toList) then au (Fk (((([({data:= #[111,110]}:ByteArray),({data:= #[111,110]}:ByteArray),({data:= #[111,102,102]}:ByteArray),({data:= #[101,97,114,116,104]}:ByteArray),({data:= #[99,108,101,97,114]}:ByteArray),({data:= #[105,115,115,117,101]}:ByteArray),({data:= #[114,101,116,117,114,110]}:ByteArray),({data:= #[98,114,101,97,107]}:ByteArray),({data:= #[109,101,110,100]}:ByteArray),({data:= #[102,108,111,119]}:ByteArray)]:List ByteArray).getD a.1.toNat ByteArray.empty)++({data:= #[32]}:ByteArray))++b).size ({data:= #[32]}:ByteArray).size) (Option.bind (ac x0 d.2 3) (fun g=>Option.bind (aT g.1) (fun h=>au (Fk ((((([({data:= #[111,110]}:ByteArray),({data:= #[111,110]}:ByteArray),({data:= #[111,102,102]}:ByteArray),({data:= #[101,97,114,116,104]}:ByteArray),({data:= #[99,108,101,97,114]}:ByteArray),({data:= #[105,115,115,117,101]}:ByteArray),({data:= #[114,101,116,117,114,110]}:ByteArray),({data:= #[98,114,101,97,107]}:ByteArray),({data:= #[109,101,110,100]}:ByteArray),({data:= #[102,108,111,119]}:ByteArray)]:List ByteArray).getD a.1.toNat ByteArray.empty)++({data:= #[32]}:ByteArray))++b)++({data:= #[32]}:ByteArray)).size h.size) (some (((((([({data:= #[111,110]}:ByteArray),({data:= #[111,110]}:ByteArray),({data:= #[111,102,102]}:ByteArray),({data:= #[101,97,114,116,104]}:ByteArray),({data:= #[99,108,101,97,114]}:ByteArray),({data:= #[105,115,115,117,101]}:ByteArray),({data:= #[114,101,116,117,114,110]}:ByteArray),({data:= #[98,114,101,97,107]}:ByteArray),({data:= #[109,101,110,100]}:ByteArray),({data:= #[102,108,111,119]}:ByteArray)]:List ByteArray).getD a.1.toNat ByteArray.empty)++({data:= #[32]}:ByteArray))++b)++({data:= #[32]}:ByteArray))++h,g.2))))) else some (((([({data:= #[111,110]}:ByteArray),({data:= #[111,110]}:ByteArray),({data:= #[111,102,102]}:ByteArray),({data:= #[101,97,114,116,104]}:ByteArray),({data:= #[99,108,101,97,114]}:ByteArray),({data:= #[105,115,115,117,101]}:ByteArray),({data:= #[114,101,116,117,114,110]}:ByteArray),({data:= #[98,114,101,97,107]}:ByteArray),({data:= #[109,101,110,100]}:ByteArray),({data:= #[102,108,111,119]}:ByteArray)]:List ByteArray).getD a.1.toNat ByteArray.empty)++({data:= #[32]}:ByteArray))++b,d.2)) (fun i=>Option.bind (ac x0 i.2 8) (fun c=>(bif c.1==0 then Option.bind (ac x0 c.2 6) (fun e=>au (aB e.1 (([({data:= #[115,116,97,116,101]}:ByteArray),({data:= #[115,101,114,118,101,100]}:ByteArray),({data:= #[100,97,114,107]}:ByteArray),({data:= #[98,114,111,107,101,110]}:ByteArray),({data:= #[110,101,116]}:ByteArray),({data:= #[104,101,97,108]}:ByteArray)]:List ByteArray).length)) (some ((([({data:= #[115,116,97,116,101]}:ByteArray),({data:= #[115,101,114,118,101,100]}:ByteArray),({data:= #[100,97,114,107]}:ByteArray),({data:= #[98,114,111,107,101,110]}:ByteArray),({data:= #[110,101,116]}:ByteArray),({data:= #[104,101,97,108]}:ByteArray)]:List ByteArray).getD e.1.toNat ByteArray.empty),e.2))) else (bif c.1==1 then Option.bind (ac x0 c.2 8) (fun f=>au (aB f.1 (([({data:= #[]}:ByteArray),({data:= #[111,110]}:ByteArray),({data:= #[111,110,32,48,49]}:ByteArray),({data:= #[105,115,115,117,101,32,49]}:ByteArray),({data:= #[115,116,97,116,101,32,49]}:ByteArray),({data:= #[111,102,102,32,49,32]}:ByteArray),({data:= #[122,105,112]}:ByteArray),({data:= #[102,108,111,119,32,120]}:ByteArray)]:List ByteArray).length)) (some ((([({data:= #[]}:ByteArray),({data:= #[111,110]}:ByteArray),({data:= #[111,110,32,48,49]}:ByteArray),({data:= #[105,115,115,117,101,32,49]}:ByteArray),({data:= #[115,116,97,116,101,32,49]}:ByteArray),({data:= #[111,102,102,32,49,32]}:ByteArray),({data:= #[122,105,112]}:ByteArray),({data:= #[102,108,111,119,32,120]}:ByteArray)]:List ByteArray).getD f.1.toNat ByteArray.empty),f.2))) else some (i.1,c.2)))))))))))
def kB (x0:Int):Option (Bool):=some ((bc 0 x0)&&(bc x0 999))
def fl (x2:List (Int×Int)) (c:Int→Option (Unit ⊕ Bool)) (a:Int):Option (Unit ⊕ Bool):=(bif av a (x2.length:Int) then au (aB a x2.length) (Option.bind (kB ((x2.getD a.toNat ((0,0):Int×Int)).1)) (fun b=>Option.bind (gb (!(!b)) (kB ((x2.getD a.toNat ((0,0):Int×Int)).2))) (fun d=>(bif (!b) ||(!d) then some (Sum.inr false) else c (ax (a+1)))))) else some (Sum.inl ()))
def dm x2:=de (fl x2)
theorem pC x2 n p:dm x2 (n+1) p=fl x2 (dm x2 n) p:=rfl
def fU (x0:Int) (x1:List (Int×Int×Int)) (x2:List (Int×Int)):Option (Bool):=Option.bind (aN x0 x1) (fun a=>(bif (!a) ||((x2.length:Int) !=x0) then some false else Option.bind (dm x2 aq 0:Option (Unit ⊕ Bool)) (Sum.elim (fun (b:Unit)=>some true) (fun (r:Bool)=>some r))))
def aX (x0:List (Int×Int)) (x1:Int) (x2:Int) (b:Int→Option (Unit ⊕ Int)) (a:Int):Option (Unit ⊕ Int):=(bif av a (x0.length:Int) then au (aB a x0.length) ((bif (x1==((x0.getD a.toNat ((0,0):Int×Int)).1))&&(x2==((x0.getD a.toNat ((0,0):Int×Int)).2)) then some (Sum.inr a) else b (ax (a+1)))) else some (Sum.inl ()))
def aK x0 x1 x2:=de (aX x0 x1 x2)
theorem cS x0 x1 x2 n p:aK x0 x1 x2 (n+1) p=aX x0 x1 x2 (aK x0 x1 x2 n) p:=rfl
def aR (x0:List (Int×Int)) (x1:Int) (x2:Int):Option (Int):=Option.bind (aK x0 x1 x2 aq 0:Option (Unit ⊕ Int)) (Sum.elim (fun (a:Unit)=>some (-1)) (fun (r:Int)=>some r))
def aE (x0:List (Int×Int)) (x1:Int) (x2:Int):Option (Bool):=Option.bind (aR x0 x1 x2) (fun a=>some (bc 0 a))
def gc (x0:List Bool) (x1:List Bool) (b:Int→Option (Unit ⊕ Bool)) (a:Int):Option (Unit ⊕ Bool):=(bif av a (x0.length:Int) then au (aB a x0.length) (au (!(x0.getD a.toNat false) ||aB a x1.length) ((bif (x0.getD a.toNat false)&&(x1.getD a.toNat false) then some (Sum.inr false) else b (ax (a+1))))) else some (Sum.inl ()))
def eh x0 x1:=de (gc x0 x1)
theorem qo x0 x1 n p:eh x0 x1 (n+1) p=gc x0 x1 (eh x0 x1 n) p:=rfl
def gf (x0:List Bool) (x1:List Bool) (x2:List (Int×Int)) (b:Int→Option (Unit ⊕ Bool)) (a:Int):Option (Unit ⊕ Bool):=(bif av a (x2.length:Int) then au (aB a x2.length) (au (!(!((((av ((x2.getD a.toNat ((0,0):Int×Int)).1) 0) ||(av 9 ((x2.getD a.toNat ((0,0):Int×Int)).1))) ||(av ((x2.getD a.toNat ((0,0):Int×Int)).2) 0)) ||(bc (x0.length:Int) ((x2.getD a.toNat ((0,0):Int×Int)).2)))) ||aB ((x2.getD a.toNat ((0,0):Int×Int)).2) x1.length) (au (!(!(((((av ((x2.getD a.toNat ((0,0):Int×Int)).1) 0) ||(av 9 ((x2.getD a.toNat ((0,0):Int×Int)).1))) ||(av ((x2.getD a.toNat ((0,0):Int×Int)).2) 0)) ||(bc (x0.length:Int) ((x2.getD a.toNat ((0,0):Int×Int)).2))) ||(!(x1.getD (((x2.getD a.toNat ((0,0):Int×Int)).2).toNat) false)))) ||vq 0 a x2.length) (Option.bind (gb (!(((((av ((x2.getD a.toNat ((0,0):Int×Int)).1) 0) ||(av 9 ((x2.getD a.toNat ((0,0):Int×Int)).1))) ||(av ((x2.getD a.toNat ((0,0):Int×Int)).2) 0)) ||(bc (x0.length:Int) ((x2.getD a.toNat ((0,0):Int×Int)).2))) ||(!(x1.getD (((x2.getD a.toNat ((0,0):Int×Int)).2).toNat) false)))) (aE (aj x2 0 a) ((x2.getD a.toNat ((0,0):Int×Int)).1) ((x2.getD a.toNat ((0,0):Int×Int)).2))) (fun c=>(bif (((((av ((x2.getD a.toNat ((0,0):Int×Int)).1) 0) ||(av 9 ((x2.getD a.toNat ((0,0):Int×Int)).1))) ||(av ((x2.getD a.toNat ((0,0):Int×Int)).2) 0)) ||(bc (x0.length:Int) ((x2.getD a.toNat ((0,0):Int×Int)).2))) ||(!(x1.getD (((x2.getD a.toNat ((0,0):Int×Int)).2).toNat) false))) ||c then some (Sum.inr false) else b (ax (a+1))))))) else some (Sum.inl ()))
def ei x0 x1 x2:=de (gf x0 x1 x2)
theorem qp x0 x1 x2 n p:ei x0 x1 x2 (n+1) p=gf x0 x1 x2 (ei x0 x1 x2 n) p:=rfl
def eS (x0:List Bool) (x1:List Bool) (x2:List (Int×Int)):Option (Bool):=(bif (((av (x0.length:Int) 1) ||(av 10 (x0.length:Int))) ||((x1.length:Int) !=(x0.length:Int))) ||(av 6 (x2.length:Int)) then some false else Option.bind (eh x0 x1 aq 0:Option (Unit ⊕ Bool)) (Sum.elim (fun (a:Unit)=>Option.bind (ei x0 x1 x2 aq 0:Option (Unit ⊕ Bool)) (Sum.elim (fun (b:Unit)=>some true) (fun (r:Bool)=>some r))) (fun (r:Bool)=>some r)))
def aS (x0:Int) (x1:List (Int×Int×Int)) (x2:Int):Option (Bool):=some ((bc 0 x2)&&(av x2 (x1.length:Int)))
def kA (x0:Int) (x1:List (Int×Int×Int)) (x2:List Bool):Option (Bool):=Option.bind (aN x0 x1) (fun a=>some (a&&((x2.length:Int)==(x1.length:Int))))
def dR (x0:Int) (x1:List (Int×Int×Int)) (x2:List Bool) (x3:List (Int×Int)):Option (Bool):=Option.bind (kA x0 x1 x2) (fun a=>Option.bind (gb a (fU x0 x1 x3)) (fun b=>some (a&&b)))
def iC (x0:Int) (b:(List Int×Int)→Option ((List Int))) (a:(List Int×Int)):Option ((List Int)):=(bif av a.2 (x0.toNat:Int) then au (aB a.2 x0.toNat) (b (a.1.set a.2.toNat a.2,ax (a.2+1))) else some a.1)
def fc x0:=de (iC x0)
theorem ry x0 n p:fc x0 (n+1) p=iC x0 (fc x0 n) p:=rfl
def ka (x0:Int):Option (List Int):=au (yk x0) (Option.bind (fc x0 aq (List.replicate x0.toNat (0:Int),0)) (fun a=>some a))
def kj (x0:List Int) (b:(List Int×Int)→Option ((Int×List Int))) (a:(List Int×Int)):Option ((Int×List Int)):=au (aB a.2 x0.length) ((bif (a.1.getD a.2.toNat (0:Int)) !=a.2 then au (aB a.2 x0.length) (au (aB (a.1.getD a.2.toNat (0:Int)) x0.length) (au (aB a.2 x0.length) (au (aB a.2 x0.length) (b (a.1.set a.2.toNat (a.1.getD ((a.1.getD a.2.toNat (0:Int)).toNat) (0:Int)),((a.1.set a.2.toNat (a.1.getD ((a.1.getD a.2.toNat (0:Int)).toNat) (0:Int))).getD a.2.toNat (0:Int))))))) else some (a.2,a.1)))
def gq x0:=de (kj x0)
theorem wI x0 n p:gq x0 (n+1) p=kj x0 (gq x0 n) p:=rfl
def bM (x0:List Int) (x1:Int):Option (Int×List Int):=Option.bind (gq x0 aq (x0,x1)) (fun a=>some (a.1,a.2))
def kI (x0:List Int) (x1:Int) (x2:Int):Option (Bool×List Int):=Option.bind (bM x0 x1) (fun a=>Option.bind (bM a.2 x2) (fun b=>some (a.1==b.1,b.2)))
def gr (x0:List Int) (x1:Int) (x2:Int):Option (List Int):=Option.bind (bM x0 x1) (fun a=>Option.bind (bM a.2 x2) (fun b=>au (aB (max a.1 b.1) x0.length) (some (b.2.set ((max a.1 b.1).toNat) (min a.1 b.1)))))
def iy (x1:List (Int×Int×Int)) (x2:List Bool) (c:(List Int×Int)→Option (Unit ⊕ Bool)) (a:(List Int×Int)):Option (Unit ⊕ Bool):=(bif av a.2 (x1.length:Int) then au (aB a.2 x1.length) (au (aB a.2 x2.length) (Option.bind ((bif x2.getD a.2.toNat false then Option.bind (kI a.1 ((x1.getD a.2.toNat ((0,0,0):Int×Int×Int)).1) ((x1.getD a.2.toNat ((0,0,0):Int×Int×Int)).2.1)) (fun b=>(bif b.1 then some (Sum.inr true) else Option.bind (gr b.2 ((x1.getD a.2.toNat ((0,0,0):Int×Int×Int)).1) ((x1.getD a.2.toNat ((0,0,0):Int×Int×Int)).2.1)) (fun d=>some (Sum.inl d)))) else some (Sum.inl a.1)):Option ((List Int) ⊕ Bool)) (Sum.elim (fun (e:List Int)=>c (e,ax (a.2+1))) (fun (r:Bool)=>some (Sum.inr r))))) else some (Sum.inl ()))
def jv x1 x2:=de (iy x1 x2)
theorem ru x1 x2 n p:jv x1 x2 (n+1) p=iy x1 x2 (jv x1 x2 n) p:=rfl
def mK (x0:Int) (x1:List (Int×Int×Int)) (x2:List Bool):Option (Bool):=Option.bind (ka x0) (fun a=>Option.bind (jv x1 x2 aq (a,0):Option (Unit ⊕ Bool)) (Sum.elim (fun (b:Unit)=>some false) (fun (r:Bool)=>some r)))
def cI (x0:Int) (x1:Int) (x2:Int) (x3:Int):Option (Int):=(bif x3==x0 then some x1 else (bif x3==x1 then some x0 else some (-1)))
def eM (x1:List (Int×Int×Int)) (x2:List Int) (x3:List Int) (x5:List Bool) (x6:Int) (d:Int×List Int×List Int×List Int) (e:(Int×List Int×List Int×List Int)→Option ((List Int×List Int×List Int))) (a:(Int×List Int×List Int×List Int)):Option ((List Int×List Int×List Int)):=(bif av a.1 (x1.length:Int) then au (aB a.1 x1.length) (Option.bind (cI ((x1.getD a.1.toNat ((0,0,0):Int×Int×Int)).1) ((x1.getD a.1.toNat ((0,0,0):Int×Int×Int)).2.1) ((x1.getD a.1.toNat ((0,0,0):Int×Int×Int)).2.2) (d.2.2.2.getD d.1.toNat (0:Int))) (fun b=>au (aB a.1 x5.length) (au (!((x5.getD a.1.toNat false)&&(bc 0 b)) ||aB b x2.length) (Option.bind (bif ((x5.getD a.1.toNat false)&&(bc 0 b))&&(av (a.2.1.getD b.toNat (0:Int)) 0) then au (aB b x2.length) (au (aB b x3.length) (au (bw a.2.2.2.length ([b]:List Int).length) (some (a.2.1.set b.toNat x6,a.2.2.1.set b.toNat a.1,a.2.2.2++([b]:List Int))))) else some (a.2.1,a.2.2.1,a.2.2.2)) (fun c=>e (ax (a.1+1),c.1,c.2.1,c.2.2)))))) else some (a.2.1,a.2.2.1,a.2.2.2))
def cW x1 x2 x3 x5 x6 a:=de (eM x1 x2 x3 x5 x6 a)
theorem oM x1 x2 x3 x5 x6 p112 n p:cW x1 x2 x3 x5 x6 p112 (n+1) p=eM x1 x2 x3 x5 x6 p112 (cW x1 x2 x3 x5 x6 p112 n) p:=rfl
def eL (x1:List (Int×Int×Int)) (x2:List Int) (x3:List Int) (x5:List Bool) (x6:Int) (c:(Int×List Int×List Int×List Int)→Option ((List Int×List Int×List Int))) (a:(Int×List Int×List Int×List Int)):Option ((List Int×List Int×List Int)):=(bif av a.1 (a.2.2.2.length:Int) then au (aB a.1 a.2.2.2.length) (Option.bind (cW x1 x2 x3 x5 x6 a aq (0,a.2.1,a.2.2.1,a.2.2.2)) (fun b=>c (ax (a.1+1),b.1,b.2.1,b.2.2))) else some (a.2.1,a.2.2.1,a.2.2.2))
def fu x1 x2 x3 x5 x6:=de (eL x1 x2 x3 x5 x6)
theorem oK x1 x2 x3 x5 x6 n p:fu x1 x2 x3 x5 x6 (n+1) p=eL x1 x2 x3 x5 x6 (fu x1 x2 x3 x5 x6 n) p:=rfl
def jy (x0:Int) (x1:List (Int×Int×Int)) (x2:List Int) (x3:List Int) (x4:List Int) (x5:List Bool) (x6:Int):Option (Int×List Int×List Int×List Int):=au (bw x4.length ([x6]:List Int).length) (Option.bind (fu x1 x2 x3 x5 x6 aq ((x4.length:Int),x2,x3,x4++([x6]:List Int))) (fun a=>some (x0,a.1,a.2.1,a.2.2)))
def kD (x0:Int) (b:(Int×List Int×List Int)→Option ((List Int×List Int))) (a:(Int×List Int×List Int)):Option ((List Int×List Int)):=(bif av a.1 x0 then au (aB a.1 x0.toNat) (au (aB a.1 x0.toNat) (b (ax (a.1+1),a.2.1.set a.1.toNat (-1),a.2.2.set a.1.toNat (-1)))) else some (a.2.1,a.2.2))
def iV x0:=de (kD x0)
theorem tZ x0 n p:iV x0 (n+1) p=kD x0 (iV x0 n) p:=rfl
def kE (x1:List (Int×Int×Int)) (x2:List Bool) (x3:List (Int×Int)) (d:(Int×Int×List Int×List Int×List Int)→Option ((Int×List Int×List Int×List Int) ⊕ (Int×Bool×List Int×List Int×List Int×Bool))) (a:(Int×Int×List Int×List Int×List Int)):Option ((Int×List Int×List Int×List Int) ⊕ (Int×Bool×List Int×List Int×List Int×Bool)):=(bif av a.1 (x3.length:Int) then Option.bind (au (aB a.1 x3.length) ((bif ((x3.getD a.1.toNat ((0,0):Int×Int)).1)==0 then some (Sum.inl (a.2.1,a.2.2.1,a.2.2.2.1,a.2.2.2.2)) else au (aB a.1 a.2.2.1.length) ((bif bc 0 (a.2.2.1.getD a.1.toNat (0:Int)) then some (Sum.inr (0,false,([]:List Int),([]:List Int),([]:List Int),false)) else au (aB a.1 a.2.2.1.length) (Option.bind (jy a.2.1 x1 (a.2.2.1.set a.1.toNat a.1) a.2.2.2.1 a.2.2.2.2 x2 a.1) (fun b=>some (Sum.inl (b.1,b.2.1,b.2.2.1,b.2.2.2)))))))):Option ((Int×List Int×List Int×List Int) ⊕ (Int×Bool×List Int×List Int×List Int×Bool))) (Sum.elim (fun (c:Int×List Int×List Int×List Int)=>d (ax (a.1+1),c.1,c.2.1,c.2.2.1,c.2.2.2)) (fun (r:(Int×Bool×List Int×List Int×List Int×Bool))=>some (Sum.inr r))) else some (Sum.inl (a.2.1,a.2.2.1,a.2.2.2.1,a.2.2.2.2)))
def lP x1 x2 x3:=de (kE x1 x2 x3)
theorem ua x1 x2 x3 n p:lP x1 x2 x3 (n+1) p=kE x1 x2 x3 (lP x1 x2 x3 n) p:=rfl
def kf (x0:Int) (x1:List (Int×Int×Int)) (x2:List Bool) (x3:List (Int×Int)):Option (Int×Bool×List Int×List Int×List Int×Bool):=Option.bind (dR x0 x1 x2 x3) (fun b=>Option.bind (gb (!(!b)) (mK x0 x1 x2)) (fun d=>(bif (!b) ||d then some (0,false,([]:List Int),([]:List Int),([]:List Int),false) else au (yk x0) (au (yk x0) (Option.bind (iV x0 aq (0,List.replicate x0.toNat (0:Int),List.replicate x0.toNat (0:Int))) (fun c=>Option.bind (lP x1 x2 x3 aq (0,x0,c.1,c.2,([]:List Int)):Option ((Int×List Int×List Int×List Int) ⊕ (Int×Bool×List Int×List Int×List Int×Bool))) (Sum.elim (fun (a:Int×List Int×List Int×List Int)=>some (a.1,true,a.2.1,a.2.2.1,a.2.2.2,true)) (fun (r:(Int×Bool×List Int×List Int×List Int×Bool))=>some r))))))))
def ie (x0:Int) (x1:List (Int×Int×Int)) (x2:List Bool) (x3:List (Int×Int)):Option (Bool):=Option.bind (kf x0 x1 x2 x3) (fun a=>some a.2.2.2.2.2)
def fo (x0:Int) (x1:List (Int×Int×Int)) (x3:List Bool) (x6:List Int) (c:Int→Option (Unit ⊕ Bool)) (a:Int):Option (Unit ⊕ Bool):=(bif av a (x6.length:Int) then au (aB a x6.length) (Option.bind (aS x0 x1 (x6.getD a.toNat (0:Int))) (fun b=>au (!(!(!b)) ||aB (x6.getD a.toNat (0:Int)) x3.length) (au (!((!((!b) ||(x3.getD ((x6.getD a.toNat (0:Int)).toNat) false)))&&(av 0 a)) ||aB (ax (a-1)) x6.length) ((bif ((!b) ||(x3.getD ((x6.getD a.toNat (0:Int)).toNat) false)) ||((av 0 a)&&(bc (x6.getD a.toNat (0:Int)) (x6.getD ((ax (a-1)).toNat) (0:Int)))) then some (Sum.inr false) else c (ax (a+1))))))) else some (Sum.inl ()))
def dq x0 x1 x3 x6:=de (fo x0 x1 x3 x6)
theorem pE x0 x1 x3 x6 n p:dq x0 x1 x3 x6 (n+1) p=fo x0 x1 x3 x6 (dq x0 x1 x3 x6 n) p:=rfl
def bE (x0:Int) (x1:List (Int×Int×Int)) (x2:List (Int×Int)) (x3:List Bool) (x4:List Bool) (x5:List (Int×Int)) (x6:List Int):Option (Bool):=Option.bind (fU x0 x1 x2) (fun a=>Option.bind (gb (!(!a)) (eS x3 x4 x5)) (fun b=>(bif ((!a) ||(!b)) ||((x3.length:Int) !=(x1.length:Int)) then some false else Option.bind (dq x0 x1 x3 x6 aq 0:Option (Unit ⊕ Bool)) (Sum.elim (fun (d:Unit)=>Option.bind (ie x0 x1 x3 x2) (fun c=>some c)) (fun (r:Bool)=>some r)))))
def bf (x0:List (Int×Int×Int)):Option (List (Int×Int×Int)):=au (bw ([]:List (Int×Int×Int)).length x0.length) (some x0)
def bj (x0:List (Int×Int)):Option (List (Int×Int)):=au (bw ([]:List (Int×Int)).length x0.length) (some x0)
def aY (x0:List Bool):Option (List Bool):=au (bw ([]:List Bool).length x0.length) (some x0)
def aQ (x0:List (Int×Int)):Option (List (Int×Int)):=au (bw ([]:List (Int×Int)).length x0.length) (some x0)
def gg (x0:List Bool) (x1:List Bool) (x2:List (Int×Int)):Option (List Bool×List Bool×List (Int×Int)):=Option.bind (aY x0) (fun a=>Option.bind (aY x1) (fun b=>Option.bind (aQ x2) (fun c=>some (a,b,c))))
def cL (x0:List Int):Option (List Int):=au (bw ([]:List Int).length x0.length) (some x0)
def bT (x0:Int) (x1:List (Int×Int×Int)) (x2:List (Int×Int)) (x3:List Bool) (x4:List Bool) (x5:List (Int×Int)) (x6:List Int):Option (Int×List (Int×Int×Int)×List (Int×Int)×List Bool×List Bool×List (Int×Int)×List Int):=Option.bind (bf x1) (fun b=>Option.bind (bj x2) (fun c=>Option.bind (gg x3 x4 x5) (fun a=>Option.bind (cL x6) (fun d=>some (x0,b,c,a.1,a.2.1,a.2.2,d)))))
def mC (x0:Int):Option (Bool):=some (x0 !=x0)
def og (x0:Int) (x1:Int):Option (Bool):=Option.bind (mC x0) (fun a=>Option.bind (gb a (mC x1)) (fun b=>some ((a&&(!b)) ||(av x0 x1))))
def jE (x0:Int):Option (Bool):=some (x0 !=x0)
def cB (x0:List Int) (x1:Int) (c:(Int×Int)→Option (Int)) (a:(Int×Int)):Option (Int):=(bif av a.1 a.2 then au (aB (ax (ko .u64 (wk .u64 (ax (a.1+a.2))) 1)) x0.length) (Option.bind (og (x0.getD ((ax (ko .u64 (wk .u64 (ax (a.1+a.2))) 1)).toNat) (0:Int)) x1) (fun d=>Option.bind (bif d then some (ax ((ax (ko .u64 (wk .u64 (ax (a.1+a.2))) 1))+1),a.2) else some (a.1,ax (ko .u64 (wk .u64 (ax (a.1+a.2))) 1))) (fun b=>c (b.1,b.2)))) else some a.1)
def bi x0 x1:=de (cB x0 x1)
theorem nI x0 x1 n p:bi x0 x1 (n+1) p=cB x0 x1 (bi x0 x1 n) p:=rfl
def ca (x0:List Int) (x1:Int):Option (Int×Bool):=Option.bind (bi x0 x1 aq (0,(x0.length:Int))) (fun a=>au (!(av a (x0.length:Int)) ||aB a x0.length) (au (!((av a (x0.length:Int))&&(!((x0.getD a.toNat (0:Int))==x1))) ||aB a x0.length) (Option.bind (gb ((av a (x0.length:Int))&&(!((x0.getD a.toNat (0:Int))==x1))) (jE (x0.getD a.toNat (0:Int)))) (fun b=>Option.bind (gb (((av a (x0.length:Int))&&(!((x0.getD a.toNat (0:Int))==x1)))&&b) (jE x1)) (fun c=>some (a,(av a (x0.length:Int))&&(((x0.getD a.toNat (0:Int))==x1) ||(b&&c))))))))
def cq (x0:List Int) (x1:Int) (x2:Int):Option (List Int):=au (vq x1 x2 x0.length) ((bif x1==x2 then some x0 else au (vq 0 x1 x0.length) (au (vq x2 (x0.length:Int) x0.length) (au (bw (aj x0 0 x1).length (aj x0 x2 (x0.length:Int)).length) (some ((aj x0 0 x1)++(aj x0 x2 (x0.length:Int))))))))
def cu (x0:List Int) (x1:Int) (x2:List Int):Option (List Int):=au (vq 0 x1 x0.length) (au (bw x0.length 1) (au ((x2.length:Int)==1) (some (x0.take x1.toNat++x2++x0.drop x1.toNat))))
def io (x2:List (Int×Int)) (x3:Int) (b:(List Int×Int)→Option ((List Int))) (a:(List Int×Int)):Option ((List Int)):=(bif av a.2 (x2.length:Int) then au (aB a.2 x2.length) (Option.bind (bif ((x2.getD a.2.toNat ((0,0):Int×Int)).2)==x3 then au (bw a.1.length ([(x2.getD a.2.toNat ((0,0):Int×Int)).1]:List Int).length) (some (a.1++([(x2.getD a.2.toNat ((0,0):Int×Int)).1]:List Int))) else some a.1) (fun c=>b (c,ax (a.2+1)))) else some a.1)
def jt x2 x3:=de (io x2 x3)
theorem rm x2 x3 n p:jt x2 x3 (n+1) p=io x2 x3 (jt x2 x3 n) p:=rfl
def mE (x0:List Bool) (x1:List Bool) (x2:List (Int×Int)) (x3:Int):Option (List Int):=Option.bind (eS x0 x1 x2) (fun a=>(bif a then Option.bind (jt x2 x3 aq (([]:List Int),0)) (fun b=>some b) else some ([]:List Int)))
def mF (x0:List Bool) (x1:List Bool) (x2:List (Int×Int)) (x3:Int) (x4:Int) (x5:Int):Option (Bool):=au (aB x4 x0.length) (au (aB x4 x1.length) (Option.bind (aE x2 x5 x4) (fun a=>Option.bind (bif x3==0 then some (x3==0) else some (x3==2)) (fun b=>(bif b then some ((!(x0.getD x4.toNat false))&&(!(x1.getD x4.toNat false))) else (bif x3==1 then some (x0.getD x4.toNat false) else (bif x3==3 then Option.bind (bif x1.getD x4.toNat false then Option.bind (mE x0 x1 x2 x4) (fun c=>some ((c.length:Int)==0)) else some false) (fun d=>some d) else (bif x3==4 then some (((((x1.getD x4.toNat false)&&(!a))&&(bc 0 x5))&&(bc x5 9))&&(av (x2.length:Int) 6)) else (bif x3==5 then some a else some false)))))))))
def aM (x0:List (Int×Int)) (x1:Int) (x2:Int):Option (List (Int×Int)):=au (vq x1 x2 x0.length) ((bif x1==x2 then some x0 else au (vq 0 x1 x0.length) (au (vq x2 (x0.length:Int) x0.length) (au (bw (aj x0 0 x1).length (aj x0 x2 (x0.length:Int)).length) (some ((aj x0 0 x1)++(aj x0 x2 (x0.length:Int))))))))
def pp (x0:List Bool) (x1:List Bool) (x2:List (Int×Int)) (x3:Int) (x4:Int) (x5:Int):Option (List Bool×List Bool×List (Int×Int)×Bool):=Option.bind (eS x0 x1 x2) (fun e=>(bif e then Option.bind (gg x0 x1 x2) (fun a=>Option.bind (gb (!((av x4 0) ||(bc (x0.length:Int) x4))) (mF x0 x1 x2 x3 x4 x5)) (fun f=>(bif ((av x4 0) ||(bc (x0.length:Int) x4)) ||(!f) then some (a.1,a.2.1,a.2.2,false) else Option.bind (bif x3==0 then some (x3==0) else some (x3==1)) (fun g=>Option.bind (bif g then au (aB x4 a.1.length) (some (a.1.set x4.toNat (x3==0),a.2.1,a.2.2)) else Option.bind (bif x3==2 then some (x3==2) else some (x3==3)) (fun h=>Option.bind (bif h then au (aB x4 a.2.1.length) (some (a.2.1.set x4.toNat (x3==2),a.2.2)) else Option.bind (bif x3==4 then au (bw a.2.2.length ([(x5,x4)]:List (Int×Int)).length) (some (a.2.2++([(x5,x4)]:List (Int×Int)))) else Option.bind (bif x3==5 then Option.bind (aR a.2.2 x5 x4) (fun c=>Option.bind (aM a.2.2 c (ax (c+1))) (fun i=>some i)) else some a.2.2) (fun j=>some j)) (fun k=>some (a.2.1,k))) (fun d=>some (a.1,d.1,d.2)))) (fun b=>some (b.1,b.2.1,b.2.2,true)))))) else some (([]:List Bool),([]:List Bool),([]:List (Int×Int)),false)))
def mH (x0:Int) (x1:List (Int×Int×Int)) (x2:List (Int×Int)) (x3:List Bool) (x4:List Bool) (x5:List (Int×Int)) (x6:List Int) (x7:Int) (x8:Int) (x9:Int):Option (Bool×Int×List (Int×Int×Int)×List (Int×Int)×List Bool×List Bool×List (Int×Int)×List Int):=Option.bind (ca x6 x8) (fun a=>(bif x7==6 then (bif a.2 then some (false,x0,x1,x2,x3,x4,x5,x6) else Option.bind (cu x6 a.1 ([x8]:List Int)) (fun c=>au (aB x8 x3.length) (some (true,x0,x1,x2,x3.set x8.toNat false,x4,x5,c)))) else (bif x7==7 then Option.bind (gb (!(!a.2)) (aE x5 x9 x8)) (fun d=>(bif (!a.2) ||(!d) then some (false,x0,x1,x2,x3,x4,x5,x6) else Option.bind (cq x6 a.1 (ax (a.1+1))) (fun e=>some (true,x0,x1,x2,x3,x4,x5,e)))) else Option.bind ((bif x7==0 then (bif a.2 then some (Sum.inr (false,x0,x1,x2,x3,x4,x5,x6)) else some (Sum.inl ())) else some (Sum.inl ())):Option (Unit ⊕ (Bool×Int×List (Int×Int×Int)×List (Int×Int)×List Bool×List Bool×List (Int×Int)×List Int))) (Sum.elim (fun (g:Unit)=>Option.bind (pp x3 x4 x5 x7 x8 x9) (fun b=>Option.bind (gb (b.2.2.2&&(!(x7 !=0))) (ie x0 x1 b.1 x2)) (fun f=>some (b.2.2.2&&((x7 !=0) ||f),x0,x1,x2,b.1,b.2.1,b.2.2.1,x6)))) (fun (r:(Bool×Int×List (Int×Int×Int)×List (Int×Int)×List Bool×List Bool×List (Int×Int)×List Int))=>some r)))))
def lq (x0:Int) (x1:List (Int×Int×Int)) (x2:List (Int×Int)) (x3:List Bool) (x4:List Bool) (x5:List (Int×Int)) (x6:List Int) (x7:Int) (x8:Int) (x9:Int):Option (Int×List (Int×Int×Int)×List (Int×Int)×List Bool×List Bool×List (Int×Int)×List Int×Bool):=Option.bind (bE x0 x1 x2 x3 x4 x5 x6) (fun e=>(bif e then Option.bind (bT x0 x1 x2 x3 x4 x5 x6) (fun a=>Option.bind (Option.bind (aS x0 x1 x8) (fun f=>(bif f then Option.bind (mH a.1 a.2.1 a.2.2.1 a.2.2.2.1 a.2.2.2.2.1 a.2.2.2.2.2.1 a.2.2.2.2.2.2 x7 x8 x9) (fun b=>some (!b.1,b.2.1,b.2.2.1,b.2.2.2.1,b.2.2.2.2.1,b.2.2.2.2.2.1,b.2.2.2.2.2.2.1,b.2.2.2.2.2.2.2)) else some (true,a.1,a.2.1,a.2.2.1,a.2.2.2.1,a.2.2.2.2.1,a.2.2.2.2.2.1,a.2.2.2.2.2.2)))) (fun c=>(bif c.1 then Option.bind (bT x0 x1 x2 x3 x4 x5 x6) (fun d=>some (d.1,d.2.1,d.2.2.1,d.2.2.2.1,d.2.2.2.2.1,d.2.2.2.2.2.1,d.2.2.2.2.2.2,false)) else some (c.2.1,c.2.2.1,c.2.2.2.1,c.2.2.2.2.1,c.2.2.2.2.2.1,c.2.2.2.2.2.2.1,c.2.2.2.2.2.2.2,true)))) else some (0,([]:List (Int×Int×Int)),([]:List (Int×Int)),([]:List Bool),([]:List Bool),([]:List (Int×Int)),([]:List Int),false)))
def dP (x2:List (Int×Int)) (b:(List (Int×Int×Int)×Int)→Option ((List (Int×Int×Int)))) (a:(List (Int×Int×Int)×Int)):Option ((List (Int×Int×Int))):=(bif av a.2 (x2.length:Int) then au (aB a.2 x2.length) (au (bw a.1.length ([(5,(x2.getD a.2.toNat ((0,0):Int×Int)).2,(x2.getD a.2.toNat ((0,0):Int×Int)).1)]:List (Int×Int×Int)).length) (b (a.1++([(5,(x2.getD a.2.toNat ((0,0):Int×Int)).2,(x2.getD a.2.toNat ((0,0):Int×Int)).1)]:List (Int×Int×Int)),ax (a.2+1)))) else some a.1)
def eK x2:=de (dP x2)
theorem nG x2 n p:eK x2 (n+1) p=dP x2 (eK x2 n) p:=rfl
def ip (x0:List Bool) (x1:List Bool) (x2:List (Int×Int)):Option (List (Int×Int×Int)):=Option.bind (eK x2 aq (([]:List (Int×Int×Int)),0)) (fun a=>some a)
def iv (x0:Int) (x1:List Bool) (x2:Bool) (b:(List (Int×Int×Int)×Int)→Option ((List (Int×Int×Int)))) (a:(List (Int×Int×Int)×Int)):Option ((List (Int×Int×Int))):=(bif av a.2 (x1.length:Int) then au (aB a.2 x1.length) (Option.bind (bif (x1.getD a.2.toNat false)==x2 then au (bw a.1.length ([(x0,a.2,0)]:List (Int×Int×Int)).length) (some (a.1++([(x0,a.2,0)]:List (Int×Int×Int)))) else some a.1) (fun c=>b (c,ax (a.2+1)))) else some a.1)
def ju x0 x1 x2:=de (iv x0 x1 x2)
theorem rp x0 x1 x2 n p:ju x0 x1 x2 (n+1) p=iv x0 x1 x2 (ju x0 x1 x2 n) p:=rfl
def mI (x0:Int) (x1:List Bool) (x2:Bool):Option (List (Int×Int×Int)):=Option.bind (ju x0 x1 x2 aq (([]:List (Int×Int×Int)),0)) (fun a=>some a)
def jx (x0:Int) (x1:Int) (b:(List Bool×Int)→Option ((List Bool))) (a:(List Bool×Int)):Option ((List Bool)):=(bif av a.2 (x1.toNat:Int) then au (Ku a.2) (au (aB a.2 x1.toNat) (b (a.1.set a.2.toNat ((ph .i64 (ko .i64 x0 a.2) 1)==1),ax (a.2+1)))) else some a.1)
def gj x0 x1:=de (jx x0 x1)
theorem sy x0 x1 n p:gj x0 x1 (n+1) p=jx x0 x1 (gj x0 x1 n) p:=rfl
def om (x0:Int) (x1:Int):Option (List Bool):=au (yk x1) (Option.bind (gj x0 x1 aq (List.replicate x1.toNat false,0)) (fun a=>some a))
def jA (x1:List (Int×Int×Int)) (x2:List Bool) (b:(List Int×Int)→Option ((List Int))) (a:(List Int×Int)):Option ((List Int)):=(bif av a.2 (x1.length:Int) then au (aB a.2 x1.length) (au (aB a.2 x2.length) (Option.bind (bif x2.getD a.2.toNat false then Option.bind (gr a.1 ((x1.getD a.2.toNat ((0,0,0):Int×Int×Int)).1) ((x1.getD a.2.toNat ((0,0,0):Int×Int×Int)).2.1)) (fun c=>some c) else some a.1) (fun d=>b (d,ax (a.2+1))))) else some a.1)
def kH x1 x2:=de (jA x1 x2)
theorem sC x1 x2 n p:kH x1 x2 (n+1) p=jA x1 x2 (kH x1 x2 n) p:=rfl
def lr (x0:Int) (x1:List (Int×Int×Int)) (x2:List Bool):Option (List Int):=Option.bind (ka x0) (fun a=>Option.bind (kH x1 x2 aq (a,0)) (fun b=>some b))
def kC (x3:List (Int×Int)) (c:(List Int×Int×Int×Int×Int×Int×Int×Int×Int×Int×Int×Int×Int×Int×Int×Int×Int×Int)→Option ((Int×Int×Int×Int×Int×Int×Int×Int×Int×Int×Int×Int×Int×Int×Int×Int))) (a:(List Int×Int×Int×Int×Int×Int×Int×Int×Int×Int×Int×Int×Int×Int×Int×Int×Int×Int)):Option ((Int×Int×Int×Int×Int×Int×Int×Int×Int×Int×Int×Int×Int×Int×Int×Int)):=(bif av a.2.1 (x3.length:Int) then au (aB a.2.1 x3.length) (Option.bind (bM a.1 a.2.1) (fun b=>au (aB b.1 8) (au (aB b.1 8) (au (aB b.1 8) (au (aB b.1 8) (c (b.2,ax (a.2.1+1),bif b.1==0 then (ax ((([a.2.2.1,a.2.2.2.1,a.2.2.2.2.1,a.2.2.2.2.2.1,a.2.2.2.2.2.2.1,a.2.2.2.2.2.2.2.1,a.2.2.2.2.2.2.2.2.1,a.2.2.2.2.2.2.2.2.2.1]:List Int).getD b.1.toNat 0)+((x3.getD a.2.1.toNat ((0,0):Int×Int)).1))) else a.2.2.1,bif b.1==1 then (ax ((([a.2.2.1,a.2.2.2.1,a.2.2.2.2.1,a.2.2.2.2.2.1,a.2.2.2.2.2.2.1,a.2.2.2.2.2.2.2.1,a.2.2.2.2.2.2.2.2.1,a.2.2.2.2.2.2.2.2.2.1]:List Int).getD b.1.toNat 0)+((x3.getD a.2.1.toNat ((0,0):Int×Int)).1))) else a.2.2.2.1,bif b.1==2 then (ax ((([a.2.2.1,a.2.2.2.1,a.2.2.2.2.1,a.2.2.2.2.2.1,a.2.2.2.2.2.2.1,a.2.2.2.2.2.2.2.1,a.2.2.2.2.2.2.2.2.1,a.2.2.2.2.2.2.2.2.2.1]:List Int).getD b.1.toNat 0)+((x3.getD a.2.1.toNat ((0,0):Int×Int)).1))) else a.2.2.2.2.1,bif b.1==3 then (ax ((([a.2.2.1,a.2.2.2.1,a.2.2.2.2.1,a.2.2.2.2.2.1,a.2.2.2.2.2.2.1,a.2.2.2.2.2.2.2.1,a.2.2.2.2.2.2.2.2.1,a.2.2.2.2.2.2.2.2.2.1]:List Int).getD b.1.toNat 0)+((x3.getD a.2.1.toNat ((0,0):Int×Int)).1))) else a.2.2.2.2.2.1,bif b.1==4 then (ax ((([a.2.2.1,a.2.2.2.1,a.2.2.2.2.1,a.2.2.2.2.2.1,a.2.2.2.2.2.2.1,a.2.2.2.2.2.2.2.1,a.2.2.2.2.2.2.2.2.1,a.2.2.2.2.2.2.2.2.2.1]:List Int).getD b.1.toNat 0)+((x3.getD a.2.1.toNat ((0,0):Int×Int)).1))) else a.2.2.2.2.2.2.1,bif b.1==5 then (ax ((([a.2.2.1,a.2.2.2.1,a.2.2.2.2.1,a.2.2.2.2.2.1,a.2.2.2.2.2.2.1,a.2.2.2.2.2.2.2.1,a.2.2.2.2.2.2.2.2.1,a.2.2.2.2.2.2.2.2.2.1]:List Int).getD b.1.toNat 0)+((x3.getD a.2.1.toNat ((0,0):Int×Int)).1))) else a.2.2.2.2.2.2.2.1,bif b.1==6 then (ax ((([a.2.2.1,a.2.2.2.1,a.2.2.2.2.1,a.2.2.2.2.2.1,a.2.2.2.2.2.2.1,a.2.2.2.2.2.2.2.1,a.2.2.2.2.2.2.2.2.1,a.2.2.2.2.2.2.2.2.2.1]:List Int).getD b.1.toNat 0)+((x3.getD a.2.1.toNat ((0,0):Int×Int)).1))) else a.2.2.2.2.2.2.2.2.1,bif b.1==7 then (ax ((([a.2.2.1,a.2.2.2.1,a.2.2.2.2.1,a.2.2.2.2.2.1,a.2.2.2.2.2.2.1,a.2.2.2.2.2.2.2.1,a.2.2.2.2.2.2.2.2.1,a.2.2.2.2.2.2.2.2.2.1]:List Int).getD b.1.toNat 0)+((x3.getD a.2.1.toNat ((0,0):Int×Int)).1))) else a.2.2.2.2.2.2.2.2.2.1,bif b.1==0 then (ax ((([a.2.2.2.2.2.2.2.2.2.2.1,a.2.2.2.2.2.2.2.2.2.2.2.1,a.2.2.2.2.2.2.2.2.2.2.2.2.1,a.2.2.2.2.2.2.2.2.2.2.2.2.2.1,a.2.2.2.2.2.2.2.2.2.2.2.2.2.2.1,a.2.2.2.2.2.2.2.2.2.2.2.2.2.2.2.1,a.2.2.2.2.2.2.2.2.2.2.2.2.2.2.2.2.1,a.2.2.2.2.2.2.2.2.2.2.2.2.2.2.2.2.2]:List Int).getD b.1.toNat 0)+((x3.getD a.2.1.toNat ((0,0):Int×Int)).2))) else a.2.2.2.2.2.2.2.2.2.2.1,bif b.1==1 then (ax ((([a.2.2.2.2.2.2.2.2.2.2.1,a.2.2.2.2.2.2.2.2.2.2.2.1,a.2.2.2.2.2.2.2.2.2.2.2.2.1,a.2.2.2.2.2.2.2.2.2.2.2.2.2.1,a.2.2.2.2.2.2.2.2.2.2.2.2.2.2.1,a.2.2.2.2.2.2.2.2.2.2.2.2.2.2.2.1,a.2.2.2.2.2.2.2.2.2.2.2.2.2.2.2.2.1,a.2.2.2.2.2.2.2.2.2.2.2.2.2.2.2.2.2]:List Int).getD b.1.toNat 0)+((x3.getD a.2.1.toNat ((0,0):Int×Int)).2))) else a.2.2.2.2.2.2.2.2.2.2.2.1,bif b.1==2 then (ax ((([a.2.2.2.2.2.2.2.2.2.2.1,a.2.2.2.2.2.2.2.2.2.2.2.1,a.2.2.2.2.2.2.2.2.2.2.2.2.1,a.2.2.2.2.2.2.2.2.2.2.2.2.2.1,a.2.2.2.2.2.2.2.2.2.2.2.2.2.2.1,a.2.2.2.2.2.2.2.2.2.2.2.2.2.2.2.1,a.2.2.2.2.2.2.2.2.2.2.2.2.2.2.2.2.1,a.2.2.2.2.2.2.2.2.2.2.2.2.2.2.2.2.2]:List Int).getD b.1.toNat 0)+((x3.getD a.2.1.toNat ((0,0):Int×Int)).2))) else a.2.2.2.2.2.2.2.2.2.2.2.2.1,bif b.1==3 then (ax ((([a.2.2.2.2.2.2.2.2.2.2.1,a.2.2.2.2.2.2.2.2.2.2.2.1,a.2.2.2.2.2.2.2.2.2.2.2.2.1,a.2.2.2.2.2.2.2.2.2.2.2.2.2.1,a.2.2.2.2.2.2.2.2.2.2.2.2.2.2.1,a.2.2.2.2.2.2.2.2.2.2.2.2.2.2.2.1,a.2.2.2.2.2.2.2.2.2.2.2.2.2.2.2.2.1,a.2.2.2.2.2.2.2.2.2.2.2.2.2.2.2.2.2]:List Int).getD b.1.toNat 0)+((x3.getD a.2.1.toNat ((0,0):Int×Int)).2))) else a.2.2.2.2.2.2.2.2.2.2.2.2.2.1,bif b.1==4 then (ax ((([a.2.2.2.2.2.2.2.2.2.2.1,a.2.2.2.2.2.2.2.2.2.2.2.1,a.2.2.2.2.2.2.2.2.2.2.2.2.1,a.2.2.2.2.2.2.2.2.2.2.2.2.2.1,a.2.2.2.2.2.2.2.2.2.2.2.2.2.2.1,a.2.2.2.2.2.2.2.2.2.2.2.2.2.2.2.1,a.2.2.2.2.2.2.2.2.2.2.2.2.2.2.2.2.1,a.2.2.2.2.2.2.2.2.2.2.2.2.2.2.2.2.2]:List Int).getD b.1.toNat 0)+((x3.getD a.2.1.toNat ((0,0):Int×Int)).2))) else a.2.2.2.2.2.2.2.2.2.2.2.2.2.2.1,bif b.1==5 then (ax ((([a.2.2.2.2.2.2.2.2.2.2.1,a.2.2.2.2.2.2.2.2.2.2.2.1,a.2.2.2.2.2.2.2.2.2.2.2.2.1,a.2.2.2.2.2.2.2.2.2.2.2.2.2.1,a.2.2.2.2.2.2.2.2.2.2.2.2.2.2.1,a.2.2.2.2.2.2.2.2.2.2.2.2.2.2.2.1,a.2.2.2.2.2.2.2.2.2.2.2.2.2.2.2.2.1,a.2.2.2.2.2.2.2.2.2.2.2.2.2.2.2.2.2]:List Int).getD b.1.toNat 0)+((x3.getD a.2.1.toNat ((0,0):Int×Int)).2))) else a.2.2.2.2.2.2.2.2.2.2.2.2.2.2.2.1,bif b.1==6 then (ax ((([a.2.2.2.2.2.2.2.2.2.2.1,a.2.2.2.2.2.2.2.2.2.2.2.1,a.2.2.2.2.2.2.2.2.2.2.2.2.1,a.2.2.2.2.2.2.2.2.2.2.2.2.2.1,a.2.2.2.2.2.2.2.2.2.2.2.2.2.2.1,a.2.2.2.2.2.2.2.2.2.2.2.2.2.2.2.1,a.2.2.2.2.2.2.2.2.2.2.2.2.2.2.2.2.1,a.2.2.2.2.2.2.2.2.2.2.2.2.2.2.2.2.2]:List Int).getD b.1.toNat 0)+((x3.getD a.2.1.toNat ((0,0):Int×Int)).2))) else a.2.2.2.2.2.2.2.2.2.2.2.2.2.2.2.2.1,bif b.1==7 then (ax ((([a.2.2.2.2.2.2.2.2.2.2.1,a.2.2.2.2.2.2.2.2.2.2.2.1,a.2.2.2.2.2.2.2.2.2.2.2.2.1,a.2.2.2.2.2.2.2.2.2.2.2.2.2.1,a.2.2.2.2.2.2.2.2.2.2.2.2.2.2.1,a.2.2.2.2.2.2.2.2.2.2.2.2.2.2.2.1,a.2.2.2.2.2.2.2.2.2.2.2.2.2.2.2.2.1,a.2.2.2.2.2.2.2.2.2.2.2.2.2.2.2.2.2]:List Int).getD b.1.toNat 0)+((x3.getD a.2.1.toNat ((0,0):Int×Int)).2))) else a.2.2.2.2.2.2.2.2.2.2.2.2.2.2.2.2.2))))))) else some (a.2.2.1,a.2.2.2.1,a.2.2.2.2.1,a.2.2.2.2.2.1,a.2.2.2.2.2.2.1,a.2.2.2.2.2.2.2.1,a.2.2.2.2.2.2.2.2.1,a.2.2.2.2.2.2.2.2.2.1,a.2.2.2.2.2.2.2.2.2.2.1,a.2.2.2.2.2.2.2.2.2.2.2.1,a.2.2.2.2.2.2.2.2.2.2.2.2.1,a.2.2.2.2.2.2.2.2.2.2.2.2.2.1,a.2.2.2.2.2.2.2.2.2.2.2.2.2.2.1,a.2.2.2.2.2.2.2.2.2.2.2.2.2.2.2.1,a.2.2.2.2.2.2.2.2.2.2.2.2.2.2.2.2.1,a.2.2.2.2.2.2.2.2.2.2.2.2.2.2.2.2.2))
def iU x3:=de (kC x3)
theorem tY x3 n p:iU x3 (n+1) p=kC x3 (iU x3 n) p:=rfl
def mt (x0:Int) (x1:List (Int×Int×Int)) (x2:List Bool) (x3:List (Int×Int)):Option (Int×Int×Int×Int×Int×Int×Int×Int×Int×Int×Int×Int×Int×Int×Int×Int):=Option.bind (lr x0 x1 x2) (fun b=>Option.bind (iU x3 aq (b,0,0,0,0,0,0,0,0,0,0,0,0,0,0,0,0,0)) (fun a=>some (a.1,a.2.1,a.2.2.1,a.2.2.2.1,a.2.2.2.2.1,a.2.2.2.2.2.1,a.2.2.2.2.2.2.1,a.2.2.2.2.2.2.2.1,a.2.2.2.2.2.2.2.2.1,a.2.2.2.2.2.2.2.2.2.1,a.2.2.2.2.2.2.2.2.2.2.1,a.2.2.2.2.2.2.2.2.2.2.2.1,a.2.2.2.2.2.2.2.2.2.2.2.2.1,a.2.2.2.2.2.2.2.2.2.2.2.2.2.1,a.2.2.2.2.2.2.2.2.2.2.2.2.2.2.1,a.2.2.2.2.2.2.2.2.2.2.2.2.2.2.2)))
def fp (a:Int×Int×Int×Int×Int×Int×Int×Int×Int×Int×Int×Int×Int×Int×Int×Int) (c:(Int×Int)→Option (Int)) (b:(Int×Int)):Option (Int):=(bif av b.2 8 then au (aB b.2 8) (au (aB b.2 8) (Option.bind (bif bc (([a.2.2.2.2.2.2.2.2.1,a.2.2.2.2.2.2.2.2.2.1,a.2.2.2.2.2.2.2.2.2.2.1,a.2.2.2.2.2.2.2.2.2.2.2.1,a.2.2.2.2.2.2.2.2.2.2.2.2.1,a.2.2.2.2.2.2.2.2.2.2.2.2.2.1,a.2.2.2.2.2.2.2.2.2.2.2.2.2.2.1,a.2.2.2.2.2.2.2.2.2.2.2.2.2.2.2]:List Int).getD b.2.toNat (0:Int)) (([a.1,a.2.1,a.2.2.1,a.2.2.2.1,a.2.2.2.2.1,a.2.2.2.2.2.1,a.2.2.2.2.2.2.1,a.2.2.2.2.2.2.2.1]:List Int).getD b.2.toNat 0) then some (ax (b.1+(([a.2.2.2.2.2.2.2.2.1,a.2.2.2.2.2.2.2.2.2.1,a.2.2.2.2.2.2.2.2.2.2.1,a.2.2.2.2.2.2.2.2.2.2.2.1,a.2.2.2.2.2.2.2.2.2.2.2.2.1,a.2.2.2.2.2.2.2.2.2.2.2.2.2.1,a.2.2.2.2.2.2.2.2.2.2.2.2.2.2.1,a.2.2.2.2.2.2.2.2.2.2.2.2.2.2.2]:List Int).getD b.2.toNat (0:Int)))) else some b.1) (fun d=>c (d,ax (b.2+1))))) else some b.1)
def dt a:=de (fp a)
theorem pF p102 n p:dt p102 (n+1) p=fp p102 (dt p102 n) p:=rfl
def gi (x0:Int) (x1:List (Int×Int×Int)) (x2:List Bool) (x3:List (Int×Int)):Option (Int):=Option.bind (mt x0 x1 x2 x3) (fun a=>Option.bind (dt a aq (0,0)) (fun b=>some b))
def jr (x0:List Bool) (x1:List Bool) (b:(List Int×Int)→Option ((List Int))) (a:(List Int×Int)):Option ((List Int)):=(bif av a.2 (x0.length:Int) then au (aB a.2 x0.length) (au (aB a.2 x1.length) (Option.bind (bif (x0.getD a.2.toNat false) !=(x1.getD a.2.toNat false) then au (bw a.1.length ([a.2]:List Int).length) (some (a.1++([a.2]:List Int))) else some a.1) (fun c=>b (c,ax (a.2+1))))) else some a.1)
def kx x0 x1:=de (jr x0 x1)
theorem su x0 x1 n p:kx x0 x1 (n+1) p=jr x0 x1 (kx x0 x1 n) p:=rfl
def oh (x0:List Bool) (x1:List Bool):Option (List Int):=(bif (x0.length:Int) !=(x1.length:Int) then some ([]:List Int) else Option.bind (kx x0 x1 aq (([]:List Int),0)) (fun a=>some a))
def kF (x0:Int) (x1:List (Int×Int×Int)) (x2:List Int) (x3:List Int) (x4:List Int) (x5:Int):Option (Int):=au (aB x5 x3.length) (au (aB (x3.getD x5.toNat (0:Int)) x1.length) (Option.bind (cI ((x1.getD ((x3.getD x5.toNat (0:Int)).toNat) ((0,0,0):Int×Int×Int)).1) ((x1.getD ((x3.getD x5.toNat (0:Int)).toNat) ((0,0,0):Int×Int×Int)).2.1) ((x1.getD ((x3.getD x5.toNat (0:Int)).toNat) ((0,0,0):Int×Int×Int)).2.2) x5) (fun a=>some a)))
def fq (x0:Int) (x1:List (Int×Int×Int)) (x2:List Int) (x3:List Int) (x4:List Int) (x5:List (Int×Int)) (d:(List Int×List Int×Int)→Option ((List Int))) (a:(List Int×List Int×Int)):Option ((List Int)):=(bif bc 0 a.2.2 then au (aB a.2.2 x4.length) (au (aB (x4.getD a.2.2.toNat (0:Int)) x5.length) (au (aB (x4.getD a.2.2.toNat (0:Int)) x5.length) (au (aB (x4.getD a.2.2.toNat (0:Int)) x5.length) (au (aB (x4.getD a.2.2.toNat (0:Int)) x3.length) (Option.bind (bif bc 0 (x3.getD ((x4.getD a.2.2.toNat (0:Int)).toNat) (0:Int)) then au (aB (x4.getD a.2.2.toNat (0:Int)) x5.length) (au (aB (x3.getD ((x4.getD a.2.2.toNat (0:Int)).toNat) (0:Int)) x1.length) (Option.bind (kF x0 x1 x2 x3 x4 (x4.getD a.2.2.toNat (0:Int))) (fun b=>au (aB b x5.length) (au (aB (x4.getD a.2.2.toNat (0:Int)) x5.length) (au (aB b x5.length) (some (a.1.set ((x3.getD ((x4.getD a.2.2.toNat (0:Int)).toNat) (0:Int)).toNat) ((a.2.1.set ((x4.getD a.2.2.toNat (0:Int)).toNat) (ax ((a.2.1.getD ((x4.getD a.2.2.toNat (0:Int)).toNat) (0:Int))+((x5.getD ((x4.getD a.2.2.toNat (0:Int)).toNat) ((0,0):Int×Int)).2)))).getD ((x4.getD a.2.2.toNat (0:Int)).toNat) (0:Int)),(a.2.1.set ((x4.getD a.2.2.toNat (0:Int)).toNat) (ax ((a.2.1.getD ((x4.getD a.2.2.toNat (0:Int)).toNat) (0:Int))+((x5.getD ((x4.getD a.2.2.toNat (0:Int)).toNat) ((0,0):Int×Int)).2)))).set b.toNat (ax (((a.2.1.set ((x4.getD a.2.2.toNat (0:Int)).toNat) (ax ((a.2.1.getD ((x4.getD a.2.2.toNat (0:Int)).toNat) (0:Int))+((x5.getD ((x4.getD a.2.2.toNat (0:Int)).toNat) ((0,0):Int×Int)).2)))).getD b.toNat (0:Int))+((a.2.1.set ((x4.getD a.2.2.toNat (0:Int)).toNat) (ax ((a.2.1.getD ((x4.getD a.2.2.toNat (0:Int)).toNat) (0:Int))+((x5.getD ((x4.getD a.2.2.toNat (0:Int)).toNat) ((0,0):Int×Int)).2)))).getD ((x4.getD a.2.2.toNat (0:Int)).toNat) (0:Int))))))))))) else some (a.1,a.2.1.set ((x4.getD a.2.2.toNat (0:Int)).toNat) (ax ((a.2.1.getD ((x4.getD a.2.2.toNat (0:Int)).toNat) (0:Int))+((x5.getD ((x4.getD a.2.2.toNat (0:Int)).toNat) ((0,0):Int×Int)).2))))) (fun c=>d (c.1,c.2,ax (a.2.2-1)))))))) else some a.1)
def gl x0 x1 x2 x3 x4 x5:=de (fq x0 x1 x2 x3 x4 x5)
theorem pG x0 x1 x2 x3 x4 x5 n p:gl x0 x1 x2 x3 x4 x5 (n+1) p=fq x0 x1 x2 x3 x4 x5 (gl x0 x1 x2 x3 x4 x5 n) p:=rfl
def gk (x0:Int) (x1:List (Int×Int×Int)) (x2:List Int) (x3:List Int) (x4:List Int) (x5:List (Int×Int)):Option (List Int):=au (yk (x1.length:Int)) (au (yk (x5.length:Int)) (Option.bind (gl x0 x1 x2 x3 x4 x5 aq (List.replicate x1.length (0:Int),List.replicate x5.length (0:Int),ax ((x4.length:Int)-1))) (fun a=>some a)))
def ft (x2:List Int) (x5:List (Int×Int)) (x6:Int) (b:(Int×Int)→Option (Int)) (a:(Int×Int)):Option (Int):=(bif av a.2 (x2.length:Int) then au (aB a.2 x2.length) (Option.bind (bif (x2.getD a.2.toNat (0:Int))==x6 then au (aB a.2 x5.length) (some (ax (a.1+((x5.getD a.2.toNat ((0,0):Int×Int)).2)))) else some a.1) (fun c=>b (c,ax (a.2+1)))) else some a.1)
def du x2 x5 x6:=de (ft x2 x5 x6)
theorem pH x2 x5 x6 n p:du x2 x5 x6 (n+1) p=ft x2 x5 x6 (du x2 x5 x6 n) p:=rfl
def kG (x0:Int) (x1:List (Int×Int×Int)) (x2:List Int) (x3:List Int) (x4:List Int) (x5:List (Int×Int)) (x6:Int):Option (Int):=Option.bind (du x2 x5 x6 aq (0,0)) (fun a=>some a)
def gm (x1:List (Int×Int×Int)) (b:List Int) (c:Int→Option (Unit ⊕ Bool)) (a:Int):Option (Unit ⊕ Bool):=(bif av a (b.length:Int) then au (aB a b.length) (au (aB a x1.length) ((bif av ((x1.getD a.toNat ((0,0,0):Int×Int×Int)).2.2) (b.getD a.toNat (0:Int)) then some (Sum.inr false) else c (ax (a+1))))) else some (Sum.inl ()))
def ej x1 a:=de (gm x1 a)
theorem qs x1 p102 n p:ej x1 p102 (n+1) p=gm x1 p102 (ej x1 p102 n) p:=rfl
def gn (x0:Int) (x1:List (Int×Int×Int)) (x2:List Int) (x3:List Int) (x4:List Int) (x5:List (Int×Int)) (b:Int→Option (Unit ⊕ Bool)) (a:Int):Option (Unit ⊕ Bool):=(bif av a (x5.length:Int) then au (aB a x5.length) (Option.bind (kG x0 x1 x2 x3 x4 x5 a) (fun c=>(bif av ((x5.getD a.toNat ((0,0):Int×Int)).1) c then some (Sum.inr false) else b (ax (a+1))))) else some (Sum.inl ()))
def ek x0 x1 x2 x3 x4 x5:=de (gn x0 x1 x2 x3 x4 x5)
theorem qt x0 x1 x2 x3 x4 x5 n p:ek x0 x1 x2 x3 x4 x5 (n+1) p=gn x0 x1 x2 x3 x4 x5 (ek x0 x1 x2 x3 x4 x5 n) p:=rfl
def lQ (x0:Int) (x1:List (Int×Int×Int)) (x2:List Int) (x3:List Int) (x4:List Int) (x5:List (Int×Int)):Option (Bool):=Option.bind (gk x0 x1 x2 x3 x4 x5) (fun a=>Option.bind (ej x1 a aq 0:Option (Unit ⊕ Bool)) (Sum.elim (fun (b:Unit)=>Option.bind (ek x0 x1 x2 x3 x4 x5 aq 0:Option (Unit ⊕ Bool)) (Sum.elim (fun (c:Unit)=>some true) (fun (r:Bool)=>some r))) (fun (r:Bool)=>some r)))
def oi (x0:Int) (x1:List (Int×Int×Int)) (x2:List Bool) (x3:List (Int×Int)):Option (Bool):=Option.bind (kf x0 x1 x2 x3) (fun a=>Option.bind (gb a.2.2.2.2.2 (lQ a.1 (Yf a.2.1 x1) a.2.2.1 a.2.2.2.1 a.2.2.2.2.1 x3)) (fun b=>some (a.2.2.2.2.2&&b)))
def xj (x0:Int) (x1:List (Int×Int×Int)) (x4:List Int) (b:(Int×Int)→Option (Int)) (a:(Int×Int)):Option (Int):=(bif av a.2 (x4.length:Int) then au (aB a.2 x4.length) (Option.bind (aS x0 x1 (x4.getD a.2.toNat (0:Int))) (fun c=>Option.bind (bif c then au (Ku (x4.getD a.2.toNat (0:Int))) (some (Jg .i64 a.1 (sb .i64 1 (x4.getD a.2.toNat (0:Int))))) else some a.1) (fun d=>b (d,ax (a.2+1))))) else some a.1)
def qP x0 x1 x4:=de (xj x0 x1 x4)
def fT (x0:Int) (x1:List (Int×Int×Int)) (x2:List Bool) (x3:List (Int×Int)) (g:Int) (h:(List Bool×Int×Int×Int)→Option ((List Bool))) (a:(List Bool×Int×Int×Int)):Option ((List Bool)):=(bif av a.2.2.2 (sb .i64 1 (x1.length:Int)) then Option.bind (bif (ph .i64 a.2.2.2 g) !=0 then some (a.1,a.2.1,a.2.2.1) else Option.bind (om a.2.2.2 (x1.length:Int)) (fun b=>Option.bind (gi x0 x1 b x3) (fun c=>(bif av c a.2.1 then some (a.1,a.2.1,a.2.2.1) else Option.bind (oh x2 b) (fun d=>Option.bind (gb ((av a.2.1 c) ||(av (d.length:Int) a.2.2.1)) (oi x0 x1 b x3)) (fun i=>Option.bind (bif ((av a.2.1 c) ||(av (d.length:Int) a.2.2.1))&&i then au (!(List.isEmpty b)) (some (b,c,(d.length:Int))) else some (a.1,a.2.1,a.2.2.1)) (fun e=>some (e.1,e.2.1,e.2.2)))))))) (fun f=>h (f.1,f.2.1,f.2.2,ax (a.2.2.2+1))) else some a.1)
def ea x0 x1 x2 x3 a:=de (fT x0 x1 x2 x3 a)
theorem qj x0 x1 x2 x3 p104 n p:ea x0 x1 x2 x3 p104 (n+1) p=fT x0 x1 x2 x3 p104 (ea x0 x1 x2 x3 p104 n) p:=rfl
def lN (x0:Int) (x1:List (Int×Int×Int)) (x2:List Bool) (x3:List (Int×Int)) (x4:List Int):Option (List Bool×Bool):=Option.bind (dR x0 x1 x2 x3) (fun b=>(bif b then Option.bind (qP x0 x1 x4 aq (0,0)) (fun c=>au (Ku (x1.length:Int)) (Option.bind (ea x0 x1 x2 x3 c aq (([]:List Bool),-1,0,0)) (fun a=>some (a,!(List.isEmpty a))))) else some (([]:List Bool),false)))
def js (x0:List Bool) (x1:List Bool) (c:(List (Int×Bool)×List (Int×Bool)×Int)→Option ((List (Int×Bool)×List (Int×Bool)))) (a:(List (Int×Bool)×List (Int×Bool)×Int)):Option ((List (Int×Bool)×List (Int×Bool))):=(bif av a.2.2 (x0.length:Int) then au (aB a.2.2 x0.length) (au (!(x0.getD a.2.2.toNat false) ||aB a.2.2 x1.length) (Option.bind (bif (x0.getD a.2.2.toNat false)&&(!(x1.getD a.2.2.toNat false)) then au (bw a.1.length ([(a.2.2,false)]:List (Int×Bool)).length) (some (a.1++([(a.2.2,false)]:List (Int×Bool)),a.2.1)) else au (aB a.2.2 x1.length) (au (!(x1.getD a.2.2.toNat false) ||aB a.2.2 x0.length) (Option.bind (bif (x1.getD a.2.2.toNat false)&&(!(x0.getD a.2.2.toNat false)) then au (bw a.2.1.length ([(a.2.2,true)]:List (Int×Bool)).length) (some (a.2.1++([(a.2.2,true)]:List (Int×Bool)))) else some a.2.1) (fun d=>some (a.1,d))))) (fun b=>c (b.1,b.2,ax (a.2.2+1))))) else some (a.1,a.2.1))
def fY x0 x1:=de (js x0 x1)
theorem sw x0 x1 n p:fY x0 x1 (n+1) p=js x0 x1 (fY x0 x1 n) p:=rfl
def ol (x0:List Bool) (x1:List Bool):Option (List (Int×Bool)):=(bif ((x0.length:Int) !=(x1.length:Int)) ||(av 10 (x0.length:Int)) then some ([]:List (Int×Bool)) else Option.bind (fY x0 x1 aq (([]:List (Int×Bool)),([]:List (Int×Bool)),0)) (fun a=>au (bw a.1.length a.2.length) (some (a.1++a.2))))
def il (x0:Int) (x1:List (Int×Int×Int)) (x2:List Bool) (x3:List (Int×Int)) (x4:List Int):Option (List (Int×Bool)×Bool):=Option.bind (lN x0 x1 x2 x3 x4) (fun a=>(bif a.2 then Option.bind (ol x2 a.1) (fun b=>some (b,true)) else some (([]:List (Int×Bool)),false)))
def fW (x6:List Int) (b:List (Int×Int×Int)×List Bool×Int) (c:(List (Int×Int×Int)×Int)→Option ((List (Int×Int×Int)))) (a:(List (Int×Int×Int)×Int)):Option ((List (Int×Int×Int))):=(bif av a.2 3 then au (aB a.2 3) (au (bw a.1.length ([((([4,7,5]:List Int).getD a.2.toNat (0:Int)),(x6.getD b.2.2.toNat (0:Int)),0)]:List (Int×Int×Int)).length) (c (a.1++([((([4,7,5]:List Int).getD a.2.toNat (0:Int)),(x6.getD b.2.2.toNat (0:Int)),0)]:List (Int×Int×Int)),ax (a.2+1)))) else some a.1)
def ee x6 a:=de (fW x6 a)
theorem ql x6 p118 n p:ee x6 p118 (n+1) p=fW x6 p118 (ee x6 p118 n) p:=rfl
def fV (x6:List Int) (b:List Bool) (d:(List (Int×Int×Int)×List Bool×Int)→Option ((List (Int×Int×Int)×List Bool))) (a:(List (Int×Int×Int)×List Bool×Int)):Option ((List (Int×Int×Int)×List Bool)):=(bif av a.2.2 (x6.length:Int) then au (aB a.2.2 x6.length) (au (aB (x6.getD a.2.2.toNat (0:Int)) b.length) (Option.bind (bif a.2.1.getD ((x6.getD a.2.2.toNat (0:Int)).toNat) false then some (a.1,a.2.1) else au (bw a.1.length ([(2,(x6.getD a.2.2.toNat (0:Int)),0)]:List (Int×Int×Int)).length) (au (aB (x6.getD a.2.2.toNat (0:Int)) b.length) (some (a.1++([(2,(x6.getD a.2.2.toNat (0:Int)),0)]:List (Int×Int×Int)),a.2.1.set ((x6.getD a.2.2.toNat (0:Int)).toNat) true)))) (fun c=>Option.bind (ee x6 a aq (c.1,0)) (fun e=>d (e,c.2,ax (a.2.2+1)))))) else some (a.1,a.2.1))
def eb x6 a:=de (fV x6 a)
theorem qk x6 p108 n p:eb x6 p108 (n+1) p=fV x6 p108 (eb x6 p108 n) p:=rfl
def fX (b:List (Int×Bool)×Bool) (d:(List (Int×Int×Int)×Int)→Option ((List (Int×Int×Int)))) (a:(List (Int×Int×Int)×Int)):Option ((List (Int×Int×Int))):=(bif av a.2 (b.1.length:Int) then au (aB a.2 b.1.length) (Option.bind (bif (b.1.getD a.2.toNat ((0,false):Int×Bool)).2 then some 0 else some 1) (fun c=>au (bw a.1.length ([(c,(b.1.getD a.2.toNat ((0,false):Int×Bool)).1,0)]:List (Int×Int×Int)).length) (d (a.1++([(c,(b.1.getD a.2.toNat ((0,false):Int×Bool)).1,0)]:List (Int×Int×Int)),ax (a.2+1))))) else some a.1)
def ef a:=de (fX a)
theorem qm p158 n p:ef p158 (n+1) p=fX p158 (ef p158 n) p:=rfl
def iR (x0:Int) (x1:List (Int×Int×Int)) (x2:List (Int×Int)) (x3:List Bool) (x4:List Bool) (x5:List (Int×Int)) (x6:List Int):Option (List (Int×Int×Int)):=Option.bind (bE x0 x1 x2 x3 x4 x5 x6) (fun d=>(bif d then Option.bind (ip x3 x4 x5) (fun e=>Option.bind (aY x4) (fun b=>Option.bind (eb x6 b aq (e,b,0)) (fun a=>Option.bind (mI 3 a.2 true) (fun c=>au (bw a.1.length c.length) (Option.bind (il x0 x1 x3 x2 ([]:List Int)) (fun f=>Option.bind (ef f aq (a.1++c,0)) (fun g=>some g))))))) else some ([]:List (Int×Int×Int))))
def ir (x7:List (Int×Int×Int)) (d:(Int×Int×Int×List (Int×Int×Int)×List (Int×Int)×List Bool×List Bool×List (Int×Int)×List Int)→Option ((Int×Int×List (Int×Int×Int)×List (Int×Int)×List Bool×List Bool×List (Int×Int)×List Int))) (a:(Int×Int×Int×List (Int×Int×Int)×List (Int×Int)×List Bool×List Bool×List (Int×Int)×List Int)):Option ((Int×Int×List (Int×Int×Int)×List (Int×Int)×List Bool×List Bool×List (Int×Int)×List Int)):=(bif av a.2.1 (x7.length:Int) then au (aB a.2.1 x7.length) (Option.bind (lq a.2.2.1 a.2.2.2.1 a.2.2.2.2.1 a.2.2.2.2.2.1 a.2.2.2.2.2.2.1 a.2.2.2.2.2.2.2.1 a.2.2.2.2.2.2.2.2 ((x7.getD a.2.1.toNat ((0,0,0):Int×Int×Int)).1) ((x7.getD a.2.1.toNat ((0,0,0):Int×Int×Int)).2.1) ((x7.getD a.2.1.toNat ((0,0,0):Int×Int×Int)).2.2)) (fun b=>Option.bind (bif b.2.2.2.2.2.2.2 then some (ax (a.1+1),b.1,b.2.1,b.2.2.1,b.2.2.2.1,b.2.2.2.2.1,b.2.2.2.2.2.1,b.2.2.2.2.2.2.1) else some (a.1,a.2.2.1,a.2.2.2.1,a.2.2.2.2.1,a.2.2.2.2.2.1,a.2.2.2.2.2.2.1,a.2.2.2.2.2.2.2.1,a.2.2.2.2.2.2.2.2)) (fun c=>d (c.1,ax (a.2.1+1),c.2.1,c.2.2.1,c.2.2.2.1,c.2.2.2.2.1,c.2.2.2.2.2.1,c.2.2.2.2.2.2.1,c.2.2.2.2.2.2.2)))) else some (a.1,a.2.2.1,a.2.2.2.1,a.2.2.2.2.1,a.2.2.2.2.2.1,a.2.2.2.2.2.2.1,a.2.2.2.2.2.2.2.1,a.2.2.2.2.2.2.2.2))
def db x7:=de (ir x7)
theorem rn x7 n p:db x7 (n+1) p=ir x7 (db x7 n) p:=rfl
def mG (x0:Int) (x1:List (Int×Int×Int)) (x2:List (Int×Int)) (x3:List Bool) (x4:List Bool) (x5:List (Int×Int)) (x6:List Int) (x7:List (Int×Int×Int)):Option (Int×List (Int×Int×Int)×List (Int×Int)×List Bool×List Bool×List (Int×Int)×List Int×Int):=Option.bind (bE x0 x1 x2 x3 x4 x5 x6) (fun c=>(bif c then Option.bind (bT x0 x1 x2 x3 x4 x5 x6) (fun b=>Option.bind (db x7 aq (0,0,b.1,b.2.1,b.2.2.1,b.2.2.2.1,b.2.2.2.2.1,b.2.2.2.2.2.1,b.2.2.2.2.2.2)) (fun a=>some (a.2.1,a.2.2.1,a.2.2.2.1,a.2.2.2.2.1,a.2.2.2.2.2.1,a.2.2.2.2.2.2.1,a.2.2.2.2.2.2.2,a.1))) else some (0,([]:List (Int×Int×Int)),([]:List (Int×Int)),([]:List Bool),([]:List Bool),([]:List (Int×Int)),([]:List Int),0)))
def lO (x0:Int) (x1:List (Int×Int×Int)) (x2:List (Int×Int)) (x3:List Bool) (x4:List Bool) (x5:List (Int×Int)) (x6:List Int):Option (Int×List (Int×Int×Int)×List (Int×Int)×List Bool×List Bool×List (Int×Int)×List Int):=Option.bind (iR x0 x1 x2 x3 x4 x5 x6) (fun b=>Option.bind (mG x0 x1 x2 x3 x4 x5 x6 b) (fun a=>some (a.1,a.2.1,a.2.2.1,a.2.2.2.1,a.2.2.2.2.1,a.2.2.2.2.2.1,a.2.2.2.2.2.2.1)))
def mD (x0:Int) (x1:List (Int×Int×Int)) (x2:List Bool) (x3:List (Int×Int)) (x4:Int):Option (Int):=Option.bind (kf x0 x1 x2 x3) (fun a=>Option.bind (gb (!(!a.2.2.2.2.2)) (aS x0 x1 x4)) (fun c=>(bif (!a.2.2.2.2.2) ||(!c) then some (-1) else Option.bind (gk a.1 (Yf a.2.1 x1) a.2.2.1 a.2.2.2.1 a.2.2.2.2.1 x3) (fun b=>au (aB x4 b.length) (some (b.getD x4.toNat (0:Int)))))))
def iz (x0:List Int) (b:(List ByteArray×Int)→Option ((List ByteArray))) (a:(List ByteArray×Int)):Option ((List ByteArray)):=(bif av a.2 (x0.length:Int) then au (aB a.2 x0.length) (Option.bind (bU (x0.getD a.2.toNat (0:Int))) (fun c=>au (aB a.2 x0.length) (b (a.1.set a.2.toNat c,ax (a.2+1))))) else some a.1)
def jw x0:=de (iz x0)
theorem rx x0 n p:jw x0 (n+1) p=iz x0 (jw x0 n) p:=rfl
def dS (x0:List Int):Option (ByteArray):=(bif (x0.length:Int)==0 then some ({data:= #[110,111,110,101]}:ByteArray) else au (yk (x0.length:Int)) (Option.bind (jw x0 aq (List.replicate x0.length ByteArray.empty,0)) (fun a=>Option.bind (dH a ({data:= #[44]}:ByteArray)) (fun b=>some b))))
def fk (x3:List (Int×Int)) (b:Int×Int×Int×Int×Int×Int×Int×Int×Int×Int×Int×Int×Int×Int×Int×Int) (d:(List Int×List Int×Int)→Option ((List Int))) (a:(List Int×List Int×Int)):Option ((List Int)):=(bif av a.2.2 (x3.length:Int) then Option.bind (bM a.1 a.2.2) (fun c=>au (aB c.1 8) (Option.bind (bif av 0 (([b.1,b.2.1,b.2.2.1,b.2.2.2.1,b.2.2.2.2.1,b.2.2.2.2.2.1,b.2.2.2.2.2.2.1,b.2.2.2.2.2.2.2.1]:List Int).getD c.1.toNat 0) then au (bw a.2.1.length ([a.2.2]:List Int).length) (some (a.2.1++([a.2.2]:List Int))) else some a.2.1) (fun e=>d (c.2,e,ax (a.2.2+1))))) else some a.2.1)
def fS x3 a:=de (fk x3 a)
theorem pB x3 p108 n p:fS x3 p108 (n+1) p=fk x3 p108 (fS x3 p108 n) p:=rfl
def kw (x0:Int) (x1:List (Int×Int×Int)) (x2:List Bool) (x3:List (Int×Int)):Option (List Int):=Option.bind (dR x0 x1 x2 x3) (fun a=>(bif a then Option.bind (lr x0 x1 x2) (fun b=>Option.bind (mt x0 x1 x2 x3) (fun c=>Option.bind (fS x3 c aq (b,([]:List Int),0)) (fun d=>some d))) else some ([]:List Int)))
def cM (x0:List Int) (x1:Int) (b:Int→Option (Unit ⊕ Int)) (a:Int):Option (Unit ⊕ Int):=(bif av a (x0.length:Int) then au (aB a x0.length) ((bif x1==(x0.getD a.toNat (0:Int)) then some (Sum.inr a) else b (ax (a+1)))) else some (Sum.inl ()))
def bW x0 x1:=de (cM x0 x1)
theorem mb x0 x1 n p:bW x0 x1 (n+1) p=cM x0 x1 (bW x0 x1 n) p:=rfl
def eP (x0:List Int) (x1:Int):Option (Int):=Option.bind (bW x0 x1 aq 0:Option (Unit ⊕ Int)) (Sum.elim (fun (a:Unit)=>some (-1)) (fun (r:Int)=>some r))
def cV (x0:List Int) (x1:Int):Option (Bool):=Option.bind (eP x0 x1) (fun a=>some (bc 0 a))
def gh (x2:List (Int×Int)) (b:List Int) (c:(List Int×Int)→Option ((List Int))) (a:(List Int×Int)):Option ((List Int)):=(bif av a.2 (x2.length:Int) then au (aB a.2 x2.length) (Option.bind (gb (av 0 ((x2.getD a.2.toNat ((0,0):Int×Int)).2)) (cV b a.2)) (fun d=>Option.bind (bif (av 0 ((x2.getD a.2.toNat ((0,0):Int×Int)).2))&&(!d) then au (bw a.1.length ([a.2]:List Int).length) (some (a.1++([a.2]:List Int))) else some a.1) (fun e=>c (e,ax (a.2+1))))) else some a.1)
def iq x2 a:=de (gh x2 a)
theorem qq x2 p104 n p:iq x2 p104 (n+1) p=gh x2 p104 (iq x2 p104 n) p:=rfl
def eV (x0:Int) (x1:List (Int×Int×Int)) (x2:List (Int×Int)) (x3:List Bool) (x4:List Bool) (x5:List (Int×Int)) (x6:List Int):Option (List Int):=Option.bind (bE x0 x1 x2 x3 x4 x5 x6) (fun a=>(bif a then Option.bind (kw x0 x1 x3 x2) (fun b=>Option.bind (iq x2 b aq (([]:List Int),0)) (fun c=>some c)) else some ([]:List Int)))
def fZ (x0:Int) (x1:List (Int×Int×Int)) (x2:List Bool) (x3:List (Int×Int)):Option (Int):=Option.bind (dR x0 x1 x2 x3) (fun a=>(bif a then Option.bind (gi x0 x1 x2 x3) (fun b=>some b) else some (-1)))
def ga (x0:List Bool) (b:(List Int×Int)→Option ((List Int))) (a:(List Int×Int)):Option ((List Int)):=(bif av a.2 (x0.length:Int) then au (aB a.2 x0.length) (au (aB a.2 x0.length) (Option.bind (bif x0.getD a.2.toNat false then au (aB a.2 x0.length) (some (a.1.set a.2.toNat 49)) else some (a.1.set a.2.toNat 48)) (fun c=>b (c,ax (a.2+1))))) else some a.1)
def im x0:=de (ga x0)
theorem qn x0 n p:im x0 (n+1) p=ga x0 (im x0 n) p:=rfl
def iS (x0:List Bool):Option (ByteArray):=(bif av 10 (x0.length:Int) then some ({data:= #[]}:ByteArray) else au (yk (x0.length:Int)) (Option.bind (im x0 aq (List.replicate x0.length (0:Int),0)) (fun a=>some (strOfNums a))))
def iu (x0:Int) (x1:List (Int×Int×Int)) (x2:List (Int×Int)) (x3:List Bool) (x4:List Bool) (x5:List (Int×Int)) (x6:List Int) (x7:List ByteArray):Option (ByteArray):=au (!((x7.length:Int)==2) ||aB 0 x7.length) ((bif ((x7.length:Int)==2)&&((x7.getD ((0:Int).toNat) ByteArray.empty).toList==({data:= #[102,108,111,119]}:ByteArray).toList) then au (aB 1 x7.length) (Option.bind (aI (x7.getD ((1:Int).toNat) ByteArray.empty)) (fun b=>(bif b.2 then Option.bind (aS x0 x1 b.1) (fun c=>(bif c then Option.bind (mD x0 x1 x3 x2 b.1) (fun d=>Option.bind (bU d) (fun e=>some e)) else some ({data:= #[110,111]}:ByteArray))) else some ({data:= #[119,104,97,116]}:ByteArray)))) else Option.bind (dH x7 ({data:= #[32]}:ByteArray)) (fun a=>(bif a.toList==({data:= #[115,116,97,116,101]}:ByteArray).toList then Option.bind (iS x3) (fun f=>some f) else (bif a.toList==({data:= #[115,101,114,118,101,100]}:ByteArray).toList then Option.bind (fZ x0 x1 x3 x2) (fun g=>Option.bind (bU g) (fun h=>some h)) else (bif a.toList==({data:= #[100,97,114,107]}:ByteArray).toList then Option.bind (eV x0 x1 x2 x3 x4 x5 x6) (fun i=>Option.bind (dS i) (fun j=>some j)) else (bif a.toList==({data:= #[98,114,111,107,101,110]}:ByteArray).toList then Option.bind (dS x6) (fun k=>some k) else (bif a.toList==({data:= #[110,101,116]}:ByteArray).toList then Option.bind (cd x0 x1) (fun l=>some l) else some ({data:= #[119,104,97,116]}:ByteArray)))))))))
def iT (x0:Int) (x1:List (Int×Int×Int)) (x2:List (Int×Int)) (x3:List Bool) (x4:List Bool) (x5:List (Int×Int)) (x6:List Int) (x7:ByteArray):Option (Int×List (Int×Int×Int)×List (Int×Int)×List Bool×List Bool×List (Int×Int)×List Int×ByteArray):=Option.bind (bE x0 x1 x2 x3 x4 x5 x6) (fun f=>(bif f then Option.bind (fN x7 ({data:= #[32]}:ByteArray)) (fun e=>Option.bind (dT e) (fun d=>(bif d.2.2.2 then Option.bind (lq x0 x1 x2 x3 x4 x5 x6 d.1 d.2.1 d.2.2.1) (fun a=>(bif a.2.2.2.2.2.2.2 then some (a.1,a.2.1,a.2.2.1,a.2.2.2.1,a.2.2.2.2.1,a.2.2.2.2.2.1,a.2.2.2.2.2.2.1,({data:= #[111,107]}:ByteArray)) else some (a.1,a.2.1,a.2.2.1,a.2.2.2.1,a.2.2.2.2.1,a.2.2.2.2.2.1,a.2.2.2.2.2.2.1,({data:= #[110,111]}:ByteArray)))) else (bif x7.toList==({data:= #[104,101,97,108]}:ByteArray).toList then Option.bind (lO x0 x1 x2 x3 x4 x5 x6) (fun b=>some (b.1,b.2.1,b.2.2.1,b.2.2.2.1,b.2.2.2.2.1,b.2.2.2.2.2.1,b.2.2.2.2.2.2,({data:= #[111,107]}:ByteArray))) else Option.bind (bT x0 x1 x2 x3 x4 x5 x6) (fun c=>Option.bind (iu x0 x1 x2 x3 x4 x5 x6 e) (fun g=>some (c.1,c.2.1,c.2.2.1,c.2.2.2.1,c.2.2.2.2.1,c.2.2.2.2.2.1,c.2.2.2.2.2.2,g))))))) else some (0,([]:List (Int×Int×Int)),([]:List (Int×Int)),([]:List Bool),([]:List Bool),([]:List (Int×Int)),([]:List Int),({data:= #[]}:ByteArray))))
def lV (x0:ByteArray) (x1:Int) (c:(List ByteArray×Int×Int)→Option ((List ByteArray×Int))) (a:(List ByteArray×Int×Int)):Option ((List ByteArray×Int)):=(bif av a.2.2 (x0.size:Int) then au (aB a.2.2 x0.size) (Option.bind (bif (kZ x0 a.2.2)==x1 then au (vq a.2.1 a.2.2 x0.size) (au (bw a.1.length ([ByteArray.extract x0 a.2.1.toNat a.2.2.toNat]:List ByteArray).length) (some (a.1++([ByteArray.extract x0 a.2.1.toNat a.2.2.toNat]:List ByteArray),ax (a.2.2+1)))) else some (a.1,a.2.1)) (fun b=>c (b.1,b.2,ax (a.2.2+1)))) else some (a.1,a.2.1))
def kb x0 x1:=de (lV x0 x1)
theorem vD x0 x1 n p:kb x0 x1 (n+1) p=lV x0 x1 (kb x0 x1 n) p:=rfl
def qV (x0:ByteArray) (x1:Int):Option (List ByteArray):=Option.bind (kb x0 x1 aq (([]:List ByteArray),0,0)) (fun a=>au (vq a.2 (x0.size:Int) x0.size) (au (bw a.1.length ([ByteArray.extract x0 a.2.toNat x0.size]:List ByteArray).length) (some (a.1++([ByteArray.extract x0 a.2.toNat x0.size]:List ByteArray)))))
def zT (x0:ByteArray) (b:(Int×Int)→Option (Int ⊕ Int)) (a:(Int×Int)):Option (Int ⊕ Int):=(bif av a.2 (x0.size:Int) then au (aB a.2 x0.size) (au (!(!(av (kZ x0 a.2) 48)) ||aB a.2 x0.size) ((bif (av (kZ x0 a.2) 48) ||(av 57 (kZ x0 a.2)) then some (Sum.inr (-1)) else au (aB a.2 x0.size) (b (ax ((ax (10*a.1))+(ax (wk .u8 ((kZ x0 a.2)-48)))),ax (a.2+1)))))) else some (Sum.inl a.1))
def uJ x0:=de (zT x0)
def mw (x0:ByteArray):Option (Int):=Option.bind (aw (x0.size:Int) 1 3) (fun a=>au (!((!(!a))&&(av 1 (x0.size:Int))) ||aB 0 x0.size) ((bif (!a) ||((av 1 (x0.size:Int))&&((kZ x0 0)==48)) then some (-1) else Option.bind (uJ x0 aq (0,0):Option (Int ⊕ Int)) (Sum.elim (fun (b:Int)=>some b) (fun (r:Int)=>some r)))))
def fF (x0:List ByteArray) (c:(List Int×Bool×Int)→Option ((List Int×Bool))) (a:(List Int×Bool×Int)):Option ((List Int×Bool)):=(bif av a.2.2 (x0.length:Int) then au (aB a.2.2 x0.length) (Option.bind (mw (x0.getD a.2.2.toNat ByteArray.empty)) (fun b=>au (bw a.1.length ([b]:List Int).length) (au (!a.2.1 ||aB a.2.2 x0.length) (Option.bind (gb a.2.1 (mw (x0.getD a.2.2.toNat ByteArray.empty))) (fun d=>c (a.1++([b]:List Int),a.2.1&&(bc 0 d),ax (a.2.2+1))))))) else some (a.1,a.2.1))
def dG x0:=de (fF x0)
theorem pQ x0 n p:dG x0 (n+1) p=fF x0 (dG x0 n) p:=rfl
def kQ (x0:List ByteArray):Option (List Int×Bool):=Option.bind (dG x0 aq (([]:List Int),true,1)) (fun a=>some (a.1,a.2))
def oC (x0:ByteArray):Option (Int×Int):=(bif x0.toList==({data:= #[111,110]}:ByteArray).toList then some (0,1) else (bif x0.toList==({data:= #[111,102,102]}:ByteArray).toList then some (1,1) else (bif x0.toList==({data:= #[101,97,114,116,104]}:ByteArray).toList then some (2,1) else (bif x0.toList==({data:= #[99,108,101,97,114]}:ByteArray).toList then some (3,1) else (bif x0.toList==({data:= #[105,115,115,117,101]}:ByteArray).toList then some (4,2) else (bif x0.toList==({data:= #[114,101,116,117,114,110]}:ByteArray).toList then some (5,2) else (bif x0.toList==({data:= #[98,114,101,97,107]}:ByteArray).toList then some (6,1) else (bif x0.toList==({data:= #[109,101,110,100]}:ByteArray).toList then some (7,2) else some (-1,0)))))))))
def jG (x1:List (Int×Int×Int)) (e:(ByteArray×Int)→Option (ByteArray)) (a:(ByteArray×Int)):Option (ByteArray):=(bif av a.2 (x1.length:Int) then au (aB a.2 x1.length) (au (Fk a.1.size ({data:= #[32]}:ByteArray).size) (Option.bind (aT ((x1.getD a.2.toNat ((0,0,0):Int×Int×Int)).1)) (fun b=>au (Fk (a.1++({data:= #[32]}:ByteArray)).size b.size) (au (Fk ((a.1++({data:= #[32]}:ByteArray))++b).size ({data:= #[45]}:ByteArray).size) (Option.bind (aT ((x1.getD a.2.toNat ((0,0,0):Int×Int×Int)).2.1)) (fun c=>au (Fk (((a.1++({data:= #[32]}:ByteArray))++b)++({data:= #[45]}:ByteArray)).size c.size) (au (Fk ((((a.1++({data:= #[32]}:ByteArray))++b)++({data:= #[45]}:ByteArray))++c).size ({data:= #[58]}:ByteArray).size) (Option.bind (aT ((x1.getD a.2.toNat ((0,0,0):Int×Int×Int)).2.2)) (fun d=>au (Fk (((((a.1++({data:= #[32]}:ByteArray))++b)++({data:= #[45]}:ByteArray))++c)++({data:= #[58]}:ByteArray)).size d.size) (e ((((((a.1++({data:= #[32]}:ByteArray))++b)++({data:= #[45]}:ByteArray))++c)++({data:= #[58]}:ByteArray))++d,ax (a.2+1)))))))))))) else some a.1)
def gH x1:=de (jG x1)
theorem sF x1 n p:gH x1 (n+1) p=jG x1 (gH x1 n) p:=rfl
def ow (x0:Int) (x1:List (Int×Int×Int)):Option (ByteArray):=Option.bind (dU x0 x1) (fun a=>(bif a then Option.bind (aT x0) (fun b=>Option.bind (gH x1 aq (b,0)) (fun c=>some c)) else some ({data:= #[]}:ByteArray)))
def jQ (x0:List Int) (d:(ByteArray×Int)→Option (ByteArray)) (a:(ByteArray×Int)):Option (ByteArray):=(bif av a.2 (x0.length:Int) then Option.bind (bif av 0 a.2 then au (Fk a.1.size ({data:= #[44]}:ByteArray).size) (some (a.1++({data:= #[44]}:ByteArray))) else some a.1) (fun b=>au (aB a.2 x0.length) (Option.bind (aT (x0.getD a.2.toNat (0:Int))) (fun c=>au (Fk b.size c.size) (d (b++c,ax (a.2+1)))))) else some a.1)
def gU x0:=de (jQ x0)
theorem sQ x0 n p:gU x0 (n+1) p=jQ x0 (gU x0 n) p:=rfl
def lC (x0:List Int):Option (ByteArray):=Option.bind (gU x0 aq (({data:= #[]}:ByteArray),0)) (fun a=>(bif a.toList==({data:= #[]}:ByteArray).toList then some ({data:= #[110,111,110,101]}:ByteArray) else some a))
def fA (x3:List (Int×Int)) (b:List Int) (c:(Int×Int)→Option (Int)) (a:(Int×Int)):Option (Int):=(bif av a.2 (b.length:Int) then au (aB a.2 b.length) (au (aB (b.getD a.2.toNat (0:Int)) x3.length) (c (ax (a.1+((x3.getD ((b.getD a.2.toNat (0:Int)).toNat) ((0,0):Int×Int)).1)),ax (a.2+1)))) else some a.1)
def dA x3 a:=de (fA x3 a)
theorem pL x3 p105 n p:dA x3 p105 (n+1) p=fA x3 p105 (dA x3 p105 n) p:=rfl
def gF (x0:Int) (x1:List (Int×Int×Int)) (x2:List Bool) (x3:List (Int×Int)) (x4:Int):Option (Int):=Option.bind (gV x0 x1 x2 x3) (fun a=>Option.bind (gb (!(!a)) (aw x4 0 (ax (x0-1)))) (fun b=>(bif (!a) ||(!b) then some (-1) else Option.bind (jb x0 x1 x2 x4) (fun c=>Option.bind (dA x3 c aq (0,0)) (fun d=>some d)))))
def fx (x0:Int) (x1:List (Int×Int×Int)) (x2:List Bool) (x3:List (Int×Int)) (b:(List Int×Int)→Option ((List Int))) (a:(List Int×Int)):Option ((List Int)):=Option.bind (gb (av a.2 x0) (gV x0 x1 x2 x3)) (fun c=>(bif (av a.2 x0)&&c then Option.bind (gF x0 x1 x2 x3 a.2) (fun d=>Option.bind (bif av 0 d then au (bw a.1.length ([a.2]:List Int).length) (some (a.1++([a.2]:List Int))) else some a.1) (fun e=>b (e,ax (a.2+1)))) else some a.1))
def gy x0 x1 x2 x3:=de (fx x0 x1 x2 x3)
theorem pI x0 x1 x2 x3 n p:gy x0 x1 x2 x3 (n+1) p=fx x0 x1 x2 x3 (gy x0 x1 x2 x3 n) p:=rfl
def kK (x0:Int) (x1:List (Int×Int×Int)) (x2:List Bool) (x3:List (Int×Int)):Option (List Int):=Option.bind (gy x0 x1 x2 x3 aq (([]:List Int),0)) (fun a=>some a)
def gP (x2:List (Int×Int)) (c:List Int) (d:(List Int×Int)→Option ((List Int))) (a:(List Int×Int)):Option ((List Int)):=(bif av a.2 (x2.length:Int) then Option.bind (dh c a.2) (fun b=>au (!(!b) ||aB a.2 x2.length) (Option.bind (bif (!b)&&(av 0 ((x2.getD a.2.toNat ((0,0):Int×Int)).2)) then au (bw a.1.length ([a.2]:List Int).length) (some (a.1++([a.2]:List Int))) else some a.1) (fun e=>d (e,ax (a.2+1))))) else some a.1)
def iJ x2 a:=de (gP x2 a)
theorem qG x2 p105 n p:iJ x2 p105 (n+1) p=gP x2 p105 (iJ x2 p105 n) p:=rfl
def jc (x0:Int) (x1:List (Int×Int×Int)) (x2:List (Int×Int)) (x3:List Bool) (x4:List Bool) (x5:List (Int×Int)) (x6:List Int):Option (List Int):=Option.bind (bq x0 x1 x2 x3 x4 x5 x6) (fun a=>(bif a then Option.bind (kK x0 x1 x3 x2) (fun b=>Option.bind (iJ x2 b aq (([]:List Int),0)) (fun c=>some c)) else some ([]:List Int)))
def fB (x3:List (Int×Int)) (b:List Int) (c:(Int×Int)→Option (Int)) (a:(Int×Int)):Option (Int):=(bif av a.2 (b.length:Int) then au (aB a.2 b.length) (au (aB (b.getD a.2.toNat (0:Int)) x3.length) (c (ax (a.1+((x3.getD ((b.getD a.2.toNat (0:Int)).toNat) ((0,0):Int×Int)).2)),ax (a.2+1)))) else some a.1)
def dB x3 a:=de (fB x3 a)
theorem pM x3 p105 n p:dB x3 p105 (n+1) p=fB x3 p105 (dB x3 p105 n) p:=rfl
def gG (x0:Int) (x1:List (Int×Int×Int)) (x2:List Bool) (x3:List (Int×Int)) (x4:Int):Option (Int):=Option.bind (gV x0 x1 x2 x3) (fun a=>Option.bind (gb (!(!a)) (aw x4 0 (ax (x0-1)))) (fun b=>(bif (!a) ||(!b) then some (-1) else Option.bind (jb x0 x1 x2 x4) (fun c=>Option.bind (dB x3 c aq (0,0)) (fun d=>some d)))))
def fC (x0:Int) (x1:List (Int×Int×Int)) (x2:List Bool) (x3:List (Int×Int)) (b:(Int×Int)→Option (Int)) (a:(Int×Int)):Option (Int):=(bif av a.2 x0 then Option.bind (gF x0 x1 x2 x3 a.2) (fun c=>Option.bind (gG x0 x1 x2 x3 a.2) (fun d=>Option.bind (bif bc d c then au (aB a.2 x3.length) (some (ax (a.1+((x3.getD a.2.toNat ((0,0):Int×Int)).2)))) else some a.1) (fun e=>b (e,ax (a.2+1))))) else some a.1)
def dC x0 x1 x2 x3:=de (fC x0 x1 x2 x3)
theorem pN x0 x1 x2 x3 n p:dC x0 x1 x2 x3 (n+1) p=fC x0 x1 x2 x3 (dC x0 x1 x2 x3 n) p:=rfl
def cN (x0:Int) (x1:List (Int×Int×Int)) (x2:List Bool) (x3:List (Int×Int)):Option (Int):=Option.bind (gV x0 x1 x2 x3) (fun a=>(bif a then Option.bind (dC x0 x1 x2 x3 aq (0,0)) (fun b=>some b) else some (-1)))
def dD (x0:List Bool) (b:(ByteArray×Int)→Option (ByteArray)) (a:(ByteArray×Int)):Option (ByteArray):=(bif (av a.2 (x0.length:Int))&&(bc (x0.length:Int) 10) then au (aB a.2 x0.length) (Option.bind (bif x0.getD a.2.toNat false then au (Fk a.1.size ({data:= #[49]}:ByteArray).size) (some (a.1++({data:= #[49]}:ByteArray))) else au (Fk a.1.size ({data:= #[48]}:ByteArray).size) (some (a.1++({data:= #[48]}:ByteArray)))) (fun c=>b (c,ax (a.2+1)))) else some a.1)
def cR x0:=de (dD x0)
theorem mf x0 n p:cR x0 (n+1) p=dD x0 (cR x0 n) p:=rfl
def lT (x0:List Bool):Option (ByteArray):=Option.bind (cR x0 aq (({data:= #[]}:ByteArray),0)) (fun a=>some a)
def pu (x0:Int) (x1:List (Int×Int×Int)) (x2:List (Int×Int)) (x3:List Bool) (x4:List Bool) (x5:List (Int×Int)) (x6:List Int) (x7:ByteArray):Option (ByteArray):=(bif x7.toList==({data:= #[115,116,97,116,101]}:ByteArray).toList then Option.bind (lT x3) (fun a=>some a) else (bif x7.toList==({data:= #[115,101,114,118,101,100]}:ByteArray).toList then Option.bind (cN x0 x1 x3 x2) (fun b=>Option.bind (aT b) (fun c=>some c)) else (bif x7.toList==({data:= #[100,97,114,107]}:ByteArray).toList then Option.bind (jc x0 x1 x2 x3 x4 x5 x6) (fun d=>Option.bind (lC d) (fun e=>some e)) else (bif x7.toList==({data:= #[98,114,111,107,101,110]}:ByteArray).toList then Option.bind (lC x6) (fun f=>some f) else (bif x7.toList==({data:= #[110,101,116]}:ByteArray).toList then Option.bind (ow x0 x1) (fun g=>some g) else some ({data:= #[119,104,97,116]}:ByteArray))))))
def gW (x0:Int) (x3:List (Int×Int)) (b:(List Int×Int)→Option ((List Int))) (a:(List Int×Int)):Option ((List Int)):=(bif av a.2 x0 then au (aB a.2 x3.length) (Option.bind (bif av 0 ((x3.getD a.2.toNat ((0,0):Int×Int)).1) then au (bw a.1.length ([-1]:List Int).length) (some (a.1++([-1]:List Int))) else au (bw a.1.length ([-2]:List Int).length) (some (a.1++([-2]:List Int)))) (fun c=>b (c,ax (a.2+1)))) else some a.1)
def eF x0 x3:=de (gW x0 x3)
theorem qH x0 x3 n p:eF x0 x3 (n+1) p=gW x0 x3 (eF x0 x3 n) p:=rfl
def gY (x1:List (Int×Int×Int)) (x2:List Bool) (b:List Int) (d:(List Int×Int)→Option ((List Int))) (a:(List Int×Int)):Option ((List Int)):=(bif av a.2 (x2.length:Int) then au (aB a.2 x1.length) (au (aB a.2 x2.length) (au (!(x2.getD a.2.toNat false) ||aB ((x1.getD a.2.toNat ((0,0,0):Int×Int×Int)).1) b.length) (au (!((x2.getD a.2.toNat false)&&(av (-2) (a.1.getD (((x1.getD a.2.toNat ((0,0,0):Int×Int×Int)).1).toNat) (0:Int)))) ||aB ((x1.getD a.2.toNat ((0,0,0):Int×Int×Int)).2.1) b.length) (Option.bind (bif ((x2.getD a.2.toNat false)&&(av (-2) (a.1.getD (((x1.getD a.2.toNat ((0,0,0):Int×Int×Int)).1).toNat) (0:Int))))&&((a.1.getD (((x1.getD a.2.toNat ((0,0,0):Int×Int×Int)).2.1).toNat) (0:Int))==(-2)) then au (aB ((x1.getD a.2.toNat ((0,0,0):Int×Int×Int)).2.1) b.length) (some (a.1.set (((x1.getD a.2.toNat ((0,0,0):Int×Int×Int)).2.1).toNat) a.2)) else some a.1) (fun c=>au (aB a.2 x2.length) (au (!(x2.getD a.2.toNat false) ||aB ((x1.getD a.2.toNat ((0,0,0):Int×Int×Int)).2.1) b.length) (au (!((x2.getD a.2.toNat false)&&(av (-2) (c.getD (((x1.getD a.2.toNat ((0,0,0):Int×Int×Int)).2.1).toNat) (0:Int)))) ||aB ((x1.getD a.2.toNat ((0,0,0):Int×Int×Int)).1) b.length) (Option.bind (bif ((x2.getD a.2.toNat false)&&(av (-2) (c.getD (((x1.getD a.2.toNat ((0,0,0):Int×Int×Int)).2.1).toNat) (0:Int))))&&((c.getD (((x1.getD a.2.toNat ((0,0,0):Int×Int×Int)).1).toNat) (0:Int))==(-2)) then au (aB ((x1.getD a.2.toNat ((0,0,0):Int×Int×Int)).1) b.length) (some (c.set (((x1.getD a.2.toNat ((0,0,0):Int×Int×Int)).1).toNat) a.2)) else some c) (fun e=>d (e,ax (a.2+1))))))))))) else some a.1)
def eG x1 x2 a:=de (gY x1 x2 a)
theorem qJ x1 x2 p103 n p:eG x1 x2 p103 (n+1) p=gY x1 x2 p103 (eG x1 x2 p103 n) p:=rfl
def gX (x0:Int) (x1:List (Int×Int×Int)) (x2:List Bool) (b:List Int) (c:(List Int×Int)→Option ((List Int))) (a:(List Int×Int)):Option ((List Int)):=(bif av a.2 x0 then Option.bind (eG x1 x2 b aq (a.1,0)) (fun d=>c (d,ax (a.2+1))) else some a.1)
def iN x0 x1 x2 a:=de (gX x0 x1 x2 a)
theorem qI x0 x1 x2 p103 n p:iN x0 x1 x2 p103 (n+1) p=gX x0 x1 x2 p103 (iN x0 x1 x2 p103 n) p:=rfl
def lY (x0:Int) (x1:List (Int×Int×Int)) (x2:List Bool) (x3:List (Int×Int)):Option (List Int):=Option.bind (eF x0 x3 aq (([]:List Int),0)) (fun a=>Option.bind (iN x0 x1 x2 a aq (a,0)) (fun b=>some b))
def mP (x0:Int) (x1:List (Int×Int×Int)) (x2:Int) (x3:Int):Option (Int):=Option.bind (dU x0 x1) (fun a=>Option.bind (gb (!(!a)) (aw x2 0 (ax ((x1.length:Int)-1)))) (fun b=>(bif (!a) ||(!b) then some (-1) else au (aB x2 x1.length) ((bif ((x1.getD x2.toNat ((0,0,0):Int×Int×Int)).1)==x3 then some ((x1.getD x2.toNat ((0,0,0):Int×Int×Int)).2.1) else (bif ((x1.getD x2.toNat ((0,0,0):Int×Int×Int)).2.1)==x3 then some ((x1.getD x2.toNat ((0,0,0):Int×Int×Int)).1) else some (-1)))))))
def lZ (x0:Int) (x1:List (Int×Int×Int)) (x2:List Int) (b:(Int×List Int)→Option ((List Int))) (a:(Int×List Int)):Option ((List Int)):=au (aB a.1 x2.length) ((bif bc 0 (x2.getD a.1.toNat (0:Int)) then au (aB a.1 x2.length) (au (bw ([(x2.getD a.1.toNat (0:Int))]:List Int).length a.2.length) (au (aB a.1 x2.length) (Option.bind (mP x0 x1 (x2.getD a.1.toNat (0:Int)) a.1) (fun c=>b (c,([(x2.getD a.1.toNat (0:Int))]:List Int)++a.2))))) else some a.2))
def mT x0 x1 x2:=de (lZ x0 x1 x2)
theorem vF x0 x1 x2 n p:mT x0 x1 x2 (n+1) p=lZ x0 x1 x2 (mT x0 x1 x2 n) p:=rfl
def qW (x0:Int) (x1:List (Int×Int×Int)) (x2:List Int) (x3:Int):Option (List Int):=Option.bind (mT x0 x1 x2 aq (x3,([]:List Int))) (fun a=>some a)
def jS (x2:List Bool) (x3:List (Int×Int)) (c:List Int×Int) (b:List Int) (d:(List Int×Int)→Option ((List Int))) (a:(List Int×Int)):Option ((List Int)):=(bif av a.2 (b.length:Int) then au (aB a.2 b.length) (au (aB a.2 b.length) (au (aB (b.getD a.2.toNat (0:Int)) x2.length) (au (aB c.2 x3.length) (au (aB (b.getD a.2.toNat (0:Int)) x2.length) (d (a.1.set ((b.getD a.2.toNat (0:Int)).toNat) (ax ((a.1.getD ((b.getD a.2.toNat (0:Int)).toNat) (0:Int))+((x3.getD c.2.toNat ((0,0):Int×Int)).2))),ax (a.2+1))))))) else some a.1)
def hH x2 x3 a b:=de (jS x2 x3 a b)
theorem sS x2 x3 p112 p115 n p:hH x2 x3 p112 p115 (n+1) p=jS x2 x3 p112 p115 (hH x2 x3 p112 p115 n) p:=rfl
def jR (x0:Int) (x1:List (Int×Int×Int)) (b:List Int) (x2:List Bool) (x3:List (Int×Int)) (c:(List Int×Int)→Option ((List Int))) (a:(List Int×Int)):Option ((List Int)):=(bif av a.2 x0 then Option.bind (qW x0 x1 b a.2) (fun d=>Option.bind (hH x2 x3 a d aq (a.1,0)) (fun e=>c (e,ax (a.2+1)))) else some a.1)
def gZ x0 x1 a x2 x3:=de (jR x0 x1 a x2 x3)
theorem sR x0 x1 p104 x2 x3 n p:gZ x0 x1 p104 x2 x3 (n+1) p=jR x0 x1 p104 x2 x3 (gZ x0 x1 p104 x2 x3 n) p:=rfl
def lD (x0:Int) (x1:List (Int×Int×Int)) (x2:List Bool) (x3:List (Int×Int)):Option (List Int):=au (yk (x2.length:Int)) (Option.bind (lY x0 x1 x2 x3) (fun a=>Option.bind (gZ x0 x1 a x2 x3 aq (List.replicate x2.length (0:Int),0)) (fun b=>some b)))
def mO (x0:Int) (x1:List (Int×Int×Int)) (x2:List Bool) (x3:List (Int×Int)) (x4:Int):Option (Int):=Option.bind (eR x0 x1 x2 x3) (fun a=>Option.bind (gb (!(!a)) (aw x4 0 (ax ((x2.length:Int)-1)))) (fun c=>(bif (!a) ||(!c) then some (-1) else Option.bind (lD x0 x1 x2 x3) (fun b=>au (aB x4 b.length) (some (b.getD x4.toNat (0:Int)))))))
def jK (x1:Int) (b:(Int×List Bool×Int)→Option ((List Bool))) (a:(Int×List Bool×Int)):Option ((List Bool)):=(bif av a.2.2 x1 then au (bw a.2.1.length ([(Int.tmod a.1 2)==1]:List Bool).length) (b (ax (Int.tdiv a.1 2),a.2.1++([(Int.tmod a.1 2)==1]:List Bool),ax (a.2.2+1))) else some a.2.1)
def gM x1:=de (jK x1)
theorem sK x1 n p:gM x1 (n+1) p=jK x1 (gM x1 n) p:=rfl
def oy (x0:Int) (x1:Int):Option (List Bool×Bool):=Option.bind (aw x1 0 10) (fun a=>au (!(!(!a)) ||Ku x1) (Option.bind (gb (!(!a)) (aw x0 0 (ax ((sb .i64 1 x1)-1)))) (fun b=>(bif (!a) ||(!b) then some (([]:List Bool),false) else Option.bind (gM x1 aq (x0,([]:List Bool),0)) (fun c=>some (c,true))))))
def kS (x1:List (Int×Int×Int)) (x2:List Bool) (b:List Int) (c:(List Int×Int)→Option ((List Int))) (a:(List Int×Int)):Option ((List Int)):=(bif av a.2 (x2.length:Int) then au (aB a.2 b.length) (au (aB a.2 x1.length) (Option.bind (bif av ((x1.getD a.2.toNat ((0,0,0):Int×Int×Int)).2.2) (b.getD a.2.toNat (0:Int)) then au (bw a.1.length ([a.2]:List Int).length) (some (a.1++([a.2]:List Int))) else some a.1) (fun d=>c (d,ax (a.2+1))))) else some a.1)
def ma x1 x2 a:=de (kS x1 x2 a)
theorem ue x1 x2 p103 n p:ma x1 x2 p103 (n+1) p=kS x1 x2 p103 (ma x1 x2 p103 n) p:=rfl
def px (x0:Int) (x1:List (Int×Int×Int)) (x2:List Bool) (x3:List (Int×Int)):Option (List Int):=Option.bind (lD x0 x1 x2 x3) (fun a=>Option.bind (ma x1 x2 a aq (([]:List Int),0)) (fun b=>some b))
def kR (x0:Int) (x1:List (Int×Int×Int)) (x2:List Bool) (x3:List (Int×Int)) (b:Int→Option (Unit ⊕ Bool)) (a:Int):Option (Unit ⊕ Bool):=(bif av a x0 then au (aB a x3.length) (Option.bind (gb (av 0 ((x3.getD a.toNat ((0,0):Int×Int)).1)) (gG x0 x1 x2 x3 a)) (fun c=>au (!(av 0 ((x3.getD a.toNat ((0,0):Int×Int)).1)) ||aB a x3.length) ((bif (av 0 ((x3.getD a.toNat ((0,0):Int×Int)).1))&&(av ((x3.getD a.toNat ((0,0):Int×Int)).1) c) then some (Sum.inr false) else b (ax (a+1)))))) else some (Sum.inl ()))
def jg x0 x1 x2 x3:=de (kR x0 x1 x2 x3)
theorem ud x0 x1 x2 x3 n p:jg x0 x1 x2 x3 (n+1) p=kR x0 x1 x2 x3 (jg x0 x1 x2 x3 n) p:=rfl
def pw (x0:Int) (x1:List (Int×Int×Int)) (x2:List Bool) (x3:List (Int×Int)):Option (Bool):=Option.bind (jg x0 x1 x2 x3 aq 0:Option (Unit ⊕ Bool)) (Sum.elim (fun (b:Unit)=>Option.bind (px x0 x1 x2 x3) (fun a=>some ((a.length:Int)==0))) (fun (r:Bool)=>some r))
def ov (x0:Int) (x1:List (Int×Int×Int)) (x2:List Bool) (x3:List (Int×Int)):Option (Bool):=Option.bind (eR x0 x1 x2 x3) (fun a=>Option.bind (gb a (pw x0 x1 x2 x3)) (fun b=>some (a&&b)))
def jF (x0:List Bool) (x1:List Bool) (b:(List Int×Int)→Option ((List Int))) (a:(List Int×Int)):Option ((List Int)):=(bif (av a.2 (x0.length:Int))&&((x0.length:Int)==(x1.length:Int)) then au (aB a.2 x0.length) (au (aB a.2 x1.length) (Option.bind (bif (x0.getD a.2.toNat false) !=(x1.getD a.2.toNat false) then au (bw a.1.length ([a.2]:List Int).length) (some (a.1++([a.2]:List Int))) else some a.1) (fun c=>b (c,ax (a.2+1))))) else some a.1)
def kL x0 x1:=de (jF x0 x1)
theorem sE x0 x1 n p:kL x0 x1 (n+1) p=jF x0 x1 (kL x0 x1 n) p:=rfl
def iX (x0:List Bool) (x1:List Bool):Option (List Int):=Option.bind (kL x0 x1 aq (([]:List Int),0)) (fun a=>some a)
def oY (x0:Int) (x1:Int) (x2:Int) (x3:Int):Option (Bool):=some ((av x2 x0) ||((x0==x2)&&(av x1 x3)))
def xk (x2:List Bool) (x4:List Int) (c:List Bool×Bool) (d:(Bool×Int)→Option (Bool)) (a:(Bool×Int)):Option (Bool):=(bif av a.2 (x4.length:Int) then au (!a.1 ||aB a.2 x4.length) (Option.bind (gb a.1 (aw (x4.getD a.2.toNat (0:Int)) 0 (ax ((x2.length:Int)-1)))) (fun b=>au (!(a.1&&(!(!b))) ||aB a.2 x4.length) (au (!(a.1&&(!(!b))) ||aB (x4.getD a.2.toNat (0:Int)) c.1.length) (d (a.1&&((!b) ||(!(c.1.getD ((x4.getD a.2.toNat (0:Int)).toNat) false))),ax (a.2+1)))))) else some a.1)
def qQ x2 x4 a:=de (xk x2 x4 a)
def gz (x0:Int) (x1:List (Int×Int×Int)) (x2:List Bool) (x3:List (Int×Int)) (x4:List Int) (f:(List Bool×Int×Int×Int)→Option ((List Bool×Int))) (a:(List Bool×Int×Int×Int)):Option ((List Bool×Int)):=au (Ku (x2.length:Int)) ((bif av a.2.2.2 (sb .i64 1 (x2.length:Int)) then Option.bind (oy a.2.2.2 (x2.length:Int)) (fun b=>Option.bind (qQ x2 x4 b aq (true,0)) (fun c=>Option.bind (Option.bind (gb c (ov x0 x1 b.1 x3)) (fun e=>Option.bind (gb (c&&e) (cN x0 x1 b.1 x3)) (fun g=>(bif c&&e then Option.bind (iX x2 b.1) (fun h=>Option.bind (oY g (h.length:Int) a.2.1 a.2.2.1) (fun i=>some i)) else some false)))) (fun j=>Option.bind (bif j then Option.bind (cN x0 x1 b.1 x3) (fun k=>Option.bind (iX x2 b.1) (fun l=>some (b.1,k,(l.length:Int)))) else some (a.1,a.2.1,a.2.2.1)) (fun d=>f (d.1,d.2.1,d.2.2,ax (a.2.2.2+1)))))) else some (a.1,a.2.1)))
def eo x0 x1 x2 x3 x4:=de (gz x0 x1 x2 x3 x4)
theorem qx x0 x1 x2 x3 x4 n p:eo x0 x1 x2 x3 x4 (n+1) p=gz x0 x1 x2 x3 x4 (eo x0 x1 x2 x3 x4 n) p:=rfl
def lS (x0:Int) (x1:List (Int×Int×Int)) (x2:List Bool) (x3:List (Int×Int)) (x4:List Int):Option (List Bool×Bool):=Option.bind (gV x0 x1 x2 x3) (fun b=>(bif b then Option.bind (eo x0 x1 x2 x3 x4 aq (([]:List Bool),-1,0,0)) (fun a=>some (a.1,bc 0 a.2)) else some (([]:List Bool),false)))
def jH (x0:List Bool) (b:List Int) (c:(List (Int×Bool)×Int)→Option ((List (Int×Bool)))) (a:(List (Int×Bool)×Int)):Option ((List (Int×Bool))):=(bif av a.2 (b.length:Int) then au (aB a.2 b.length) (au (aB (b.getD a.2.toNat (0:Int)) x0.length) (Option.bind (bif x0.getD ((b.getD a.2.toNat (0:Int)).toNat) false then au (aB a.2 b.length) (au (bw a.1.length ([((b.getD a.2.toNat (0:Int)),false)]:List (Int×Bool)).length) (some (a.1++([((b.getD a.2.toNat (0:Int)),false)]:List (Int×Bool))))) else some a.1) (fun d=>c (d,ax (a.2+1))))) else some a.1)
def gI x0 a:=de (jH x0 a)
theorem sG x0 p102 n p:gI x0 p102 (n+1) p=jH x0 p102 (gI x0 p102 n) p:=rfl
def jI (x1:List Bool) (b:List Int) (c:(List (Int×Bool)×Int)→Option ((List (Int×Bool)))) (a:(List (Int×Bool)×Int)):Option ((List (Int×Bool))):=(bif av a.2 (b.length:Int) then au (aB a.2 b.length) (au (aB (b.getD a.2.toNat (0:Int)) x1.length) (Option.bind (bif x1.getD ((b.getD a.2.toNat (0:Int)).toNat) false then au (aB a.2 b.length) (au (bw a.1.length ([((b.getD a.2.toNat (0:Int)),true)]:List (Int×Bool)).length) (some (a.1++([((b.getD a.2.toNat (0:Int)),true)]:List (Int×Bool))))) else some a.1) (fun d=>c (d,ax (a.2+1))))) else some a.1)
def gJ x1 a:=de (jI x1 a)
theorem sH x1 p102 n p:gJ x1 p102 (n+1) p=jI x1 p102 (gJ x1 p102 n) p:=rfl
def ox (x0:List Bool) (x1:List Bool):Option (List (Int×Bool)):=Option.bind (iX x0 x1) (fun a=>(bif av 10 (x0.length:Int) then some ([]:List (Int×Bool)) else Option.bind (gI x0 a aq (([]:List (Int×Bool)),0)) (fun b=>Option.bind (gJ x1 a aq (b,0)) (fun c=>some c))))
def iI (x0:Int) (x1:List (Int×Int×Int)) (x2:List Bool) (x3:List (Int×Int)) (x4:List Int):Option (List (Int×Bool)×Bool):=Option.bind (lS x0 x1 x2 x3 x4) (fun a=>(bif a.2 then Option.bind (ox x2 a.1) (fun b=>some (b,true)) else some (([]:List (Int×Bool)),false)))
def gB (x5:List (Int×Int)) (b:(List (Int×Int×Int)×Int)→Option ((List (Int×Int×Int)))) (a:(List (Int×Int×Int)×Int)):Option ((List (Int×Int×Int))):=(bif av a.2 (x5.length:Int) then au (aB a.2 x5.length) (au (aB a.2 x5.length) (au (bw a.1.length ([(5,(x5.getD a.2.toNat ((0,0):Int×Int)).2,(x5.getD a.2.toNat ((0,0):Int×Int)).1)]:List (Int×Int×Int)).length) (b (a.1++([(5,(x5.getD a.2.toNat ((0,0):Int×Int)).2,(x5.getD a.2.toNat ((0,0):Int×Int)).1)]:List (Int×Int×Int)),ax (a.2+1))))) else some a.1)
def ep x5:=de (gB x5)
theorem qy x5 n p:ep x5 (n+1) p=gB x5 (ep x5 n) p:=rfl
def gC (x4:List Bool) (x6:List Int) (c:(List (Int×Int×Int)×Int)→Option ((List (Int×Int×Int)))) (a:(List (Int×Int×Int)×Int)):Option ((List (Int×Int×Int))):=(bif av a.2 (x6.length:Int) then au (aB a.2 x6.length) (au (aB (x6.getD a.2.toNat (0:Int)) x4.length) (Option.bind (bif x4.getD ((x6.getD a.2.toNat (0:Int)).toNat) false then some a.1 else au (aB a.2 x6.length) (au (bw a.1.length ([(2,(x6.getD a.2.toNat (0:Int)),0)]:List (Int×Int×Int)).length) (some (a.1++([(2,(x6.getD a.2.toNat (0:Int)),0)]:List (Int×Int×Int)))))) (fun b=>au (aB a.2 x6.length) (au (aB a.2 x6.length) (au (aB a.2 x6.length) (au (bw b.length ([(4,(x6.getD a.2.toNat (0:Int)),0),(7,(x6.getD a.2.toNat (0:Int)),0),(5,(x6.getD a.2.toNat (0:Int)),0)]:List (Int×Int×Int)).length) (c (b++([(4,(x6.getD a.2.toNat (0:Int)),0),(7,(x6.getD a.2.toNat (0:Int)),0),(5,(x6.getD a.2.toNat (0:Int)),0)]:List (Int×Int×Int)),ax (a.2+1))))))))) else some a.1)
def er x4 x6:=de (gC x4 x6)
theorem qz x4 x6 n p:er x4 x6 (n+1) p=gC x4 x6 (er x4 x6 n) p:=rfl
def gD (x3:List Bool) (x4:List Bool) (x6:List Int) (b:(List (Int×Int×Int)×Int)→Option ((List (Int×Int×Int)))) (a:(List (Int×Int×Int)×Int)):Option ((List (Int×Int×Int))):=(bif av a.2 (x3.length:Int) then au (aB a.2 x4.length) (Option.bind (gb (!(x4.getD a.2.toNat false)) (dh x6 a.2)) (fun c=>Option.bind (bif (x4.getD a.2.toNat false) ||c then au (bw a.1.length ([(3,a.2,0)]:List (Int×Int×Int)).length) (some (a.1++([(3,a.2,0)]:List (Int×Int×Int)))) else some a.1) (fun d=>b (d,ax (a.2+1))))) else some a.1)
def eu x3 x4 x6:=de (gD x3 x4 x6)
theorem qC x3 x4 x6 n p:eu x3 x4 x6 (n+1) p=gD x3 x4 x6 (eu x3 x4 x6 n) p:=rfl
def gE (b:List (Int×Bool)×Bool) (c:(List (Int×Int×Int)×Int)→Option ((List (Int×Int×Int)))) (a:(List (Int×Int×Int)×Int)):Option ((List (Int×Int×Int))):=(bif av a.2 (b.1.length:Int) then au (aB a.2 b.1.length) (Option.bind (bif (b.1.getD a.2.toNat ((0,false):Int×Bool)).2 then au (aB a.2 b.1.length) (au (bw a.1.length ([(0,(b.1.getD a.2.toNat ((0,false):Int×Bool)).1,0)]:List (Int×Int×Int)).length) (some (a.1++([(0,(b.1.getD a.2.toNat ((0,false):Int×Bool)).1,0)]:List (Int×Int×Int))))) else au (aB a.2 b.1.length) (au (bw a.1.length ([(1,(b.1.getD a.2.toNat ((0,false):Int×Bool)).1,0)]:List (Int×Int×Int)).length) (some (a.1++([(1,(b.1.getD a.2.toNat ((0,false):Int×Bool)).1,0)]:List (Int×Int×Int)))))) (fun d=>c (d,ax (a.2+1)))) else some a.1)
def ew a:=de (gE a)
theorem qD p171 n p:ew p171 (n+1) p=gE p171 (ew p171 n) p:=rfl
def iY (x0:Int) (x1:List (Int×Int×Int)) (x2:List (Int×Int)) (x3:List Bool) (x4:List Bool) (x5:List (Int×Int)) (x6:List Int):Option (List (Int×Int×Int)):=Option.bind (bq x0 x1 x2 x3 x4 x5 x6) (fun a=>(bif a then Option.bind (ep x5 aq (([]:List (Int×Int×Int)),0)) (fun b=>Option.bind (er x4 x6 aq (b,0)) (fun c=>Option.bind (eu x3 x4 x6 aq (c,0)) (fun d=>Option.bind (iI x0 x1 x3 x2 ([]:List Int)) (fun e=>Option.bind (ew e aq (d,0)) (fun f=>some f))))) else some ([]:List (Int×Int×Int))))
def iK (x7:List (Int×Int×Int)) (d:(Int×Int×Int×List (Int×Int×Int)×List (Int×Int)×List Bool×List Bool×List (Int×Int)×List Int)→Option ((Int×Int×List (Int×Int×Int)×List (Int×Int)×List Bool×List Bool×List (Int×Int)×List Int))) (a:(Int×Int×Int×List (Int×Int×Int)×List (Int×Int)×List Bool×List Bool×List (Int×Int)×List Int)):Option ((Int×Int×List (Int×Int×Int)×List (Int×Int)×List Bool×List Bool×List (Int×Int)×List Int)):=(bif av a.2.1 (x7.length:Int) then au (aB a.2.1 x7.length) (Option.bind (jd a.2.2.1 a.2.2.2.1 a.2.2.2.2.1 a.2.2.2.2.2.1 a.2.2.2.2.2.2.1 a.2.2.2.2.2.2.2.1 a.2.2.2.2.2.2.2.2 ((x7.getD a.2.1.toNat ((0,0,0):Int×Int×Int)).1) ((x7.getD a.2.1.toNat ((0,0,0):Int×Int×Int)).2.1) ((x7.getD a.2.1.toNat ((0,0,0):Int×Int×Int)).2.2)) (fun b=>Option.bind (bif b.2.2.2.2.2.2.2 then some (ax (a.1+1),b.1,b.2.1,b.2.2.1,b.2.2.2.1,b.2.2.2.2.1,b.2.2.2.2.2.1,b.2.2.2.2.2.2.1) else some (a.1,a.2.2.1,a.2.2.2.1,a.2.2.2.2.1,a.2.2.2.2.2.1,a.2.2.2.2.2.2.1,a.2.2.2.2.2.2.2.1,a.2.2.2.2.2.2.2.2)) (fun c=>d (c.1,ax (a.2.1+1),c.2.1,c.2.2.1,c.2.2.2.1,c.2.2.2.2.1,c.2.2.2.2.2.1,c.2.2.2.2.2.2.1,c.2.2.2.2.2.2.2)))) else some (a.1,a.2.2.1,a.2.2.2.1,a.2.2.2.2.1,a.2.2.2.2.2.1,a.2.2.2.2.2.2.1,a.2.2.2.2.2.2.2.1,a.2.2.2.2.2.2.2.2))
def dc x7:=de (iK x7)
theorem rB x7 n p:dc x7 (n+1) p=iK x7 (dc x7 n) p:=rfl
def mQ (x0:Int) (x1:List (Int×Int×Int)) (x2:List (Int×Int)) (x3:List Bool) (x4:List Bool) (x5:List (Int×Int)) (x6:List Int) (x7:List (Int×Int×Int)):Option (Int×List (Int×Int×Int)×List (Int×Int)×List Bool×List Bool×List (Int×Int)×List Int×Int):=Option.bind (bq x0 x1 x2 x3 x4 x5 x6) (fun c=>(bif c then Option.bind (bu x0 x1 x2 x3 x4 x5 x6) (fun b=>Option.bind (dc x7 aq (0,0,b.1,b.2.1,b.2.2.1,b.2.2.2.1,b.2.2.2.2.1,b.2.2.2.2.2.1,b.2.2.2.2.2.2)) (fun a=>some (a.2.1,a.2.2.1,a.2.2.2.1,a.2.2.2.2.1,a.2.2.2.2.2.1,a.2.2.2.2.2.2.1,a.2.2.2.2.2.2.2,a.1))) else some (0,([]:List (Int×Int×Int)),([]:List (Int×Int)),([]:List Bool),([]:List Bool),([]:List (Int×Int)),([]:List Int),0)))
def lU (x0:Int) (x1:List (Int×Int×Int)) (x2:List (Int×Int)) (x3:List Bool) (x4:List Bool) (x5:List (Int×Int)) (x6:List Int):Option (Int×List (Int×Int×Int)×List (Int×Int)×List Bool×List Bool×List (Int×Int)×List Int):=Option.bind (iY x0 x1 x2 x3 x4 x5 x6) (fun b=>Option.bind (mQ x0 x1 x2 x3 x4 x5 x6 b) (fun a=>some (a.1,a.2.1,a.2.2.1,a.2.2.2.1,a.2.2.2.2.1,a.2.2.2.2.2.1,a.2.2.2.2.2.2.1)))
def je (x0:Int) (x1:List (Int×Int×Int)) (x2:List (Int×Int)) (x3:List Bool) (x4:List Bool) (x5:List (Int×Int)) (x6:List Int) (x7:ByteArray):Option (Int×List (Int×Int×Int)×List (Int×Int)×List Bool×List Bool×List (Int×Int)×List Int×ByteArray):=Option.bind (bq x0 x1 x2 x3 x4 x5 x6) (fun k=>(bif k then Option.bind (qV x7 32) (fun h=>Option.bind (kQ h) (fun b=>au (aB 0 h.length) (Option.bind (oC (h.getD ((0:Int).toNat) ByteArray.empty)) (fun i=>(bif x7.toList==({data:= #[104,101,97,108]}:ByteArray).toList then Option.bind (lU x0 x1 x2 x3 x4 x5 x6) (fun c=>some (c.1,c.2.1,c.2.2.1,c.2.2.2.1,c.2.2.2.2.1,c.2.2.2.2.2.1,c.2.2.2.2.2.2,({data:= #[111,107]}:ByteArray))) else au (aB 0 h.length) ((bif (((h.getD ((0:Int).toNat) ByteArray.empty).toList==({data:= #[102,108,111,119]}:ByteArray).toList)&&((b.1.length:Int)==1))&&b.2 then au (aB 0 b.1.length) (Option.bind (mO x0 x1 x3 x2 (b.1.getD ((0:Int).toNat) (0:Int))) (fun j=>(bif av j 0 then Option.bind (bu x0 x1 x2 x3 x4 x5 x6) (fun d=>some (d.1,d.2.1,d.2.2.1,d.2.2.2.1,d.2.2.2.2.1,d.2.2.2.2.2.1,d.2.2.2.2.2.2,({data:= #[110,111]}:ByteArray))) else Option.bind (bu x0 x1 x2 x3 x4 x5 x6) (fun e=>Option.bind (aT j) (fun l=>some (e.1,e.2.1,e.2.2.1,e.2.2.2.1,e.2.2.2.2.1,e.2.2.2.2.2.1,e.2.2.2.2.2.2,l)))))) else (bif av i.1 0 then Option.bind (bu x0 x1 x2 x3 x4 x5 x6) (fun f=>Option.bind (pu x0 x1 x2 x3 x4 x5 x6 x7) (fun m=>some (f.1,f.2.1,f.2.2.1,f.2.2.2.1,f.2.2.2.2.1,f.2.2.2.2.2.1,f.2.2.2.2.2.2,m))) else (bif ((b.1.length:Int) !=i.2) ||(!b.2) then Option.bind (bu x0 x1 x2 x3 x4 x5 x6) (fun g=>some (g.1,g.2.1,g.2.2.1,g.2.2.2.1,g.2.2.2.2.1,g.2.2.2.2.2.1,g.2.2.2.2.2.2,({data:= #[119,104,97,116]}:ByteArray))) else au (aB 0 b.1.length) (Option.bind (bif i.2==2 then au (aB 1 b.1.length) (some (b.1.getD ((1:Int).toNat) (0:Int))) else some 0) (fun o=>Option.bind (jd x0 x1 x2 x3 x4 x5 x6 i.1 (b.1.getD ((0:Int).toNat) (0:Int)) o) (fun a=>(bif a.2.2.2.2.2.2.2 then some (a.1,a.2.1,a.2.2.1,a.2.2.2.1,a.2.2.2.2.1,a.2.2.2.2.2.1,a.2.2.2.2.2.2.1,({data:= #[111,107]}:ByteArray)) else some (a.1,a.2.1,a.2.2.1,a.2.2.2.1,a.2.2.2.2.1,a.2.2.2.2.2.1,a.2.2.2.2.2.2.1,({data:= #[110,111]}:ByteArray))))))))))))))) else some (0,([]:List (Int×Int×Int)),([]:List (Int×Int)),([]:List Bool),([]:List Bool),([]:List (Int×Int)),([]:List Int),({data:= #[]}:ByteArray))))
def jC (x1:List (Int×Int×Int)) (x3:List (Int×Int×Int)) (b:Int→Option (Unit ⊕ Bool)) (a:Int):Option (Unit ⊕ Bool):=(bif av a (x1.length:Int) then au (aB a x1.length) (au (aB a x3.length) ((bif (((x1.getD a.toNat ((0,0,0):Int×Int×Int)).1)==((x3.getD a.toNat ((0,0,0):Int×Int×Int)).1))&&(((x1.getD a.toNat ((0,0,0):Int×Int×Int)).2.1)==((x3.getD a.toNat ((0,0,0):Int×Int×Int)).2.1))&&(((x1.getD a.toNat ((0,0,0):Int×Int×Int)).2.2)==((x3.getD a.toNat ((0,0,0):Int×Int×Int)).2.2)) then b (ax (a+1)) else some (Sum.inr false)))) else some (Sum.inl ()))
def kJ x1 x3:=de (jC x1 x3)
theorem sD x1 x3 n p:kJ x1 x3 (n+1) p=jC x1 x3 (kJ x1 x3 n) p:=rfl
def oo (x0:Int) (x1:List (Int×Int×Int)) (x2:Int) (x3:List (Int×Int×Int)):Option (Bool):=(bif (x0 !=x2) ||((x1.length:Int) !=(x3.length:Int)) then some false else Option.bind (kJ x1 x3 aq 0:Option (Unit ⊕ Bool)) (Sum.elim (fun (a:Unit)=>some true) (fun (r:Bool)=>some r)))
def gw (x0:List (Int×Int)) (x1:List (Int×Int)) (b:Int→Option (Unit ⊕ Bool)) (a:Int):Option (Unit ⊕ Bool):=(bif av a (x0.length:Int) then au (aB a x0.length) (au (aB a x1.length) ((bif (((x0.getD a.toNat ((0,0):Int×Int)).1)==((x1.getD a.toNat ((0,0):Int×Int)).1))&&(((x0.getD a.toNat ((0,0):Int×Int)).2)==((x1.getD a.toNat ((0,0):Int×Int)).2)) then b (ax (a+1)) else some (Sum.inr false)))) else some (Sum.inl ()))
def iF x0 x1:=de (gw x0 x1)
theorem qv x0 x1 n p:iF x0 x1 (n+1) p=gw x0 x1 (iF x0 x1 n) p:=rfl
def lR (x0:List (Int×Int)) (x1:List (Int×Int)):Option (Bool):=(bif (x0.length:Int) !=(x1.length:Int) then some false else Option.bind (iF x0 x1 aq 0:Option (Unit ⊕ Bool)) (Sum.elim (fun (a:Unit)=>some true) (fun (r:Bool)=>some r)))
def gu (x0:List Bool) (x1:List Bool) (b:Int→Option (Unit ⊕ Bool)) (a:Int):Option (Unit ⊕ Bool):=(bif av a (x0.length:Int) then au (aB a x0.length) (au (aB a x1.length) ((bif (x0.getD a.toNat false) !=(x1.getD a.toNat false) then some (Sum.inr false) else b (ax (a+1))))) else some (Sum.inl ()))
def iE x0 x1:=de (gu x0 x1)
theorem qu x0 x1 n p:iE x0 x1 (n+1) p=gu x0 x1 (iE x0 x1 n) p:=rfl
def iW (x0:List Bool) (x1:List Bool):Option (Bool):=(bif (x0.length:Int) !=(x1.length:Int) then some false else Option.bind (iE x0 x1 aq 0:Option (Unit ⊕ Bool)) (Sum.elim (fun (a:Unit)=>some true) (fun (r:Bool)=>some r)))
def eO (x0:List (Int×Int)) (x1:List (Int×Int)) (b:Int→Option (Unit ⊕ Bool)) (a:Int):Option (Unit ⊕ Bool):=(bif av a (x0.length:Int) then au (aB a x0.length) (au (aB a x1.length) ((bif (((x0.getD a.toNat ((0,0):Int×Int)).1)==((x1.getD a.toNat ((0,0):Int×Int)).1))&&(((x0.getD a.toNat ((0,0):Int×Int)).2)==((x1.getD a.toNat ((0,0):Int×Int)).2)) then b (ax (a+1)) else some (Sum.inr false)))) else some (Sum.inl ()))
def fw x0 x1:=de (eO x0 x1)
theorem oN x0 x1 n p:fw x0 x1 (n+1) p=eO x0 x1 (fw x0 x1 n) p:=rfl
def jD (x0:List (Int×Int)) (x1:List (Int×Int)):Option (Bool):=(bif (x0.length:Int) !=(x1.length:Int) then some false else Option.bind (fw x0 x1 aq 0:Option (Unit ⊕ Bool)) (Sum.elim (fun (a:Unit)=>some true) (fun (r:Bool)=>some r)))
def mM (x0:List Bool) (x1:List Bool) (x2:List (Int×Int)) (x3:List Bool) (x4:List Bool) (x5:List (Int×Int)):Option (Bool):=Option.bind (iW x0 x3) (fun a=>Option.bind (gb a (iW x1 x4)) (fun b=>Option.bind (gb (a&&b) (jD x2 x5)) (fun c=>some ((a&&b)&&c))))
def iG (x0:List Int) (x1:List Int) (b:Int→Option (Unit ⊕ Bool)) (a:Int):Option (Unit ⊕ Bool):=(bif av a (x0.length:Int) then au (aB a x0.length) (au (aB a x1.length) ((bif (x0.getD a.toNat (0:Int)) !=(x1.getD a.toNat (0:Int)) then some (Sum.inr false) else b (ax (a+1))))) else some (Sum.inl ()))
def jB x0 x1:=de (iG x0 x1)
theorem rz x0 x1 n p:jB x0 x1 (n+1) p=iG x0 x1 (jB x0 x1 n) p:=rfl
def mL (x0:List Int) (x1:List Int):Option (Bool):=(bif (x0.length:Int) !=(x1.length:Int) then some false else Option.bind (jB x0 x1 aq 0:Option (Unit ⊕ Bool)) (Sum.elim (fun (a:Unit)=>some true) (fun (r:Bool)=>some r)))
def eX (x0:Int) (x1:List (Int×Int×Int)) (x2:List (Int×Int)) (x3:List Bool) (x4:List Bool) (x5:List (Int×Int)) (x6:List Int) (x7:Int) (x8:List (Int×Int×Int)) (x9:List (Int×Int)) (x10:List Bool) (x11:List Bool) (x12:List (Int×Int)) (x13:List Int):Option (Bool):=Option.bind (oo x0 x1 x7 x8) (fun a=>Option.bind (gb a (lR x2 x9)) (fun b=>Option.bind (gb (a&&b) (mM x3 x4 x5 x10 x11 x12)) (fun c=>Option.bind (gb ((a&&b)&&c) (mL x6 x13)) (fun d=>some (((a&&b)&&c)&&d)))))
def qd (x0:Int) (x1:List (Int×Int×Int)) (x2:Int) (x3:Int):Option (Int):=Option.bind (aN x0 x1) (fun a=>Option.bind (gb (!(!a)) (aS x0 x1 x2)) (fun b=>(bif (!a) ||(!b) then some (-1) else au (aB x2 x1.length) (Option.bind (cI ((x1.getD x2.toNat ((0,0,0):Int×Int×Int)).1) ((x1.getD x2.toNat ((0,0,0):Int×Int×Int)).2.1) ((x1.getD x2.toNat ((0,0,0):Int×Int×Int)).2.2) x3) (fun c=>some c)))))
def qU:Option (Bool):=Option.bind (qd 2 ([(0,1,1)]:List (Int×Int×Int)) 0 0) (fun a=>Option.bind (gb (a==1) (cd 0 ([]:List (Int×Int×Int)))) (fun b=>some ((a==1)&&(b.toList==({data:= #[]}:ByteArray).toList))))
def fI (x0:List Int) (a:Int×List (Int×Int×Int)×List (Int×Int)×List Bool×List Bool×List (Int×Int)×List Int×Int) (d:(List ByteArray×Int×Int)→Option ((List ByteArray×Int))) (b:(List ByteArray×Int×Int)):Option ((List ByteArray×Int)):=(bif av 0 b.2.1 then Option.bind (oz (aj x0 0 (LN x0.length)) b.2.2 a.1 a.2.1 a.2.2.1 a.2.2.2.1 a.2.2.2.2.1 a.2.2.2.2.2.1 a.2.2.2.2.2.2.1) (fun c=>au (bw b.1.length ([c.1]:List ByteArray).length) (d (b.1++([c.1]:List ByteArray),ax (b.2.1-1),c.2))) else some (b.1,b.2.2))
def ce x0 a:=de (fI x0 a)
theorem tE x0 p103 n p:ce x0 p103 (n+1) p=fI x0 p103 (ce x0 p103 n) p:=rfl
def cX (x0:List Int):Option (Int×List (Int×Int×Int)×List (Int×Int)×List Bool×List Bool×List (Int×Int)×List Int×List ByteArray):=Option.bind (mR (aj x0 0 (LN x0.length)) 0 12) (fun a=>Option.bind (ac (aj x0 0 (LN x0.length)) a.2.2.2.2.2.2.2 9) (fun b=>Option.bind (ce x0 a aq (([]:List ByteArray),b.1,b.2)) (fun c=>Option.bind (cv (aj x0 0 (LN x0.length)) c.2 30) (fun d=>Option.bind (bif d.1 then au (yk 41) (some (List.replicate ((41:Int).toNat) ByteArray.empty)) else some c.1) (fun e=>some (a.1,a.2.1,a.2.2.1,a.2.2.2.1,a.2.2.2.2.1,a.2.2.2.2.2.1,a.2.2.2.2.2.2.1,e))))))
def fm (x7:List ByteArray) (c:(List ByteArray×Int×Int×List (Int×Int×Int)×List (Int×Int)×List Bool×List Bool×List (Int×Int)×List Int)→Option ((List ByteArray×Int×List (Int×Int×Int)×List (Int×Int)×List Bool×List Bool×List (Int×Int)×List Int))) (a:(List ByteArray×Int×Int×List (Int×Int×Int)×List (Int×Int)×List Bool×List Bool×List (Int×Int)×List Int)):Option ((List ByteArray×Int×List (Int×Int×Int)×List (Int×Int)×List Bool×List Bool×List (Int×Int)×List Int)):=(bif av a.2.1 (x7.length:Int) then au (aB a.2.1 x7.length) (Option.bind (iT a.2.2.1 a.2.2.2.1 a.2.2.2.2.1 a.2.2.2.2.2.1 a.2.2.2.2.2.2.1 a.2.2.2.2.2.2.2.1 a.2.2.2.2.2.2.2.2 (x7.getD a.2.1.toNat ByteArray.empty)) (fun b=>au (aB a.2.1 x7.length) (c (a.1.set a.2.1.toNat b.2.2.2.2.2.2.2,ax (a.2.1+1),b.1,b.2.1,b.2.2.1,b.2.2.2.1,b.2.2.2.2.1,b.2.2.2.2.2.1,b.2.2.2.2.2.2.1)))) else some (a.1,a.2.2.1,a.2.2.2.1,a.2.2.2.2.1,a.2.2.2.2.2.1,a.2.2.2.2.2.2.1,a.2.2.2.2.2.2.2.1,a.2.2.2.2.2.2.2.2))
def dp x7:=de (fm x7)
theorem pD x7 n p:dp x7 (n+1) p=fm x7 (dp x7 n) p:=rfl
def cJ (x0:Int) (x1:List (Int×Int×Int)) (x2:List (Int×Int)) (x3:List Bool) (x4:List Bool) (x5:List (Int×Int)) (x6:List Int) (x7:List ByteArray):Option (Int×List (Int×Int×Int)×List (Int×Int)×List Bool×List Bool×List (Int×Int)×List Int×List ByteArray):=Option.bind (bE x0 x1 x2 x3 x4 x5 x6) (fun c=>(bif (!c) ||(av 40 (x7.length:Int)) then some (0,([]:List (Int×Int×Int)),([]:List (Int×Int)),([]:List Bool),([]:List Bool),([]:List (Int×Int)),([]:List Int),([]:List ByteArray)) else Option.bind (bT x0 x1 x2 x3 x4 x5 x6) (fun b=>au (yk (x7.length:Int)) (Option.bind (dp x7 aq (List.replicate x7.length ByteArray.empty,0,b.1,b.2.1,b.2.2.1,b.2.2.2.1,b.2.2.2.2.1,b.2.2.2.2.2.1,b.2.2.2.2.2.2)) (fun a=>some (a.2.1,a.2.2.1,a.2.2.2.1,a.2.2.2.2.1,a.2.2.2.2.2.1,a.2.2.2.2.2.2.1,a.2.2.2.2.2.2.2,a.1))))))
def fD (x7:List ByteArray) (c:(List ByteArray×Int×Int×List (Int×Int×Int)×List (Int×Int)×List Bool×List Bool×List (Int×Int)×List Int)→Option ((List ByteArray×Int×List (Int×Int×Int)×List (Int×Int)×List Bool×List Bool×List (Int×Int)×List Int))) (a:(List ByteArray×Int×Int×List (Int×Int×Int)×List (Int×Int)×List Bool×List Bool×List (Int×Int)×List Int)):Option ((List ByteArray×Int×List (Int×Int×Int)×List (Int×Int)×List Bool×List Bool×List (Int×Int)×List Int)):=(bif av a.2.1 (x7.length:Int) then au (aB a.2.1 x7.length) (Option.bind (je a.2.2.1 a.2.2.2.1 a.2.2.2.2.1 a.2.2.2.2.2.1 a.2.2.2.2.2.2.1 a.2.2.2.2.2.2.2.1 a.2.2.2.2.2.2.2.2 (x7.getD a.2.1.toNat ByteArray.empty)) (fun b=>au (bw a.1.length ([b.2.2.2.2.2.2.2]:List ByteArray).length) (c (a.1++([b.2.2.2.2.2.2.2]:List ByteArray),ax (a.2.1+1),b.1,b.2.1,b.2.2.1,b.2.2.2.1,b.2.2.2.2.1,b.2.2.2.2.2.1,b.2.2.2.2.2.2.1)))) else some (a.1,a.2.2.1,a.2.2.2.1,a.2.2.2.2.1,a.2.2.2.2.2.1,a.2.2.2.2.2.2.1,a.2.2.2.2.2.2.2.1,a.2.2.2.2.2.2.2.2))
def dE x7:=de (fD x7)
theorem pO x7 n p:dE x7 (n+1) p=fD x7 (dE x7 n) p:=rfl
def kP (x0:Int) (x1:List (Int×Int×Int)) (x2:List (Int×Int)) (x3:List Bool) (x4:List Bool) (x5:List (Int×Int)) (x6:List Int) (x7:List ByteArray):Option (Int×List (Int×Int×Int)×List (Int×Int)×List Bool×List Bool×List (Int×Int)×List Int×List ByteArray):=Option.bind (bq x0 x1 x2 x3 x4 x5 x6) (fun c=>(bif (!c) ||(av 40 (x7.length:Int)) then some (0,([]:List (Int×Int×Int)),([]:List (Int×Int)),([]:List Bool),([]:List Bool),([]:List (Int×Int)),([]:List Int),([]:List ByteArray)) else Option.bind (bu x0 x1 x2 x3 x4 x5 x6) (fun b=>Option.bind (dE x7 aq (([]:List ByteArray),0,b.1,b.2.1,b.2.2.1,b.2.2.2.1,b.2.2.2.2.1,b.2.2.2.2.2.1,b.2.2.2.2.2.2)) (fun a=>some (a.2.1,a.2.2.1,a.2.2.2.1,a.2.2.2.2.1,a.2.2.2.2.2.1,a.2.2.2.2.2.2.1,a.2.2.2.2.2.2.2,a.1)))))
def gx (x0:List ByteArray) (x1:List ByteArray) (b:Int→Option (Unit ⊕ Bool)) (a:Int):Option (Unit ⊕ Bool):=(bif av a (x0.length:Int) then au (aB a x0.length) (au (aB a x1.length) ((bif (x0.getD a.toNat ByteArray.empty).toList==(x1.getD a.toNat ByteArray.empty).toList then b (ax (a+1)) else some (Sum.inr false)))) else some (Sum.inl ()))
def em x0 x1:=de (gx x0 x1)
theorem qw x0 x1 n p:em x0 x1 (n+1) p=gx x0 x1 (em x0 x1 n) p:=rfl
def eW (x0:List ByteArray) (x1:List ByteArray):Option (Bool):=(bif (x0.length:Int) !=(x1.length:Int) then some false else Option.bind (em x0 x1 aq 0:Option (Unit ⊕ Bool)) (Sum.elim (fun (a:Unit)=>some true) (fun (r:Bool)=>some r)))
def dQ (b:Int×List (Int×Int×Int)×List (Int×Int)×List Bool×List Bool×List (Int×Int)×List Int×List ByteArray) (c:Int→Option (Unit ⊕ Bool)) (a:Int):Option (Unit ⊕ Bool):=(bif av a (b.2.2.2.2.2.2.2.length:Int) then au (aB a b.2.2.2.2.2.2.2.length) ((bif (b.2.2.2.2.2.2.2.getD a.toNat ByteArray.empty).toList==({data:= #[]}:ByteArray).toList then some (Sum.inr false) else c (ax (a+1)))) else some (Sum.inl ()))
def cK a:=de (dQ a)
theorem nH p125 n p:cK p125 (n+1) p=dQ p125 (cK p125 n) p:=rfl
def iD (x0:List Int):Option (Bool):=(bif av 1048576 (x0.length:Int) then some true else Option.bind (cX x0) (fun a=>Option.bind (cJ a.1 a.2.1 a.2.2.1 a.2.2.2.1 a.2.2.2.2.1 a.2.2.2.2.2.1 a.2.2.2.2.2.2.1 a.2.2.2.2.2.2.2) (fun b=>Option.bind (kP a.1 a.2.1 a.2.2.1 a.2.2.2.1 a.2.2.2.2.1 a.2.2.2.2.2.1 a.2.2.2.2.2.2.1 a.2.2.2.2.2.2.2) (fun e=>Option.bind (eX b.1 b.2.1 b.2.2.1 b.2.2.2.1 b.2.2.2.2.1 b.2.2.2.2.2.1 b.2.2.2.2.2.2.1 e.1 e.2.1 e.2.2.1 e.2.2.2.1 e.2.2.2.2.1 e.2.2.2.2.2.1 e.2.2.2.2.2.2.1) (fun f=>Option.bind (gb (!(!f)) (eW b.2.2.2.2.2.2.2 e.2.2.2.2.2.2.2)) (fun g=>(bif (!f) ||(!g) then some false else Option.bind (bq a.1 a.2.1 a.2.2.1 a.2.2.2.1 a.2.2.2.2.1 a.2.2.2.2.2.1 a.2.2.2.2.2.2.1) (fun h=>(bif (!h) ||(av 40 (a.2.2.2.2.2.2.2.length:Int)) then Option.bind (gb (((b.2.2.2.2.2.2.2.length:Int)==0)&&((b.2.2.1.length:Int)==0)) (qU)) (fun i=>some ((((b.2.2.2.2.2.2.2.length:Int)==0)&&((b.2.2.1.length:Int)==0))&&i)) else au (vq 0 (ax (Int.tdiv (a.2.2.2.2.2.2.2.length:Int) 2)) a.2.2.2.2.2.2.2.length) (Option.bind (cJ a.1 a.2.1 a.2.2.1 a.2.2.2.1 a.2.2.2.2.1 a.2.2.2.2.2.1 a.2.2.2.2.2.2.1 (aj a.2.2.2.2.2.2.2 0 (ax (Int.tdiv (a.2.2.2.2.2.2.2.length:Int) 2)))) (fun c=>au (vq (ax (Int.tdiv (a.2.2.2.2.2.2.2.length:Int) 2)) (a.2.2.2.2.2.2.2.length:Int) a.2.2.2.2.2.2.2.length) (Option.bind (cJ c.1 c.2.1 c.2.2.1 c.2.2.2.1 c.2.2.2.2.1 c.2.2.2.2.2.1 c.2.2.2.2.2.2.1 (aj a.2.2.2.2.2.2.2 (ax (Int.tdiv (a.2.2.2.2.2.2.2.length:Int) 2)) (a.2.2.2.2.2.2.2.length:Int))) (fun d=>Option.bind (cK b aq 0:Option (Unit ⊕ Bool)) (Sum.elim (fun (m:Unit)=>Option.bind (Option.bind (eX d.1 d.2.1 d.2.2.1 d.2.2.2.1 d.2.2.2.2.1 d.2.2.2.2.2.1 d.2.2.2.2.2.2.1 b.1 b.2.1 b.2.2.1 b.2.2.2.1 b.2.2.2.2.1 b.2.2.2.2.2.1 b.2.2.2.2.2.2.1) (fun j=>(bif j then au (bw ([]:List ByteArray).length c.2.2.2.2.2.2.2.length) (au (bw (([]:List ByteArray)++c.2.2.2.2.2.2.2).length d.2.2.2.2.2.2.2.length) (Option.bind (eW ((([]:List ByteArray)++c.2.2.2.2.2.2.2)++d.2.2.2.2.2.2.2) b.2.2.2.2.2.2.2) (fun k=>some (k&&((b.2.2.2.2.2.2.2.length:Int)==(a.2.2.2.2.2.2.2.length:Int)))))) else some false))) (fun l=>some l)) (fun (r:Bool)=>some r)))))))))))))))
end
theorem ai {α:Type} {l:List α} {k:Nat} {d:α} (h:k<l.length):l.getD k d=l[k]:=by simp [List.getD,h]
theorem af {k:Nat} (h:k<4611686018427387904):ax ((k:Int)+1)=((k+1:Nat):Int):=by rw [aP (by omega) (by omega)];rfl
theorem Ev {n:Int} (h: -9223372036854775808≤n∧n≤9223372036854775807):ax n=n:=aP h.1 h.2
theorem pn {n:Nat} (h:n≤1099511627776):n<aq:=by rw [qT];omega
theorem az {k n:Nat} (h:k<n):av (k:Int) (n:Int)=true:=by simp [av,h]
theorem ah {k n:Nat} (h:k<n):aB (k:Int) n=true:=by simp [aB,h]
theorem ak {n:Nat}:av (n:Int) (n:Int)=false:=by simp [av]
theorem oX (n lo hi:Int):HN n lo hi=(bc lo n&&bc n hi):=rfl
theorem Es {α β:Type} (f:β→α→β) (l:List α) (a:β) (d:α) {k:Nat} (h:k<l.length):(l.take (k+1)).foldl f a=f ((l.take k).foldl f a) (l.getD k d):=by
 rw [List.take_succ_eq_append_getElem h,List.foldl_append,ai h];rfl
theorem VH {σ Out:Type} (L:Nat→σ→Option Out) (st:Nat→σ) (n:Nat) (out:Option Out) (hstep: ∀k fuel,k<n→L (fuel+1) (st k)=L fuel (st (k+1))) (hend: ∀fuel,L (fuel+1) (st n)=out): ∀j k fuel,k+j=n→j<fuel→L fuel (st k)=out:=by
 intro j
 induction j with
 |zero=>
  intro k fuel hk hf
  obtain ⟨f,rfl⟩: ∃f,fuel=f+1:=⟨fuel-1,by omega⟩
  obtain rfl:k=n:=by omega
  exact hend f
 |succ j ih=>
  intro k fuel hk hf
  obtain ⟨f,rfl⟩: ∃f,fuel=f+1:=⟨fuel-1,by omega⟩
  rw [hstep k f (by omega)]
  exact ih (k+1) f (by omega) (by omega)
theorem aC {σ Out:Type} (L:Nat→σ→Option Out) (st:Nat→σ) (n:Nat) (out:Option Out) (hn:n≤1099511627776) (hstep: ∀k fuel,k<n→L (fuel+1) (st k)=L fuel (st (k+1))) (hend: ∀fuel,L (fuel+1) (st n)=out):L aq (st 0)=out:=
 VH L st n out hstep hend n 0 aq (by omega) (pn hn)
theorem cc {σ Out:Type} (L:Nat→σ→Option Out) (st:Nat→σ) (n:Nat) (P:Nat→Bool) (fv out:Option Out) (hn:n≤1099511627776) (hstep: ∀k fuel,k<n→L (fuel+1) (st k)=bif P k then fv else L fuel (st (k+1))) (hend: ∀fuel,L (fuel+1) (st n)=out):
 L aq (st 0)=bif (List.range n).any P then fv else out:=by
 have key: ∀j k fuel,k+j=n→j<fuel→L fuel (st k)=bif (List.range' k j).any P then fv else out:=by
  intro j
  induction j with
  |zero=>
   intro k fuel hk hf
   obtain ⟨f,rfl⟩: ∃f,fuel=f+1:=⟨fuel-1,by omega⟩
   obtain rfl:k=n:=by omega
   simpa using hend f
  |succ j ih=>
   intro k fuel hk hf
   obtain ⟨f,rfl⟩: ∃f,fuel=f+1:=⟨fuel-1,by omega⟩
   rw [hstep k f (by omega),ih (k+1) f (by omega) (by omega),List.range'_succ,List.any_cons]
   cases P k<;>simp
 rw [key n 0 aq (by omega) (pn hn),List.range_eq_range']
theorem KF {α:Type} (l:List α) (d:α) (p:α→Bool):(List.range l.length).any (fun k=>p (l.getD k d))=l.any p:=by
 rw [Bool.eq_iff_iff,List.any_eq_true,List.any_eq_true]
 constructor
 ·rintro ⟨k,hk,h⟩
  have hk:k<l.length:=by simpa using hk
  exact ⟨l[k],List.getElem_mem hk,by simpa [List.getD,hk] using h⟩
 ·rintro ⟨x,hx,h⟩
  obtain ⟨k,hk,rfl⟩:=List.mem_iff_getElem.1 hx
  exact ⟨k,by simpa using hk,by simpa [List.getD,hk] using h⟩
theorem PO {β:Type} (L:Nat→(List β×Int)→Option (List β)) (x:List β) (l0:List β) (hl:l0.length=x.length) (hx:x.length≤1048576)
 (hstep: ∀fuel (l:List β) (j:Nat) (hj:j<x.length),l.length=x.length→L (fuel+1) (l,(j:Int))=L fuel (l.set j x[j],((j+1:Nat):Int)))
 (hend: ∀fuel (l:List β),l.length=x.length→L (fuel+1) (l,(x.length:Int))=some l):L aq (l0,0)=some x:=by
 have h:=aC L (fun j=>(x.take j++l0.drop j,(j:Int))) x.length (some x) (by omega) (fun j fuel hj=>?_) (fun fuel=>?_)
 ·simpa using h
 ·rw [hstep fuel _ j hj (by simp;omega)]
  congr 2
  rw [List.set_append_right _ _ (by simp;omega),List.length_take,Nat.min_eq_left (by omega),Nat.sub_self,List.drop_eq_getElem_cons (by omega:j<l0.length),List.set_cons_zero,List.take_succ_eq_append_getElem hj,List.append_assoc]
  rfl
 ·have:=hend fuel (x.take x.length++l0.drop x.length) (by simp;omega)
  rw [this,List.take_length,List.drop_of_length_le (by omega),List.append_nil]
end Go.Proofs.YtjdlgannencchaaGreatDoor
namespace Go.Proofs.YtjdlgannencchaaGreatDoor
open Go.Lib
set_option linter.unusedVariables false
set_option linter.unusedSimpArgs false
theorem wk8 {n:Int} (h:0≤n∧n<256):wk .u8 n=n:=by
 unfold wk IntKind.wrap
 simp [IntKind.bits,IntKind.signed]
 omega
theorem Gl {n:Nat} (h:n<10):strOfNums ([wk .u8 (ax (48+(n:Int)))]:List Int)=ba [UInt8.ofNat (48+n)]:=by
 rw [Ev (by omega),wk8 (by omega)]
 unfold strOfNums ba
 have e:(48+(n:Int)).toNat=48+n:=by omega
 simp only [List.map_cons,List.map_nil,e]
theorem xJ (a b:List UInt8):ba a++ba b=ba (a++b):=by
 have h: ∀ {x y:ByteArray},x.data.toList=y.data.toList→x=y:=fun {x y} h=>by
  cases x;cases y;simp at h;rw [ByteArray.mk.injEq];exact h
 apply h
 rw [ByteArray.data_append,Array.toList_append,kY,kY,kY]
theorem Jl: ∀(k n:Nat),n<10 ^ (k+1)→(decDigits n).length≤k+1
 |0,n,h=>by rw [decDigits_one (by simpa using h)];simp
 |k+1,n,h=>by
  rw [decDigits]
  split
  ·simp
  ·have:=Jl k (n / 10) (by rw [Nat.pow_succ] at h;omega)
   simp;omega
theorem ab0: ∀(k n:Nat),n<10 ^ (k+1)→n<9223372036854775808→k<100→de ic (k+1) (n:Int)=some (ba (decDigits n)):=by
 intro k
 induction k with
 |zero=>
  intro n h h2 _
  have h:n<10:=by simpa using h
  show ic (de ic 0) (n:Int)=_
  rw [ic]
  rw [show av (n:Int) 0=false from decide_eq_false (by omega),show av (n:Int) 10=true from decide_eq_true (by omega),decDigits_one h,Gl h]
  rfl
 |succ k ih=>
  intro n h h2 hk
  show ic (de ic (k+1)) (n:Int)=_
  rw [ic]
  rw [show av (n:Int) 0=false from decide_eq_false (by omega)]
  by_cases h10:n<10
  ·rw [show av (n:Int) 10=true from decide_eq_true (by omega),decDigits_one h10,Gl h10];rfl
  ·rw [show av (n:Int) 10=false from decide_eq_false (by omega)]
   have e1:ax (Int.tdiv (n:Int) 10)=((n / 10:Nat):Int):=by
    rw [Int.tdiv_eq_ediv_of_nonneg (by omega),Ev (by omega)];rfl
   have e2:Int.tmod (n:Int) 10=((n % 10:Nat):Int):=by
    rw [Int.tmod_eq_emod_of_nonneg (by omega)];rfl
   have hlt:n / 10<10 ^ (k+1):=by rw [Nat.pow_succ] at h;omega
   have hl:=Jl k (n / 10) hlt
   rw [e1,e2,ih (n / 10) hlt (by omega) (by omega),Gl (n:=n % 10) (Nat.mod_lt _ (by decide))]
   have hs:Fk (ba (decDigits (n / 10))).size (ba [UInt8.ofNat (48+n % 10)]).size=true:=decide_eq_true (by rw [cE,cE];simp;omega)
   simp only [Bool.false_and,cond_false,Option.bind_some,hs,aa]
   rw [xJ]
   conv=>rhs;rw [decDigits,dif_neg h10]
theorem abZ {x:Int} {r:ByteArray} (h:aT x=some r):de ic 30 x=some r:=by
 obtain ⟨h1,h2⟩:=cY h
 injection h2 with h2
 have h1:0≤x∧x≤9223372036854775807:=of_decide_eq_true h1
 obtain ⟨n,rfl⟩: ∃n:Nat,x=n:=⟨x.toNat,by omega⟩
 rw [ab0 29 n (by have:(10:Nat) ^ 20≤10 ^ 30:=Nat.pow_le_pow_right (by decide) (by decide);omega) (by omega) (by decide),←h2]
 simp
theorem Yz {n:Nat} (h:n<9223372036854775808):aT (n:Int)=some (ba (decDigits n)):=by
 unfold aT
 rw [decide_eq_true (by omega),aa];simp
theorem OQ {n:Nat} (h:n<9223372036854775808):bU (n:Int)=some (ba (decDigits n)):=by
 unfold bU
 rw [decide_eq_true (by omega),aa,itoa_nonneg]
end Go.Proofs.YtjdlgannencchaaGreatDoor
