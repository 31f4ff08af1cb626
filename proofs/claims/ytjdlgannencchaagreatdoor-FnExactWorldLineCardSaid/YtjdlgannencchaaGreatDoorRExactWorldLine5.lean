/- Texts of the claim, one behind the other: Tr, Sum, Al, WkV, WvM, DkM, Hl, FlI, FlS, Bst, WkD, BsM, WrM, LnU, WkR, HlM, RsM, Draw, Yd, Sm, WdD, WdS, DaH, WdL, StTxD, LnV, LnW, LnX, LnE, DaO, Law. -/
import Derived.ChangeSame
import Derived.ChangeMaps5
import Derived.Carry
import Derived.Lib.SmallJoins
import Derived.JoinedOf
import Derived.Test.YtjdlgannencchaaGreatDoorRExactWorldLine4
namespace Go.Proofs.YtjdlgannencchaaGreatDoor
open Go.ChangeShapes Go.WideShapes Go.ChangeAt Go.RowKit
set_option linter.unusedVariables false
set_option linter.unusedSimpArgs false
set_option linter.unusedSectionVars false
theorem RS {σ Out:Type} (L:Nat→σ→Option Out) (R:Nat→σ→Prop) (n:Nat) (X:Prop) (fv:Option Out) (zp:σ→Option Out) (hn:n≤1099511627776)
 (hstep: ∀k fuel s,k<n→R k s→(X∧L (fuel+1) s=fv)∨(∃s',R (k+1) s'∧L (fuel+1) s=L fuel s')) (hend: ∀fuel s,R n s→L (fuel+1) s=zp s) (s:σ) (h0:R 0 s):
 (X∧L ai s=fv)∨ ∃s',R n s'∧L ai s=zp s':=by
 have go: ∀j k fuel s,k+j=n→j<fuel→R k s→(X∧L fuel s=fv)∨ ∃s',R n s'∧L fuel s=zp s':=by
  intro j
  induction j with
  |zero=>
   intro k fuel s hk hf hr
   obtain ⟨f,rfl⟩: ∃f,fuel=f+1:=⟨fuel-1,by omega⟩
   obtain rfl:k=n:=by omega
   exact .inr ⟨s,hr,hend f s hr⟩
  |succ j ih=>
   intro k fuel s hk hf hr
   obtain ⟨f,rfl⟩: ∃f,fuel=f+1:=⟨fuel-1,by omega⟩
   rcases hstep k f s (by omega) hr with h |⟨s',h1,h2⟩
   ·exact .inl h
   ·rw [h2];exact ih (k+1) f s' (by omega) (by omega) h1
 exact go n 0 ai s (by omega) (pF hn) h0
structure TI (B:Nat) (ls:List Ln) (on:List Bool) (pts:List (Int×Int)) (K:Nat) (feed parent:List Int) (ord:List Nat):Prop where
 lf:feed.length=B
 lp:parent.length=B
 nd:ord.Nodup
 lt: ∀b∈ord,b<B
 mem: ∀b,b<B→(b∈ord↔0≤feed.getD b 0)
 snd: ∀b∈ord,∃g,g<K∧aG pts g=true∧feed.getD b 0=(g:Int)∧Cn (av ls on) g b
 own: ∀g,g<K→aG pts g=true→g∈ord∧parent.getD g 0= -1
 out: ∀b,b<B→b∉ord→parent.getD b 0= -1
 par: ∀b∈ord,(aG pts b=true∧b<K)∨ ∃j c,parent.getD b 0=((j:Nat):Int)∧Lk ls on j b c∧c∈ord∧ord.idxOf c<ord.idxOf b
theorem Ek {l:List Nat} {a c:Nat} (h:a∈l):(l++ [c]).idxOf a=l.idxOf a:=by rw [List.idxOf_append,if_pos h]
theorem Ug {l:List Nat} {c:Nat} (h:c∉l):(l++ [c]).idxOf c=l.length:=by
 rw [List.idxOf_append,if_neg h];simp
theorem vR: ∀(B:Nat) (l:List Nat),l.Nodup→(∀b∈l,b<B)→l.length≤B
 |0,l,_,h=>by
  cases l with
  |nil=>simp
  |cons x l=>have:=h x (by simp);omega
 |B+1,l,hn,h=>by
  by_cases hm:B∈l
  ·have h1:=vR B (l.erase B) (hn.erase B) (fun b hb=>by
    have h2:=(hn.mem_erase_iff).1 hb
    have:=h b h2.2
    have:=h2.1
    omega)
   rw [List.length_erase_of_mem hm] at h1
   omega
  ·have h1:=vR B l hn (fun b hb=>by
    have:=h b hb
    have:b≠B:=fun e=>hm (e▸hb)
    omega)
   omega
theorem IB {l:List Nat} {c:Nat} (h:l.Nodup) (hc:c∉l):(l++ [c]).Nodup:=by
 rw [List.nodup_append]
 exact ⟨h,by simp,fun a ha b hb=>by obtain rfl:b=c:=by simpa using hb
                                    exact fun e=>hc (e▸ha)⟩
section
variable {B:Nat} {ls:List Ln} {on:List Bool} {pts:List (Int×Int)} {K:Nat} {feed parent:List Int} {ord:List Nat}
theorem TI.add (T:TI B ls on pts K feed parent ord) {f b c j:Nat} (hf:f<K) (hff:aG pts f=true) (hb:b∈ord) (hfb:Cn (av ls on) f b) (hl:Lk ls on j b c) (hc:c<B) (hn:c∉ord):TI B ls on pts K (feed.set c (f:Int)) (parent.set c (j:Int)) (ord++ [c]):=by
 have hcf:c<feed.length:=by rw [T.lf];exact hc
 have hcp:c<parent.length:=by rw [T.lp];exact hc
 have hne: ∀x∈ord,c≠x:=fun x hx e=>hn (e▸hx)
 refine ⟨by rw [List.length_set];exact T.lf,by rw [List.length_set];exact T.lp,IB T.nd hn,fun x hx=>?_,fun x hx=>?_,fun x hx=>?_,fun g hg hgf=>?_,fun x hx hxn=>?_,fun x hx=>?_⟩
 ·rcases List.mem_append.1 hx with hx |hx
  ·exact T.lt x hx
  ·obtain rfl:x=c:=by simpa using hx
   exact hc
 ·by_cases e:c=x
  ·subst e;rw [vi hcf];simp
  ·rw [fo e,←T.mem x hx];simp [Ne.symm e]
 ·rcases List.mem_append.1 hx with hx |hx
  ·rw [fo (hne x hx)];exact T.snd x hx
  ·obtain rfl:x=c:=by simpa using hx
   rw [vi hcf];exact ⟨f,hf,hff,rfl,hfb.trans hl.cn⟩
 ·have:=T.own g hg hgf
  rw [fo (hne g this.1)];exact ⟨by simp [this.1],this.2⟩
 ·have h1:x∉ord∧x≠c:=by simpa using hxn
  rw [fo (Ne.symm h1.2)];exact T.out x hx h1.1
 ·rcases List.mem_append.1 hx with hx |hx
  ·rw [fo (hne x hx)]
   rcases T.par x hx with h |⟨i,d,h1,h2,h3,h4⟩
   ·exact .inl h
   ·exact .inr ⟨i,d,h1,h2,by simp [h3],by rw [Ek h3,Ek hx];exact h4⟩
  ·obtain rfl:x=c:=by simpa using hx
   refine .inr ⟨j,b,vi hcp,?_,by simp [hb],?_⟩
   ·obtain ⟨h1,h2,h3⟩:=hl
    exact ⟨h1,h2,h3.symm⟩
   ·rw [Ek hb,Ug hn];exact List.idxOf_lt_length_iff.2 hb
theorem TI.start (T:TI B ls on pts K feed parent ord) (hK:K<B) (hff:aG pts K=true) (hn:K∉ord):TI B ls on pts (K+1) (feed.set K (K:Int)) parent (ord++ [K]):=by
 have hcf:K<feed.length:=by rw [T.lf];exact hK
 have hne: ∀x∈ord,K≠x:=fun x hx e=>hn (e▸hx)
 refine ⟨by rw [List.length_set];exact T.lf,T.lp,IB T.nd hn,fun x hx=>?_,fun x hx=>?_,fun x hx=>?_,fun g hg hgf=>?_,fun x hx hxn=>?_,fun x hx=>?_⟩
 ·rcases List.mem_append.1 hx with hx |hx
  ·exact T.lt x hx
  ·obtain rfl:x=K:=by simpa using hx
   exact hK
 ·by_cases e:K=x
  ·subst e;rw [vi hcf];simp
  ·rw [fo e,←T.mem x hx];simp [Ne.symm e]
 ·rcases List.mem_append.1 hx with hx |hx
  ·rw [fo (hne x hx)]
   obtain ⟨g,h1,h2⟩:=T.snd x hx
   exact ⟨g,by omega,h2⟩
  ·obtain rfl:x=K:=by simpa using hx
   rw [vi hcf];exact ⟨x,by omega,hff,rfl,.refl _⟩
 ·by_cases e:g=K
  ·subst e;exact ⟨by simp,T.out g hK hn⟩
  ·have:=T.own g (by omega) hgf
   exact ⟨by simp [this.1],this.2⟩
 ·have h1:x∉ord∧x≠K:=by simpa using hxn
  exact T.out x hx h1.1
 ·rcases List.mem_append.1 hx with hx |hx
  ·rcases T.par x hx with h |⟨i,d,h1,h2,h3,h4⟩
   ·exact .inl ⟨h.1,by omega⟩
   ·exact .inr ⟨i,d,h1,h2,by simp [h3],by rw [Ek h3,Ek hx];exact h4⟩
  ·obtain rfl:x=K:=by simpa using hx
   exact .inl ⟨hff,by omega⟩
theorem TI.skip (T:TI B ls on pts K feed parent ord) (hff:aG pts K=false):TI B ls on pts (K+1) feed parent ord:=by
 refine ⟨T.lf,T.lp,T.nd,T.lt,T.mem,fun x hx=>?_,fun g hg hgf=>?_,T.out,fun x hx=>?_⟩
 ·obtain ⟨g,h1,h2⟩:=T.snd x hx
  exact ⟨g,by omega,h2⟩
 ·have:g≠K:=fun e=>by rw [e,hff] at hgf;cases hgf
  exact T.own g (by omega) hgf
 ·rcases T.par x hx with h |h
  ·exact .inl ⟨h.1,by omega⟩
  ·exact .inr h
theorem TI.len (T:TI B ls on pts K feed parent ord):ord.length≤B:=by
 exact vR B ord T.nd T.lt
def Cl (ls:List Ln) (on:List Bool) (ord:List Nat) (m:Nat):Prop:= ∀i,i<m→ ∀j c,Lk ls on j (ord.getD i 0) c→c∈ord
theorem Cl.mem {m:Nat} (h:Cl ls on ord m) (hm:m=ord.length) {b c:Nat} (hb:b∈ord) (hc:Cn (av ls on) b c):c∈ord:=by
 induction hc with
 |refl=>exact hb
 | @step c d _ e ih=>
  obtain ⟨i,hi,rfl⟩:=List.mem_iff_getElem.1 ih
  have hl: ∃j,Lk ls on j ord[i] d:=by
   rcases e with e |e
   ·obtain ⟨j,h1,h2,h3⟩:=EF.1 e
    exact ⟨j,h1,h2,.inl h3.symm⟩
   ·obtain ⟨j,h1,h2,h3⟩:=EF.1 e
    exact ⟨j,h1,h2,.inr h3.symm⟩
  obtain ⟨j,hl⟩:=hl
  exact h i (by omega) j d (by rw [ac hi];exact hl)
end
section
variable {B:Nat} {ls:List Ln} {on:List Bool} {pts:List (Int×Int)} (h:StOk (B:Int) ls on)
include h
theorem NF {k b:Nat} (hk:k<ls.length): ∃z,fB (ls.getD k (0,0,0)).1 (ls.getD k (0,0,0)).2.1 (ls.getD k (0,0,0)).2.2 (b:Int)=some z∧((z= -1∧ ∀c,¬Lk ls on k b c)∨ ∃c,z=((c:Nat):Int)∧c<B∧(on.getD k false=true→Lk ls on k b c)∧ ∀d,Lk ls on k b d→d=c):=by
 have hl:=h.net.ln k hk
 have hln:=yG hl
 simp only [Int.toNat_natCast] at hln
 have hne:=hl.ne
 unfold fB
 rw [hln.1,hln.2.1] at hne ⊢
 have key: ∀d,Lk ls on k b d→((bQ (ls.getD k (0,0,0))).1=b∧(bQ (ls.getD k (0,0,0))).2=d)∨((bQ (ls.getD k (0,0,0))).1=d∧(bQ (ls.getD k (0,0,0))).2=b):=by
  rintro d ⟨_,_,h3⟩
  rcases h3 with h3 |h3<;>rw [h3]<;>simp
 by_cases e1:b=(bQ (ls.getD k (0,0,0))).1
 ·have:((b:Int)==(((bQ (ls.getD k (0,0,0))).1:Nat):Int))=true:=by rw [beq_iff_eq,←e1]
  rw [this]
  refine ⟨_,rfl,.inr ⟨_,rfl,hln.2.2.2,fun ho=>⟨hk,ho,.inl (by rw [e1])⟩,fun d hd=>?_⟩⟩
  rcases key d hd with g |g
  ·exact g.2.symm
  ·omega
 ·have e1':((b:Int)==(((bQ (ls.getD k (0,0,0))).1:Nat):Int))=false:=by rw [beq_eq_false_iff_ne];omega
  rw [e1',cond_false]
  by_cases e2:b=(bQ (ls.getD k (0,0,0))).2
  ·have:((b:Int)==(((bQ (ls.getD k (0,0,0))).2:Nat):Int))=true:=by rw [beq_iff_eq,←e2]
   rw [this]
   refine ⟨_,rfl,.inr ⟨_,rfl,hln.2.2.1,fun ho=>⟨hk,ho,.inr (by rw [e2])⟩,fun d hd=>?_⟩⟩
   rcases key d hd with g |g
   ·omega
   ·exact g.1.symm
  ·have e2':((b:Int)==(((bQ (ls.getD k (0,0,0))).2:Nat):Int))=false:=by rw [beq_eq_false_iff_ne];omega
   rw [e2',cond_false]
   refine ⟨_,rfl,.inl ⟨rfl,fun d hd=>?_⟩⟩
   rcases key d hd with g |g<;>omega
omit h in
theorem VM (l:List Nat) (c:Nat):zl l++ [(c:Int)]=zl (l++ [c]):=by simp [zl]
theorem Ub {F0 P0:List Int} (hF:F0.length=B) (hP:P0.length=B) {K f b from_:Nat} {feed parent:List Int} {ord:List Nat} (hf:f<K) (hff:aG pts f=true) (hb:ord.getD from_ 0=b) (hfr:from_<ord.length) (hfb:Cn (av ls on) f b) (T:TI B ls on pts K feed parent ord):
 ∃feed' parent' t,cC ls F0 P0 on (f:Int) ((from_:Int),feed,parent,zl ord) ai (0,feed,parent,zl ord)=some (feed',parent',zl (ord++t))∧TI B ls on pts K feed' parent' (ord++t)∧(∀j c,Lk ls on j b c→c∈ord++t)∧ ∀x∈t,Cn (av ls on) f x:=by
 have hll:=h.net.ll;have hl:=h.len;have hB:=h.net.b1
 have hbo:b∈ord:=by rw [←hb,ac hfr];exact List.getElem_mem hfr
 obtain ⟨s,⟨feed',parent',t,rfl,r1,r2,r3⟩,h2⟩:=vO (cC ls F0 P0 on (f:Int) ((from_:Int),feed,parent,zl ord))
  (fun k s=> ∃feed' parent' t,s=((k:Int),feed',parent',zl (ord++t))∧TI B ls on pts K feed' parent' (ord++t)∧(∀j,j<k→ ∀c,Lk ls on j b c→c∈ord++t)∧ ∀x∈t,Cn (av ls on) f x) ls.length (fun s=>some (s.2.1,s.2.2.1,s.2.2.2)) (by omega) (by
   rintro k fuel s hk ⟨feed',parent',t,rfl,r1,r2,r3⟩
   rw [pb,dZ]
   obtain ⟨z,z1,z2⟩:=NF h (b:=b) hk
   have hget:(zl ord).getD (from_:Int).toNat 0=(b:Int):=by rw [Int.toNat_natCast,sU,hb]
   simp only [au hk,ae hk,ae (show k<on.length by omega),aa,cond_true,Int.toNat_natCast,ab (by omega:k<4611686018427387904),sU,hb,z1,Option.bind_some,hF,hP]
   have hlen:=r1.len
   rcases z2 with ⟨rfl,z3⟩ |⟨c,rfl,hcB,z3,z4⟩
   ·have:aF 0 (-1)=false:=rfl
    simp only [this,Bool.and_false,Bool.false_and,Bool.not_false,Bool.true_or,aa,cond_false,Option.bind_some]
    refine ⟨_,⟨feed',parent',t,rfl,r1,fun j hj c hc=>?_,r3⟩,rfl⟩
    by_cases e:j=k
    ·subst e;exact absurd hc (z3 c)
    ·exact r2 j (by omega) c hc
   ·have hge:aF 0 (c:Int)=true:=by simp [aF]
    simp only [hge,ae hcB,Bool.and_true,Bool.or_true,aa,Int.toNat_natCast]
    by_cases hc:on.getD k false=true∧c∉ord++t
    ·have hcf:af (feed'.getD c 0) 0=true:=by
      have: ¬0≤feed'.getD c 0:=fun g=>hc.2 ((r1.mem c hcB).2 g)
      simp only [af,decide_eq_true_eq];omega
     have ha:bq (zl (ord++t)).length ([(c:Int)]:List Int).length=true:=by rw [bP];simp [bq];simp at hlen;omega
     simp only [hc.1,hcf,Bool.and_self,cond_true,ha,aa,Option.bind_some]
     rw [VM,List.append_assoc]
     have hlk:=z3 hc.1
     refine ⟨_,⟨_,_,t++ [c],rfl,?_,fun j hj d hd=>?_,fun x hx=>?_⟩,rfl⟩
     ·rw [←List.append_assoc]
      exact r1.add hf hff (by simp [hbo]) hfb hlk hcB hc.2
     ·by_cases e:j=k
      ·subst e;rw [z4 d hd];simp
      ·have:=r2 j (by omega) d hd
       rw [←List.append_assoc];exact List.mem_append_left _ this
     ·rcases List.mem_append.1 hx with hx |hx
      ·exact r3 x hx
      ·obtain rfl:x=c:=by simpa using hx
       exact hfb.trans hlk.cn
    ·have hcf:(on.getD k false&&af (feed'.getD c 0) 0)=false:=by
      cases ho:on.getD k false
      ·rfl
      ·have hm:c∈ord++t:=Classical.byContradiction fun hn=>hc ⟨ho,hn⟩
       have:=(r1.mem c hcB).1 hm
       simp only [Bool.true_and,af,decide_eq_false_iff_not];omega
     simp only [hcf,cond_false,Option.bind_some]
     refine ⟨_,⟨feed',parent',t,rfl,r1,fun j hj d hd=>?_,r3⟩,rfl⟩
     by_cases e:j=k
     ·subst e
      rw [z4 d hd]
      exact Classical.byContradiction fun hn=>hc ⟨hd.2.1,hn⟩
     ·exact r2 j (by omega) d hd) (by
   rintro fuel s ⟨feed',parent',t,rfl,r1,r2,r3⟩
   rw [pb,dZ];simp only [ak,cond_false]) (0,feed,parent,zl ord) ⟨feed,parent,[],by simp,by simpa using T,fun j hj=>absurd hj (Nat.not_lt_zero _),fun x hx=>by simp at hx⟩
 exact ⟨feed',parent',t,h2,r1,fun j c hc=>r2 j hc.1 c hc,r3⟩
theorem Ua {F0 P0:List Int} (hF:F0.length=B) (hP:P0.length=B) {K f n0:Nat} (hf:f<K) (hff:aG pts f=true): ∀(m from_ fuel:Nat) (feed parent:List Int) (ord:List Nat),B≤m+from_→m<fuel→n0≤from_→from_≤ord.length→(∀i,n0≤i→i<ord.length→Cn (av ls on) f (ord.getD i 0))→Cl ls on ord from_→TI B ls on pts K feed parent ord→
 ∃feed' parent' ord',eP ls F0 P0 on (f:Int) fuel ((from_:Int),feed,parent,zl ord)=some (feed',parent',zl ord')∧TI B ls on pts K feed' parent' ord'∧Cl ls on ord' ord'.length∧ ∀x∈ord,x∈ord':=by
 have hB:=h.net.b1
 intro m
 induction m with
 |zero=>
  intro from_ fuel feed parent ord h1 h2 h3 h4 h5 h6 T
  obtain ⟨g,rfl⟩: ∃g,fuel=g+1:=⟨fuel-1,by omega⟩
  have hlen:=T.len
  have e:from_=ord.length:=by omega
  rw [oZ,dY]
  have:af (from_:Int) ((zl ord).length:Int)=false:=by rw [bP,e];exact ak
  simp only [this,cond_false]
  exact ⟨feed,parent,ord,rfl,T,e▸h6,fun x hx=>hx⟩
 |succ m ih=>
  intro from_ fuel feed parent ord h1 h2 h3 h4 h5 h6 T
  obtain ⟨g,rfl⟩: ∃g,fuel=g+1:=⟨fuel-1,by omega⟩
  have hlen:=T.len
  rw [oZ,dY]
  by_cases e:from_=ord.length
  ·have:af (from_:Int) ((zl ord).length:Int)=false:=by rw [bP,e];exact ak
   simp only [this,cond_false]
   exact ⟨feed,parent,ord,rfl,T,e▸h6,fun x hx=>hx⟩
  ·have hlt:from_<ord.length:=by omega
   obtain ⟨feed',parent',t,r0,r1,r2,r3⟩:=Ub h hF hP hf hff rfl hlt (h5 from_ h3 hlt) T
   have hlen2:=r1.len
   simp only [bP,au hlt,ae hlt,cond_true,aa,r0,Option.bind_some,ab (by omega:from_<4611686018427387904)]
   have hget: ∀i,i<ord.length→(ord++t).getD i 0=ord.getD i 0:=fun i hi=>by simp [List.getD,List.getElem?_append_left hi]
   obtain ⟨feed2,parent2,ord2,s1,s2,s3,s4⟩:=ih (from_+1) g feed' parent' (ord++t) (by omega) (by omega) (by omega) (by simp;omega) (fun i hi1 hi2=>by
    by_cases hi:i<ord.length
    ·rw [hget i hi];exact h5 i hi1 hi
    ·rw [ac hi2,List.getElem_append_right (by omega)]
     exact r3 _ (List.getElem_mem _)) (fun i hi j c hc=>by
    rw [hget i (by omega)] at hc
    by_cases e2:i=from_
    ·subst e2;exact r2 j c hc
    ·exact List.mem_append_left _ (h6 i (by omega) j c hc)) r1
   exact ⟨feed2,parent2,ord2,s1,s2,s3,fun x hx=>s4 x (by simp [hx])⟩
theorem WM {K:Nat} {feed parent:List Int} {ord:List Nat} (hK:K<B) (hff:aG pts K=true) (hn:K∉ord) (hcl:Cl ls on ord ord.length) (T:TI B ls on pts K feed parent ord) (y:Int):
 ∃feed' parent' ord',jf y ls (feed.set K (K:Int)) parent (zl ord) on (K:Int)=some (y,feed',parent',zl ord')∧TI B ls on pts (K+1) feed' parent' ord'∧Cl ls on ord' ord'.length∧ ∀x∈ord++ [K],x∈ord':=by
 have hB:=h.net.b1
 have hlen:=T.len
 have T2:=T.start hK hff hn
 obtain ⟨feed',parent',ord',h1,h2,h3,h4⟩:=Ua h (F0:=feed.set K (K:Int)) (P0:=parent) T2.lf T2.lp (K:=K+1) (f:=K) (n0:=ord.length) (by omega) hff B ord.length ai (feed.set K (K:Int)) parent (ord++ [K]) (by omega) (pF (by omega)) (by omega) (by simp) (fun i hi1 hi2=>by
  have:i=ord.length:=by simp at hi2;omega
  subst this
  rw [ac hi2];simp;exact .refl _) (fun i hi j c hc=>by
  have:(ord++ [K]).getD i 0=ord.getD i 0:=by simp [List.getD,List.getElem?_append_left hi]
  rw [this] at hc
  exact List.mem_append_left _ (hcl i hi j c hc)) T2
 refine ⟨feed',parent',ord',?_,h2,h3,h4⟩
 unfold jf
 have ha:bq (zl ord).length ([(K:Int)]:List Int).length=true:=by rw [bP];simp [bq];omega
 rw [ha,aa,VM,bP,h1];rfl
end
structure TreeOk (ls:List Ln) (on:List Bool) (pts:List (Int×Int)) (feed parent:List Int) (ord:List Nat):Prop where
 lf:feed.length=pts.length
 lp:parent.length=pts.length
 nd:ord.Nodup
 mem: ∀b,b∈ord↔b<pts.length∧gK (av ls on) pts b=true
 fd: ∀b f,b<pts.length→(feed.getD b 0=((f:Nat):Int)↔aG pts f=true∧Cn (av ls on) f b)
 par:Par ls on pts (fun b=>parent.getD b (-1)) (fun b=>ord.idxOf b)
theorem TI.tree {ls:List Ln} {on:List Bool} {pts:List (Int×Int)} {feed parent:List Int} {ord:List Nat} (T:TI pts.length ls on pts pts.length feed parent ord) (hcl:Cl ls on ord ord.length) (hnj: ∀f g,aG pts f=true→aG pts g=true→Cn (av ls on) f g→f=g):TreeOk ls on pts feed parent ord:=by
 have hmem: ∀b,b∈ord↔b<pts.length∧gK (av ls on) pts b=true:=by
  intro b
  constructor
  ·intro hb
   obtain ⟨g,h1,h2,_,h3⟩:=T.snd b hb
   exact ⟨T.lt b hb,mB.2 ⟨g,h2,h3⟩⟩
  ·rintro ⟨hb,hf⟩
   obtain ⟨f,h1,h2⟩:=mB.1 hf
   exact hcl.mem rfl (T.own f (qo h1) h1).1 h2
 have hd: ∀b,b<pts.length→parent.getD b (-1)=parent.getD b 0:=fun b hb=>by rw [ac (by rw [T.lp];exact hb),ac (by rw [T.lp];exact hb)]
 refine ⟨T.lf,T.lp,T.nd,hmem,fun b f hb=>?_,⟨fun b hb hf=>?_,fun b hb=>?_,fun b hb=>?_⟩⟩
 ·constructor
  ·intro e
   obtain ⟨g,h1,h2,h3,h4⟩:=T.snd b ((T.mem b hb).2 (by rw [e];omega))
   have:f=g:=by rw [e] at h3;omega
   subst this;exact ⟨h2,h4⟩
  ·rintro ⟨h1,h2⟩
   obtain ⟨g,g1,g2,g3,g4⟩:=T.snd b ((hmem b).2 ⟨hb,mB.2 ⟨f,h1,h2⟩⟩)
   rw [g3,hnj f g h1 g2 (h2.trans g4.symm)]
 ·rw [hd b hb]
  rcases T.par b ((hmem b).2 ⟨hb,hf⟩) with g |⟨j,c,g,_⟩
  ·exact .inl g.1
  ·exact .inr (by rw [g];omega)
 ·have hlt:=qo hb
  rw [hd b hlt,(T.own b hlt hb).2];omega
 ·have hlt:b<pts.length:=by
   rcases Nat.lt_or_ge b pts.length with h1 |h1
   ·exact h1
   ·rw [List.getD_eq_getElem?_getD,List.getElem?_eq_none (by rw [T.lp];exact h1)] at hb;simp at hb
  rw [hd b hlt] at hb ⊢
  have hbo:b∈ord:=Classical.byContradiction fun hn=>by rw [T.out b hlt hn] at hb;omega
  rcases T.par b hbo with g |⟨j,c,g1,g2,g3,g4⟩
  ·rw [(T.own b g.2 g.1).2] at hb;omega
  ·rw [g1]
   exact ⟨c,by simpa using g2,T.lt c g3,((hmem c).1 g3).2,g4⟩
theorem acB {pts:List (Int×Int)} {b:Int} {ls:List Ln} (h:BusOk b ls pts) {k:Nat} (hk:k<pts.length):((pts.getD k (0,0)).1==0)= !aG pts k:=by
 have:=(h.bs k hk).1
 unfold aG
 rw [Bool.eq_iff_iff];simp only [beq_iff_eq,Bool.not_eq_true',decide_eq_false_iff_not];omega
theorem Ue (b:Int) (ls:List Ln) (on:List Bool) (pts:List (Int×Int)) (hp:pts.length≤1048576):
 ∃r,jX b ls on pts=some r∧r.2.2.2.2.2=vX b ls on pts∧(vX b ls on pts=true→r.1=b∧r.2.1=true∧ ∃ord,r.2.2.2.2.1=zl ord∧TreeOk ls on pts r.2.2.1 r.2.2.2.1 ord):=by
 unfold jX vX
 rw [WL b ls pts hp,Option.bind_some]
 cases hv:NC b ls on pts
 ·exact ⟨_,rfl,rfl,fun e=>by cases e⟩
 obtain ⟨h1,h2⟩:=fc.1 hv
 have hlp:=h2.lp
 subst hlp
 rw [aeS h1]
 simp only [Bool.not_true,Bool.not_false,ca,Option.bind_some,Bool.false_or,Bool.true_and]
 unfold mH
 rw [←YP h1.len]
 cases hc:OL ls on
 case true=>exact ⟨_,rfl,rfl,fun e=>by cases e⟩
 have hB:=h1.net.b1
 have hm:uA (pts.length:Int)=true:=by simp [uA];omega
 simp only [cond_false,hm,aa,Int.toNat_natCast,Bool.not_false,Bool.true_and]
 have hl1:iG (pts.length:Int) ai (0,List.replicate pts.length 0,List.replicate pts.length 0)=some (List.replicate pts.length (-1),List.replicate pts.length (-1)):=by
  have hh:=ax (iG (pts.length:Int)) (fun k=>((k:Int),List.replicate k (-1)++List.replicate (pts.length-k) 0,List.replicate k (-1)++List.replicate (pts.length-k) 0)) pts.length (some (List.replicate pts.length (-1),List.replicate pts.length (-1))) (by omega) (fun k fuel hk=>?_) (fun fuel=>?_)
  ·simpa using hh
  ·rw [uR,kr]
   simp only [au hk,Int.toNat_natCast,ae hk,cond_true,aa,ab (by omega:k<4611686018427387904)]
   have e:(List.replicate k (-1:Int)++List.replicate (pts.length-k) 0).set k (-1)=List.replicate (k+1) (-1)++List.replicate (pts.length-(k+1)) 0:=by
    rw [List.set_append_right _ _ (by simp),List.length_replicate,Nat.sub_self,show pts.length-k=(pts.length-(k+1))+1 by omega,List.replicate_succ,List.set_cons_zero,List.replicate_succ',List.append_assoc];rfl
   rw [e]
  ·rw [uR,kr]
   simp only [ak,cond_false,Nat.sub_self,List.replicate_zero,List.append_nil]
 rw [hl1,Option.bind_some]
 have hget: ∀k,k<pts.length→(List.replicate pts.length (-1:Int)).getD k 0= -1:=fun k hk=>by simp [List.getD,hk]
 have hT0:TI pts.length ls on pts 0 (List.replicate pts.length (-1)) (List.replicate pts.length (-1)) []:=
  ⟨by simp,by simp,by simp,fun b hb=>by simp at hb,fun b hb=>by rw [hget b hb];simp,fun b hb=>by simp at hb,fun g hg=>absurd hg (Nat.not_lt_zero _),fun b hb _=>hget b hb,fun b hb=>by simp at hb⟩
 have hh:=RS (lO ls on pts) (fun k s=> ∃feed parent ord,s=((k:Int),(pts.length:Int),feed,parent,zl ord)∧TI pts.length ls on pts k feed parent ord∧Cl ls on ord ord.length∧ ∀f g,f<k→g<k→aG pts f=true→aG pts g=true→Cn (av ls on) f g→f=g) pts.length
  (PW (av ls on) pts=true) (some (Sum.inr (0,false,([]:List Int),([]:List Int),([]:List Int),false))) (fun s=>some (Sum.inl (s.2.1,s.2.2.1,s.2.2.2.1,s.2.2.2.2))) (by omega) ?_ ?_ (0,(pts.length:Int),List.replicate pts.length (-1),List.replicate pts.length (-1),([]:List Int)) ⟨_,_,[],rfl,hT0,fun i hi=>absurd hi (Nat.not_lt_zero _),fun f g hf=>absurd hf (Nat.not_lt_zero _)⟩
 ·rcases hh with ⟨x1,x2⟩ |⟨s,⟨feed,parent,ord,rfl,t1,t2,t3⟩,x2⟩
  ·rw [x2,x1]
   exact ⟨_,rfl,rfl,fun e=>by cases e⟩
  ·rw [x2]
   have hnj: ∀f g,aG pts f=true→aG pts g=true→Cn (av ls on) f g→f=g:=fun f g hf hg=>t3 f g (qo hf) (qo hg) hf hg
   rw [Jb.2 hnj]
   exact ⟨_,rfl,rfl,fun _=>⟨rfl,rfl,ord,rfl,t1.tree t2 hnj⟩⟩
 ·rintro k fuel s hk ⟨feed,parent,ord,rfl,t1,t2,t3⟩
  rw [uS,kv]
  simp only [au hk,ae hk,cond_true,aa,Int.toNat_natCast,ab (by omega:k<4611686018427387904),acB h2 hk]
  cases hf:aG pts k
  ·right
   simp only [Bool.not_false,cond_true,Option.bind_some,Sum.elim_inl]
   refine ⟨_,⟨feed,parent,ord,rfl,t1.skip hf,t2,fun f g hfk hgk hff hgf=>?_⟩,rfl⟩
   have e1:f≠k:=fun e=>by rw [e,hf] at hff;cases hff
   have e2:g≠k:=fun e=>by rw [e,hf] at hgf;cases hgf
   exact t3 f g (by omega) (by omega) hff hgf
  ·have hx:aq (k:Int) feed.length=true:=by rw [t1.lf];exact ae hk
   simp only [Bool.not_true,cond_false,hx,aa]
   by_cases hko:k∈ord
   ·left
    have h0:=(t1.mem k hk).1 hko
    have:aF 0 (feed.getD k 0)=true:=by simpa [aF] using h0
    simp only [this,cond_true,Option.bind_some,Sum.elim_inr]
    refine ⟨?_,trivial⟩
    obtain ⟨g,g1,g2,_,g4⟩:=t1.snd k hko
    cases htw:PW (av ls on) pts
    ·have:=Jb.1 htw g k g2 hf g4;omega
    ·rfl
   ·right
    have h0: ¬0≤feed.getD k 0:=fun g=>hko ((t1.mem k hk).2 g)
    have:aF 0 (feed.getD k 0)=false:=by simp only [aF,decide_eq_false_iff_not];exact h0
    obtain ⟨feed',parent',ord',s1,s2,s3,s4⟩:=WM h1 hk hf hko t2 t1 (pts.length:Int)
    simp only [this,cond_false,s1,Option.bind_some,Sum.elim_inl]
    refine ⟨_,⟨feed',parent',ord',rfl,s2,s3,fun f g hfk hgk hff hgf hcn=>?_⟩,rfl⟩
    have key: ∀a,a<k→aG pts a=true→ ¬Cn (av ls on) a k:=fun a ha hfa hcn=>hko (t2.mem rfl (t1.own a ha hfa).1 hcn)
    by_cases e1:f=k
    ·by_cases e2:g=k
     ·omega
     ·exact absurd (e1▸hcn).symm (key g (by omega) hgf)
    ·by_cases e2:g=k
     ·exact absurd (e2▸hcn) (key f (by omega) hff)
     ·exact t3 f g (by omega) (by omega) hff hgf hcn
 ·rintro fuel s ⟨feed,parent,ord,rfl,t1,t2,t3⟩
  rw [uS,kv];simp only [ak,cond_false]
theorem QA (b:Int) (ls:List Ln) (on:List Bool) (pts:List (Int×Int)) (hp:pts.length≤1048576):gN b ls on pts=some (vX b ls on pts):=by
 obtain ⟨r,h1,h2,_⟩:=Ue b ls on pts hp
 unfold gN
 rw [h1,Option.bind_some,h2]
theorem Hl (b:Int) (ls:List Ln) (on:List Bool) (pts:List (Int×Int)) (hp:pts.length≤1048576):ei b ls on pts=some (vX b ls on pts):=by
 unfold ei vX
 rw [Ss b ls pts hp,Option.bind_some]
 cases hv:NC b ls on pts
 ·rfl
 obtain ⟨h1,h2⟩:=fc.1 hv
 have hlp:=h2.lp
 subst hlp
 have hB:=h1.net.b1
 rw [ae1 h1]
 simp only [Bool.not_true,Bool.not_false,ca,Option.bind_some,Bool.false_or,Bool.true_and]
 unfold mH
 cases hc:OM ls on
 case true=>rfl
 simp only [cond_false,Bool.not_false,Bool.true_and]
 have hh:=bU (iL (pts.length:Int) ls on pts) (fun k=>(k:Int)) pts.length (fun k=>(List.range k).any fun j=>aG pts k&&aG pts j&&aO (av ls on) j==aO (av ls on) k) (some (.inr false)) (some (.inl ())) (by omega) (fun k fuel hk=>?_) (fun fuel=>?_)
 ·rw [show iL (pts.length:Int) ls on pts ai 0=_ from hh]
  show _=some (!PW (av ls on) pts)
  unfold PW
  cases (List.range pts.length).any _<;>rfl
 ·rw [uX,kL]
  have h3:=bU (iM (pts.length:Int) ls on pts (k:Int)) (fun j=>(j:Int)) k (fun j=>aG pts k&&aG pts j&&aO (av ls on) j==aO (av ls on) k) (some (.inr false)) (some (.inl ())) (by omega) (fun j fuel hj=>?_) (fun fuel=>?_)
  ·simp only [au hk,cond_true,ab (by omega:k<4611686018427387904)]
   rw [show iM (pts.length:Int) ls on pts (k:Int) ai 0=_ from h3]
   cases (List.range k).any _<;>rfl
  ·rw [uY,kM]
   have hj2:j<pts.length:=by omega
   simp only [au hj,ae hk,ae hj2,cond_true,aa,Bool.or_true,Int.toNat_natCast,ab (by omega:j<4611686018427387904),Yv h1 hj2 hk]
   rw [show af 0 (pts.getD k (0,0)).1=aG pts k from rfl,show af 0 (pts.getD j (0,0)).1=aG pts j from rfl]
   cases aG pts k<;>cases aG pts j<;>cases aO (av ls on) j==aO (av ls on) k<;>rfl
  ·rw [uY,kM];simp only [ak,cond_false]
 ·rw [uX,kL];simp only [ak,cond_false]
theorem nE {Out:Type} (L:Nat→(List Int×Int)→Option Out) (n:Nat) (p:Nat→Bool) (zp:List Int→Option Out) (hn:n≤1099511627775) (hstep: ∀k fuel (l:List Int),k<n→bq l.length ([(k:Int)]:List Int).length=true→L (fuel+1) (l,(k:Int))=L fuel (bif p k then l++ [(k:Int)] else l,((k+1:Nat):Int)))
 (hend: ∀fuel (l:List Int),L (fuel+1) (l,(n:Int))=zp l):L ai (([]:List Int),0)=zp (zl ((List.range n).filter p)):=by
 have hh:=ax L (fun k=>(zl ((List.range k).filter p),(k:Int))) n (zp (zl ((List.range n).filter p))) (by omega) (fun k fuel hk=>?_) (fun fuel=>hend fuel _)
 ·exact hh
 ·have hl:=List.length_filter_le p (List.range k)
  rw [List.length_range] at hl
  rw [hstep k fuel _ hk (by rw [bP];simp [bq];omega),List.range_succ,List.filter_append,List.filter_cons,List.filter_nil]
  congr 2
  cases p k<;>simp [zl]
theorem PR (l:List Nat) (p:Nat→Bool) (f:Nat→Int):((l.filter p).map f).sum=(l.map fun c=>if p c=true then f c else 0).sum:=by
 induction l with
 |nil=>rfl
 |cons x l ih=>
  rw [List.filter_cons,List.map_cons,List.sum_cons,←ih]
  split
  ·rename_i h;rw [List.map_cons,List.sum_cons]
  ·rename_i h;omega
def mw (E:Ed) (pts:List (Int×Int)) (f:Int×Int→Int) (k j:Nat):Int:=((List.range k).map fun c=>if aO E c=j then f (pts.getD c (0,0)) else 0).sum
theorem Vv (E:Ed) (pts:List (Int×Int)) (f:Int×Int→Int) (j:Nat):mw E pts f 0 j=0:=rfl
theorem Mn (E:Ed) (pts:List (Int×Int)) (f:Int×Int→Int) (k j:Nat):mw E pts f (k+1) j=mw E pts f k j+(if aO E k=j then f (pts.getD k (0,0)) else 0):=by
 unfold mw
 rw [List.range_succ,List.map_append,List.sum_append];simp
theorem PQ (E:Ed) (pts:List (Int×Int)) (f:Int×Int→Int) (b:Nat):cK E pts f b=mw E pts f pts.length (aO E b):=rfl
theorem wG (E:Ed) (pts:List (Int×Int)) (f:Int×Int→Int) (hf: ∀c,c<pts.length→0≤f (pts.getD c (0,0))∧f (pts.getD c (0,0))≤999) (j:Nat): ∀k,k≤pts.length→0≤mw E pts f k j∧mw E pts f k j≤999*k
 |0,_=>by rw [Vv];omega
 |k+1,hk=>by
  have ih:=wG E pts f hf j k (by omega)
  have:=hf k (by omega)
  rw [Mn]
  split<;>omega
theorem Zh (S:Nat→Int) {r:Nat} (hr:r<8):([S 0,S 1,S 2,S 3,S 4,S 5,S 6,S 7]:List Int).getD r 0=S r:=by
 match r,hr with
 |0,_=>rfl
 |1,_=>rfl
 |2,_=>rfl
 |3,_=>rfl
 |4,_=>rfl
 |5,_=>rfl
 |6,_=>rfl
 |7,_=>rfl
theorem zu {S T:Nat→Int} {r j:Nat} {z x y:Int} (hT:T j=S j+(if r=j then x else 0)) (hz:z=(j:Int)) (hy:y=S r+x):(bif ((r:Nat):Int)==z then y else S j)=T j:=by
 subst hz
 rw [hT,hy]
 by_cases h:r=j
 ·subst h;simp
 ·have:(((r:Nat):Int)==((j:Nat):Int))=false:=by rw [beq_eq_false_iff_ne];omega
  rw [this,if_neg h];simp
abbrev T16:=Int×Int×Int×Int×Int×Int×Int×Int×Int×Int×Int×Int×Int×Int×Int×Int
def Vy (S T:Nat→Int):T16:=(S 0,S 1,S 2,S 3,S 4,S 5,S 6,S 7,T 0,T 1,T 2,T 3,T 4,T 5,T 6,T 7)
section
variable {b:Int} {ls:List Ln} {on:List Bool} (h:StOk b ls on)
include h
theorem Uf: ∃u,lq b ls on=some (zl u)∧UR u b.toNat (aO (av ls on)):=by
 have hb:=h.net.b0;have hb1:=h.net.b1;have hll:=h.net.ll;have hl:=h.len
 obtain ⟨B,rfl⟩: ∃B:Nat,b=(B:Int):=⟨b.toNat,by omega⟩
 obtain ⟨n1,n2⟩:=acS (B:=B) (by omega)
 obtain ⟨s,⟨u,rfl,hu⟩,h2⟩:=vO (kz ls on) (fun k s=> ∃u,s=(zl u,(k:Int))∧UR u B (aO (vU ((ls.zip on).take k)))) ls.length (fun s=>some s.1) (by omega) (by
  rintro k fuel s hk ⟨u,rfl,hu⟩
  rw [tz,jg]
  have hln:=yG (h.net.ln k hk)
  simp only [Int.toNat_natCast] at hln
  simp only [au hk,ae hk,ae (show k<on.length by omega),aa,cond_true,Int.toNat_natCast,ab (by omega:k<4611686018427387904)]
  rw [hln.1,hln.2.1]
  cases ho:on.getD k false
  ·refine ⟨_,⟨u,rfl,?_⟩,rfl⟩
   rw [wL h hk,ho];exact hu
  ·obtain ⟨x,j1,j2⟩:=Yc hu (by omega) hln.2.2.1 hln.2.2.2
   simp only [cond_true,j1,Option.bind_some]
   refine ⟨_,⟨x,rfl,?_⟩,rfl⟩
   rw [wL h hk,ho,if_pos rfl,zd];exact j2) (by
  rintro fuel s ⟨u,rfl,hu⟩
  rw [tz,jg];simp only [ak,cond_false]) (zl (List.range B),0) ⟨_,rfl,n2⟩
 refine ⟨u,?_,?_⟩
 ·unfold lq
  rw [n1,Option.bind_some,h2];rfl
 ·rw [Mr h] at hu
  simpa using hu
variable {pts:List (Int×Int)} (hB:BusOk b ls pts)
include hB
omit h in
theorem JV:pts.length≤8∧b.toNat=pts.length:=by have:=hB.net.b1;have:=hB.lp;omega
set_option maxHeartbeats 1000000 in
theorem Ye:mE b ls on pts=some (Vy (mw (av ls on) pts (·.1) pts.length) (mw (av ls on) pts (·.2) pts.length)):=by
 obtain ⟨u,u1,u2⟩:=Uf h
 obtain ⟨b1,b2⟩:=JV hB
 rw [b2] at u2
 unfold mE
 rw [u1,Option.bind_some]
 have hf1: ∀c,c<pts.length→0≤(pts.getD c (0,0)).1∧(pts.getD c (0,0)).1≤999:=fun c hc=>(hB.bs c hc).1
 have hf2: ∀c,c<pts.length→0≤(pts.getD c (0,0)).2∧(pts.getD c (0,0)).2≤999:=fun c hc=>(hB.bs c hc).2
 obtain ⟨s,⟨v,rfl,hv⟩,h2⟩:=vO (iF pts) (fun k s=> ∃v,s=(zl v,(k:Int),Vy (mw (av ls on) pts (·.1) k) (mw (av ls on) pts (·.2) k))∧UR v pts.length (aO (av ls on))) pts.length (fun s=>some s.2.2) (by omega) (by
  rintro k fuel s hk ⟨v,rfl,hv⟩
  rw [uQ,kq]
  obtain ⟨x,x1,x2⟩:=FK hv (by omega) hk
  have hr:aO (av ls on) k<8:=by have:=hv.le hk;omega
  have k1:=wG (av ls on) pts (·.1) hf1 (aO (av ls on) k) k (by omega)
  have k2:=wG (av ls on) pts (·.2) hf2 (aO (av ls on) k) k (by omega)
  have p1:=hf1 k hk
  have p2:=hf2 k hk
  have w1:az (mw (av ls on) pts (·.1) k (aO (av ls on) k)+(pts.getD k (0,0)).1)=mw (av ls on) pts (·.1) k (aO (av ls on) k)+(pts.getD k (0,0)).1:=bC (by omega) (by omega)
  have w2:az (mw (av ls on) pts (·.2) k (aO (av ls on) k)+(pts.getD k (0,0)).2)=mw (av ls on) pts (·.2) k (aO (av ls on) k)+(pts.getD k (0,0)).2:=bC (by omega) (by omega)
  dsimp only [Vy]
  simp only [au hk,ae hk,aa,cond_true,Int.toNat_natCast,ab (by omega:k<4611686018427387904),x1,Option.bind_some,ae hr,Zh _ hr,w1,w2]
  have s1:=fun j=>Mn (av ls on) pts (·.1) k j
  have s2:=fun j=>Mn (av ls on) pts (·.2) k j
  refine ⟨(zl x,((k+1:Nat):Int),Vy (mw (av ls on) pts (·.1) (k+1)) (mw (av ls on) pts (·.2) (k+1))),⟨x,rfl,x2⟩,?_⟩
  dsimp only [Vy]
  rw [zu (s1 0) (show (0:Int)=((0:Nat):Int) from rfl) rfl,zu (s1 1) (show (1:Int)=((1:Nat):Int) from rfl) rfl,zu (s1 2) (show (2:Int)=((2:Nat):Int) from rfl) rfl,zu (s1 3) (show (3:Int)=((3:Nat):Int) from rfl) rfl,
   zu (s1 4) (show (4:Int)=((4:Nat):Int) from rfl) rfl,zu (s1 5) (show (5:Int)=((5:Nat):Int) from rfl) rfl,zu (s1 6) (show (6:Int)=((6:Nat):Int) from rfl) rfl,zu (s1 7) (show (7:Int)=((7:Nat):Int) from rfl) rfl,
   zu (s2 0) (show (0:Int)=((0:Nat):Int) from rfl) rfl,zu (s2 1) (show (1:Int)=((1:Nat):Int) from rfl) rfl,zu (s2 2) (show (2:Int)=((2:Nat):Int) from rfl) rfl,zu (s2 3) (show (3:Int)=((3:Nat):Int) from rfl) rfl,
   zu (s2 4) (show (4:Int)=((4:Nat):Int) from rfl) rfl,zu (s2 5) (show (5:Int)=((5:Nat):Int) from rfl) rfl,zu (s2 6) (show (6:Int)=((6:Nat):Int) from rfl) rfl,zu (s2 7) (show (7:Int)=((7:Nat):Int) from rfl) rfl]) (by
  rintro fuel s ⟨v,rfl,hv⟩
  rw [uQ,kq];simp only [ak,cond_false]) (zl u,0,Vy (fun _=>0) (fun _=>0)) ⟨u,rfl,u2⟩
 rw [show iF pts ai (zl u,0,0,0,0,0,0,0,0,0,0,0,0,0,0,0,0,0)=_ from h2]
 rfl
end
theorem KC {E:Ed} {pts:List (Int×Int)} {b:Nat} (f:Int×Int→Int):((qI E pts.length b).map fun c=>f (pts.getD c (0,0))).sum=cK E pts f b:=by
 unfold qI cK
 rw [PR]
 refine qw fun c hc=>?_
 by_cases h:aO E c=aO E b
 ·rw [if_pos (by rw [h];simp),if_pos h]
 ·rw [if_neg (by simpa using Ne.symm h),if_neg h]
theorem zW {l:List Nat} {f:Nat→Int} {k:Nat} (hk:k<l.length):((l.take (k+1)).map f).sum=((l.take k).map f).sum+f (l.getD k 0):=by
 rw [List.take_succ_eq_append_getElem hk,List.map_append,List.sum_append,ac hk];simp
theorem Ru (l:List Nat) (f:Nat→Int) (hf: ∀c∈l,0≤f c∧f c≤999):0≤(l.map f).sum∧(l.map f).sum≤999*l.length:=by
 induction l with
 |nil=>simp
 |cons x l ih=>
  have h1:=ih fun c hc=>hf c (by simp [hc])
  have h2:=hf x (by simp)
  simp only [List.map_cons,List.sum_cons,List.length_cons]
  omega
section
variable {ls:List Ln} {on:List Bool} {pts:List (Int×Int)} (h1:StOk (pts.length:Int) ls on) (h2:BusOk (pts.length:Int) ls pts)
include h1 h2
theorem Ob {k:Nat} (hk:k<pts.length):gh (pts.length:Int) ls on pts (k:Int)=some (cK (av ls on) pts (·.1) k):=by
 have hB:=h1.net.b1
 unfold gh am
 have w1:az ((pts.length:Int)-1)=(pts.length:Int)-1:=bC (by omega) (by omega)
 have c1:(aF 0 (k:Int)&&aF (k:Int) ((pts.length:Int)-1))=true:=by simp [aF];omega
 rw [Ss _ ls pts (by omega),fc.2 ⟨h1,h2⟩,Option.bind_some,w1,c1]
 simp only [Bool.not_true,Bool.not_false,ca,Option.bind_some,Bool.or_self,cond_false,IT h1 hk]
 rw [←KC]
 have hl:=Du (av ls on) pts.length k
 have hm: ∀c∈qI (av ls on) pts.length k,c<pts.length:=fun c hc=>by have:=(List.mem_filter.1 hc).1;simpa using this
 generalize qI (av ls on) pts.length k=l at*
 have hh:=ax (cW pts (zl l)) (fun j=>(((l.take j).map fun c=>(pts.getD c (0,0)).1).sum,(j:Int))) l.length (some ((l.map fun c=>(pts.getD c (0,0)).1).sum)) (by omega) (fun j fuel hj=>?_) (fun fuel=>?_)
 ·rw [show cW pts (zl l) ai (0,0)=_ from hh];rfl
 ·rw [qj,eX]
  have hc:l.getD j 0<pts.length:=hm _ (by rw [ac hj];exact List.getElem_mem hj)
  have hb:=Ru (l.take j) (fun c=>(pts.getD c (0,0)).1) (fun c hc=>(h2.bs c (hm c (List.mem_of_mem_take hc))).1)
  have hlen:(l.take j).length=j:=by rw [List.length_take];omega
  have hx:=(h2.bs _ hc).1
  rw [hlen] at hb
  have w2:az (((l.take j).map fun c=>(pts.getD c (0,0)).1).sum+(pts.getD (l.getD j 0) (0,0)).1)=((l.take j).map fun c=>(pts.getD c (0,0)).1).sum+(pts.getD (l.getD j 0) (0,0)).1:=bC (by omega) (by omega)
  simp only [bP,au hj,ae hj,cond_true,aa,Int.toNat_natCast,sU,ae hc,w2,ab (by omega:j<4611686018427387904)]
  rw [zW hj]
 ·rw [qj,eX];simp only [bP,ak,cond_false,List.take_length]
end
def um (E:Ed) (pts:List (Int×Int)):List Nat:=(List.range pts.length).filter fun b=>af 0 (cK E pts (·.1) b)
theorem Zk (b:Int) (ls:List Ln) (on:List Bool) (pts:List (Int×Int)) (hp:pts.length≤1048576):ke b ls on pts=some (if NC b ls on pts then zl (um (av ls on) pts) else []):=by
 unfold ke
 rw [WL b ls pts hp,Option.bind_some]
 cases hv:NC b ls on pts
 ·rfl
 obtain ⟨h1,h2⟩:=fc.1 hv
 obtain ⟨b1,b2⟩:=JV h2
 obtain ⟨u,u1,u2⟩:=Uf h1
 rw [b2] at u2
 simp only [cond_true,u1,Option.bind_some,Ye h1 h2,if_true]
 obtain ⟨s,⟨v,rfl,hv⟩,hh⟩:=vO (fu pts (Vy (mw (av ls on) pts (·.1) pts.length) (mw (av ls on) pts (·.2) pts.length))) (fun k s=> ∃v,s=(zl v,zl ((List.range k).filter fun b=>af 0 (cK (av ls on) pts (·.1) b)),(k:Int))∧UR v pts.length (aO (av ls on))) pts.length (fun s=>some s.2.1) (by omega) (by
  rintro k fuel s hk ⟨v,rfl,hv⟩
  rw [qa,eH]
  obtain ⟨x,x1,x2⟩:=FK hv (by omega) hk
  have hr:aO (av ls on) k<8:=by have:=hv.le hk;omega
  have hl:=List.length_filter_le (fun b=>af 0 (cK (av ls on) pts (·.1) b)) (List.range k)
  rw [List.length_range] at hl
  have ha:bq (zl ((List.range k).filter fun b=>af 0 (cK (av ls on) pts (·.1) b))).length ([(k:Int)]:List Int).length=true:=by rw [bP];simp [bq];omega
  dsimp only [Vy]
  simp only [au hk,cond_true,Int.toNat_natCast,ab (by omega:k<4611686018427387904),x1,Option.bind_some,ae hr,aa,Zh _ hr,ha]
  refine ⟨_,⟨x,rfl,x2⟩,?_⟩
  rw [List.range_succ,List.filter_append,List.filter_cons,List.filter_nil,PQ]
  cases hc:af 0 (mw (av ls on) pts (·.1) pts.length (aO (av ls on) k))
  ·simp
  ·simp [zl]) (by
  rintro fuel s ⟨v,rfl,hv⟩
  rw [qa,eH];simp only [ak,cond_false]) (zl u,([]:List Int),0) ⟨u,rfl,u2⟩
 rw [hh];rfl
section
variable {ls:List Ln} {on:List Bool} {pts:List (Int×Int)} (h1:StOk (pts.length:Int) ls on) (h2:BusOk (pts.length:Int) ls pts)
include h1 h2
theorem aaj:kJ (pts.length:Int) ls on pts=some (zl (um (av ls on) pts)):=by
 have hB:=h1.net.b1
 unfold kJ
 have hh:=nE (fX (pts.length:Int) ls on pts) pts.length (fun b=>af 0 (cK (av ls on) pts (·.1) b)) some (by omega) (fun k fuel l hk ha=>?_) (fun fuel l=>?_)
 ·rw [hh];rfl
 ·rw [qg,eS,Ss _ ls pts (by omega),fc.2 ⟨h1,h2⟩]
  simp only [au hk,ca,Option.bind_some,Bool.and_self,cond_true,Ob h1 h2 hk,ha,aa,ab (by omega:k<4611686018427387904)]
  cases af 0 (cK (av ls on) pts (·.1) k)<;>rfl
 ·rw [qg,eS];simp only [ak,qp,Option.bind_some,Bool.false_and,cond_false]
end
section
variable (l:Pm) (a b:Int) (hn:l.length≤1099511627776)
include hn
theorem Vj:iP l a b=some (SR l (a,b)):=by
 unfold iP SR
 have h:=Do (gx l a b) (fun k=>(k:Int)) l.length (fun k=>(l.getD k (0,0)).1==a&&(l.getD k (0,0)).2==b) (fun k=>some (.inr (k:Int))) (some (.inl ())) hn (fun k fuel hk=>by
  rw [tK,jC]
  simp only [au hk,ae hk,aa,cond_true,Int.toNat_natCast,ab (by omega:k<4611686018427387904)]) (fun fuel=>by rw [tK,jC];simp only [ak,cond_false])
 rw [show gx l a b ai 0=_ from h]
 cases (List.range l.length).find? (fun k=>(l.getD k (0,0)).1==a&&(l.getD k (0,0)).2==b)<;>rfl
theorem Yb:aK l a b=some (SR l (a,b)):=by
 unfold aK SR
 have h:=Do (aE l a b) (fun k=>(k:Int)) l.length (fun k=>(l.getD k (0,0)).1==a&&(l.getD k (0,0)).2==b) (fun k=>some (.inr (k:Int))) (some (.inl ())) hn (fun k fuel hk=>by
  rw [cu,aP]
  simp only [au hk,ae hk,aa,cond_true,Int.toNat_natCast,ab (by omega:k<4611686018427387904)]
  rw [show (a==(l.getD k (0,0)).1)=((l.getD k (0,0)).1==a) from Bool.beq_comm ..,show (b==(l.getD k (0,0)).2)=((l.getD k (0,0)).2==b) from Bool.beq_comm ..]) (fun fuel=>by rw [cu,aP];simp only [ak,cond_false])
 rw [show aE l a b ai 0=_ from h]
 cases (List.range l.length).find? (fun k=>(l.getD k (0,0)).1==a&&(l.getD k (0,0)).2==b)<;>rfl
theorem Zm:ay l a b=some (decide ((a,b)∈l)):=by
 unfold ay
 rw [Yb l a b hn,Option.bind_some,Lv]
end
section
variable (on earth:List Bool) (pm:Pm) (ho:on.length≤1048576) (hp:pm.length≤1048576) (hl:earth.length=on.length)
include ho hl
theorem sV1:dR on earth ai 0=bif (List.range on.length).any (fun k=>on.getD k false&&earth.getD k false) then some (.inr false) else some (.inl ()):=by
 have h:=bU (dR on earth) (fun k=>(k:Int)) on.length (fun k=>on.getD k false&&earth.getD k false) (some (.inr false)) (some (.inl ())) (by omega) (fun k fuel hk=>?_) (fun fuel=>?_)
 ·exact h
 ·rw [rh,gr]
  simp only [au hk,ae hk,ae (show k<earth.length by omega),aa,cond_true,Int.toNat_natCast,Bool.or_true,ab (by omega:k<4611686018427387904)]
 ·rw [rh,gr];simp only [ak,cond_false]
theorem iV1:dH on earth ai 0=bif (List.range on.length).any (fun k=>on.getD k false&&earth.getD k false) then some (.inr false) else some (.inl ()):=by
 have h:=bU (dH on earth) (fun k=>(k:Int)) on.length (fun k=>on.getD k false&&earth.getD k false) (some (.inr false)) (some (.inl ())) (by omega) (fun k fuel hk=>?_) (fun fuel=>?_)
 ·exact h
 ·rw [qP,fF]
  simp only [au hk,ae hk,ae (show k<earth.length by omega),aa,cond_true,Int.toNat_natCast,Bool.or_true,ab (by omega:k<4611686018427387904)]
 ·rw [qP,fF];simp only [ak,cond_false]
include hp
theorem sV2:dS on earth pm ai 0=bif (List.range pm.length).any (fun k=> !IH on earth pm k) then some (.inr false) else some (.inl ()):=by
 have h:=bU (dS on earth pm) (fun k=>(k:Int)) pm.length (fun k=> !IH on earth pm k) (some (.inr false)) (some (.inl ())) (by omega) (fun k fuel hk=>?_) (fun fuel=>?_)
 ·exact h
 ·rw [ri,gu]
  simp only [au hk,ae hk,aa,cond_true,Int.toNat_natCast,ab (by omega:k<4611686018427387904),Vj pm _ _ (by omega),am]
  have w1:az ((on.length:Int)-1)=(on.length:Int)-1:=bC (by omega) (by omega)
  have hft:=TE hk
  rw [w1]
  unfold IH
  rw [pp]
  generalize pm.getD k (0,0)=p at*
  cases h1:(aF 0 p.1&&aF p.1 9)
  ·simp [gb]
  have e2:(aF 0 p.2&&aF p.2 ((on.length:Int)-1))=(decide (0≤p.2)&&decide (p.2<(on.length:Int))):=by rw [Bool.eq_iff_iff];simp [aF];omega
  rw [e2]
  cases h2:(decide (0≤p.2)&&decide (p.2<(on.length:Int)))
  ·simp [gb]
  have hx:aq p.2 earth.length=true:=by simp at h2;simp [aq];omega
  simp only [gb,Option.bind_some,Bool.not_true,Bool.not_false,cond_true,Bool.or_self,hx,Bool.or_true,aa,Bool.false_or,Bool.true_and]
  cases earth.getD p.2.toNat false
  ·simp
  ·simp [hft]
 ·rw [ri,gu];simp only [ak,cond_false]
omit ho in
theorem iV2:dI on earth pm ai 0=bif (List.range pm.length).any (fun k=> !IH on earth pm k) then some (.inr false) else some (.inl ()):=by
 have h:=bU (dI on earth pm) (fun k=>(k:Int)) pm.length (fun k=> !IH on earth pm k) (some (.inr false)) (some (.inl ())) (by omega) (fun k fuel hk=>?_) (fun fuel=>?_)
 ·exact h
 ·rw [qQ,fG]
  have hs:zt 0 (k:Int) pm.length=true:=decide_eq_true (by omega)
  have ht:ah pm 0 (k:Int)=pm.take k:=by simp [ah]
  simp only [au hk,ae hk,aa,cond_true,Int.toNat_natCast,ab (by omega:k<4611686018427387904),hs,ht,Bool.or_true,Zm (pm.take k) _ _ (by simp;omega)]
  unfold IH
  rw [pp]
  generalize pm.getD k (0,0)=p
  rw [show ((p.1,p.2):Int×Int)=p from rfl]
  cases h1:(aF 0 p.1&&aF p.1 9)
  ·have:(af p.1 0 ||af 9 p.1)=true:=by simp [aF] at h1;simp [af];omega
   simp [gb,this]
  have e1:(af p.1 0 ||af 9 p.1)=false:=by simp [aF] at h1;simp [af];omega
  rw [e1]
  cases h2:(decide (0≤p.2)&&decide (p.2<(on.length:Int)))
  ·have:(af p.2 0 ||aF (on.length:Int) p.2)=true:=by simp at h2;simp [af,aF];omega
   simp only [Bool.false_or,this,Bool.not_true,Bool.true_or,Bool.not_false,aa,gb,cond_false,Option.bind_some,cond_true,Bool.and_false,Bool.false_and]
  have e2:(af p.2 0 ||aF (on.length:Int) p.2)=false:=by simp at h2;simp [af,aF];omega
  have hx:aq p.2 earth.length=true:=by simp at h2;simp [aq];omega
  simp only [Bool.false_or,e2,gb,Option.bind_some,Bool.not_true,Bool.not_false,cond_true,Bool.or_self,hx,Bool.or_true,aa,Bool.true_and]
  cases earth.getD p.2.toNat false<;>simp
 ·rw [qQ,fG];simp only [ak,cond_false]
end
section
variable (on earth:List Bool) (pm:Pm) (ho:on.length≤1048576) (hp:pm.length≤1048576)
include ho hp
theorem Mh:ep on earth pm=some (nH on earth pm):=by
 unfold ep am nH
 rw [pp,lt6,Qf]
 cases h1:(aF 1 (on.length:Int)&&aF (on.length:Int) 10)
 ·simp
 by_cases h2:earth.length=on.length
 ·rw [show (earth.length==on.length)=true by simpa using h2,show (on.length==earth.length)=true by simpa using h2.symm]
  cases h3:decide (pm.length≤6)
  ·simp
  simp only [Option.bind_some,Bool.not_true,Bool.or_self,cond_false,sV1 on earth ho h2,sV2 on earth pm ho hp h2,Bool.true_and]
  cases (List.range on.length).any fun k=>on.getD k false&&earth.getD k false
  ·cases (List.range pm.length).any fun k=> !IH on earth pm k<;>rfl
  ·rfl
 ·rw [show (earth.length==on.length)=false by simpa using h2,show (on.length==earth.length)=false by simpa using fun e=>h2 e.symm]
  simp
theorem Pb:em on earth pm=some (nH on earth pm):=by
 unfold em nH
 rw [acY,lt6,Qf]
 cases h1:af (on.length:Int) 1
 ·cases h4:af 10 (on.length:Int)
  ·by_cases h2:earth.length=on.length
   ·rw [show (earth.length==on.length)=true by simpa using h2]
    cases h3:decide (pm.length≤6)
    ·simp
    simp only [Option.bind_some,Bool.not_true,Bool.not_false,Bool.or_self,cond_false,iV1 on earth ho h2,iV2 on earth pm hp h2,Bool.true_and]
    cases (List.range on.length).any fun k=>on.getD k false&&earth.getD k false
    ·cases (List.range pm.length).any fun k=> !IH on earth pm k<;>rfl
    ·rfl
   ·rw [show (earth.length==on.length)=false by simpa using h2]
    simp
  ·simp
 ·simp
end
theorem Ti (on:List Bool) (br:List Int):DH on br 0=((decide (0≤br.getD 0 0)&&decide (br.getD 0 0<(on.length:Int)))&& !on.getD (br.getD 0 0).toNat false):=by
 unfold DH;simp
theorem Tj (on:List Bool) (br:List Int) (j:Nat):DH on br (j+1)=((decide (0≤br.getD (j+1) 0)&&decide (br.getD (j+1) 0<(on.length:Int)))&& !on.getD (br.getD (j+1) 0).toNat false&& !aF (br.getD (j+1) 0) (br.getD j 0)):=by
 unfold DH
 have:decide (br.getD j 0<br.getD (j+1) 0)= !aF (br.getD (j+1) 0) (br.getD j 0):=by rw [Bool.eq_iff_iff];simp [aF]
 simp only [Nat.add_sub_cancel,this]
 have e:decide (j+1=0)=false:=by simp
 rw [e,Bool.false_or]
section
variable (b:Int) (ls:List Ln) (pts:List (Int×Int)) (on earth:List Bool) (pm:Pm) (br:List Int) (hp:pts.length≤1048576) (ho:on.length≤1048576) (hm:pm.length≤1048576) (hb:br.length≤1048576)
include hb
theorem iBr (hl:on.length=ls.length):cR b ls on br ai 0=bif (List.range br.length).any (fun k=> !DH on br k) then some (.inr false) else some (.inl ()):=by
 have hh:=bU (cR b ls on br) (fun k=>(k:Int)) br.length (fun k=> !DH on br k) (some (.inr false)) (some (.inl ())) (by omega) (fun k fuel hk=>?_) (fun fuel=>?_)
 ·exact hh
 ·rw [qc,eK]
  simp only [au hk,ae hk,cond_true,aa,Int.toNat_natCast,bc,Option.bind_some,ab (by omega:k<4611686018427387904)]
  have e1:(aF 0 (br.getD k 0)&&af (br.getD k 0) (ls.length:Int))=(decide (0≤br.getD k 0)&&decide (br.getD k 0<(on.length:Int))):=by rw [hl];rfl
  rw [e1]
  have hx:(decide (0≤br.getD k 0)&&decide (br.getD k 0<(on.length:Int)))=true→aq (br.getD k 0) on.length=true:=by intro h;simp at h;simp [aq];omega
  rcases k with _ |j
  ·rw [Ti]
   have:af 0 ((0:Nat):Int)=false:=rfl
   simp only [this,Bool.and_false,Bool.not_false,Bool.true_or,aa,Bool.or_false]
   cases h1:decide (0≤br.getD 0 0)&&decide (br.getD 0 0<(on.length:Int))
   ·rfl
   ·rw [hx h1]
    cases on.getD (br.getD 0 0).toNat false<;>rfl
  ·rw [Tj]
   have e2:az (((j+1:Nat):Int)-1)=(j:Int):=by rw [bC (by omega) (by omega)];omega
   have e3:af 0 ((j+1:Nat):Int)=true:=decide_eq_true (by omega)
   simp only [e2,e3,ae (show j<br.length by omega),Bool.or_true,aa,Bool.true_and,Int.toNat_natCast]
   cases h1:decide (0≤br.getD (j+1) 0)&&decide (br.getD (j+1) 0<(on.length:Int))
   ·rfl
   ·rw [hx h1]
    cases on.getD (br.getD (j+1) 0).toNat false<;>cases aF (br.getD (j+1) 0) (br.getD j 0)<;>rfl
 ·rw [qc,eK];simp only [ak,cond_false]
include ho in
theorem sBr:da on br ai 0=bif (List.range br.length).any (fun k=> !DH on br k) then some (.inr false) else some (.inl ()):=by
 have hh:=bU (da on br) (fun k=>(k:Int)) br.length (fun k=> !DH on br k) (some (.inr false)) (some (.inl ())) (by omega) (fun k fuel hk=>?_) (fun fuel=>?_)
 ·exact hh
 ·rw [qm,fa]
  have w1:az ((on.length:Int)-1)=(on.length:Int)-1:=bC (by omega) (by omega)
  simp only [au hk,ae hk,cond_true,aa,Int.toNat_natCast,am,Option.bind_some,ab (by omega:k<4611686018427387904),w1]
  have e1:(aF 0 (br.getD k 0)&&aF (br.getD k 0) ((on.length:Int)-1))=(decide (0≤br.getD k 0)&&decide (br.getD k 0<(on.length:Int))):=by rw [Bool.eq_iff_iff];simp [aF];omega
  rw [e1]
  have hx:(decide (0≤br.getD k 0)&&decide (br.getD k 0<(on.length:Int)))=true→aq (br.getD k 0) on.length=true:=by intro h;simp at h;simp [aq];omega
  rcases k with _ |j
  ·rw [Ti]
   have:af 0 ((0:Nat):Int)=false:=rfl
   simp only [this,Bool.and_false,Bool.not_false,Bool.true_or,aa,Bool.or_false,Bool.false_and]
   cases h1:decide (0≤br.getD 0 0)&&decide (br.getD 0 0<(on.length:Int))
   ·rfl
   ·rw [hx h1]
    cases on.getD (br.getD 0 0).toNat false<;>simp
  ·rw [Tj]
   have e2:az (((j+1:Nat):Int)-1)=(j:Int):=by rw [bC (by omega) (by omega)];omega
   have e3:af 0 ((j+1:Nat):Int)=true:=decide_eq_true (by omega)
   simp only [e2,e3,ae hk,ae (show j<br.length by omega),Bool.or_true,aa,Bool.true_and,Int.toNat_natCast]
   cases h1:decide (0≤br.getD (j+1) 0)&&decide (br.getD (j+1) 0<(on.length:Int))
   ·rfl
   ·rw [hx h1]
    cases on.getD (br.getD (j+1) 0).toNat false<;>cases aF (br.getD (j+1) 0) (br.getD j 0)<;>rfl
 ·rw [qm,fa];simp only [ak,cond_false]
include hp ho hm
theorem iWv:bu b ls pts on earth pm br=some (wv ⟨b,ls,pts,on,earth,pm,br⟩):=by
 unfold bu wv brV
 rw [TV b ls pts hp,Pb on earth pm ho hm]
 have e:((on.length:Int) !=(ls.length:Int))= !decide (on.length=ls.length):=by rw [Bool.eq_iff_iff];simp;omega
 rw [e]
 cases h1:qy b ls pts
 ·rfl
 cases h2:nH on earth pm
 ·rfl
 by_cases h3:on.length=ls.length
 ·rw [decide_eq_true h3]
  simp only [Option.bind_some,Bool.not_true,Bool.not_false,ca,Bool.or_self,cond_false,iBr b ls on br hb h3,QA b ls on pts hp]
  have hok:vX b ls on pts=mH ls on pts:=by
   have:=wg.1 h1
   unfold vX
   rw [fc.2 ⟨⟨this.net,h3⟩,this⟩];rfl
  rw [hok]
  cases (List.range br.length).any fun k=> !DH on br k<;>cases mH ls on pts<;>rfl
 ·rw [decide_eq_false h3];simp
theorem sWv:bz b ls pts on earth pm br=some (wv ⟨b,ls,pts,on,earth,pm,br⟩):=by
 unfold bz wv brV
 rw [Vi b ls pts hp,Mh on earth pm ho hm]
 have e:((on.length:Int) !=(ls.length:Int))= !decide (on.length=ls.length):=by rw [Bool.eq_iff_iff];simp;omega
 rw [e]
 cases h1:qy b ls pts
 ·rfl
 cases h2:nH on earth pm
 ·rfl
 by_cases h3:on.length=ls.length
 ·rw [decide_eq_true h3]
  simp only [Option.bind_some,Bool.not_true,Bool.not_false,ca,Bool.or_self,cond_false,sBr on br ho hb,Hl b ls on pts hp]
  have hok:vX b ls on pts=mH ls on pts:=by
   have:=wg.1 h1
   unfold vX
   rw [fc.2 ⟨⟨this.net,h3⟩,this⟩];rfl
  rw [hok]
  cases (List.range br.length).any fun k=> !DH on br k<;>cases mH ls on pts<;>rfl
 ·rw [decide_eq_false h3];simp
end
def DY (w:Wd):List Nat:=(List.range w.pts.length).filter fun k=>af 0 (w.pts.getD k (0,0)).2&& !af 0 (cK (av w.ls w.on) w.pts (·.1) k)
theorem acO (l:List Int) (x:Int) (hl:l.length≤1099511627776): ∃z,ee l x=some z∧aF 0 z=decide (x∈l):=by
 unfold ee
 have h:=Do (bJ l x) (fun k=>(k:Int)) l.length (fun k=>x==l.getD k 0) (fun k=>some (.inr (k:Int))) (some (.inl ())) hl (fun k fuel hk=>by
  rw [ml,cc]
  simp only [au hk,ae hk,aa,cond_true,Int.toNat_natCast,ab (by omega:k<4611686018427387904)]) (fun fuel=>by rw [ml,cc];simp only [ak,cond_false])
 rw [show bJ l x ai 0=_ from h]
 cases hf:(List.range l.length).find? (fun k=>x==l.getD k 0) with
 |none=>
  refine ⟨_,rfl,?_⟩
  have:x∉l:=fun hx=>by
   obtain ⟨k,hk,rfl⟩:=List.mem_iff_getElem.1 hx
   have:=List.find?_eq_none.1 hf k (by simpa using hk)
   rw [ac hk] at this
   simp at this
  rw [decide_eq_false this];rfl
 |some k=>
  obtain ⟨h1,h2,_⟩:=List.find?_range_eq_some.1 hf
  have hk:k<l.length:=by simpa using h2
  refine ⟨_,rfl,?_⟩
  have:x∈l:=by
   rw [beq_iff_eq] at h1
   rw [h1,ac hk];exact List.getElem_mem hk
  rw [decide_eq_true this];simp [aF]
theorem acL (l:List Int) (x:Int) (hl:l.length≤1099511627776):cA l x=some (decide (x∈l)):=by
 obtain ⟨z,h1,h2⟩:=acO l x hl
 unfold cA
 rw [h1,Option.bind_some,h2]
theorem JT {E:Ed} {pts:List (Int×Int)} {k:Nat} (hk:k<pts.length):decide ((k:Int)∈zl (um E pts))=af 0 (cK E pts (·.1) k):=by
 rw [Bool.eq_iff_iff,decide_eq_true_eq,VN]
 simp [um,hk]
section
variable (b:Int) (ls:List Ln) (pts:List (Int×Int)) (on earth:List Bool) (pm:Pm) (br:List Int) (hp:pts.length≤1048576) (ho:on.length≤1048576) (hm:pm.length≤1048576) (hb:br.length≤1048576)
include hp ho hm hb
theorem acH:eo b ls pts on earth pm br=some (if wv ⟨b,ls,pts,on,earth,pm,br⟩ then zl (DY ⟨b,ls,pts,on,earth,pm,br⟩) else []):=by
 unfold eo
 rw [iWv b ls pts on earth pm br hp ho hm hb,Option.bind_some]
 cases hv:wv ⟨b,ls,pts,on,earth,pm,br⟩
 ·rfl
 have hw:=jL.1 hv
 have hok:NC b ls on pts=true:=fc.2 ⟨⟨hw.bus.net,hw.len⟩,hw.bus⟩
 simp only [cond_true,Zk b ls on pts hp,hok,if_true,Option.bind_some]
 have hal:(zl (um (av ls on) pts)).length≤1099511627776:=by
  rw [bP];unfold um
  have:=List.length_filter_le (fun b=>af 0 (cK (av ls on) pts (·.1) b)) (List.range pts.length)
  rw [List.length_range] at this;omega
 have hh:=nE (gW pts (zl (um (av ls on) pts))) pts.length (fun k=>af 0 (pts.getD k (0,0)).2&& !af 0 (cK (av ls on) pts (·.1) k)) some (by omega) (fun k fuel l hk ha=>?_) (fun fuel l=>?_)
 ·rw [hh];rfl
 ·rw [qR,fI]
  simp only [au hk,ae hk,aa,cond_true,Int.toNat_natCast,acL _ _ hal,JT hk,ha,ab (by omega:k<4611686018427387904)]
  cases af 0 (pts.getD k (0,0)).2
  ·rfl
  ·cases af 0 (cK (av ls on) pts (·.1) k)<;>rfl
 ·rw [qR,fI];simp only [ak,cond_false]
theorem adm:iO b ls pts on earth pm br=some (if wv ⟨b,ls,pts,on,earth,pm,br⟩ then zl (DY ⟨b,ls,pts,on,earth,pm,br⟩) else []):=by
 unfold iO
 rw [sWv b ls pts on earth pm br hp ho hm hb,Option.bind_some]
 cases hv:wv ⟨b,ls,pts,on,earth,pm,br⟩
 ·rfl
 have hw:=jL.1 hv
 have hlp:=hw.bus.lp
 dsimp only at hlp
 subst hlp
 simp only [cond_true,aaj ⟨hw.bus.net,hw.len⟩ hw.bus,if_true,Option.bind_some]
 have hal:(zl (um (av ls on) pts)).length≤1099511627776:=by
  rw [bP];unfold um
  have:=List.length_filter_le (fun b=>af 0 (cK (av ls on) pts (·.1) b)) (List.range pts.length)
  rw [List.length_range] at this;omega
 have hh:=nE (iv pts (zl (um (av ls on) pts))) pts.length (fun k=>af 0 (pts.getD k (0,0)).2&& !af 0 (cK (av ls on) pts (·.1) k)) some (by omega) (fun k fuel l hk ha=>?_) (fun fuel l=>?_)
 ·rw [hh];rfl
 ·rw [rj,gw]
  simp only [au hk,ae hk,aa,cond_true,Int.toNat_natCast,Su _ _ hal,JT hk,ha,Bool.or_true,Option.bind_some,ab (by omega:k<4611686018427387904)]
  cases af 0 (pts.getD k (0,0)).2<;>cases af 0 (cK (av ls on) pts (·.1) k)<;>rfl
 ·rw [rj,gw];simp only [ak,cond_false]
end
section
variable {σ:Type} (good:σ→Bool) (sv:σ→Int) (ch:σ→Nat)
def Fd (s:Int) (c:Nat):Option σ→Bool
 |none=>true
 |some y=>decide (sv y<s) ||(decide (sv y=s)&&decide (c<ch y))
def zx (a:Option σ) (x:σ):Option σ:=if good x&&Fd sv ch (sv x) (ch x) a then some x else a
def iU (l:List σ):Option σ:=l.foldl (zx good sv ch) none
theorem Gf (l:List σ) (x:σ):iU good sv ch (l++ [x])=zx good sv ch (iU good sv ch l) x:=by unfold iU;rw [List.foldl_append];rfl
theorem MI (l:List σ):(∀x∈l,good x=true→ ∃y,iU good sv ch l=some y)∧ ∀y,iU good sv ch l=some y→(y∈l∧good y=true)∧ ∀x∈l,good x=true→sv x<sv y∨(sv x=sv y∧ch y≤ch x):=by
 refine Hi (P:=fun l=>(∀x∈l,good x=true→ ∃y,iU good sv ch l=some y)∧ ∀y,iU good sv ch l=some y→(y∈l∧good y=true)∧ ∀x∈l,good x=true→sv x<sv y∨(sv x=sv y∧ch y≤ch x)) ?_ ?_ l
 ·exact ⟨fun x hx=>by simp at hx,fun y hy=>by cases hy⟩
 ·intro l a ih
  rw [Gf]
  unfold zx
  cases hg:good a
  ·rw [Bool.false_and,if_neg (by decide)]
   refine ⟨fun x hx hgx=>?_,fun y hy=>?_⟩
   ·rcases List.mem_append.1 hx with hx |hx
    ·exact ih.1 x hx hgx
    ·obtain rfl:x=a:=by simpa using hx
     rw [hg] at hgx;cases hgx
   ·obtain ⟨⟨h1,h2⟩,h3⟩:=ih.2 y hy
    refine ⟨⟨by simp [h1],h2⟩,fun x hx hgx=>?_⟩
    rcases List.mem_append.1 hx with hx |hx
    ·exact h3 x hx hgx
    ·obtain rfl:x=a:=by simpa using hx
     rw [hg] at hgx;cases hgx
  ·rw [Bool.true_and]
   cases hb:iU good sv ch l with
   |none=>
    rw [if_pos (show Fd sv ch (sv a) (ch a) none=true from rfl)]
    refine ⟨fun _ _ _=>⟨a,rfl⟩,fun y hy=>?_⟩
    obtain rfl:a=y:=Option.some.inj hy
    refine ⟨⟨by simp,hg⟩,fun x hx hgx=>?_⟩
    rcases List.mem_append.1 hx with hx |hx
    ·obtain ⟨y,hy⟩:=ih.1 x hx hgx
     rw [hb] at hy;cases hy
    ·obtain rfl:x=a:=by simpa using hx
     exact .inr ⟨rfl,Nat.le_refl _⟩
   |some z=>
    obtain ⟨⟨h1,h2⟩,h3⟩:=ih.2 z hb
    split
    ·rename_i hbet
     simp only [Fd,Bool.or_eq_true,Bool.and_eq_true,decide_eq_true_eq] at hbet
     refine ⟨fun _ _ _=>⟨a,rfl⟩,fun y hy=>?_⟩
     obtain rfl:a=y:=Option.some.inj hy
     refine ⟨⟨by simp,hg⟩,fun x hx hgx=>?_⟩
     rcases List.mem_append.1 hx with hx |hx
     ·have:=h3 x hx hgx;omega
     ·obtain rfl:x=a:=by simpa using hx
      exact .inr ⟨rfl,Nat.le_refl _⟩
    ·rename_i hbet
     simp only [Fd,Bool.or_eq_true,Bool.and_eq_true,decide_eq_true_eq] at hbet
     refine ⟨fun _ _ _=>⟨z,rfl⟩,fun y hy=>?_⟩
     obtain rfl:z=y:=Option.some.inj hy
     refine ⟨⟨by simp [h1],h2⟩,fun x hx hgx=>?_⟩
     rcases List.mem_append.1 hx with hx |hx
     ·exact h3 x hx hgx
     ·obtain rfl:x=a:=by simpa using hx
      omega
end
def bd (n num:Nat):List Bool:=(List.range n).map fun k=>num.testBit k
theorem IY (n num:Nat):(bd n num).length=n:=by simp [bd]
theorem Vr {n num k:Nat} (h:k<n):(bd n num).getD k false=num.testBit k:=by simp [bd,List.getD,h]
def yL:List Bool→Nat
 | []=>0
 |b::l=>2*yL l+b.toNat
theorem Kz: ∀(l:List Bool) (k:Nat),(yL l).testBit k=l.getD k false
 | [],k=>by simp [yL]
 |b::l,0=>by cases b<;>simp [yL,Nat.testBit_zero]<;>omega
 |b::l,k+1=>by
  rw [Nat.testBit_succ,List.getD_cons_succ,←Kz l k]
  congr 1
  cases b<;>simp [yL]<;>omega
theorem Nz: ∀l:List Bool,yL l<2 ^ l.length
 | []=>by simp [yL]
 |b::l=>by
  have:=Nz l
  have hb:b.toNat≤1:=by cases b<;>simp
  rw [List.length_cons,Nat.pow_succ];simp only [yL];omega
theorem PM (l:List Bool):bd l.length (yL l)=l:=by
 apply List.ext_getElem (by simp [bd])
 intro i h1 h2
 have:=Vr (num:=yL l) h2
 rw [ac h1,Kz,ac h2] at this
 exact this
def PN (n:Nat):List (List Bool):=(List.range (2 ^ n)).map (bd n)
theorem PO {n:Nat} {l:List Bool}:l∈PN n↔l.length=n:=by
 unfold PN
 rw [List.mem_map]
 constructor
 ·rintro ⟨k,_,rfl⟩;exact IY _ _
 ·rintro rfl;exact ⟨yL l,by simpa using Nz l,PM l⟩
def aC (E:Ed) (pts:List (Int×Int)):Int:=((List.range pts.length).map fun b=>if cK E pts (·.2) b≤cK E pts (·.1) b then (pts.getD b (0,0)).2 else 0).sum
def cM (ls:List Ln) (on:List Bool) (pts:List (Int×Int)):Bool:=
 mH ls on pts&&(!(List.range ls.length).any fun k=>decide ((ls.getD k (0,0,0)).2.2<fm ls on pts k))&& !(List.range pts.length).any fun b=>aG pts b&&decide ((pts.getD b (0,0)).1<cK (av ls on) pts (·.2) b)
theorem Nf {ls:List Ln} {on:List Bool} {pts:List (Int×Int)} (h:cM ls on pts=true):mH ls on pts=true:=by
 unfold cM at h
 rw [Bool.and_eq_true,Bool.and_eq_true] at h
 exact h.1.1
def bg (a b:List Bool):List Nat:=(List.range a.length).filter fun k=>a.getD k false !=b.getD k false
def oY (ls:List Ln) (on:List Bool) (pts:List (Int×Int)):Option (List Bool):=iU (fun x=>cM ls x pts) (fun x=>aC (av ls x) pts) (fun x=>(bg on x).length) (PN ls.length)
theorem zY {ls:List Ln} {on x:List Bool} {pts:List (Int×Int)} (h:oY ls on pts=some x):x.length=ls.length∧cM ls x pts=true:=by
 have:=((MI _ _ _ _).2 x h).1
 exact ⟨PO.1 this.1,this.2⟩
def Po (on x:List Bool) (k:Nat):List Dd:=((List.range k).filter fun i=>on.getD i false&& !x.getD i false).map fun (i:Nat)=>(1,(i:Int),0)
def UE (on x:List Bool) (k:Nat):List Dd:=((List.range k).filter fun i=>x.getD i false&& !on.getD i false).map fun (i:Nat)=>(0,(i:Int),0)
def mC (earth:List Bool) (br:List Int):List Dd:=br.flatMap fun l=>(if earth.getD l.toNat false then [] else [(2,l,0)])++ [(4,l,0),(7,l,0),(5,l,0)]
def dp (earth:List Bool) (br:List Int):List Bool:=br.foldl (fun e l=>e.set l.toNat true) earth
def Mk (on:List Bool) (x:Option (List Bool)):List Dd:=
 match x with
 |none=> []
 |some x=>Po on x on.length++UE on x on.length
def Kn (w:Wd):List Dd:=fg w.pm++mC w.earth w.br++nU 3 (dp w.earth w.br) true w.on.length++Mk w.on (oY w.ls w.on w.pts)
theorem OT (br:List Int): ∀earth:List Bool,(dp earth br).length=earth.length:=by
 induction br with
 |nil=>intro e;rfl
 |cons l br ih=>intro e;show (dp (e.set l.toNat true) br).length=_;rw [ih];simp
theorem WB (earth:List Bool) (l:Int) (br:List Int):mC earth (l::br)=((if earth.getD l.toNat false then [] else [(2,l,0)])++ [(4,l,0),(7,l,0),(5,l,0)])++mC earth br:=rfl
theorem JP {l:List Bool} {k:Nat} (h:l.getD k false=true):l.set k true=l:=by
 rcases Nat.lt_or_ge k l.length with hk |hk
 ·rw [ac hk] at h
  have:=List.set_getElem_self hk
  rwa [h] at this
 ·rw [acD hk] at h;cases h
def mix (n k:Nat) (f g:Nat→Bool):List Bool:=(List.range n).map fun i=>if i<k then f i else g i
theorem Xc {n k:Nat} {f g:Nat→Bool} (h:k<n):(mix n k f g).set k (f k)=mix n (k+1) f g:=by
 apply List.ext_getElem (by simp [mix])
 intro i h1 h2
 rw [List.getElem_set]
 simp only [mix,List.getElem_map,List.getElem_range]
 split
 ·rename_i e;subst e;rw [if_pos (by omega)]
 ·by_cases hi:i<k
  ·rw [if_pos hi,if_pos (by omega)]
  ·rw [if_neg hi,if_neg (by omega)]
theorem IZ {n:Nat} {f:Nat→Int} {p:Nat→Prop} (hf: ∀b,b<n→0≤f b∧f b≤999):0≤FZ n f p∧FZ n f p≤999*n:=by
 unfold FZ
 induction n with
 |zero=>simp
 |succ n ih=>
  have h1:=ih fun b hb=>hf b (by omega)
  have h2:=hf n (by omega)
  rw [List.range_succ,List.map_append,List.sum_append]
  simp only [List.map_cons,List.map_nil,List.sum_cons,List.sum_nil]
  split<;>omega
def lH (n:Nat) (f:Nat→Int):List Int:=(List.range n).map f
theorem oS (n:Nat) (f:Nat→Int):(lH n f).length=n:=by simp [lH]
theorem jJ {n k:Nat} {f:Nat→Int} (h:k<n):(lH n f).getD k 0=f k:=by simp [lH,List.getD,h]
theorem wI {n k:Nat} {f g:Nat→Int} {v:Int} (hk:k<n) (h1:g k=v) (h2: ∀j,j<n→j≠k→g j=f j):(lH n f).set k v=lH n g:=by
 apply List.ext_getElem (by simp [lH])
 intro i a b
 have hi:i<n:=by simpa [lH] using b
 rw [List.getElem_set]
 simp only [lH,List.getElem_map,List.getElem_range]
 split
 ·rename_i e;subst e;exact h1.symm
 ·rename_i e;exact (h2 i hi (Ne.symm e)).symm
theorem pA {n:Nat} {f g:Nat→Int} (h: ∀j,j<n→f j=g j):lH n f=lH n g:=List.map_congr_left fun j hj=>h j (by simpa using hj)
theorem Vz (n:Nat):lH n (fun _=>0)=List.replicate n 0:=by
 apply List.ext_getElem (by simp [lH])
 intro i a b
 simp [lH]
open Classical in
noncomputable def Zc (ls:List Ln) (on:List Bool) (pts:List (Int×Int)) (par:Nat→Int) (rk:Nat→Nat) (i k:Nat):Int:=if ∃d,0≤par d∧(par d).toNat=k∧i≤rk d then fm ls on pts k else 0
theorem OV {b:Int} {ls:List Ln} {on:List Bool} {pts:List (Int×Int)} (h2:BusOk b ls pts) {c:Nat} (h:gK (av ls on) pts c=true):c<pts.length:=by
 obtain ⟨f,f1,f2⟩:=mB.1 h
 cases f2 with
 |refl=>exact qo f1
 |step _ e=>
  rcases e with e |e
  ·exact (UD h2 on _ e).2
  ·exact (UD h2 on _ e).1
theorem Zt {l:List Nat} (h:l.Nodup) {i:Nat} (hi:i<l.length):l.idxOf (l.getD i 0)=i:=by
 rw [ac hi]
 have hm:l.idxOf l[i]<l.length:=List.idxOf_lt_length_iff.2 (List.getElem_mem hi)
 have h1:=List.getElem_idxOf hm
 rw [List.nodup_iff_pairwise_ne,List.pairwise_iff_getElem] at h
 rcases Nat.lt_trichotomy (l.idxOf l[i]) i with h2 |h2 |h2
 ·exact absurd h1 (h _ _ hm hi h2)
 ·exact h2
 ·exact absurd h1.symm (h _ _ hi hm h2)
section
variable {ls:List Ln} {on:List Bool} {pts:List (Int×Int)} {feed parent:List Int} {ord:List Nat} (h1:StOk (pts.length:Int) ls on) (h2:BusOk (pts.length:Int) ls pts) (hr:mH ls on pts=true) (T:TreeOk ls on pts feed parent ord)
include h2 T
theorem aaf: ∀a b,gK (av ls on) pts a=true→gK (av ls on) pts b=true→ord.idxOf a=ord.idxOf b→a=b:=by
 intro a b ha hb e
 have ha':=(T.mem a).2 ⟨OV h2 ha,ha⟩
 have hb':=(T.mem b).2 ⟨OV h2 hb,hb⟩
 have h3:=List.getElem_idxOf (List.idxOf_lt_length_iff.2 ha')
 have h4:=List.getElem_idxOf (List.idxOf_lt_length_iff.2 hb')
 rw [←h3,←h4]
 congr 1
theorem Ys {d:Nat} (h:0≤parent.getD d (-1)):ord.idxOf d<ord.length:=by
 obtain ⟨c,hc,_⟩:=T.par.line d h
 have hf:gK (av ls on) pts d=true:=Up.fed T.par ⟨h,hc⟩
 exact List.idxOf_lt_length_iff.2 ((T.mem d).2 ⟨OV h2 hf,hf⟩)
include h1 hr
theorem TX:fL (pts.length:Int) ls feed parent (zl ord) pts=some (lH ls.length (fm ls on pts)):=by
 have hll:=h1.net.ll;have hB:=h1.net.b1
 have hol:ord.length≤pts.length:=vR _ ord T.nd fun b hb=>((T.mem b).1 hb).1
 have hf2: ∀c,c<pts.length→0≤(pts.getD c (0,0)).2∧(pts.getD c (0,0)).2≤999:=fun c hc=>(h2.bs c hc).2
 unfold fL
 have m1:uA (ls.length:Int)=true:=by simp [uA];omega
 have m2:uA (pts.length:Int)=true:=by simp [uA];omega
 have w0:az (((zl ord).length:Int)-1)=(ord.length:Int)-1:=by rw [bP,bC (by omega) (by omega)]
 rw [m1,m2,aa,aa,w0]
 have P:=T.par
 have hh:=ax (fM (pts.length:Int) ls feed parent (zl ord) pts) (fun k=>(lH ls.length (Zc ls on pts (fun b=>parent.getD b (-1)) (fun b=>ord.idxOf b) (ord.length-k)),lH pts.length (ph ls on pts (fun b=>parent.getD b (-1)) (fun b=>ord.idxOf b) (ord.length-k)),(ord.length:Int)-(k:Int)-1)) ord.length (some (lH ls.length (fm ls on pts))) (by omega) (fun k fuel hk=>?_) (fun fuel=>?_)
 ·have e1:lH ls.length (Zc ls on pts (fun b=>parent.getD b (-1)) (fun b=>ord.idxOf b) (ord.length-0))=List.replicate ls.length 0:=by
   rw [←Vz]
   refine pA fun j hj=>?_
   unfold Zc
   rw [if_neg]
   rintro ⟨d,d1,_,d3⟩
   have:=Ys h2 T d1
   dsimp only at d3;omega
  have e2:lH pts.length (ph ls on pts (fun b=>parent.getD b (-1)) (fun b=>ord.idxOf b) (ord.length-0))=List.replicate pts.length 0:=by
   rw [←Vz]
   refine pA fun j hj=>SE fun b hb=>?_
   rintro (⟨_,hF,hi⟩ |⟨d,d1,d2,_⟩)
   ·have:=List.idxOf_lt_length_iff.2 ((T.mem j).2 ⟨hj,hF⟩)
    dsimp only at hi;omega
   ·have:=Ys h2 T d1.1
    dsimp only at d2;omega
  rw [e1,e2] at hh
  rw [show (ord.length:Int)-1=(ord.length:Int)-((0:Nat):Int)-1 by omega,hh];rfl
 · -- the bus at i
  obtain ⟨i,hi⟩: ∃i,ord.length-k=i+1:=⟨ord.length-k-1,by omega⟩
  have hio:i<ord.length:=by omega
  have e0:(ord.length:Int)-(k:Int)-1=(i:Int):=by omega
  have e3:(ord.length:Int)-((k+1:Nat):Int)-1=(i:Int)-1:=by omega
  have e4:ord.length-(k+1)=i:=by omega
  rw [hi,e0,e3,e4,qe,eM]
  obtain ⟨o,ho⟩: ∃o,ord.getD i 0=o:=⟨_,rfl⟩
  have hom:o∈ord:=by rw [←ho,ac hio];exact List.getElem_mem hio
  obtain ⟨hon,hof⟩:=(T.mem o).1 hom
  have hrk:ord.idxOf o=i:=by rw [←ho];exact Zt T.nd hio
  have hpo:parent.getD o 0=parent.getD o (-1):=by rw [ac (by rw [T.lp];exact hon),ac (by rw [T.lp];exact hon)]
  have hinj:=aaf h2 T
  have hself:=Par.want_self P (i:=i) (o:=o) hrk hon hof
  have hnow:=Par.want_now P (i:=i) (o:=o) hrk hof
  have hb1:0≤nK ls on pts (fun b=>parent.getD b (-1)) o∧nK ls on pts (fun b=>parent.getD b (-1)) o≤999*pts.length:=IZ hf2
  have ws:az (ph ls on pts (fun b=>parent.getD b (-1)) (fun b=>ord.idxOf b) (i+1) o+(pts.getD o (0,0)).2)=nK ls on pts (fun b=>parent.getD b (-1)) o:=by rw [hself];exact bC (by omega) (by omega)
  have wi:az ((i:Int)-1)=(i:Int)-1:=bC (by omega) (by omega)
  have hge:aF 0 (i:Int)=true:=by simp [aF]
  have hxo:aq (o:Int) parent.length=true:=by rw [T.lp];exact ae hon
  simp only [hge,cond_true,bP,ae hio,aa,Int.toNat_natCast,sU,ho,ae hon,hxo,jJ hon,ws,wi]
  by_cases hp:0≤parent.getD o (-1)
  ·obtain ⟨c,hlk,hc,hfc,hrc⟩:=P.line o hp
   obtain ⟨j,hj⟩: ∃j:Nat,parent.getD o (-1)=(j:Int):=⟨(parent.getD o (-1)).toNat,by omega⟩
   have hlk':=hlk
   rw [hj,Int.toNat_natCast] at hlk
   have hne:c≠o:=fun e=>by subst e;omega
   have u:Up ls on (fun b=>parent.getD b (-1)) o c:=⟨hp,hlk'⟩
   have hup:=Par.want_up P hinj hrk u
   have habove:kw (pts.length:Int) ls feed parent (zl ord) (o:Int)=some (c:Int):=by
    unfold kw
    rw [hxo,aa,Int.toNat_natCast,hpo,hj,ae hlk.1,aa,Int.toNat_natCast]
    obtain ⟨z,z1,z2⟩:=NF h1 (b:=o) hlk.1
    rw [z1,Option.bind_some]
    rcases z2 with ⟨_,z3⟩ |⟨c',rfl,_,_,z4⟩
    ·exact absurd hlk (z3 c)
    ·rw [z4 c hlk]
   have hgj:aF 0 (parent.getD o 0)=true:=by rw [hpo];simpa [aF] using hp
   have hxj:aq (parent.getD o 0) ls.length=true:=by rw [hpo,hj];exact ae hlk.1
   have hset1:((lH pts.length (ph ls on pts (fun b=>parent.getD b (-1)) (fun b=>ord.idxOf b) (i+1))).set o (nK ls on pts (fun b=>parent.getD b (-1)) o)).getD o 0=nK ls on pts (fun b=>parent.getD b (-1)) o:=vi (by rw [oS];exact hon)
   have hset2:((lH pts.length (ph ls on pts (fun b=>parent.getD b (-1)) (fun b=>ord.idxOf b) (i+1))).set o (nK ls on pts (fun b=>parent.getD b (-1)) o)).getD c 0=ph ls on pts (fun b=>parent.getD b (-1)) (fun b=>ord.idxOf b) (i+1) c:=by rw [fo (Ne.symm hne),jJ hc]
   have hb2:0≤ph ls on pts (fun b=>parent.getD b (-1)) (fun b=>ord.idxOf b) i c∧ph ls on pts (fun b=>parent.getD b (-1)) (fun b=>ord.idxOf b) i c≤999*pts.length:=IZ hf2
   have wc:az (ph ls on pts (fun b=>parent.getD b (-1)) (fun b=>ord.idxOf b) (i+1) c+nK ls on pts (fun b=>parent.getD b (-1)) o)=ph ls on pts (fun b=>parent.getD b (-1)) (fun b=>ord.idxOf b) i c:=by rw [←hup];exact bC (by omega) (by omega)
   simp only [hgj,cond_true,hxj,aa,habove,Option.bind_some,ae hc,ae hon,Int.toNat_natCast,hset1,hset2,wc]
   congr 2
   ·rw [hpo,hj,Int.toNat_natCast]
    have hfl:fm ls on pts (parent.getD o (-1)).toNat=nK ls on pts (fun b=>parent.getD b (-1)) o:=Par.flow P h1.len hr (d:=o) hp
    have hbel:nK ls on pts (fun b=>parent.getD b (-1)) o=fm ls on pts j:=by
     rw [hj,Int.toNat_natCast] at hfl
     exact hfl.symm
    refine wI hlk.1 ?_ fun k' hk' hne'=>?_
    ·unfold Zc
     rw [if_pos ⟨o,hp,by dsimp only;rw [hj];rfl,by dsimp only;omega⟩,hbel]
    ·unfold Zc
     by_cases hex: ∃d,0≤(fun b=>parent.getD b (-1)) d∧((fun b=>parent.getD b (-1)) d).toNat=k'∧i+1≤(fun b=>ord.idxOf b) d
     ·rw [if_pos hex]
      obtain ⟨d,d1,d2,d3⟩:=hex
      rw [if_pos ⟨d,d1,d2,by omega⟩]
     ·rw [if_neg hex,if_neg]
      rintro ⟨d,d1,d2,d3⟩
      refine hex ⟨d,d1,d2,?_⟩
      dsimp only at d1 d2 d3 ⊢
      rcases Nat.lt_or_ge i (ord.idxOf d) with h |h
      ·exact h
      ·exfalso
       obtain ⟨c',hc',_⟩:=P.line d d1
       have:d=o:=hinj d o (Up.fed P ⟨d1,hc'⟩) hof (by omega)
       subst this
       rw [hj] at d2
       exact hne' (by simpa using d2.symm)
   ·congr 1
    rw [wI (g:=fun x=>if x=o then nK ls on pts (fun b=>parent.getD b (-1)) o else ph ls on pts (fun b=>parent.getD b (-1)) (fun b=>ord.idxOf b) (i+1) x) hon (if_pos rfl) (fun j' _ hj'=>if_neg hj')]
    refine wI hc rfl fun x hx hxc=>?_
    by_cases hxo2:x=o
    ·subst hxo2;rw [if_pos rfl];exact hnow
    ·rw [if_neg hxo2]
     exact Par.want_else P hinj hrk hof hxo2 fun u'=>hxc (u'.inj u).symm.symm
  ·have hgj:aF 0 (parent.getD o 0)=false:=by rw [hpo];simp only [aF,decide_eq_false_iff_not];exact hp
   simp only [hgj,cond_false,Option.bind_some]
   congr 2
   ·refine pA fun k' hk'=>?_
    unfold Zc
    by_cases hex: ∃d,0≤(fun b=>parent.getD b (-1)) d∧((fun b=>parent.getD b (-1)) d).toNat=k'∧i+1≤(fun b=>ord.idxOf b) d
    ·rw [if_pos hex]
     obtain ⟨d,d1,d2,d3⟩:=hex
     rw [if_pos ⟨d,d1,d2,by omega⟩]
    ·rw [if_neg hex,if_neg]
     rintro ⟨d,d1,d2,d3⟩
     refine hex ⟨d,d1,d2,?_⟩
     dsimp only at d1 d2 d3 ⊢
     rcases Nat.lt_or_ge i (ord.idxOf d) with h |h
     ·exact h
     ·exfalso
      obtain ⟨c',hc',_⟩:=P.line d d1
      have:d=o:=hinj d o (Up.fed P ⟨d1,hc'⟩) hof (by omega)
      subst this
      exact hp d1
   ·congr 1
    refine wI hon hnow fun x hx hxo2=>?_
    exact Par.want_else P hinj hrk hof hxo2 fun u'=>hp u'.1
 ·rw [qe,eM]
  have e0:aF 0 ((ord.length:Int)-(ord.length:Int)-1)=false:=by simp only [aF,decide_eq_false_iff_not];omega
  simp only [e0,cond_false,Nat.sub_self]
  congr 1
  refine pA fun k hk=>?_
  unfold Zc
  by_cases hex: ∃d,0≤(fun b=>parent.getD b (-1)) d∧((fun b=>parent.getD b (-1)) d).toNat=k∧0≤(fun b=>ord.idxOf b) d
  ·rw [if_pos hex]
  ·rw [if_neg hex]
   exact (Par.flow0 P h1.len hr fun d d1 d2=>hex ⟨d,d1,d2,Nat.zero_le _⟩).symm
omit hr in
theorem Zl {b:Nat} (hb:b<pts.length):kx (pts.length:Int) ls feed parent (zl ord) pts (b:Int)=some (if aG pts b=true then cK (av ls on) pts (·.2) b else 0):=by
 have hB:=h1.net.b1
 unfold kx
 have hf2: ∀c,c<pts.length→0≤(pts.getD c (0,0)).2∧(pts.getD c (0,0)).2≤999:=fun c hc=>(h2.bs c hc).2
 have hbd: ∀k,k≤pts.length→0≤((List.range k).map fun c=>if feed.getD c 0=(b:Int) then (pts.getD c (0,0)).2 else 0).sum∧((List.range k).map fun c=>if feed.getD c 0=(b:Int) then (pts.getD c (0,0)).2 else 0).sum≤999*k:=by
  intro k
  induction k with
  |zero=>intro _;simp
  |succ k ih=>
   intro hk
   have i1:=ih (by omega)
   have i2:=hf2 k (by omega)
   rw [List.range_succ,List.map_append,List.sum_append]
   simp only [List.map_cons,List.map_nil,List.sum_cons,List.sum_nil]
   split<;>omega
 have hh:=ax (cT feed pts (b:Int)) (fun k=>(((List.range k).map fun c=>if feed.getD c 0=(b:Int) then (pts.getD c (0,0)).2 else 0).sum,(k:Int))) pts.length (some (((List.range pts.length).map fun c=>if feed.getD c 0=(b:Int) then (pts.getD c (0,0)).2 else 0).sum)) (by omega) (fun k fuel hk=>?_) (fun fuel=>?_)
 ·rw [show cT feed pts (b:Int) ai (0,0)=_ from hh,Option.bind_some]
  congr 1
  by_cases hfb:aG pts b=true
  ·rw [if_pos hfb]
   refine qw fun c hc=>?_
   have:=T.fd c b hc
   by_cases e:aO (av ls on) c=aO (av ls on) b
   ·rw [if_pos e,if_pos (this.2 ⟨hfb,((ov _ _ _).1 e).symm⟩)]
   ·rw [if_neg e,if_neg fun e2=>e ((ov _ _ _).2 (this.1 e2).2.symm)]
  ·rw [if_neg hfb]
   exact yU fun c hc=>if_neg fun e2=>hfb ((T.fd c b hc).1 e2).1
 ·rw [qf,eO]
  have hx:aq (k:Int) feed.length=true:=by rw [T.lf];exact ae hk
  have i1:=hbd k (by omega)
  have i2:=hf2 k hk
  have wk:az (((List.range k).map fun c=>if feed.getD c 0=(b:Int) then (pts.getD c (0,0)).2 else 0).sum+(pts.getD k (0,0)).2)=((List.range k).map fun c=>if feed.getD c 0=(b:Int) then (pts.getD c (0,0)).2 else 0).sum+(pts.getD k (0,0)).2:=bC (by omega) (by omega)
  have hlt:af (k:Int) (feed.length:Int)=true:=by rw [T.lf];exact au hk
  simp only [hlt,cond_true,hx,aa,Int.toNat_natCast,ae hk,wk,ab (by omega:k<4611686018427387904)]
  rw [List.range_succ,List.map_append,List.sum_append]
  simp only [List.map_cons,List.map_nil,List.sum_cons,List.sum_nil]
  by_cases e:feed.getD k 0=(b:Int)
  ·rw [if_pos e,show (feed.getD k 0==(b:Int))=true by rw [e];simp]
   simp
  ·rw [if_neg e,show (feed.getD k 0==(b:Int))=false by simpa using e]
   simp
 ·rw [qf,eO]
  have hlt:af (pts.length:Int) (feed.length:Int)=false:=by rw [T.lf];exact ak
  simp only [hlt,cond_false]
theorem acK:lP (pts.length:Int) ls feed parent (zl ord) pts=some (cM ls on pts):=by
 have hll:=h1.net.ll;have hB:=h1.net.b1
 unfold lP cM
 rw [TX h1 h2 hr T,Option.bind_some,hr]
 have a1:=bU (dJ ls (lH ls.length (fm ls on pts))) (fun k=>(k:Int)) ls.length (fun k=>decide ((ls.getD k (0,0,0)).2.2<fm ls on pts k)) (some (.inr false)) (some (.inl ())) (by omega) (fun k fuel hk=>?_) (fun fuel=>?_)
 ·have a2:=bU (dK (pts.length:Int) ls feed parent (zl ord) pts) (fun k=>(k:Int)) pts.length (fun b=>aG pts b&&decide ((pts.getD b (0,0)).1<cK (av ls on) pts (·.2) b)) (some (.inr false)) (some (.inl ())) (by omega) (fun k fuel hk=>?_) (fun fuel=>?_)
  ·rw [show dJ ls (lH ls.length (fm ls on pts)) ai 0=_ from a1,show dK (pts.length:Int) ls feed parent (zl ord) pts ai 0=_ from a2]
   cases (List.range ls.length).any fun k=>decide ((ls.getD k (0,0,0)).2.2<fm ls on pts k)
   ·cases (List.range pts.length).any fun b=>aG pts b&&decide ((pts.getD b (0,0)).1<cK (av ls on) pts (·.2) b)<;>rfl
   ·rfl
  ·rw [qT,fO]
   simp only [au hk,ae hk,cond_true,aa,Int.toNat_natCast,Zl h1 h2 T hk,Option.bind_some,ab (by omega:k<4611686018427387904)]
   have:=(h2.bs k hk).1
   cases hfa:aG pts k
   ·have:af (pts.getD k (0,0)).1 (if false=true then cK (av ls on) pts (·.2) k else 0)=false:=by
     simp only [Bool.false_eq_true,if_false,af,decide_eq_false_iff_not];omega
    rw [this];rfl
   ·rfl
  ·rw [qT,fO];simp only [ak,cond_false]
 ·rw [qS,fN]
  simp only [oS,au hk,ae hk,cond_true,aa,Int.toNat_natCast,jJ hk,ab (by omega:k<4611686018427387904)]
  rfl
 ·rw [qS,fN];simp only [oS,ak,cond_false]
end
theorem TY (b:Int) (ls:List Ln) (on:List Bool) (pts:List (Int×Int)) (hp:pts.length≤1048576):oA b ls on pts=some (NC b ls on pts&&cM ls on pts):=by
 obtain ⟨r,r1,r2,r3⟩:=Ue b ls on pts hp
 unfold oA
 rw [r1,Option.bind_some,r2]
 cases hv:vX b ls on pts
 ·simp only [qp,Option.bind_some,Bool.false_and]
  congr 1
  cases ho:NC b ls on pts
  ·rfl
  ·cases hg:cM ls on pts
   ·rfl
   ·have:=Nf hg
    unfold vX at hv
    rw [ho,this] at hv;cases hv
 ·obtain ⟨g1,g2,ord,g3,T⟩:=r3 hv
  have hv':=hv
  unfold vX at hv'
  rw [Bool.and_eq_true] at hv'
  obtain ⟨h1,h2⟩:=fc.1 hv'.1
  have hlp:=h2.lp
  subst hlp
  rw [g1,g2,g3,show Zu true ls=ls from rfl,acK h1 h2 hv'.2 T,hv'.1]
  simp only [ca,Option.bind_some,Bool.true_and]
section
variable {ls:List Ln} {on:List Bool} {pts:List (Int×Int)} (h1:StOk (pts.length:Int) ls on) (h2:BusOk (pts.length:Int) ls pts)
include h1 h2
theorem Oc {k:Nat} (hk:k<pts.length):gi (pts.length:Int) ls on pts (k:Int)=some (cK (av ls on) pts (·.2) k):=by
 have hB:=h1.net.b1
 unfold gi am
 have w1:az ((pts.length:Int)-1)=(pts.length:Int)-1:=bC (by omega) (by omega)
 have c1:(aF 0 (k:Int)&&aF (k:Int) ((pts.length:Int)-1))=true:=by simp [aF];omega
 rw [Ss _ ls pts (by omega),fc.2 ⟨h1,h2⟩,Option.bind_some,w1,c1]
 simp only [Bool.not_true,Bool.not_false,ca,Option.bind_some,Bool.or_self,cond_false,IT h1 hk]
 rw [←KC]
 have hl:=Du (av ls on) pts.length k
 have hm: ∀c∈qI (av ls on) pts.length k,c<pts.length:=fun c hc=>by have:=(List.mem_filter.1 hc).1;simpa using this
 generalize qI (av ls on) pts.length k=l at*
 have hh:=ax (cX pts (zl l)) (fun j=>(((l.take j).map fun c=>(pts.getD c (0,0)).2).sum,(j:Int))) l.length (some ((l.map fun c=>(pts.getD c (0,0)).2).sum)) (by omega) (fun j fuel hj=>?_) (fun fuel=>?_)
 ·rw [show cX pts (zl l) ai (0,0)=_ from hh];rfl
 ·rw [qk,eY]
  have hc:l.getD j 0<pts.length:=hm _ (by rw [ac hj];exact List.getElem_mem hj)
  have hb:=Ru (l.take j) (fun c=>(pts.getD c (0,0)).2) (fun c hc=>(h2.bs c (hm c (List.mem_of_mem_take hc))).2)
  have hlen:(l.take j).length=j:=by rw [List.length_take];omega
  have hx:=(h2.bs _ hc).2
  rw [hlen] at hb
  have w2:az (((l.take j).map fun c=>(pts.getD c (0,0)).2).sum+(pts.getD (l.getD j 0) (0,0)).2)=((l.take j).map fun c=>(pts.getD c (0,0)).2).sum+(pts.getD (l.getD j 0) (0,0)).2:=bC (by omega) (by omega)
  simp only [bP,au hj,ae hj,cond_true,aa,Int.toNat_natCast,sU,ae hc,w2,ab (by omega:j<4611686018427387904)]
  rw [zW hj]
 ·rw [qk,eY];simp only [bP,ak,cond_false,List.take_length]
end
theorem SF {Pr:Nat→Prop} (E:Ed):(∀e∈E,Pr e.1↔Pr e.2)→ ∀ {s:Nat→Bool},(∀c,s c=true→Pr c)→ ∀c,lF E s c=true→Pr c:=by
 induction E with
 |nil=>intro _ s h c hc;exact h c hc
 |cons e E ih=>
  intro hE s h c hc
  refine ih (fun x hx=>hE x (by simp [hx])) (s:=Kp s e) (fun c hc=>?_) c hc
  unfold Kp at hc
  split at hc
  ·rename_i hs
   have he:=hE e (by simp)
   have h3:Pr e.1∧Pr e.2:=by
    rw [Bool.or_eq_true] at hs
    rcases hs with hs |hs
    ·exact ⟨h _ hs,he.1 (h _ hs)⟩
    ·exact ⟨he.2 (h _ hs),h _ hs⟩
   simp only [Bool.or_eq_true,beq_iff_eq] at hc
   rcases hc with (rfl |rfl) |hc
   ·exact h3.1
   ·exact h3.2
   ·exact h c hc
  ·exact h c hc
theorem PS {E:Ed} {B:Nat} (hE: ∀e∈E,e.1<B∧e.2<B) (s0:Nat→Bool) (c:Nat):aL E s0 B c=true↔ ∃b,s0 b=true∧Cn E b c:=by
 have hsh: ∀k,OB E (aL E s0 k)∨k≤(List.range B).countP (aL E s0 k):=by
  intro k
  induction k with
  |zero=>exact .inr (Nat.zero_le _)
  |succ k ih=>
   by_cases hs:OB E (aL E s0 k)
   ·left
    have e:aL E s0 (k+1)=aL E s0 k:=funext (IW hs)
    rw [e];exact hs
   ·rcases ih with ih |ih
    ·exact absurd ih hs
    right
    have hm: ∀c,aL E s0 k c=true→aL E s0 (k+1) c=true:=fun c hc=>pz E hc
    obtain ⟨e,he,hne⟩: ∃e∈E,aL E s0 k e.1≠aL E s0 k e.2:=by
     refine Classical.byContradiction fun hn=>hs fun e he=>Classical.byContradiction fun h=>hn ⟨e,he,h⟩
    have hor:(aL E s0 k e.1 ||aL E s0 k e.2)=true:=by
     revert hne;cases aL E s0 k e.1<;>cases aL E s0 k e.2<;>simp
    have hh:=KK E he hor
    have hlt:=hE e he
    have:=(MN (List.range B) hm).2 (by
     cases h1:aL E s0 k e.1
     ·exact ⟨e.1,by simpa using hlt.1,hh.1,h1⟩
     ·cases h2:aL E s0 k e.2
      ·exact ⟨e.2,by simpa using hlt.2,hh.2,h2⟩
      ·rw [h1,h2] at hne;exact absurd rfl hne)
    omega
 have hs:OB E (aL E s0 B):=by
  rcases hsh B with h |h
  ·exact h
  ·intro e he
   have hall: ∀x∈List.range B,aL E s0 B x=true:=by
    have h3:=List.countP_le_length (p:=aL E s0 B) (l:=List.range B)
    rw [List.length_range] at h3
    exact List.countP_eq_length.1 (by rw [List.length_range];omega)
   rw [hall e.1 (by simpa using (hE e he).1),hall e.2 (by simpa using (hE e he).2)]
 constructor
 ·intro h
  have hinv: ∀k c,aL E s0 k c=true→ ∃b,s0 b=true∧Cn E b c:=by
   intro k
   induction k with
   |zero=>intro c hc;exact ⟨c,hc,.refl _⟩
   |succ k ih=>
    refine SF E (fun e he=>?_) ih
    constructor
    ·rintro ⟨b,h1,h2⟩;exact ⟨b,h1,h2.step (.inl he)⟩
    ·rintro ⟨b,h1,h2⟩;exact ⟨b,h1,h2.step (.inr he)⟩
  exact hinv B c h
 ·rintro ⟨b,h1,h2⟩
  have hb: ∀k,aL E s0 k b=true:=by
   intro k
   induction k with
   |zero=>exact h1
   |succ k ih=>exact pz E ih
  induction h2 with
  |refl=>exact hb B
  |step _ e ih=>
   rcases e with e |e
   ·rw [←hs _ e];exact ih
   ·rw [hs _ e];exact ih
structure PI (ls:List Ln) (on:List Bool) (pts:List (Int×Int)) (q:Nat→Int):Prop where
 feed: ∀b,b<pts.length→aG pts b=true→q b= -1
 neg: ∀b,b<pts.length→q b= -1→aG pts b=true
 low: ∀b,b<pts.length→ -2≤q b
 hi: ∀b,b<pts.length→0≤q b→(q b).toNat<ls.length
 rk: ∃rk:Nat→Nat,∀b,b<pts.length→0≤q b→ ∃c,Lk ls on (q b).toNat b c∧c<pts.length∧ -2<q c∧rk c<rk b
theorem PI.put {ls:List Ln} {on:List Bool} {pts:List (Int×Int)} {q:Nat→Int} (h:PI ls on pts q) {k b c:Nat} (hb:b<pts.length) (hq:q b= -2) (hl:Lk ls on k b c) (hc:c<pts.length) (hqc: -2<q c):PI ls on pts (fun x=>if x=b then (k:Int) else q x):=by
 obtain ⟨rk,hrk⟩:=h.rk
 have hcb:c≠b:=fun e=>by subst e;omega
 refine ⟨fun x hx hf=>?_,fun x hx he=>?_,fun x hx=>?_,fun x hx h0=>?_,fun x=>if x=b then rk c+1 else rk x,fun x hx h0=>?_⟩
 ·try dsimp only
  split
  ·rename_i e;subst e;have:=h.feed x hx hf;omega
  ·exact h.feed x hx hf
 ·try dsimp only at he
  split at he
  ·omega
  ·exact h.neg x hx he
 ·try dsimp only
  split
  ·omega
  ·exact h.low x hx
 ·try dsimp only at h0 ⊢
  split at h0
  ·rename_i e;rw [if_pos e];simpa using hl.1
  ·rename_i e;rw [if_neg e];exact h.hi x hx h0
 ·try dsimp only at h0 ⊢
  by_cases e:x=b
  ·subst e
   rw [if_pos rfl,if_pos rfl]
   refine ⟨c,by simpa using hl,hc,?_,?_⟩
   ·rw [if_neg hcb];exact hqc
   ·rw [if_neg hcb];omega
  ·rw [if_neg e] at h0 ⊢
   obtain ⟨d,d1,d2,d3,d4⟩:=hrk x hx h0
   have hdb:d≠b:=fun e2=>by subst e2;omega
   refine ⟨d,d1,d2,?_,?_⟩
   ·rw [if_neg hdb];exact d3
   ·rw [if_neg hdb,if_neg e];exact d4
theorem PI.toPar {ls:List Ln} {on:List Bool} {pts:List (Int×Int)} {q:Nat→Int} (h:PI ls on pts q) (hs: ∀c,c<pts.length→(-2<q c↔gK (av ls on) pts c=true)): ∃rk,Par ls on pts (fun b=>(lH pts.length q).getD b (-1)) rk:=by
 obtain ⟨rk,hrk⟩:=h.rk
 have hg: ∀b,b<pts.length→(lH pts.length q).getD b (-1)=q b:=fun b hb=>by simp [lH,List.getD,hb]
 refine ⟨rk,⟨fun b hb hf=>?_,fun b hb=>?_,fun b hb=>?_⟩⟩
 ·try dsimp only
  rw [hg b hb]
  have h1:=(hs b hb).2 hf
  by_cases h2:q b= -1
  ·exact .inl (h.neg b hb h2)
  ·exact .inr (by omega)
 ·have hlt:=qo hb
  try dsimp only
  rw [hg b hlt,h.feed b hlt hb];omega
 ·have hlt:b<pts.length:=by
   rcases Nat.lt_or_ge b pts.length with h1 |h1
   ·exact h1
   ·try dsimp only at hb
    rw [List.getD_eq_getElem?_getD,List.getElem?_eq_none (by rw [oS];exact h1)] at hb;simp at hb
  try dsimp only at hb ⊢
  rw [hg b hlt] at hb ⊢
  obtain ⟨c,c1,c2,c3,c4⟩:=hrk b hlt hb
  exact ⟨c,c1,c2,(hs c c2).1 c3,c4⟩
section
variable {ls:List Ln} {on:List Bool} {pts:List (Int×Int)} (h1:StOk (pts.length:Int) ls on) (h2:BusOk (pts.length:Int) ls pts)
include h1 h2
omit h2 in
theorem adv {p0:List Int} (hp0:p0.length=pts.length) {q:Nat→Int} (hq:PI ls on pts q) {s0:Nat→Bool} (hs: ∀c,c<pts.length→decide (-2<q c)=s0 c):
 ∃q',dU ls on p0 ai (lH pts.length q,0)=some (lH pts.length q')∧PI ls on pts q'∧ ∀c,c<pts.length→decide (-2<q' c)=lF (av ls on) s0 c:=by
 have hll:=h1.net.ll;have hl:=h1.len
 obtain ⟨s,⟨q',rfl,r1,r2⟩,hh⟩:=vO (dU ls on p0) (fun k s=> ∃q,s=(lH pts.length q,(k:Int))∧PI ls on pts q∧ ∀c,c<pts.length→decide (-2<q c)=lF (vU ((ls.zip on).take k)) s0 c) ls.length (fun s=>some s.1) (by omega) (by
  rintro k fuel s hk ⟨q,rfl,r1,r2⟩
  rw [rn,gF]
  have hln:=yG (h1.net.ln k hk)
  simp only [Int.toNat_natCast] at hln
  have hne:=(h1.net.ln k hk).ne
  rw [hln.1,hln.2.1] at hne
  have hlt:af (k:Int) (on.length:Int)=true:=by rw [hl];exact au hk
  simp only [hlt,ae hk,ae (show k<on.length by omega),aa,cond_true,Int.toNat_natCast,ab (by omega:k<4611686018427387904)]
  rw [hln.1,hln.2.1]
  obtain ⟨e,he⟩: ∃e,bQ (ls.getD k (0,0,0))=e:=⟨_,rfl⟩
  rw [he] at hln hne ⊢
  have hAB:e.1≠e.2:=by omega
  have xA:aq (e.1:Int) p0.length=true:=by rw [hp0];exact ae hln.2.2.1
  have xB:aq (e.2:Int) p0.length=true:=by rw [hp0];exact ae hln.2.2.2
  simp only [xA,xB,Int.toNat_natCast,Bool.or_true,aa]
  cases ho:on.getD k false
  ·simp only [Bool.false_and,cond_false,Option.bind_some]
   exact ⟨_,⟨q,rfl,r1,by rw [wL h1 hk,ho];simpa using r2⟩,rfl⟩
  ·have hlkA:Lk ls on k e.2 e.1:=⟨hk,ho,.inr he⟩
   have hlkB:Lk ls on k e.1 e.2:=⟨hk,ho,.inl he⟩
   have sA:=r2 e.1 hln.2.2.1
   have sB:=r2 e.2 hln.2.2.2
   simp only [Bool.true_and,jJ hln.2.2.1,jJ hln.2.2.2]
   by_cases c1: -2<q e.1∧q e.2= -2
   ·have g1:(af (-2) (q e.1)&&(q e.2== -2))=true:=by simp [af,c1.1,c1.2]
    obtain ⟨q1,hq1⟩: ∃q1:Nat→Int,q1=fun x=>if x=e.2 then (k:Int) else q x:=⟨_,rfl⟩
    have hset:(lH pts.length q).set e.2 (k:Int)=lH pts.length q1:=by rw [hq1];exact wI hln.2.2.2 (if_pos rfl) fun j _ hj=>if_neg hj
    have qA:q1 e.1=q e.1:=by rw [hq1];exact if_neg hAB
    have qB:q1 e.2=(k:Int):=by rw [hq1];exact if_pos rfl
    have g2:(af (-2) (k:Int)&&(q e.1== -2))=false:=by
     have:(q e.1== -2)=false:=by simp;omega
     rw [this,Bool.and_false]
    simp only [g1,cond_true,Option.bind_some,hset,jJ hln.2.2.1,jJ hln.2.2.2,qA,qB,g2,cond_false]
    subst hq1
    refine ⟨_,⟨_,rfl,r1.put hln.2.2.2 c1.2 hlkA hln.2.2.1 c1.1,fun c hc=>?_⟩,rfl⟩
    rw [wL h1 hk,ho,if_pos rfl,he,wH]
    have hor:(lF (vU ((ls.zip on).take k)) s0 e.1 ||lF (vU ((ls.zip on).take k)) s0 e.2)=true:=by rw [←sA,decide_eq_true c1.1];rfl
    unfold Kp
    rw [if_pos hor]
    try dsimp only
    by_cases hc2:c=e.2
    ·subst hc2;rw [if_pos rfl];simp;omega
    ·rw [if_neg hc2]
     by_cases hc1:c=e.1
     ·subst hc1;simp [c1.1]
     ·rw [r2 c hc];simp [hc1,hc2]
   ·have g1:(af (-2) (q e.1)&&(q e.2== -2))=false:=by
     rw [Bool.eq_false_iff];intro h;simp [af] at h;exact c1 h
    simp only [g1,cond_false,Option.bind_some,jJ hln.2.2.1,jJ hln.2.2.2]
    by_cases c2: -2<q e.2∧q e.1= -2
    ·have g2:(af (-2) (q e.2)&&(q e.1== -2))=true:=by simp [af,c2.1,c2.2]
     have hset:(lH pts.length q).set e.1 (k:Int)=lH pts.length (fun x=>if x=e.1 then (k:Int) else q x):=wI hln.2.2.1 (if_pos rfl) fun j _ hj=>if_neg hj
     simp only [g2,cond_true,Option.bind_some,hset]
     refine ⟨_,⟨_,rfl,r1.put hln.2.2.1 c2.2 hlkB hln.2.2.2 c2.1,fun c hc=>?_⟩,rfl⟩
     rw [wL h1 hk,ho,if_pos rfl,he,wH]
     have hor:(lF (vU ((ls.zip on).take k)) s0 e.1 ||lF (vU ((ls.zip on).take k)) s0 e.2)=true:=by rw [←sB,decide_eq_true c2.1,Bool.or_true]
     unfold Kp
     rw [if_pos hor]
     try dsimp only
     by_cases hc2:c=e.1
     ·subst hc2;rw [if_pos rfl];simp;omega
     ·rw [if_neg hc2]
      by_cases hc1:c=e.2
      ·subst hc1;simp [c2.1]
      ·rw [r2 c hc];simp [hc1,hc2]
    ·have g2:(af (-2) (q e.2)&&(q e.1== -2))=false:=by
      rw [Bool.eq_false_iff];intro h;simp [af] at h;exact c2 h
     simp only [g2,cond_false,Option.bind_some]
     refine ⟨_,⟨q,rfl,r1,fun c hc=>?_⟩,rfl⟩
     rw [wL h1 hk,ho,if_pos rfl,he,wH,r2 c hc]
     have lA:=r1.low e.1 hln.2.2.1
     have lB:=r1.low e.2 hln.2.2.2
     unfold Kp
     split
     ·rename_i hor
      rw [←sA,←sB,Bool.or_eq_true,decide_eq_true_eq,decide_eq_true_eq] at hor
      have hA: -2<q e.1:=by omega
      have hB: -2<q e.2:=by omega
      by_cases hc1:c=e.1
      ·subst hc1;rw [←sA];simp [hA]
      ·by_cases hc2:c=e.2
       ·subst hc2;rw [←sB];simp [hB]
       ·simp [hc1,hc2]
     ·rfl) (by
  rintro fuel s ⟨q,rfl,r1,r2⟩
  rw [rn,gF]
  have hlt:af (ls.length:Int) (on.length:Int)=false:=by rw [hl];exact ak
  simp only [hlt,cond_false]) (lH pts.length q,0) ⟨q,rfl,hq,by simpa [lF,vU] using hs⟩
 refine ⟨q',hh,r1,?_⟩
 rw [Mr h1] at r2;exact r2
omit h2 in
theorem Vn: ∃q,mg (pts.length:Int) ls on pts=some (lH pts.length q)∧PI ls on pts q∧ ∀c,c<pts.length→(-2<q c↔gK (av ls on) pts c=true):=by
 have hB:=h1.net.b1
 unfold mg
 have q0:PI ls on pts (fun b=>if aG pts b=true then-1 else-2):=by
  have e: ∀b,(aG pts b=true∧(if aG pts b=true then (-1:Int) else-2)= -1)∨(aG pts b=false∧(if aG pts b=true then (-1:Int) else-2)= -2):=fun b=>by cases h:aG pts b<;>simp
  refine ⟨fun b _ h=>if_pos h,fun b _ h=>?_,fun b _=>?_,fun b _ h=>?_,fun _=>0,fun b _ h=>?_⟩
  ·rcases e b with ⟨g,g2⟩ |⟨g,g2⟩
   ·exact g
   ·rw [g2] at h;omega
  ·rcases e b with ⟨g,g2⟩ |⟨g,g2⟩<;>rw [g2]<;>omega
  ·rcases e b with ⟨g,g2⟩ |⟨g,g2⟩<;>rw [g2] at h<;>omega
  ·rcases e b with ⟨g,g2⟩ |⟨g,g2⟩<;>rw [g2] at h<;>omega
 have l1:dT (pts.length:Int) pts ai (([]:List Int),0)=some (lH pts.length (fun b=>if aG pts b=true then-1 else-2)):=by
  have hh:=ax (dT (pts.length:Int) pts) (fun k=>(lH k (fun b=>if aG pts b=true then-1 else-2),(k:Int))) pts.length (some (lH pts.length (fun b=>if aG pts b=true then-1 else-2))) (by omega) (fun k fuel hk=>?_) (fun fuel=>?_)
  ·exact hh
  ·rw [rl,gD]
   have a1: ∀x:Int,bq (lH k (fun b=>if aG pts b=true then-1 else-2)).length ([x]:List Int).length=true:=fun x=>by rw [oS];simp [bq];omega
   have e:lH (k+1) (fun b=>if aG pts b=true then (-1:Int) else-2)=lH k (fun b=>if aG pts b=true then-1 else-2)++ [if aG pts k=true then-1 else-2]:=by simp [lH,List.range_succ]
   simp only [au hk,ae hk,cond_true,aa,Int.toNat_natCast,a1,ab (by omega:k<4611686018427387904)]
   rw [e,show af 0 (pts.getD k (0,0)).1=aG pts k from rfl]
   cases aG pts k<;>rfl
  ·rw [rl,gD];simp only [ak,cond_false]
 rw [l1,Option.bind_some]
 obtain ⟨s,⟨q,rfl,r1,r2⟩,hh⟩:=vO (iz (pts.length:Int) ls on (lH pts.length (fun b=>if aG pts b=true then-1 else-2))) (fun k s=> ∃q,s=(lH pts.length q,(k:Int))∧PI ls on pts q∧ ∀c,c<pts.length→decide (-2<q c)=aL (av ls on) (aG pts) k c) pts.length (fun s=>some s.1) (by omega) (by
  rintro k fuel s hk ⟨q,rfl,r1,r2⟩
  rw [rm,gE]
  obtain ⟨q',a1,a2,a3⟩:=adv h1 (p0:=lH pts.length (fun b=>if aG pts b=true then-1 else-2)) (oS _ _) r1 r2
  simp only [au hk,cond_true,a1,Option.bind_some,ab (by omega:k<4611686018427387904)]
  exact ⟨_,⟨q',rfl,a2,a3⟩,rfl⟩) (by
  rintro fuel s ⟨q,rfl,r1,r2⟩
  rw [rm,gE];simp only [ak,cond_false]) (lH pts.length (fun b=>if aG pts b=true then-1 else-2),0) ⟨_,rfl,q0,fun c hc=>by
   show decide (-2<if aG pts c=true then (-1:Int) else-2)=aG pts c
   cases aG pts c<;>rfl⟩
 refine ⟨q,by rw [hh];rfl,r1,fun c hc=>?_⟩
 have h3:=r2 c hc
 rw [←decide_eq_true_iff (p:= -2<q c),h3,PS (Yy h1),mB]
omit h2 in
theorem ae3 {q:Nat→Int} (hq:PI ls on pts q) {b:Nat} {w:List Nat} (hw:Way ls on (fun b=>(lH pts.length q).getD b (-1)) b w):b<pts.length→ ∀(fuel:Nat) (out:List Int),w.length<fuel→out.length+w.length≤1000→nj (pts.length:Int) ls (lH pts.length q) fuel ((b:Int),out)=some (zl w++out):=by
 have hg: ∀b,b<pts.length→(lH pts.length q).getD b (-1)=q b:=fun b hb=>by simp [lH,List.getD,hb]
 have hll:=h1.net.ll
 induction hw with
 | @top b h=>
  intro hb fuel out hf ho
  obtain ⟨g,rfl⟩: ∃g,fuel=g+1:=⟨fuel-1,by omega⟩
  rw [wR,mh]
  try dsimp only at h
  rw [hg b hb] at h
  have:aF 0 (q b)=false:=by simp only [aF,decide_eq_false_iff_not];omega
  simp only [oS,ae hb,aa,Int.toNat_natCast,jJ hb,this,cond_false]
  rfl
 | @step b c w h hlk _ ih=>
  intro hb fuel out hf ho
  obtain ⟨g,rfl⟩: ∃g,fuel=g+1:=⟨fuel-1,by omega⟩
  rw [wR,mh]
  try dsimp only at h hlk ih ⊢
  rw [hg b hb] at h hlk ⊢
  rw [List.length_append,List.length_singleton] at hf ho
  obtain ⟨rk,hrk⟩:=hq.rk
  obtain ⟨c',k1,k2,_⟩:=hrk b hb h
  obtain rfl:=Ea hlk k1
  have hge:aF 0 (q b)=true:=by simpa [aF] using h
  obtain ⟨j,hj⟩: ∃j:Nat,q b=(j:Int):=⟨(q b).toNat,by omega⟩
  have hne:=(h1.net.ln j (by rw [hj] at hlk;simpa using hlk.1)).ne
  have hlj:Lk ls on j b c:=by rw [hj] at hlk;simpa using hlk
  have hln:=yG (h1.net.ln j hlj.1)
  simp only [Int.toNat_natCast] at hln
  have ha:bq ([(q b)]:List Int).length out.length=true:=by simp [bq];omega
  have w1:az ((ls.length:Int)-1)=(ls.length:Int)-1:=bC (by omega) (by omega)
  have c1:(aF 0 (j:Int)&&aF (j:Int) ((ls.length:Int)-1))=true:=by have:=hlj.1;simp [aF];omega
  have hoe:nf (pts.length:Int) ls (q b) (b:Int)=some (c:Int):=by
   unfold nf am
   rw [XD,yJ.2 h1.net,hj,w1,c1]
   simp only [Option.bind_some,Bool.not_true,Bool.not_false,ca,Bool.or_self,cond_false,ae hlj.1,aa,Int.toNat_natCast]
   rw [hln.1,hln.2.1] at hne ⊢
   rcases hlj.2.2 with e |e
   ·rw [e];simp
   ·rw [e] at hne ⊢
    have:(((c:Nat):Int)==((b:Nat):Int))=false:=by simpa using hne
    simp [this]
  simp only [oS,ae hb,aa,Int.toNat_natCast,jJ hb,hge,cond_true,ha,hoe,Option.bind_some]
  rw [ih k2 g _ (by omega) (by simp;omega),hj,Int.toNat_natCast]
  simp [zl]
theorem Vk (hr:mH ls on pts=true):lD (pts.length:Int) ls on pts=some (lH ls.length (fm ls on pts)):=by
 have hll:=h1.net.ll;have hB:=h1.net.b1;have hl:=h1.len
 obtain ⟨q,q1,q2,q3⟩:=Vn h1
 obtain ⟨rk,P⟩:=q2.toPar q3
 have hg: ∀b,b<pts.length→(lH pts.length q).getD b (-1)=q b:=fun b hb=>by simp [lH,List.getD,hb]
 have hways: ∀b,∃w,Way ls on (fun b=>(lH pts.length q).getD b (-1)) b w:=fun b=>P.way (rk b) b (Nat.le_refl _)
 obtain ⟨wy,hwy⟩: ∃wy:Nat→List Nat,∀b,Way ls on (fun b=>(lH pts.length q).getD b (-1)) b (wy b):=⟨fun b=>Classical.choose (hways b),fun b=>Classical.choose_spec (hways b)⟩
 have hwlt: ∀b,∀k∈wy b,k<ls.length:=by
  intro b k hk
  obtain ⟨d,d1,d2,_⟩:=Way.mem P (hwy b) k hk
  obtain ⟨c,hc,_⟩:=P.line d d1
  rw [←d2];exact hc.1
 have hwnd: ∀b,(wy b).Nodup:=fun b=>Way.nodup P (hwy b)
 have hwl: ∀b,(wy b).length≤10:=fun b=>by have:=vR ls.length (wy b) (hwnd b) (hwlt b);omega
 have hf2: ∀c,c<pts.length→0≤(pts.getD c (0,0)).2∧(pts.getD c (0,0)).2≤999:=fun c hc=>(h2.bs c hc).2
 have hbd: ∀x k,k≤pts.length→0≤((List.range k).map fun b=>if x∈wy b then (pts.getD b (0,0)).2 else 0).sum∧((List.range k).map fun b=>if x∈wy b then (pts.getD b (0,0)).2 else 0).sum≤999*k:=by
  intro x k
  induction k with
  |zero=>intro _;simp
  |succ k ih=>
   intro hk
   have i1:=ih (by omega)
   have i2:=hf2 k (by omega)
   rw [List.range_succ,List.map_append,List.sum_append]
   simp only [List.map_cons,List.map_nil,List.sum_cons,List.sum_nil]
   split<;>omega
 unfold lD
 have m1:uA (on.length:Int)=true:=by simp [uA];omega
 rw [m1,aa,q1,Option.bind_some,hl]
 have hh:=ax (gG (pts.length:Int) ls (lH pts.length q) on pts) (fun k=>(lH ls.length (fun x=>((List.range k).map fun b=>if x∈wy b then (pts.getD b (0,0)).2 else 0).sum),(k:Int))) pts.length (some (lH ls.length (fm ls on pts))) (by omega) (fun k fuel hk=>?_) (fun fuel=>?_)
 ·have e0:lH ls.length (fun x=>((List.range 0).map fun b=>if x∈wy b then (pts.getD b (0,0)).2 else 0).sum)=List.replicate ls.length 0:=by rw [←Vz];rfl
  rw [e0] at hh
  rw [show gG (pts.length:Int) ls (lH pts.length q) on pts ai (List.replicate ls.length 0,0)=_ from hh];rfl
 ·rw [tP,jH]
  have hway:rH (pts.length:Int) ls (lH pts.length q) (k:Int)=some (zl (wy k)):=by
   unfold rH
   have:=hwl k
   rw [ae3 h1 q2 (hwy k) hk ai [] (pF (by omega)) (by simp;omega)];simp
  have i2:=hf2 k hk
  have hin:=ax (gH on pts (lH ls.length (fun x=>((List.range k).map fun b=>if x∈wy b then (pts.getD b (0,0)).2 else 0).sum),(k:Int)) (zl (wy k))) (fun j=>(lH ls.length (fun x=>((List.range k).map fun b=>if x∈wy b then (pts.getD b (0,0)).2 else 0).sum+if x∈(wy k).take j then (pts.getD k (0,0)).2 else 0),(j:Int))) (wy k).length (some (lH ls.length (fun x=>((List.range k).map fun b=>if x∈wy b then (pts.getD b (0,0)).2 else 0).sum+if x∈wy k then (pts.getD k (0,0)).2 else 0))) (by have:=hwl k;omega) (fun j fuel hj=>?_) (fun fuel=>?_)
  ·have e0:lH ls.length (fun x=>((List.range k).map fun b=>if x∈wy b then (pts.getD b (0,0)).2 else 0).sum+if x∈(wy k).take 0 then (pts.getD k (0,0)).2 else 0)=lH ls.length (fun x=>((List.range k).map fun b=>if x∈wy b then (pts.getD b (0,0)).2 else 0).sum):=pA fun x _=>by simp
   rw [e0] at hin
   simp only [au hk,cond_true,hway,Option.bind_some,ab (by omega:k<4611686018427387904)]
   rw [show gH on pts (lH ls.length (fun x=>((List.range k).map fun b=>if x∈wy b then (pts.getD b (0,0)).2 else 0).sum),(k:Int)) (zl (wy k)) ai (lH ls.length (fun x=>((List.range k).map fun b=>if x∈wy b then (pts.getD b (0,0)).2 else 0).sum),0)=_ from hin,Option.bind_some]
   congr 2
   refine pA fun x _=>?_
   rw [List.range_succ,List.map_append,List.sum_append];simp
  ·rw [tQ,jI]
   have hwj:(wy k).getD j 0<ls.length:=hwlt k _ (by rw [ac hj];exact List.getElem_mem hj)
   have hwo:(wy k).getD j 0<on.length:=by omega
   have hnot:(wy k).getD j 0∉(wy k).take j:=by
    intro hm
    obtain ⟨i,hi,he⟩:=List.mem_iff_getElem.1 hm
    rw [List.length_take] at hi
    rw [List.getElem_take,ac hj] at he
    have hnd:=hwnd k
    rw [List.nodup_iff_pairwise_ne,List.pairwise_iff_getElem] at hnd
    exact hnd i j (by omega) hj (by omega) he
   have b1:=hbd ((wy k).getD j 0) k (by omega)
   have ws:az (((List.range k).map fun b=>if (wy k).getD j 0∈wy b then (pts.getD b (0,0)).2 else 0).sum+(if (wy k).getD j 0∈(wy k).take j then (pts.getD k (0,0)).2 else 0)+(pts.getD k (0,0)).2)=((List.range k).map fun b=>if (wy k).getD j 0∈wy b then (pts.getD b (0,0)).2 else 0).sum+(pts.getD k (0,0)).2:=by
    rw [if_neg hnot,Int.add_zero];exact bC (by omega) (by omega)
   simp only [bP,au hj,ae hj,cond_true,aa,Int.toNat_natCast,sU,ae hwo,ae hk,jJ hwj,ws,ab (by have:=hwl k;omega:j<4611686018427387904)]
   congr 2
   refine wI hwj ?_ fun x hx hne=>?_
   ·have:(wy k).getD j 0∈(wy k).take (j+1):=by rw [List.take_succ_eq_append_getElem hj,ac hj];exact List.mem_append_right _ (List.mem_singleton_self _)
    exact congrArg (fun z=>((List.range k).map fun b=>if (wy k).getD j 0∈wy b then (pts.getD b (0,0)).2 else 0).sum+z) (if_pos this)
   ·have:x∈(wy k).take (j+1)↔x∈(wy k).take j:=by
     rw [List.take_succ_eq_append_getElem hj,List.mem_append,List.mem_singleton]
     constructor
     ·rintro (h |h)
      ·exact h
      ·exact absurd (h.trans (ac hj).symm) hne
     ·exact .inl
    simp only [this]
  ·rw [tQ,jI];simp only [bP,ak,cond_false,List.take_length]
 ·rw [tP,jH]
  simp only [ak,cond_false]
  congr 1
  refine pA fun x hx=>qw fun b hb=>?_
  cases hf:gK (av ls on) pts b
  ·have hn:x∉wy b:=by
    have hwb:=hwy b
    generalize wy b=w at hwb
    cases hwb with
    |top _=>simp
    |step u1 u2 _=>rw [Up.fed P ⟨u1,u2⟩] at hf;cases hf
   simp [hn]
  ·have:=Way.iff P hl hr (hwy b) hb hf (k:=x)
   cases hx2:gK (av ls (on.set x false)) pts b
   ·rw [if_pos (this.2 hx2)];simp
   ·rw [if_neg fun hm=>by have:=this.1 hm;rw [hx2] at this;cases this];simp
theorem ado (hr:mH ls on pts=true):pV (pts.length:Int) ls on pts=some (cM ls on pts):=by
 have hll:=h1.net.ll;have hB:=h1.net.b1;have hl:=h1.len
 unfold pV cM
 rw [hr]
 have a1:=bU (iQ (pts.length:Int) ls on pts) (fun k=>(k:Int)) pts.length (fun b=>aG pts b&&decide ((pts.getD b (0,0)).1<cK (av ls on) pts (·.2) b)) (some (.inr false)) (some (.inl ())) (by omega) (fun k fuel hk=>?_) (fun fuel=>?_)
 ·rw [show iQ (pts.length:Int) ls on pts ai 0=_ from a1]
  have a2:pW (pts.length:Int) ls on pts=some (zl ((List.range ls.length).filter fun k=>decide ((ls.getD k (0,0,0)).2.2<fm ls on pts k))):=by
   unfold pW
   rw [Vk h1 h2 hr,Option.bind_some]
   have hh:=nE (mi ls on (lH ls.length (fm ls on pts))) ls.length (fun k=>decide ((ls.getD k (0,0,0)).2.2<fm ls on pts k)) some (by omega) (fun k fuel l hk ha=>?_) (fun fuel l=>?_)
   ·rw [hh];rfl
   ·rw [vd,kQ]
    have hlt:af (k:Int) (on.length:Int)=true:=by rw [hl];exact au hk
    simp only [hlt,cond_true,oS,ae hk,aa,Int.toNat_natCast,jJ hk,ha,ab (by omega:k<4611686018427387904)]
    show Option.bind (bif decide ((ls.getD k (0,0,0)).2.2<fm ls on pts k) then _ else _) _=_
    cases decide ((ls.getD k (0,0,0)).2.2<fm ls on pts k)<;>rfl
   ·rw [vd,kQ]
    have hlt:af (ls.length:Int) (on.length:Int)=false:=by rw [hl];exact ak
    simp only [hlt,cond_false]
  rw [a2]
  have a3:(((zl ((List.range ls.length).filter fun k=>decide ((ls.getD k (0,0,0)).2.2<fm ls on pts k))).length:Int)==0)= !(List.range ls.length).any fun k=>decide ((ls.getD k (0,0,0)).2.2<fm ls on pts k):=by
   rw [Bool.eq_iff_iff,bP,beq_iff_eq,Bool.not_eq_true',List.any_eq_false]
   constructor
   ·intro h k hk hc
    have:=List.length_pos_of_mem (List.mem_filter (p:=fun k=>decide ((ls.getD k (0,0,0)).2.2<fm ls on pts k)).2 ⟨hk,hc⟩)
    omega
   ·intro h
    have:(List.range ls.length).filter (fun k=>decide ((ls.getD k (0,0,0)).2.2<fm ls on pts k))=[]:=List.filter_eq_nil_iff.2 h
    rw [this];rfl
  rw [Bool.true_and]
  cases (List.range pts.length).any fun b=>aG pts b&&decide ((pts.getD b (0,0)).1<cK (av ls on) pts (·.2) b)
  ·simp only [cond_false,Option.bind_some,Sum.elim_inl,a3,Bool.not_false,Bool.and_true]
  ·simp only [cond_true,Option.bind_some,Sum.elim_inr,Bool.not_true,Bool.and_false]
 ·rw [uZ,kP]
  simp only [au hk,ae hk,cond_true,aa,Int.toNat_natCast,Oc h1 h2 hk,Bool.or_true,ab (by omega:k<4611686018427387904)]
  rw [show af 0 (pts.getD k (0,0)).1=aG pts k from rfl]
  cases aG pts k<;>rfl
 ·rw [uZ,kP];simp only [ak,cond_false]
end
theorem Vl (b:Int) (ls:List Ln) (on:List Bool) (pts:List (Int×Int)) (hp:pts.length≤1048576):oI b ls on pts=some (NC b ls on pts&&cM ls on pts):=by
 unfold oI
 rw [Hl b ls on pts hp,Option.bind_some]
 cases hv:vX b ls on pts
 ·simp only [qp,Option.bind_some,Bool.false_and]
  congr 1
  cases ho:NC b ls on pts
  ·rfl
  ·cases hg:cM ls on pts
   ·rfl
   ·have:=Nf hg
    unfold vX at hv
    rw [ho,this] at hv;cases hv
 ·have hv':=hv
  unfold vX at hv'
  rw [Bool.and_eq_true] at hv'
  obtain ⟨h1,h2⟩:=fc.1 hv'.1
  have hlp:=h2.lp
  subst hlp
  rw [ado h1 h2 hv'.2,hv'.1]
  simp only [ca,Option.bind_some,Bool.true_and]
theorem Oe (E:Ed) (pts:List (Int×Int)) (f:Int×Int→Int) (p:Nat→Bool) (hl: ∀c,c<pts.length→aO E c<8): ∀k,k≤pts.length→((List.range 8).map fun j=>if p j=true then mw E pts f k j else 0).sum=((List.range k).map fun c=>if p (aO E c)=true then f (pts.getD c (0,0)) else 0).sum
 |0,_=>by
  rw [yU fun j _=>by rw [Vv];simp];rfl
 |k+1,hk=>by
  have ih:=Oe E pts f p hl k (by omega)
  have hlk:=hl k (by omega)
  rw [Rv (g:=fun j=>if p j=true then mw E pts f k j else 0) (h:=fun j=>if j=aO E k then (if p j=true then f (pts.getD k (0,0)) else 0) else 0) (fun j _=>by
   rw [Mn]
   by_cases h1:p j=true
   ·rw [if_pos h1,if_pos h1]
    by_cases h2:aO E k=j
    ·rw [if_pos h2,if_pos h2.symm,if_pos h1]
    ·rw [if_neg h2,if_neg (Ne.symm h2)]
   ·rw [if_neg h1,if_neg h1];simp [h1]),ih,Rs (fun j=>if p j=true then f (pts.getD k (0,0)) else 0) hlk,List.range_succ,List.map_append,List.sum_append]
  simp
theorem Vq {E:Ed} {pts:List (Int×Int)} (hl: ∀c,c<pts.length→aO E c<8):((List.range 8).map fun j=>if aF (mw E pts (·.2) pts.length j) (mw E pts (·.1) pts.length j)=true then mw E pts (·.2) pts.length j else 0).sum=aC E pts:=by
 rw [Oe E pts (·.2) (fun j=>aF (mw E pts (·.2) pts.length j) (mw E pts (·.1) pts.length j)) hl pts.length (Nat.le_refl _)]
 unfold aC
 refine qw fun b hb=>?_
 rw [PQ,PQ]
 by_cases h:mw E pts (·.2) pts.length (aO E b)≤mw E pts (·.1) pts.length (aO E b)
 ·rw [if_pos h,if_pos (show aF _ _=true from decide_eq_true h)]
 ·rw [if_neg h,if_neg (by simp only [aF,decide_eq_true_eq];exact h)]
theorem Uo {b:Int} {ls:List Ln} {pts:List (Int×Int)} (h:BusOk b ls pts) (E:Ed): ∀c,c<pts.length→aO E c<8:=by
 intro c hc
 have h1:=(Un E).1 c
 have:=(JV h).1
 omega
theorem QB {b:Int} {ls:List Ln} {on:List Bool} {pts:List (Int×Int)} (h1:StOk b ls on) (h2:BusOk b ls pts):fJ b ls on pts=some (aC (av ls on) pts):=by
 have hl8:=Uo h2 (av ls on)
 obtain ⟨b1,b2⟩:=JV h2
 unfold fJ
 rw [Ye h1 h2,Option.bind_some,←Vq hl8]
 have hb: ∀j,0≤mw (av ls on) pts (·.2) pts.length j∧mw (av ls on) pts (·.2) pts.length j≤7992:=fun j=>by
  have:=wG (av ls on) pts (·.2) (fun c hc=>(h2.bs c hc).2) j pts.length (Nat.le_refl _);omega
 generalize hS:mw (av ls on) pts (·.2) pts.length=S at*
 generalize mw (av ls on) pts (·.1) pts.length=F at*
 have hbd: ∀k,0≤((List.range k).map fun j=>if aF (S j) (F j)=true then S j else 0).sum∧((List.range k).map fun j=>if aF (S j) (F j)=true then S j else 0).sum≤7992*k:=by
  intro k
  induction k with
  |zero=>simp
  |succ k ih=>
   have:=hb k
   rw [List.range_succ,List.map_append,List.sum_append]
   simp only [List.map_cons,List.map_nil,List.sum_cons,List.sum_nil]
   split<;>omega
 have hh:=ax (cS (Vy F S)) (fun k=>(((List.range k).map fun j=>if aF (S j) (F j)=true then S j else 0).sum,(k:Int))) 8 (some (((List.range 8).map fun j=>if aF (S j) (F j)=true then S j else 0).sum)) (by omega) (fun k fuel hk=>?_) (fun fuel=>?_)
 ·rw [show cS (Vy F S) ai (0,0)=_ from hh];rfl
 ·rw [qd,eL]
  have i1:=hbd k
  have i2:=hb k
  have w1:az (((List.range k).map fun j=>if aF (S j) (F j)=true then S j else 0).sum+S k)=((List.range k).map fun j=>if aF (S j) (F j)=true then S j else 0).sum+S k:=bC (by omega) (by omega)
  have hlt:af (k:Int) 8=true:=decide_eq_true (by omega)
  dsimp only [Vy]
  simp only [hlt,ae hk,cond_true,aa,Int.toNat_natCast,Zh _ hk,w1,ab (by omega:k<4611686018427387904)]
  have e:((List.range (k+1)).map fun j=>if aF (S j) (F j)=true then S j else 0).sum=((List.range k).map fun j=>if aF (S j) (F j)=true then S j else 0).sum+(if aF (S k) (F k)=true then S k else 0):=by
   rw [List.range_succ,List.map_append,List.sum_append];simp
  rw [e]
  cases aF (S k) (F k)<;>simp only [cond_false,cond_true,Option.bind_some,Bool.false_eq_true,if_false,if_true,Int.add_zero,Int.natCast_add,Int.natCast_one,Int.ofNat_one]
 ·rw [qd,eL];rfl
theorem qu {b:Int} {ls:List Ln} {pts:List (Int×Int)} (h:BusOk b ls pts) (E:Ed):0≤aC E pts∧aC E pts≤7992:=by
 obtain ⟨b1,b2⟩:=JV h
 have: ∀k,k≤pts.length→0≤((List.range k).map fun b=>if cK E pts (·.2) b≤cK E pts (·.1) b then (pts.getD b (0,0)).2 else 0).sum∧((List.range k).map fun b=>if cK E pts (·.2) b≤cK E pts (·.1) b then (pts.getD b (0,0)).2 else 0).sum≤999*k:=by
  intro k
  induction k with
  |zero=>intro _;simp
  |succ k ih=>
   intro hk
   have i1:=ih (by omega)
   have i2:=(h.bs k (by omega)).2
   rw [List.range_succ,List.map_append,List.sum_append]
   simp only [List.map_cons,List.map_nil,List.sum_cons,List.sum_nil]
   split<;>omega
 have h2:=this pts.length (Nat.le_refl _)
 unfold aC
 omega
theorem Rp {ls:List Ln} {on:List Bool} {pts:List (Int×Int)} (h1:StOk (pts.length:Int) ls on) (h2:BusOk (pts.length:Int) ls pts):cd (pts.length:Int) ls on pts=some (aC (av ls on) pts):=by
 obtain ⟨b1,b2⟩:=JV h2
 unfold cd
 rw [Ss _ ls pts (by omega),fc.2 ⟨h1,h2⟩,Option.bind_some,cond_true]
 have hbd: ∀k,k≤pts.length→0≤((List.range k).map fun b=>if cK (av ls on) pts (·.2) b≤cK (av ls on) pts (·.1) b then (pts.getD b (0,0)).2 else 0).sum∧((List.range k).map fun b=>if cK (av ls on) pts (·.2) b≤cK (av ls on) pts (·.1) b then (pts.getD b (0,0)).2 else 0).sum≤999*k:=by
  intro k
  induction k with
  |zero=>intro _;simp
  |succ k ih=>
   intro hk
   have i1:=ih (by omega)
   have i2:=(h2.bs k (by omega)).2
   rw [List.range_succ,List.map_append,List.sum_append]
   simp only [List.map_cons,List.map_nil,List.sum_cons,List.sum_nil]
   split<;>omega
 have hh:=ax (cY (pts.length:Int) ls on pts) (fun k=>(((List.range k).map fun b=>if cK (av ls on) pts (·.2) b≤cK (av ls on) pts (·.1) b then (pts.getD b (0,0)).2 else 0).sum,(k:Int))) pts.length (some (aC (av ls on) pts)) (by omega) (fun k fuel hk=>?_) (fun fuel=>?_)
 ·rw [show cY (pts.length:Int) ls on pts ai (0,0)=_ from hh];rfl
 ·rw [ql,eZ]
  have i1:=hbd k (by omega)
  have i2:=(h2.bs k hk).2
  have w1:az (((List.range k).map fun b=>if cK (av ls on) pts (·.2) b≤cK (av ls on) pts (·.1) b then (pts.getD b (0,0)).2 else 0).sum+(pts.getD k (0,0)).2)=((List.range k).map fun b=>if cK (av ls on) pts (·.2) b≤cK (av ls on) pts (·.1) b then (pts.getD b (0,0)).2 else 0).sum+(pts.getD k (0,0)).2:=bC (by omega) (by omega)
  simp only [au hk,cond_true,Ob h1 h2 hk,Oc h1 h2 hk,Option.bind_some,ae hk,aa,Int.toNat_natCast,w1,ab (by omega:k<4611686018427387904)]
  have e:((List.range (k+1)).map fun b=>if cK (av ls on) pts (·.2) b≤cK (av ls on) pts (·.1) b then (pts.getD b (0,0)).2 else 0).sum=((List.range k).map fun b=>if cK (av ls on) pts (·.2) b≤cK (av ls on) pts (·.1) b then (pts.getD b (0,0)).2 else 0).sum+(if cK (av ls on) pts (·.2) k≤cK (av ls on) pts (·.1) k then (pts.getD k (0,0)).2 else 0):=by
   rw [List.range_succ,List.map_append,List.sum_append];simp
  rw [e]
  by_cases h:cK (av ls on) pts (·.2) k≤cK (av ls on) pts (·.1) k
  ·rw [show aF (cK (av ls on) pts (·.2) k) (cK (av ls on) pts (·.1) k)=true from decide_eq_true h,if_pos h];simp only [cond_true,Option.bind_some,Int.natCast_add,Int.natCast_one]
  ·rw [show aF (cK (av ls on) pts (·.2) k) (cK (av ls on) pts (·.1) k)=false from decide_eq_false h,if_neg h];simp only [cond_false,Option.bind_some,Int.add_zero,Int.natCast_add,Int.natCast_one]
 ·rw [ql,eZ];simp only [ak,cond_false];rfl
section
variable {a c:List Bool} (hl:a.length=c.length) (ha:a.length≤1048576)
include hl ha
theorem TW:oz a c=some (zl (bg a c)):=by
 unfold oz
 have e:((a.length:Int) !=(c.length:Int))=false:=by rw [hl];simp
 rw [e]
 have hh:=nE (kf a c) a.length (fun k=>a.getD k false !=c.getD k false) some (by omega) (fun k fuel l hk hp=>?_) (fun fuel l=>?_)
 ·rw [hh];rfl
 ·rw [tv,iY]
  simp only [au hk,ae hk,ae (show k<c.length by omega),cond_true,aa,Int.toNat_natCast,hp,ab (by omega:k<4611686018427387904)]
  cases a.getD k false !=c.getD k false<;>rfl
 ·rw [tv,iY];simp only [ak,cond_false]
theorem Oa:iJ a c=some (zl (bg a c)):=by
 unfold iJ
 have e:((a.length:Int)==(c.length:Int))=true:=by rw [hl];simp
 have hh:=nE (kK a c) a.length (fun k=>a.getD k false !=c.getD k false) some (by omega) (fun k fuel l hk hp=>?_) (fun fuel l=>?_)
 ·rw [hh];rfl
 ·rw [tE,ju]
  simp only [au hk,e,Bool.and_self,ae hk,ae (show k<c.length by omega),cond_true,aa,Int.toNat_natCast,hp,ab (by omega:k<4611686018427387904)]
  cases a.getD k false !=c.getD k false<;>rfl
 ·rw [tE,ju];simp only [ak,Bool.false_and,cond_false]
end
theorem Tk (a c:List Bool):(bg a c).length≤a.length:=by
 unfold bg
 have:=List.length_filter_le (fun k=>a.getD k false !=c.getD k false) (List.range a.length)
 rwa [List.length_range] at this
theorem EH {n:Nat} (h:n≤10):sX .i64 1 (n:Int)=((2 ^ n:Nat):Int):=by
 have:n=0∨n=1∨n=2∨n=3∨n=4∨n=5∨n=6∨n=7∨n=8∨n=9∨n=10:=by omega
 rcases this with rfl |rfl |rfl |rfl |rfl |rfl |rfl |rfl |rfl |rfl |rfl<;>decide
theorem XF {x k:Nat} (hk:k≤64):ka .i64 (x:Int) (k:Int)=((x>>>k:Nat):Int):=by
 unfold ka
 rw [show min (k:Int).toNat (IntKind.bits .i64)=k by rw [Int.toNat_natCast];exact Nat.min_eq_left hk,Nat.shiftRight_eq_div_pow]
 rw [Int.fdiv_eq_ediv_of_nonneg _ (by exact Int.le_of_lt (Int.pow_pos (by decide)))]
 norm_cast
theorem Wb {x:Nat} (h:x<4611686018427387904):pC .i64 (x:Int) 1=((x % 2:Nat):Int):=by
 have e:pC .i64 (x:Int) 1=az ((BitVec.ofInt 64 (x:Int)&&&BitVec.ofInt 64 1).toNat:Int):=rfl
 have h1:(BitVec.ofInt 64 (x:Int)).toNat=x:=by rw [BitVec.ofInt_natCast,BitVec.toNat_ofNat,Nat.mod_eq_of_lt (by omega)]
 have h2:(BitVec.ofInt 64 1).toNat=1:=by decide
 rw [e,BitVec.toNat_and,h1,h2,Nat.and_one_is_mod,bC (by omega) (by omega)]
theorem Wi {x k:Nat} (hx:x<4611686018427387904) (hk:k≤64):(pC .i64 (ka .i64 (x:Int) (k:Int)) 1==1)=x.testBit k:=by
 have h1:x>>>k≤x:=Nat.shiftRight_le x k
 rw [XF hk,Wb (by omega)]
 rw [Nat.testBit,Nat.one_and_eq_mod_two]
 rcases Nat.mod_two_eq_zero_or_one (x>>>k) with h |h<;>rw [h]<;>rfl
theorem Uc {x n:Nat} (hx:x<4611686018427387904) (hn:n≤10):oC (x:Int) (n:Int)=some (bd n x):=by
 unfold oC
 have hm:uA (n:Int)=true:=by simp [uA];omega
 rw [hm,aa,Int.toNat_natCast]
 have hh:=ax (fK (x:Int) (n:Int)) (fun k=>(mix n k (fun i=>x.testBit i) (fun _=>false),(k:Int))) n (some (bd n x)) (by omega) (fun k fuel hk=>?_) (fun fuel=>?_)
 ·have e:mix n 0 (fun i=>x.testBit i) (fun _=>false)=List.replicate n false:=by
   apply List.ext_getElem (by simp [mix])
   intro i h1 h2
   simp [mix]
  rw [e] at hh
  rw [show fK (x:Int) (n:Int) ai (List.replicate n false,0)=_ from hh];rfl
 ·rw [tx,je]
  have hnn:qt (k:Int)=true:=by simp [qt]
  simp only [Int.toNat_natCast,au hk,hnn,ae hk,cond_true,aa,Wi hx (by omega:k≤64),ab (by omega:k<4611686018427387904)]
  rw [Xc (f:=fun i=>x.testBit i) (g:=fun _=>false) hk]
 ·rw [tx,je]
  simp only [Int.toNat_natCast,ak,cond_false]
  congr 1
  unfold mix bd
  refine List.map_congr_left fun i hi=>?_
  rw [if_pos (by simpa using hi)]
theorem Vp {x n:Nat} (hx:x<2 ^ n) (hn:n≤10):oM (x:Int) (n:Int)=some (bd n x,true):=by
 have hp:2 ^ n≤1024:=by
  have:=Nat.pow_le_pow_right (show 0<2 by decide) hn
  omega
 unfold oM am
 have c1:(aF 0 (n:Int)&&aF (n:Int) 10)=true:=by simp [aF];omega
 have hnn:qt (n:Int)=true:=by simp [qt]
 have w1:az (((2 ^ n:Nat):Int)-1)=((2 ^ n:Nat):Int)-1:=bC (by omega) (by omega)
 have c2:(aF 0 (x:Int)&&aF (x:Int) (((2 ^ n:Nat):Int)-1))=true:=by simp only [aF,Bool.and_eq_true,decide_eq_true_eq];omega
 rw [c1,hnn,EH hn,w1,c2]
 simp only [Option.bind_some,Bool.not_true,Bool.not_false,Bool.or_true,aa,ca,Bool.or_self,cond_false]
 have hh:=ax (gq (n:Int)) (fun k=>(((x>>>k:Nat):Int),(List.range k).map (fun i=>x.testBit i),(k:Int))) n (some (bd n x)) (by omega) (fun k fuel hk=>?_) (fun fuel=>?_)
 ·rw [show gq (n:Int) ai ((x:Int),([]:List Bool),0)=_ from hh];rfl
 ·rw [tJ,jA]
  have hle:x>>>k≤x:=Nat.shiftRight_le x k
  have ha: ∀z:Bool,bq ((List.range k).map (fun i=>x.testBit i)).length ([z]:List Bool).length=true:=fun z=>by simp [bq];omega
  have t1:Int.tmod ((x>>>k:Nat):Int) 2=((x>>>k % 2:Nat):Int):=by rw [Int.tmod_eq_emod_of_nonneg (Int.natCast_nonneg _)];norm_cast
  have t2:az (Int.tdiv ((x>>>k:Nat):Int) 2)=((x>>>(k+1):Nat):Int):=by
   rw [Int.tdiv_eq_ediv_of_nonneg (Int.natCast_nonneg _),Nat.shiftRight_succ]
   generalize x>>>k=y at hle ⊢
   rw [bC (by omega) (by omega)];norm_cast
  have t3:((((x>>>k % 2:Nat):Int))==1)=x.testBit k:=by
   rw [Nat.testBit,Nat.one_and_eq_mod_two]
   rcases Nat.mod_two_eq_zero_or_one (x>>>k) with h |h<;>rw [h]<;>rfl
  simp only [au hk,cond_true,ha,aa,t1,t2,t3,ab (by omega:k<4611686018427387904)]
  rw [List.range_succ,List.map_append];rfl
 ·rw [tJ,jA];simp only [ak,cond_false];rfl
def Eb (E:List Bool→Int) (C:List Bool→Nat):Option (List Bool)→List Bool×Int×Int
 |none=>([],-1,0)
 |some y=>(y,E y,(C y:Int))
def UI:Option (List Bool)→List Bool×Bool
 |none=>([],false)
 |some y=>(y,true)
theorem and_zero (x:Int):pC .i64 x 0=0:=by
 unfold pC
 rw [show BitVec.ofInt (IntKind.bits .i64) 0=0#(IntKind.bits .i64) from rfl,BitVec.and_zero];rfl
section
variable {ls:List Ln} {on:List Bool} {pts:List (Int×Int)} (h1:StOk (pts.length:Int) ls on) (h2:BusOk (pts.length:Int) ls pts) (h0:1≤ls.length)
include h1 h2 h0
theorem Ka (num:Nat):StOk (pts.length:Int) ls (bd ls.length num)∧(on.length=(bd ls.length num).length)∧NC (pts.length:Int) ls (bd ls.length num) pts=true:=by
 have e:(bd ls.length num).length=ls.length:=IY _ _
 have hs:StOk (pts.length:Int) ls (bd ls.length num):=⟨h1.net,e⟩
 exact ⟨hs,h1.len.trans e.symm,fc.2 ⟨hs,h2⟩⟩
theorem JW (num:Nat):iU (fun x=>cM ls x pts) (fun x=>aC (av ls x) pts) (fun x=>(bg on x).length) ((List.range (num+1)).map (bd ls.length))=zx (fun x=>cM ls x pts) (fun x=>aC (av ls x) pts) (fun x=>(bg on x).length) (iU (fun x=>cM ls x pts) (fun x=>aC (av ls x) pts) (fun x=>(bg on x).length) ((List.range num).map (bd ls.length))) (bd ls.length num):=by
 rw [List.range_succ,List.map_append];exact Gf _ _ _ _ _
theorem acG:lM (pts.length:Int) ls on pts []=some (UI (oY ls on pts)):=by
 have hll:=h1.net.ll;have hB:=h1.net.b1;have hl:=h1.len
 have hp:2 ^ ls.length≤1024:=by
  have:=Nat.pow_le_pow_right (show 0<2 by decide) hll
  omega
 unfold lM
 have l1:ry (pts.length:Int) ls [] ai (0,0)=some 0:=by rw [Fa];rfl
 have hnn:qt (ls.length:Int)=true:=by simp [qt]
 rw [WL _ ls pts (by omega),fc.2 ⟨h1,h2⟩,Option.bind_some,cond_true,l1,Option.bind_some,hnn,aa]
 have hh:=ax (dD (pts.length:Int) ls on pts 0) (fun num=>((Eb (fun x=>aC (av ls x) pts) (fun x=>(bg on x).length) (iU (fun x=>cM ls x pts) (fun x=>aC (av ls x) pts) (fun x=>(bg on x).length) ((List.range num).map (bd ls.length)))).1,(Eb (fun x=>aC (av ls x) pts) (fun x=>(bg on x).length) (iU (fun x=>cM ls x pts) (fun x=>aC (av ls x) pts) (fun x=>(bg on x).length) ((List.range num).map (bd ls.length)))).2.1,(Eb (fun x=>aC (av ls x) pts) (fun x=>(bg on x).length) (iU (fun x=>cM ls x pts) (fun x=>aC (av ls x) pts) (fun x=>(bg on x).length) ((List.range num).map (bd ls.length)))).2.2,(num:Int))) (2 ^ ls.length)
  (some (Eb (fun x=>aC (av ls x) pts) (fun x=>(bg on x).length) (oY ls on pts)).1) (by omega) (fun num fuel hk=>?_) (fun fuel=>?_)
 ·rw [show dD (pts.length:Int) ls on pts 0 ai (([]:List Bool),-1,0,0)=_ from hh,Option.bind_some]
  cases hb:oY ls on pts with
  |none=>rfl
  |some y=>
   have:=(zY hb).1
   cases y with
   |nil=>simp at this;omega
   |cons z y=>rfl
 ·rw [qK,fw,JW h1 h2 h0]
  obtain ⟨f1,f2,f3⟩:=Ka h1 h2 h0 num
  have hsv:=qu h2 (av ls (bd ls.length num))
  have hcl:(zl (bg on (bd ls.length num))).length=(bg on (bd ls.length num)).length:=bP _
  have hlt:af (num:Int) ((2 ^ ls.length:Nat):Int)=true:=au hk
  have hne:(!(List.isEmpty (bd ls.length num)))=true:=by
   have:(bd ls.length num).length=ls.length:=IY _ _
   cases hst:bd ls.length num with
   |nil=>rw [hst] at this;simp at this;omega
   |cons=>rfl
  simp only [EH hll,hlt,cond_true,and_zero,Uc (show num<4611686018427387904 by omega) hll,Option.bind_some,QB f1 h2,TW f2 (by omega),TY _ ls _ pts (by omega),f3,Bool.true_and,hcl,hne,aa,ab (by omega:num<4611686018427387904)]
  generalize iU (fun x=>cM ls x pts) (fun x=>aC (av ls x) pts) (fun x=>(bg on x).length) ((List.range num).map (bd ls.length))=a
  have e0:((0:Int) !=0)=false:=rfl
  simp only [e0,cond_false]
  cases a with
  |none=>
   dsimp only [Eb]
   have c1:af (aC (av ls (bd ls.length num)) pts) (-1)=false:=decide_eq_false (by omega)
   have c2:af (-1) (aC (av ls (bd ls.length num)) pts)=true:=decide_eq_true (by omega)
   have hb:zx (fun x=>cM ls x pts) (fun x=>aC (av ls x) pts) (fun x=>(bg on x).length) none (bd ls.length num)=if cM ls (bd ls.length num) pts=true then some (bd ls.length num) else none:=by
    unfold zx Fd;simp only [Bool.and_true]
   simp only [c1,c2,cond_false,Bool.true_or,ca,Option.bind_some,Bool.true_and,hb]
   generalize cM ls (bd ls.length num) pts=g
   cases g<;>rfl
  |some z=>
   have hb:zx (fun x=>cM ls x pts) (fun x=>aC (av ls x) pts) (fun x=>(bg on x).length) (some z) (bd ls.length num)=if (cM ls (bd ls.length num) pts&&(decide (aC (av ls z) pts<aC (av ls (bd ls.length num)) pts) ||(decide (aC (av ls z) pts=aC (av ls (bd ls.length num)) pts)&&decide ((bg on (bd ls.length num)).length<(bg on z).length))))=true then some (bd ls.length num) else some z:=rfl
   rw [hb]
   dsimp only [Eb]
   generalize cM ls (bd ls.length num) pts=g
   by_cases c1:aC (av ls (bd ls.length num)) pts<aC (av ls z) pts
   ·have d1:decide (aC (av ls z) pts<aC (av ls (bd ls.length num)) pts)=false:=decide_eq_false (by omega)
    have d2:decide (aC (av ls z) pts=aC (av ls (bd ls.length num)) pts)=false:=decide_eq_false (by omega)
    rw [show af (aC (av ls (bd ls.length num)) pts) (aC (av ls z) pts)=true from decide_eq_true c1]
    simp only [cond_true,Option.bind_some,d1,d2,Bool.false_and,Bool.or_self,Bool.and_false,Bool.false_eq_true,if_false]
   ·rw [show af (aC (av ls (bd ls.length num)) pts) (aC (av ls z) pts)=false from decide_eq_false c1]
    have d3:(af (aC (av ls z) pts) (aC (av ls (bd ls.length num)) pts) ||af ((bg on (bd ls.length num)).length:Int) ((bg on z).length:Int))=(decide (aC (av ls z) pts<aC (av ls (bd ls.length num)) pts) ||(decide (aC (av ls z) pts=aC (av ls (bd ls.length num)) pts)&&decide ((bg on (bd ls.length num)).length<(bg on z).length))):=by
     rw [Bool.eq_iff_iff];simp only [af,Bool.or_eq_true,Bool.and_eq_true,decide_eq_true_eq];omega
    simp only [cond_false,d3]
    generalize (decide (aC (av ls z) pts<aC (av ls (bd ls.length num)) pts) ||(decide (aC (av ls z) pts=aC (av ls (bd ls.length num)) pts)&&decide ((bg on (bd ls.length num)).length<(bg on z).length)))=d
    cases d<;>cases g<;>rfl
 ·rw [qK,fw]
  simp only [EH hll,ak,cond_false]
  rfl
theorem adl:mb (pts.length:Int) ls on pts []=some (UI (oY ls on pts)):=by
 have hll:=h1.net.ll;have hB:=h1.net.b1;have hl:=h1.len
 have hp:2 ^ ls.length≤1024:=by
  have:=Nat.pow_le_pow_right (show 0<2 by decide) hll
  omega
 unfold mb
 rw [Ss _ ls pts (by omega),fc.2 ⟨h1,h2⟩,Option.bind_some,cond_true]
 have hh:=ax (dL (pts.length:Int) ls on pts []) (fun num=>((Eb (fun x=>aC (av ls x) pts) (fun x=>(bg on x).length) (iU (fun x=>cM ls x pts) (fun x=>aC (av ls x) pts) (fun x=>(bg on x).length) ((List.range num).map (bd ls.length)))).1,(Eb (fun x=>aC (av ls x) pts) (fun x=>(bg on x).length) (iU (fun x=>cM ls x pts) (fun x=>aC (av ls x) pts) (fun x=>(bg on x).length) ((List.range num).map (bd ls.length)))).2.1,(Eb (fun x=>aC (av ls x) pts) (fun x=>(bg on x).length) (iU (fun x=>cM ls x pts) (fun x=>aC (av ls x) pts) (fun x=>(bg on x).length) ((List.range num).map (bd ls.length)))).2.2,(num:Int))) (2 ^ ls.length)
  (some ((Eb (fun x=>aC (av ls x) pts) (fun x=>(bg on x).length) (oY ls on pts)).1,(Eb (fun x=>aC (av ls x) pts) (fun x=>(bg on x).length) (oY ls on pts)).2.1)) (by omega) (fun num fuel hk=>?_) (fun fuel=>?_)
 ·rw [show dL (pts.length:Int) ls on pts [] ai (([]:List Bool),-1,0,0)=_ from hh,Option.bind_some]
  cases hb:oY ls on pts with
  |none=>rfl
  |some y=>
   have:=qu h2 (av ls y)
   have e:aF 0 (aC (av ls y) pts)=true:=decide_eq_true (by omega)
   dsimp only [Eb,UI]
   rw [e]
 ·rw [ra,fY,JW h1 h2 h0]
  obtain ⟨f1,f2,f3⟩:=Ka h1 h2 h0 num
  have hsv:=qu h2 (av ls (bd ls.length num))
  have hcl:(zl (bg on (bd ls.length num))).length=(bg on (bd ls.length num)).length:=bP _
  have hlt:af (num:Int) ((2 ^ ls.length:Nat):Int)=true:=au hk
  have hnn:qt (ls.length:Int)=true:=by simp [qt]
  have l2:rz on [] (bd ls.length num,true) ai (true,0)=some true:=by rw [Fa];rfl
  simp only [hnn,aa,hl,EH hll,hlt,cond_true,Vp hk hll,Option.bind_some,l2,ca,Vl _ ls _ pts (by omega),f3,Bool.true_and,Rp f1 h2,Oa f2 (by omega),hcl,pq,ab (by omega:num<4611686018427387904)]
  generalize iU (fun x=>cM ls x pts) (fun x=>aC (av ls x) pts) (fun x=>(bg on x).length) ((List.range num).map (bd ls.length))=a
  cases a with
  |none=>
   have hb:zx (fun x=>cM ls x pts) (fun x=>aC (av ls x) pts) (fun x=>(bg on x).length) none (bd ls.length num)=if cM ls (bd ls.length num) pts=true then some (bd ls.length num) else none:=by
    unfold zx Fd;simp only [Bool.and_true]
   have c2:af (-1) (aC (av ls (bd ls.length num)) pts)=true:=decide_eq_true (by omega)
   rw [hb]
   dsimp only [Eb]
   generalize cM ls (bd ls.length num) pts=g
   cases g
   ·rfl
   ·simp only [ca,Option.bind_some,cond_true,c2,Bool.true_or,if_true]
  |some z=>
   have hb:zx (fun x=>cM ls x pts) (fun x=>aC (av ls x) pts) (fun x=>(bg on x).length) (some z) (bd ls.length num)=if (cM ls (bd ls.length num) pts&&(decide (aC (av ls z) pts<aC (av ls (bd ls.length num)) pts) ||(decide (aC (av ls z) pts=aC (av ls (bd ls.length num)) pts)&&decide ((bg on (bd ls.length num)).length<(bg on z).length))))=true then some (bd ls.length num) else some z:=rfl
   have d3:(af (aC (av ls z) pts) (aC (av ls (bd ls.length num)) pts) ||((aC (av ls (bd ls.length num)) pts==aC (av ls z) pts)&&af ((bg on (bd ls.length num)).length:Int) ((bg on z).length:Int)))=(decide (aC (av ls z) pts<aC (av ls (bd ls.length num)) pts) ||(decide (aC (av ls z) pts=aC (av ls (bd ls.length num)) pts)&&decide ((bg on (bd ls.length num)).length<(bg on z).length))):=by
    rw [Bool.eq_iff_iff];simp only [af,Bool.or_eq_true,Bool.and_eq_true,decide_eq_true_eq,beq_iff_eq];omega
   rw [hb]
   dsimp only [Eb]
   generalize cM ls (bd ls.length num) pts=g
   cases g
   ·rfl
   ·simp only [ca,Option.bind_some,cond_true,d3,Bool.true_and]
    generalize (decide (aC (av ls z) pts<aC (av ls (bd ls.length num)) pts) ||(decide (aC (av ls z) pts=aC (av ls (bd ls.length num)) pts)&&decide ((bg on (bd ls.length num)).length<(bg on z).length)))=d
    cases d<;>rfl
 ·rw [ra,fY]
  have hnn:qt (on.length:Int)=true:=by simp [qt]
  simp only [hnn,aa,hl,EH hll,ak,cond_false]
  rfl
end
theorem dC {m n:Nat} (h:m+n≤1099511627776):bq m n=true:=by simp only [bq,decide_eq_true_eq];omega
def ID (a b:List Bool):List (Int×Bool):=(((List.range a.length).filter fun i=>a.getD i false&& !b.getD i false).map fun (i:Nat)=>((i:Int),false))++(((List.range a.length).filter fun i=>b.getD i false&& !a.getD i false).map fun (i:Nat)=>((i:Int),true))
def Qx (n:Nat) (p:Nat→Bool) (t:Bool):List (Int×Bool):=((List.range n).filter p).map fun (i:Nat)=>((i:Int),t)
theorem acC (n:Nat) (p:Nat→Bool) (t:Bool):Qx (n+1) p t=if p n then Qx n p t++ [((n:Int),t)] else Qx n p t:=by
 unfold Qx
 rw [List.range_succ,List.filter_append,List.filter_cons,List.filter_nil]
 cases p n<;>simp
theorem Ha (n:Nat) (p:Nat→Bool) (t:Bool):(Qx n p t).length≤n:=by
 unfold Qx
 rw [List.length_map]
 have:=List.length_filter_le p (List.range n)
 rwa [List.length_range] at this
section
variable {a c:List Bool} (hl:a.length=c.length) (ha:a.length≤10)
include hl ha
theorem Zq:oB a c=some (ID a c):=by
 unfold oB
 have e:((a.length:Int) !=(c.length:Int))=false:=by rw [hl];simp
 have e2:af 10 (a.length:Int)=false:=decide_eq_false (by omega)
 rw [e,e2]
 have hh:=ax (fC a c) (fun k=>(Qx k (fun i=>a.getD i false&& !c.getD i false) false,Qx k (fun i=>c.getD i false&& !a.getD i false) true,(k:Int))) a.length (some (Qx a.length (fun i=>a.getD i false&& !c.getD i false) false,Qx a.length (fun i=>c.getD i false&& !a.getD i false) true)) (by omega) (fun k fuel hk=>?_) (fun fuel=>?_)
 ·have g1:=Ha a.length (fun i=>a.getD i false&& !c.getD i false) false
  have g2:=Ha a.length (fun i=>c.getD i false&& !a.getD i false) true
  have ap:bq (Qx a.length (fun i=>a.getD i false&& !c.getD i false) false).length (Qx a.length (fun i=>c.getD i false&& !a.getD i false) true).length=true:=dC (by omega)
  simp only [Bool.or_self,cond_false]
  rw [show fC a c ai (([]:List (Int×Bool)),([]:List (Int×Bool)),0)=_ from hh,Option.bind_some,ap];rfl
 ·rw [tw,iZ]
  have g1:=Ha k (fun i=>a.getD i false&& !c.getD i false) false
  have g2:=Ha k (fun i=>c.getD i false&& !a.getD i false) true
  have p1: ∀x:Int×Bool,bq (Qx k (fun i=>a.getD i false&& !c.getD i false) false).length ([x]:List (Int×Bool)).length=true:=fun x=>dC (by simp only [List.length_singleton];omega)
  have p2: ∀x:Int×Bool,bq (Qx k (fun i=>c.getD i false&& !a.getD i false) true).length ([x]:List (Int×Bool)).length=true:=fun x=>dC (by simp only [List.length_singleton];omega)
  simp only [au hk,ae hk,ae (show k<c.length by omega),cond_true,aa,Bool.or_true,Int.toNat_natCast,p1,p2,acC,ab (by omega:k<4611686018427387904)]
  cases a.getD k false<;>cases c.getD k false<;>rfl
 ·rw [tw,iZ];simp only [ak,cond_false]
theorem aao:oK a c=some (ID a c):=by
 unfold oK
 have e2:af 10 (a.length:Int)=false:=decide_eq_false (by omega)
 rw [Oa hl (by omega),Option.bind_some,e2]
 have hcl:=Tk a c
 have hin: ∀k,k<(bg a c).length→(bg a c).getD k 0<a.length:=fun k hk=>by
  have:(bg a c).getD k 0∈bg a c:=by rw [ac hk];exact List.getElem_mem hk
  have:=(List.mem_filter.1 this).1
  simpa using this
 have l1:=ax (gk a (zl (bg a c))) (fun k=>((((bg a c).take k).filter fun i=>a.getD i false).map fun (i:Nat)=>((i:Int),false),(k:Int))) (bg a c).length (some (((bg a c).filter fun i=>a.getD i false).map fun (i:Nat)=>((i:Int),false))) (by omega) (fun k fuel hk=>?_) (fun fuel=>?_)
 ·have l2:=ax (gl c (zl (bg a c))) (fun k=>(((bg a c).filter fun i=>a.getD i false).map (fun (i:Nat)=>((i:Int),false))++(((bg a c).take k).filter fun i=>c.getD i false).map (fun (i:Nat)=>((i:Int),true)),(k:Int))) (bg a c).length (some (((bg a c).filter fun i=>a.getD i false).map (fun (i:Nat)=>((i:Int),false))++((bg a c).filter fun i=>c.getD i false).map (fun (i:Nat)=>((i:Int),true)))) (by omega) (fun k fuel hk=>?_) (fun fuel=>?_)
  ·have x2:gl c (zl (bg a c)) ai (((bg a c).filter fun i=>a.getD i false).map (fun (i:Nat)=>((i:Int),false)),0)=some (((bg a c).filter fun i=>a.getD i false).map (fun (i:Nat)=>((i:Int),false))++((bg a c).filter fun i=>c.getD i false).map (fun (i:Nat)=>((i:Int),true))):=by
    have:=l2;simpa using this
   simp only [cond_false]
   rw [show gk a (zl (bg a c)) ai (([]:List (Int×Bool)),0)=_ from l1,Option.bind_some,x2,Option.bind_some]
   congr 1
   unfold ID bg
   rw [List.filter_filter,List.filter_filter]
   congr 2
   ·exact List.filter_congr fun i _=>by cases a.getD i false<;>cases c.getD i false<;>rfl
   ·exact List.filter_congr fun i _=>by cases a.getD i false<;>cases c.getD i false<;>rfl
  ·rw [tH,jx]
   have hc:=hin k hk
   have g1:=List.length_filter_le (fun i=>a.getD i false) (bg a c)
   have g2:=List.length_filter_le (fun i=>c.getD i false) ((bg a c).take k)
   have g3:((bg a c).take k).length≤k:=by rw [List.length_take];omega
   have p1: ∀x:Int×Bool,bq (((bg a c).filter fun i=>a.getD i false).map (fun (i:Nat)=>((i:Int),false))++(((bg a c).take k).filter fun i=>c.getD i false).map (fun (i:Nat)=>((i:Int),true))).length ([x]:List (Int×Bool)).length=true:=fun x=>dC (by simp only [List.length_append,List.length_map,List.length_singleton];omega)
   simp only [bP,au hk,ae hk,cond_true,aa,Int.toNat_natCast,sU,ae (show (bg a c).getD k 0<c.length by omega),p1,ab (by omega:k<4611686018427387904)]
   rw [List.take_succ_eq_append_getElem hk,←ac hk (d:=0),List.filter_append,List.filter_cons,List.filter_nil]
   cases c.getD ((bg a c).getD k 0) false<;>simp
  ·rw [tH,jx];simp only [bP,ak,cond_false,List.take_length]
 ·rw [tG,jw]
  have hc:=hin k hk
  have g2:=List.length_filter_le (fun i=>a.getD i false) ((bg a c).take k)
  have g3:((bg a c).take k).length≤k:=by rw [List.length_take];omega
  have p1: ∀x:Int×Bool,bq ((((bg a c).take k).filter fun i=>a.getD i false).map (fun (i:Nat)=>((i:Int),false))).length ([x]:List (Int×Bool)).length=true:=fun x=>dC (by simp only [List.length_map,List.length_singleton];omega)
  simp only [bP,au hk,ae hk,cond_true,aa,Int.toNat_natCast,sU,ae hc,p1,ab (by omega:k<4611686018427387904)]
  rw [List.take_succ_eq_append_getElem hk,←ac hk (d:=0),List.filter_append,List.filter_cons,List.filter_nil]
  cases a.getD ((bg a c).getD k 0) false<;>simp
 ·rw [tG,jw];simp only [bP,ak,cond_false,List.take_length]
end
def EJ (on:List Bool):Option (List Bool)→List (Int×Bool)×Bool
 |none=>([],false)
 |some y=>(ID on y,true)
section
variable {ls:List Ln} {on:List Bool} {pts:List (Int×Int)} (h1:StOk (pts.length:Int) ls on) (h2:BusOk (pts.length:Int) ls pts) (h0:1≤ls.length)
include h1 h2 h0
theorem TZ:gS (pts.length:Int) ls on pts []=some (EJ on (oY ls on pts)):=by
 have hll:=h1.net.ll;have hl:=h1.len
 unfold gS
 rw [acG h1 h2 h0,Option.bind_some]
 cases hb:oY ls on pts with
 |none=>rfl
 |some y=>
  have hy:=(zY hb).1
  dsimp only [UI,EJ]
  rw [Zq (hl.trans hy.symm) (by omega)];rfl
theorem Vo:iu (pts.length:Int) ls on pts []=some (EJ on (oY ls on pts)):=by
 have hll:=h1.net.ll;have hl:=h1.len
 unfold iu
 rw [adl h1 h2 h0,Option.bind_some]
 cases hb:oY ls on pts with
 |none=>rfl
 |some y=>
  have hy:=(zY hb).1
  dsimp only [UI,EJ]
  rw [aao (hl.trans hy.symm) (by omega)];rfl
end
section
variable (on earth:List Bool) (pm:Pm) (line:Int) (ho:on.length≤1048576) (hp:pm.length≤1048576)
include ho hp
theorem Yt:dz on earth pm line=some (if nH on earth pm then cN pm line else []):=by
 unfold dz
 cases hv:nH on earth pm
 ·rw [Fa,nq,dQ]
  simp only [Mh on earth pm ho hp,hv]
  cases af (0:Int) (pm.length:Int)<;>simp [gb]
 ·have h:=ax (jB on earth pm line) (fun k=>(cN (pm.take k) line,(k:Int))) pm.length (some (cN pm line)) (by omega) (fun k fuel hk=>?_) (fun fuel=>?_)
  ·rw [show (([]:List Int),(0:Int))=(cN (pm.take 0) line,((0:Nat):Int)) from rfl,h];rfl
  ·rw [nq,dQ]
   have hb:=Ih (pm.take k) line
   have ha: ∀x:Int,bq (cN (pm.take k) line).length [x].length=true:=fun x=>by simp [bq];simp at hb;omega
   simp only [au hk,ae hk,aa,cond_true,Int.toNat_natCast,Mh on earth pm ho hp,hv,gb,Option.bind_some,Bool.and_self,ha,ab (by omega:k<4611686018427387904)]
   rw [Ko hk]
   cases (pm.getD k (0,0)).2==line<;>rfl
  ·rw [nq,dQ];simp [ak,gb]
theorem acN:mN on earth pm line=some (if nH on earth pm then cN pm line else []):=by
 unfold mN
 rw [Pb on earth pm ho hp]
 cases hv:nH on earth pm
 ·rfl
 ·have h:=ax (ja pm line) (fun k=>(cN (pm.take k) line,(k:Int))) pm.length (some (cN pm line)) (by omega) (fun k fuel hk=>?_) (fun fuel=>?_)
  ·simp only [Option.bind_some,cond_true]
   rw [show (([]:List Int),(0:Int))=(cN (pm.take 0) line,((0:Nat):Int)) from rfl,h];rfl
  ·rw [rV,gU]
   have hb:=Ih (pm.take k) line
   have ha: ∀x:Int,bq (cN (pm.take k) line).length [x].length=true:=fun x=>by simp [bq];simp at hb;omega
   simp only [au hk,ae hk,aa,cond_true,Int.toNat_natCast,ha,ab (by omega:k<4611686018427387904)]
   rw [Ko hk]
   cases (pm.getD k (0,0)).2==line<;>rfl
  ·rw [rV,gU];simp [ak]
end
section
variable (w:Wk) (kd a who:Int) (ho:w.1.length≤1048576) (he:w.2.1.length≤1048576) (hp:w.2.2.length≤1048576)
include ho hp he
omit he in
theorem acQ (hv:nH w.1 w.2.1 w.2.2=true) (ha:0≤a∧a<(w.1.length:Int)):mO w.1 w.2.1 w.2.2 kd a who=some (lG w kd a who):=by
 have ok:=vZ.1 hv
 have c1:aq a w.1.length=true:=decide_eq_true (by omega)
 have c2:aq a w.2.1.length=true:=decide_eq_true (by have:=ok.le;omega)
 unfold mO lG
 rw [c1,c2,Zm _ _ _ (by omega),acN _ _ _ _ ho hp,hv]
 simp only [aa,Option.bind_some,if_true,QR]
 by_cases k0:kd=0
 ·subst k0;simp
 by_cases k1:kd=1
 ·subst k1;simp
 by_cases k2:kd=2
 ·subst k2;simp
 by_cases k3:kd=3
 ·subst k3;cases w.2.1.getD a.toNat false<;>simp
 by_cases k4:kd=4
 ·subst k4
  simp only [show ((4:Int)==0)=false from rfl,show ((4:Int)==2)=false from rfl,show ((4:Int)==1)=false from rfl,show ((4:Int)==3)=false from rfl,show ((4:Int)==4)=true from rfl,cond_false,cond_true,Option.bind_some]
  rw [if_neg (by omega),if_neg (by omega),if_neg (by omega),if_pos trivial,pp]
  have c6:af (w.2.2.length:Int) 6=decide (w.2.2.length<6):=by simp only [af];exact decide_eq_decide.2 (by omega)
  rw [c6]
  cases w.2.1.getD a.toNat false<;>cases decide ((who,a)∈w.2.2)<;>simp
 by_cases k5:kd=5
 ·subst k5;simp
 ·have e0:(kd==0)=false:=by simpa using k0
  have e1:(kd==1)=false:=by simpa using k1
  have e2:(kd==2)=false:=by simpa using k2
  have e3:(kd==3)=false:=by simpa using k3
  have e4:(kd==4)=false:=by simpa using k4
  have e5:(kd==5)=false:=by simpa using k5
  simp [k0,k1,k2,k3,k4,k5,e0,e1,e2,e3,e4,e5]
omit he in
theorem ads (hv:nH w.1 w.2.1 w.2.2=true) (ha:0≤a∧a<(w.1.length:Int)):pT w.1 w.2.1 w.2.2 kd a who=some (lG w kd a who):=by
 have ok:=vZ.1 hv
 have c1:aq a w.1.length=true:=decide_eq_true (by omega)
 have c2:aq a w.2.1.length=true:=decide_eq_true (by have:=ok.le;omega)
 have c3:af (SR w.2.2 (who,a)) 0= !decide ((who,a)∈w.2.2):=by rw [←Lv];rw [Bool.eq_iff_iff];simp [af,aF]
 unfold pT lG am
 rw [c1,c2,Vj _ _ _ (by omega),Yt _ _ _ _ ho hp,hv]
 simp only [aa,Option.bind_some,if_true,QR,Bool.or_true,c3,Lv]
 by_cases k0:kd=0
 ·subst k0;simp
 by_cases k1:kd=1
 ·subst k1;simp
 by_cases k2:kd=2
 ·subst k2;simp
 by_cases k3:kd=3
 ·subst k3;cases w.2.1.getD a.toNat false<;>simp
 by_cases k4:kd=4
 ·subst k4
  simp only [show ((4:Int)==0)=false from rfl,show ((4:Int)==2)=false from rfl,show ((4:Int)==1)=false from rfl,show ((4:Int)==3)=false from rfl,show ((4:Int)==4)=true from rfl,cond_false,cond_true,Option.bind_some]
  rw [if_neg (by omega),if_neg (by omega),if_neg (by omega),if_pos trivial,pp]
  have c6:af (w.2.2.length:Int) 6=decide (w.2.2.length<6):=by simp only [af];exact decide_eq_decide.2 (by omega)
  rw [c6]
  cases w.2.1.getD a.toNat false<;>simp [gb,Bool.and_assoc]
 by_cases k5:kd=5
 ·subst k5;simp
 ·have e0:(kd==0)=false:=by simpa using k0
  have e1:(kd==1)=false:=by simpa using k1
  have e2:(kd==2)=false:=by simpa using k2
  have e3:(kd==3)=false:=by simpa using k3
  have e4:(kd==4)=false:=by simpa using k4
  have e5:(kd==5)=false:=by simpa using k5
  simp [k0,k1,k2,k3,k4,k5,e0,e1,e2,e3,e4,e5]
theorem Rw:fH w.1 w.2.1 w.2.2=some w:=by
 have a1:bq ([]:List Bool).length w.1.length=true:=by simp [bq];omega
 have a2:bq ([]:List Bool).length w.2.1.length=true:=by simp [bq];omega
 have a3:bq ([]:Pm).length w.2.2.length=true:=by simp [bq];omega
 simp only [fH,aQ,aJ,a1,a2,a3,aa,Option.bind_some]
theorem VH:lz w.1 w.2.1 w.2.2=some w:=by
 have a1:bq ([]:List Bool).length w.1.length=true:=by simp [bq];omega
 have a2:bq ([]:List Bool).length w.2.1.length=true:=by simp [bq];omega
 have a3:bq ([]:Pm).length w.2.2.length=true:=by simp [bq];omega
 simp only [lz,jY,a1,a2,a3,aa,Option.bind_some,List.nil_append]
theorem iDo:pH w.1 w.2.1 w.2.2 kd a who=some (oQ (gJ w kd a who)):=by
 unfold pH gJ
 rw [Pb _ _ _ ho hp]
 cases hv:nH w.1 w.2.1 w.2.2
 ·rfl
 have ok:=vZ.1 hv
 simp only [Option.bind_some,cond_true,if_true,Rw w ho he hp]
 by_cases ha:0≤a∧a<(w.1.length:Int)
 ·have c0:(af a 0 ||aF (w.1.length:Int) a)=false:=by simp [af,aF];omega
  have c1:aq a w.1.length=true:=decide_eq_true (by omega)
  have c2:aq a w.2.1.length=true:=decide_eq_true (by have:=ok.le;omega)
  simp only [c0,Bool.not_false,gb,cond_true,acQ w kd a who ho hp hv ha,Option.bind_some,Bool.false_or]
  cases hm:lG w kd a who
  ·rw [if_neg (fun h=>by cases h.2.2)];rfl
  rw [if_pos ⟨ha.1,ha.2,rfl⟩]
  simp only [Bool.not_true,cond_false]
  by_cases k0:kd=0
  ·subst k0;simp [c1,ej,oQ]
  by_cases k1:kd=1
  ·subst k1;simp [c1,ej,oQ]
  by_cases k2:kd=2
  ·subst k2;simp [c2,ej,oQ]
  by_cases k3:kd=3
  ·subst k3;simp [c2,ej,oQ]
  by_cases k4:kd=4
  ·subst k4
   have a4:bq w.2.2.length 1=true:=by simp [bq];omega
   simp [ej,oQ,a4]
  by_cases k5:kd=5
  ·subst k5
   have hmem:(who,a)∈w.2.2:=by simpa [lG] using hm
   rcases xW w.2.2 (who,a) with ⟨h1,h2⟩ |⟨k,hk,h1,h2,h3⟩
   ·exact absurd hmem h2
   have wk:az ((k:Int)+1)=(k:Int)+1:=bC (by omega) (by omega)
   have b1:zt (k:Int) ((k:Int)+1) w.2.2.length=true:=decide_eq_true (by omega)
   have b2:zt 0 (k:Int) w.2.2.length=true:=decide_eq_true (by omega)
   have b3:zt ((k:Int)+1) (w.2.2.length:Int) w.2.2.length=true:=decide_eq_true (by omega)
   have b4:((k:Int)==(k:Int)+1)=false:=by simp;omega
   have s1:ah w.2.2 0 (k:Int)=w.2.2.take k:=by simp [ah]
   have s2:ah w.2.2 ((k:Int)+1) (w.2.2.length:Int)=w.2.2.drop (k+1):=by
    unfold ah;rw [show ((k:Int)+1).toNat=k+1 by omega,List.take_of_length_le (by simp<;>omega)]
   have b5:bq (w.2.2.take k).length (w.2.2.drop (k+1)).length=true:=by simp [bq];omega
   simp only [show ((5:Int)==0)=false from rfl,show ((5:Int)==1)=false from rfl,show ((5:Int)==2)=false from rfl,show ((5:Int)==3)=false from rfl,show ((5:Int)==4)=false from rfl,show ((5:Int)==5)=true from rfl,cond_false,cond_true,Option.bind_some,Yb w.2.2 who a (by omega),h1,aH,wk,b1,b2,b3,b4,s1,s2,b5,aa]
   simp [ej,oQ,h1]
  ·exfalso
   simp [lG,k0,k1,k2,k3,k4,k5] at hm
 ·have c0:(af a 0 ||aF (w.1.length:Int) a)=true:=by simp [af,aF];omega
  rw [if_neg (fun h=>ha ⟨h.1,h.2.1⟩)]
  simp [c0,gb,oQ]
theorem sDo:mF w.1 w.2.1 w.2.2 kd a who=some (oQ (gJ w kd a who)):=by
 unfold mF gJ am
 rw [Mh _ _ _ ho hp]
 cases hv:nH w.1 w.2.1 w.2.2
 ·rfl
 have ok:=vZ.1 hv
 have w1:az ((w.1.length:Int)-1)=(w.1.length:Int)-1:=bC (by omega) (by omega)
 simp only [Option.bind_some,cond_true,if_true,VH w ho he hp,w1]
 by_cases ha:0≤a∧a<(w.1.length:Int)
 ·have c0:(aF 0 a&&aF a ((w.1.length:Int)-1))=true:=by simp [aF];omega
  have c1:aq a w.1.length=true:=decide_eq_true (by omega)
  have c2:aq a w.2.1.length=true:=decide_eq_true (by have:=ok.le;omega)
  simp only [c0,Bool.not_true,Bool.not_false,gb,cond_true,ads w kd a who ho hp hv ha,Option.bind_some,Bool.false_or]
  cases hm:lG w kd a who
  ·rw [if_neg (fun h=>by cases h.2.2)];rfl
  rw [if_pos ⟨ha.1,ha.2,rfl⟩]
  simp only [Bool.not_true,cond_false]
  by_cases k0:kd=0
  ·subst k0;simp [c1,ej,oQ]
  by_cases k1:kd=1
  ·subst k1;simp [c1,ej,oQ]
  by_cases k2:kd=2
  ·subst k2;simp [c2,ej,oQ]
  by_cases k3:kd=3
  ·subst k3;simp [c2,ej,oQ]
  by_cases k4:kd=4
  ·subst k4
   have a4:bq w.2.2.length 1=true:=by simp [bq];omega
   simp [ej,oQ,a4]
  by_cases k5:kd=5
  ·subst k5
   have hmem:(who,a)∈w.2.2:=by simpa [lG] using hm
   rcases xW w.2.2 (who,a) with ⟨h1,h2⟩ |⟨k,hk,h1,h2,h3⟩
   ·exact absurd hmem h2
   have wk:az ((k:Int)+1)=(k:Int)+1:=bC (by omega) (by omega)
   have b2:zt 0 (k:Int) w.2.2.length=true:=decide_eq_true (by omega)
   have b3:zt ((k:Int)+1) (w.2.2.length:Int) w.2.2.length=true:=decide_eq_true (by omega)
   have s1:ah w.2.2 0 (k:Int)=w.2.2.take k:=by simp [ah]
   have s2:ah w.2.2 ((k:Int)+1) (w.2.2.length:Int)=w.2.2.drop (k+1):=by
    unfold ah;rw [show ((k:Int)+1).toNat=k+1 by omega,List.take_of_length_le (by simp<;>omega)]
   have b5:bq (w.2.2.take k).length (w.2.2.drop (k+1)).length=true:=by simp [bq];omega
   simp only [show ((5:Int)==0)=false from rfl,show ((5:Int)==1)=false from rfl,show ((5:Int)==2)=false from rfl,show ((5:Int)==3)=false from rfl,show ((5:Int)==4)=false from rfl,cond_false,cond_true,Option.bind_some,Vj w.2.2 who a (by omega),h1,wk,b2,b3,s1,s2,b5,aa]
   simp [ej,oQ,h1]
  ·exfalso
   simp [lG,k0,k1,k2,k3,k4,k5] at hm
 ·have c0:(aF 0 a&&aF a ((w.1.length:Int)-1))=false:=by simp [aF];omega
  rw [if_neg (fun h=>ha ⟨h.1,h.2.1⟩)]
  simp [c0,gb,oQ]
end
theorem Tl (a b:Int):oy a b=some (af a b):=by
 simp [oy,mL,gb]
theorem Xa {a b:Nat} (h:a+b<4611686018427387904):az (ka .u64 (wk .u64 (az ((a:Int)+(b:Int)))) 1)=(((a+b) / 2:Nat):Int):=by
 have e1:az ((a:Int)+(b:Int))=((a+b:Nat):Int):=by rw [bC (by omega) (by omega)];omega
 have e2:wk .u64 ((a+b:Nat):Int)=((a+b:Nat):Int):=by
  unfold wk IntKind.wrap
  have:(IntKind.u64).bits=64:=rfl
  simp only [this]
  first
   |(rw [Int.emod_eq_of_lt (by omega) (by omega)];simp [IntKind.signed])
   |omega
 have e3:ka .u64 ((a+b:Nat):Int) 1=(((a+b) / 2:Nat):Int):=by
  unfold ka
  rw [show min (1:Int).toNat (IntKind.bits .u64)=1 from rfl,Int.fdiv_eq_ediv_of_nonneg _ (by decide)]
  omega
 rw [e1,e2,e3,bC (by omega) (by omega)]
structure At (l:List Int) (x:Int) (p:Nat):Prop where
 le:p≤l.length
 lo: ∀k,k<p→l.getD k 0<x
 hi: ∀k,p≤k→k<l.length→x≤l.getD k 0
theorem Wp (l:List Int) (x:Int) (hs: ∀i j,i<j→j<l.length→l.getD i 0<l.getD j 0) (hl:l.length≤1048576): ∀(d lo hi fuel:Nat),hi-lo=d→d<fuel→lo≤hi→hi≤l.length→(∀k,k<lo→l.getD k 0<x)→(∀k,hi≤k→k<l.length→x≤l.getD k 0)→
 ∃p:Nat,aZ l x fuel ((lo:Int),(hi:Int))=some (p:Int)∧At l x p:=by
 intro d
 induction d using Nat.strongRecOn with
 |_ d ih=>
  intro lo hi fuel hd hf h1 h2 h3 h4
  obtain ⟨f,rfl⟩: ∃f,fuel=f+1:=⟨fuel-1,by omega⟩
  rw [nQ,bZ]
  dsimp only
  by_cases hlt:lo<hi
  ·have hm1:lo≤(lo+hi) / 2:=by omega
   have hm2:(lo+hi) / 2<hi:=by omega
   have hc:af (lo:Int) (hi:Int)=true:=decide_eq_true (by omega)
   rw [hc,Xa (by omega)]
   simp only [cond_true,ae (show (lo+hi) / 2<l.length by omega),aa,Int.toNat_natCast,Tl,Option.bind_some,ab (by omega:(lo+hi) / 2<4611686018427387904)]
   by_cases hx:l.getD ((lo+hi) / 2) 0<x
   ·rw [show af (l.getD ((lo+hi) / 2) 0) x=true from decide_eq_true hx]
    simp only [cond_true,Option.bind_some]
    refine ih (hi-((lo+hi) / 2+1)) (by omega) ((lo+hi) / 2+1) hi f rfl (by omega) (by omega) h2 (fun k hk=>?_) h4
    rcases Nat.lt_or_ge k ((lo+hi) / 2) with h |h
    ·have:=hs k _ h (by omega);omega
    ·have:k=(lo+hi) / 2:=by omega
     rw [this];exact hx
   ·rw [show af (l.getD ((lo+hi) / 2) 0) x=false from decide_eq_false hx]
    simp only [cond_false,Option.bind_some]
    refine ih ((lo+hi) / 2-lo) (by omega) lo ((lo+hi) / 2) f rfl (by omega) hm1 (by omega) h3 (fun k hk hk2=>?_)
    rcases Nat.lt_or_ge ((lo+hi) / 2) k with h |h
    ·have:=hs _ k h hk2;omega
    ·have:k=(lo+hi) / 2:=by omega
     rw [this];omega
  ·have hc:af (lo:Int) (hi:Int)=false:=decide_eq_false (by omega)
   have:lo=hi:=by omega
   subst this
   exact ⟨lo,by rw [hc];rfl,h2,h3,h4⟩
theorem Rq {l:List Int} (h:l.Pairwise (· < ·)): ∀i j,i<j→j<l.length→l.getD i 0<l.getD j 0:=by
 intro i j hij hj
 rw [ac (by omega),ac hj]
 exact List.pairwise_iff_getElem.1 h i j (by omega) hj hij
theorem OF {l:List Int} {x:Int} {p:Nat} (hs:l.Pairwise (· < ·)) (h:At l x p):(p<l.length∧l.getD p 0=x)↔x∈l:=by
 constructor
 ·rintro ⟨h1,h2⟩;rw [←h2,ac h1];exact List.getElem_mem h1
 ·intro hm
  obtain ⟨k,hk,e⟩:=List.getElem_of_mem hm
  have e2:l.getD k 0=x:=by rw [ac hk];exact e
  have hk2:p≤k:=by
   rcases Nat.lt_or_ge k p with h3 |h3
   ·have:=h.lo k h3;omega
   ·exact h3
  have h5:=h.hi p (Nat.le_refl p) (by omega)
  by_cases hpk:p=k
  ·subst hpk;exact ⟨hk,e2⟩
  ·have:=Rq hs p k (by omega) hk;omega
theorem iBs {l:List Int} {x:Int} (hs:l.Pairwise (· < ·)) (hl:l.length≤1048576): ∃p:Nat,bM l x=some ((p:Int),decide (x∈l))∧At l x p:=by
 obtain ⟨p,h1,h2⟩:=Wp l x (Rq hs) hl l.length 0 l.length ai (by omega) (pF (by omega)) (by omega) (Nat.le_refl _) (fun k hk=>by omega) (fun k h3 h4=>by omega)
 refine ⟨p,?_,h2⟩
 have hm:=OF hs h2
 have hle:=h2.le
 unfold bM
 rw [show aZ l x ai (0,(l.length:Int))=_ from h1,Option.bind_some]
 by_cases hp:p<l.length
 ·have e1:af (p:Int) (l.length:Int)=true:=decide_eq_true (by omega)
  have e2:(l.getD p 0==x)=decide (x∈l):=by
   rw [Bool.eq_iff_iff,beq_iff_eq,decide_eq_true_eq,←hm]
   exact ⟨fun h=>⟨hp,h⟩,fun h=>h.2⟩
  simp only [e1,ae hp,Bool.or_true,aa,Int.toNat_natCast,e2,jt]
  cases decide (x∈l)<;>simp [gb]
 ·have e1:af (p:Int) (l.length:Int)=false:=decide_eq_false (by omega)
  have e2:decide (x∈l)=false:=decide_eq_false fun h=>hp (hm.2 h).1
  simp [e1,e2,gb,aj]
theorem YK {l:List Int} {x:Int} {p:Nat} (hs:l.Pairwise (· < ·)) (h:At l x p) (hx:x∉l):l.take p++ [x]++l.drop p=Ip x l:=by
 have hlt: ∀z∈l.take p,z<x:=by
  intro z hz
  obtain ⟨k,hk,rfl⟩:=List.getElem_of_mem hz
  rw [List.length_take] at hk
  rw [List.getElem_take,←ac (d:=0)]
  exact h.lo k (by omega)
 have hgt: ∀z∈l.drop p,x<z:=by
  intro z hz
  obtain ⟨k,hk,rfl⟩:=List.getElem_of_mem hz
  rw [List.length_drop] at hk
  have hm:(l.drop p)[k]'(by rw [List.length_drop];exact hk)∈l:=List.mem_of_mem_drop (List.getElem_mem _)
  have h1:=h.hi (p+k) (by omega) (by omega)
  rw [ac (by omega)] at h1
  rw [List.getElem_drop] at hm ⊢
  have:l[p+k]≠x:=fun e=>hx (e▸hm)
  omega
 refine wF ?_ (xY hs) (fun z=>?_)
 ·rw [List.append_assoc,List.pairwise_append]
  refine ⟨hs.sublist (List.take_sublist _ _),?_,fun a ha b hb=>?_⟩
  ·rw [List.singleton_append,List.pairwise_cons]
   exact ⟨hgt,hs.sublist (List.drop_sublist _ _)⟩
  ·rcases List.mem_append.1 hb with hb |hb
   ·simp at hb;subst hb;exact hlt a ha
   ·have:=hlt a ha;have:=hgt b hb;omega
 ·rw [Iq,List.mem_append,List.mem_append,List.mem_singleton]
  have:z∈l↔z∈l.take p∨z∈l.drop p:=by rw [←List.mem_append,List.take_append_drop]
  rw [this]
  constructor
  ·rintro ((h |h) |h)
   ·exact .inr (.inl h)
   ·exact .inl h
   ·exact .inr (.inr h)
  ·rintro (h |h |h)
   ·exact .inl (.inr h)
   ·exact .inl (.inl h)
   ·exact .inr h
theorem YJ {l:List Int} {x:Int} {p:Nat} (hs:l.Pairwise (· < ·)) (h:At l x p) (hx:x∈l):l.take p++l.drop (p+1)=l.filter fun z=>z !=x:=by
 obtain ⟨hp,he⟩:=(OF hs h).2 hx
 refine wF ?_ (hs.sublist List.filter_sublist) (fun z=>?_)
 ·rw [List.pairwise_append]
  refine ⟨hs.sublist (List.take_sublist _ _),hs.sublist (List.drop_sublist _ _),fun a ha b hb=>?_⟩
  have h2:(l.take p++l.drop p).Pairwise (· < ·):=by rw [List.take_append_drop];exact hs
  exact (List.pairwise_append.1 h2).2.2 a ha b (by rw [List.drop_eq_getElem_cons hp];exact List.mem_cons_of_mem _ hb)
 ·rw [List.mem_append,List.mem_filter]
  have e:l=l.take p++l[p]::l.drop (p+1):=by rw [←List.drop_eq_getElem_cons hp,List.take_append_drop]
  have hpx:l[p]=x:=by rw [←ac hp (d:=0)];exact he
  have h2:(l.take p++l[p]::l.drop (p+1)).Pairwise (· < ·):=by rw [←e];exact hs
  have h3:=(List.pairwise_append.1 h2)
  have h4:=List.pairwise_cons.1 h3.2.1
  have hm:z∈l↔z∈l.take p∨z=x∨z∈l.drop (p+1):=by
   conv=>lhs;rw [e]
   rw [List.mem_append,List.mem_cons,hpx]
  rw [hm]
  simp only [bne_iff_ne,ne_eq]
  constructor
  ·rintro (h |h)
   ·exact ⟨.inl h,by have:=h3.2.2 z h l[p] List.mem_cons_self;omega⟩
   ·exact ⟨.inr (.inr h),by have:=h4.1 z h;omega⟩
  ·rintro ⟨h |h |h,hne⟩
   ·exact .inl h
   ·exact absurd h hne
   ·exact .inr h
abbrev W7:=Int×List Ln×List (Int×Int)×List Bool×List Bool×Pm×List Int
def o7 (w:Wd):W7:=(w.b,w.ls,w.pts,w.on,w.earth,w.pm,w.br)
abbrev W8:=Int×List Ln×List (Int×Int)×List Bool×List Bool×Pm×List Int×Bool
def o8 (r:Wd×Bool):W8:=(r.1.b,r.1.ls,r.1.pts,r.1.on,r.1.earth,r.1.pm,r.1.br,r.2)
structure Sm (w:Wd):Prop where
 l:w.ls.length≤1048576
 p:w.pts.length≤1048576
 o:w.on.length≤1048576
 e:w.earth.length≤1048576
 m:w.pm.length≤1048576
 b:w.br.length≤1048576
theorem XV {w:Wd} (h:WdOk w):w.br.length≤w.on.length:=by
 have h1: ∀k,k<w.br.length→(k:Int)≤w.br.getD k 0:=by
  intro k
  induction k with
  |zero=>
   intro hk
   have:=(h.inn (w.br.getD 0 0) (by rw [ac hk];exact List.getElem_mem hk)).1
   omega
  |succ k ih=>
   intro hk
   have h1:=ih (by omega)
   have h2:=uk h.sor hk
   omega
 rcases Nat.eq_zero_or_pos w.br.length with h0 |h0
 ·omega
 ·have h2:=h1 (w.br.length-1) (by omega)
  have h3:=(h.inn (w.br.getD (w.br.length-1) 0) (by rw [ac (by omega)];exact List.getElem_mem _)).1
  omega
theorem xy {w:Wd} (h:WdOk w):Sm w:=by
 have h1:=h.bus.net.ll;have h2:=h.bus.lp;have h3:=h.bus.net.b1;have h4:=h.work.l1;have h5:=h.work.le;have h6:=h.work.lp;have h7:=XV h
 simp only [Wd.wk] at h4 h5 h6
 exact ⟨by omega,by omega,by omega,by omega,by omega,by omega⟩
theorem QZ {w:Wd} (h:WdOk w) {on':List Bool} (hl:on'.length=w.ls.length):vX w.b w.ls on' w.pts=mH w.ls on' w.pts:=by
 unfold vX
 rw [fc.2 ⟨⟨h.bus.net,hl⟩,h.bus⟩];rfl
theorem ZH {w:Wk} {kd a who:Int} (h:kd≠0∧kd≠1∧kd≠2∧kd≠3∧kd≠4∧kd≠5):lG w kd a who=false:=by
 simp [lG,h.1,h.2.1,h.2.2.1,h.2.2.2.1,h.2.2.2.2.1,h.2.2.2.2.2]
theorem Ts {w:Wk} (hw:WOk w) {kd a who:Int} (h:kd≠0∧kd≠1∧kd≠2∧kd≠3∧kd≠4∧kd≠5):(gJ w kd a who).2=false:=by
 rcases DZ hw kd a who with ⟨_,_,h1,_⟩ |⟨h1,_⟩
 ·rw [ZH h] at h1;cases h1
 ·rw [h1]
section
variable {w:Wd} (h:Sm w)
include h
theorem Lx:bR w.b w.ls w.pts w.on w.earth w.pm w.br=some (o7 w):=by
 have a1:bq ([]:List Ln).length w.ls.length=true:=by have:=h.l;simp [bq];omega
 have a2:bq ([]:List (Int×Int)).length w.pts.length=true:=by have:=h.p;simp [bq];omega
 have a3:bq ([]:List Int).length w.br.length=true:=by have:=h.b;simp [bq];omega
 have:=Rw (w.on,w.earth,w.pm) h.o h.e h.m
 simp only [bR,aT,ba,cb,a1,a2,a3,aa,Option.bind_some,this]
 rfl
theorem Dx:be w.b w.ls w.pts w.on w.earth w.pm w.br=some (o7 w):=by
 have a1:bq ([]:List Ln).length w.ls.length=true:=by have:=h.l;simp [bq];omega
 have a2:bq ([]:List (Int×Int)).length w.pts.length=true:=by have:=h.p;simp [bq];omega
 have a3:bq ([]:List Int).length w.br.length=true:=by have:=h.b;simp [bq];omega
 have:=VH (w.on,w.earth,w.pm) h.o h.e h.m
 simp only [be,a1,a2,a3,aa,Option.bind_some,List.nil_append,this]
 rfl
end
section
variable {w:Wd} (h:WdOk w) (kd a who:Int) (ha:0≤a∧a<(w.on.length:Int))
include h ha
theorem aeV: ∃st:W7,mQ w.b w.ls w.pts w.on w.earth w.pm w.br kd a who=some ((di w kd a who).2,st)∧((di w kd a who).2=true→st=o7 (di w kd a who).1):=by
 have sm:=xy h
 obtain ⟨p,hp,hat⟩:=iBs (x:=a) h.sor sm.b
 have hle:=hat.le
 have hbl:=sm.b
 have hix:aq a w.on.length=true:=decide_eq_true ha
 have hv:=jL.2 h
 unfold mQ
 rw [hp,Option.bind_some]
 dsimp only
 by_cases k6:kd=6
 ·subst k6
  by_cases hb:a∈w.br
  ·have hf:di w 6 a who=(w,false):=by
    unfold di
    rw [if_pos hv,if_pos ha,if_neg (fun e=>e.2 hb),if_neg (fun e=>absurd e.1 (by decide)),if_neg (fun e=>absurd e.1 (by decide)),if_neg (fun e=>by rw [Ts h.work (by decide)] at e;cases e.1)]
   rw [hf]
   exact ⟨_,by rw [decide_eq_true hb];rfl,fun e=>by cases e⟩
  ·have hf:di w 6 a who=({w with on:=w.on.set a.toNat false,br:=Ip a w.br},true):=by
    unfold di
    rw [if_pos hv,if_pos ha,if_pos ⟨rfl,hb⟩]
   rw [hf]
   have c1:zt 0 (p:Int) w.br.length=true:=decide_eq_true (by omega)
   have c2:bq w.br.length 1=true:=by simp [bq];omega
   refine ⟨_,?_,fun _=>rfl⟩
   rw [decide_eq_false hb]
   simp only [cond_false,show ((6:Int)==6)=true from rfl,cond_true,bW,c1,c2,aa,List.length_singleton,show (((1:Nat):Int)==1)=true from rfl,Option.bind_some,hix,Int.toNat_natCast,YK h.sor hat hb]
   rfl
 rw [show (kd==6)=false from by simpa using k6,cond_false]
 by_cases k7:kd=7
 ·subst k7
  have hh:=Zm w.pm who a (by have:=sm.m;omega)
  by_cases hb:a∈w.br
  ·by_cases hm:(who,a)∈w.pm
   ·have hf:di w 7 a who=({w with br:=w.br.filter fun x=>x !=a},true):=by
     unfold di
     rw [if_pos hv,if_pos ha,if_neg (fun e=>absurd e.1 (by decide)),if_pos ⟨rfl,hb,hm⟩]
    rw [hf]
    obtain ⟨hpl,_⟩:=(OF h.sor hat).2 hb
    have wk:az ((p:Int)+1)=(p:Int)+1:=bC (by omega) (by omega)
    have b1:zt (p:Int) ((p:Int)+1) w.br.length=true:=decide_eq_true (by omega)
    have b2:zt 0 (p:Int) w.br.length=true:=decide_eq_true (by omega)
    have b3:zt ((p:Int)+1) (w.br.length:Int) w.br.length=true:=decide_eq_true (by omega)
    have b4:((p:Int)==(p:Int)+1)=false:=by simp;omega
    have s1:ah w.br 0 (p:Int)=w.br.take p:=by simp [ah]
    have s2:ah w.br ((p:Int)+1) (w.br.length:Int)=w.br.drop (p+1):=by
     unfold ah;rw [show ((p:Int)+1).toNat=p+1 by omega,List.take_of_length_le (by simp<;>omega)]
    have b5:bq (w.br.take p).length (w.br.drop (p+1)).length=true:=by simp [bq];omega
    refine ⟨_,?_,fun _=>rfl⟩
    rw [decide_eq_true hb,hh,decide_eq_true hm]
    simp only [show ((7:Int)==7)=true from rfl,cond_true,Bool.not_true,Bool.not_false,ca,Option.bind_some,Bool.or_self,cond_false,bV,wk,b1,b2,b3,b4,s1,s2,b5,aa,YJ h.sor hat hb]
    rfl
   ·have hf:di w 7 a who=(w,false):=by
     unfold di
     rw [if_pos hv,if_pos ha,if_neg (fun e=>absurd e.1 (by decide)),if_neg (fun e=>hm e.2.2),if_neg (fun e=>absurd e.1 (by decide)),if_neg (fun e=>by rw [Ts h.work (by decide)] at e;cases e.1)]
    rw [hf]
    exact ⟨_,by rw [decide_eq_true hb,hh,decide_eq_false hm];rfl,fun e=>by cases e⟩
  ·have hf:di w 7 a who=(w,false):=by
    unfold di
    rw [if_pos hv,if_pos ha,if_neg (fun e=>absurd e.1 (by decide)),if_neg (fun e=>hb e.2.1),if_neg (fun e=>absurd e.1 (by decide)),if_neg (fun e=>by rw [Ts h.work (by decide)] at e;cases e.1)]
   rw [hf]
   exact ⟨_,by rw [decide_eq_false hb];rfl,fun e=>by cases e⟩
 rw [show (kd==7)=false from by simpa using k7,cond_false]
 have hdo:=iDo w.wk kd a who sm.o sm.e sm.m
 have hlen:=(Hp h.work (kd:=kd) (a:=a) (who:=who)).1
 have hrad:gN w.b w.ls (gJ w.wk kd a who).1.1 w.pts=some (mH w.ls (gJ w.wk kd a who).1.1 w.pts):=by
  rw [QA _ _ _ _ sm.p,QZ h (hlen.trans h.len)]
 by_cases k0:kd=0
 ·subst k0
  by_cases hb:a∈w.br
  ·have hf:di w 0 a who=(w,false):=by
    unfold di
    rw [if_pos hv,if_pos ha,if_neg (fun e=>absurd e.1 (by decide)),if_neg (fun e=>absurd e.1 (by decide)),if_pos ⟨rfl,hb⟩]
   rw [hf]
   exact ⟨_,by rw [decide_eq_true hb];rfl,fun e=>by cases e⟩
  ·have hf:di w 0 a who=if (gJ w.wk 0 a who).2=true∧mH w.ls (gJ w.wk 0 a who).1.1 w.pts=true then (w.put (gJ w.wk 0 a who).1,true) else (w,false):=by
    unfold di
    rw [if_pos hv,if_pos ha,if_neg (fun e=>absurd e.1 (by decide)),if_neg (fun e=>absurd e.1 (by decide)),if_neg (fun e=>hb e.2)]
   rw [hf]
   simp only [Wd.wk] at hdo
   rw [decide_eq_false hb]
   simp only [show ((0:Int)==0)=true from rfl,cond_true,cond_false,Option.bind_some,Sum.elim_inl,hdo,oQ,show ((0:Int) !=0)=false from rfl,Bool.not_false,Bool.and_true,Bool.false_or]
   change ∃st:W7,Option.bind (gb (gJ w.wk 0 a who).2 (gN w.b w.ls (gJ w.wk 0 a who).1.1 w.pts)) (fun p127=>some ((gJ w.wk 0 a who).2&&p127,w.b,w.ls,w.pts,(gJ w.wk 0 a who).1.1,(gJ w.wk 0 a who).1.2.1,(gJ w.wk 0 a who).1.2.2,w.br))=_∧_
   rw [hrad]
   cases h1:(gJ w.wk 0 a who).2
   ·exact ⟨_,rfl,fun e=>by cases e⟩
   ·cases h2:mH w.ls (gJ w.wk 0 a who).1.1 w.pts
    ·exact ⟨_,rfl,fun e=>by cases e⟩
    ·exact ⟨_,rfl,fun _=>rfl⟩
 ·have hf:di w kd a who=if (gJ w.wk kd a who).2=true∧mH w.ls (gJ w.wk kd a who).1.1 w.pts=true then (w.put (gJ w.wk kd a who).1,true) else (w,false):=by
   unfold di
   rw [if_pos hv,if_pos ha,if_neg (fun e=>k6 e.1),if_neg (fun e=>k7 e.1),if_neg (fun e=>k0 e.1)]
  rw [hf,VJ h k0]
  have e0:(kd==0)=false:=by simpa using k0
  have e1:(kd !=0)=true:=by simpa using k0
  simp only [Wd.wk] at hdo
  simp only [e0,cond_false,Option.bind_some,Sum.elim_inl,hdo,oQ,e1,Bool.not_true,Bool.and_false,qp,Bool.true_or,Bool.and_true]
  change ∃st:W7,some ((gJ w.wk kd a who).2,w.b,w.ls,w.pts,(gJ w.wk kd a who).1.1,(gJ w.wk kd a who).1.2.1,(gJ w.wk kd a who).1.2.2,w.br)=_∧_
  cases h1:(gJ w.wk kd a who).2
  ·exact ⟨_,rfl,fun e=>by cases e⟩
  ·exact ⟨_,rfl,fun _=>rfl⟩
end
theorem Nk {w:Wd} (sm:Sm w) (kd a who:Int):lj w.b w.ls w.pts w.on w.earth w.pm w.br kd a who=some (o8 (di w kd a who)):=by
 unfold lj
 rw [iWv w.b w.ls w.pts w.on w.earth w.pm w.br sm.p sm.o sm.m sm.b,Option.bind_some]
 cases hv:wv w
 ·unfold di
  rw [if_neg (by rw [hv];decide)]
  rfl
 rw [cond_true,Lx sm,Option.bind_some]
 have h:=jL.1 hv
 simp only [bc,Option.bind_some]
 by_cases ha:0≤a∧a<(w.on.length:Int)
 ·have hc:(aF 0 a&&af a (w.ls.length:Int))=true:=by rw [←h.len];simp [aF,af];omega
  obtain ⟨st,h1,h2⟩:=aeV h kd a who ha
  simp only [o7]
  rw [hc,cond_true,h1]
  cases hr:(di w kd a who).2
  ·simp only [Option.bind_some,Bool.not_false,cond_true]
   have hs:=SM h hr
   have:di w kd a who=(w,false):=Prod.ext hs hr
   rw [this];rfl
  ·rw [h2 hr]
   simp only [Option.bind_some,Bool.not_true,cond_false,o7,o8,hr]
 ·have hc:(aF 0 a&&af a (w.ls.length:Int))=false:=by rw [←h.len];simp [aF,af];omega
  have hf:di w kd a who=(w,false):=by unfold di;rw [if_pos hv,if_neg ha]
  rw [hc,hf];rfl
def VQ (br:List Int) (a:Int) (k:Nat):List Int:=((List.range k).map fun (i:Nat)=>(i:Int)).filter fun i=>i==a ||decide (i∈br)
theorem Wj (br:List Int) (a:Int) (k:Nat):(VQ br a k).length≤k:=by
 unfold VQ
 refine Nat.le_trans (List.length_filter_le _ _) ?_
 simp
theorem Td (br:List Int) (a:Int) (k:Nat):VQ br a (k+1)=bif (k:Int)==a ||decide ((k:Int)∈br) then VQ br a k++ [(k:Int)] else VQ br a k:=by
 unfold VQ
 rw [List.range_succ,List.map_append,List.filter_append]
 cases hc:((k:Int)==a ||decide ((k:Int)∈br))<;>simp [List.filter_cons,hc]
theorem YM {w:Wd} (h:WdOk w) {a:Int} (ha:0≤a∧a<(w.on.length:Int)):VQ w.br a w.on.length=Ip a w.br:=by
 refine wF ?_ (xY h.sor) (fun x=>?_)
 ·refine List.Pairwise.sublist List.filter_sublist ?_
  rw [List.pairwise_map]
  exact List.pairwise_lt_range.imp (fun h=>by omega)
 ·unfold VQ
  rw [Iq,List.mem_filter,List.mem_map]
  simp only [List.mem_range,Bool.or_eq_true,beq_iff_eq,decide_eq_true_eq]
  constructor
  ·exact fun e=>e.2
  ·intro e
   refine ⟨?_,e⟩
   have:0≤x∧x<(w.on.length:Int):=by
    rcases e with rfl |e
    ·exact ha
    ·exact (h.inn x e).1
   exact ⟨x.toNat,by omega,by omega⟩
section
variable {w:Wd} (h:WdOk w) {a:Int} (ha:0≤a∧a<(w.on.length:Int))
include h ha
theorem aak:ni w.b w.ls w.pts w.on w.earth w.pm w.br a=some (o7 {w with on:=w.on.set a.toNat false,br:=Ip a w.br}):=by
 have sm:=xy h
 have ho:=sm.o;have hb:=sm.b
 have hix:aq a w.on.length=true:=decide_eq_true ha
 have hh:=ax (eG w.on w.br a) (fun k=>((k:Int),VQ w.br a k)) w.on.length (some (Ip a w.br)) (by omega) (fun k fuel hk=>?_) (fun fuel=>?_)
 ·unfold ni
  rw [Dx sm]
  simp only [Option.bind_some,o7,hix,aa]
  rw [show eG w.on w.br a ai (0,[])=_ from hh]
  rfl
 ·rw [sj,iy]
  have hl:=Wj w.br a k
  have ap:bq (VQ w.br a k).length ([(k:Int)]:List Int).length=true:=by simp [bq];omega
  simp only [au hk,cond_true,Su w.br (k:Int) (by omega),ab (by omega:k<4611686018427387904),ap,aa]
  rw [Td]
  cases hc:((k:Int)==a)
  ·simp only [Bool.not_false,ca,Option.bind_some,Bool.false_or]
   cases decide ((k:Int)∈w.br)<;>rfl
  ·simp only [Bool.not_true,qp,Option.bind_some,Bool.true_or,cond_true]
 ·rw [sj,iy]
  simp only [ak,cond_false,YM h ha]
omit ha in
theorem adt:oN w.b w.ls w.pts w.on w.earth w.pm w.br a=some (o7 {w with br:=w.br.filter fun x=>x !=a}):=by
 have sm:=xy h
 have hb:=sm.b
 have hh:=ax (gy w.br a) (fun k=>((k:Int),(w.br.take k).filter fun x=>x !=a)) w.br.length (some (w.br.filter fun x=>x !=a)) (by omega) (fun k fuel hk=>?_) (fun fuel=>?_)
 ·unfold oN
  rw [Dx sm]
  simp only [Option.bind_some,o7]
  rw [show gy w.br a ai (0,[])=_ from hh]
  rfl
 ·rw [tL,jD]
  have hl:=List.length_filter_le (fun x=>x !=a) (w.br.take k)
  rw [List.length_take] at hl
  have ap: ∀x:Int,bq ((w.br.take k).filter fun x=>x !=a).length ([x]:List Int).length=true:=fun x=>by simp only [bq,decide_eq_true_eq,List.length_singleton];omega
  simp only [au hk,ae hk,cond_true,aa,Int.toNat_natCast,ap,ab (by omega:k<4611686018427387904)]
  rw [List.take_succ_eq_append_getElem hk,List.filter_append,←ac hk (d:=(0:Int))]
  cases hc:(w.br.getD k 0 !=a)
  ·simp only [List.filter_cons,List.filter_nil,hc,Bool.false_eq_true,if_false,cond_false,Option.bind_some,List.append_nil]
  ·simp only [List.filter_cons,List.filter_nil,hc,if_true,cond_true,Option.bind_some]
 ·rw [tL,jD]
  simp only [ak,cond_false,List.take_length]
end
theorem TT {pm:Pm} {a who:Int}:who∈cN pm a↔(who,a)∈pm:=by
 unfold cN
 rw [List.mem_map]
 constructor
 ·rintro ⟨p,hp,rfl⟩
  obtain ⟨h1,h2⟩:=List.mem_filter.1 hp
  have:p.2=a:=by simpa using h2
  rw [←this];exact h1
 ·intro hm
  exact ⟨(who,a),List.mem_filter.2 ⟨hm,by simp⟩,rfl⟩
theorem IU {w:Wd} (sm:Sm w) (kd a who:Int):lw w.b w.ls w.pts w.on w.earth w.pm w.br kd a who=some (o8 (di w kd a who)):=by
 unfold lw
 rw [sWv w.b w.ls w.pts w.on w.earth w.pm w.br sm.p sm.o sm.m sm.b,Option.bind_some]
 cases hv:wv w
 ·unfold di
  rw [if_neg (by rw [hv];decide)]
  rfl
 rw [cond_true]
 have h:=jL.1 hv
 have hol:=h.work.l1
 simp only [Wd.wk] at hol
 have e1:az ((w.on.length:Int)-1)=(w.on.length:Int)-1:=bC (by omega) (by omega)
 simp only [am,e1,Option.bind_some]
 by_cases hna: ¬(0≤a∧a<(w.on.length:Int))
 ·have hc:(aF 0 a&&aF a ((w.on.length:Int)-1))=false:=by simp [aF];omega
  have hf:di w kd a who=(w,false):=by unfold di;rw [if_pos hv,if_neg hna]
  rw [hc,hf,cond_false,Dx sm];rfl
 have ha:0≤a∧a<(w.on.length:Int):=Classical.byContradiction hna
 have hc:(aF 0 a&&aF a ((w.on.length:Int)-1))=true:=by simp [aF];omega
 rw [hc,cond_true,Su w.br a (by have:=sm.b;omega),Option.bind_some]
 by_cases h6:kd=6∧a∉w.br
 ·have hf:di w kd a who=({w with on:=w.on.set a.toNat false,br:=Ip a w.br},true):=by unfold di;rw [if_pos hv,if_pos ha,if_pos h6]
  rw [hf,decide_eq_false h6.2,h6.1,show (((6:Int)==6)&& !false)=true from rfl,cond_true,aak h ha];rfl
 have c6:((kd==6)&& !decide (a∈w.br))=false:=by
  cases hk:(kd==6)
  ·rfl
  ·have:a∈w.br:=Classical.byContradiction fun hn=>h6 ⟨by simpa using hk,hn⟩
   rw [decide_eq_true this];rfl
 rw [c6,cond_false]
 have hheld:dz w.on w.earth w.pm a=some (cN w.pm a):=by
  rw [Yt w.on w.earth w.pm a sm.o sm.m,if_pos (show nH w.on w.earth w.pm=true from Hq.2 h.work)]
 have hhl:=Ih w.pm a
 have hml:=sm.m
 have c7:(bif (kd==7)&&decide (a∈w.br) then Option.bind (dz w.on w.earth w.pm a) (fun (p133:List Int)=>Option.bind (cJ p133 who) (fun (p137:Bool)=>some p137)) else some false)=some (decide (kd=7∧a∈w.br∧(who,a)∈w.pm)):=by
  rw [hheld]
  simp only [Option.bind_some,Su (cN w.pm a) who (by omega)]
  by_cases hk:kd=7
  ·subst hk
   by_cases hb:a∈w.br
   ·simp [hb,TT]
   ·simp [hb]
  ·have:(kd==7)=false:=by simpa using hk
   simp [this,hk]
 rw [c7,Option.bind_some]
 by_cases h7:kd=7∧a∈w.br∧(who,a)∈w.pm
 ·have hf:di w kd a who=({w with br:=w.br.filter fun x=>x !=a},true):=by unfold di;rw [if_pos hv,if_pos ha,if_neg h6,if_pos h7]
  rw [hf,decide_eq_true h7,cond_true,adt h];rfl
 rw [decide_eq_false h7,cond_false]
 by_cases h0:kd=0∧a∈w.br
 ·have hf:di w kd a who=(w,false):=by unfold di;rw [if_pos hv,if_pos ha,if_neg h6,if_neg h7,if_pos h0]
  rw [hf,h0.1,decide_eq_true h0.2,show (((0:Int)==0)&&true)=true from rfl,cond_true,Dx sm];rfl
 have c0:((kd==0)&&decide (a∈w.br))=false:=by
  cases hk:(kd==0)
  ·rfl
  ·have:a∉w.br:=fun hn=>h0 ⟨by simpa using hk,hn⟩
   rw [decide_eq_false this];rfl
 rw [c0,cond_false,Dx sm,Option.bind_some]
 have hdo:=sDo w.wk kd a who sm.o sm.e sm.m
 have hlen:=(Hp h.work (kd:=kd) (a:=a) (who:=who)).1
 have hrad:ei w.b w.ls (gJ w.wk kd a who).1.1 w.pts=some (mH w.ls (gJ w.wk kd a who).1.1 w.pts):=by
  rw [Hl _ _ _ _ sm.p,QZ h (hlen.trans h.len)]
 have hf:di w kd a who=if (gJ w.wk kd a who).2=true∧mH w.ls (gJ w.wk kd a who).1.1 w.pts=true then (w.put (gJ w.wk kd a who).1,true) else (w,false):=by
  unfold di
  rw [if_pos hv,if_pos ha,if_neg h6,if_neg h7,if_neg h0]
 rw [hf]
 change Option.bind (mF w.wk.1 w.wk.2.1 w.wk.2.2 kd a who) _=_
 rw [hdo,Option.bind_some]
 simp only [oQ,o7,hrad]
 cases h1:(gJ w.wk kd a who).2
 ·simp only [Bool.not_false,Bool.not_true,qp,Option.bind_some,Bool.true_or,cond_true,Bool.false_eq_true,false_and,if_false];rfl
 ·cases h2:mH w.ls (gJ w.wk kd a who).1.1 w.pts
  ·rfl
  ·rfl
theorem Nd (l:List Dd) (w:Wd): ∀k,0≤((l.take k).foldl ef (0,w)).1∧((l.take k).foldl ef (0,w)).1≤k:=by
 intro k
 induction k with
 |zero=>simp
 |succ k ih=>
  rcases Nat.lt_or_ge k l.length with hk |hk
  ·rw [Ga _ _ _ ((0,0,0):Dd) hk]
   generalize (l.take k).foldl ef (0,w)=s at ih
   unfold ef
   split
   ·dsimp only;omega
   ·omega
  ·rw [List.take_of_length_le (by omega)]
   rw [List.take_of_length_le hk] at ih
   omega
def Yx (k:Nat) (s:Int×Wd):Int×Int×W7:=(s.1,(k:Int),o7 s.2)
def o8n (s:Int×Wd):Int×List Ln×List (Int×Int)×List Bool×List Bool×Pm×List Int×Int:=(s.2.b,s.2.ls,s.2.pts,s.2.on,s.2.earth,s.2.pm,s.2.br,s.1)
theorem acV {w:Wd} (h:WdOk w) (l:List Dd) (hl:l.length≤1048576):cG l ai (Yx 0 (0,w))=some ((l.foldl ef (0,w)).1,o7 (l.foldl ef (0,w)).2):=by
 have hh:=ax (cG l) (fun k=>Yx k ((l.take k).foldl ef (0,w))) l.length (some ((l.foldl ef (0,w)).1,o7 (l.foldl ef (0,w)).2)) (by omega) (fun k fuel hk=>?_) (fun fuel=>?_)
 ·exact hh
 ·rw [rW,gX]
  have hc:=Nd l w k
  have hok:=Ge (l.take k) (s:=((0:Int),w)) h
  simp only [Ga ef _ _ ((0,0,0):Dd) hk]
  generalize (l.take k).foldl ef (0,w)=s at hc hok
  have hd:=Nk (xy hok) (l.getD k ((0,0,0):Dd)).1 (l.getD k ((0,0,0):Dd)).2.1 (l.getD k ((0,0,0):Dd)).2.2
  have e1:az (s.1+1)=s.1+1:=bC (by omega) (by omega)
  simp only [Yx,o7,au hk,ae hk,cond_true,aa,Int.toNat_natCast,hd,Option.bind_some,o8,ab (by omega:k<4611686018427387904)]
  unfold ef
  cases hr:(di s.2 (l.getD k ((0,0,0):Dd)).1 (l.getD k ((0,0,0):Dd)).2.1 (l.getD k ((0,0,0):Dd)).2.2).2
  ·simp only [cond_false,Option.bind_some,Bool.false_eq_true,if_false]
  ·simp only [cond_true,Option.bind_some,if_true,e1]
 ·rw [rW,gX]
  simp only [Yx,o7,ak,cond_false,List.take_length]
theorem adz {w:Wd} (h:WdOk w) (l:List Dd) (hl:l.length≤1048576):cH l ai (Yx 0 (0,w))=some ((l.foldl ef (0,w)).1,o7 (l.foldl ef (0,w)).2):=by
 have hh:=ax (cH l) (fun k=>Yx k ((l.take k).foldl ef (0,w))) l.length (some ((l.foldl ef (0,w)).1,o7 (l.foldl ef (0,w)).2)) (by omega) (fun k fuel hk=>?_) (fun fuel=>?_)
 ·exact hh
 ·rw [sh,iw]
  have hc:=Nd l w k
  have hok:=Ge (l.take k) (s:=((0:Int),w)) h
  simp only [Ga ef _ _ ((0,0,0):Dd) hk]
  generalize (l.take k).foldl ef (0,w)=s at hc hok
  have hd:=IU (xy hok) (l.getD k ((0,0,0):Dd)).1 (l.getD k ((0,0,0):Dd)).2.1 (l.getD k ((0,0,0):Dd)).2.2
  have e1:az (s.1+1)=s.1+1:=bC (by omega) (by omega)
  simp only [Yx,o7,au hk,ae hk,cond_true,aa,Int.toNat_natCast,hd,Option.bind_some,o8,ab (by omega:k<4611686018427387904)]
  unfold ef
  cases hr:(di s.2 (l.getD k ((0,0,0):Dd)).1 (l.getD k ((0,0,0):Dd)).2.1 (l.getD k ((0,0,0):Dd)).2.2).2
  ·simp only [cond_false,Option.bind_some,Bool.false_eq_true,if_false]
  ·simp only [cond_true,Option.bind_some,if_true,e1]
 ·rw [sh,iw]
  simp only [Yx,o7,ak,cond_false,List.take_length]
theorem RN {w:Wd} (sm:Sm w) (l:List Dd) (hl:l.length≤1048576):mP w.b w.ls w.pts w.on w.earth w.pm w.br l=some (o8n (EY w l)):=by
 unfold mP EY
 rw [iWv w.b w.ls w.pts w.on w.earth w.pm w.br sm.p sm.o sm.m sm.b,Option.bind_some]
 cases hv:wv w
 ·rfl
 rw [cond_true,Lx sm,Option.bind_some]
 simp only [o7]
 rw [show cG l ai (0,0,w.b,w.ls,w.pts,w.on,w.earth,w.pm,w.br)=_ from acV (jL.1 hv) l hl]
 rfl
theorem Sw {w:Wd} (sm:Sm w) (l:List Dd) (hl:l.length≤1048576):nh w.b w.ls w.pts w.on w.earth w.pm w.br l=some (o8n (EY w l)):=by
 unfold nh EY
 rw [sWv w.b w.ls w.pts w.on w.earth w.pm w.br sm.p sm.o sm.m sm.b,Option.bind_some]
 cases hv:wv w
 ·rfl
 rw [cond_true,Dx sm,Option.bind_some]
 simp only [o7]
 rw [show cH l ai (0,0,w.b,w.ls,w.pts,w.on,w.earth,w.pm,w.br)=_ from adz (jL.1 hv) l hl]
 rfl
theorem sm0:Sm .zero:=⟨by decide,by decide,by decide,by decide,by decide,by decide⟩
theorem Oo {w:Wd} (l:List Dd):Sm (EY w l).2:=by
 cases hv:wv w
 ·unfold EY;rw [hv,if_neg (by decide)];exact sm0
 ·exact xy (VI (jL.1 hv) l)
theorem PY {w:Wd} (kd a who:Int):Sm (di w kd a who).1:=by
 cases hv:wv w
 ·unfold di;rw [hv,if_neg (by decide)];exact sm0
 ·exact xy (Rx (jL.1 hv) kd a who)
end Go.Proofs.YtjdlgannencchaaGreatDoor
namespace Go.Proofs.YtjdlgannencchaaGreatDoor
open Go.Lib
set_option linter.unusedVariables false
set_option linter.unusedSimpArgs false
theorem YQ {n:Nat} (h:n<1000000):(decDigits n).length≤6:=Lj 5 n (by simpa using h)
theorem YR (n:Nat):decDigits n≠ []:=by
 intro e
 have:=congrArg List.length e
 rw [decDigits_length] at this
 have:=nDigits_pos n
 simp at*;omega
def ze (n:Int):List UInt8:=decDigits n.toNat
theorem Uk {n:Int} (h:0≤n∧n<1000000):bF n=some (aW (ze n)):=by
 obtain ⟨k,rfl⟩: ∃k:Nat,n=k:=⟨n.toNat,by omega⟩
 rw [QH (by omega)];simp [ze]
theorem Pn {n:Int} (h:0≤n∧n<1000000):aY n=some (aW (ze n)):=by
 obtain ⟨k,rfl⟩: ∃k:Nat,n=k:=⟨n.toNat,by omega⟩
 rw [ZM (by omega)];simp [ze]
theorem zU {n:Int} (h:0≤n∧n<1000000):(ze n).length≤6:=YQ (by omega)
def adL:List UInt8:=[110,111,110,101]
def Kx (l:List Int):List UInt8:=if l=[] then adL else join (l.map ze) [44]
theorem RR (xs:List (List UInt8)) (x sep:List UInt8) (h:xs≠ []):join (xs++ [x]) sep=join xs sep++(sep++x):=by
 cases xs with
 |nil=>exact absurd rfl h
 |cons y r=>rw [List.cons_append,join_cons,join_cons];simp [joinTail,List.append_assoc]
theorem Ku: ∀(xs:List (List UInt8)),(∀x∈xs,x.length≤6)→(join xs [44]).length≤7*xs.length
 | [],_=>by simp [join_nil]
 |x::r,h=>by
  rw [join_cons]
  have h1:=h x (by simp)
  have h2: ∀r:List (List UInt8),(∀y∈r,y.length≤6)→(joinTail [44] r).length≤7*r.length:=by
   intro r
   induction r with
   |nil=>intro _;simp [joinTail]
   |cons y r ih=>
    intro hr
    have e:joinTail [44] (y::r)=[44]++y++joinTail [44] r:=by simp [joinTail]
    have:=hr y (by simp)
    have:=ih fun z hz=>hr z (by simp [hz])
    rw [e];simp;omega
  have:=h2 r fun y hy=>h y (by simp [hy])
  simp;omega
section
variable {l:List Int} (hl:l.length≤1000) (hr: ∀x∈l,0≤x∧x<1000000)
include hl hr
theorem XS {k:Nat} (h:k<l.length):0≤l.getD k 0∧l.getD k 0<1000000:=by have:=hl;rw [ac h];exact hr _ (List.getElem_mem h)
theorem Yd:dt l=some (aW (Kx l)):=by
 unfold dt Kx
 cases l with
 |nil=>rfl
 |cons x r=>
  rw [if_neg (by simp)]
  generalize hL:x::r=l at*
  have hne:((l.length:Int)==0)=false:=by rw [beq_eq_false_iff_ne,←hL];simp;omega
  rw [hne,show uA (l.length:Int)=true from decide_eq_true (by omega)]
  have hh:=wJ (jd l) (l.map fun n=>aW (ze n)) (List.replicate l.length ByteArray.empty) (by simp) (by simp;omega) (fun fuel y j hj hy=>by
   have hj':j<l.length:=by simpa using hj
   rw [sa,ia]
   have hi:=Uk (XS hl hr hj')
   rw [ac hj'] at hi
   simp only [au hj',ae hj',aa,cond_true,Int.toNat_natCast,ab (by omega:j<4611686018427387904),List.getElem_map,ac hj',hi,Option.bind_some]) (fun fuel y hy=>by rw [sa,ia];simp [ak])
  have hm:(l.map fun n=>aW (ze n)).map (·.data.toList)=l.map ze:=by
   rw [List.map_map];exact List.map_congr_left fun a _=>kW _
  simp only [cond_false,aa]
  rw [hh]
  simp only [Option.bind_some]
  unfold dc
  have hs:(({data:= #[44]}:ByteArray)).data.toList=[44]:=rfl
  have hz:=Ku (l.map ze) (fun y hy=>by obtain ⟨z,hz,rfl⟩:=List.mem_map.1 hy;exact zU (hr z hz))
  rw [hm,hs,decide_eq_true (by rw [List.length_map] at*;omega)]
  rfl
theorem Yu:lC l=some (aW (Kx l)):=by
 unfold lC
 have hz: ∀k,k≤l.length→(join ((l.take k).map ze) [44]).length≤7*k:=fun k hk=>by
  have:=Ku ((l.take k).map ze) (fun y hy=>by obtain ⟨z,hz,rfl⟩:=List.mem_map.1 hy;exact zU (hr z (List.mem_of_mem_take hz)))
  simpa [List.length_take,Nat.min_eq_left hk] using this
 have hh:=ax (gB l) (fun k=>(aW (join ((l.take k).map ze) [44]),(k:Int))) l.length (some (aW (join (l.map ze) [44]))) (by omega) (fun k fuel hk=>by
  have h1:=hz k (by omega)
  have h2:=XS hl hr hk
  have h3:=zU h2
  have c1:KJ (aW (join ((l.take k).map ze) [44])).size ({data:= #[44]}:ByteArray).size=true:=decide_eq_true (by rw [eu];show _+1≤_;omega)
  rw [tO,jG]
  simp only [au hk,ae hk,aa,cond_true,Int.toNat_natCast,ab (by omega:k<4611686018427387904),Pn h2,Option.bind_some,c1]
  rw [List.take_succ_eq_append_getElem hk,List.map_append,List.map_cons,List.map_nil,←ac (d:=0) hk]
  cases k with
  |zero=>
   have c2: ∀s:ByteArray,s.size≤6→KJ (aW (join ([]:List (List UInt8)) [44])).size s.size=true:=fun s hs=>decide_eq_true (by rw [eu];simp [join_nil];omega)
   have e0:af 0 ((0:Nat):Int)=false:=rfl
   simp only [e0,cond_false,Option.bind_some,List.take_zero,List.map_nil,List.nil_append,c2 (aW (ze (l.getD 0 0))) (by rw [eu];exact h3),aa]
   rw [yX];simp [join_nil,join_one]
  |succ k=>
   have e0:af 0 ((k+1:Nat):Int)=true:=decide_eq_true (by omega)
   have e1:aW (join ((l.take (k+1)).map ze) [44])++({data:= #[44]}:ByteArray)=aW (join ((l.take (k+1)).map ze) [44]++ [44]):=yX _ [44]
   have c2:KJ (aW (join ((l.take (k+1)).map ze) [44]++ [44])).size (aW (ze (l.getD (k+1) 0))).size=true:=decide_eq_true (by rw [eu,eu,List.length_append];show _+1+_≤_;omega)
   simp only [e0,cond_true,Option.bind_some,e1,c2,aa]
   rw [yX,RR _ _ _ (by
    intro e
    have:=congrArg List.length e
    rw [List.length_map,List.length_take,List.length_nil] at this;omega),List.append_assoc]) (fun fuel=>by
  rw [tO,jG,List.take_length];simp only [ak,cond_false])
 rw [show gB l ai (({data:= #[]}:ByteArray),0)=_ from hh]
 simp only [Option.bind_some,my]
 unfold Kx
 cases l with
 |nil=>
  have:(join (([]:List Int).map ze) [44]==({data:= #[]}:ByteArray).toList)=true:=by rw [ByteArray.toList_eq];rfl
  rw [this];rfl
 |cons x r=>
  rw [if_neg (by simp)]
  have hne:(join ((x::r).map ze) [44]==({data:= #[]}:ByteArray).toList)=false:=by
   rw [beq_eq_false_iff_ne,ByteArray.toList_eq]
   intro e
   rw [List.map_cons,join_cons] at e
   exact YR _ (List.append_eq_nil_iff.1 e).1
  rw [hne];rfl
end
theorem EC {n:Int} (h:0≤n):itoa n=ze n:=by
 obtain ⟨k,rfl⟩: ∃k:Nat,n=k:=⟨n.toNat,by omega⟩
 rw [itoa_nonneg];simp [ze]
def Ux (b:Int) (ls:List Ln):List UInt8:=if FO b ls=true then RX b ls else []
theorem acR (b:Int) (ls:List Ln):cQ b ls=some (aW (Ux b ls)):=by
 unfold cQ Ux
 rw [Zp,Option.bind_some]
 cases hv:FO b ls with
 |false=>rfl
 |true=>
  have ok:=yJ.1 hv
  have hb:Uw b ls=true:=by
   unfold Uw n64
   have h0:=ok.b0;have h1:=ok.b1;have h2:=ok.ll
   rw [decide_eq_true (by omega),decide_eq_true (by omega)]
   simp only [Bool.true_and,List.all_eq_true,Bool.and_eq_true,decide_eq_true_eq]
   intro x hx
   obtain ⟨k,hk,rfl⟩:=List.mem_iff_getElem.1 hx
   have hL:=ok.ln k hk
   rw [ac hk] at hL
   have a1:=hL.a;have a2:=hL.b;have a3:=hL.m
   omega
  rw [hb,if_pos rfl];rfl
theorem adu (b:Int) (ls:List Ln):oJ b ls=some (aW (Ux b ls)):=by
 unfold oJ Ux
 rw [XD,Option.bind_some]
 cases hv:FO b ls with
 |false=>rfl
 |true=>
  have ok:=yJ.1 hv
  have h0:=ok.b0;have h1:=ok.b1;have h2:=ok.ll
  let f:Ln→List UInt8:=fun x=>32::(itoa x.1++45::(itoa x.2.1++58::itoa x.2.2))
  have hf: ∀k,k<ls.length→f (ls.getD k (0,0,0))=32::(ze (ls.getD k (0,0,0)).1++45::(ze (ls.getD k (0,0,0)).2.1++58::ze (ls.getD k (0,0,0)).2.2)):=fun k hk=>by
   have hL:=ok.ln k hk
   show 32::(itoa _++45::(itoa _++58::itoa _))=_
   rw [EC hL.a.1,EC hL.b.1,EC (by have:=hL.m;omega)]
  have hlen: ∀k,k≤ls.length→(ze b++(ls.take k).flatMap f).length≤6+21*k:=by
   intro k
   induction k with
   |zero=>intro _;simp;exact zU (by omega)
   |succ k ih=>
    intro hk
    have hL:=ok.ln k (by omega)
    have:=ih (by omega)
    have e1:=zU (n:=(ls.getD k (0,0,0)).1) (by have:=hL.a;omega)
    have e2:=zU (n:=(ls.getD k (0,0,0)).2.1) (by have:=hL.b;omega)
    have e3:=zU (n:=(ls.getD k (0,0,0)).2.2) (by have:=hL.m;omega)
    rw [List.take_succ_eq_append_getElem (by omega),List.flatMap_append,←ac (d:=(0,0,0)) (by omega:k<ls.length)]
    simp only [List.flatMap_cons,List.flatMap_nil,List.append_nil,hf k (by omega)]
    rw [List.length_append] at this ⊢
    simp only [List.length_append,List.length_cons];omega
  rw [if_pos rfl,Pn (by omega)]
  have hh:=ax (gj ls) (fun k=>(aW (ze b++(ls.take k).flatMap f),(k:Int))) ls.length (some (aW (ze b++ls.flatMap f))) (by omega) (fun k fuel hk=>by
   have hL:=ok.ln k hk
   have q1:0≤(ls.getD k (0,0,0)).1∧(ls.getD k (0,0,0)).1<1000000:=by have:=hL.a;omega
   have q2:0≤(ls.getD k (0,0,0)).2.1∧(ls.getD k (0,0,0)).2.1<1000000:=by have:=hL.b;omega
   have q3:0≤(ls.getD k (0,0,0)).2.2∧(ls.getD k (0,0,0)).2.2<1000000:=by have:=hL.m;omega
   have l1:=zU q1;have l2:=zU q2;have l3:=zU q3
   have hz:=hlen k (by omega)
   rw [tF,jv]
   have k32:({data:= #[32]}:ByteArray)=aW [32]:=rfl
   have k45:({data:= #[45]}:ByteArray)=aW [45]:=rfl
   have k58:({data:= #[58]}:ByteArray)=aW [58]:=rfl
   have st: ∀a c:List UInt8,a.length+c.length≤1000000→KJ (aW a).size (aW c).size=true:=fun a c h=>decide_eq_true (by rw [eu,eu];omega)
   have hz2:((ze b).length+((ls.take k).flatMap f).length)≤6+21*k:=by simpa using hz
   simp only [au hk,ae hk,aa,cond_true,Int.toNat_natCast,ab (by omega:k<4611686018427387904),Pn q1,Pn q2,Pn q3,Option.bind_some,k32,k45,k58]
   repeat rw [yX]
   repeat rw [st _ _ (by simp only [List.length_append,List.length_cons,List.length_nil];omega),aa]
   rw [List.take_succ_eq_append_getElem hk,List.flatMap_append,←ac (d:=(0,0,0)) hk]
   simp only [List.flatMap_cons,List.flatMap_nil,List.append_nil,hf k hk]
   simp) (fun fuel=>by
   rw [tF,jv,List.take_length];simp only [ak,cond_false])
  rw [cond_true,Option.bind_some]
  rw [show gj ls ai (aW (ze b),0)=_ from by simpa using hh]
  unfold RX
  rw [EC (by omega)];rfl
end Go.Proofs.YtjdlgannencchaaGreatDoor
namespace Go.Proofs.YtjdlgannencchaaGreatDoor
open Go.ChangeShapes Go.WideShapes Go.ChangeAt Go.RowKit
set_option linter.unusedVariables false
set_option linter.unusedSimpArgs false
set_option linter.unusedSectionVars false
section
variable (w:Wk) (ho:w.1.length≤1000) (he:w.2.1.length≤1000) (hp:w.2.2.length≤1000)
include ho he hp
omit ho he in
theorem acU:gV w.1 w.2.1 w.2.2=some (fg w.2.2):=by
 unfold gV
 have h:=ax (dX w.2.2) (fun k=>(fg (w.2.2.take k),(k:Int))) w.2.2.length (some (fg w.2.2)) (by omega) (fun k fuel hk=>?_) (fun fuel=>?_)
 ·rw [show (([]:List (Int×Int×Int)),(0:Int))=(fg (w.2.2.take 0),((0:Nat):Int)) from rfl,h];rfl
 ·rw [nP,dl]
  have ha:bq (fg (w.2.2.take k)).length 1=true:=by simp [bq,fg];omega
  simp only [au hk,ae hk,aa,cond_true,Int.toNat_natCast,List.length_singleton,ha,ab (by omega:k<4611686018427387904)]
  rw [KE hk]
 ·rw [nP,dl];simp [ak]
omit he hp ho in
theorem aeU (kd:Int) (l:List Bool) (b:Bool) (hl:l.length≤1000):mR kd l b=some (nU kd l b l.length):=by
 unfold mR
 have h:=ax (jb kd l b) (fun k=>(nU kd l b k,(k:Int))) l.length (some (nU kd l b l.length)) (by omega) (fun k fuel hk=>?_) (fun fuel=>?_)
 ·rw [show (([]:List (Int×Int×Int)),(0:Int))=(nU kd l b 0,((0:Nat):Int)) from rfl,h];rfl
 ·rw [rX,gZ]
  have hb:=zc kd l b k
  have ha:bq (nU kd l b k).length 1=true:=by simp [bq];omega
  simp only [au hk,ae hk,aa,cond_true,Int.toNat_natCast,List.length_singleton,ha,ab (by omega:k<4611686018427387904)]
  simp only [nU]
  cases (l.getD k false==b)<;>rfl
 ·rw [rX,gZ];simp only [ak,cond_false]
end
def GS (d:Int×Bool):Dd:=(bif d.2 then (0:Int) else 1,d.1,0)
theorem Dz (on:List Bool) (x:Option (List Bool)):(EJ on x).1.map GS=Mk on x:=by
 cases x with
 |none=>rfl
 |some y=>
  show (ID on y).map GS=Po on y on.length++UE on y on.length
  unfold ID Po UE
  rw [List.map_append,List.map_map,List.map_map];rfl
theorem IM (on:List Bool) (x:Option (List Bool)):(EJ on x).1.length≤2*on.length:=by
 cases x with
 |none=>simp [EJ]
 |some y=>
  have a:=List.length_filter_le (fun i=>on.getD i false&& !y.getD i false) (List.range on.length)
  have b:=List.length_filter_le (fun i=>y.getD i false&& !on.getD i false) (List.range on.length)
  rw [List.length_range] at a b
  simp only [EJ,ID,List.length_append,List.length_map]
  omega
theorem Nb (earth:List Bool) (br:List Int) {k:Nat} (hk:k<br.length):mC earth (br.take (k+1))=mC earth (br.take k)++((if earth.getD (br.getD k 0).toNat false then [] else [(2,br.getD k 0,0)])++ [(4,br.getD k 0,0),(7,br.getD k 0,0),(5,br.getD k 0,0)]):=by
 rw [List.take_succ_eq_append_getElem hk,←ac hk (d:=0)]
 unfold mC
 rw [List.flatMap_append];simp
theorem MW (earth:List Bool) (br:List Int) {k:Nat} (hk:k<br.length):dp earth (br.take (k+1))=(dp earth (br.take k)).set (br.getD k 0).toNat true:=by
 rw [List.take_succ_eq_append_getElem hk,←ac hk (d:=0)]
 unfold dp
 rw [List.foldl_append];rfl
theorem FG (earth:List Bool): ∀br:List Int,(mC earth br).length≤4*br.length
 | []=>by simp [mC]
 |l::br=>by
  have:=FG earth br
  rw [WB]
  simp only [List.length_append,List.length_cons,List.length_nil]
  split<;>simp<;>omega
theorem Gi: ∀(br:List Int) (earth:List Bool) (m:Nat),(∀x∈br,x.toNat≠m)→(dp earth br).getD m false=earth.getD m false
 | [],_,_,_=>rfl
 |l::br,earth,m,h=>by
  show (dp (earth.set l.toNat true) br).getD m false=_
  rw [Gi br _ m fun x hx=>h x (List.mem_cons_of_mem _ hx)]
  have:=h l List.mem_cons_self
  simp [List.getD,List.getElem?_set_ne this]
theorem Ic: ∀(br:List Int) (earth:List Bool) (k:Nat),(∀x∈br,0≤x∧x<(earth.length:Int))→(dp earth br).getD k false=(earth.getD k false ||decide ((k:Int)∈br))
 | [],_,_,_=>by simp [dp]
 |l::br,earth,k,h=>by
  show (dp (earth.set l.toNat true) br).getD k false=_
  have hl:=h l List.mem_cons_self
  rw [Ic br _ k fun x hx=>by rw [List.length_set];exact h x (List.mem_cons_of_mem _ hx)]
  by_cases e:(k:Int)=l
  ·have e2:l.toNat=k:=by omega
   have:(earth.set l.toNat true).getD k false=true:=by rw [e2];simp [List.getD,show k<earth.length by omega]
   rw [this];simp [e]
  ·have e2:l.toNat≠k:=by omega
   have:(earth.set l.toNat true).getD k false=earth.getD k false:=by simp [List.getD,List.getElem?_set_ne e2]
   rw [this];simp [e]
theorem Rr {br:List Int} (h:br.Pairwise (· < ·)) (h0: ∀x∈br,0≤x): ∀k,k<br.length→(k:Int)≤br.getD k 0
 |0,hk=>h0 _ (by rw [ac hk];exact List.getElem_mem hk)
 |k+1,hk=>by
  have:=Rr h h0 k (by omega)
  have:=uk h hk
  omega
theorem OK {w:Wd} (h:WdOk w):w.br.length≤w.on.length:=by
 cases hb:w.br.length with
 |zero=>omega
 |succ n=>
  have h1:=Rr h.sor (fun x hx=>(h.inn x hx).1.1) n (by omega)
  have h2:=(h.inn (w.br.getD n 0) (by rw [ac (show n<w.br.length by omega)];exact List.getElem_mem _)).1.2
  omega
theorem aat {br:List Int} (h:br.Pairwise (· < ·)) (h0: ∀x∈br,0≤x) {k:Nat} (hk:k<br.length): ∀x∈br.take k,x.toNat≠(br.getD k 0).toNat:=by
 intro x hx e
 have hk0:=h0 (br.getD k 0) (by rw [ac hk];exact List.getElem_mem hk)
 have hx0:=h0 x (List.mem_of_mem_take hx)
 have h2:(br.take k++br.drop k).Pairwise (· < ·):=by rw [List.take_append_drop];exact h
 have:=(List.pairwise_append.1 h2).2.2 x hx (br.getD k 0) (by rw [List.drop_eq_getElem_cons hk,ac hk];exact List.mem_cons_self)
 omega
theorem Zs (p:List (Int×Bool)×Bool) (L:List Dd) (h:L.length+p.1.length≤1048576):dG p ai (L,0)=some (L++p.1.map GS):=by
 have hh:=ax (dG p) (fun k=>(L++(p.1.take k).map GS,(k:Int))) p.1.length (some (L++p.1.map GS)) (by omega) (fun k fuel hk=>?_) (fun fuel=>?_)
 ·simpa using hh
 ·rw [qN,fA]
  have ap: ∀x:Dd,bq (L++(p.1.take k).map GS).length ([x]:List Dd).length=true:=fun x=>dC (by simp only [List.length_append,List.length_map,List.length_take,List.length_singleton];omega)
  simp only [au hk,ae hk,cond_true,aa,Int.toNat_natCast,ap,ab (by omega:k<4611686018427387904)]
  rw [List.take_succ_eq_append_getElem hk,←ac hk (d:=((0,false):Int×Bool)),List.map_append,List.map_cons,List.map_nil,←List.append_assoc]
  unfold GS
  cases (p.1.getD k ((0,false):Int×Bool)).2<;>rfl
 ·rw [qN,fA];simp only [ak,cond_false,List.take_length]
theorem aaq (p:List (Int×Bool)×Bool) (L:List Dd) (h:L.length+p.1.length≤1048576):dP p ai (L,0)=some (L++p.1.map GS):=by
 have hh:=ax (dP p) (fun k=>(L++(p.1.take k).map GS,(k:Int))) p.1.length (some (L++p.1.map GS)) (by omega) (fun k fuel hk=>?_) (fun fuel=>?_)
 ·simpa using hh
 ·rw [rg,gg]
  have ap: ∀x:Dd,bq (L++(p.1.take k).map GS).length ([x]:List Dd).length=true:=fun x=>dC (by simp only [List.length_append,List.length_map,List.length_take,List.length_singleton];omega)
  simp only [au hk,ae hk,cond_true,aa,Int.toNat_natCast,ap,ab (by omega:k<4611686018427387904)]
  rw [List.take_succ_eq_append_getElem hk,←ac hk (d:=((0,false):Int×Bool)),List.map_append,List.map_cons,List.map_nil,←List.append_assoc]
  unfold GS
  cases (p.1.getD k ((0,false):Int×Bool)).2<;>rfl
 ·rw [rg,gg];simp only [ak,cond_false,List.take_length]
theorem Ud (br:List Int) (p:List Dd×List Bool×Int) (L:List Dd) (h:L.length≤1048576):dF br p ai (L,0)=some (L++ [(4,br.getD p.2.2.toNat 0,0),(7,br.getD p.2.2.toNat 0,0),(5,br.getD p.2.2.toNat 0,0)]):=by
 have hh:=ax (dF br p) (fun k=>(L++(([4,7,5]:List Int).take k).map (fun kd=>(kd,br.getD p.2.2.toNat 0,0)),(k:Int))) 3 (some (L++ [(4,br.getD p.2.2.toNat 0,0),(7,br.getD p.2.2.toNat 0,0),(5,br.getD p.2.2.toNat 0,0)])) (by omega) (fun k fuel hk=>?_) (fun fuel=>?_)
 ·simpa using hh
 ·rw [qM,fz]
  have ap: ∀x:Dd,bq (L++(([4,7,5]:List Int).take k).map (fun kd=>(kd,br.getD p.2.2.toNat 0,(0:Int)))).length ([x]:List Dd).length=true:=fun x=>dC (by simp only [List.length_append,List.length_map,List.length_take,List.length_singleton];omega)
  have hlt:af (k:Int) 3=true:=decide_eq_true (by omega)
  have hix:aq (k:Int) 3=true:=ae hk
  simp only [hlt,hix,cond_true,aa,Int.toNat_natCast,ap,ab (by omega:k<4611686018427387904)]
  have:k=0∨k=1∨k=2:=by omega
  rcases this with rfl |rfl |rfl<;>simp
 ·rw [qM,fz];rfl
section
variable {earth:List Bool} {br:List Int} (hs:br.Pairwise (· < ·)) (hi: ∀x∈br,0≤x∧x<(earth.length:Int)) (hb:br.length≤1000) (L:List Dd) (hL:L.length≤1000)
include hs hi hb hL
theorem aeT:dE br earth ai (L,earth,0)=some (L++mC earth br,dp earth br):=by
 have hh:=ax (dE br earth) (fun k=>(L++mC earth (br.take k),dp earth (br.take k),(k:Int))) br.length (some (L++mC earth br,dp earth br)) (by omega) (fun k fuel hk=>?_) (fun fuel=>?_)
 ·simpa [mC,dp] using hh
 ·rw [qL,fy]
  have hg:=hi (br.getD k 0) (by rw [ac hk];exact List.getElem_mem hk)
  have hix:aq (br.getD k 0) earth.length=true:=by simp only [aq,Bool.and_eq_true,decide_eq_true_eq];omega
  have hfl:=FG earth (br.take k)
  have htl:(br.take k).length≤k:=by rw [List.length_take];omega
  have hkeep:=Gi (br.take k) earth (br.getD k 0).toNat (aat hs (fun x hx=>(hi x hx).1) hk)
  have ap: ∀x:Dd,bq (L++mC earth (br.take k)).length ([x]:List Dd).length=true:=fun x=>dC (by simp only [List.length_append,List.length_singleton];omega)
  simp only [au hk,ae hk,cond_true,aa,Int.toNat_natCast,hix,ap,ab (by omega:k<4611686018427387904)]
  rw [hkeep,Nb earth br hk,MW earth br hk]
  cases he:earth.getD (br.getD k 0).toNat false
  ·simp only [cond_false,Option.bind_some,Bool.false_eq_true,if_false]
   rw [Ud _ _ _ (by simp only [List.length_append,List.length_singleton];omega)]
   simp only [Option.bind_some,Int.toNat_natCast,List.append_assoc]
  ·simp only [cond_true,Option.bind_some,if_true]
   rw [Ud _ _ _ (by simp only [List.length_append];omega),JP (hkeep.trans he)]
   simp only [Option.bind_some,Int.toNat_natCast,List.append_assoc,List.nil_append]
 ·rw [qL,fy];simp only [ak,cond_false,List.take_length]
theorem ae2:dN earth br ai (L,0)=some (L++mC earth br):=by
 have hh:=ax (dN earth br) (fun k=>(L++mC earth (br.take k),(k:Int))) br.length (some (L++mC earth br)) (by omega) (fun k fuel hk=>?_) (fun fuel=>?_)
 ·simpa [mC] using hh
 ·rw [re,gc]
  have hg:=hi (br.getD k 0) (by rw [ac hk];exact List.getElem_mem hk)
  have hix:aq (br.getD k 0) earth.length=true:=by simp only [aq,Bool.and_eq_true,decide_eq_true_eq];omega
  have hfl:=FG earth (br.take k)
  have htl:(br.take k).length≤k:=by rw [List.length_take];omega
  have ap: ∀x:Dd,bq (L++mC earth (br.take k)).length ([x]:List Dd).length=true:=fun x=>dC (by simp only [List.length_append,List.length_singleton];omega)
  have ap3: ∀x y z:Dd,bq (L++mC earth (br.take k)).length ([x,y,z]:List Dd).length=true:=fun x y z=>dC (by simp only [List.length_append,List.length_cons,List.length_nil];omega)
  have ap4: ∀t x y z:Dd,bq (L++mC earth (br.take k)++ [t]).length ([x,y,z]:List Dd).length=true:=fun t x y z=>dC (by simp only [List.length_append,List.length_cons,List.length_nil];omega)
  simp only [au hk,ae hk,cond_true,aa,Int.toNat_natCast,hix,ap,ab (by omega:k<4611686018427387904)]
  rw [Nb earth br hk]
  cases he:earth.getD (br.getD k 0).toNat false
  ·simp only [cond_false,Option.bind_some,Bool.false_eq_true,if_false,ap4,aa]
   simp only [List.append_assoc]
  ·simp only [cond_true,Option.bind_some,if_true,ap3,aa,List.append_assoc,List.nil_append]
 ·rw [re,gc];simp only [ak,cond_false,List.take_length]
theorem aal (on:List Bool) (hl:earth.length=on.length) (ho:on.length≤1000):dO on earth br ai (L,0)=some (L++nU 3 (dp earth br) true on.length):=by
 have hh:=ax (dO on earth br) (fun k=>(L++nU 3 (dp earth br) true k,(k:Int))) on.length (some (L++nU 3 (dp earth br) true on.length)) (by omega) (fun k fuel hk=>?_) (fun fuel=>?_)
 ·simpa [nU] using hh
 ·rw [rf,gf]
  have hfl:=zc 3 (dp earth br) true k
  have ap: ∀x:Dd,bq (L++nU 3 (dp earth br) true k).length ([x]:List Dd).length=true:=fun x=>dC (by simp only [List.length_append,List.length_singleton];omega)
  have hg:=Ic br earth k hi
  simp only [au hk,ae (show k<earth.length by omega),cond_true,aa,Int.toNat_natCast,Su br _ (by omega),ap,ab (by omega:k<4611686018427387904),nU,hg]
  cases earth.getD k false
  ·simp only [Bool.not_false,ca,Option.bind_some,Bool.false_or]
   cases decide ((k:Int)∈br)
   ·rfl
   ·simp only [cond_true,Option.bind_some,beq_self_eq_true,if_true,List.append_assoc]
  ·simp only [Bool.not_true,qp,Option.bind_some,Bool.true_or,cond_true,beq_self_eq_true,if_true,List.append_assoc]
 ·rw [rf,gf];simp only [ak,cond_false]
end
theorem ady (pm:Pm) (hp:pm.length≤1000):dM pm ai (([]:List Dd),0)=some (fg pm):=by
 have h:=ax (dM pm) (fun k=>(fg (pm.take k),(k:Int))) pm.length (some (fg pm)) (by omega) (fun k fuel hk=>?_) (fun fuel=>?_)
 ·rw [show (([]:List (Int×Int×Int)),(0:Int))=(fg (pm.take 0),((0:Nat):Int)) from rfl,h]
 ·rw [rb,ga]
  have ha: ∀x:Dd,bq (fg (pm.take k)).length ([x]:List Dd).length=true:=fun x=>dC (by simp only [fg,List.length_map,List.length_take,List.length_singleton];omega)
  simp only [au hk,ae hk,aa,cond_true,Int.toNat_natCast,ha,ab (by omega:k<4611686018427387904)]
  rw [KE hk]
 ·rw [rb,ga];simp only [ak,cond_false,List.take_length]
theorem TQ {w:Wd} (h:WdOk w):(Kn w).length≤1000:=by
 have h1:=OK h
 have h2:=FG w.earth w.br
 have h3:=zc 3 (dp w.earth w.br) true w.on.length
 have h4:=IM w.on (oY w.ls w.on w.pts)
 have h5:=h.work.lp
 have h6:=h.work.l1
 have h7:(Mk w.on (oY w.ls w.on w.pts)).length=(EJ w.on (oY w.ls w.on w.pts)).1.length:=by rw [←Dz,List.length_map]
 simp only [Wd.wk] at h5 h6
 simp only [Kn,List.length_append,fg,List.length_map,h7]
 omega
section
variable (b:Int) (ls:List Ln) (pts:List (Int×Int)) (on earth:List Bool) (pm:Pm) (br:List Int) (hp:pts.length≤1048576) (ho:on.length≤1048576) (hm:pm.length≤1048576) (hb:br.length≤1048576)
include hp ho hm hb
theorem acM:iD b ls pts on earth pm br=some (if wv ⟨b,ls,pts,on,earth,pm,br⟩ then Kn ⟨b,ls,pts,on,earth,pm,br⟩ else []):=by
 unfold iD
 rw [iWv b ls pts on earth pm br hp ho hm hb,Option.bind_some]
 cases hv:wv ⟨b,ls,pts,on,earth,pm,br⟩
 ·rfl
 have hw:=jL.1 hv
 have hbl:=OK hw
 have hlp:=hw.bus.lp
 have w0:=hw.work.l0;have w1:=hw.work.l1;have we:=hw.work.le;have wp:=hw.work.lp;have hlen:=hw.len
 have hin:=hw.inn;have hsor:=hw.sor
 simp only [Wd.wk] at w0 w1 we wp
 dsimp only at hlp hbl hlen hin hsor
 subst hlp
 have h01:1≤ls.length:=by omega
 have hel:=OT br earth
 have hfl:=FG earth br
 have hol:=zc 3 (dp earth br) true earth.length
 have hrl:=IM on (oY ls on pts)
 have hrt:(fg pm).length=pm.length:=by simp [fg]
 have a1:bq ([]:List Bool).length earth.length=true:=dC (by simp only [List.length_nil];omega)
 have a2:bq (fg pm++mC earth br).length (nU 3 (dp earth br) true earth.length).length=true:=dC (by simp only [List.length_append];omega)
 simp only [cond_true,acU (on,earth,pm) (show pm.length≤1000 by omega),aQ,a1,aa,Option.bind_some,if_true]
 rw [aeT hsor (fun x hx=>by have:=(hin x hx).1;omega) (by omega) _ (by omega),Option.bind_some]
 dsimp only
 rw [aeU 3 (dp earth br) true (by omega),Option.bind_some,hel,a2,aa,TZ ⟨hw.bus.net,hlen⟩ hw.bus h01,Option.bind_some,Zs _ _ (by simp only [List.length_append];omega),Option.bind_some,Dz]
 simp only [Kn,we]
theorem adp:iK b ls pts on earth pm br=some (if wv ⟨b,ls,pts,on,earth,pm,br⟩ then Kn ⟨b,ls,pts,on,earth,pm,br⟩ else []):=by
 unfold iK
 rw [sWv b ls pts on earth pm br hp ho hm hb,Option.bind_some]
 cases hv:wv ⟨b,ls,pts,on,earth,pm,br⟩
 ·rfl
 have hw:=jL.1 hv
 have hbl:=OK hw
 have hlp:=hw.bus.lp
 have w0:=hw.work.l0;have w1:=hw.work.l1;have we:=hw.work.le;have wp:=hw.work.lp;have hlen:=hw.len
 have hin:=hw.inn;have hsor:=hw.sor
 simp only [Wd.wk] at w0 w1 we wp
 dsimp only at hlp hbl hlen hin hsor
 subst hlp
 have h01:1≤ls.length:=by omega
 have hfl:=FG earth br
 have hol:=zc 3 (dp earth br) true on.length
 have hrl:=IM on (oY ls on pts)
 have hrt:(fg pm).length=pm.length:=by simp [fg]
 have hi2: ∀x∈br,0≤x∧x<(earth.length:Int):=fun x hx=>by have:=(hin x hx).1;omega
 rw [cond_true,ady pm (by omega),Option.bind_some,ae2 hsor hi2 (by omega) _ (by omega),Option.bind_some,aal hsor hi2 (by omega) _ (by simp only [List.length_append];omega) on we (by omega),Option.bind_some,Vo ⟨hw.bus.net,hlen⟩ hw.bus h01,Option.bind_some,aaq _ _ (by simp only [List.length_append];omega),Option.bind_some,Dz]
 rfl
end
def Ya (w:Wd):List Dd:=if wv w=true then Kn w else []
def rsP (w:Wd):Wd:=(EY w (Ya w)).2
theorem TP (w:Wd):(Ya w).length≤1000:=by
 unfold Ya
 split
 ·rename_i h;exact TQ (jL.1 h)
 ·simp
theorem Zn {w:Wd} (h:Sm w):iD w.b w.ls w.pts w.on w.earth w.pm w.br=some (Ya w):=acM w.b w.ls w.pts w.on w.earth w.pm w.br h.p h.o h.m h.b
theorem aam {w:Wd} (h:Sm w):iK w.b w.ls w.pts w.on w.earth w.pm w.br=some (Ya w):=adp w.b w.ls w.pts w.on w.earth w.pm w.br h.p h.o h.m h.b
theorem UY (w:Wd):Sm (rsP w):=Oo (w:=w) (Ya w)
theorem acT {w:Wd} (h:Sm w):lN w.b w.ls w.pts w.on w.earth w.pm w.br=some (o7 (rsP w)):=by
 have hl:=TP w
 unfold lN
 rw [Zn h,Option.bind_some,RN h (Ya w) (by omega)]
 rfl
theorem adx {w:Wd} (h:Sm w):md w.b w.ls w.pts w.on w.earth w.pm w.br=some (o7 (rsP w)):=by
 have hl:=TP w
 unfold md
 rw [aam h,Option.bind_some,Sw h (Ya w) (by omega)]
 rfl
structure Code (b:List Int):Prop where
 byte: ∀z∈b,0≤z∧z≤255
 len:b.length≤2000
theorem Code.at_ {b:List Int} (h:Code b) (k:Nat):0≤b.getD k 0∧b.getD k 0≤255:=by
 by_cases hk:k<b.length
 ·rw [ac hk];exact h.byte _ (List.getElem_mem hk)
 ·simp [List.getD,List.getElem?_eq_none (Nat.le_of_not_lt hk)]
structure Sz (m:Nat) (w:Wd):Prop where
 ls:w.ls.length≤m
 pts:w.pts.length≤m
 on:w.on.length≤m
 earth:w.earth.length≤m
 pm:w.pm.length≤m
 br:w.br.length≤m
theorem Sz.mono {m n:Nat} {w:Wd} (h:Sz m w) (hm:m≤n):Sz n w:=by
 obtain ⟨h1,h2,h3,h4,h5,h6⟩:=h
 exact ⟨by omega,by omega,by omega,by omega,by omega,by omega⟩
theorem Sz.sm {w:Wd} (h:Sz 40 w):Sm w:=by
 obtain ⟨h1,h2,h3,h4,h5,h6⟩:=h
 exact ⟨by omega,by omega,by omega,by omega,by omega,by omega⟩
theorem bb (x0:List (Int×Int×Int)) (x1:Int) (hx0:x0.length≤9223372036854775807) (h0:0≤x1∧x1≤1048576):oE x0 x1=some (if x1<(x0.length:Int) then-1 else x1-((x0.length:Int))):=by
 simp (disch:=omega) [oE,aj,gb,ab,aV,Int.toNat_natCast,ac,Bool.cond_decide,af,aF,aq,xx,qt]
 try (repeat' split)
 all_goals first |rfl |omega |(congr 1;omega)
theorem cw (x0:Int) (x1:List (Int×Int×Int)) (x2:Int) (hx1:x1.length≤9223372036854775807) (h0:0≤x2∧x2≤1048576):rD x0 x1 x2=some (if x2<(x1.length:Int) then-1 else x2-((x1.length:Int))):=by
 simp (disch:=omega) [rD,aj,gb,ab,aV,Int.toNat_natCast,ac,Bool.cond_decide,af,aF,aq,xx,qt,bb]
 try (repeat' split)
 all_goals first |rfl |omega |(congr 1;omega)
theorem bI (x0:List (Int×Int)) (x1:Int) (hx0:x0.length≤9223372036854775807) (h0:0≤x1∧x1≤1048576):pM x0 x1=some (if x1<(x0.length:Int) then-1 else x1-((x0.length:Int))):=by
 simp (disch:=omega) [pM,aj,gb,ab,aV,Int.toNat_natCast,ac,Bool.cond_decide,af,aF,aq,xx,qt,bb,cw]
 try (repeat' split)
 all_goals first |rfl |omega |(congr 1;omega)
theorem bi (x0:List Bool) (x1:Int) (hx0:x0.length≤9223372036854775807) (h0:0≤x1∧x1≤1048576):lu x0 x1=some (if x1<(x0.length:Int) then-1 else x1-((x0.length:Int))):=by
 simp (disch:=omega) [lu,aj,gb,ab,aV,Int.toNat_natCast,ac,Bool.cond_decide,af,aF,aq,xx,qt,bb,cw,bI]
 try (repeat' split)
 all_goals first |rfl |omega |(congr 1;omega)
theorem aM (x0:List (Int×Int)) (x1:Int) (hx0:x0.length≤9223372036854775807) (h0:0≤x1∧x1≤1048576):lX x0 x1=some (if x1<(x0.length:Int) then-1 else x1-((x0.length:Int))):=by
 simp (disch:=omega) [lX,aj,gb,ab,aV,Int.toNat_natCast,ac,Bool.cond_decide,af,aF,aq,xx,qt,bb,cw,bI,bi]
 try (repeat' split)
 all_goals first |rfl |omega |(congr 1;omega)
theorem bX (x0:List Bool) (x1:List Bool) (x2:List (Int×Int)) (x3:Int) (hx0:x0.length≤9223372036854775807) (hx1:x1.length≤9223372036854775807) (hx2:x2.length≤9223372036854775807) (h0:0≤x3∧x3≤1048576):pO x0 x1 x2 x3=some (if x3<(x0.length:Int)+(x1.length:Int)+(x2.length:Int) then-1 else x3-((x0.length:Int)+(x1.length:Int)+(x2.length:Int))):=by
 simp (disch:=omega) [pO,aj,gb,ab,aV,Int.toNat_natCast,ac,Bool.cond_decide,af,aF,aq,xx,qt,bb,cw,bI,bi,aM]
 try (repeat' split)
 all_goals first |rfl |omega |(congr 1;omega)
theorem ci (x0:List Int) (x1:Int) (hx0:x0.length≤9223372036854775807) (h0:0≤x1∧x1≤1048576):pN x0 x1=some (if x1<(x0.length:Int) then-1 else x1-((x0.length:Int))):=by
 simp (disch:=omega) [pN,aj,gb,ab,aV,Int.toNat_natCast,ac,Bool.cond_decide,af,aF,aq,xx,qt,bb,cw,bI,bi,aM,bX]
 try (repeat' split)
 all_goals first |rfl |omega |(congr 1;omega)
theorem bH (x0:Int) (x1:List (Int×Int×Int)) (x2:List (Int×Int)) (x3:List Bool) (x4:List Bool) (x5:List (Int×Int)) (x6:List Int) (x7:Int) (hx1:x1.length≤9223372036854775807) (hx2:x2.length≤9223372036854775807) (hx3:x3.length≤9223372036854775807) (hx4:x4.length≤9223372036854775807) (hx5:x5.length≤9223372036854775807) (hx6:x6.length≤9223372036854775807) (h0:0≤x7∧x7≤1048576):oF x0 x1 x2 x3 x4 x5 x6 x7=some (if x7<(x1.length:Int)+(x2.length:Int)+(x3.length:Int)+(x4.length:Int)+(x5.length:Int)+(x6.length:Int) then-1 else x7-((x1.length:Int)+(x2.length:Int)+(x3.length:Int)+(x4.length:Int)+(x5.length:Int)+(x6.length:Int))):=by
 simp (disch:=omega) [oF,aj,gb,ab,aV,Int.toNat_natCast,ac,Bool.cond_decide,af,aF,aq,xx,qt,bb,cw,bI,bi,aM,bX,ci]
 try (repeat' split)
 all_goals first |rfl |omega |(congr 1;omega)
theorem cB (x0:Int) (x1:Int) (x2:Int):pR x0 x1 x2=some (x0,x1,x2):=by
 simp (disch:=omega) [pR,aj,gb,ab,aV,Int.toNat_natCast,ac,Bool.cond_decide,af,aF,aq,xx,qt,bb,cw,bI,bi,aM,bX,ci,bH]
theorem bO (x0:List (Int×Int×Int)) (hx0:x0.length≤1048576):oG x0=some x0:=by
 have h:=wJ (kI x0) x0 (List.replicate x0.length ((0,0,0):Int×Int×Int)) (by simp) hx0 (fun fuel l j hj hl=>by simp (disch:=omega) [tD,js,hj,hl,aj,gb,ab,aV,Int.toNat_natCast,ac,Bool.cond_decide,af,aF,aq,xx,qt,bb,cw,bI,bi,aM,bX,ci,bH,cB]) (fun fuel l hl=>by simp [tD,js,af])
 have hc:uA (x0.length:Int)=true:=by simp [uA];omega
 simp only [oG,hc,aa,h,Option.bind_some]
theorem iS (x0:Int) (x1:List (Int×Int×Int)) (hx1:x1.length≤1048576):rF x0 x1=some (x0,x1):=by
 simp (disch:=omega) [rF,aj,gb,ab,aV,Int.toNat_natCast,ac,Bool.cond_decide,af,aF,aq,xx,qt,bb,cw,bI,bi,aM,bX,ci,bH,cB,bO]
theorem jK (x0:Int) (x1:Int):rE x0 x1=some (x0,x1):=by
 simp (disch:=omega) [rE,aj,gb,ab,aV,Int.toNat_natCast,ac,Bool.cond_decide,af,aF,aq,xx,qt,bb,cw,bI,bi,aM,bX,ci,bH,cB,bO,iS]
theorem fe (x0:List (Int×Int)) (hx0:x0.length≤1048576):pP x0=some x0:=by
 have h:=wJ (lY x0) x0 (List.replicate x0.length ((0,0):Int×Int)) (by simp) hx0 (fun fuel l j hj hl=>by simp (disch:=omega) [uV,kG,hj,hl,aj,gb,ab,aV,Int.toNat_natCast,ac,Bool.cond_decide,af,aF,aq,xx,qt,bb,cw,bI,bi,aM,bX,ci,bH,cB,bO,iS,jK]) (fun fuel l hl=>by simp [uV,kG,af])
 have hc:uA (x0.length:Int)=true:=by simp [uA];omega
 simp only [pP,hc,aa,h,Option.bind_some]
theorem dh (x0:List Bool) (hx0:x0.length≤1048576):lv x0=some x0:=by
 have h:=wJ (kF x0) x0 (List.replicate x0.length false) (by simp) hx0 (fun fuel l j hj hl=>by simp (disch:=omega) [tC,jr,hj,hl,aj,gb,ab,aV,Int.toNat_natCast,ac,Bool.cond_decide,af,aF,aq,xx,qt,bb,cw,bI,bi,aM,bX,ci,bH,cB,bO,iS,jK,fe]) (fun fuel l hl=>by simp [tC,jr,af])
 have hc:uA (x0.length:Int)=true:=by simp [uA];omega
 simp only [lv,hc,aa,h,Option.bind_some]
theorem cq (x0:Int) (x1:Int):mZ x0 x1=some (x0,x1):=by
 simp (disch:=omega) [mZ,aj,gb,ab,aV,Int.toNat_natCast,ac,Bool.cond_decide,af,aF,aq,xx,qt,bb,cw,bI,bi,aM,bX,ci,bH,cB,bO,iS,jK,fe,dh]
theorem bT (x0:List (Int×Int)) (hx0:x0.length≤1048576):ma x0=some x0:=by
 have h:=wJ (iq x0) x0 (List.replicate x0.length ((0,0):Int×Int)) (by simp) hx0 (fun fuel l j hj hl=>by simp (disch:=omega) [qZ,fW,hj,hl,aj,gb,ab,aV,Int.toNat_natCast,ac,Bool.cond_decide,af,aF,aq,xx,qt,bb,cw,bI,bi,aM,bX,ci,bH,cB,bO,iS,jK,fe,dh,cq]) (fun fuel l hl=>by simp [qZ,fW,af])
 have hc:uA (x0.length:Int)=true:=by simp [uA];omega
 simp only [ma,hc,aa,h,Option.bind_some]
theorem kR (x0:List Bool) (x1:List Bool) (x2:List (Int×Int)) (hx0:x0.length≤1048576) (hx1:x1.length≤1048576) (hx2:x2.length≤1048576):pS x0 x1 x2=some (x0,x1,x2):=by
 simp (disch:=omega) [pS,aj,gb,ab,aV,Int.toNat_natCast,ac,Bool.cond_decide,af,aF,aq,xx,qt,bb,cw,bI,bi,aM,bX,ci,bH,cB,bO,iS,jK,fe,dh,cq,bT]
theorem mj (x0:List Int) (hx0:x0.length≤1048576):pQ x0=some x0:=by
 have h:=wJ (lZ x0) x0 (List.replicate x0.length (0:Int)) (by simp) hx0 (fun fuel l j hj hl=>by simp (disch:=omega) [uW,kH,hj,hl,aj,gb,ab,aV,Int.toNat_natCast,ac,Bool.cond_decide,af,aF,aq,xx,qt,bb,cw,bI,bi,aM,bX,ci,bH,cB,bO,iS,jK,fe,dh,cq,bT,kR]) (fun fuel l hl=>by simp [uW,kH,af])
 have hc:uA (x0.length:Int)=true:=by simp [uA];omega
 simp only [pQ,hc,aa,h,Option.bind_some]
theorem jW (x0:Int) (x1:List (Int×Int×Int)) (x2:List (Int×Int)) (x3:List Bool) (x4:List Bool) (x5:List (Int×Int)) (x6:List Int) (hx1:x1.length≤1048576) (hx2:x2.length≤1048576) (hx3:x3.length≤1048576) (hx4:x4.length≤1048576) (hx5:x5.length≤1048576) (hx6:x6.length≤1048576):eD x0 x1 x2 x3 x4 x5 x6=some (x0,x1,x2,x3,x4,x5,x6):=by
 simp (disch:=omega) [eD,aj,gb,ab,aV,Int.toNat_natCast,ac,Bool.cond_decide,af,aF,aq,xx,qt,bb,cw,bI,bi,aM,bX,ci,bH,cB,bO,iS,jK,fe,dh,cq,bT,kR,mj]
theorem nR (x0:Int) (x1:Int) (x2:Int):pK x0 x1 x2 x0 x1 x2=some true:=by
 simp (disch:=omega) [pK,aj,gb,ab,aV,Int.toNat_natCast,ac,Bool.cond_decide,af,aF,aq,xx,qt,bb,cw,bI,bi,aM,bX,ci,bH,cB,bO,iS,jK,fe,dh,cq,bT,kR,mj,jW]
theorem mA (x0:List (Int×Int×Int)) (hx0:x0.length≤1048576):oD x0 x0=some true:=by
 have h:=Ec (kE x0 x0) x0.length hx0 (some (.inl ())) (fun fuel j hj=>by simp (disch:=omega) [tB,jj,hj,aj,gb,ab,aV,Int.toNat_natCast,ac,Bool.cond_decide,af,aF,aq,xx,qt,bb,cw,bI,bi,aM,bX,ci,bH,cB,bO,iS,jK,fe,dh,cq,bT,kR,mj,jW,nR]) (fun fuel=>by simp [tB,jj,af])
 simp [oD,h]
theorem wo (x0:Int) (x1:List (Int×Int×Int)) (hx1:x1.length≤1048576):rC x0 x1 x0 x1=some true:=by
 simp (disch:=omega) [rC,aj,gb,ab,aV,Int.toNat_natCast,ac,Bool.cond_decide,af,aF,aq,xx,qt,bb,cw,bI,bi,aM,bX,ci,bH,cB,bO,iS,jK,fe,dh,cq,bT,kR,mj,jW,nR,mA]
theorem xS (x0:Int) (x1:Int):rB x0 x1 x0 x1=some true:=by
 simp (disch:=omega) [rB,aj,gb,ab,aV,Int.toNat_natCast,ac,Bool.cond_decide,af,aF,aq,xx,qt,bb,cw,bI,bi,aM,bX,ci,bH,cB,bO,iS,jK,fe,dh,cq,bT,kR,mj,jW,nR,mA,wo]
theorem wn (x0:List (Int×Int)) (hx0:x0.length≤1048576):pI x0 x0=some true:=by
 have h:=Ec (lQ x0 x0) x0.length hx0 (some (.inl ())) (fun fuel j hj=>by simp (disch:=omega) [uT,kC,hj,aj,gb,ab,aV,Int.toNat_natCast,ac,Bool.cond_decide,af,aF,aq,xx,qt,bb,cw,bI,bi,aM,bX,ci,bH,cB,bO,iS,jK,fe,dh,cq,bT,kR,mj,jW,nR,mA,wo,xS]) (fun fuel=>by simp [uT,kC,af])
 simp [pI,h]
theorem ve (x0:List Bool) (hx0:x0.length≤1048576):lr x0 x0=some true:=by
 have h:=Ec (kB x0 x0) x0.length hx0 (some (.inl ())) (fun fuel j hj=>by simp (disch:=omega) [tA,jh,hj,aj,gb,ab,aV,Int.toNat_natCast,ac,Bool.cond_decide,af,aF,aq,xx,qt,bb,cw,bI,bi,aM,bX,ci,bH,cB,bO,iS,jK,fe,dh,cq,bT,kR,mj,jW,nR,mA,wo,xS,wn]) (fun fuel=>by simp [tA,jh,af])
 simp [lr,h]
theorem vf (x0:Int) (x1:Int):mU x0 x1 x0 x1=some true:=by
 simp (disch:=omega) [mU,aj,gb,ab,aV,Int.toNat_natCast,ac,Bool.cond_decide,af,aF,aq,xx,qt,bb,cw,bI,bi,aM,bX,ci,bH,cB,bO,iS,jK,fe,dh,cq,bT,kR,mj,jW,nR,mA,wo,xS,wn,ve]
theorem wq (x0:List (Int×Int)) (hx0:x0.length≤1048576):lS x0 x0=some true:=by
 have h:=Ec (ic x0 x0) x0.length hx0 (some (.inl ())) (fun fuel j hj=>by simp (disch:=omega) [qU,fR,hj,aj,gb,ab,aV,Int.toNat_natCast,ac,Bool.cond_decide,af,aF,aq,xx,qt,bb,cw,bI,bi,aM,bX,ci,bH,cB,bO,iS,jK,fe,dh,cq,bT,kR,mj,jW,nR,mA,wo,xS,wn,ve,vf]) (fun fuel=>by simp [qU,fR,af])
 simp [lS,h]
theorem Lq (x0:List Bool) (x1:List Bool) (x2:List (Int×Int)) (hx0:x0.length≤1048576) (hx1:x1.length≤1048576) (hx2:x2.length≤1048576):pL x0 x1 x2 x0 x1 x2=some true:=by
 simp (disch:=omega) [pL,aj,gb,ab,aV,Int.toNat_natCast,ac,Bool.cond_decide,af,aF,aq,xx,qt,bb,cw,bI,bi,aM,bX,ci,bH,cB,bO,iS,jK,fe,dh,cq,bT,kR,mj,jW,nR,mA,wo,xS,wn,ve,vf,wq]
theorem Qq (x0:List Int) (hx0:x0.length≤1048576):pJ x0 x0=some true:=by
 have h:=Ec (lR x0 x0) x0.length hx0 (some (.inl ())) (fun fuel j hj=>by simp (disch:=omega) [uU,kD,hj,aj,gb,ab,aV,Int.toNat_natCast,ac,Bool.cond_decide,af,aF,aq,xx,qt,bb,cw,bI,bi,aM,bX,ci,bH,cB,bO,iS,jK,fe,dh,cq,bT,kR,mj,jW,nR,mA,wo,xS,wn,ve,vf,wq,Lq]) (fun fuel=>by simp [uU,kD,af])
 simp [pJ,h]
theorem Ty (x0:Int) (x1:List (Int×Int×Int)) (x2:List (Int×Int)) (x3:List Bool) (x4:List Bool) (x5:List (Int×Int)) (x6:List Int) (hx1:x1.length≤1048576) (hx2:x2.length≤1048576) (hx3:x3.length≤1048576) (hx4:x4.length≤1048576) (hx5:x5.length≤1048576) (hx6:x6.length≤1048576):eC x0 x1 x2 x3 x4 x5 x6 x0 x1 x2 x3 x4 x5 x6=some true:=by
 simp (disch:=omega) [eC,aj,gb,ab,aV,Int.toNat_natCast,ac,Bool.cond_decide,af,aF,aq,xx,qt,bb,cw,bI,bi,aM,bX,ci,bH,cB,bO,iS,jK,fe,dh,cq,bT,kR,mj,jW,nR,mA,wo,xS,wn,ve,vf,wq,Lq,Qq]
def wA (q:Int):Int×Int×Int:=(q,(q+1),(q+2))
theorem Ph (x0:List (Int×Int×Int)) (x1:Int) (hx0:x0.length≤1048576) (hk:0≤x1∧x1≤33554432):lV x0 x1=some (x1+3*(x0.length:Int),cf wA 3 x1 x0.length):=by
 have h:=vQ (ip x0) wA 3 (by decide) x0 x1 hx0 hk (fun fuel l q j hj hl h0 h1=>by simp (disch:=omega) [qY,fV,hj,hl,wA,Int.add_assoc,aj,gb,ab,aV,Int.toNat_natCast,ac,Bool.cond_decide,af,aF,aq,xx,qt]) (fun fuel l q hl=>by simp [qY,fV,af])
 simp [lV,h]
def Dp (q:Int):Int×Int:=(q,(q+1))
theorem RV (x0:List (Int×Int)) (x1:Int) (hx0:x0.length≤1048576) (hk:0≤x1∧x1≤33554432):mX x0 x1=some (x1+2*(x0.length:Int),cf Dp 2 x1 x0.length):=by
 have h:=vQ (jn x0) Dp 2 (by decide) x0 x1 hx0 hk (fun fuel l q j hj hl h0 h1=>by simp (disch:=omega) [se,im,hj,hl,Dp,Int.add_assoc,aj,gb,ab,aV,Int.toNat_natCast,ac,Bool.cond_decide,af,aF,aq,xx,qt]) (fun fuel l q hl=>by simp [se,im,af])
 simp [mX,h]
def wz (q:Int):Bool:=(Int.tmod q 3==0)
theorem Pg (x0:List Bool) (x1:Int) (hx0:x0.length≤1048576) (hk:0≤x1∧x1≤33554432):iI x0 x1=some (x1+1*(x0.length:Int),cf wz 1 x1 x0.length):=by
 have h:=vQ (il x0) wz 1 (by decide) x0 x1 hx0 hk (fun fuel l q j hj hl h0 h1=>by simp (disch:=omega) [qX,fU,hj,hl,wz,Int.add_assoc,aj,gb,ab,aV,Int.toNat_natCast,ac,Bool.cond_decide,af,aF,aq,xx,qt]) (fun fuel l q hl=>by simp [qX,fU,af])
 simp [iI,h]
def pu (q:Int):Int×Int:=(q,(q+1))
theorem LG (x0:List (Int×Int)) (x1:Int) (hx0:x0.length≤1048576) (hk:0≤x1∧x1≤33554432):jq x0 x1=some (x1+2*(x0.length:Int),cf pu 2 x1 x0.length):=by
 have h:=vQ (eR x0) pu 2 (by decide) x0 x1 hx0 hk (fun fuel l q j hj hl h0 h1=>by simp (disch:=omega) [pd,eb,hj,hl,pu,Int.add_assoc,aj,gb,ab,aV,Int.toNat_natCast,ac,Bool.cond_decide,af,aF,aq,xx,qt]) (fun fuel l q hl=>by simp [pd,eb,af])
 simp [jq,h]
def Dq (q:Int):Int:=q
theorem RW (x0:List Int) (x1:Int) (hx0:x0.length≤1048576) (hk:0≤x1∧x1≤33554432):mY x0 x1=some (x1+1*(x0.length:Int),cf Dq 1 x1 x0.length):=by
 have h:=vQ (jo x0) Dq 1 (by decide) x0 x1 hx0 hk (fun fuel l q j hj hl h0 h1=>by simp (disch:=omega) [sf,io,hj,hl,Dq,Int.add_assoc,aj,gb,ab,aV,Int.toNat_natCast,ac,Bool.cond_decide,af,aF,aq,xx,qt]) (fun fuel l q hl=>by simp [sf,io,af])
 simp [mY,h]
theorem Pa (n:Nat) (k:Int) (hn:n≤1048576) (hk:0≤k∧k≤33554432):lT (cf wA 3 k n) k=some (k+3*(n:Int)):=by
 have h:=vj (ij (cf wA 3 k n)) wA 3 (by decide) n k hn hk (fun fuel q j hj hq h0 h1=>by simp (disch:=omega) [qW,fT,hj,hq,cg,wA,Int.add_assoc,aj,gb,ab,aV,Int.toNat_natCast,af,aF,aq]) (fun fuel q=>by simp [qW,fT,cg,af])
 simp [lT,h]
theorem RL (n:Nat) (k:Int) (hn:n≤1048576) (hk:0≤k∧k≤33554432):mV (cf Dp 2 k n) k=some (k+2*(n:Int)):=by
 have h:=vj (jk (cf Dp 2 k n)) Dp 2 (by decide) n k hn hk (fun fuel q j hj hq h0 h1=>by simp (disch:=omega) [sc,ig,hj,hq,cg,Dp,Int.add_assoc,aj,gb,ab,aV,Int.toNat_natCast,af,aF,aq]) (fun fuel q=>by simp [sc,ig,cg,af])
 simp [mV,h]
theorem OZ (n:Nat) (k:Int) (hn:n≤1048576) (hk:0≤k∧k≤33554432):iH (cf wz 1 k n) k=some (k+1*(n:Int)):=by
 have h:=vj (ie (cf wz 1 k n)) wz 1 (by decide) n k hn hk (fun fuel q j hj hq h0 h1=>by simp (disch:=omega) [qV,fS,hj,hq,cg,wz,Int.add_assoc,aj,gb,ab,aV,Int.toNat_natCast,af,aF,aq]) (fun fuel q=>by simp [qV,fS,cg,af])
 simp [iH,h]
theorem Lw (n:Nat) (k:Int) (hn:n≤1048576) (hk:0≤k∧k≤33554432):jm (cf pu 2 k n) k=some (k+2*(n:Int)):=by
 have h:=vj (eQ (cf pu 2 k n)) pu 2 (by decide) n k hn hk (fun fuel q j hj hq h0 h1=>by simp (disch:=omega) [pc,ea,hj,hq,cg,pu,Int.add_assoc,aj,gb,ab,aV,Int.toNat_natCast,af,aF,aq]) (fun fuel q=>by simp [pc,ea,cg,af])
 simp [jm,h]
theorem RM (n:Nat) (k:Int) (hn:n≤1048576) (hk:0≤k∧k≤33554432):mW (cf Dq 1 k n) k=some (k+1*(n:Int)):=by
 have h:=vj (jl (cf Dq 1 k n)) Dq 1 (by decide) n k hn hk (fun fuel q j hj hq h0 h1=>by simp (disch:=omega) [sd,ii,hj,hq,cg,Dq,Int.add_assoc,aj,gb,ab,aV,Int.toNat_natCast,af,aF,aq]) (fun fuel q=>by simp [sd,ii,cg,af])
 simp [mW,h]
theorem aeW (w:Wd) (h:Sm w):bu w.b w.ls w.pts w.on w.earth w.pm w.br=some (wv w):=iWv w.b w.ls w.pts w.on w.earth w.pm w.br h.p h.o h.m h.b
theorem ae4 (w:Wd) (h:Sm w):bz w.b w.ls w.pts w.on w.earth w.pm w.br=some (wv w):=sWv w.b w.ls w.pts w.on w.earth w.pm w.br h.p h.o h.m h.b
def ch (b:Bool):UInt8:=if b then 49 else 48
def qJ (l:List Bool):ByteArray:=⟨(l.map ch).toArray⟩
def Dy (l:List Bool):ByteArray:=if l.length≤10 then qJ l else ⟨#[]⟩
theorem YL {a b:ByteArray} (h:a.data.toList=b.data.toList):a=b:=by
 cases a;cases b
 simp at h
 rw [ByteArray.mk.injEq]
 exact h
theorem SA (s:ByteArray):s.data.toList.length=s.size:=by simp
theorem Gb (l:List Bool):(qJ l).data.toList=l.map ch:=by simp [qJ]
theorem SJ (l:List Bool):(qJ l).size=l.length:=by rw [←SA,Gb];simp
def num (b:Bool):Int:=if b then 49 else 48
theorem Sa (l:List Bool):strOfNums (l.map num)=qJ l:=by
 unfold strOfNums qJ
 rw [List.map_map]
 have:((fun n:Int=>UInt8.ofNat n.toNat)∘num)=ch:=funext fun b=>by cases b<;>rfl
 rw [this]
theorem iSt (l:List Bool) (hl:l.length≤1000):iE l=some (Dy l):=by
 unfold iE Dy
 by_cases h:l.length≤10
 ·rw [if_pos h,show af 10 (l.length:Int)=false from decide_eq_false (by omega),show uA (l.length:Int)=true from decide_eq_true (by omega)]
  have hh:=wJ (gT l) (l.map num) (List.replicate l.length 0) (by simp) (by simp;omega) (fun fuel x j hj hx=>by
   have hj':j<l.length:=by simpa using hj
   rw [qO,fE]
   simp only [au hj',ae hj',aa,cond_true,Int.toNat_natCast,ab (by omega:j<4611686018427387904),ac hj',List.getElem_map]
   cases l[j]<;>rfl) (fun fuel x hx=>by rw [qO,fE];simp [ak])
  simp only [cond_false,aa]
  rw [hh,←Sa];rfl
 ·rw [if_neg h,show af 10 (l.length:Int)=true from decide_eq_true (by omega)];rfl
theorem SK (l:List Bool) (b:Bool):qJ l++⟨#[ch b]⟩=qJ (l++ [b]):=by
 apply YL
 rw [Gb,ByteArray.data_append,Array.toList_append,Gb]
 simp
theorem sSt (l:List Bool) (hl:l.length≤1000):mc l=some (Dy l):=by
 unfold mc Dy
 by_cases h:l.length≤10
 ·rw [if_pos h]
  have hh:=ax (cm l) (fun k=>(qJ (l.take k),(k:Int))) l.length (some (qJ l)) (by omega) (fun k fuel hk=>by
   rw [mq,cZ]
   have c1:aF (l.length:Int) 10=true:=decide_eq_true (by omega)
   have hs:(qJ (l.take k)).size=k:=by rw [SJ];simp;omega
   have c2: ∀c:UInt8,KJ (qJ (l.take k)).size ({data:= #[c]}:ByteArray).size=true:=fun c=>decide_eq_true (by rw [hs];show k+1≤_;omega)
   simp only [au hk,ae hk,c1,c2,Bool.and_self,aa,cond_true,Int.toNat_natCast,ab (by omega:k<4611686018427387904),ac hk]
   rw [List.take_succ_eq_append_getElem hk,←SK]
   cases l[k]<;>rfl) (fun fuel=>by rw [mq,cZ];simp [ak])
  rw [show cm l ai (({data:= #[]}:ByteArray),0)=_ from hh];rfl
 ·rw [if_neg h]
  have hh:cm l ai (({data:= #[]}:ByteArray),0)=some ⟨#[]⟩:=by
   have:ai=(ai-1)+1:=by rw [KQ]
   rw [this,mq,cZ]
   have c1:aF (l.length:Int) 10=false:=decide_eq_false (by omega)
   simp only [c1,Bool.and_false,cond_false]
  rw [hh];rfl
section
variable {b:List Int} (hb: ∀z∈b,inU z)
include hb
end
end Go.Proofs.YtjdlgannencchaaGreatDoor
namespace Go.Proofs.YtjdlgannencchaaGreatDoor
open Go.Lib
set_option linter.unusedVariables false
set_option linter.unusedSimpArgs false
theorem Lu {w:Wd} (ok:WdOk w) (k:Nat):0≤fm w.ls w.on w.pts k∧fm w.ls w.on w.pts k<1000000:=by
 have hB:=ok.bus.net.b1
 have hl:=ok.bus.lp
 have key: ∀n,n≤w.pts.length→ ∀p:Nat→Bool,0≤((List.range n).map fun b=>if p b=true then (w.pts.getD b (0,0)).2 else 0).sum∧((List.range n).map fun b=>if p b=true then (w.pts.getD b (0,0)).2 else 0).sum≤999*n:=by
  intro n
  induction n with
  |zero=>intro _ p;simp
  |succ n ih=>
   intro hn p
   have:=ih (by omega) p
   have h2:=(ok.bus.bs n (by omega)).2
   rw [List.range_succ,List.map_append,List.sum_append]
   simp only [List.map_cons,List.map_nil,List.sum_cons,List.sum_nil]
   split<;>omega
 have:=key w.pts.length (Nat.le_refl _) fun b=>gK (av w.ls w.on) w.pts b&& !gK (av w.ls (w.on.set k false)) w.pts b
 unfold fm
 omega
def ww (w:Wd) (n:Int):Int:=if 0≤n∧n<(w.ls.length:Int) then fm w.ls w.on w.pts n.toNat else-1
theorem Pv {w:Wd} (ok:WdOk w):vX w.b w.ls w.on w.pts=true:=by
 unfold vX;rw [fc.2 ⟨⟨ok.bus.net,ok.len⟩,ok.bus⟩,ok.rad];rfl
theorem Vs {w:Wd} (ok:WdOk w):StOk (w.pts.length:Int) w.ls w.on∧BusOk (w.pts.length:Int) w.ls w.pts:=by
 have hl:=ok.bus.lp
 exact ⟨⟨by rw [hl];exact ok.bus.net,ok.len⟩,by rw [hl];exact ok.bus⟩
theorem acJ {w:Wd} (ok:WdOk w) (n:Int):mM w.b w.ls w.on w.pts n=some (ww w n):=by
 obtain ⟨r,r1,r2,r3⟩:=Ue w.b w.ls w.on w.pts (xy ok).p
 rw [Pv ok] at r2
 obtain ⟨g1,g2,ord,g3,T⟩:=r3 (Pv ok)
 obtain ⟨h1,h2⟩:=Vs ok
 unfold mM ww
 rw [r1,Option.bind_some,r2]
 simp only [bc,Bool.not_true,Bool.not_false,Bool.false_or,ca,Option.bind_some]
 by_cases hn:0≤n∧n<(w.ls.length:Int)
 ·obtain ⟨k,rfl⟩: ∃k:Nat,n=k:=⟨n.toNat,by omega⟩
  have hk:k<w.ls.length:=by omega
  rw [show (aF 0 (k:Int)&&af (k:Int) (w.ls.length:Int))=true by unfold aF af;simp;omega,if_pos hn,g1,g2,g3,show Zu true w.ls=w.ls from rfl,←ok.bus.lp,TX h1 h2 ok.rad T]
  simp only [Bool.not_true,cond_false,Option.bind_some,oS,ae hk,aa,Int.toNat_natCast,jJ hk]
 ·rw [show (aF 0 n&&af n (w.ls.length:Int))=false by unfold aF af;rw [Bool.eq_false_iff];simp;omega,if_neg hn];rfl
theorem adn {w:Wd} (ok:WdOk w) (n:Int):nc w.b w.ls w.on w.pts n=some (ww w n):=by
 obtain ⟨h1,h2⟩:=Vs ok
 have hl:=ok.len;have h0:=ok.work.l0;have h10:=ok.work.l1
 have h0:1≤w.on.length:=h0
 have h10:w.on.length≤10:=h10
 unfold nc ww
 rw [Hl w.b w.ls w.on w.pts (xy ok).p,Option.bind_some,Pv ok]
 simp only [am,Bool.not_true,Bool.not_false,Bool.false_or,ca,Option.bind_some]
 rw [aV (by omega)]
 by_cases hn:0≤n∧n<(w.ls.length:Int)
 ·obtain ⟨k,rfl⟩: ∃k:Nat,n=k:=⟨n.toNat,by omega⟩
  have hk:k<w.ls.length:=by omega
  rw [show (aF 0 (k:Int)&&aF (k:Int) ((w.on.length:Int)-1))=true by unfold aF;simp;omega,if_pos hn,←ok.bus.lp,Vk h1 h2 ok.rad]
  simp only [Bool.not_true,cond_false,Option.bind_some,oS,ae hk,aa,Int.toNat_natCast,jJ hk]
 ·rw [show (aF 0 n&&aF n ((w.on.length:Int)-1))=false by unfold aF;rw [Bool.eq_false_iff];simp;omega,if_neg hn];rfl
theorem acX {w:Wd} (ok:WdOk w):fD w.b w.ls w.on w.pts=some (aC (av w.ls w.on) w.pts):=by
 unfold fD
 rw [WL _ w.ls w.pts (xy ok).p,fc.2 ⟨⟨ok.bus.net,ok.len⟩,ok.bus⟩,Option.bind_some,cond_true,QB ⟨ok.bus.net,ok.len⟩ ok.bus];rfl
theorem adA {w:Wd} (ok:WdOk w):cd w.b w.ls w.on w.pts=some (aC (av w.ls w.on) w.pts):=by
 obtain ⟨h1,h2⟩:=Vs ok
 rw [←ok.bus.lp];exact Rp h1 h2
theorem iDk {w:Wd} (ok:WdOk w):eo w.b w.ls w.pts w.on w.earth w.pm w.br=some (zl (DY w)):=by
 have h:=xy ok
 rw [acH w.b w.ls w.pts w.on w.earth w.pm w.br h.p h.o h.m h.b,if_pos (jL.2 ok)]
theorem sDk {w:Wd} (ok:WdOk w):iO w.b w.ls w.pts w.on w.earth w.pm w.br=some (zl (DY w)):=by
 have h:=xy ok
 rw [adm w.b w.ls w.pts w.on w.earth w.pm w.br h.p h.o h.m h.b,if_pos (jL.2 ok)]
theorem XY {w:Wd} (ok:WdOk w):(zl (DY w)).length≤1000∧ ∀x∈zl (DY w),0≤x∧x<1000000:=by
 have hB:=ok.bus.net.b1;have hl:=ok.bus.lp
 constructor
 ·have:(DY w).length≤(List.range w.pts.length).length:=List.length_filter_le _ _
  rw [bP];simp at this;omega
 ·intro x hx
  obtain ⟨k,hk,rfl⟩:=List.mem_map.1 hx
  have:k<w.pts.length:=by simpa [DY] using (List.mem_filter.1 hk).1
  omega
theorem XW {w:Wd} (ok:WdOk w):w.br.length≤1000∧ ∀x∈w.br,0≤x∧x<1000000:=by
 have h10:w.on.length≤10:=ok.work.l1
 exact ⟨by have:=XV ok;omega,fun x hx=>by have:=(ok.inn x hx).1;omega⟩
def On:List UInt8:=[119,104,97,116]
def wOk:List UInt8:=[111,107]
def wNo:List UInt8:=[110,111]
def vY:List UInt8:=[104,101,97,108]
def sS:List UInt8:=[102,108,111,119]
def sT:List UInt8:=[115,116,97,116,101]
def oV:List UInt8:=[115,101,114,118,101,100]
def yW:List UInt8:=[100,97,114,107]
def oU:List UInt8:=[98,114,111,107,101,110]
def Jc:List UInt8:=[110,101,116]
theorem rO (l:List UInt8):({data:=l.toArray}:ByteArray).toList=l:=my l
def KV (w:Wd) (l:List UInt8):List UInt8:=
 bif l==sT then tl (Dy w.on) else bif l==oV then ze (aC (av w.ls w.on) w.pts) else bif l==yW then Kx (zl (DY w)) else bif l==oU then Kx w.br else bif l==Jc then Ux w.b w.ls else On
def Nc (w:Wd) (n:Int):List UInt8:=if 0≤n then (if n<(w.ls.length:Int) then ze (fm w.ls w.on w.pts n.toNat) else wNo) else On
def nJ (w:Wd) (l:List UInt8):List UInt8:=match ek 32 l with
 | [a,n]=>bif a==sS then Nc w (bf n) else KV w l
 |_=>KV w l
theorem ac3 (l:List UInt8) (hl:l.length≤1048576):dc ((ek 32 l).map aW) ({data:= #[32]}:ByteArray)=some (aW l):=by
 have hm:((ek 32 l).map aW).map (·.data.toList)=ek 32 l:=by
  rw [List.map_map];conv=>rhs;rw [←List.map_id (ek 32 l)]
  exact List.map_congr_left fun a _=>kW a
 have hs:(({data:= #[32]}:ByteArray)).data.toList=[32]:=rfl
 have hlen:(ek 32 l).length≤1048577:=by
  rw [xI];have:=List.count_le_length (a:=(32:UInt8)) (l:=l);omega
 unfold dc
 rw [hm,hs,Ks,List.length_map,decide_eq_true (by omega)];rfl
theorem aeR {w:Wd} (ok:WdOk w) (l:List UInt8):(bif l==({data:= #[115,116,97,116,101]}:ByteArray).toList then Option.bind (iE w.on) (fun p=>some p) else (bif l==({data:= #[115,101,114,118,101,100]}:ByteArray).toList then Option.bind (fD w.b w.ls w.on w.pts) (fun p=>Option.bind (bF p) (fun q=>some q)) else (bif l==({data:= #[100,97,114,107]}:ByteArray).toList then Option.bind (eo w.b w.ls w.pts w.on w.earth w.pm w.br) (fun p=>Option.bind (dt p) (fun q=>some q)) else (bif l==({data:= #[98,114,111,107,101,110]}:ByteArray).toList then Option.bind (dt w.br) (fun p=>some p) else (bif l==({data:= #[110,101,116]}:ByteArray).toList then Option.bind (cQ w.b w.ls) (fun p=>some p) else some ({data:= #[119,104,97,116]}:ByteArray))))))=some (aW (KV w l)):=by
 have h10:w.on.length≤10:=ok.work.l1
 have hs:=qu ok.bus (av w.ls w.on)
 obtain ⟨d1,d2⟩:=XY ok
 obtain ⟨b1,b2⟩:=XW ok
 have e1:({data:= #[115,116,97,116,101]}:ByteArray).toList=sT:=rO sT
 have e2:({data:= #[115,101,114,118,101,100]}:ByteArray).toList=oV:=rO oV
 have e3:({data:= #[100,97,114,107]}:ByteArray).toList=yW:=rO yW
 have e4:({data:= #[98,114,111,107,101,110]}:ByteArray).toList=oU:=rO oU
 have e5:({data:= #[110,101,116]}:ByteArray).toList=Jc:=rO Jc
 rw [e1,e2,e3,e4,e5,iSt w.on (by omega),acX ok,iDk ok,Yd b1 b2,acR]
 simp only [Option.bind_some]
 rw [Uk (by omega),Yd d1 d2]
 simp only [Option.bind_some]
 unfold KV
 rw [←uG (Dy w.on)]
 cases l==sT<;>cases l==oV<;>cases l==yW<;>cases l==oU<;>cases l==Jc<;>rfl
theorem aeZ {w:Wd} (ok:WdOk w) (l:List UInt8):pU w.b w.ls w.pts w.on w.earth w.pm w.br (aW l)=some (aW (KV w l)):=by
 have h10:w.on.length≤10:=ok.work.l1
 have hs:=qu ok.bus (av w.ls w.on)
 obtain ⟨d1,d2⟩:=XY ok
 obtain ⟨b1,b2⟩:=XW ok
 have e1:({data:= #[115,116,97,116,101]}:ByteArray).toList=sT:=rO sT
 have e2:({data:= #[115,101,114,118,101,100]}:ByteArray).toList=oV:=rO oV
 have e3:({data:= #[100,97,114,107]}:ByteArray).toList=yW:=rO yW
 have e4:({data:= #[98,114,111,107,101,110]}:ByteArray).toList=oU:=rO oU
 have e5:({data:= #[110,101,116]}:ByteArray).toList=Jc:=rO Jc
 unfold pU
 rw [my,e1,e2,e3,e4,e5,sSt w.on (by omega),adA ok,sDk ok,Yu b1 b2,adu]
 simp only [Option.bind_some]
 rw [Pn (by omega),Yu d1 d2]
 simp only [Option.bind_some]
 unfold KV
 rw [←uG (Dy w.on)]
 cases l==sT<;>cases l==oV<;>cases l==yW<;>cases l==oU<;>cases l==Jc<;>rfl
theorem WJ {w:Wd} (ok:WdOk w) (l:List UInt8) (hl:l.length≤1048576):gY w.b w.ls w.pts w.on w.earth w.pm w.br ((ek 32 l).map aW)=some (aW (nJ w l)):=by
 unfold gY nJ
 have hj:=ac3 l hl
 have hask:=aeR ok l
 have e1:({data:= #[102,108,111,119]}:ByteArray).toList=sS:=rO sS
 rw [hj,e1]
 simp only [Option.bind_some,my]
 rw [hask]
 cases hc:ek 32 l with
 |nil=>exact absurd hc (DK 32 l)
 |cons a r=>
  cases r with
  |nil=>rfl
  |cons n r=>
   cases r with
   |cons y r=>
    have:(((a::n::y::r).map aW).length:Int)==2↔False:=by simp;omega
    have h2:((((a::n::y::r).map aW).length:Int)==2)=false:=by rw [beq_eq_false_iff_ne];simp;omega
    rw [h2];rfl
   |nil=>
    have h2:((([a,n].map aW).length:Int)==2)=true:=rfl
    have h3:([a,n].map aW).getD ((0:Int).toNat) ByteArray.empty=aW a:=rfl
    have h4:([a,n].map aW).getD ((1:Int).toNat) ByteArray.empty=aW n:=rfl
    have h5: ∀i:Int,i=0∨i=1→aq i ([a,n].map aW).length=true:=fun i hi=>decide_eq_true (by rcases hi with rfl |rfl<;>simp)
    rw [h2,h3,h4,h5 0 (.inl rfl),h5 1 (.inr rfl),Ej,Gc]
    simp only [Bool.true_and,Bool.not_true,Bool.false_or,aa,my,Option.bind_some]
    cases hf:a==sS with
    |false=>simp only [cond_false]
    |true=>
     simp only [cond_true]
     unfold Nc
     have hb:=QU n
     by_cases h:0≤bf n
     ·rw [decide_eq_true h,cond_true,if_pos h,xQ h]
      simp only [bc,Option.bind_some]
      by_cases hk:bf n<(w.ls.length:Int)
      ·have hfl:=Lu ok (bf n).toNat
       rw [show (aF 0 (bf n)&&af (bf n) (w.ls.length:Int))=true by unfold aF af;simp;omega,cond_true,acJ ok,if_pos hk]
       unfold ww
       rw [if_pos ⟨h,hk⟩,Option.bind_some,Uk (by omega)];rfl
      ·rw [show (aF 0 (bf n)&&af (bf n) (w.ls.length:Int))=false by unfold aF af;rw [Bool.eq_false_iff];simp;omega,cond_false,if_neg hk];rfl
     ·rw [decide_eq_false h,cond_false,if_neg h];rfl
end Go.Proofs.YtjdlgannencchaaGreatDoor
namespace Go.Proofs.YtjdlgannencchaaGreatDoor
open Go.Lib
set_option linter.unusedVariables false
set_option linter.unusedSimpArgs false
def wO:List (List UInt8)→Option (Int×Int×Int)
 | [a,n]=>if (pe GT (aW a)).2=true∧0≤bf n then some ((pe GT (aW a)).1,bf n,0) else none
 | [a,n,m]=>if (pe GU (aW a)).2=true∧0≤bf n∧0≤bf m then some ((pe GU (aW a)).1,bf n,bf m) else none
 |_=>none
theorem Ke (a n:List UInt8):wO [a,n]=if (pe GT (aW a)).2=true∧0≤bf n then some ((pe GT (aW a)).1,bf n,0) else none:=rfl
theorem MR (a n m:List UInt8):wO [a,n,m]=if (pe GU (aW a)).2=true∧0≤bf n∧0≤bf m then some ((pe GU (aW a)).1,bf n,bf m) else none:=rfl
theorem acI (ws:List (List UInt8)): ∃r,du (ws.map aW)=some r∧(match wO ws with |some d=>r=(d.1,d.2.1,d.2.2,true) |none=>r.2.2.2=false):=by
 unfold du
 match ws with
 | []=>exact ⟨_,rfl,rfl⟩
 | [a]=>exact ⟨_,rfl,rfl⟩
 |a::b::c::d::r=>
  have h2:decide (((a::b::c::d::r).map aW).length=2)=false:=decide_eq_false (by simp)
  have h3:decide (((a::b::c::d::r).map aW).length=3)=false:=decide_eq_false (by simp)
  rw [h2,h3]
  exact ⟨_,rfl,rfl⟩
 | [a,n]=>
  have h2:decide (([a,n].map aW).length=2)=true:=rfl
  have g0:([a,n].map aW).getD 0 ByteArray.empty=aW a:=rfl
  have g1:([a,n].map aW).getD 1 ByteArray.empty=aW n:=rfl
  rw [h2,g0,g1,Ej,Gc]
  refine ⟨_,rfl,?_⟩
  rw [Ke]
  by_cases h:(pe GT (aW a)).2=true∧0≤bf n
  ·rw [if_pos h,h.1,decide_eq_true h.2,xQ h.2];rfl
  ·rw [if_neg h]
   show ((pe GT (aW a)).2&&decide (0≤bf n))=false
   rw [Bool.eq_false_iff];intro k;rw [Bool.and_eq_true,decide_eq_true_eq] at k;exact h k
 | [a,n,m]=>
  have h2:decide (([a,n,m].map aW).length=2)=false:=rfl
  have h3:decide (([a,n,m].map aW).length=3)=true:=rfl
  have g0:([a,n,m].map aW).getD 0 ByteArray.empty=aW a:=rfl
  have g1:([a,n,m].map aW).getD 1 ByteArray.empty=aW n:=rfl
  have g2:([a,n,m].map aW).getD 2 ByteArray.empty=aW m:=rfl
  rw [h2,h3,g0,g1,g2,Ej,Ej,Gc,Gc]
  refine ⟨_,rfl,?_⟩
  rw [MR]
  by_cases h:(pe GU (aW a)).2=true∧0≤bf n∧0≤bf m
  ·rw [if_pos h,h.1,decide_eq_true h.2.1,decide_eq_true h.2.2,xQ h.2.1,xQ h.2.2];rfl
  ·rw [if_neg h]
   show ((pe GU (aW a)).2&&decide (0≤bf n)&&decide (0≤bf m))=false
   rw [Bool.eq_false_iff];intro k;rw [Bool.and_eq_true,Bool.and_eq_true,decide_eq_true_eq,decide_eq_true_eq] at k;exact h ⟨k.1.1,k.1.2,k.2⟩
theorem Ji (a:List UInt8) (l:List UInt8):(aW a==({data:=l.toArray}:ByteArray))=(a==l):=by
 have h: ∀x y:ByteArray,(x==y)=decide (x=y):=fun x y=>by
  cases x with
  |mk a=>
  cases y with
  |mk c=>
  show (a==c)=_
  rw [Bool.eq_iff_iff,decide_eq_true_eq,beq_iff_eq,ByteArray.mk.injEq]
 rw [h,Bool.eq_iff_iff,decide_eq_true_eq,beq_iff_eq]
 constructor
 ·intro e;have:=congrArg (fun s:ByteArray=>s.data.toList) e;simpa [aW] using this
 ·rintro rfl;rfl
theorem adq (a:List UInt8):oP (aW a)=some (if (pe GT (aW a)).2=true then ((pe GT (aW a)).1,1) else if (pe GU (aW a)).2=true then ((pe GU (aW a)).1,2) else (-1,0)):=by
 have q: ∀l:List UInt8,((aW a).toList==({data:=l.toArray}:ByteArray).toList)=(a==l):=fun l=>by rw [my,rO]
 have k: ∀l:List UInt8,(aW a==({data:=l.toArray}:ByteArray))=(a==l):=Ji a
 unfold oP
 have q1:=q [111,110];have q2:=q [111,102,102];have q3:=q [101,97,114,116,104];have q4:=q [99,108,101,97,114];have q5:=q [105,115,115,117,101];have q6:=q [114,101,116,117,114,110];have q7:=q [98,114,101,97,107];have q8:=q [109,101,110,100]
 have k1:=k [111,110];have k2:=k [111,102,102];have k3:=k [101,97,114,116,104];have k4:=k [99,108,101,97,114];have k5:=k [105,115,115,117,101];have k6:=k [114,101,116,117,114,110];have k7:=k [98,114,101,97,107];have k8:=k [109,101,110,100]
 simp only [GT,GU,pe]
 erw [q1,q2,q3,q4,q5,q6,q7,q8,k1,k2,k3,k4,k5,k6,k7,k8]
 by_cases h1:a=[111,110]
 ·subst h1;rfl
 by_cases h2:a=[111,102,102]
 ·subst h2;rfl
 by_cases h3:a=[101,97,114,116,104]
 ·subst h3;rfl
 by_cases h4:a=[99,108,101,97,114]
 ·subst h4;rfl
 by_cases h5:a=[105,115,115,117,101]
 ·subst h5;rfl
 by_cases h6:a=[114,101,116,117,114,110]
 ·subst h6;rfl
 by_cases h7:a=[98,114,101,97,107]
 ·subst h7;rfl
 by_cases h8:a=[109,101,110,100]
 ·subst h8;rfl
 have n: ∀ {l:List UInt8},a≠l→(a==l)=false:=fun h=>beq_eq_false_iff_ne.2 h
 rw [n h1,n h2,n h3,n h4,n h5,n h6,n h7,n h8];rfl
theorem ZB (a:List UInt8) (h:(pe GT (aW a)).2=true):0≤(pe GT (aW a)).1∧(pe GU (aW a)).2=false∧a≠sS∧a≠vY∧a≠sT∧a≠oV∧a≠yW∧a≠oU∧a≠Jc:=by
 have key: ∀l:List UInt8,(aW a==(aW l:ByteArray))=(a==l):=Ji a
 simp only [GT,pe] at h
 have k1:=Ji a [111,110];have k2:=Ji a [111,102,102];have k3:=Ji a [101,97,114,116,104];have k4:=Ji a [99,108,101,97,114];have k7:=Ji a [98,114,101,97,107]
 erw [k1,k2,k3,k4,k7] at h
 by_cases h1:a=[111,110]
 ·subst h1;refine ⟨by decide,by decide,by decide,by decide,by decide,by decide,by decide,by decide,by decide⟩
 by_cases h2:a=[111,102,102]
 ·subst h2;refine ⟨by decide,by decide,by decide,by decide,by decide,by decide,by decide,by decide,by decide⟩
 by_cases h3:a=[101,97,114,116,104]
 ·subst h3;refine ⟨by decide,by decide,by decide,by decide,by decide,by decide,by decide,by decide,by decide⟩
 by_cases h4:a=[99,108,101,97,114]
 ·subst h4;refine ⟨by decide,by decide,by decide,by decide,by decide,by decide,by decide,by decide,by decide⟩
 by_cases h7:a=[98,114,101,97,107]
 ·subst h7;refine ⟨by decide,by decide,by decide,by decide,by decide,by decide,by decide,by decide,by decide⟩
 have n: ∀ {l:List UInt8},a≠l→(a==l)=false:=fun h=>beq_eq_false_iff_ne.2 h
 rw [n h1,n h2,n h3,n h4,n h7] at h
 cases h
theorem ZC (a:List UInt8) (h:(pe GU (aW a)).2=true):0≤(pe GU (aW a)).1∧(pe GT (aW a)).2=false∧a≠sS∧a≠vY∧a≠sT∧a≠oV∧a≠yW∧a≠oU∧a≠Jc:=by
 simp only [GU,pe] at h
 have k1:=Ji a [105,115,115,117,101];have k2:=Ji a [114,101,116,117,114,110];have k3:=Ji a [109,101,110,100]
 erw [k1,k2,k3] at h
 by_cases h1:a=[105,115,115,117,101]
 ·subst h1;refine ⟨by decide,by decide,by decide,by decide,by decide,by decide,by decide,by decide,by decide⟩
 by_cases h2:a=[114,101,116,117,114,110]
 ·subst h2;refine ⟨by decide,by decide,by decide,by decide,by decide,by decide,by decide,by decide,by decide⟩
 by_cases h3:a=[109,101,110,100]
 ·subst h3;refine ⟨by decide,by decide,by decide,by decide,by decide,by decide,by decide,by decide,by decide⟩
 have n: ∀ {l:List UInt8},a≠l→(a==l)=false:=fun h=>beq_eq_false_iff_ne.2 h
 rw [n h1,n h2,n h3] at h
 cases h
theorem Vm (a:List UInt8) (r:List (List UInt8)) (hl:r.length≤1048577):kO ((a::r).map aW)=some (r.map bf,r.all fun n=>decide (0≤bf n)):=by
 unfold kO
 have hh:=ax (db ((a::r).map aW)) (fun k=>((r.take k).map bf,(r.take k).all (fun n=>decide (0≤bf n)),((k+1:Nat):Int))) r.length (some (r.map bf,r.all fun n=>decide (0≤bf n))) (by omega) (fun k fuel hk=>by
  have hk2:k+1<((a::r).map aW).length:=by simp;omega
  have hg:((a::r).map aW).getD (k+1) ByteArray.empty=aW r[k]:=by
   rw [ac hk2];simp
  have b1: ∀x:Int,bq ((r.take k).map bf).length ([x]:List Int).length=true:=fun x=>decide_eq_true (by simp;omega)
  rw [qn,fb]
  simp only [au hk2,ae hk2,aa,cond_true,Int.toNat_natCast,hg,adw,Gc,Option.bind_some,b1,Bool.or_true,ab (by omega:k+1<4611686018427387904)]
  rw [List.take_succ_eq_append_getElem hk,List.map_append,List.all_append]
  cases (r.take k).all fun n=>decide (0≤bf n)
  ·rfl
  ·simp only [ca,Option.bind_some,Bool.true_and,List.all_cons,List.all_nil,Bool.and_true];rfl) (fun fuel=>by
  rw [qn,fb,List.take_length]
  have:af ((r.length+1:Nat):Int) (((a::r).map aW).length:Int)=false:=by
   rw [List.length_map,List.length_cons];exact ak
  simp only [this,cond_false])
 rw [show db ((a::r).map aW) ai (([]:List Int),true,1)=_ from hh];rfl
def Ez (w:Wd) (l:List UInt8):Wd×List UInt8:=
 if wv w=true then
  (match wO (ek 32 l) with
  |some (kd,at_,who)=>((di w kd at_ who).1,bif (di w kd at_ who).2 then wOk else wNo)
  |none=>bif l==vY then (rsP w,wOk) else (w,nJ w l))
 else (.zero,[])
def o8b (r:Wd×List UInt8):Int×List Ln×List (Int×Int)×List Bool×List Bool×Pm×List Int×ByteArray:=(r.1.b,r.1.ls,r.1.pts,r.1.on,r.1.earth,r.1.pm,r.1.br,aW r.2)
theorem acP {w:Wd} (sm:Sm w) (l:List UInt8) (hl:l.length≤1048576):cF w.b w.ls w.pts w.on w.earth w.pm w.br (aW l)=some (o8b (Ez w l)):=by
 unfold cF Ez
 rw [aeW w sm,Option.bind_some]
 cases hv:wv w with
 |false=>rfl
 |true=>
  have ok:=jL.1 hv
  have hsp:fj (aW l) ({data:= #[32]}:ByteArray)=some ((ek 32 l).map aW):=by
   unfold fj
   rw [eu,decide_eq_true (by omega),show decide (({data:= #[32]}:ByteArray)=aW [32])=true from decide_eq_true rfl,kW];rfl
  obtain ⟨r,hr,hd⟩:=acI (ek 32 l)
  have e1:({data:= #[104,101,97,108]}:ByteArray).toList=vY:=rO vY
  rw [hsp,e1,my]
  simp only [Option.bind_some,cond_true,if_true]
  rw [hr]
  simp only [Option.bind_some]
  cases hdp:wO (ek 32 l) with
  |some d=>
   obtain ⟨kd,a,who⟩:=d
   rw [hdp] at hd
   subst hd
   rw [Nk sm kd a who]
   simp only [cond_true,Option.bind_some,o8]
   cases (di w kd a who).2<;>rfl
  |none=>
   rw [hdp] at hd
   simp only at hd
   rw [hd,acT sm,WJ ok l hl]
   have hc:=Lx (w:=w) sm
   simp only [cond_false,Option.bind_some]
   rw [hc]
   cases l==vY<;>rfl
theorem OE {w:Wd} {l a:List UInt8} {r:List (List UInt8)} (hc:ek 32 l=a::r) (h:r≠ []∨(a≠sT∧a≠oV∧a≠yW∧a≠oU∧a≠Jc)):KV w l=On:=by
 have key: ∀x:List UInt8,32∉x→(r≠ []∨a≠x)→(l==x)=false:=by
  intro x hx h
  rw [beq_eq_false_iff_ne]
  rintro rfl
  rw [yY 32 l hx] at hc
  injection hc with h1 h2
  rcases h with h |h
  ·exact h h2.symm
  ·exact h h1.symm
 unfold KV
 rw [key sT (by decide) (h.imp id fun k=>k.1),key oV (by decide) (h.imp id fun k=>k.2.1),key yW (by decide) (h.imp id fun k=>k.2.2.1),key oU (by decide) (h.imp id fun k=>k.2.2.2.1),key Jc (by decide) (h.imp id fun k=>k.2.2.2.2)]
 rfl
theorem aaB (w:Wd) (n:Int) (ok:WdOk w):af (ww w n) 0= !(decide (0≤n)&&decide (n<(w.ls.length:Int))):=by
 unfold ww
 by_cases h:0≤n∧n<(w.ls.length:Int)
 ·rw [if_pos h,decide_eq_true h.1,decide_eq_true h.2]
  have:=Lu ok n.toNat
  exact decide_eq_false (by omega)
 ·rw [if_neg h]
  have:(decide (0≤n)&&decide (n<(w.ls.length:Int)))=false:=by
   rw [Bool.eq_false_iff];simp only [ne_eq,Bool.and_eq_true,decide_eq_true_eq];exact h
  rw [this];rfl
theorem adr {w:Wd} (sm:Sm w) (l:List UInt8) (hl:l.length≤1048576):er w.b w.ls w.pts w.on w.earth w.pm w.br (aW l)=some (o8b (Ez w l)):=by
 unfold er Ez
 rw [ae4 w sm,Option.bind_some]
 cases hv:wv w with
 |false=>rfl
 |true=>
  have ok:=jL.1 hv
  have hcut:=ae0 (aW l) (by rw [eu];exact hl)
  rw [Gc] at hcut
  have e1:({data:= #[104,101,97,108]}:ByteArray).toList=vY:=rO vY
  have e2:({data:= #[102,108,111,119]}:ByteArray).toList=sS:=rO sS
  have hask:=aeZ ok l
  have hlen:(ek 32 l).length≤1048577:=by
   rw [xI];have:=List.count_le_length (a:=(32:UInt8)) (l:=l);omega
  rw [hcut,e1,e2,hask]
  simp only [Option.bind_some,cond_true,if_true,my]
  cases hc:ek 32 l with
  |nil=>exact absurd hc (DK 32 l)
  |cons a r=>
  rw [hc] at hlen
  have hrl:r.length≤1048577:=by simp at hlen;omega
  have hnum:=Vm a r hrl
  have g0:((a::r).map aW).getD ((0:Int).toNat) ByteArray.empty=aW a:=rfl
  have hi0:aq 0 ((a::r).map aW).length=true:=decide_eq_true (by simp)
  have hres:=adx sm
  have hcp:=Dx (w:=w) sm
  rw [hnum,hi0,g0,adq,hres,hcp]
  simp only [Option.bind_some,aa,my]
  cases hh:l==vY with
  |true=>
   obtain rfl:l=vY:=by simpa using hh
   have:ek 32 vY=[vY]:=rfl
   rw [this] at hc
   injection hc with h1 h2
   subst h1;subst h2
   rfl
  |false=>
  simp only [cond_false]
  cases hf:((a==sS)&&((((r.map bf).length:Nat):Int)==1))&&r.all (fun n=>decide (0≤bf n)) with
  |true=>
   rw [Bool.and_eq_true,Bool.and_eq_true] at hf
   obtain ⟨⟨f1,f2⟩,f3⟩:=hf
   obtain rfl:a=sS:=by simpa using f1
   obtain ⟨n,rfl⟩: ∃n,r=[n]:=by
    match r,f2 with
    | [n],_=>exact ⟨n,rfl⟩
    | [],h=>simp at h
    |_::_::_,h=>rw [beq_iff_eq] at h;simp at h<;>omega
   have f3:0≤bf n:=by simpa using f3
   have hb:=QU n
   have hd:wO [sS,n]=none:=by
    rw [Ke,if_neg];intro k;exact absurd k.1 (by decide)
   have ha:nJ w l=Nc w (bf n):=by unfold nJ;rw [hc];rfl
   have hg:([n].map bf).getD ((0:Int).toNat) 0=bf n:=rfl
   have hi:aq 0 ([n].map bf).length=true:=rfl
   rw [hd,hi,hg,adn ok,ha]
   simp only [aa,Option.bind_some,cond_true]
   rw [aaB w _ ok,decide_eq_true f3]
   unfold Nc
   rw [if_pos f3]
   by_cases hk:bf n<(w.ls.length:Int)
   ·have hfl:=Lu ok (bf n).toNat
    have hlf:ww w (bf n)=fm w.ls w.on w.pts (bf n).toNat:=by unfold ww;rw [if_pos ⟨f3,hk⟩]
    rw [decide_eq_true hk,if_pos hk,hlf,Pn (by omega)];rfl
   ·rw [decide_eq_false hk,if_neg hk];rfl
  |false=>
  simp only [cond_false]
  by_cases k1:(pe GT (aW a)).2=true
  ·obtain ⟨p0,p2,p3,p4,p5,p6,p7,p8,p9⟩:=ZB a k1
   rw [if_pos k1,show af (pe GT (aW a)).1 0=false from decide_eq_false (by omega)]
   simp only [cond_false]
   cases hn:(((r.map bf).length:Int) !=1) || !(r.all fun n=>decide (0≤bf n)) with
   |true=>
    have hd:wO (a::r)=none:=by
     match r with
     | []=>rfl
     | [n]=>
      rw [Ke,if_neg]
      intro k
      have:(([n].map bf).length:Int) !=1:=by
       rw [Bool.or_eq_true] at hn
       rcases hn with h |h
       ·exact h
       ·simp at h;omega
      simp at this
     | [n,m]=>
      rw [MR,if_neg];intro k;rw [p2] at k;exact absurd k.1 (by simp)
     |_::_::_::_=>rfl
    have ha:nJ w l=On:=by
     have hq:=OE (w:=w) hc (.inr ⟨p5,p6,p7,p8,p9⟩)
     unfold nJ
     rw [hc]
     match r with
     | []=>exact hq
     | [n]=>show (bif a==sS then _ else _)=_;rw [beq_eq_false_iff_ne.2 p3];exact hq
     |_::_::_=>exact hq
    rw [hd,ha];rfl
   |false=>
    rw [Bool.or_eq_false_iff] at hn
    obtain ⟨n1,n2⟩:=hn
    obtain ⟨n,rfl⟩: ∃n,r=[n]:=by
     match r,n1 with
     | [n],_=>exact ⟨n,rfl⟩
     | [],h=>simp at h
     |_::_::_,h=>rw [bne_eq_false_iff_eq] at h;simp at h;omega
    have n2:0≤bf n:=by simpa using n2
    have hd:wO [a,n]=some ((pe GT (aW a)).1,bf n,0):=by rw [Ke,if_pos ⟨k1,n2⟩]
    have hg:([n].map bf).getD ((0:Int).toNat) 0=bf n:=rfl
    have hi:aq 0 ([n].map bf).length=true:=rfl
    rw [hd,hi,hg,show ((1:Int)==2)=false from rfl]
    simp only [cond_false,aa,Option.bind_some]
    rw [IU sm]
    simp only [Option.bind_some,o8]
    cases (di w (pe GT (aW a)).1 (bf n) 0).2<;>rfl
  ·rw [if_neg k1]
   by_cases k2:(pe GU (aW a)).2=true
   ·obtain ⟨p0,p2,p3,p4,p5,p6,p7,p8,p9⟩:=ZC a k2
    rw [if_pos k2,show af (pe GU (aW a)).1 0=false from decide_eq_false (by omega)]
    simp only [cond_false]
    cases hn:(((r.map bf).length:Int) !=2) || !(r.all fun n=>decide (0≤bf n)) with
    |true=>
     have hd:wO (a::r)=none:=by
      match r with
      | []=>rfl
      | [n]=>
       rw [Ke,if_neg];intro k;rw [p2] at k;exact absurd k.1 (by simp)
      | [n,m]=>
       rw [MR,if_neg]
       intro k
       rw [Bool.or_eq_true] at hn
       rcases hn with h |h
       ·simp at h
       ·simp at h;omega
      |_::_::_::_=>rfl
     have ha:nJ w l=On:=by
      have hq:=OE (w:=w) hc (.inr ⟨p5,p6,p7,p8,p9⟩)
      unfold nJ
      rw [hc]
      match r with
      | []=>exact hq
      | [n]=>show (bif a==sS then _ else _)=_;rw [beq_eq_false_iff_ne.2 p3];exact hq
      |_::_::_=>exact hq
     rw [hd,ha];rfl
    |false=>
     rw [Bool.or_eq_false_iff] at hn
     obtain ⟨n1,n2⟩:=hn
     obtain ⟨n,m,rfl⟩: ∃n m,r=[n,m]:=by
      match r,n1 with
      | [n,m],_=>exact ⟨n,m,rfl⟩
      | [],h=>simp at h
      | [_],h=>simp at h
      |_::_::_::_,h=>rw [bne_eq_false_iff_eq] at h;simp at h;omega
     have n2:0≤bf n∧0≤bf m:=by simpa using n2
     have hd:wO [a,n,m]=some ((pe GU (aW a)).1,bf n,bf m):=by rw [MR,if_pos ⟨k2,n2.1,n2.2⟩]
     have hg:([n,m].map bf).getD ((0:Int).toNat) 0=bf n:=rfl
     have hg1:([n,m].map bf).getD ((1:Int).toNat) 0=bf m:=rfl
     have hi:aq 0 ([n,m].map bf).length=true:=rfl
     have hi1:aq 1 ([n,m].map bf).length=true:=rfl
     rw [hd,hi,hi1,hg,hg1,show ((2:Int)==2)=true from rfl]
     simp only [cond_true,cond_false,aa,Option.bind_some]
     rw [IU sm]
     simp only [Option.bind_some,o8]
     cases (di w (pe GU (aW a)).1 (bf n) (bf m)).2<;>rfl
   ·rw [if_neg k2,show af (-1) 0=true from rfl]
    have hd:wO (a::r)=none:=by
     match r with
     | []=>rfl
     | [n]=>rw [Ke,if_neg];exact fun k=>k1 k.1
     | [n,m]=>rw [MR,if_neg];exact fun k=>k2 k.1
     |_::_::_::_=>rfl
    have ha:nJ w l=KV w l:=by
     unfold nJ
     rw [hc]
     match r,hf with
     | [],_=>rfl
     | [n],hf=>
      show (bif a==sS then _ else _)=_
      cases hw:a==sS with
      |false=>rfl
      |true=>
       have hneg: ¬0≤bf n:=by
        intro k
        rw [hw] at hf;simp [k] at hf
       rw [cond_true]
       unfold Nc
       rw [if_neg hneg]
       exact (OE hc (.inl (by simp))).symm
     |_::_::_,_=>rfl
    rw [hd,ha];rfl
end Go.Proofs.YtjdlgannencchaaGreatDoor
namespace Go.Proofs.YtjdlgannencchaaGreatDoor
open Go.Lib
set_option linter.unusedVariables false
set_option linter.unusedSimpArgs false
theorem WV {w:Wd} (sm:Sm w) (l:List UInt8):Sm (Ez w l).1:=by
 unfold Ez
 split
 ·cases wO (ek 32 l) with
  |some d=>obtain ⟨kd,a,who⟩:=d;exact PY kd a who
  |none=>
   cases l==vY with
   |true=>exact UY w
   |false=>exact sm
 ·exact sm0
theorem Zo {w:Wd} (sm:Sm w) (s:ByteArray) (hs:s.size≤1048576):cF w.b w.ls w.pts w.on w.earth w.pm w.br s=some (o8b (Ez w (tl s))):=by
 have:=acP sm (tl s) (by rw [zh];exact hs)
 rwa [show aW (tl s)=s from uG s] at this
theorem aan {w:Wd} (sm:Sm w) (s:ByteArray) (hs:s.size≤1048576):er w.b w.ls w.pts w.on w.earth w.pm w.br s=some (o8b (Ez w (tl s))):=by
 have:=adr sm (tl s) (by rw [zh];exact hs)
 rwa [show aW (tl s)=s from uG s] at this
theorem zj (b:Int) (ls:List Ln) (pts:List (Int×Int)) (on earth:List Bool) (pm:Pm) (br:List Int) (s:ByteArray) (hs:s.size≤1048576) (hl:ls.length≤1048576) (hp:pts.length≤1048576) (ho:on.length≤1048576) (he:earth.length≤1048576) (hm:pm.length≤1048576) (hb:br.length≤1048576):
 ∃r,er b ls pts on earth pm br s=some r∧cF b ls pts on earth pm br s=some r∧r.2.1.length≤1048576∧r.2.2.1.length≤1048576∧r.2.2.2.1.length≤1048576∧r.2.2.2.2.1.length≤1048576∧r.2.2.2.2.2.1.length≤1048576∧r.2.2.2.2.2.2.1.length≤1048576:=by
 have sm:Sm ⟨b,ls,pts,on,earth,pm,br⟩:=⟨hl,hp,ho,he,hm,hb⟩
 have s2:=WV sm (tl s)
 have i1:=Zo sm s hs
 have i2:=aan sm s hs
 generalize Ez ⟨b,ls,pts,on,earth,pm,br⟩ (tl s)=x at i1 i2 s2
 exact ⟨o8b x,i2,i1,s2.l,s2.p,s2.o,s2.e,s2.m,s2.b⟩
end Go.Proofs.YtjdlgannencchaaGreatDoor
namespace Go.Proofs.YtjdlgannencchaaGreatDoor
open Go.ChangeShapes Go.WideShapes Go.ChangeAt Go.RowKit
set_option linter.unusedVariables false
set_option linter.unusedSimpArgs false
set_option maxHeartbeats 4000000
theorem Eg (x0:Int) (x1:List (Int×Int×Int)) (x2:List (Int×Int)) (x3:List Bool) (x4:List Bool) (x5:List (Int×Int)) (x6:List Int) (x7:ByteArray) (hx1:x1.length≤9223372036854775807) (hx2:x2.length≤9223372036854775807) (hx3:x3.length≤9223372036854775807) (hx4:x4.length≤9223372036854775807) (hx5:x5.length≤9223372036854775807) (hx6:x6.length≤9223372036854775807):dm x0 x1 x2 x3 x4 x5 x6 x7=some true:=by
 unfold dm
 rcases Bool.eq_false_or_eq_true (af 1048576 (x7.size:Int)) with h |h
 ·rw [h];rfl
 have hs7:=Yl h
 rw [h,cond_false]
 rw [bH x0 x1 x2 x3 x4 x5 x6 1048576 hx1 hx2 hx3 hx4 hx5 hx6 (by omega)]
 by_cases s0:1048576<(x1.length:Int)+(x2.length:Int)+(x3.length:Int)+(x4.length:Int)+(x5.length:Int)+(x6.length:Int)
 ·simp [s0,af]
 rw [if_neg s0,Option.bind_some,ac6 (by omega),cond_false]
 obtain ⟨r,hs,hi,b1,b2,b3,b4,b5,b6⟩:=zj x0 x1 x2 x3 x4 x5 x6 x7 (by omega) (by omega) (by omega) (by omega) (by omega) (by omega) (by omega)
 simp (disch:=omega) only [Option.bind_some,cond_false,cond_true,hs,hi,bne_self_eq_false,beq_self_eq_true,Bool.not_true,Bool.not_false,Bool.or_false,Bool.false_or,Bool.or_self,gb,ac6,cB,bO,iS,jK,fe,dh,cq,bT,kR,mj,jW,nR,mA,wo,xS,wn,ve,vf,wq,Lq,Qq,Ty,Ph,sM,RV,Pg,LG,qG,RW,lW,Pa,sL,RL,OZ,Lw,qF,RM,lU]
end Go.Proofs.YtjdlgannencchaaGreatDoor
namespace Go.Proofs.YtjdlgannencchaaGreatDoor
open Go.ChangeShapes Go.WideShapes Go.ChangeAt Go.RowKit Go.Deep
set_option linter.unusedVariables false
set_option linter.unusedSimpArgs false
set_option maxRecDepth 100000
section
variable {H:Type} {enc:TypeId×Value→H} {w:World} {base:Nat} {spare:Nat→Bool} {held:Bool}
theorem XM {fuel:Nat} {cs:List Value} {x:DataW H×List MemPlace} (h:DataW.trod enc Tryz.prog w base spare held fuel 3 cs=some x):
 ∃(y0:Int),cs=[.int .i64 y0]∧rK y0:=by
 obtain ⟨n,rfl,_,hw⟩:=DataW.trod_int Tryz.underlying3 h
 exact ⟨n,rfl,Go.bounds_i64 hw⟩
theorem adH {fuel:Nat} {cs:List Value} {x:DataW H×List MemPlace} (h:DataW.trod enc Tryz.prog w base spare held fuel 210 cs=some x):
 ∃(y0:Int) (y1:Int) (y2:Int),cs=[.int .i64 y0,.int .i64 y1,.int .i64 y2]∧rK y0∧rK y1∧rK y2:=by
 obtain ⟨xs,n,_,rfl,hl,hlen,hf⟩:=DataW.trod_struct Tryz.underlying210 h
 have hc:Tryz.prog.cellsOf 210=3:=by kernel_rfl
 rw [hc] at hl
 have h0:DataW.trod enc Tryz.prog w base spare held n 3 ((cs.drop 0).take (Tryz.prog.cellsOf 3))=xs[0]?:=hf 0 _ rfl
 have c0:Tryz.prog.cellsOf 3=1:=by kernel_rfl
 obtain ⟨q0,hq0⟩: ∃q,xs[0]?=some q:=⟨_,List.getElem?_eq_getElem (by rw [hlen];decide)⟩
 rw [hq0,c0] at h0
 obtain ⟨y0,e0,w0_0⟩:=XM h0
 have h1:DataW.trod enc Tryz.prog w base spare held n 3 ((cs.drop 1).take (Tryz.prog.cellsOf 3))=xs[1]?:=hf 1 _ rfl
 have c1:Tryz.prog.cellsOf 3=1:=by kernel_rfl
 obtain ⟨q1,hq1⟩: ∃q,xs[1]?=some q:=⟨_,List.getElem?_eq_getElem (by rw [hlen];decide)⟩
 rw [hq1,c1] at h1
 obtain ⟨y1,e1,w1_0⟩:=XM h1
 have h2:DataW.trod enc Tryz.prog w base spare held n 3 ((cs.drop 2).take (Tryz.prog.cellsOf 3))=xs[2]?:=hf 2 _ rfl
 have c2:Tryz.prog.cellsOf 3=1:=by kernel_rfl
 obtain ⟨q2,hq2⟩: ∃q,xs[2]?=some q:=⟨_,List.getElem?_eq_getElem (by rw [hlen];decide)⟩
 rw [hq2,c2] at h2
 obtain ⟨y2,e2,w2_0⟩:=XM h2
 match cs,hl with
 | [u0,u1,u2],_=>
  simp at e0 e1 e2
  subst e0;subst e1;subst e2
  exact ⟨y0,y1,y2,rfl,w0_0,w1_0,w2_0⟩
theorem ae7 {fuel:Nat} {cs:List Value} {x:DataW H×List MemPlace} (h:DataW.trod enc Tryz.prog w base spare held fuel 49 cs=some x):
 ∃(A0:Option Addr) (y0:List (Int×Int×Int)) (k0:Nat),cs=[.slice A0 y0.length k0]∧Rc w 3 A0 y0.length k0 (y0.flatMap Dk)∧y0.length≤maxLen∧(∀z∈y0,rK z.1∧rK z.2.1∧rK z.2.2):=by
 obtain ⟨A,l,cap,e1,e2,e3,e4⟩:=vW (fun b: {y:Int×Int×Int // rK y.1∧rK y.2.1∧rK y.2.2}=>Dk b.1) (size:=3) (fun b=>OS b.1) (by decide) Tryz.underlying49 (by kernel_rfl) (fun fuel cs x hx=>by
  obtain ⟨z0,z1,z2,rfl,g0,g1,g2⟩:=adH hx
  exact ⟨⟨(z0,z1,z2),⟨g0,g1,g2⟩⟩,rfl⟩) h
 refine ⟨A,l.map (·.1),cap,by simpa using e1,⟨by simpa [List.flatMap_map] using e2,by simpa using e3⟩,by simpa using Nat.le_trans e3 e4,fun z hz=>?_⟩
 obtain ⟨q,_,rfl⟩:=List.mem_map.1 hz
 exact q.2
theorem ae8 {fuel:Nat} {cs:List Value} {x:DataW H×List MemPlace} (h:DataW.trod enc Tryz.prog w base spare held fuel 51 cs=some x):
 ∃(y0:Int) (A1:Option Addr) (y1:List (Int×Int×Int)) (k1:Nat),cs=[.int .i64 y0,.slice A1 y1.length k1]∧rK y0∧Rc w 3 A1 y1.length k1 (y1.flatMap Dk)∧y1.length≤maxLen∧(∀z∈y1,rK z.1∧rK z.2.1∧rK z.2.2):=by
 obtain ⟨xs,n,_,rfl,hl,hlen,hf⟩:=DataW.trod_struct Tryz.underlying51 h
 have hc:Tryz.prog.cellsOf 51=2:=by kernel_rfl
 rw [hc] at hl
 have h0:DataW.trod enc Tryz.prog w base spare held n 3 ((cs.drop 0).take (Tryz.prog.cellsOf 3))=xs[0]?:=hf 0 _ rfl
 have c0:Tryz.prog.cellsOf 3=1:=by kernel_rfl
 obtain ⟨q0,hq0⟩: ∃q,xs[0]?=some q:=⟨_,List.getElem?_eq_getElem (by rw [hlen];decide)⟩
 rw [hq0,c0] at h0
 obtain ⟨y0,e0,w0_0⟩:=XM h0
 have h1:DataW.trod enc Tryz.prog w base spare held n 49 ((cs.drop 1).take (Tryz.prog.cellsOf 49))=xs[1]?:=hf 1 _ rfl
 have c1:Tryz.prog.cellsOf 49=1:=by kernel_rfl
 obtain ⟨q1,hq1⟩: ∃q,xs[1]?=some q:=⟨_,List.getElem?_eq_getElem (by rw [hlen];decide)⟩
 rw [hq1,c1] at h1
 obtain ⟨A1,y1,k1,e1,w1_0,w1_1,w1_2⟩:=ae7 h1
 match cs,hl with
 | [u0,u1],_=>
  simp at e0 e1
  subst e0;subst e1
  exact ⟨y0,A1,y1,k1,rfl,w0_0,w1_0,w1_1,w1_2⟩
theorem adG {fuel:Nat} {cs:List Value} {x:DataW H×List MemPlace} (h:DataW.trod enc Tryz.prog w base spare held fuel 185 cs=some x):
 ∃(y0:Int) (y1:Int),cs=[.int .i64 y0,.int .i64 y1]∧rK y0∧rK y1:=by
 obtain ⟨xs,n,_,rfl,hl,hlen,hf⟩:=DataW.trod_struct Tryz.underlying185 h
 have hc:Tryz.prog.cellsOf 185=2:=by kernel_rfl
 rw [hc] at hl
 have h0:DataW.trod enc Tryz.prog w base spare held n 3 ((cs.drop 0).take (Tryz.prog.cellsOf 3))=xs[0]?:=hf 0 _ rfl
 have c0:Tryz.prog.cellsOf 3=1:=by kernel_rfl
 obtain ⟨q0,hq0⟩: ∃q,xs[0]?=some q:=⟨_,List.getElem?_eq_getElem (by rw [hlen];decide)⟩
 rw [hq0,c0] at h0
 obtain ⟨y0,e0,w0_0⟩:=XM h0
 have h1:DataW.trod enc Tryz.prog w base spare held n 3 ((cs.drop 1).take (Tryz.prog.cellsOf 3))=xs[1]?:=hf 1 _ rfl
 have c1:Tryz.prog.cellsOf 3=1:=by kernel_rfl
 obtain ⟨q1,hq1⟩: ∃q,xs[1]?=some q:=⟨_,List.getElem?_eq_getElem (by rw [hlen];decide)⟩
 rw [hq1,c1] at h1
 obtain ⟨y1,e1,w1_0⟩:=XM h1
 match cs,hl with
 | [u0,u1],_=>
  simp at e0 e1
  subst e0;subst e1
  exact ⟨y0,y1,rfl,w0_0,w1_0⟩
theorem ae9 {fuel:Nat} {cs:List Value} {x:DataW H×List MemPlace} (h:DataW.trod enc Tryz.prog w base spare held fuel 52 cs=some x):
 ∃(A0:Option Addr) (y0:List (Int×Int)) (k0:Nat),cs=[.slice A0 y0.length k0]∧Rc w 2 A0 y0.length k0 (y0.flatMap Kh)∧y0.length≤maxLen∧(∀z∈y0,rK z.1∧rK z.2):=by
 obtain ⟨A,l,cap,e1,e2,e3,e4⟩:=vW (fun b: {y:Int×Int // rK y.1∧rK y.2}=>Kh b.1) (size:=2) (fun b=>RE b.1) (by decide) Tryz.underlying52 (by kernel_rfl) (fun fuel cs x hx=>by
  obtain ⟨z0,z1,rfl,g0,g1⟩:=adG hx
  exact ⟨⟨(z0,z1),⟨g0,g1⟩⟩,rfl⟩) h
 refine ⟨A,l.map (·.1),cap,by simpa using e1,⟨by simpa [List.flatMap_map] using e2,by simpa using e3⟩,by simpa using Nat.le_trans e3 e4,fun z hz=>?_⟩
 obtain ⟨q,_,rfl⟩:=List.mem_map.1 hz
 exact q.2
theorem tr4 {fuel:Nat} {cs:List Value} {x:DataW H×List MemPlace} (h:DataW.trod enc Tryz.prog w base spare held fuel 4 cs=some x):
 ∃(y0:Bool),cs=[.bool y0]:=by
 obtain ⟨n,rfl,_⟩:=DataW.trod_bool Tryz.underlying4 h
 exact ⟨n,rfl⟩
theorem adJ {fuel:Nat} {cs:List Value} {x:DataW H×List MemPlace} (h:DataW.trod enc Tryz.prog w base spare held fuel 27 cs=some x):
 ∃(A0:Option Addr) (y0:List Bool) (k0:Nat),cs=[.slice A0 y0.length k0]∧Rc w 1 A0 y0.length k0 (y0.flatMap eB)∧y0.length≤maxLen∧(∀z∈y0,True):=by
 obtain ⟨A,l,cap,e1,e2,e3,e4⟩:=vW (fun b: {y:Bool // True}=>eB b.1) (size:=1) (fun b=>YV b.1) (by decide) Tryz.underlying27 (by kernel_rfl) (fun fuel cs x hx=>by
  obtain ⟨z0,rfl⟩:=tr4 hx
  exact ⟨⟨z0,trivial⟩,rfl⟩) h
 refine ⟨A,l.map (·.1),cap,by simpa using e1,⟨by simpa [List.flatMap_map] using e2,by simpa using e3⟩,by simpa using Nat.le_trans e3 e4,fun z hz=>?_⟩
 obtain ⟨q,_,rfl⟩:=List.mem_map.1 hz
 exact q.2
theorem adI {fuel:Nat} {cs:List Value} {x:DataW H×List MemPlace} (h:DataW.trod enc Tryz.prog w base spare held fuel 212 cs=some x):
 ∃(y0:Int) (y1:Int),cs=[.int .i64 y0,.int .i64 y1]∧rK y0∧rK y1:=by
 obtain ⟨xs,n,_,rfl,hl,hlen,hf⟩:=DataW.trod_struct Tryz.underlying212 h
 have hc:Tryz.prog.cellsOf 212=2:=by kernel_rfl
 rw [hc] at hl
 have h0:DataW.trod enc Tryz.prog w base spare held n 3 ((cs.drop 0).take (Tryz.prog.cellsOf 3))=xs[0]?:=hf 0 _ rfl
 have c0:Tryz.prog.cellsOf 3=1:=by kernel_rfl
 obtain ⟨q0,hq0⟩: ∃q,xs[0]?=some q:=⟨_,List.getElem?_eq_getElem (by rw [hlen];decide)⟩
 rw [hq0,c0] at h0
 obtain ⟨y0,e0,w0_0⟩:=XM h0
 have h1:DataW.trod enc Tryz.prog w base spare held n 3 ((cs.drop 1).take (Tryz.prog.cellsOf 3))=xs[1]?:=hf 1 _ rfl
 have c1:Tryz.prog.cellsOf 3=1:=by kernel_rfl
 obtain ⟨q1,hq1⟩: ∃q,xs[1]?=some q:=⟨_,List.getElem?_eq_getElem (by rw [hlen];decide)⟩
 rw [hq1,c1] at h1
 obtain ⟨y1,e1,w1_0⟩:=XM h1
 match cs,hl with
 | [u0,u1],_=>
  simp at e0 e1
  subst e0;subst e1
  exact ⟨y0,y1,rfl,w0_0,w1_0⟩
theorem afa {fuel:Nat} {cs:List Value} {x:DataW H×List MemPlace} (h:DataW.trod enc Tryz.prog w base spare held fuel 53 cs=some x):
 ∃(A0:Option Addr) (y0:List (Int×Int)) (k0:Nat),cs=[.slice A0 y0.length k0]∧Rc w 2 A0 y0.length k0 (y0.flatMap rT)∧y0.length≤maxLen∧(∀z∈y0,rK z.1∧rK z.2):=by
 obtain ⟨A,l,cap,e1,e2,e3,e4⟩:=vW (fun b: {y:Int×Int // rK y.1∧rK y.2}=>rT b.1) (size:=2) (fun b=>Lm b.1) (by decide) Tryz.underlying53 (by kernel_rfl) (fun fuel cs x hx=>by
  obtain ⟨z0,z1,rfl,g0,g1⟩:=adI hx
  exact ⟨⟨(z0,z1),⟨g0,g1⟩⟩,rfl⟩) h
 refine ⟨A,l.map (·.1),cap,by simpa using e1,⟨by simpa [List.flatMap_map] using e2,by simpa using e3⟩,by simpa using Nat.le_trans e3 e4,fun z hz=>?_⟩
 obtain ⟨q,_,rfl⟩:=List.mem_map.1 hz
 exact q.2
theorem afb {fuel:Nat} {cs:List Value} {x:DataW H×List MemPlace} (h:DataW.trod enc Tryz.prog w base spare held fuel 55 cs=some x):
 ∃(A0:Option Addr) (y0:List Bool) (k0:Nat) (A1:Option Addr) (y1:List Bool) (k1:Nat) (A2:Option Addr) (y2:List (Int×Int)) (k2:Nat),cs=[.slice A0 y0.length k0,.slice A1 y1.length k1,.slice A2 y2.length k2]∧Rc w 1 A0 y0.length k0 (y0.flatMap eB)∧y0.length≤maxLen∧(∀z∈y0,True)∧Rc w 1 A1 y1.length k1 (y1.flatMap eB)∧y1.length≤maxLen∧(∀z∈y1,True)∧Rc w 2 A2 y2.length k2 (y2.flatMap rT)∧y2.length≤maxLen∧(∀z∈y2,rK z.1∧rK z.2):=by
 obtain ⟨xs,n,_,rfl,hl,hlen,hf⟩:=DataW.trod_struct Tryz.underlying55 h
 have hc:Tryz.prog.cellsOf 55=3:=by kernel_rfl
 rw [hc] at hl
 have h0:DataW.trod enc Tryz.prog w base spare held n 27 ((cs.drop 0).take (Tryz.prog.cellsOf 27))=xs[0]?:=hf 0 _ rfl
 have c0:Tryz.prog.cellsOf 27=1:=by kernel_rfl
 obtain ⟨q0,hq0⟩: ∃q,xs[0]?=some q:=⟨_,List.getElem?_eq_getElem (by rw [hlen];decide)⟩
 rw [hq0,c0] at h0
 obtain ⟨A0,y0,k0,e0,w0_0,w0_1,w0_2⟩:=adJ h0
 have h1:DataW.trod enc Tryz.prog w base spare held n 27 ((cs.drop 1).take (Tryz.prog.cellsOf 27))=xs[1]?:=hf 1 _ rfl
 have c1:Tryz.prog.cellsOf 27=1:=by kernel_rfl
 obtain ⟨q1,hq1⟩: ∃q,xs[1]?=some q:=⟨_,List.getElem?_eq_getElem (by rw [hlen];decide)⟩
 rw [hq1,c1] at h1
 obtain ⟨A1,y1,k1,e1,w1_0,w1_1,w1_2⟩:=adJ h1
 have h2:DataW.trod enc Tryz.prog w base spare held n 53 ((cs.drop 2).take (Tryz.prog.cellsOf 53))=xs[2]?:=hf 2 _ rfl
 have c2:Tryz.prog.cellsOf 53=1:=by kernel_rfl
 obtain ⟨q2,hq2⟩: ∃q,xs[2]?=some q:=⟨_,List.getElem?_eq_getElem (by rw [hlen];decide)⟩
 rw [hq2,c2] at h2
 obtain ⟨A2,y2,k2,e2,w2_0,w2_1,w2_2⟩:=afa h2
 match cs,hl with
 | [u0,u1,u2],_=>
  simp at e0 e1 e2
  subst e0;subst e1;subst e2
  exact ⟨A0,y0,k0,A1,y1,k1,A2,y2,k2,rfl,w0_0,w0_1,w0_2,w1_0,w1_1,w1_2,w2_0,w2_1,w2_2⟩
theorem ae6 {fuel:Nat} {cs:List Value} {x:DataW H×List MemPlace} (h:DataW.trod enc Tryz.prog w base spare held fuel 31 cs=some x):
 ∃(A0:Option Addr) (y0:List Int) (k0:Nat),cs=[.slice A0 y0.length k0]∧Rc w 1 A0 y0.length k0 (y0.flatMap eI)∧y0.length≤maxLen∧(∀z∈y0,rK z):=by
 obtain ⟨A,l,cap,e1,e2,e3,e4⟩:=vW (fun b: {y:Int // rK y}=>eI b.1) (size:=1) (fun b=>OR b.1) (by decide) Tryz.underlying31 (by kernel_rfl) (fun fuel cs x hx=>by
  obtain ⟨z0,rfl,g0⟩:=XM hx
  exact ⟨⟨z0,g0⟩,rfl⟩) h
 refine ⟨A,l.map (·.1),cap,by simpa using e1,⟨by simpa [List.flatMap_map] using e2,by simpa using e3⟩,by simpa using Nat.le_trans e3 e4,fun z hz=>?_⟩
 obtain ⟨q,_,rfl⟩:=List.mem_map.1 hz
 exact q.2
theorem afc {fuel:Nat} {cs:List Value} {x:DataW H×List MemPlace} (h:DataW.trod enc Tryz.prog w base spare held fuel 57 cs=some x):
 ∃(y0:Int) (A1:Option Addr) (y1:List (Int×Int×Int)) (k1:Nat) (A2:Option Addr) (y2:List (Int×Int)) (k2:Nat) (A3:Option Addr) (y3:List Bool) (k3:Nat) (A4:Option Addr) (y4:List Bool) (k4:Nat) (A5:Option Addr) (y5:List (Int×Int)) (k5:Nat) (A6:Option Addr) (y6:List Int) (k6:Nat),cs=[.int .i64 y0,.slice A1 y1.length k1,.slice A2 y2.length k2,.slice A3 y3.length k3,.slice A4 y4.length k4,.slice A5 y5.length k5,.slice A6 y6.length k6]∧rK y0∧Rc w 3 A1 y1.length k1 (y1.flatMap Dk)∧y1.length≤maxLen∧(∀z∈y1,rK z.1∧rK z.2.1∧rK z.2.2)∧Rc w 2 A2 y2.length k2 (y2.flatMap Kh)∧y2.length≤maxLen∧(∀z∈y2,rK z.1∧rK z.2)∧Rc w 1 A3 y3.length k3 (y3.flatMap eB)∧y3.length≤maxLen∧(∀z∈y3,True)∧Rc w 1 A4 y4.length k4 (y4.flatMap eB)∧y4.length≤maxLen∧(∀z∈y4,True)∧Rc w 2 A5 y5.length k5 (y5.flatMap rT)∧y5.length≤maxLen∧(∀z∈y5,rK z.1∧rK z.2)∧Rc w 1 A6 y6.length k6 (y6.flatMap eI)∧y6.length≤maxLen∧(∀z∈y6,rK z):=by
 obtain ⟨xs,n,_,rfl,hl,hlen,hf⟩:=DataW.trod_struct Tryz.underlying57 h
 have hc:Tryz.prog.cellsOf 57=7:=by kernel_rfl
 rw [hc] at hl
 have h0:DataW.trod enc Tryz.prog w base spare held n 51 ((cs.drop 0).take (Tryz.prog.cellsOf 51))=xs[0]?:=hf 0 _ rfl
 have c0:Tryz.prog.cellsOf 51=2:=by kernel_rfl
 obtain ⟨q0,hq0⟩: ∃q,xs[0]?=some q:=⟨_,List.getElem?_eq_getElem (by rw [hlen];decide)⟩
 rw [hq0,c0] at h0
 obtain ⟨y0,A1,y1,k1,e0,w0_0,w0_1,w0_2,w0_3⟩:=ae8 h0
 have h1:DataW.trod enc Tryz.prog w base spare held n 52 ((cs.drop 2).take (Tryz.prog.cellsOf 52))=xs[1]?:=hf 1 _ rfl
 have c1:Tryz.prog.cellsOf 52=1:=by kernel_rfl
 obtain ⟨q1,hq1⟩: ∃q,xs[1]?=some q:=⟨_,List.getElem?_eq_getElem (by rw [hlen];decide)⟩
 rw [hq1,c1] at h1
 obtain ⟨A2,y2,k2,e1,w1_0,w1_1,w1_2⟩:=ae9 h1
 have h2:DataW.trod enc Tryz.prog w base spare held n 55 ((cs.drop 3).take (Tryz.prog.cellsOf 55))=xs[2]?:=hf 2 _ rfl
 have c2:Tryz.prog.cellsOf 55=3:=by kernel_rfl
 obtain ⟨q2,hq2⟩: ∃q,xs[2]?=some q:=⟨_,List.getElem?_eq_getElem (by rw [hlen];decide)⟩
 rw [hq2,c2] at h2
 obtain ⟨A3,y3,k3,A4,y4,k4,A5,y5,k5,e2,w2_0,w2_1,w2_2,w2_3,w2_4,w2_5,w2_6,w2_7,w2_8⟩:=afb h2
 have h3:DataW.trod enc Tryz.prog w base spare held n 31 ((cs.drop 6).take (Tryz.prog.cellsOf 31))=xs[3]?:=hf 3 _ rfl
 have c3:Tryz.prog.cellsOf 31=1:=by kernel_rfl
 obtain ⟨q3,hq3⟩: ∃q,xs[3]?=some q:=⟨_,List.getElem?_eq_getElem (by rw [hlen];decide)⟩
 rw [hq3,c3] at h3
 obtain ⟨A6,y6,k6,e3,w3_0,w3_1,w3_2⟩:=ae6 h3
 match cs,hl with
 | [u0,u1,u2,u3,u4,u5,u6],_=>
  simp at e0 e1 e2 e3
  obtain ⟨rfl,rfl⟩:=e0;subst e1;obtain ⟨rfl,rfl,rfl⟩:=e2;subst e3
  exact ⟨y0,A1,y1,k1,A2,y2,k2,A3,y3,k3,A4,y4,k4,A5,y5,k5,A6,y6,k6,rfl,w0_0,w0_1,w0_2,w0_3,w1_0,w1_1,w1_2,w2_0,w2_1,w2_2,w2_3,w2_4,w2_5,w2_6,w2_7,w2_8,w3_0,w3_1,w3_2⟩
theorem aeY {r:Reach} {b0:Nat} {v:Value} {d:DataW H} {p:List MemPlace} (hval:Value.okWide Tryz.prog w r b0 57 v) (h:DataW.Trod enc Tryz.prog w base spare held 57 v d p):
 ∃(y0:Int) (A1:Option Addr) (y1:List (Int×Int×Int)) (k1:Nat) (A2:Option Addr) (y2:List (Int×Int)) (k2:Nat) (A3:Option Addr) (y3:List Bool) (k3:Nat) (A4:Option Addr) (y4:List Bool) (k4:Nat) (A5:Option Addr) (y5:List (Int×Int)) (k5:Nat) (A6:Option Addr) (y6:List Int) (k6:Nat),v= .agg #[.int .i64 y0,.slice A1 y1.length k1,.slice A2 y2.length k2,.slice A3 y3.length k3,.slice A4 y4.length k4,.slice A5 y5.length k5,.slice A6 y6.length k6]∧rK y0∧Rc w 3 A1 y1.length k1 (y1.flatMap Dk)∧y1.length≤maxLen∧(∀z∈y1,rK z.1∧rK z.2.1∧rK z.2.2)∧Rc w 2 A2 y2.length k2 (y2.flatMap Kh)∧y2.length≤maxLen∧(∀z∈y2,rK z.1∧rK z.2)∧Rc w 1 A3 y3.length k3 (y3.flatMap eB)∧y3.length≤maxLen∧(∀z∈y3,True)∧Rc w 1 A4 y4.length k4 (y4.flatMap eB)∧y4.length≤maxLen∧(∀z∈y4,True)∧Rc w 2 A5 y5.length k5 (y5.flatMap rT)∧y5.length≤maxLen∧(∀z∈y5,rK z.1∧rK z.2)∧Rc w 1 A6 y6.length k6 (y6.flatMap eI)∧y6.length≤maxLen∧(∀z∈y6,rK z):=by
 obtain ⟨cs,rfl,_⟩:=okWide_struct Tryz.underlying57 hval
 obtain ⟨fuel,hf⟩:=h
 obtain ⟨y0,A1,y1,k1,A2,y2,k2,A3,y3,k3,A4,y4,k4,A5,y5,k5,A6,y6,k6,e,w0,w1,w2,w3,w4,w5,w6,w7,w8,w9,w10,w11,w12,w13,w14,w15,w16,w17,w18⟩:=afc hf
 simp [Value.cells] at e
 exact ⟨y0,A1,y1,k1,A2,y2,k2,A3,y3,k3,A4,y4,k4,A5,y5,k5,A6,y6,k6,congrArg Value.agg (Array.ext' e),w0,w1,w2,w3,w4,w5,w6,w7,w8,w9,w10,w11,w12,w13,w14,w15,w16,w17,w18⟩
theorem op9 {r:Reach} {b0:Nat} {v:Value} {d:DataW H} {p:List MemPlace} (hval:Value.okWide Tryz.prog w r b0 9 v) (h:DataW.Trod enc Tryz.prog w base spare held 9 v d p):
 ∃(y0:ByteArray),v= .string y0∧y0.size≤maxLen:=by
 obtain ⟨n,rfl,_,_,hs⟩:=Go.ChangeMaps.open_string Tryz.underlying9 hval h
 exact ⟨n,rfl,hs⟩
end
end Go.Proofs.YtjdlgannencchaaGreatDoor
namespace Go.Proofs.YtjdlgannencchaaGreatDoor
open Go.ChangeShapes Go.WideShapes Go.ChangeAt Go.RowKit
theorem own:ownKnob Tryz.prog.godebug=none:=by kernel_rfl
theorem WR:laidOutB Tryz.prog=true:=by kernel_rfl
section
variable {H:Type} {enc:TypeId×Value→H} {P:Program}
theorem zX (hl:laidOutB P=true) {W W':World} (hb:Below W.heap.size W W'): ∀ {ts:List TypeId} {vs:List Value} {ds:List (DataW H)} {ps:List MemPlace},
 (ts.all fun t=>P.readableRec t&&decide (t<P.types.size))=true→DataW.TrodAll enc P W 0 (fun _=>true) true ts vs ds ps→(∀x∈ps,x.block<W.heap.size)→
 DataW.TrodAll enc P W' 0 (fun b=>decide (b<W.heap.size)) true ts vs ds ps
 | [],[],[],_,_,h,_=>h
 |t::ts,v::vs,d::ds,ps,ht,h,hlt=>by
  obtain ⟨p,q,h1,h2,rfl⟩:=h
  simp only [List.all_cons,Bool.and_eq_true,decide_eq_true_eq] at ht
  exact ⟨p,q,Below.trod hl ht.1.1 ht.1.2 h1 hb (fun x hx=>hlt x (by simp [hx])),zX hl hb (by simpa using ht.2) h2 (fun x hx=>hlt x (by simp [hx])),rfl⟩
theorem Uq {f:Func} {s:ChangeSpec} {W W':World} {args:Array Value} {ds gs:List (DataW H)} {before:List MemPlace} {tb:TypeId} (hl:laidOutB P=true)
 (hW:DataW.Whole enc P f.params.toList s.vars false W args.toList ds gs before)
 (hts:(f.params.toList.all fun t=>P.readableRec t&&decide (t<P.types.size))=true) (hvs:s.vars=[]) (hrt:f.resultTypes= #[tb]) (hub:P.underlying tb=some .bool)
 (hfn:s.fn H (ds++ [])= {results:=[.lit (.bool true)],args:=ds}) (hb:Below W.heap.size W W'):
 s.post enc P f false true false false W args (.bool true) W':=by
 have hW':=hW
 obtain ⟨p,q,hA,hV,rfl,hfz,hnd⟩:=hW
 rw [hvs] at hV
 obtain ⟨rfl,rfl⟩:=trodVars_none hV
 refine ⟨ds,[],p++ [],[],p,[],hW',?_,?_,?_,hb.frame _,fun h=>by cases h⟩
 ·rw [hfn,hrt]
  exact trodAll_cons_mk (shut_bool hub _) trodAll_mk0
 ·rw [hfn]
  exact zX hl hb hts hA (fun x hx=>hW'.lt x (by simp [hx]))
 ·rw [hfn,hvs]
  rfl
end
end Go.Proofs.YtjdlgannencchaaGreatDoor
