/- Texts of the claim, one behind the other: Tr, Sum, Al, WkV, WvM, DkM, Hl, FlI, FlS, Bst, WkD, BsM, WrM, LnU, WkR, HlM, RsM, Draw, Yd, Sm, WdD, WdS, DaH, WdL, StTxD, LnV. -/
import Derived.Test.YtjdlgannencchaaGreatDoorRWorldLines4
namespace Go.Proofs.YtjdlgannencchaaGreatDoor
open Go.ChangeShapes Go.WideShapes Go.ChangeAt Go.RowKit
set_option linter.unusedVariables false
set_option linter.unusedSimpArgs false
set_option linter.unusedSectionVars false
theorem Ql {σ Out:Type} (L:Nat→σ→Option Out) (R:Nat→σ→Prop) (n:Nat) (X:Prop) (fv:Option Out) (yg:σ→Option Out) (hn:n≤1099511627776)
 (hstep: ∀k fuel s,k<n→R k s→(X∧L (fuel+1) s=fv)∨(∃s',R (k+1) s'∧L (fuel+1) s=L fuel s')) (hend: ∀fuel s,R n s→L (fuel+1) s=yg s) (s:σ) (h0:R 0 s):
 (X∧L aq s=fv)∨ ∃s',R n s'∧L aq s=yg s':=by
 have go: ∀j k fuel s,k+j=n→j<fuel→R k s→(X∧L fuel s=fv)∨ ∃s',R n s'∧L fuel s=yg s':=by
  intro j
  induction j with
  |zero=>
   intro k fuel s hk hf hr
   obtain ⟨f,rfl⟩: ∃f,fuel=f+1:=⟨fuel-1,by omega⟩
   obtain rfl:k=n:=by omega
   exact .inr ⟨s,hr,hend f s hr⟩
  |succ j ih=>
   intro k fuel s hk hf hr
   obtain ⟨f,rfl⟩: ∃f,fuel=f+1:=⟨fuel-1,by omega⟩
   rcases hstep k f s (by omega) hr with h |⟨s',h1,h2⟩
   ·exact .inl h
   ·rw [h2];exact ih (k+1) f s' (by omega) (by omega) h1
 exact go n 0 aq s (by omega) (pn hn) h0
structure TI (B:Nat) (ls:List Ln) (on:List Bool) (pts:List (Int×Int)) (K:Nat) (feed parent:List Int) (ord:List Nat):Prop where
 lf:feed.length=B
 lp:parent.length=B
 nd:ord.Nodup
 lt: ∀b∈ord,b<B
 mem: ∀b,b<B→(b∈ord↔0≤feed.getD b 0)
 snd: ∀b∈ord,∃g,g<K∧aL pts g=true∧feed.getD b 0=(g:Int)∧Cn (aA ls on) g b
 own: ∀g,g<K→aL pts g=true→g∈ord∧parent.getD g 0= -1
 out: ∀b,b<B→b∉ord→parent.getD b 0= -1
 par: ∀b∈ord,(aL pts b=true∧b<K)∨ ∃j c,parent.getD b 0=((j:Nat):Int)∧Lk ls on j b c∧c∈ord∧ord.idxOf c<ord.idxOf b
theorem zK {l:List Nat} {a c:Nat} (h:a∈l):(l++ [c]).idxOf a=l.idxOf a:=by rw [List.idxOf_append,if_pos h]
theorem SD {l:List Nat} {c:Nat} (h:c∉l):(l++ [c]).idxOf c=l.length:=by
 rw [List.idxOf_append,if_neg h];simp
theorem uL: ∀(B:Nat) (l:List Nat),l.Nodup→(∀b∈l,b<B)→l.length≤B
 |0,l,_,h=>by
  cases l with
  |nil=>simp
  |cons x l=>have:=h x (by simp);omega
 |B+1,l,hn,h=>by
  by_cases hm:B∈l
  ·have h1:=uL B (l.erase B) (hn.erase B) (fun b hb=>by
    have h2:=(hn.mem_erase_iff).1 hb
    have:=h b h2.2
    have:=h2.1
    omega)
   rw [List.length_erase_of_mem hm] at h1
   omega
  ·have h1:=uL B l hn (fun b hb=>by
    have:=h b hb
    have:b≠B:=fun e=>hm (e▸hb)
    omega)
   omega
theorem GS {l:List Nat} {c:Nat} (h:l.Nodup) (hc:c∉l):(l++ [c]).Nodup:=by
 rw [List.nodup_append]
 exact ⟨h,by simp,fun a ha b hb=>by obtain rfl:b=c:=by simpa using hb
                                    exact fun e=>hc (e▸ha)⟩
section
variable {B:Nat} {ls:List Ln} {on:List Bool} {pts:List (Int×Int)} {K:Nat} {feed parent:List Int} {ord:List Nat}
theorem TI.add (T:TI B ls on pts K feed parent ord) {f b c j:Nat} (hf:f<K) (hff:aL pts f=true) (hb:b∈ord) (hfb:Cn (aA ls on) f b) (hl:Lk ls on j b c) (hc:c<B) (hn:c∉ord):TI B ls on pts K (feed.set c (f:Int)) (parent.set c (j:Int)) (ord++ [c]):=by
 have hcf:c<feed.length:=by rw [T.lf];exact hc
 have hcp:c<parent.length:=by rw [T.lp];exact hc
 have hne: ∀x∈ord,c≠x:=fun x hx e=>hn (e▸hx)
 refine ⟨by rw [List.length_set];exact T.lf,by rw [List.length_set];exact T.lp,GS T.nd hn,fun x hx=>?_,fun x hx=>?_,fun x hx=>?_,fun g hg hgf=>?_,fun x hx hxn=>?_,fun x hx=>?_⟩
 ·rcases List.mem_append.1 hx with hx |hx
  ·exact T.lt x hx
  ·obtain rfl:x=c:=by simpa using hx
   exact hc
 ·by_cases e:c=x
  ·subst e;rw [tG hcf];simp
  ·rw [fj e,←T.mem x hx];simp [Ne.symm e]
 ·rcases List.mem_append.1 hx with hx |hx
  ·rw [fj (hne x hx)];exact T.snd x hx
  ·obtain rfl:x=c:=by simpa using hx
   rw [tG hcf];exact ⟨f,hf,hff,rfl,hfb.trans hl.cn⟩
 ·have:=T.own g hg hgf
  rw [fj (hne g this.1)];exact ⟨by simp [this.1],this.2⟩
 ·have h1:x∉ord∧x≠c:=by simpa using hxn
  rw [fj (Ne.symm h1.2)];exact T.out x hx h1.1
 ·rcases List.mem_append.1 hx with hx |hx
  ·rw [fj (hne x hx)]
   rcases T.par x hx with h |⟨i,d,h1,h2,h3,h4⟩
   ·exact .inl h
   ·exact .inr ⟨i,d,h1,h2,by simp [h3],by rw [zK h3,zK hx];exact h4⟩
  ·obtain rfl:x=c:=by simpa using hx
   refine .inr ⟨j,b,tG hcp,?_,by simp [hb],?_⟩
   ·obtain ⟨h1,h2,h3⟩:=hl
    exact ⟨h1,h2,h3.symm⟩
   ·rw [zK hb,SD hn];exact List.idxOf_lt_length_iff.2 hb
theorem TI.start (T:TI B ls on pts K feed parent ord) (hK:K<B) (hff:aL pts K=true) (hn:K∉ord):TI B ls on pts (K+1) (feed.set K (K:Int)) parent (ord++ [K]):=by
 have hcf:K<feed.length:=by rw [T.lf];exact hK
 have hne: ∀x∈ord,K≠x:=fun x hx e=>hn (e▸hx)
 refine ⟨by rw [List.length_set];exact T.lf,T.lp,GS T.nd hn,fun x hx=>?_,fun x hx=>?_,fun x hx=>?_,fun g hg hgf=>?_,fun x hx hxn=>?_,fun x hx=>?_⟩
 ·rcases List.mem_append.1 hx with hx |hx
  ·exact T.lt x hx
  ·obtain rfl:x=K:=by simpa using hx
   exact hK
 ·by_cases e:K=x
  ·subst e;rw [tG hcf];simp
  ·rw [fj e,←T.mem x hx];simp [Ne.symm e]
 ·rcases List.mem_append.1 hx with hx |hx
  ·rw [fj (hne x hx)]
   obtain ⟨g,h1,h2⟩:=T.snd x hx
   exact ⟨g,by omega,h2⟩
  ·obtain rfl:x=K:=by simpa using hx
   rw [tG hcf];exact ⟨x,by omega,hff,rfl,.refl _⟩
 ·by_cases e:g=K
  ·subst e;exact ⟨by simp,T.out g hK hn⟩
  ·have:=T.own g (by omega) hgf
   exact ⟨by simp [this.1],this.2⟩
 ·have h1:x∉ord∧x≠K:=by simpa using hxn
  exact T.out x hx h1.1
 ·rcases List.mem_append.1 hx with hx |hx
  ·rcases T.par x hx with h |⟨i,d,h1,h2,h3,h4⟩
   ·exact .inl ⟨h.1,by omega⟩
   ·exact .inr ⟨i,d,h1,h2,by simp [h3],by rw [zK h3,zK hx];exact h4⟩
  ·obtain rfl:x=K:=by simpa using hx
   exact .inl ⟨hff,by omega⟩
theorem TI.skip (T:TI B ls on pts K feed parent ord) (hff:aL pts K=false):TI B ls on pts (K+1) feed parent ord:=by
 refine ⟨T.lf,T.lp,T.nd,T.lt,T.mem,fun x hx=>?_,fun g hg hgf=>?_,T.out,fun x hx=>?_⟩
 ·obtain ⟨g,h1,h2⟩:=T.snd x hx
  exact ⟨g,by omega,h2⟩
 ·have:g≠K:=fun e=>by rw [e,hff] at hgf;cases hgf
  exact T.own g (by omega) hgf
 ·rcases T.par x hx with h |h
  ·exact .inl ⟨h.1,by omega⟩
  ·exact .inr h
theorem TI.len (T:TI B ls on pts K feed parent ord):ord.length≤B:=by
 exact uL B ord T.nd T.lt
def Cl (ls:List Ln) (on:List Bool) (ord:List Nat) (m:Nat):Prop:= ∀i,i<m→ ∀j c,Lk ls on j (ord.getD i 0) c→c∈ord
theorem Cl.mem {m:Nat} (h:Cl ls on ord m) (hm:m=ord.length) {b c:Nat} (hb:b∈ord) (hc:Cn (aA ls on) b c):c∈ord:=by
 induction hc with
 |refl=>exact hb
 | @step c d _ e ih=>
  obtain ⟨i,hi,rfl⟩:=List.mem_iff_getElem.1 ih
  have hl: ∃j,Lk ls on j ord[i] d:=by
   rcases e with e |e
   ·obtain ⟨j,h1,h2,h3⟩:=zX.1 e
    exact ⟨j,h1,h2,.inl h3.symm⟩
   ·obtain ⟨j,h1,h2,h3⟩:=zX.1 e
    exact ⟨j,h1,h2,.inr h3.symm⟩
  obtain ⟨j,hl⟩:=hl
  exact h i (by omega) j d (by rw [ai hi];exact hl)
end
section
variable {B:Nat} {ls:List Ln} {on:List Bool} {pts:List (Int×Int)} (h:StOk (B:Int) ls on)
include h
theorem LP {k b:Nat} (hk:k<ls.length): ∃z,cI (ls.getD k (0,0,0)).1 (ls.getD k (0,0,0)).2.1 (ls.getD k (0,0,0)).2.2 (b:Int)=some z∧((z= -1∧ ∀c,¬Lk ls on k b c)∨ ∃c,z=((c:Nat):Int)∧c<B∧(on.getD k false=true→Lk ls on k b c)∧ ∀d,Lk ls on k b d→d=c):=by
 have hl:=h.net.ln k hk
 have hln:=xi hl
 simp only [Int.toNat_natCast] at hln
 have hne:=hl.ne
 unfold cI
 rw [hln.1,hln.2.1] at hne ⊢
 have key: ∀d,Lk ls on k b d→((cg (ls.getD k (0,0,0))).1=b∧(cg (ls.getD k (0,0,0))).2=d)∨((cg (ls.getD k (0,0,0))).1=d∧(cg (ls.getD k (0,0,0))).2=b):=by
  rintro d ⟨_,_,h3⟩
  rcases h3 with h3 |h3<;>rw [h3]<;>simp
 by_cases e1:b=(cg (ls.getD k (0,0,0))).1
 ·have:((b:Int)==(((cg (ls.getD k (0,0,0))).1:Nat):Int))=true:=by rw [beq_iff_eq,←e1]
  rw [this]
  refine ⟨_,rfl,.inr ⟨_,rfl,hln.2.2.2,fun ho=>⟨hk,ho,.inl (by rw [e1])⟩,fun d hd=>?_⟩⟩
  rcases key d hd with g |g
  ·exact g.2.symm
  ·omega
 ·have e1':((b:Int)==(((cg (ls.getD k (0,0,0))).1:Nat):Int))=false:=by rw [beq_eq_false_iff_ne];omega
  rw [e1',cond_false]
  by_cases e2:b=(cg (ls.getD k (0,0,0))).2
  ·have:((b:Int)==(((cg (ls.getD k (0,0,0))).2:Nat):Int))=true:=by rw [beq_iff_eq,←e2]
   rw [this]
   refine ⟨_,rfl,.inr ⟨_,rfl,hln.2.2.1,fun ho=>⟨hk,ho,.inr (by rw [e2])⟩,fun d hd=>?_⟩⟩
   rcases key d hd with g |g
   ·omega
   ·exact g.1.symm
  ·have e2':((b:Int)==(((cg (ls.getD k (0,0,0))).2:Nat):Int))=false:=by rw [beq_eq_false_iff_ne];omega
   rw [e2',cond_false]
   refine ⟨_,rfl,.inl ⟨rfl,fun d hd=>?_⟩⟩
   rcases key d hd with g |g<;>omega
omit h in
theorem Uv (l:List Nat) (c:Nat):zl l++ [(c:Int)]=zl (l++ [c]):=by simp [zl]
theorem Sv {F0 P0:List Int} (hF:F0.length=B) (hP:P0.length=B) {K f b from_:Nat} {feed parent:List Int} {ord:List Nat} (hf:f<K) (hff:aL pts f=true) (hb:ord.getD from_ 0=b) (hfr:from_<ord.length) (hfb:Cn (aA ls on) f b) (T:TI B ls on pts K feed parent ord):
 ∃feed' parent' t,cW ls F0 P0 on (f:Int) ((from_:Int),feed,parent,zl ord) aq (0,feed,parent,zl ord)=some (feed',parent',zl (ord++t))∧TI B ls on pts K feed' parent' (ord++t)∧(∀j c,Lk ls on j b c→c∈ord++t)∧ ∀x∈t,Cn (aA ls on) f x:=by
 have hll:=h.net.ll;have hl:=h.len;have hB:=h.net.b1
 have hbo:b∈ord:=by rw [←hb,ai hfr];exact List.getElem_mem hfr
 obtain ⟨s,⟨feed',parent',t,rfl,r1,r2,r3⟩,h2⟩:=uI (cW ls F0 P0 on (f:Int) ((from_:Int),feed,parent,zl ord))
  (fun k s=> ∃feed' parent' t,s=((k:Int),feed',parent',zl (ord++t))∧TI B ls on pts K feed' parent' (ord++t)∧(∀j,j<k→ ∀c,Lk ls on j b c→c∈ord++t)∧ ∀x∈t,Cn (aA ls on) f x) ls.length (fun s=>some (s.2.1,s.2.2.1,s.2.2.2)) (by omega) (by
   rintro k fuel s hk ⟨feed',parent',t,rfl,r1,r2,r3⟩
   rw [oM,eM]
   obtain ⟨z,z1,z2⟩:=LP h (b:=b) hk
   have hget:(zl ord).getD (from_:Int).toNat 0=(b:Int):=by rw [Int.toNat_natCast,rY,hb]
   simp only [az hk,ah hk,ah (show k<on.length by omega),aa,cond_true,Int.toNat_natCast,af (by omega:k<4611686018427387904),rY,hb,z1,Option.bind_some,hF,hP]
   have hlen:=r1.len
   rcases z2 with ⟨rfl,z3⟩ |⟨c,rfl,hcB,z3,z4⟩
   ·have:bc 0 (-1)=false:=rfl
    simp only [this,Bool.and_false,Bool.false_and,Bool.not_false,Bool.true_or,aa,cond_false,Option.bind_some]
    refine ⟨_,⟨feed',parent',t,rfl,r1,fun j hj c hc=>?_,r3⟩,rfl⟩
    by_cases e:j=k
    ·subst e;exact absurd hc (z3 c)
    ·exact r2 j (by omega) c hc
   ·have hge:bc 0 (c:Int)=true:=by simp [bc]
    simp only [hge,ah hcB,Bool.and_true,Bool.or_true,aa,Int.toNat_natCast]
    by_cases hc:on.getD k false=true∧c∉ord++t
    ·have hcf:av (feed'.getD c 0) 0=true:=by
      have: ¬0≤feed'.getD c 0:=fun g=>hc.2 ((r1.mem c hcB).2 g)
      simp only [av,decide_eq_true_eq];omega
     have ha:bw (zl (ord++t)).length ([(c:Int)]:List Int).length=true:=by rw [cf];simp [bw];simp at hlen;omega
     simp only [hc.1,hcf,Bool.and_self,cond_true,ha,aa,Option.bind_some]
     rw [Uv,List.append_assoc]
     have hlk:=z3 hc.1
     refine ⟨_,⟨_,_,t++ [c],rfl,?_,fun j hj d hd=>?_,fun x hx=>?_⟩,rfl⟩
     ·rw [←List.append_assoc]
      exact r1.add hf hff (by simp [hbo]) hfb hlk hcB hc.2
     ·by_cases e:j=k
      ·subst e;rw [z4 d hd];simp
      ·have:=r2 j (by omega) d hd
       rw [←List.append_assoc];exact List.mem_append_left _ this
     ·rcases List.mem_append.1 hx with hx |hx
      ·exact r3 x hx
      ·obtain rfl:x=c:=by simpa using hx
       exact hfb.trans hlk.cn
    ·have hcf:(on.getD k false&&av (feed'.getD c 0) 0)=false:=by
      cases ho:on.getD k false
      ·rfl
      ·have hm:c∈ord++t:=Classical.byContradiction fun hn=>hc ⟨ho,hn⟩
       have:=(r1.mem c hcB).1 hm
       simp only [Bool.true_and,av,decide_eq_false_iff_not];omega
     simp only [hcf,cond_false,Option.bind_some]
     refine ⟨_,⟨feed',parent',t,rfl,r1,fun j hj d hd=>?_,r3⟩,rfl⟩
     by_cases e:j=k
     ·subst e
      rw [z4 d hd]
      exact Classical.byContradiction fun hn=>hc ⟨hd.2.1,hn⟩
     ·exact r2 j (by omega) d hd) (by
   rintro fuel s ⟨feed',parent',t,rfl,r1,r2,r3⟩
   rw [oM,eM];simp only [ak,cond_false]) (0,feed,parent,zl ord) ⟨feed,parent,[],by simp,by simpa using T,fun j hj=>absurd hj (Nat.not_lt_zero _),fun x hx=>by simp at hx⟩
 exact ⟨feed',parent',t,h2,r1,fun j c hc=>r2 j hc.1 c hc,r3⟩
theorem Su {F0 P0:List Int} (hF:F0.length=B) (hP:P0.length=B) {K f n0:Nat} (hf:f<K) (hff:aL pts f=true): ∀(m from_ fuel:Nat) (feed parent:List Int) (ord:List Nat),B≤m+from_→m<fuel→n0≤from_→from_≤ord.length→(∀i,n0≤i→i<ord.length→Cn (aA ls on) f (ord.getD i 0))→Cl ls on ord from_→TI B ls on pts K feed parent ord→
 ∃feed' parent' ord',fu ls F0 P0 on (f:Int) fuel ((from_:Int),feed,parent,zl ord)=some (feed',parent',zl ord')∧TI B ls on pts K feed' parent' ord'∧Cl ls on ord' ord'.length∧ ∀x∈ord,x∈ord':=by
 have hB:=h.net.b1
 intro m
 induction m with
 |zero=>
  intro from_ fuel feed parent ord h1 h2 h3 h4 h5 h6 T
  obtain ⟨g,rfl⟩: ∃g,fuel=g+1:=⟨fuel-1,by omega⟩
  have hlen:=T.len
  have e:from_=ord.length:=by omega
  rw [oK,eL]
  have:av (from_:Int) ((zl ord).length:Int)=false:=by rw [cf,e];exact ak
  simp only [this,cond_false]
  exact ⟨feed,parent,ord,rfl,T,e▸h6,fun x hx=>hx⟩
 |succ m ih=>
  intro from_ fuel feed parent ord h1 h2 h3 h4 h5 h6 T
  obtain ⟨g,rfl⟩: ∃g,fuel=g+1:=⟨fuel-1,by omega⟩
  have hlen:=T.len
  rw [oK,eL]
  by_cases e:from_=ord.length
  ·have:av (from_:Int) ((zl ord).length:Int)=false:=by rw [cf,e];exact ak
   simp only [this,cond_false]
   exact ⟨feed,parent,ord,rfl,T,e▸h6,fun x hx=>hx⟩
  ·have hlt:from_<ord.length:=by omega
   obtain ⟨feed',parent',t,r0,r1,r2,r3⟩:=Sv h hF hP hf hff rfl hlt (h5 from_ h3 hlt) T
   have hlen2:=r1.len
   simp only [cf,az hlt,ah hlt,cond_true,aa,r0,Option.bind_some,af (by omega:from_<4611686018427387904)]
   have hget: ∀i,i<ord.length→(ord++t).getD i 0=ord.getD i 0:=fun i hi=>by simp [List.getD,List.getElem?_append_left hi]
   obtain ⟨feed2,parent2,ord2,s1,s2,s3,s4⟩:=ih (from_+1) g feed' parent' (ord++t) (by omega) (by omega) (by omega) (by simp;omega) (fun i hi1 hi2=>by
    by_cases hi:i<ord.length
    ·rw [hget i hi];exact h5 i hi1 hi
    ·rw [ai hi2,List.getElem_append_right (by omega)]
     exact r3 _ (List.getElem_mem _)) (fun i hi j c hc=>by
    rw [hget i (by omega)] at hc
    by_cases e2:i=from_
    ·subst e2;exact r2 j c hc
    ·exact List.mem_append_left _ (h6 i (by omega) j c hc)) r1
   exact ⟨feed2,parent2,ord2,s1,s2,s3,fun x hx=>s4 x (by simp [hx])⟩
theorem Vv {K:Nat} {feed parent:List Int} {ord:List Nat} (hK:K<B) (hff:aL pts K=true) (hn:K∉ord) (hcl:Cl ls on ord ord.length) (T:TI B ls on pts K feed parent ord) (y:Int):
 ∃feed' parent' ord',jy y ls (feed.set K (K:Int)) parent (zl ord) on (K:Int)=some (y,feed',parent',zl ord')∧TI B ls on pts (K+1) feed' parent' ord'∧Cl ls on ord' ord'.length∧ ∀x∈ord++ [K],x∈ord':=by
 have hB:=h.net.b1
 have hlen:=T.len
 have T2:=T.start hK hff hn
 obtain ⟨feed',parent',ord',h1,h2,h3,h4⟩:=Su h (F0:=feed.set K (K:Int)) (P0:=parent) T2.lf T2.lp (K:=K+1) (f:=K) (n0:=ord.length) (by omega) hff B ord.length aq (feed.set K (K:Int)) parent (ord++ [K]) (by omega) (pn (by omega)) (by omega) (by simp) (fun i hi1 hi2=>by
  have:i=ord.length:=by simp at hi2;omega
  subst this
  rw [ai hi2];simp;exact .refl _) (fun i hi j c hc=>by
  have:(ord++ [K]).getD i 0=ord.getD i 0:=by simp [List.getD,List.getElem?_append_left hi]
  rw [this] at hc
  exact List.mem_append_left _ (hcl i hi j c hc)) T2
 refine ⟨feed',parent',ord',?_,h2,h3,h4⟩
 unfold jy
 have ha:bw (zl ord).length ([(K:Int)]:List Int).length=true:=by rw [cf];simp [bw];omega
 rw [ha,aa,Uv,cf,h1];rfl
end
structure TreeOk (ls:List Ln) (on:List Bool) (pts:List (Int×Int)) (feed parent:List Int) (ord:List Nat):Prop where
 lf:feed.length=pts.length
 lp:parent.length=pts.length
 nd:ord.Nodup
 mem: ∀b,b∈ord↔b<pts.length∧ia (aA ls on) pts b=true
 fd: ∀b f,b<pts.length→(feed.getD b 0=((f:Nat):Int)↔aL pts f=true∧Cn (aA ls on) f b)
 par:Par ls on pts (fun b=>parent.getD b (-1)) (fun b=>ord.idxOf b)
theorem TI.tree {ls:List Ln} {on:List Bool} {pts:List (Int×Int)} {feed parent:List Int} {ord:List Nat} (T:TI pts.length ls on pts pts.length feed parent ord) (hcl:Cl ls on ord ord.length) (hnj: ∀f g,aL pts f=true→aL pts g=true→Cn (aA ls on) f g→f=g):TreeOk ls on pts feed parent ord:=by
 have hmem: ∀b,b∈ord↔b<pts.length∧ia (aA ls on) pts b=true:=by
  intro b
  constructor
  ·intro hb
   obtain ⟨g,h1,h2,_,h3⟩:=T.snd b hb
   exact ⟨T.lt b hb,mq.2 ⟨g,h2,h3⟩⟩
  ·rintro ⟨hb,hf⟩
   obtain ⟨f,h1,h2⟩:=mq.1 hf
   exact hcl.mem rfl (T.own f (pR h1) h1).1 h2
 have hd: ∀b,b<pts.length→parent.getD b (-1)=parent.getD b 0:=fun b hb=>by rw [ai (by rw [T.lp];exact hb),ai (by rw [T.lp];exact hb)]
 refine ⟨T.lf,T.lp,T.nd,hmem,fun b f hb=>?_,⟨fun b hb hf=>?_,fun b hb=>?_,fun b hb=>?_⟩⟩
 ·constructor
  ·intro e
   obtain ⟨g,h1,h2,h3,h4⟩:=T.snd b ((T.mem b hb).2 (by rw [e];omega))
   have:f=g:=by rw [e] at h3;omega
   subst this;exact ⟨h2,h4⟩
  ·rintro ⟨h1,h2⟩
   obtain ⟨g,g1,g2,g3,g4⟩:=T.snd b ((hmem b).2 ⟨hb,mq.2 ⟨f,h1,h2⟩⟩)
   rw [g3,hnj f g h1 g2 (h2.trans g4.symm)]
 ·rw [hd b hb]
  rcases T.par b ((hmem b).2 ⟨hb,hf⟩) with g |⟨j,c,g,_⟩
  ·exact .inl g.1
  ·exact .inr (by rw [g];omega)
 ·have hlt:=pR hb
  rw [hd b hlt,(T.own b hlt hb).2];omega
 ·have hlt:b<pts.length:=by
   rcases Nat.lt_or_ge b pts.length with h1 |h1
   ·exact h1
   ·rw [List.getD_eq_getElem?_getD,List.getElem?_eq_none (by rw [T.lp];exact h1)] at hb;simp at hb
  rw [hd b hlt] at hb ⊢
  have hbo:b∈ord:=Classical.byContradiction fun hn=>by rw [T.out b hlt hn] at hb;omega
  rcases T.par b hbo with g |⟨j,c,g1,g2,g3,g4⟩
  ·rw [(T.own b g.2 g.1).2] at hb;omega
  ·rw [g1]
   exact ⟨c,by simpa using g2,T.lt c g3,((hmem c).1 g3).2,g4⟩
theorem abs {pts:List (Int×Int)} {b:Int} {ls:List Ln} (h:BusOk b ls pts) {k:Nat} (hk:k<pts.length):((pts.getD k (0,0)).1==0)= !aL pts k:=by
 have:=(h.bs k hk).1
 unfold aL
 rw [Bool.eq_iff_iff];simp only [beq_iff_eq,Bool.not_eq_true',decide_eq_false_iff_not];omega
theorem SB (b:Int) (ls:List Ln) (on:List Bool) (pts:List (Int×Int)) (hp:pts.length≤1048576):
 ∃r,kf b ls on pts=some r∧r.2.2.2.2.2=uQ b ls on pts∧(uQ b ls on pts=true→r.1=b∧r.2.1=true∧ ∃ord,r.2.2.2.2.1=zl ord∧TreeOk ls on pts r.2.2.1 r.2.2.2.1 ord):=by
 unfold kf uQ
 rw [Vu b ls pts hp,Option.bind_some]
 cases hv:LK b ls on pts
 ·exact ⟨_,rfl,rfl,fun e=>by cases e⟩
 obtain ⟨h1,h2⟩:=fG.1 hv
 have hlp:=h2.lp
 subst hlp
 rw [adx h1]
 simp only [Bool.not_true,Bool.not_false,cw,Option.bind_some,Bool.false_or,Bool.true_and]
 unfold kW
 rw [←Xz h1.len]
 cases hc:MV ls on
 case true=>exact ⟨_,rfl,rfl,fun e=>by cases e⟩
 have hB:=h1.net.b1
 have hm:yk (pts.length:Int)=true:=by simp [yk];omega
 simp only [cond_false,hm,aa,Int.toNat_natCast,Bool.not_false,Bool.true_and]
 have hl1:iV (pts.length:Int) aq (0,List.replicate pts.length 0,List.replicate pts.length 0)=some (List.replicate pts.length (-1),List.replicate pts.length (-1)):=by
  have hh:=aC (iV (pts.length:Int)) (fun k=>((k:Int),List.replicate k (-1)++List.replicate (pts.length-k) 0,List.replicate k (-1)++List.replicate (pts.length-k) 0)) pts.length (some (List.replicate pts.length (-1),List.replicate pts.length (-1))) (by omega) (fun k fuel hk=>?_) (fun fuel=>?_)
  ·simpa using hh
  ·rw [tZ,kD]
   simp only [az hk,Int.toNat_natCast,ah hk,cond_true,aa,af (by omega:k<4611686018427387904)]
   have e:(List.replicate k (-1:Int)++List.replicate (pts.length-k) 0).set k (-1)=List.replicate (k+1) (-1)++List.replicate (pts.length-(k+1)) 0:=by
    rw [List.set_append_right _ _ (by simp),List.length_replicate,Nat.sub_self,show pts.length-k=(pts.length-(k+1))+1 by omega,List.replicate_succ,List.set_cons_zero,List.replicate_succ',List.append_assoc];rfl
   rw [e]
  ·rw [tZ,kD]
   simp only [ak,cond_false,Nat.sub_self,List.replicate_zero,List.append_nil]
 rw [hl1,Option.bind_some]
 have hget: ∀k,k<pts.length→(List.replicate pts.length (-1:Int)).getD k 0= -1:=fun k hk=>by simp [List.getD,hk]
 have hT0:TI pts.length ls on pts 0 (List.replicate pts.length (-1)) (List.replicate pts.length (-1)) []:=
  ⟨by simp,by simp,by simp,fun b hb=>by simp at hb,fun b hb=>by rw [hget b hb];simp,fun b hb=>by simp at hb,fun g hg=>absurd hg (Nat.not_lt_zero _),fun b hb _=>hget b hb,fun b hb=>by simp at hb⟩
 have hh:=Ql (lP ls on pts) (fun k s=> ∃feed parent ord,s=((k:Int),(pts.length:Int),feed,parent,zl ord)∧TI pts.length ls on pts k feed parent ord∧Cl ls on ord ord.length∧ ∀f g,f<k→g<k→aL pts f=true→aL pts g=true→Cn (aA ls on) f g→f=g) pts.length
  (NZ (aA ls on) pts=true) (some (Sum.inr (0,false,([]:List Int),([]:List Int),([]:List Int),false))) (fun s=>some (Sum.inl (s.2.1,s.2.2.1,s.2.2.2.1,s.2.2.2.2))) (by omega) ?_ ?_ (0,(pts.length:Int),List.replicate pts.length (-1),List.replicate pts.length (-1),([]:List Int)) ⟨_,_,[],rfl,hT0,fun i hi=>absurd hi (Nat.not_lt_zero _),fun f g hf=>absurd hf (Nat.not_lt_zero _)⟩
 ·rcases hh with ⟨x1,x2⟩ |⟨s,⟨feed,parent,ord,rfl,t1,t2,t3⟩,x2⟩
  ·rw [x2,x1]
   exact ⟨_,rfl,rfl,fun e=>by cases e⟩
  ·rw [x2]
   have hnj: ∀f g,aL pts f=true→aL pts g=true→Cn (aA ls on) f g→f=g:=fun f g hf hg=>t3 f g (pR hf) (pR hg) hf hg
   rw [Hr.2 hnj]
   exact ⟨_,rfl,rfl,fun _=>⟨rfl,rfl,ord,rfl,t1.tree t2 hnj⟩⟩
 ·rintro k fuel s hk ⟨feed,parent,ord,rfl,t1,t2,t3⟩
  rw [ua,kE]
  simp only [az hk,ah hk,cond_true,aa,Int.toNat_natCast,af (by omega:k<4611686018427387904),abs h2 hk]
  cases hf:aL pts k
  ·right
   simp only [Bool.not_false,cond_true,Option.bind_some,Sum.elim_inl]
   refine ⟨_,⟨feed,parent,ord,rfl,t1.skip hf,t2,fun f g hfk hgk hff hgf=>?_⟩,rfl⟩
   have e1:f≠k:=fun e=>by rw [e,hf] at hff;cases hff
   have e2:g≠k:=fun e=>by rw [e,hf] at hgf;cases hgf
   exact t3 f g (by omega) (by omega) hff hgf
  ·have hx:aB (k:Int) feed.length=true:=by rw [t1.lf];exact ah hk
   simp only [Bool.not_true,cond_false,hx,aa]
   by_cases hko:k∈ord
   ·left
    have h0:=(t1.mem k hk).1 hko
    have:bc 0 (feed.getD k 0)=true:=by simpa [bc] using h0
    simp only [this,cond_true,Option.bind_some,Sum.elim_inr]
    refine ⟨?_,trivial⟩
    obtain ⟨g,g1,g2,_,g4⟩:=t1.snd k hko
    cases htw:NZ (aA ls on) pts
    ·have:=Hr.1 htw g k g2 hf g4;omega
    ·rfl
   ·right
    have h0: ¬0≤feed.getD k 0:=fun g=>hko ((t1.mem k hk).2 g)
    have:bc 0 (feed.getD k 0)=false:=by simp only [bc,decide_eq_false_iff_not];exact h0
    obtain ⟨feed',parent',ord',s1,s2,s3,s4⟩:=Vv h1 hk hf hko t2 t1 (pts.length:Int)
    simp only [this,cond_false,s1,Option.bind_some,Sum.elim_inl]
    refine ⟨_,⟨feed',parent',ord',rfl,s2,s3,fun f g hfk hgk hff hgf hcn=>?_⟩,rfl⟩
    have key: ∀a,a<k→aL pts a=true→ ¬Cn (aA ls on) a k:=fun a ha hfa hcn=>hko (t2.mem rfl (t1.own a ha hfa).1 hcn)
    by_cases e1:f=k
    ·by_cases e2:g=k
     ·omega
     ·exact absurd (e1▸hcn).symm (key g (by omega) hgf)
    ·by_cases e2:g=k
     ·exact absurd (e2▸hcn) (key f (by omega) hff)
     ·exact t3 f g (by omega) (by omega) hff hgf hcn
 ·rintro fuel s ⟨feed,parent,ord,rfl,t1,t2,t3⟩
  rw [ua,kE];simp only [ak,cond_false]
theorem OJ (b:Int) (ls:List Ln) (on:List Bool) (pts:List (Int×Int)) (hp:pts.length≤1048576):ie b ls on pts=some (uQ b ls on pts):=by
 obtain ⟨r,h1,h2,_⟩:=SB b ls on pts hp
 unfold ie
 rw [h1,Option.bind_some,h2]
theorem FD (b:Int) (ls:List Ln) (on:List Bool) (pts:List (Int×Int)) (hp:pts.length≤1048576):eR b ls on pts=some (uQ b ls on pts):=by
 unfold eR uQ
 rw [QI b ls pts hp,Option.bind_some]
 cases hv:LK b ls on pts
 ·rfl
 obtain ⟨h1,h2⟩:=fG.1 hv
 have hlp:=h2.lp
 subst hlp
 have hB:=h1.net.b1
 rw [adH h1]
 simp only [Bool.not_true,Bool.not_false,cw,Option.bind_some,Bool.false_or,Bool.true_and]
 unfold kW
 cases hc:MW ls on
 case true=>rfl
 simp only [cond_false,Bool.not_false,Bool.true_and]
 have hh:=cc (iZ (pts.length:Int) ls on pts) (fun k=>(k:Int)) pts.length (fun k=>(List.range k).any fun j=>aL pts k&&aL pts j&&aW (aA ls on) j==aW (aA ls on) k) (some (.inr false)) (some (.inl ())) (by omega) (fun k fuel hk=>?_) (fun fuel=>?_)
 ·rw [show iZ (pts.length:Int) ls on pts aq 0=_ from hh]
  show _=some (!NZ (aA ls on) pts)
  unfold NZ
  cases (List.range pts.length).any _<;>rfl
 ·rw [ub,kM]
  have h3:=cc (ja (pts.length:Int) ls on pts (k:Int)) (fun j=>(j:Int)) k (fun j=>aL pts k&&aL pts j&&aW (aA ls on) j==aW (aA ls on) k) (some (.inr false)) (some (.inl ())) (by omega) (fun j fuel hj=>?_) (fun fuel=>?_)
  ·simp only [az hk,cond_true,af (by omega:k<4611686018427387904)]
   rw [show ja (pts.length:Int) ls on pts (k:Int) aq 0=_ from h3]
   cases (List.range k).any _<;>rfl
  ·rw [uc,kN]
   have hj2:j<pts.length:=by omega
   simp only [az hj,ah hk,ah hj2,cond_true,aa,Bool.or_true,Int.toNat_natCast,af (by omega:j<4611686018427387904),Xe h1 hj2 hk]
   rw [show av 0 (pts.getD k (0,0)).1=aL pts k from rfl,show av 0 (pts.getD j (0,0)).1=aL pts j from rfl]
   cases aL pts k<;>cases aL pts j<;>cases aW (aA ls on) j==aW (aA ls on) k<;>rfl
  ·rw [uc,kN];simp only [ak,cond_false]
 ·rw [ub,kM];simp only [ak,cond_false]
theorem nq {Out:Type} (L:Nat→(List Int×Int)→Option Out) (n:Nat) (p:Nat→Bool) (yg:List Int→Option Out) (hn:n≤1099511627775) (hstep: ∀k fuel (l:List Int),k<n→bw l.length ([(k:Int)]:List Int).length=true→L (fuel+1) (l,(k:Int))=L fuel (bif p k then l++ [(k:Int)] else l,((k+1:Nat):Int)))
 (hend: ∀fuel (l:List Int),L (fuel+1) (l,(n:Int))=yg l):L aq (([]:List Int),0)=yg (zl ((List.range n).filter p)):=by
 have hh:=aC L (fun k=>(zl ((List.range k).filter p),(k:Int))) n (yg (zl ((List.range n).filter p))) (by omega) (fun k fuel hk=>?_) (fun fuel=>hend fuel _)
 ·exact hh
 ·have hl:=List.length_filter_le p (List.range k)
  rw [List.length_range] at hl
  rw [hstep k fuel _ hk (by rw [cf];simp [bw];omega),List.range_succ,List.filter_append,List.filter_cons,List.filter_nil]
  congr 2
  cases p k<;>simp [zl]
theorem NU (l:List Nat) (p:Nat→Bool) (f:Nat→Int):((l.filter p).map f).sum=(l.map fun c=>if p c=true then f c else 0).sum:=by
 induction l with
 |nil=>rfl
 |cons x l ih=>
  rw [List.filter_cons,List.map_cons,List.sum_cons,←ih]
  split
  ·rename_i h;rw [List.map_cons,List.sum_cons]
  ·rename_i h;omega
def mm (E:Ed) (pts:List (Int×Int)) (f:Int×Int→Int) (k j:Nat):Int:=((List.range k).map fun c=>if aW E c=j then f (pts.getD c (0,0)) else 0).sum
theorem Ub (E:Ed) (pts:List (Int×Int)) (f:Int×Int→Int) (j:Nat):mm E pts f 0 j=0:=rfl
theorem Km (E:Ed) (pts:List (Int×Int)) (f:Int×Int→Int) (k j:Nat):mm E pts f (k+1) j=mm E pts f k j+(if aW E k=j then f (pts.getD k (0,0)) else 0):=by
 unfold mm
 rw [List.range_succ,List.map_append,List.sum_append];simp
theorem NT (E:Ed) (pts:List (Int×Int)) (f:Int×Int→Int) (b:Nat):di E pts f b=mm E pts f pts.length (aW E b):=rfl
theorem vu (E:Ed) (pts:List (Int×Int)) (f:Int×Int→Int) (hf: ∀c,c<pts.length→0≤f (pts.getD c (0,0))∧f (pts.getD c (0,0))≤999) (j:Nat): ∀k,k≤pts.length→0≤mm E pts f k j∧mm E pts f k j≤999*k
 |0,_=>by rw [Ub];omega
 |k+1,hk=>by
  have ih:=vu E pts f hf j k (by omega)
  have:=hf k (by omega)
  rw [Km]
  split<;>omega
theorem XR (S:Nat→Int) {r:Nat} (hr:r<8):([S 0,S 1,S 2,S 3,S 4,S 5,S 6,S 7]:List Int).getD r 0=S r:=by
 match r,hr with
 |0,_=>rfl
 |1,_=>rfl
 |2,_=>rfl
 |3,_=>rfl
 |4,_=>rfl
 |5,_=>rfl
 |6,_=>rfl
 |7,_=>rfl
theorem yo {S T:Nat→Int} {r j:Nat} {z x y:Int} (hT:T j=S j+(if r=j then x else 0)) (hz:z=(j:Int)) (hy:y=S r+x):(bif ((r:Nat):Int)==z then y else S j)=T j:=by
 subst hz
 rw [hT,hy]
 by_cases h:r=j
 ·subst h;simp
 ·have:(((r:Nat):Int)==((j:Nat):Int))=false:=by rw [beq_eq_false_iff_ne];omega
  rw [this,if_neg h];simp
abbrev T16:=Int×Int×Int×Int×Int×Int×Int×Int×Int×Int×Int×Int×Int×Int×Int×Int
def Ue (S T:Nat→Int):T16:=(S 0,S 1,S 2,S 3,S 4,S 5,S 6,S 7,T 0,T 1,T 2,T 3,T 4,T 5,T 6,T 7)
section
variable {b:Int} {ls:List Ln} {on:List Bool} (h:StOk b ls on)
include h
theorem SC: ∃u,lr b ls on=some (zl u)∧UR u b.toNat (aW (aA ls on)):=by
 have hb:=h.net.b0;have hb1:=h.net.b1;have hll:=h.net.ll;have hl:=h.len
 obtain ⟨B,rfl⟩: ∃B:Nat,b=(B:Int):=⟨b.toNat,by omega⟩
 obtain ⟨n1,n2⟩:=abI (B:=B) (by omega)
 obtain ⟨s,⟨u,rfl,hu⟩,h2⟩:=uI (kH ls on) (fun k s=> ∃u,s=(zl u,(k:Int))∧UR u B (aW (uO ((ls.zip on).take k)))) ls.length (fun s=>some s.1) (by omega) (by
  rintro k fuel s hk ⟨u,rfl,hu⟩
  rw [sC,jA]
  have hln:=xi (h.net.ln k hk)
  simp only [Int.toNat_natCast] at hln
  simp only [az hk,ah hk,ah (show k<on.length by omega),aa,cond_true,Int.toNat_natCast,af (by omega:k<4611686018427387904)]
  rw [hln.1,hln.2.1]
  cases ho:on.getD k false
  ·refine ⟨_,⟨u,rfl,?_⟩,rfl⟩
   rw [vA h hk,ho];exact hu
  ·obtain ⟨x,j1,j2⟩:=WM hu (by omega) hln.2.2.1 hln.2.2.2
   simp only [cond_true,j1,Option.bind_some]
   refine ⟨_,⟨x,rfl,?_⟩,rfl⟩
   rw [vA h hk,ho,if_pos rfl,xO];exact j2) (by
  rintro fuel s ⟨u,rfl,hu⟩
  rw [sC,jA];simp only [ak,cond_false]) (zl (List.range B),0) ⟨_,rfl,n2⟩
 refine ⟨u,?_,?_⟩
 ·unfold lr
  rw [n1,Option.bind_some,h2];rfl
 ·rw [Kq h] at hu
  simpa using hu
variable {pts:List (Int×Int)} (hB:BusOk b ls pts)
include hB
omit h in
theorem Id:pts.length≤8∧b.toNat=pts.length:=by have:=hB.net.b1;have:=hB.lp;omega
set_option maxHeartbeats 1000000 in
theorem WO:mt b ls on pts=some (Ue (mm (aA ls on) pts (·.1) pts.length) (mm (aA ls on) pts (·.2) pts.length)):=by
 obtain ⟨u,u1,u2⟩:=SC h
 obtain ⟨b1,b2⟩:=Id hB
 rw [b2] at u2
 unfold mt
 rw [u1,Option.bind_some]
 have hf1: ∀c,c<pts.length→0≤(pts.getD c (0,0)).1∧(pts.getD c (0,0)).1≤999:=fun c hc=>(hB.bs c hc).1
 have hf2: ∀c,c<pts.length→0≤(pts.getD c (0,0)).2∧(pts.getD c (0,0)).2≤999:=fun c hc=>(hB.bs c hc).2
 obtain ⟨s,⟨v,rfl,hv⟩,h2⟩:=uI (iU pts) (fun k s=> ∃v,s=(zl v,(k:Int),Ue (mm (aA ls on) pts (·.1) k) (mm (aA ls on) pts (·.2) k))∧UR v pts.length (aW (aA ls on))) pts.length (fun s=>some s.2.2) (by omega) (by
  rintro k fuel s hk ⟨v,rfl,hv⟩
  rw [tY,kC]
  obtain ⟨x,x1,x2⟩:=DZ hv (by omega) hk
  have hr:aW (aA ls on) k<8:=by have:=hv.le hk;omega
  have k1:=vu (aA ls on) pts (·.1) hf1 (aW (aA ls on) k) k (by omega)
  have k2:=vu (aA ls on) pts (·.2) hf2 (aW (aA ls on) k) k (by omega)
  have p1:=hf1 k hk
  have p2:=hf2 k hk
  have w1:ax (mm (aA ls on) pts (·.1) k (aW (aA ls on) k)+(pts.getD k (0,0)).1)=mm (aA ls on) pts (·.1) k (aW (aA ls on) k)+(pts.getD k (0,0)).1:=aP (by omega) (by omega)
  have w2:ax (mm (aA ls on) pts (·.2) k (aW (aA ls on) k)+(pts.getD k (0,0)).2)=mm (aA ls on) pts (·.2) k (aW (aA ls on) k)+(pts.getD k (0,0)).2:=aP (by omega) (by omega)
  dsimp only [Ue]
  simp only [az hk,ah hk,aa,cond_true,Int.toNat_natCast,af (by omega:k<4611686018427387904),x1,Option.bind_some,ah hr,XR _ hr,w1,w2]
  have s1:=fun j=>Km (aA ls on) pts (·.1) k j
  have s2:=fun j=>Km (aA ls on) pts (·.2) k j
  refine ⟨(zl x,((k+1:Nat):Int),Ue (mm (aA ls on) pts (·.1) (k+1)) (mm (aA ls on) pts (·.2) (k+1))),⟨x,rfl,x2⟩,?_⟩
  dsimp only [Ue]
  rw [yo (s1 0) (show (0:Int)=((0:Nat):Int) from rfl) rfl,yo (s1 1) (show (1:Int)=((1:Nat):Int) from rfl) rfl,yo (s1 2) (show (2:Int)=((2:Nat):Int) from rfl) rfl,yo (s1 3) (show (3:Int)=((3:Nat):Int) from rfl) rfl,
   yo (s1 4) (show (4:Int)=((4:Nat):Int) from rfl) rfl,yo (s1 5) (show (5:Int)=((5:Nat):Int) from rfl) rfl,yo (s1 6) (show (6:Int)=((6:Nat):Int) from rfl) rfl,yo (s1 7) (show (7:Int)=((7:Nat):Int) from rfl) rfl,
   yo (s2 0) (show (0:Int)=((0:Nat):Int) from rfl) rfl,yo (s2 1) (show (1:Int)=((1:Nat):Int) from rfl) rfl,yo (s2 2) (show (2:Int)=((2:Nat):Int) from rfl) rfl,yo (s2 3) (show (3:Int)=((3:Nat):Int) from rfl) rfl,
   yo (s2 4) (show (4:Int)=((4:Nat):Int) from rfl) rfl,yo (s2 5) (show (5:Int)=((5:Nat):Int) from rfl) rfl,yo (s2 6) (show (6:Int)=((6:Nat):Int) from rfl) rfl,yo (s2 7) (show (7:Int)=((7:Nat):Int) from rfl) rfl]) (by
  rintro fuel s ⟨v,rfl,hv⟩
  rw [tY,kC];simp only [ak,cond_false]) (zl u,0,Ue (fun _=>0) (fun _=>0)) ⟨u,rfl,u2⟩
 rw [show iU pts aq (zl u,0,0,0,0,0,0,0,0,0,0,0,0,0,0,0,0,0)=_ from h2]
 rfl
end
theorem IL {E:Ed} {pts:List (Int×Int)} {b:Nat} (f:Int×Int→Int):((qf E pts.length b).map fun c=>f (pts.getD c (0,0))).sum=di E pts f b:=by
 unfold qf di
 rw [NU]
 refine pY fun c hc=>?_
 by_cases h:aW E c=aW E b
 ·rw [if_pos (by rw [h];simp),if_pos h]
 ·rw [if_neg (by simpa using Ne.symm h),if_neg h]
theorem yG {l:List Nat} {f:Nat→Int} {k:Nat} (hk:k<l.length):((l.take (k+1)).map f).sum=((l.take k).map f).sum+f (l.getD k 0):=by
 rw [List.take_succ_eq_append_getElem hk,List.map_append,List.sum_append,ai hk];simp
theorem PJ (l:List Nat) (f:Nat→Int) (hf: ∀c∈l,0≤f c∧f c≤999):0≤(l.map f).sum∧(l.map f).sum≤999*l.length:=by
 induction l with
 |nil=>simp
 |cons x l ih=>
  have h1:=ih fun c hc=>hf c (by simp [hc])
  have h2:=hf x (by simp)
  simp only [List.map_cons,List.sum_cons,List.length_cons]
  omega
section
variable {ls:List Ln} {on:List Bool} {pts:List (Int×Int)} (h1:StOk (pts.length:Int) ls on) (h2:BusOk (pts.length:Int) ls pts)
include h1 h2
theorem Mn {k:Nat} (hk:k<pts.length):gF (pts.length:Int) ls on pts (k:Int)=some (di (aA ls on) pts (·.1) k):=by
 have hB:=h1.net.b1
 unfold gF aw
 have w1:ax ((pts.length:Int)-1)=(pts.length:Int)-1:=aP (by omega) (by omega)
 have c1:(bc 0 (k:Int)&&bc (k:Int) ((pts.length:Int)-1))=true:=by simp [bc];omega
 rw [QI _ ls pts (by omega),fG.2 ⟨h1,h2⟩,Option.bind_some,w1,c1]
 simp only [Bool.not_true,Bool.not_false,cw,Option.bind_some,Bool.or_self,cond_false,Hk h1 hk]
 rw [←IL]
 have hl:=yU (aA ls on) pts.length k
 have hm: ∀c∈qf (aA ls on) pts.length k,c<pts.length:=fun c hc=>by have:=(List.mem_filter.1 hc).1;simpa using this
 generalize qf (aA ls on) pts.length k=l at*
 have hh:=aC (dA pts (zl l)) (fun j=>(((l.take j).map fun c=>(pts.getD c (0,0)).1).sum,(j:Int))) l.length (some ((l.map fun c=>(pts.getD c (0,0)).1).sum)) (by omega) (fun j fuel hj=>?_) (fun fuel=>?_)
 ·rw [show dA pts (zl l) aq (0,0)=_ from hh];rfl
 ·rw [pL,fA]
  have hc:l.getD j 0<pts.length:=hm _ (by rw [ai hj];exact List.getElem_mem hj)
  have hb:=PJ (l.take j) (fun c=>(pts.getD c (0,0)).1) (fun c hc=>(h2.bs c (hm c (List.mem_of_mem_take hc))).1)
  have hlen:(l.take j).length=j:=by rw [List.length_take];omega
  have hx:=(h2.bs _ hc).1
  rw [hlen] at hb
  have w2:ax (((l.take j).map fun c=>(pts.getD c (0,0)).1).sum+(pts.getD (l.getD j 0) (0,0)).1)=((l.take j).map fun c=>(pts.getD c (0,0)).1).sum+(pts.getD (l.getD j 0) (0,0)).1:=aP (by omega) (by omega)
  simp only [cf,az hj,ah hj,cond_true,aa,Int.toNat_natCast,rY,ah hc,w2,af (by omega:j<4611686018427387904)]
  rw [yG hj]
 ·rw [pL,fA];simp only [cf,ak,cond_false,List.take_length]
end
def tB (E:Ed) (pts:List (Int×Int)):List Nat:=(List.range pts.length).filter fun b=>av 0 (di E pts (·.1) b)
theorem XV (b:Int) (ls:List Ln) (on:List Bool) (pts:List (Int×Int)) (hp:pts.length≤1048576):kw b ls on pts=some (if LK b ls on pts then zl (tB (aA ls on) pts) else []):=by
 unfold kw
 rw [Vu b ls pts hp,Option.bind_some]
 cases hv:LK b ls on pts
 ·rfl
 obtain ⟨h1,h2⟩:=fG.1 hv
 obtain ⟨b1,b2⟩:=Id h2
 obtain ⟨u,u1,u2⟩:=SC h1
 rw [b2] at u2
 simp only [cond_true,u1,Option.bind_some,WO h1 h2,if_true]
 obtain ⟨s,⟨v,rfl,hv⟩,hh⟩:=uI (fS pts (Ue (mm (aA ls on) pts (·.1) pts.length) (mm (aA ls on) pts (·.2) pts.length))) (fun k s=> ∃v,s=(zl v,zl ((List.range k).filter fun b=>av 0 (di (aA ls on) pts (·.1) b)),(k:Int))∧UR v pts.length (aW (aA ls on))) pts.length (fun s=>some s.2.1) (by omega) (by
  rintro k fuel s hk ⟨v,rfl,hv⟩
  rw [pB,fk]
  obtain ⟨x,x1,x2⟩:=DZ hv (by omega) hk
  have hr:aW (aA ls on) k<8:=by have:=hv.le hk;omega
  have hl:=List.length_filter_le (fun b=>av 0 (di (aA ls on) pts (·.1) b)) (List.range k)
  rw [List.length_range] at hl
  have ha:bw (zl ((List.range k).filter fun b=>av 0 (di (aA ls on) pts (·.1) b))).length ([(k:Int)]:List Int).length=true:=by rw [cf];simp [bw];omega
  dsimp only [Ue]
  simp only [az hk,cond_true,Int.toNat_natCast,af (by omega:k<4611686018427387904),x1,Option.bind_some,ah hr,aa,XR _ hr,ha]
  refine ⟨_,⟨x,rfl,x2⟩,?_⟩
  rw [List.range_succ,List.filter_append,List.filter_cons,List.filter_nil,NT]
  cases hc:av 0 (mm (aA ls on) pts (·.1) pts.length (aW (aA ls on) k))
  ·simp
  ·simp [zl]) (by
  rintro fuel s ⟨v,rfl,hv⟩
  rw [pB,fk];simp only [ak,cond_false]) (zl u,([]:List Int),0) ⟨u,rfl,u2⟩
 rw [hh];rfl
section
variable {ls:List Ln} {on:List Bool} {pts:List (Int×Int)} (h1:StOk (pts.length:Int) ls on) (h2:BusOk (pts.length:Int) ls pts)
include h1 h2
theorem YY:kK (pts.length:Int) ls on pts=some (zl (tB (aA ls on) pts)):=by
 have hB:=h1.net.b1
 unfold kK
 have hh:=nq (gy (pts.length:Int) ls on pts) pts.length (fun b=>av 0 (di (aA ls on) pts (·.1) b)) some (by omega) (fun k fuel l hk ha=>?_) (fun fuel l=>?_)
 ·rw [hh];rfl
 ·rw [pI,fx,QI _ ls pts (by omega),fG.2 ⟨h1,h2⟩]
  simp only [az hk,cw,Option.bind_some,Bool.and_self,cond_true,Mn h1 h2 hk,ha,aa,af (by omega:k<4611686018427387904)]
  cases av 0 (di (aA ls on) pts (·.1) k)<;>rfl
 ·rw [pI,fx];simp only [ak,pS,Option.bind_some,Bool.false_and,cond_false]
end
section
variable (l:Pm) (a b:Int) (hn:l.length≤1099511627776)
include hn
theorem TK:jf l a b=some (Rg l (a,b)):=by
 unfold jf Rg
 have h:=yP (gQ l a b) (fun k=>(k:Int)) l.length (fun k=>(l.getD k (0,0)).1==a&&(l.getD k (0,0)).2==b) (fun k=>some (.inr (k:Int))) (some (.inl ())) hn (fun k fuel hk=>by
  rw [sL,jM]
  simp only [az hk,ah hk,aa,cond_true,Int.toNat_natCast,af (by omega:k<4611686018427387904)]) (fun fuel=>by rw [sL,jM];simp only [ak,cond_false])
 rw [show gQ l a b aq 0=_ from h]
 cases (List.range l.length).find? (fun k=>(l.getD k (0,0)).1==a&&(l.getD k (0,0)).2==b)<;>rfl
theorem WL:aR l a b=some (Rg l (a,b)):=by
 unfold aR Rg
 have h:=yP (aK l a b) (fun k=>(k:Int)) l.length (fun k=>(l.getD k (0,0)).1==a&&(l.getD k (0,0)).2==b) (fun k=>some (.inr (k:Int))) (some (.inl ())) hn (fun k fuel hk=>by
  rw [cS,aX]
  simp only [az hk,ah hk,aa,cond_true,Int.toNat_natCast,af (by omega:k<4611686018427387904)]
  rw [show (a==(l.getD k (0,0)).1)=((l.getD k (0,0)).1==a) from Bool.beq_comm ..,show (b==(l.getD k (0,0)).2)=((l.getD k (0,0)).2==b) from Bool.beq_comm ..]) (fun fuel=>by rw [cS,aX];simp only [ak,cond_false])
 rw [show aK l a b aq 0=_ from h]
 cases (List.range l.length).find? (fun k=>(l.getD k (0,0)).1==a&&(l.getD k (0,0)).2==b)<;>rfl
theorem XX:aE l a b=some (decide ((a,b)∈l)):=by
 unfold aE
 rw [WL l a b hn,Option.bind_some,Jt]
end
section
variable (on earth:List Bool) (pm:Pm) (ho:on.length≤1048576) (hp:pm.length≤1048576) (hl:earth.length=on.length)
include ho hl
theorem sV1:ez on earth aq 0=bif (List.range on.length).any (fun k=>on.getD k false&&earth.getD k false) then some (.inr false) else some (.inl ()):=by
 have h:=cc (ez on earth) (fun k=>(k:Int)) on.length (fun k=>on.getD k false&&earth.getD k false) (some (.inr false)) (some (.inl ())) (by omega) (fun k fuel hk=>?_) (fun fuel=>?_)
 ·exact h
 ·rw [qE,gN]
  simp only [az hk,ah hk,ah (show k<earth.length by omega),aa,cond_true,Int.toNat_natCast,Bool.or_true,af (by omega:k<4611686018427387904)]
 ·rw [qE,gN];simp only [ak,cond_false]
theorem iV1:eh on earth aq 0=bif (List.range on.length).any (fun k=>on.getD k false&&earth.getD k false) then some (.inr false) else some (.inl ()):=by
 have h:=cc (eh on earth) (fun k=>(k:Int)) on.length (fun k=>on.getD k false&&earth.getD k false) (some (.inr false)) (some (.inl ())) (by omega) (fun k fuel hk=>?_) (fun fuel=>?_)
 ·exact h
 ·rw [qo,gc]
  simp only [az hk,ah hk,ah (show k<earth.length by omega),aa,cond_true,Int.toNat_natCast,Bool.or_true,af (by omega:k<4611686018427387904)]
 ·rw [qo,gc];simp only [ak,cond_false]
include hp
theorem sV2:eA on earth pm aq 0=bif (List.range pm.length).any (fun k=> !GY on earth pm k) then some (.inr false) else some (.inl ()):=by
 have h:=cc (eA on earth pm) (fun k=>(k:Int)) pm.length (fun k=> !GY on earth pm k) (some (.inr false)) (some (.inl ())) (by omega) (fun k fuel hk=>?_) (fun fuel=>?_)
 ·exact h
 ·rw [qF,gO]
  simp only [az hk,ah hk,aa,cond_true,Int.toNat_natCast,af (by omega:k<4611686018427387904),TK pm _ _ (by omega),aw]
  have w1:ax ((on.length:Int)-1)=(on.length:Int)-1:=aP (by omega) (by omega)
  have hft:=RY hk
  rw [w1]
  unfold GY
  rw [oX]
  generalize pm.getD k (0,0)=p at*
  cases h1:(bc 0 p.1&&bc p.1 9)
  ·simp [gb]
  have e2:(bc 0 p.2&&bc p.2 ((on.length:Int)-1))=(decide (0≤p.2)&&decide (p.2<(on.length:Int))):=by rw [Bool.eq_iff_iff];simp [bc];omega
  rw [e2]
  cases h2:(decide (0≤p.2)&&decide (p.2<(on.length:Int)))
  ·simp [gb]
  have hx:aB p.2 earth.length=true:=by simp at h2;simp [aB];omega
  simp only [gb,Option.bind_some,Bool.not_true,Bool.not_false,cond_true,Bool.or_self,hx,Bool.or_true,aa,Bool.false_or,Bool.true_and]
  cases earth.getD p.2.toNat false
  ·simp
  ·simp [hft]
 ·rw [qF,gO];simp only [ak,cond_false]
omit ho in
theorem iV2:ei on earth pm aq 0=bif (List.range pm.length).any (fun k=> !GY on earth pm k) then some (.inr false) else some (.inl ()):=by
 have h:=cc (ei on earth pm) (fun k=>(k:Int)) pm.length (fun k=> !GY on earth pm k) (some (.inr false)) (some (.inl ())) (by omega) (fun k fuel hk=>?_) (fun fuel=>?_)
 ·exact h
 ·rw [qp,gf]
  have hs:vq 0 (k:Int) pm.length=true:=decide_eq_true (by omega)
  have ht:aj pm 0 (k:Int)=pm.take k:=by simp [aj]
  simp only [az hk,ah hk,aa,cond_true,Int.toNat_natCast,af (by omega:k<4611686018427387904),hs,ht,Bool.or_true,XX (pm.take k) _ _ (by simp;omega)]
  unfold GY
  rw [oX]
  generalize pm.getD k (0,0)=p
  rw [show ((p.1,p.2):Int×Int)=p from rfl]
  cases h1:(bc 0 p.1&&bc p.1 9)
  ·have:(av p.1 0 ||av 9 p.1)=true:=by simp [bc] at h1;simp [av];omega
   simp [gb,this]
  have e1:(av p.1 0 ||av 9 p.1)=false:=by simp [bc] at h1;simp [av];omega
  rw [e1]
  cases h2:(decide (0≤p.2)&&decide (p.2<(on.length:Int)))
  ·have:(av p.2 0 ||bc (on.length:Int) p.2)=true:=by simp at h2;simp [av,bc];omega
   simp only [Bool.false_or,this,Bool.not_true,Bool.true_or,Bool.not_false,aa,gb,cond_false,Option.bind_some,cond_true,Bool.and_false,Bool.false_and]
  have e2:(av p.2 0 ||bc (on.length:Int) p.2)=false:=by simp at h2;simp [av,bc];omega
  have hx:aB p.2 earth.length=true:=by simp at h2;simp [aB];omega
  simp only [Bool.false_or,e2,gb,Option.bind_some,Bool.not_true,Bool.not_false,cond_true,Bool.or_self,hx,Bool.or_true,aa,Bool.true_and]
  cases earth.getD p.2.toNat false<;>simp
 ·rw [qp,gf];simp only [ak,cond_false]
end
section
variable (on earth:List Bool) (pm:Pm) (ho:on.length≤1048576) (hp:pm.length≤1048576)
include ho hp
theorem Ke:eY on earth pm=some (nv on earth pm):=by
 unfold eY aw nv
 rw [oX,lt6,Oi]
 cases h1:(bc 1 (on.length:Int)&&bc (on.length:Int) 10)
 ·simp
 by_cases h2:earth.length=on.length
 ·rw [show (earth.length==on.length)=true by simpa using h2,show (on.length==earth.length)=true by simpa using h2.symm]
  cases h3:decide (pm.length≤6)
  ·simp
  simp only [Option.bind_some,Bool.not_true,Bool.or_self,cond_false,sV1 on earth ho h2,sV2 on earth pm ho hp h2,Bool.true_and]
  cases (List.range on.length).any fun k=>on.getD k false&&earth.getD k false
  ·cases (List.range pm.length).any fun k=> !GY on earth pm k<;>rfl
  ·rfl
 ·rw [show (earth.length==on.length)=false by simpa using h2,show (on.length==earth.length)=false by simpa using fun e=>h2 e.symm]
  simp
theorem Nl:eS on earth pm=some (nv on earth pm):=by
 unfold eS nv
 rw [abP,lt6,Oi]
 cases h1:av (on.length:Int) 1
 ·cases h4:av 10 (on.length:Int)
  ·by_cases h2:earth.length=on.length
   ·rw [show (earth.length==on.length)=true by simpa using h2]
    cases h3:decide (pm.length≤6)
    ·simp
    simp only [Option.bind_some,Bool.not_true,Bool.not_false,Bool.or_self,cond_false,iV1 on earth ho h2,iV2 on earth pm hp h2,Bool.true_and]
    cases (List.range on.length).any fun k=>on.getD k false&&earth.getD k false
    ·cases (List.range pm.length).any fun k=> !GY on earth pm k<;>rfl
    ·rfl
   ·rw [show (earth.length==on.length)=false by simpa using h2]
    simp
  ·simp
 ·simp
end
theorem Rz (on:List Bool) (br:List Int):zg on br 0=((decide (0≤br.getD 0 0)&&decide (br.getD 0 0<(on.length:Int)))&& !on.getD (br.getD 0 0).toNat false):=by
 unfold zg;simp
theorem RA (on:List Bool) (br:List Int) (j:Nat):zg on br (j+1)=((decide (0≤br.getD (j+1) 0)&&decide (br.getD (j+1) 0<(on.length:Int)))&& !on.getD (br.getD (j+1) 0).toNat false&& !bc (br.getD (j+1) 0) (br.getD j 0)):=by
 unfold zg
 have:decide (br.getD j 0<br.getD (j+1) 0)= !bc (br.getD (j+1) 0) (br.getD j 0):=by rw [Bool.eq_iff_iff];simp [bc]
 simp only [Nat.add_sub_cancel,this]
 have e:decide (j+1=0)=false:=by simp
 rw [e,Bool.false_or]
section
variable (b:Int) (ls:List Ln) (pts:List (Int×Int)) (on earth:List Bool) (pm:Pm) (br:List Int) (hp:pts.length≤1048576) (ho:on.length≤1048576) (hm:pm.length≤1048576) (hb:br.length≤1048576)
include hb
theorem iBr (hl:on.length=ls.length):dq b ls on br aq 0=bif (List.range br.length).any (fun k=> !zg on br k) then some (.inr false) else some (.inl ()):=by
 have hh:=cc (dq b ls on br) (fun k=>(k:Int)) br.length (fun k=> !zg on br k) (some (.inr false)) (some (.inl ())) (by omega) (fun k fuel hk=>?_) (fun fuel=>?_)
 ·exact hh
 ·rw [pE,fo]
  simp only [az hk,ah hk,cond_true,aa,Int.toNat_natCast,aS,Option.bind_some,af (by omega:k<4611686018427387904)]
  have e1:(bc 0 (br.getD k 0)&&av (br.getD k 0) (ls.length:Int))=(decide (0≤br.getD k 0)&&decide (br.getD k 0<(on.length:Int))):=by rw [hl];rfl
  rw [e1]
  have hx:(decide (0≤br.getD k 0)&&decide (br.getD k 0<(on.length:Int)))=true→aB (br.getD k 0) on.length=true:=by intro h;simp at h;simp [aB];omega
  rcases k with _ |j
  ·rw [Rz]
   have:av 0 ((0:Nat):Int)=false:=rfl
   simp only [this,Bool.and_false,Bool.not_false,Bool.true_or,aa,Bool.or_false]
   cases h1:decide (0≤br.getD 0 0)&&decide (br.getD 0 0<(on.length:Int))
   ·rfl
   ·rw [hx h1]
    cases on.getD (br.getD 0 0).toNat false<;>rfl
  ·rw [RA]
   have e2:ax (((j+1:Nat):Int)-1)=(j:Int):=by rw [aP (by omega) (by omega)];omega
   have e3:av 0 ((j+1:Nat):Int)=true:=decide_eq_true (by omega)
   simp only [e2,e3,ah (show j<br.length by omega),Bool.or_true,aa,Bool.true_and,Int.toNat_natCast]
   cases h1:decide (0≤br.getD (j+1) 0)&&decide (br.getD (j+1) 0<(on.length:Int))
   ·rfl
   ·rw [hx h1]
    cases on.getD (br.getD (j+1) 0).toNat false<;>cases bc (br.getD (j+1) 0) (br.getD j 0)<;>rfl
 ·rw [pE,fo];simp only [ak,cond_false]
include ho in
theorem sBr:dF on br aq 0=bif (List.range br.length).any (fun k=> !zg on br k) then some (.inr false) else some (.inl ()):=by
 have hh:=cc (dF on br) (fun k=>(k:Int)) br.length (fun k=> !zg on br k) (some (.inr false)) (some (.inl ())) (by omega) (fun k fuel hk=>?_) (fun fuel=>?_)
 ·exact hh
 ·rw [pP,fE]
  have w1:ax ((on.length:Int)-1)=(on.length:Int)-1:=aP (by omega) (by omega)
  simp only [az hk,ah hk,cond_true,aa,Int.toNat_natCast,aw,Option.bind_some,af (by omega:k<4611686018427387904),w1]
  have e1:(bc 0 (br.getD k 0)&&bc (br.getD k 0) ((on.length:Int)-1))=(decide (0≤br.getD k 0)&&decide (br.getD k 0<(on.length:Int))):=by rw [Bool.eq_iff_iff];simp [bc];omega
  rw [e1]
  have hx:(decide (0≤br.getD k 0)&&decide (br.getD k 0<(on.length:Int)))=true→aB (br.getD k 0) on.length=true:=by intro h;simp at h;simp [aB];omega
  rcases k with _ |j
  ·rw [Rz]
   have:av 0 ((0:Nat):Int)=false:=rfl
   simp only [this,Bool.and_false,Bool.not_false,Bool.true_or,aa,Bool.or_false,Bool.false_and]
   cases h1:decide (0≤br.getD 0 0)&&decide (br.getD 0 0<(on.length:Int))
   ·rfl
   ·rw [hx h1]
    cases on.getD (br.getD 0 0).toNat false<;>simp
  ·rw [RA]
   have e2:ax (((j+1:Nat):Int)-1)=(j:Int):=by rw [aP (by omega) (by omega)];omega
   have e3:av 0 ((j+1:Nat):Int)=true:=decide_eq_true (by omega)
   simp only [e2,e3,ah hk,ah (show j<br.length by omega),Bool.or_true,aa,Bool.true_and,Int.toNat_natCast]
   cases h1:decide (0≤br.getD (j+1) 0)&&decide (br.getD (j+1) 0<(on.length:Int))
   ·rfl
   ·rw [hx h1]
    cases on.getD (br.getD (j+1) 0).toNat false<;>cases bc (br.getD (j+1) 0) (br.getD j 0)<;>rfl
 ·rw [pP,fE];simp only [ak,cond_false]
include hp ho hm
theorem iWv:bE b ls pts on earth pm br=some (wv ⟨b,ls,pts,on,earth,pm,br⟩):=by
 unfold bE wv ZC
 rw [So b ls pts hp,Nl on earth pm ho hm]
 have e:((on.length:Int) !=(ls.length:Int))= !decide (on.length=ls.length):=by rw [Bool.eq_iff_iff];simp;omega
 rw [e]
 cases h1:qa b ls pts
 ·rfl
 cases h2:nv on earth pm
 ·rfl
 by_cases h3:on.length=ls.length
 ·rw [decide_eq_true h3]
  simp only [Option.bind_some,Bool.not_true,Bool.not_false,cw,Bool.or_self,cond_false,iBr b ls on br hb h3,OJ b ls on pts hp]
  have hok:uQ b ls on pts=kW ls on pts:=by
   have:=uY.1 h1
   unfold uQ
   rw [fG.2 ⟨⟨this.net,h3⟩,this⟩];rfl
  rw [hok]
  cases (List.range br.length).any fun k=> !zg on br k<;>cases kW ls on pts<;>rfl
 ·rw [decide_eq_false h3];simp
theorem sWv:bq b ls pts on earth pm br=some (wv ⟨b,ls,pts,on,earth,pm,br⟩):=by
 unfold bq wv ZC
 rw [TJ b ls pts hp,Ke on earth pm ho hm]
 have e:((on.length:Int) !=(ls.length:Int))= !decide (on.length=ls.length):=by rw [Bool.eq_iff_iff];simp;omega
 rw [e]
 cases h1:qa b ls pts
 ·rfl
 cases h2:nv on earth pm
 ·rfl
 by_cases h3:on.length=ls.length
 ·rw [decide_eq_true h3]
  simp only [Option.bind_some,Bool.not_true,Bool.not_false,cw,Bool.or_self,cond_false,sBr on br ho hb,FD b ls on pts hp]
  have hok:uQ b ls on pts=kW ls on pts:=by
   have:=uY.1 h1
   unfold uQ
   rw [fG.2 ⟨⟨this.net,h3⟩,this⟩];rfl
  rw [hok]
  cases (List.range br.length).any fun k=> !zg on br k<;>cases kW ls on pts<;>rfl
 ·rw [decide_eq_false h3];simp
end
def zD (w:Wd):List Nat:=(List.range w.pts.length).filter fun k=>av 0 (w.pts.getD k (0,0)).2&& !av 0 (di (aA w.ls w.on) w.pts (·.1) k)
theorem abE (l:List Int) (x:Int) (hl:l.length≤1099511627776): ∃z,eP l x=some z∧bc 0 z=decide (x∈l):=by
 unfold eP
 have h:=yP (bW l x) (fun k=>(k:Int)) l.length (fun k=>x==l.getD k 0) (fun k=>some (.inr (k:Int))) (some (.inl ())) hl (fun k fuel hk=>by
  rw [mb,cM]
  simp only [az hk,ah hk,aa,cond_true,Int.toNat_natCast,af (by omega:k<4611686018427387904)]) (fun fuel=>by rw [mb,cM];simp only [ak,cond_false])
 rw [show bW l x aq 0=_ from h]
 cases hf:(List.range l.length).find? (fun k=>x==l.getD k 0) with
 |none=>
  refine ⟨_,rfl,?_⟩
  have:x∉l:=fun hx=>by
   obtain ⟨k,hk,rfl⟩:=List.mem_iff_getElem.1 hx
   have:=List.find?_eq_none.1 hf k (by simpa using hk)
   rw [ai hk] at this
   simp at this
  rw [decide_eq_false this];rfl
 |some k=>
  obtain ⟨h1,h2,_⟩:=List.find?_range_eq_some.1 hf
  have hk:k<l.length:=by simpa using h2
  refine ⟨_,rfl,?_⟩
  have:x∈l:=by
   rw [beq_iff_eq] at h1
   rw [h1,ai hk];exact List.getElem_mem hk
  rw [decide_eq_true this];simp [bc]
theorem abB (l:List Int) (x:Int) (hl:l.length≤1099511627776):cV l x=some (decide (x∈l)):=by
 obtain ⟨z,h1,h2⟩:=abE l x hl
 unfold cV
 rw [h1,Option.bind_some,h2]
theorem Ib {E:Ed} {pts:List (Int×Int)} {k:Nat} (hk:k<pts.length):decide ((k:Int)∈zl (tB E pts))=av 0 (di E pts (·.1) k):=by
 rw [Bool.eq_iff_iff,decide_eq_true_eq,Uw]
 simp [tB,hk]
section
variable (b:Int) (ls:List Ln) (pts:List (Int×Int)) (on earth:List Bool) (pm:Pm) (br:List Int) (hp:pts.length≤1048576) (ho:on.length≤1048576) (hm:pm.length≤1048576) (hb:br.length≤1048576)
include hp ho hm hb
theorem abx:eV b ls pts on earth pm br=some (if wv ⟨b,ls,pts,on,earth,pm,br⟩ then zl (zD ⟨b,ls,pts,on,earth,pm,br⟩) else []):=by
 unfold eV
 rw [iWv b ls pts on earth pm br hp ho hm hb,Option.bind_some]
 cases hv:wv ⟨b,ls,pts,on,earth,pm,br⟩
 ·rfl
 have hw:=cC.1 hv
 have hok:LK b ls on pts=true:=fG.2 ⟨⟨hw.bus.net,hw.len⟩,hw.bus⟩
 simp only [cond_true,XV b ls on pts hp,hok,if_true,Option.bind_some]
 have hal:(zl (tB (aA ls on) pts)).length≤1099511627776:=by
  rw [cf];unfold tB
  have:=List.length_filter_le (fun b=>av 0 (di (aA ls on) pts (·.1) b)) (List.range pts.length)
  rw [List.length_range] at this;omega
 have hh:=nq (iq pts (zl (tB (aA ls on) pts))) pts.length (fun k=>av 0 (pts.getD k (0,0)).2&& !av 0 (di (aA ls on) pts (·.1) k)) some (by omega) (fun k fuel l hk ha=>?_) (fun fuel l=>?_)
 ·rw [hh];rfl
 ·rw [qq,gh]
  simp only [az hk,ah hk,aa,cond_true,Int.toNat_natCast,abB _ _ hal,Ib hk,ha,af (by omega:k<4611686018427387904)]
  cases av 0 (pts.getD k (0,0)).2
  ·rfl
  ·cases av 0 (di (aA ls on) pts (·.1) k)<;>rfl
 ·rw [qq,gh];simp only [ak,cond_false]
theorem ace:jc b ls pts on earth pm br=some (if wv ⟨b,ls,pts,on,earth,pm,br⟩ then zl (zD ⟨b,ls,pts,on,earth,pm,br⟩) else []):=by
 unfold jc
 rw [sWv b ls pts on earth pm br hp ho hm hb,Option.bind_some]
 cases hv:wv ⟨b,ls,pts,on,earth,pm,br⟩
 ·rfl
 have hw:=cC.1 hv
 have hlp:=hw.bus.lp
 dsimp only at hlp
 subst hlp
 simp only [cond_true,YY ⟨hw.bus.net,hw.len⟩ hw.bus,if_true,Option.bind_some]
 have hal:(zl (tB (aA ls on) pts)).length≤1099511627776:=by
  rw [cf];unfold tB
  have:=List.length_filter_le (fun b=>av 0 (di (aA ls on) pts (·.1) b)) (List.range pts.length)
  rw [List.length_range] at this;omega
 have hh:=nq (iJ pts (zl (tB (aA ls on) pts))) pts.length (fun k=>av 0 (pts.getD k (0,0)).2&& !av 0 (di (aA ls on) pts (·.1) k)) some (by omega) (fun k fuel l hk ha=>?_) (fun fuel l=>?_)
 ·rw [hh];rfl
 ·rw [qG,gP]
  simp only [az hk,ah hk,aa,cond_true,Int.toNat_natCast,QJ _ _ hal,Ib hk,ha,Bool.or_true,Option.bind_some,af (by omega:k<4611686018427387904)]
  cases av 0 (pts.getD k (0,0)).2<;>cases av 0 (di (aA ls on) pts (·.1) k)<;>rfl
 ·rw [qG,gP];simp only [ak,cond_false]
end
section
variable {σ:Type} (good:σ→Bool) (sv:σ→Int) (ch:σ→Nat)
def Dw (s:Int) (c:Nat):Option σ→Bool
 |none=>true
 |some y=>decide (sv y<s) ||(decide (sv y=s)&&decide (c<ch y))
def yp (a:Option σ) (x:σ):Option σ:=if good x&&Dw sv ch (sv x) (ch x) a then some x else a
def jl (l:List σ):Option σ:=l.foldl (yp good sv ch) none
theorem Ew (l:List σ) (x:σ):jl good sv ch (l++ [x])=yp good sv ch (jl good sv ch l) x:=by unfold jl;rw [List.foldl_append];rfl
theorem KJ (l:List σ):(∀x∈l,good x=true→ ∃y,jl good sv ch l=some y)∧ ∀y,jl good sv ch l=some y→(y∈l∧good y=true)∧ ∀x∈l,good x=true→sv x<sv y∨(sv x=sv y∧ch y≤ch x):=by
 refine FA (P:=fun l=>(∀x∈l,good x=true→ ∃y,jl good sv ch l=some y)∧ ∀y,jl good sv ch l=some y→(y∈l∧good y=true)∧ ∀x∈l,good x=true→sv x<sv y∨(sv x=sv y∧ch y≤ch x)) ?_ ?_ l
 ·exact ⟨fun x hx=>by simp at hx,fun y hy=>by cases hy⟩
 ·intro l a ih
  rw [Ew]
  unfold yp
  cases hg:good a
  ·rw [Bool.false_and,if_neg (by decide)]
   refine ⟨fun x hx hgx=>?_,fun y hy=>?_⟩
   ·rcases List.mem_append.1 hx with hx |hx
    ·exact ih.1 x hx hgx
    ·obtain rfl:x=a:=by simpa using hx
     rw [hg] at hgx;cases hgx
   ·obtain ⟨⟨h1,h2⟩,h3⟩:=ih.2 y hy
    refine ⟨⟨by simp [h1],h2⟩,fun x hx hgx=>?_⟩
    rcases List.mem_append.1 hx with hx |hx
    ·exact h3 x hx hgx
    ·obtain rfl:x=a:=by simpa using hx
     rw [hg] at hgx;cases hgx
  ·rw [Bool.true_and]
   cases hb:jl good sv ch l with
   |none=>
    rw [if_pos (show Dw sv ch (sv a) (ch a) none=true from rfl)]
    refine ⟨fun _ _ _=>⟨a,rfl⟩,fun y hy=>?_⟩
    obtain rfl:a=y:=Option.some.inj hy
    refine ⟨⟨by simp,hg⟩,fun x hx hgx=>?_⟩
    rcases List.mem_append.1 hx with hx |hx
    ·obtain ⟨y,hy⟩:=ih.1 x hx hgx
     rw [hb] at hy;cases hy
    ·obtain rfl:x=a:=by simpa using hx
     exact .inr ⟨rfl,Nat.le_refl _⟩
   |some z=>
    obtain ⟨⟨h1,h2⟩,h3⟩:=ih.2 z hb
    split
    ·rename_i hbet
     simp only [Dw,Bool.or_eq_true,Bool.and_eq_true,decide_eq_true_eq] at hbet
     refine ⟨fun _ _ _=>⟨a,rfl⟩,fun y hy=>?_⟩
     obtain rfl:a=y:=Option.some.inj hy
     refine ⟨⟨by simp,hg⟩,fun x hx hgx=>?_⟩
     rcases List.mem_append.1 hx with hx |hx
     ·have:=h3 x hx hgx;omega
     ·obtain rfl:x=a:=by simpa using hx
      exact .inr ⟨rfl,Nat.le_refl _⟩
    ·rename_i hbet
     simp only [Dw,Bool.or_eq_true,Bool.and_eq_true,decide_eq_true_eq] at hbet
     refine ⟨fun _ _ _=>⟨z,rfl⟩,fun y hy=>?_⟩
     obtain rfl:z=y:=Option.some.inj hy
     refine ⟨⟨by simp [h1],h2⟩,fun x hx hgx=>?_⟩
     rcases List.mem_append.1 hx with hx |hx
     ·exact h3 x hx hgx
     ·obtain rfl:x=a:=by simpa using hx
      omega
end
def bB (n num:Nat):List Bool:=(List.range n).map fun k=>num.testBit k
theorem Ho (n num:Nat):(bB n num).length=n:=by simp [bB]
theorem TU {n num k:Nat} (h:k<n):(bB n num).getD k false=num.testBit k:=by simp [bB,List.getD,h]
def xp:List Bool→Nat
 | []=>0
 |b::l=>2*xp l+b.toNat
theorem II: ∀(l:List Bool) (k:Nat),(xp l).testBit k=l.getD k false
 | [],k=>by simp [xp]
 |b::l,0=>by cases b<;>simp [xp,Nat.testBit_zero]<;>omega
 |b::l,k+1=>by
  rw [Nat.testBit_succ,List.getD_cons_succ,←II l k]
  congr 1
  cases b<;>simp [xp]<;>omega
theorem LH: ∀l:List Bool,xp l<2 ^ l.length
 | []=>by simp [xp]
 |b::l=>by
  have:=LH l
  have hb:b.toNat≤1:=by cases b<;>simp
  rw [List.length_cons,Nat.pow_succ];simp only [xp];omega
theorem NO (l:List Bool):bB l.length (xp l)=l:=by
 apply List.ext_getElem (by simp [bB])
 intro i h1 h2
 have:=TU (num:=xp l) h2
 rw [ai h1,II,ai h2] at this
 exact this
def NQ (n:Nat):List (List Bool):=(List.range (2 ^ n)).map (bB n)
theorem NR {n:Nat} {l:List Bool}:l∈NQ n↔l.length=n:=by
 unfold NQ
 rw [List.mem_map]
 constructor
 ·rintro ⟨k,_,rfl⟩;exact Ho _ _
 ·rintro rfl;exact ⟨xp l,by simpa using LH l,NO l⟩
def aH (E:Ed) (pts:List (Int×Int)):Int:=((List.range pts.length).map fun b=>if di E pts (·.2) b≤di E pts (·.1) b then (pts.getD b (0,0)).2 else 0).sum
def dk (ls:List Ln) (on:List Bool) (pts:List (Int×Int)):Bool:=
 kW ls on pts&&(!(List.range ls.length).any fun k=>decide ((ls.getD k (0,0,0)).2.2<fO ls on pts k))&& !(List.range pts.length).any fun b=>aL pts b&&decide ((pts.getD b (0,0)).1<di (aA ls on) pts (·.2) b)
theorem Gu {ls:List Ln} {on:List Bool} {pts:List (Int×Int)} (h:dk ls on pts=true):kW ls on pts=true:=by
 unfold dk at h
 rw [Bool.and_eq_true,Bool.and_eq_true] at h
 exact h.1.1
def bF (a b:List Bool):List Nat:=(List.range a.length).filter fun k=>a.getD k false !=b.getD k false
def nj (ls:List Ln) (on:List Bool) (pts:List (Int×Int)):Option (List Bool):=jl (fun x=>dk ls x pts) (fun x=>aH (aA ls x) pts) (fun x=>(bF on x).length) (NQ ls.length)
theorem uV {ls:List Ln} {on x:List Bool} {pts:List (Int×Int)} (h:nj ls on pts=some x):x.length=ls.length∧dk ls x pts=true:=by
 have:=((KJ _ _ _ _).2 x h).1
 exact ⟨NR.1 this.1,this.2⟩
def oD (on x:List Bool) (k:Nat):List Dd:=((List.range k).filter fun i=>on.getD i false&& !x.getD i false).map fun (i:Nat)=>(1,(i:Int),0)
def xu (on x:List Bool) (k:Nat):List Dd:=((List.range k).filter fun i=>x.getD i false&& !on.getD i false).map fun (i:Nat)=>(0,(i:Int),0)
def dN (earth:List Bool) (br:List Int):List Dd:=br.flatMap fun l=>(if earth.getD l.toNat false then [] else [(2,l,0)])++ [(4,l,0),(7,l,0),(5,l,0)]
def bP (earth:List Bool) (br:List Int):List Bool:=br.foldl (fun e l=>e.set l.toNat true) earth
def FF (on:List Bool) (x:Option (List Bool)):List Dd:=
 match x with
 |none=> []
 |some x=>oD on x on.length++xu on x on.length
def wN (w:Wd):List Dd:=bY w.pm++dN w.earth w.br++dO 3 (bP w.earth w.br) true w.on.length++FF w.on (nj w.ls w.on w.pts)
theorem Nc (br:List Int): ∀earth:List Bool,(bP earth br).length=earth.length:=by
 induction br with
 |nil=>intro e;rfl
 |cons l br ih=>intro e;show (bP (e.set l.toNat true) br).length=_;rw [ih];simp
theorem QD {pm:Pm}: ∀d∈bY pm,d.1≠0∧d.1≠6∧d.1≠7:=by
 intro d hd
 obtain ⟨p,_,rfl⟩:=List.mem_map.1 hd
 exact ⟨by show (5:Int)≠0;decide,by show (5:Int)≠6;decide,by show (5:Int)≠7;decide⟩
theorem Gs {kd:Int} {l:List Bool} {b:Bool}: ∀ {k:Nat},∀d∈dO kd l b k,d.1=kd
 |0,d,hd=>by simp [dO] at hd
 |k+1,d,hd=>by
  simp only [dO] at hd
  split at hd
  ·rcases List.mem_append.1 hd with hd |hd
   ·exact Gs d hd
   ·obtain rfl:d=_:=by simpa using hd
    rfl
  ·exact Gs d hd
theorem TW {w:Wd} (h:WdOk w) (c:Int) {kd a who:Int} (hk:kd≠0∧kd≠6∧kd≠7) (ha:0≤a∧a<(w.on.length:Int)) (hm:fi w.wk kd a who=true):bC (c,w) (kd,a,who)=(c+1,w.put (cT w.wk kd a who)):=by
 have:=Dq [(kd,a,who)] (fun d hd=>by obtain rfl:d=_:=by simpa using hd
                                     exact hk) c w h
 rw [List.foldl_cons,List.foldl_nil,List.foldl_cons,List.foldl_nil,uR (s:=(c,w.wk)) h.work ha hm] at this
 exact this
theorem DY {w:Wd} (h:WdOk w) (c:Int):(bY w.pm).foldl bC (c,w)=(c+((bY w.pm).length:Int),w.put (w.on,w.earth,[])):=by
 rw [Dq _ QD _ _ h,show w.wk=(w.on,w.earth,w.pm) from rfl,Mc w.pm c w.on w.earth h.work]
 simp [bY]
theorem OC (earth:List Bool) (l:Int) (br:List Int):dN earth (l::br)=((if earth.getD l.toNat false then [] else [(2,l,0)])++ [(4,l,0),(7,l,0),(5,l,0)])++dN earth br:=rfl
theorem Vk {earth:List Bool} {l:Int} {br:List Int} (h: ∀x∈br,x.toNat≠l.toNat):dN (earth.set l.toNat true) br=dN earth br:=by
 unfold dN
 induction br with
 |nil=>rfl
 |cons x br ih=>
  rw [List.flatMap_cons,List.flatMap_cons,ih fun y hy=>h y (by simp [hy]),fj (Ne.symm (h x (by simp)))]
theorem yF {l:List Bool} {k:Nat} (h:l.getD k false=true):l.set k true=l:=by
 rcases Nat.lt_or_ge k l.length with hk |hk
 ·rw [ai hk] at h
  have:=List.set_getElem_self hk
  rwa [h] at this
 ·rw [XS hk] at h;cases h
theorem Vg {w:Wd} (h:WdOk w) {a who:Int} (ha:0≤a∧a<(w.on.length:Int)) (hb:a∈w.br) (hp:(who,a)∈w.pm):bO w 7 a who=({w with br:=w.br.filter fun x=>x !=a},true):=by
 unfold bO
 rw [if_pos (cC.2 h),if_pos ha,if_neg (fun g=>absurd g.1 (by decide)),if_pos ⟨rfl,hb,hp⟩]
theorem abk {w:Wd} (h:WdOk w) {a who:Int} (ha:0≤a∧a<(w.on.length:Int)) (hb:a∉w.br) {k:Wk} (hd:dK w.wk 0 a who=(k,true)) (hr:kW w.ls k.1 w.pts=true):bO w 0 a who=(w.put k,true):=by
 unfold bO
 rw [if_pos (cC.2 h),if_pos ha,if_neg (fun g=>absurd g.1 (by decide)),if_neg (fun g=>absurd g.1 (by decide)),if_neg (fun g=>hb g.2),hd,if_pos ⟨rfl,hr⟩]
theorem Qf {w:Wd} (h:WdOk w) (hp:w.pm=[]) {l:Int} {br:List Int} (hb:w.br=l::br) (c:Int):
 ((if w.earth.getD l.toNat false then [] else [((2:Int),l,(0:Int))])++ [(4,l,0),(7,l,0),(5,l,0)]).foldl bC (c,w)=(c+((((if w.earth.getD l.toNat false then [] else [((2:Int),l,(0:Int))])++ [(4,l,0),(7,l,0),(5,l,0)]:List Dd)).length:Int),{w with earth:=w.earth.set l.toNat true,br:=br}):=by
 have hl:=h.inn l (by rw [hb];simp)
 have hlt:l.toNat<w.earth.length:=by have:=h.work.le;simp only [Wd.wk] at this;omega
 -- the state with the line earthed
 have step1: ∀c,(if w.earth.getD l.toNat false then [] else [((2:Int),l,(0:Int))]).foldl bC (c,w)=(c+(((if w.earth.getD l.toNat false then [] else [((2:Int),l,(0:Int))]:List Dd)).length:Int),{w with earth:=w.earth.set l.toNat true}):=by
  intro c
  cases he:w.earth.getD l.toNat false
  ·simp only [Bool.false_eq_true,if_false]
   have hm:fi w.wk 2 l 0=true:=by
    show (!w.on.getD l.toNat false&& !w.earth.getD l.toNat false)=true
    rw [hl.2,he];rfl
   rw [Dq [(2,l,0)] (fun d hd=>by obtain rfl:d=_:=by simpa using hd
                                  exact ⟨by show (2:Int)≠0;decide,by show (2:Int)≠6;decide,by show (2:Int)≠7;decide⟩) _ _ h]
   rw [List.foldl_cons,List.foldl_nil,uR (s:=(c,w.wk)) h.work hl.1 hm]
   rfl
  ·simp only [if_true,List.foldl_nil,List.length_nil]
   rw [yF he];simp
 rw [List.foldl_append,step1]
 have h1:WdOk {w with earth:=w.earth.set l.toNat true}:=by
  have:=jj (if w.earth.getD l.toNat false then [] else [((2:Int),l,(0:Int))]) (s:=((0:Int),w)) h
  rw [step1] at this
  exact this
 generalize hc1:c+(((if w.earth.getD l.toNat false then [] else [((2:Int),l,(0:Int))]:List Dd)).length:Int)=c1
 have hlen:(((if w.earth.getD l.toNat false then [] else [((2:Int),l,(0:Int))])++ [(4,l,0),(7,l,0),(5,l,0)]:List Dd)).length=(((if w.earth.getD l.toNat false then [] else [((2:Int),l,(0:Int))]:List Dd)).length)+3:=by rw [List.length_append];rfl
 rw [hlen]
 clear step1
 generalize hw1:({w with earth:=w.earth.set l.toNat true}:Wd)=w1 at h1
 have e1:w1.earth.getD l.toNat false=true:=by subst hw1;exact tG hlt
 have e2:w1.pm=[]:=by subst hw1;exact hp
 have e3:w1.br=l::br:=by subst hw1;exact hb
 have e4:w1.on=w.on:=by subst hw1;rfl
 have hl1:(0≤l∧l<(w1.on.length:Int)):=by rw [e4];exact hl.1
 -- a permit
 have hm4:fi w1.wk 4 l 0=true:=by
  show (w1.earth.getD l.toNat false&&(HN 0 0 9&& !decide ((0,l)∈w1.pm)&&decide (w1.pm.length<6)))=true
  rw [e1,e2];rfl
 have s4:bC (c1,w1) (4,l,0)=(c1+1,w1.put (w1.on,w1.earth,[(0,l)])):=by
  have:=Dq [(4,l,0)] (fun d hd=>by obtain rfl:d=_:=by simpa using hd
                                   exact ⟨by show (4:Int)≠0;decide,by show (4:Int)≠6;decide,by show (4:Int)≠7;decide⟩) c1 w1 h1
  rw [List.foldl_cons,List.foldl_nil,List.foldl_cons,List.foldl_nil,uR (s:=(c1,w1.wk)) h1.work hl1 hm4] at this
  rw [this]
  show (c1+1,w1.put (w1.on,w1.earth,w1.pm++ [(0,l)]))=_
  rw [e2];rfl
 have h2:WdOk (w1.put (w1.on,w1.earth,[(0,l)])):=by
  have:=xU (s:=(c1,w1)) h1 (4,l,0)
  rw [s4] at this;exact this
 -- mended
 have hs:=h1.sor
 rw [e3,List.pairwise_cons] at hs
 have hf:w1.br.filter (fun x=>x !=l)=br:=by
  rw [e3,List.filter_cons_of_neg (by simp),List.filter_eq_self]
  intro x hx
  have:=hs.1 x hx
  simp;omega
 have s7:bC (c1+1,w1.put (w1.on,w1.earth,[(0,l)])) (7,l,0)=(c1+1+1,{w1 with pm:=[(0,l)],br:=br}):=by
  have e:bO (w1.put (w1.on,w1.earth,[(0,l)])) 7 l 0=({w1 with pm:=[(0,l)],br:=br},true):=by
   have:=Vg h2 (a:=l) (who:=0) hl1 (show l∈w1.br by rw [e3];simp) (show (0,l)∈ [((0:Int),l)] by simp)
   rw [show List.filter (fun x=>x !=l) (w1.put (w1.on,w1.earth,[(0,l)])).br=br from hf] at this
   exact this
  unfold bC
  dsimp only
  rw [e];rfl
 have h3:WdOk {w1 with pm:=[(0,l)],br:=br}:=by
  have:=xU (s:=(c1+1,w1.put (w1.on,w1.earth,[(0,l)]))) h2 (7,l,0)
  rw [s7] at this;exact this
 -- returned
 have s5:=DY h3 (c1+1+1)
 rw [List.foldl_cons,s4,List.foldl_cons,s7]
 have e5:bY ({w1 with pm:=[(0,l)],br:=br}:Wd).pm=[(5,l,0)]:=rfl
 rw [e5] at s5
 rw [s5]
 subst hw1
 have:c1+1+1+(([((5:Int),l,(0:Int))]:List Dd).length:Int)=c+(((((if w.earth.getD l.toNat false then [] else [((2:Int),l,(0:Int))]:List Dd)).length)+3:Nat):Int):=by
  rw [←hc1];simp;omega
 rw [this]
 congr 1
 show Wd.put _ (w.on,w.earth.set l.toNat true,[])=_
 rw [←hp];rfl
theorem Ll: ∀(br:List Int) (c:Int) (w:Wd),WdOk w→w.pm=[]→w.br=br→(dN w.earth br).foldl bC (c,w)=(c+((dN w.earth br).length:Int),{w with earth:=bP w.earth br,br:=[]})
 | [],c,w,h,hp,hb=>by
  simp only [dN,List.flatMap_nil,List.foldl_nil,List.length_nil,bP]
  rw [←hb];simp
 |l::br,c,w,h,hp,hb=>by
  have h1:=Qf h hp hb c
  have hok:WdOk {w with earth:=w.earth.set l.toNat true,br:=br}:=by
   have:=jj ((if w.earth.getD l.toNat false then [] else [((2:Int),l,(0:Int))])++ [(4,l,0),(7,l,0),(5,l,0)]) (s:=(c,w)) h
   rw [h1] at this;exact this
  have hs:=h.sor
  rw [hb,List.pairwise_cons] at hs
  have hl:=(h.inn l (by rw [hb];simp)).1
  have hset:dN (w.earth.set l.toNat true) br=dN w.earth br:=Vk fun x hx=>by have:=hs.1 x hx;omega
  rw [OC,List.foldl_append,h1]
  have h2:=Ll br (c+((((if w.earth.getD l.toNat false then [] else [((2:Int),l,(0:Int))])++ [(4,l,0),(7,l,0),(5,l,0)]:List Dd)).length:Int)) {w with earth:=w.earth.set l.toNat true,br:=br} hok hp rfl
  dsimp only at h2
  rw [hset] at h2
  rw [h2]
  refine Prod.ext ?_ rfl
  simp only [List.length_append]
  omega
theorem Nj {w:Wd} (h:WdOk w) (hp:w.pm=[]) (c:Int):(dO 3 w.earth true w.on.length).foldl bC (c,w)=(c+((dO 3 w.earth true w.on.length).length:Int),{w with earth:=List.replicate w.on.length false}):=by
 have hle:w.earth.length=w.on.length:=h.work.le
 have hw:WOk (w.on,w.earth,[]):=by have:=h.work;rw [show w.wk=(w.on,w.earth,w.pm) from rfl,hp] at this;exact this
 rw [Dq _ (fun d hd=>by have:=Gs d hd;omega) _ _ h,show w.wk=(w.on,w.earth,w.pm) from rfl,hp,←hle,(Il hw c w.earth.length (Nat.le_refl _)).1,List.drop_length,List.append_nil,hle]
 show (_,Wd.put w (w.on,List.replicate w.on.length false,[]))=_
 rw [←hp];rfl
def mix (n k:Nat) (f g:Nat→Bool):List Bool:=(List.range n).map fun i=>if i<k then f i else g i
theorem xQ (n k:Nat) (f g:Nat→Bool):(mix n k f g).length=n:=by simp [mix]
theorem JC {n k i:Nat} {f g:Nat→Bool} (h:i<n):(mix n k f g).getD i false=if i<k then f i else g i:=by simp [mix,List.getD,h]
theorem JD {n k:Nat} {f g:Nat→Bool} (h:k<n):(mix n k f g).set k (f k)=mix n (k+1) f g:=by
 apply List.ext_getElem (by simp [mix])
 intro i h1 h2
 rw [List.getElem_set]
 simp only [mix,List.getElem_map,List.getElem_range]
 split
 ·rename_i e;subst e;rw [if_pos (by omega)]
 ·by_cases hi:i<k
  ·rw [if_pos hi,if_pos (by omega)]
  ·rw [if_neg hi,if_neg (by omega)]
theorem LC {n k:Nat} {f g:Nat→Bool} (h:f k=g k):mix n k f g=mix n (k+1) f g:=by
 unfold mix
 refine List.map_congr_left fun i _=>?_
 by_cases hi:i<k
 ·rw [if_pos hi,if_pos (by omega)]
 ·rw [if_neg hi]
  by_cases e:i=k
  ·subst e;rw [if_pos (by omega),h]
  ·rw [if_neg (by omega)]
theorem abX (l:List Bool) (f:Nat→Bool):mix l.length 0 f (fun i=>l.getD i false)=l:=by
 apply List.ext_getElem (by simp [mix])
 intro i h1 h2
 simp [mix,List.getD,h2]
theorem Qr (on x:List Bool) (k:Nat):oD on x (k+1)=oD on x k++if on.getD k false&& !x.getD k false then [(1,(k:Int),0)] else []:=by
 unfold oD
 rw [List.range_succ,List.filter_append,List.map_append]
 congr 1
 rw [List.filter_cons]
 cases on.getD k false&& !x.getD k false<;>rfl
theorem Tc (on x:List Bool) (k:Nat):xu on x (k+1)=xu on x k++if x.getD k false&& !on.getD k false then [(0,(k:Int),0)] else []:=by
 unfold xu
 rw [List.range_succ,List.filter_append,List.map_append]
 congr 1
 rw [List.filter_cons]
 cases x.getD k false&& !on.getD k false<;>rfl
theorem Iw {w:Wd} (h:WdOk w) {x:List Bool} (c:Int): ∀k,k≤w.on.length→
 (oD w.on x k).foldl bC (c,w)=(c+((oD w.on x k).length:Int),{w with on:=mix w.on.length k (fun i=>w.on.getD i false&&x.getD i false) (fun i=>w.on.getD i false)})
 |0,_=>by
  show (c,w)=(c+((oD w.on x 0).length:Int),_)
  rw [abX];simp [oD]
 |k+1,hk=>by
  have ih:=Iw h (x:=x) c k (by omega)
  have hok:=jj (oD w.on x k) (s:=(c,w)) h
  rw [ih] at hok
  try dsimp only at hok
  rw [Qr]
  cases hc:w.on.getD k false&& !x.getD k false
  ·simp only [Bool.false_eq_true,if_false,List.append_nil]
   rw [ih]
   refine Prod.ext rfl ?_
   dsimp only
   rw [←LC]
   revert hc;cases w.on.getD k false<;>cases x.getD k false<;>simp
  ·simp only [if_true]
   rw [List.foldl_append,ih,List.length_append]
   generalize hc1:c+((oD w.on x k).length:Int)=c1 at*
   simp only [Bool.and_eq_true,Bool.not_eq_true'] at hc
   have hm:fi (Wd.wk {w with on:=mix w.on.length k (fun i=>w.on.getD i false&&x.getD i false) (fun i=>w.on.getD i false)}) 1 (k:Int) 0=true:=by
    show (mix w.on.length k (fun i=>w.on.getD i false&&x.getD i false) (fun i=>w.on.getD i false)).getD (k:Int).toNat false=true
    rw [Int.toNat_natCast,JC (by omega),if_neg (by omega)];exact hc.1
   have hst:=TW hok c1 (by decide) (by dsimp only;rw [xQ];omega) hm
   rw [List.foldl_cons,List.foldl_nil,hst]
   refine Prod.ext (by simp only [List.length_singleton];omega) ?_
   show ({w with on:=(mix w.on.length k (fun i=>w.on.getD i false&&x.getD i false) (fun i=>w.on.getD i false)).set (k:Int).toNat false}:Wd)=_
   have:=JD (f:=fun i=>w.on.getD i false&&x.getD i false) (g:=fun i=>w.on.getD i false) (show k<w.on.length by omega)
   try dsimp only at this
   rw [hc.2,Bool.and_false] at this
   rw [Int.toNat_natCast,this]
theorem Lm {w:Wd} {y x:List Bool} (hlx:x.length=w.ls.length) (hrx:kW w.ls x w.pts=true) (c:Int) (hly:y.length=w.ls.length):
 WdOk {w with on:=mix y.length 0 (fun i=>x.getD i false) (fun i=>y.getD i false&&x.getD i false),earth:=List.replicate y.length false,pm:=[],br:=[]}→ ∀k,k≤y.length→
 (xu y x k).foldl bC (c,{w with on:=mix y.length 0 (fun i=>x.getD i false) (fun i=>y.getD i false&&x.getD i false),earth:=List.replicate y.length false,pm:=[],br:=[]})=(c+((xu y x k).length:Int),{w with on:=mix y.length k (fun i=>x.getD i false) (fun i=>y.getD i false&&x.getD i false),earth:=List.replicate y.length false,pm:=[],br:=[]})
 |h,0,_=>by simp [xu]
 |h,k+1,hk=>by
  have ih:=Lm hlx hrx c hly h k (by omega)
  have hok:=jj (xu y x k) (s:=(c,_)) h
  rw [ih] at hok
  try dsimp only at hok
  rw [Tc]
  cases hc:x.getD k false&& !y.getD k false
  ·simp only [Bool.false_eq_true,if_false,List.append_nil]
   rw [ih]
   refine Prod.ext rfl ?_
   dsimp only
   rw [←LC]
   revert hc;cases y.getD k false<;>cases x.getD k false<;>simp
  ·simp only [if_true]
   rw [List.foldl_append,ih,List.length_append]
   generalize hc1:c+((xu y x k).length:Int)=c1 at*
   simp only [Bool.and_eq_true,Bool.not_eq_true'] at hc
   have hset:=JD (f:=fun i=>x.getD i false) (g:=fun i=>y.getD i false&&x.getD i false) (show k<y.length by omega)
   try dsimp only at hset
   rw [hc.1] at hset
   have hm:fi (mix y.length k (fun i=>x.getD i false) (fun i=>y.getD i false&&x.getD i false),List.replicate y.length false,[]) 0 (k:Int) 0=true:=by
    show (!(mix y.length k (fun i=>x.getD i false) (fun i=>y.getD i false&&x.getD i false)).getD (k:Int).toNat false&& !(List.replicate y.length false).getD (k:Int).toNat false)=true
    rw [Int.toNat_natCast,JC (by omega),if_neg (by omega),hc.2]
    have:(List.replicate y.length false).getD k false=false:=by
     simp only [List.getD,List.getElem?_replicate];split<;>rfl
    rw [this];rfl
   have ha:0≤(k:Int)∧(k:Int)<((mix y.length k (fun i=>x.getD i false) (fun i=>y.getD i false&&x.getD i false)).length:Int):=by rw [xQ];omega
   have hput:cT (mix y.length k (fun i=>x.getD i false) (fun i=>y.getD i false&&x.getD i false),List.replicate y.length false,[]) 0 (k:Int) 0=(mix y.length (k+1) (fun i=>x.getD i false) (fun i=>y.getD i false&&x.getD i false),List.replicate y.length false,[]):=by
    show ((mix y.length k (fun i=>x.getD i false) (fun i=>y.getD i false&&x.getD i false)).set (k:Int).toNat true,List.replicate y.length false,([]:Pm))=_
    rw [Int.toNat_natCast,hset]
   have hdo:dK (mix y.length k (fun i=>x.getD i false) (fun i=>y.getD i false&&x.getD i false),List.replicate y.length false,[]) 0 (k:Int) 0=((mix y.length (k+1) (fun i=>x.getD i false) (fun i=>y.getD i false&&x.getD i false),List.replicate y.length false,[]),true):=by
    rcases rl (w:=(mix y.length k (fun i=>x.getD i false) (fun i=>y.getD i false&&x.getD i false),List.replicate y.length false,[])) hok.work 0 (k:Int) 0 with ⟨g,_⟩ |⟨_,g⟩
    ·rw [g,hput]
    ·exact absurd ⟨ha,hm⟩ g
   have hrad:kW w.ls (mix y.length (k+1) (fun i=>x.getD i false) (fun i=>y.getD i false&&x.getD i false)) w.pts=true:=by
    refine Hd (by rw [xQ,hly]) hlx (fun i hi=>?_) hrx
    rcases Nat.lt_or_ge i y.length with h1 |h1
    ·rw [JC h1] at hi
     split at hi
     ·exact hi
     ·rw [Bool.and_eq_true] at hi;exact hi.2
    ·rw [XS (by rw [xQ];exact h1)] at hi;cases hi
   have hstep:bC (c1,{w with on:=mix y.length k (fun i=>x.getD i false) (fun i=>y.getD i false&&x.getD i false),earth:=List.replicate y.length false,pm:=[],br:=[]}) (0,(k:Int),0)=(c1+1,{w with on:=mix y.length (k+1) (fun i=>x.getD i false) (fun i=>y.getD i false&&x.getD i false),earth:=List.replicate y.length false,pm:=[],br:=[]}):=by
    have e:bO {w with on:=mix y.length k (fun i=>x.getD i false) (fun i=>y.getD i false&&x.getD i false),earth:=List.replicate y.length false,pm:=[],br:=[]} 0 (k:Int) 0=({w with on:=mix y.length (k+1) (fun i=>x.getD i false) (fun i=>y.getD i false&&x.getD i false),earth:=List.replicate y.length false,pm:=[],br:=[]},true):=by
     exact abk hok (a:=(k:Int)) (who:=0) ha (by simp) hdo hrad
    unfold bC
    dsimp only
    rw [e];rfl
   rw [List.foldl_cons,List.foldl_nil,hstep]
   exact Prod.ext (by simp only [List.length_singleton];omega) rfl
def Pp (w:Wd):Wd:= {w with on:=(nj w.ls w.on w.pts).getD w.on,earth:=List.replicate w.on.length false,pm:=[],br:=[]}
theorem Sk {w:Wd} (h:WdOk w):xI w (wN w)=(((wN w).length:Int),Pp w):=by
 unfold xI
 rw [if_pos (cC.2 h)]
 unfold wN
 rw [List.foldl_append,List.foldl_append,List.foldl_append,DY h 0]
 have k1:WdOk (w.put (w.on,w.earth,[])):=by
  have:=jj (bY w.pm) (s:=(0,w)) h
  rw [DY h 0] at this;exact this
 generalize hc1:(0:Int)+((bY w.pm).length:Int)=c1
 have e2:(dN w.earth w.br).foldl bC (c1,w.put (w.on,w.earth,[]))=(c1+((dN w.earth w.br).length:Int),⟨w.b,w.ls,w.pts,w.on,bP w.earth w.br,[],[]⟩):=Ll w.br c1 (w.put (w.on,w.earth,[])) k1 rfl rfl
 rw [e2]
 have k2:WdOk ⟨w.b,w.ls,w.pts,w.on,bP w.earth w.br,[],[]⟩:=by
  have:=jj (dN w.earth w.br) (s:=(c1,w.put (w.on,w.earth,[]))) k1
  rw [e2] at this;exact this
 generalize hc2:c1+((dN w.earth w.br).length:Int)=c2
 have e3:(dO 3 (bP w.earth w.br) true w.on.length).foldl bC (c2,⟨w.b,w.ls,w.pts,w.on,bP w.earth w.br,[],[]⟩)=(c2+((dO 3 (bP w.earth w.br) true w.on.length).length:Int),⟨w.b,w.ls,w.pts,w.on,List.replicate w.on.length false,[],[]⟩):=Nj k2 rfl c2
 rw [e3]
 have k3:WdOk ⟨w.b,w.ls,w.pts,w.on,List.replicate w.on.length false,[],[]⟩:=by
  have:=jj (dO 3 (bP w.earth w.br) true w.on.length) (s:=(c2,_)) k2
  rw [e3] at this;exact this
 generalize hc3:c2+((dO 3 (bP w.earth w.br) true w.on.length).length:Int)=c3
 have hlen: ∀m:Nat,c3+(m:Int)=(((bY w.pm).length+(dN w.earth w.br).length+(dO 3 (bP w.earth w.br) true w.on.length).length+m:Nat):Int):=by intro m;omega
 rw [List.length_append,List.length_append,List.length_append,←hlen]
 unfold Pp FF
 cases hb:nj w.ls w.on w.pts with
 |none=>exact Prod.ext (Int.add_zero c3).symm rfl
 |some x=>
  obtain ⟨hx1,hx2⟩:=uV hb
  dsimp only
  rw [List.foldl_append]
  have e4:=Iw k3 (x:=x) c3 w.on.length (Nat.le_refl _)
  dsimp only at e4
  have k4:=jj (oD w.on x w.on.length) (s:=(c3,_)) k3
  rw [e4] at k4
  rw [e4]
  dsimp only at k4
  have hm:mix w.on.length w.on.length (fun i=>w.on.getD i false&&x.getD i false) (fun i=>w.on.getD i false)=mix w.on.length 0 (fun i=>x.getD i false) (fun i=>w.on.getD i false&&x.getD i false):=by
   unfold mix
   refine List.map_congr_left fun i hi=>?_
   have:i<w.on.length:=by simpa using hi
   rw [if_pos this,if_neg (by omega)]
  rw [hm] at k4 ⊢
  have e5:=Lm (w:=w) hx1 (Gu hx2) (c3+((oD w.on x w.on.length).length:Int)) h.len k4 w.on.length (Nat.le_refl _)
  rw [e5]
  refine Prod.ext ?_ ?_
  ·dsimp only;rw [List.length_append];omega
  ·dsimp only [Option.getD]
   have hxn:x.length=w.on.length:=hx1.trans h.len.symm
   have:mix w.on.length w.on.length (fun i=>x.getD i false) (fun i=>w.on.getD i false&&x.getD i false)=x:=by
    apply List.ext_getElem (by rw [xQ,hxn])
    intro i h1 h2
    rw [xQ] at h1
    simp [mix,List.getD,h1,h2]
   rw [this]
theorem Hp {n:Nat} {f:Nat→Int} {p:Nat→Prop} (hf: ∀b,b<n→0≤f b∧f b≤999):0≤Er n f p∧Er n f p≤999*n:=by
 unfold Er
 induction n with
 |zero=>simp
 |succ n ih=>
  have h1:=ih fun b hb=>hf b (by omega)
  have h2:=hf n (by omega)
  rw [List.range_succ,List.map_append,List.sum_append]
  simp only [List.map_cons,List.map_nil,List.sum_cons,List.sum_nil]
  split<;>omega
def lG (n:Nat) (f:Nat→Int):List Int:=(List.range n).map f
theorem oG (n:Nat) (f:Nat→Int):(lG n f).length=n:=by simp [lG]
theorem jT {n k:Nat} {f:Nat→Int} (h:k<n):(lG n f).getD k 0=f k:=by simp [lG,List.getD,h]
theorem vx {n k:Nat} {f g:Nat→Int} {v:Int} (hk:k<n) (h1:g k=v) (h2: ∀j,j<n→j≠k→g j=f j):(lG n f).set k v=lG n g:=by
 apply List.ext_getElem (by simp [lG])
 intro i a b
 have hi:i<n:=by simpa [lG] using b
 rw [List.getElem_set]
 simp only [lG,List.getElem_map,List.getElem_range]
 split
 ·rename_i e;subst e;exact h1.symm
 ·rename_i e;exact (h2 i hi (Ne.symm e)).symm
theorem pe {n:Nat} {f g:Nat→Int} (h: ∀j,j<n→f j=g j):lG n f=lG n g:=List.map_congr_left fun j hj=>h j (by simpa using hj)
theorem Uf (n:Nat):lG n (fun _=>0)=List.replicate n 0:=by
 apply List.ext_getElem (by simp [lG])
 intro i a b
 simp [lG]
open Classical in
noncomputable def XM (ls:List Ln) (on:List Bool) (pts:List (Int×Int)) (par:Nat→Int) (rk:Nat→Nat) (i k:Nat):Int:=if ∃d,0≤par d∧(par d).toNat=k∧i≤rk d then fO ls on pts k else 0
theorem Nf {b:Int} {ls:List Ln} {on:List Bool} {pts:List (Int×Int)} (h2:BusOk b ls pts) {c:Nat} (h:ia (aA ls on) pts c=true):c<pts.length:=by
 obtain ⟨f,f1,f2⟩:=mq.1 h
 cases f2 with
 |refl=>exact pR f1
 |step _ e=>
  rcases e with e |e
  ·exact (Tb h2 on _ e).2
  ·exact (Tb h2 on _ e).1
theorem Ye {l:List Nat} (h:l.Nodup) {i:Nat} (hi:i<l.length):l.idxOf (l.getD i 0)=i:=by
 rw [ai hi]
 have hm:l.idxOf l[i]<l.length:=List.idxOf_lt_length_iff.2 (List.getElem_mem hi)
 have h1:=List.getElem_idxOf hm
 rw [List.nodup_iff_pairwise_ne,List.pairwise_iff_getElem] at h
 rcases Nat.lt_trichotomy (l.idxOf l[i]) i with h2 |h2 |h2
 ·exact absurd h1 (h _ _ hm hi h2)
 ·exact h2
 ·exact absurd h1.symm (h _ _ hi hm h2)
section
variable {ls:List Ln} {on:List Bool} {pts:List (Int×Int)} {feed parent:List Int} {ord:List Nat} (h1:StOk (pts.length:Int) ls on) (h2:BusOk (pts.length:Int) ls pts) (hr:kW ls on pts=true) (T:TreeOk ls on pts feed parent ord)
include h2 T
theorem YT: ∀a b,ia (aA ls on) pts a=true→ia (aA ls on) pts b=true→ord.idxOf a=ord.idxOf b→a=b:=by
 intro a b ha hb e
 have ha':=(T.mem a).2 ⟨Nf h2 ha,ha⟩
 have hb':=(T.mem b).2 ⟨Nf h2 hb,hb⟩
 have h3:=List.getElem_idxOf (List.idxOf_lt_length_iff.2 ha')
 have h4:=List.getElem_idxOf (List.idxOf_lt_length_iff.2 hb')
 rw [←h3,←h4]
 congr 1
theorem Xb {d:Nat} (h:0≤parent.getD d (-1)):ord.idxOf d<ord.length:=by
 obtain ⟨c,hc,_⟩:=T.par.line d h
 have hf:ia (aA ls on) pts d=true:=Up.fed T.par ⟨h,hc⟩
 exact List.idxOf_lt_length_iff.2 ((T.mem d).2 ⟨Nf h2 hf,hf⟩)
include h1 hr
theorem Sq:gk (pts.length:Int) ls feed parent (zl ord) pts=some (lG ls.length (fO ls on pts)):=by
 have hll:=h1.net.ll;have hB:=h1.net.b1
 have hol:ord.length≤pts.length:=uL _ ord T.nd fun b hb=>((T.mem b).1 hb).1
 have hf2: ∀c,c<pts.length→0≤(pts.getD c (0,0)).2∧(pts.getD c (0,0)).2≤999:=fun c hc=>(h2.bs c hc).2
 unfold gk
 have m1:yk (ls.length:Int)=true:=by simp [yk];omega
 have m2:yk (pts.length:Int)=true:=by simp [yk];omega
 have w0:ax (((zl ord).length:Int)-1)=(ord.length:Int)-1:=by rw [cf,aP (by omega) (by omega)]
 rw [m1,m2,aa,aa,w0]
 have P:=T.par
 have hh:=aC (gl (pts.length:Int) ls feed parent (zl ord) pts) (fun k=>(lG ls.length (XM ls on pts (fun b=>parent.getD b (-1)) (fun b=>ord.idxOf b) (ord.length-k)),lG pts.length (oR ls on pts (fun b=>parent.getD b (-1)) (fun b=>ord.idxOf b) (ord.length-k)),(ord.length:Int)-(k:Int)-1)) ord.length (some (lG ls.length (fO ls on pts))) (by omega) (fun k fuel hk=>?_) (fun fuel=>?_)
 ·have e1:lG ls.length (XM ls on pts (fun b=>parent.getD b (-1)) (fun b=>ord.idxOf b) (ord.length-0))=List.replicate ls.length 0:=by
   rw [←Uf]
   refine pe fun j hj=>?_
   unfold XM
   rw [if_neg]
   rintro ⟨d,d1,_,d3⟩
   have:=Xb h2 T d1
   dsimp only at d3;omega
  have e2:lG pts.length (oR ls on pts (fun b=>parent.getD b (-1)) (fun b=>ord.idxOf b) (ord.length-0))=List.replicate pts.length 0:=by
   rw [←Uf]
   refine pe fun j hj=>QR fun b hb=>?_
   rintro (⟨_,hF,hi⟩ |⟨d,d1,d2,_⟩)
   ·have:=List.idxOf_lt_length_iff.2 ((T.mem j).2 ⟨hj,hF⟩)
    dsimp only at hi;omega
   ·have:=Xb h2 T d1.1
    dsimp only at d2;omega
  rw [e1,e2] at hh
  rw [show (ord.length:Int)-1=(ord.length:Int)-((0:Nat):Int)-1 by omega,hh];rfl
 · -- the bus at i
  obtain ⟨i,hi⟩: ∃i,ord.length-k=i+1:=⟨ord.length-k-1,by omega⟩
  have hio:i<ord.length:=by omega
  have e0:(ord.length:Int)-(k:Int)-1=(i:Int):=by omega
  have e3:(ord.length:Int)-((k+1:Nat):Int)-1=(i:Int)-1:=by omega
  have e4:ord.length-(k+1)=i:=by omega
  rw [hi,e0,e3,e4,pG,fq]
  obtain ⟨o,ho⟩: ∃o,ord.getD i 0=o:=⟨_,rfl⟩
  have hom:o∈ord:=by rw [←ho,ai hio];exact List.getElem_mem hio
  obtain ⟨hon,hof⟩:=(T.mem o).1 hom
  have hrk:ord.idxOf o=i:=by rw [←ho];exact Ye T.nd hio
  have hpo:parent.getD o 0=parent.getD o (-1):=by rw [ai (by rw [T.lp];exact hon),ai (by rw [T.lp];exact hon)]
  have hinj:=YT h2 T
  have hself:=Par.want_self P (i:=i) (o:=o) hrk hon hof
  have hnow:=Par.want_now P (i:=i) (o:=o) hrk hof
  have hb1:0≤nA ls on pts (fun b=>parent.getD b (-1)) o∧nA ls on pts (fun b=>parent.getD b (-1)) o≤999*pts.length:=Hp hf2
  have ws:ax (oR ls on pts (fun b=>parent.getD b (-1)) (fun b=>ord.idxOf b) (i+1) o+(pts.getD o (0,0)).2)=nA ls on pts (fun b=>parent.getD b (-1)) o:=by rw [hself];exact aP (by omega) (by omega)
  have wi:ax ((i:Int)-1)=(i:Int)-1:=aP (by omega) (by omega)
  have hge:bc 0 (i:Int)=true:=by simp [bc]
  have hxo:aB (o:Int) parent.length=true:=by rw [T.lp];exact ah hon
  simp only [hge,cond_true,cf,ah hio,aa,Int.toNat_natCast,rY,ho,ah hon,hxo,jT hon,ws,wi]
  by_cases hp:0≤parent.getD o (-1)
  ·obtain ⟨c,hlk,hc,hfc,hrc⟩:=P.line o hp
   obtain ⟨j,hj⟩: ∃j:Nat,parent.getD o (-1)=(j:Int):=⟨(parent.getD o (-1)).toNat,by omega⟩
   have hlk':=hlk
   rw [hj,Int.toNat_natCast] at hlk
   have hne:c≠o:=fun e=>by subst e;omega
   have u:Up ls on (fun b=>parent.getD b (-1)) o c:=⟨hp,hlk'⟩
   have hup:=Par.want_up P hinj hrk u
   have habove:kF (pts.length:Int) ls feed parent (zl ord) (o:Int)=some (c:Int):=by
    unfold kF
    rw [hxo,aa,Int.toNat_natCast,hpo,hj,ah hlk.1,aa,Int.toNat_natCast]
    obtain ⟨z,z1,z2⟩:=LP h1 (b:=o) hlk.1
    rw [z1,Option.bind_some]
    rcases z2 with ⟨_,z3⟩ |⟨c',rfl,_,_,z4⟩
    ·exact absurd hlk (z3 c)
    ·rw [z4 c hlk]
   have hgj:bc 0 (parent.getD o 0)=true:=by rw [hpo];simpa [bc] using hp
   have hxj:aB (parent.getD o 0) ls.length=true:=by rw [hpo,hj];exact ah hlk.1
   have hset1:((lG pts.length (oR ls on pts (fun b=>parent.getD b (-1)) (fun b=>ord.idxOf b) (i+1))).set o (nA ls on pts (fun b=>parent.getD b (-1)) o)).getD o 0=nA ls on pts (fun b=>parent.getD b (-1)) o:=tG (by rw [oG];exact hon)
   have hset2:((lG pts.length (oR ls on pts (fun b=>parent.getD b (-1)) (fun b=>ord.idxOf b) (i+1))).set o (nA ls on pts (fun b=>parent.getD b (-1)) o)).getD c 0=oR ls on pts (fun b=>parent.getD b (-1)) (fun b=>ord.idxOf b) (i+1) c:=by rw [fj (Ne.symm hne),jT hc]
   have hb2:0≤oR ls on pts (fun b=>parent.getD b (-1)) (fun b=>ord.idxOf b) i c∧oR ls on pts (fun b=>parent.getD b (-1)) (fun b=>ord.idxOf b) i c≤999*pts.length:=Hp hf2
   have wc:ax (oR ls on pts (fun b=>parent.getD b (-1)) (fun b=>ord.idxOf b) (i+1) c+nA ls on pts (fun b=>parent.getD b (-1)) o)=oR ls on pts (fun b=>parent.getD b (-1)) (fun b=>ord.idxOf b) i c:=by rw [←hup];exact aP (by omega) (by omega)
   simp only [hgj,cond_true,hxj,aa,habove,Option.bind_some,ah hc,ah hon,Int.toNat_natCast,hset1,hset2,wc]
   congr 2
   ·rw [hpo,hj,Int.toNat_natCast]
    have hfl:fO ls on pts (parent.getD o (-1)).toNat=nA ls on pts (fun b=>parent.getD b (-1)) o:=Par.flow P h1.len hr (d:=o) hp
    have hbel:nA ls on pts (fun b=>parent.getD b (-1)) o=fO ls on pts j:=by
     rw [hj,Int.toNat_natCast] at hfl
     exact hfl.symm
    refine vx hlk.1 ?_ fun k' hk' hne'=>?_
    ·unfold XM
     rw [if_pos ⟨o,hp,by dsimp only;rw [hj];rfl,by dsimp only;omega⟩,hbel]
    ·unfold XM
     by_cases hex: ∃d,0≤(fun b=>parent.getD b (-1)) d∧((fun b=>parent.getD b (-1)) d).toNat=k'∧i+1≤(fun b=>ord.idxOf b) d
     ·rw [if_pos hex]
      obtain ⟨d,d1,d2,d3⟩:=hex
      rw [if_pos ⟨d,d1,d2,by omega⟩]
     ·rw [if_neg hex,if_neg]
      rintro ⟨d,d1,d2,d3⟩
      refine hex ⟨d,d1,d2,?_⟩
      dsimp only at d1 d2 d3 ⊢
      rcases Nat.lt_or_ge i (ord.idxOf d) with h |h
      ·exact h
      ·exfalso
       obtain ⟨c',hc',_⟩:=P.line d d1
       have:d=o:=hinj d o (Up.fed P ⟨d1,hc'⟩) hof (by omega)
       subst this
       rw [hj] at d2
       exact hne' (by simpa using d2.symm)
   ·congr 1
    rw [vx (g:=fun x=>if x=o then nA ls on pts (fun b=>parent.getD b (-1)) o else oR ls on pts (fun b=>parent.getD b (-1)) (fun b=>ord.idxOf b) (i+1) x) hon (if_pos rfl) (fun j' _ hj'=>if_neg hj')]
    refine vx hc rfl fun x hx hxc=>?_
    by_cases hxo2:x=o
    ·subst hxo2;rw [if_pos rfl];exact hnow
    ·rw [if_neg hxo2]
     exact Par.want_else P hinj hrk hof hxo2 fun u'=>hxc (u'.inj u).symm.symm
  ·have hgj:bc 0 (parent.getD o 0)=false:=by rw [hpo];simp only [bc,decide_eq_false_iff_not];exact hp
   simp only [hgj,cond_false,Option.bind_some]
   congr 2
   ·refine pe fun k' hk'=>?_
    unfold XM
    by_cases hex: ∃d,0≤(fun b=>parent.getD b (-1)) d∧((fun b=>parent.getD b (-1)) d).toNat=k'∧i+1≤(fun b=>ord.idxOf b) d
    ·rw [if_pos hex]
     obtain ⟨d,d1,d2,d3⟩:=hex
     rw [if_pos ⟨d,d1,d2,by omega⟩]
    ·rw [if_neg hex,if_neg]
     rintro ⟨d,d1,d2,d3⟩
     refine hex ⟨d,d1,d2,?_⟩
     dsimp only at d1 d2 d3 ⊢
     rcases Nat.lt_or_ge i (ord.idxOf d) with h |h
     ·exact h
     ·exfalso
      obtain ⟨c',hc',_⟩:=P.line d d1
      have:d=o:=hinj d o (Up.fed P ⟨d1,hc'⟩) hof (by omega)
      subst this
      exact hp d1
   ·congr 1
    refine vx hon hnow fun x hx hxo2=>?_
    exact Par.want_else P hinj hrk hof hxo2 fun u'=>hp u'.1
 ·rw [pG,fq]
  have e0:bc 0 ((ord.length:Int)-(ord.length:Int)-1)=false:=by simp only [bc,decide_eq_false_iff_not];omega
  simp only [e0,cond_false,Nat.sub_self]
  congr 1
  refine pe fun k hk=>?_
  unfold XM
  by_cases hex: ∃d,0≤(fun b=>parent.getD b (-1)) d∧((fun b=>parent.getD b (-1)) d).toNat=k∧0≤(fun b=>ord.idxOf b) d
  ·rw [if_pos hex]
  ·rw [if_neg hex]
   exact (Par.flow0 P h1.len hr fun d d1 d2=>hex ⟨d,d1,d2,Nat.zero_le _⟩).symm
omit hr in
theorem XW {b:Nat} (hb:b<pts.length):kG (pts.length:Int) ls feed parent (zl ord) pts (b:Int)=some (if aL pts b=true then di (aA ls on) pts (·.2) b else 0):=by
 have hB:=h1.net.b1
 unfold kG
 have hf2: ∀c,c<pts.length→0≤(pts.getD c (0,0)).2∧(pts.getD c (0,0)).2≤999:=fun c hc=>(h2.bs c hc).2
 have hbd: ∀k,k≤pts.length→0≤((List.range k).map fun c=>if feed.getD c 0=(b:Int) then (pts.getD c (0,0)).2 else 0).sum∧((List.range k).map fun c=>if feed.getD c 0=(b:Int) then (pts.getD c (0,0)).2 else 0).sum≤999*k:=by
  intro k
  induction k with
  |zero=>intro _;simp
  |succ k ih=>
   intro hk
   have i1:=ih (by omega)
   have i2:=hf2 k (by omega)
   rw [List.range_succ,List.map_append,List.sum_append]
   simp only [List.map_cons,List.map_nil,List.sum_cons,List.sum_nil]
   split<;>omega
 have hh:=aC (du feed pts (b:Int)) (fun k=>(((List.range k).map fun c=>if feed.getD c 0=(b:Int) then (pts.getD c (0,0)).2 else 0).sum,(k:Int))) pts.length (some (((List.range pts.length).map fun c=>if feed.getD c 0=(b:Int) then (pts.getD c (0,0)).2 else 0).sum)) (by omega) (fun k fuel hk=>?_) (fun fuel=>?_)
 ·rw [show du feed pts (b:Int) aq (0,0)=_ from hh,Option.bind_some]
  congr 1
  by_cases hfb:aL pts b=true
  ·rw [if_pos hfb]
   refine pY fun c hc=>?_
   have:=T.fd c b hc
   by_cases e:aW (aA ls on) c=aW (aA ls on) b
   ·rw [if_pos e,if_pos (this.2 ⟨hfb,((oc _ _ _).1 e).symm⟩)]
   ·rw [if_neg e,if_neg fun e2=>e ((oc _ _ _).2 (this.1 e2).2.symm)]
  ·rw [if_neg hfb]
   exact xF fun c hc=>if_neg fun e2=>hfb ((T.fd c b hc).1 e2).1
 ·rw [pH,ft]
  have hx:aB (k:Int) feed.length=true:=by rw [T.lf];exact ah hk
  have i1:=hbd k (by omega)
  have i2:=hf2 k hk
  have wk:ax (((List.range k).map fun c=>if feed.getD c 0=(b:Int) then (pts.getD c (0,0)).2 else 0).sum+(pts.getD k (0,0)).2)=((List.range k).map fun c=>if feed.getD c 0=(b:Int) then (pts.getD c (0,0)).2 else 0).sum+(pts.getD k (0,0)).2:=aP (by omega) (by omega)
  have hlt:av (k:Int) (feed.length:Int)=true:=by rw [T.lf];exact az hk
  simp only [hlt,cond_true,hx,aa,Int.toNat_natCast,ah hk,wk,af (by omega:k<4611686018427387904)]
  rw [List.range_succ,List.map_append,List.sum_append]
  simp only [List.map_cons,List.map_nil,List.sum_cons,List.sum_nil]
  by_cases e:feed.getD k 0=(b:Int)
  ·rw [if_pos e,show (feed.getD k 0==(b:Int))=true by rw [e];simp]
   simp
  ·rw [if_neg e,show (feed.getD k 0==(b:Int))=false by simpa using e]
   simp
 ·rw [pH,ft]
  have hlt:av (pts.length:Int) (feed.length:Int)=false:=by rw [T.lf];exact ak
  simp only [hlt,cond_false]
theorem abA:lQ (pts.length:Int) ls feed parent (zl ord) pts=some (dk ls on pts):=by
 have hll:=h1.net.ll;have hB:=h1.net.b1
 unfold lQ dk
 rw [Sq h1 h2 hr T,Option.bind_some,hr]
 have a1:=cc (ej ls (lG ls.length (fO ls on pts))) (fun k=>(k:Int)) ls.length (fun k=>decide ((ls.getD k (0,0,0)).2.2<fO ls on pts k)) (some (.inr false)) (some (.inl ())) (by omega) (fun k fuel hk=>?_) (fun fuel=>?_)
 ·have a2:=cc (ek (pts.length:Int) ls feed parent (zl ord) pts) (fun k=>(k:Int)) pts.length (fun b=>aL pts b&&decide ((pts.getD b (0,0)).1<di (aA ls on) pts (·.2) b)) (some (.inr false)) (some (.inl ())) (by omega) (fun k fuel hk=>?_) (fun fuel=>?_)
  ·rw [show ej ls (lG ls.length (fO ls on pts)) aq 0=_ from a1,show ek (pts.length:Int) ls feed parent (zl ord) pts aq 0=_ from a2]
   cases (List.range ls.length).any fun k=>decide ((ls.getD k (0,0,0)).2.2<fO ls on pts k)
   ·cases (List.range pts.length).any fun b=>aL pts b&&decide ((pts.getD b (0,0)).1<di (aA ls on) pts (·.2) b)<;>rfl
   ·rfl
  ·rw [qt,gn]
   simp only [az hk,ah hk,cond_true,aa,Int.toNat_natCast,XW h1 h2 T hk,Option.bind_some,af (by omega:k<4611686018427387904)]
   have:=(h2.bs k hk).1
   cases hfa:aL pts k
   ·have:av (pts.getD k (0,0)).1 (if false=true then di (aA ls on) pts (·.2) k else 0)=false:=by
     simp only [Bool.false_eq_true,if_false,av,decide_eq_false_iff_not];omega
    rw [this];rfl
   ·rfl
  ·rw [qt,gn];simp only [ak,cond_false]
 ·rw [qs,gm]
  simp only [oG,az hk,ah hk,cond_true,aa,Int.toNat_natCast,jT hk,af (by omega:k<4611686018427387904)]
  rfl
 ·rw [qs,gm];simp only [oG,ak,cond_false]
end
theorem Sr (b:Int) (ls:List Ln) (on:List Bool) (pts:List (Int×Int)) (hp:pts.length≤1048576):oi b ls on pts=some (LK b ls on pts&&dk ls on pts):=by
 obtain ⟨r,r1,r2,r3⟩:=SB b ls on pts hp
 unfold oi
 rw [r1,Option.bind_some,r2]
 cases hv:uQ b ls on pts
 ·simp only [pS,Option.bind_some,Bool.false_and]
  congr 1
  cases ho:LK b ls on pts
  ·rfl
  ·cases hg:dk ls on pts
   ·rfl
   ·have:=Gu hg
    unfold uQ at hv
    rw [ho,this] at hv;cases hv
 ·obtain ⟨g1,g2,ord,g3,T⟩:=r3 hv
  have hv':=hv
  unfold uQ at hv'
  rw [Bool.and_eq_true] at hv'
  obtain ⟨h1,h2⟩:=fG.1 hv'.1
  have hlp:=h2.lp
  subst hlp
  rw [g1,g2,g3,show Yf true ls=ls from rfl,abA h1 h2 hv'.2 T,hv'.1]
  simp only [cw,Option.bind_some,Bool.true_and]
section
variable {ls:List Ln} {on:List Bool} {pts:List (Int×Int)} (h1:StOk (pts.length:Int) ls on) (h2:BusOk (pts.length:Int) ls pts)
include h1 h2
theorem Mo {k:Nat} (hk:k<pts.length):gG (pts.length:Int) ls on pts (k:Int)=some (di (aA ls on) pts (·.2) k):=by
 have hB:=h1.net.b1
 unfold gG aw
 have w1:ax ((pts.length:Int)-1)=(pts.length:Int)-1:=aP (by omega) (by omega)
 have c1:(bc 0 (k:Int)&&bc (k:Int) ((pts.length:Int)-1))=true:=by simp [bc];omega
 rw [QI _ ls pts (by omega),fG.2 ⟨h1,h2⟩,Option.bind_some,w1,c1]
 simp only [Bool.not_true,Bool.not_false,cw,Option.bind_some,Bool.or_self,cond_false,Hk h1 hk]
 rw [←IL]
 have hl:=yU (aA ls on) pts.length k
 have hm: ∀c∈qf (aA ls on) pts.length k,c<pts.length:=fun c hc=>by have:=(List.mem_filter.1 hc).1;simpa using this
 generalize qf (aA ls on) pts.length k=l at*
 have hh:=aC (dB pts (zl l)) (fun j=>(((l.take j).map fun c=>(pts.getD c (0,0)).2).sum,(j:Int))) l.length (some ((l.map fun c=>(pts.getD c (0,0)).2).sum)) (by omega) (fun j fuel hj=>?_) (fun fuel=>?_)
 ·rw [show dB pts (zl l) aq (0,0)=_ from hh];rfl
 ·rw [pM,fB]
  have hc:l.getD j 0<pts.length:=hm _ (by rw [ai hj];exact List.getElem_mem hj)
  have hb:=PJ (l.take j) (fun c=>(pts.getD c (0,0)).2) (fun c hc=>(h2.bs c (hm c (List.mem_of_mem_take hc))).2)
  have hlen:(l.take j).length=j:=by rw [List.length_take];omega
  have hx:=(h2.bs _ hc).2
  rw [hlen] at hb
  have w2:ax (((l.take j).map fun c=>(pts.getD c (0,0)).2).sum+(pts.getD (l.getD j 0) (0,0)).2)=((l.take j).map fun c=>(pts.getD c (0,0)).2).sum+(pts.getD (l.getD j 0) (0,0)).2:=aP (by omega) (by omega)
  simp only [cf,az hj,ah hj,cond_true,aa,Int.toNat_natCast,rY,ah hc,w2,af (by omega:j<4611686018427387904)]
  rw [yG hj]
 ·rw [pM,fB];simp only [cf,ak,cond_false,List.take_length]
end
theorem QS {Pr:Nat→Prop} (E:Ed):(∀e∈E,Pr e.1↔Pr e.2)→ ∀ {s:Nat→Bool},(∀c,s c=true→Pr c)→ ∀c,lF E s c=true→Pr c:=by
 induction E with
 |nil=>intro _ s h c hc;exact h c hc
 |cons e E ih=>
  intro hE s h c hc
  refine ih (fun x hx=>hE x (by simp [hx])) (s:=Iy s e) (fun c hc=>?_) c hc
  unfold Iy at hc
  split at hc
  ·rename_i hs
   have he:=hE e (by simp)
   have h3:Pr e.1∧Pr e.2:=by
    rw [Bool.or_eq_true] at hs
    rcases hs with hs |hs
    ·exact ⟨h _ hs,he.1 (h _ hs)⟩
    ·exact ⟨he.2 (h _ hs),h _ hs⟩
   simp only [Bool.or_eq_true,beq_iff_eq] at hc
   rcases hc with (rfl |rfl) |hc
   ·exact h3.1
   ·exact h3.2
   ·exact h c hc
  ·exact h c hc
theorem NV {E:Ed} {B:Nat} (hE: ∀e∈E,e.1<B∧e.2<B) (s0:Nat→Bool) (c:Nat):aU E s0 B c=true↔ ∃b,s0 b=true∧Cn E b c:=by
 have hsh: ∀k,MK E (aU E s0 k)∨k≤(List.range B).countP (aU E s0 k):=by
  intro k
  induction k with
  |zero=>exact .inr (Nat.zero_le _)
  |succ k ih=>
   by_cases hs:MK E (aU E s0 k)
   ·left
    have e:aU E s0 (k+1)=aU E s0 k:=funext (Hm hs)
    rw [e];exact hs
   ·rcases ih with ih |ih
    ·exact absurd ih hs
    right
    have hm: ∀c,aU E s0 k c=true→aU E s0 (k+1) c=true:=fun c hc=>pd E hc
    obtain ⟨e,he,hne⟩: ∃e∈E,aU E s0 k e.1≠aU E s0 k e.2:=by
     refine Classical.byContradiction fun hn=>hs fun e he=>Classical.byContradiction fun h=>hn ⟨e,he,h⟩
    have hor:(aU E s0 k e.1 ||aU E s0 k e.2)=true:=by
     revert hne;cases aU E s0 k e.1<;>cases aU E s0 k e.2<;>simp
    have hh:=IT E he hor
    have hlt:=hE e he
    have:=(KO (List.range B) hm).2 (by
     cases h1:aU E s0 k e.1
     ·exact ⟨e.1,by simpa using hlt.1,hh.1,h1⟩
     ·cases h2:aU E s0 k e.2
      ·exact ⟨e.2,by simpa using hlt.2,hh.2,h2⟩
      ·rw [h1,h2] at hne;exact absurd rfl hne)
    omega
 have hs:MK E (aU E s0 B):=by
  rcases hsh B with h |h
  ·exact h
  ·intro e he
   have hall: ∀x∈List.range B,aU E s0 B x=true:=by
    have h3:=List.countP_le_length (p:=aU E s0 B) (l:=List.range B)
    rw [List.length_range] at h3
    exact List.countP_eq_length.1 (by rw [List.length_range];omega)
   rw [hall e.1 (by simpa using (hE e he).1),hall e.2 (by simpa using (hE e he).2)]
 constructor
 ·intro h
  have hinv: ∀k c,aU E s0 k c=true→ ∃b,s0 b=true∧Cn E b c:=by
   intro k
   induction k with
   |zero=>intro c hc;exact ⟨c,hc,.refl _⟩
   |succ k ih=>
    refine QS E (fun e he=>?_) ih
    constructor
    ·rintro ⟨b,h1,h2⟩;exact ⟨b,h1,h2.step (.inl he)⟩
    ·rintro ⟨b,h1,h2⟩;exact ⟨b,h1,h2.step (.inr he)⟩
  exact hinv B c h
 ·rintro ⟨b,h1,h2⟩
  have hb: ∀k,aU E s0 k b=true:=by
   intro k
   induction k with
   |zero=>exact h1
   |succ k ih=>exact pd E ih
  induction h2 with
  |refl=>exact hb B
  |step _ e ih=>
   rcases e with e |e
   ·rw [←hs _ e];exact ih
   ·rw [hs _ e];exact ih
structure PI (ls:List Ln) (on:List Bool) (pts:List (Int×Int)) (q:Nat→Int):Prop where
 feed: ∀b,b<pts.length→aL pts b=true→q b= -1
 neg: ∀b,b<pts.length→q b= -1→aL pts b=true
 low: ∀b,b<pts.length→ -2≤q b
 hi: ∀b,b<pts.length→0≤q b→(q b).toNat<ls.length
 rk: ∃rk:Nat→Nat,∀b,b<pts.length→0≤q b→ ∃c,Lk ls on (q b).toNat b c∧c<pts.length∧ -2<q c∧rk c<rk b
theorem PI.put {ls:List Ln} {on:List Bool} {pts:List (Int×Int)} {q:Nat→Int} (h:PI ls on pts q) {k b c:Nat} (hb:b<pts.length) (hq:q b= -2) (hl:Lk ls on k b c) (hc:c<pts.length) (hqc: -2<q c):PI ls on pts (fun x=>if x=b then (k:Int) else q x):=by
 obtain ⟨rk,hrk⟩:=h.rk
 have hcb:c≠b:=fun e=>by subst e;omega
 refine ⟨fun x hx hf=>?_,fun x hx he=>?_,fun x hx=>?_,fun x hx h0=>?_,fun x=>if x=b then rk c+1 else rk x,fun x hx h0=>?_⟩
 ·try dsimp only
  split
  ·rename_i e;subst e;have:=h.feed x hx hf;omega
  ·exact h.feed x hx hf
 ·try dsimp only at he
  split at he
  ·omega
  ·exact h.neg x hx he
 ·try dsimp only
  split
  ·omega
  ·exact h.low x hx
 ·try dsimp only at h0 ⊢
  split at h0
  ·rename_i e;rw [if_pos e];simpa using hl.1
  ·rename_i e;rw [if_neg e];exact h.hi x hx h0
 ·try dsimp only at h0 ⊢
  by_cases e:x=b
  ·subst e
   rw [if_pos rfl,if_pos rfl]
   refine ⟨c,by simpa using hl,hc,?_,?_⟩
   ·rw [if_neg hcb];exact hqc
   ·rw [if_neg hcb];omega
  ·rw [if_neg e] at h0 ⊢
   obtain ⟨d,d1,d2,d3,d4⟩:=hrk x hx h0
   have hdb:d≠b:=fun e2=>by subst e2;omega
   refine ⟨d,d1,d2,?_,?_⟩
   ·rw [if_neg hdb];exact d3
   ·rw [if_neg hdb,if_neg e];exact d4
theorem PI.toPar {ls:List Ln} {on:List Bool} {pts:List (Int×Int)} {q:Nat→Int} (h:PI ls on pts q) (hs: ∀c,c<pts.length→(-2<q c↔ia (aA ls on) pts c=true)): ∃rk,Par ls on pts (fun b=>(lG pts.length q).getD b (-1)) rk:=by
 obtain ⟨rk,hrk⟩:=h.rk
 have hg: ∀b,b<pts.length→(lG pts.length q).getD b (-1)=q b:=fun b hb=>by simp [lG,List.getD,hb]
 refine ⟨rk,⟨fun b hb hf=>?_,fun b hb=>?_,fun b hb=>?_⟩⟩
 ·try dsimp only
  rw [hg b hb]
  have h1:=(hs b hb).2 hf
  by_cases h2:q b= -1
  ·exact .inl (h.neg b hb h2)
  ·exact .inr (by omega)
 ·have hlt:=pR hb
  try dsimp only
  rw [hg b hlt,h.feed b hlt hb];omega
 ·have hlt:b<pts.length:=by
   rcases Nat.lt_or_ge b pts.length with h1 |h1
   ·exact h1
   ·try dsimp only at hb
    rw [List.getD_eq_getElem?_getD,List.getElem?_eq_none (by rw [oG];exact h1)] at hb;simp at hb
  try dsimp only at hb ⊢
  rw [hg b hlt] at hb ⊢
  obtain ⟨c,c1,c2,c3,c4⟩:=hrk b hlt hb
  exact ⟨c,c1,c2,(hs c c2).1 c3,c4⟩
section
variable {ls:List Ln} {on:List Bool} {pts:List (Int×Int)} (h1:StOk (pts.length:Int) ls on) (h2:BusOk (pts.length:Int) ls pts)
include h1 h2
omit h2 in
theorem acn {p0:List Int} (hp0:p0.length=pts.length) {q:Nat→Int} (hq:PI ls on pts q) {s0:Nat→Bool} (hs: ∀c,c<pts.length→decide (-2<q c)=s0 c):
 ∃q',eG ls on p0 aq (lG pts.length q,0)=some (lG pts.length q')∧PI ls on pts q'∧ ∀c,c<pts.length→decide (-2<q' c)=lF (aA ls on) s0 c:=by
 have hll:=h1.net.ll;have hl:=h1.len
 obtain ⟨s,⟨q',rfl,r1,r2⟩,hh⟩:=uI (eG ls on p0) (fun k s=> ∃q,s=(lG pts.length q,(k:Int))∧PI ls on pts q∧ ∀c,c<pts.length→decide (-2<q c)=lF (uO ((ls.zip on).take k)) s0 c) ls.length (fun s=>some s.1) (by omega) (by
  rintro k fuel s hk ⟨q,rfl,r1,r2⟩
  rw [qJ,gY]
  have hln:=xi (h1.net.ln k hk)
  simp only [Int.toNat_natCast] at hln
  have hne:=(h1.net.ln k hk).ne
  rw [hln.1,hln.2.1] at hne
  have hlt:av (k:Int) (on.length:Int)=true:=by rw [hl];exact az hk
  simp only [hlt,ah hk,ah (show k<on.length by omega),aa,cond_true,Int.toNat_natCast,af (by omega:k<4611686018427387904)]
  rw [hln.1,hln.2.1]
  obtain ⟨e,he⟩: ∃e,cg (ls.getD k (0,0,0))=e:=⟨_,rfl⟩
  rw [he] at hln hne ⊢
  have hAB:e.1≠e.2:=by omega
  have xA:aB (e.1:Int) p0.length=true:=by rw [hp0];exact ah hln.2.2.1
  have xB:aB (e.2:Int) p0.length=true:=by rw [hp0];exact ah hln.2.2.2
  simp only [xA,xB,Int.toNat_natCast,Bool.or_true,aa]
  cases ho:on.getD k false
  ·simp only [Bool.false_and,cond_false,Option.bind_some]
   exact ⟨_,⟨q,rfl,r1,by rw [vA h1 hk,ho];simpa using r2⟩,rfl⟩
  ·have hlkA:Lk ls on k e.2 e.1:=⟨hk,ho,.inr he⟩
   have hlkB:Lk ls on k e.1 e.2:=⟨hk,ho,.inl he⟩
   have sA:=r2 e.1 hln.2.2.1
   have sB:=r2 e.2 hln.2.2.2
   simp only [Bool.true_and,jT hln.2.2.1,jT hln.2.2.2]
   by_cases c1: -2<q e.1∧q e.2= -2
   ·have g1:(av (-2) (q e.1)&&(q e.2== -2))=true:=by simp [av,c1.1,c1.2]
    obtain ⟨q1,hq1⟩: ∃q1:Nat→Int,q1=fun x=>if x=e.2 then (k:Int) else q x:=⟨_,rfl⟩
    have hset:(lG pts.length q).set e.2 (k:Int)=lG pts.length q1:=by rw [hq1];exact vx hln.2.2.2 (if_pos rfl) fun j _ hj=>if_neg hj
    have qA:q1 e.1=q e.1:=by rw [hq1];exact if_neg hAB
    have qB:q1 e.2=(k:Int):=by rw [hq1];exact if_pos rfl
    have g2:(av (-2) (k:Int)&&(q e.1== -2))=false:=by
     have:(q e.1== -2)=false:=by simp;omega
     rw [this,Bool.and_false]
    simp only [g1,cond_true,Option.bind_some,hset,jT hln.2.2.1,jT hln.2.2.2,qA,qB,g2,cond_false]
    subst hq1
    refine ⟨_,⟨_,rfl,r1.put hln.2.2.2 c1.2 hlkA hln.2.2.1 c1.1,fun c hc=>?_⟩,rfl⟩
    rw [vA h1 hk,ho,if_pos rfl,he,vv]
    have hor:(lF (uO ((ls.zip on).take k)) s0 e.1 ||lF (uO ((ls.zip on).take k)) s0 e.2)=true:=by rw [←sA,decide_eq_true c1.1];rfl
    unfold Iy
    rw [if_pos hor]
    try dsimp only
    by_cases hc2:c=e.2
    ·subst hc2;rw [if_pos rfl];simp;omega
    ·rw [if_neg hc2]
     by_cases hc1:c=e.1
     ·subst hc1;simp [c1.1]
     ·rw [r2 c hc];simp [hc1,hc2]
   ·have g1:(av (-2) (q e.1)&&(q e.2== -2))=false:=by
     rw [Bool.eq_false_iff];intro h;simp [av] at h;exact c1 h
    simp only [g1,cond_false,Option.bind_some,jT hln.2.2.1,jT hln.2.2.2]
    by_cases c2: -2<q e.2∧q e.1= -2
    ·have g2:(av (-2) (q e.2)&&(q e.1== -2))=true:=by simp [av,c2.1,c2.2]
     have hset:(lG pts.length q).set e.1 (k:Int)=lG pts.length (fun x=>if x=e.1 then (k:Int) else q x):=vx hln.2.2.1 (if_pos rfl) fun j _ hj=>if_neg hj
     simp only [g2,cond_true,Option.bind_some,hset]
     refine ⟨_,⟨_,rfl,r1.put hln.2.2.1 c2.2 hlkB hln.2.2.2 c2.1,fun c hc=>?_⟩,rfl⟩
     rw [vA h1 hk,ho,if_pos rfl,he,vv]
     have hor:(lF (uO ((ls.zip on).take k)) s0 e.1 ||lF (uO ((ls.zip on).take k)) s0 e.2)=true:=by rw [←sB,decide_eq_true c2.1,Bool.or_true]
     unfold Iy
     rw [if_pos hor]
     try dsimp only
     by_cases hc2:c=e.1
     ·subst hc2;rw [if_pos rfl];simp;omega
     ·rw [if_neg hc2]
      by_cases hc1:c=e.2
      ·subst hc1;simp [c2.1]
      ·rw [r2 c hc];simp [hc1,hc2]
    ·have g2:(av (-2) (q e.2)&&(q e.1== -2))=false:=by
      rw [Bool.eq_false_iff];intro h;simp [av] at h;exact c2 h
     simp only [g2,cond_false,Option.bind_some]
     refine ⟨_,⟨q,rfl,r1,fun c hc=>?_⟩,rfl⟩
     rw [vA h1 hk,ho,if_pos rfl,he,vv,r2 c hc]
     have lA:=r1.low e.1 hln.2.2.1
     have lB:=r1.low e.2 hln.2.2.2
     unfold Iy
     split
     ·rename_i hor
      rw [←sA,←sB,Bool.or_eq_true,decide_eq_true_eq,decide_eq_true_eq] at hor
      have hA: -2<q e.1:=by omega
      have hB: -2<q e.2:=by omega
      by_cases hc1:c=e.1
      ·subst hc1;rw [←sA];simp [hA]
      ·by_cases hc2:c=e.2
       ·subst hc2;rw [←sB];simp [hB]
       ·simp [hc1,hc2]
     ·rfl) (by
  rintro fuel s ⟨q,rfl,r1,r2⟩
  rw [qJ,gY]
  have hlt:av (ls.length:Int) (on.length:Int)=false:=by rw [hl];exact ak
  simp only [hlt,cond_false]) (lG pts.length q,0) ⟨q,rfl,hq,by simpa [lF,uO] using hs⟩
 refine ⟨q',hh,r1,?_⟩
 rw [Kq h1] at r2;exact r2
omit h2 in
theorem TO: ∃q,lY (pts.length:Int) ls on pts=some (lG pts.length q)∧PI ls on pts q∧ ∀c,c<pts.length→(-2<q c↔ia (aA ls on) pts c=true):=by
 have hB:=h1.net.b1
 unfold lY
 have q0:PI ls on pts (fun b=>if aL pts b=true then-1 else-2):=by
  have e: ∀b,(aL pts b=true∧(if aL pts b=true then (-1:Int) else-2)= -1)∨(aL pts b=false∧(if aL pts b=true then (-1:Int) else-2)= -2):=fun b=>by cases h:aL pts b<;>simp
  refine ⟨fun b _ h=>if_pos h,fun b _ h=>?_,fun b _=>?_,fun b _ h=>?_,fun _=>0,fun b _ h=>?_⟩
  ·rcases e b with ⟨g,g2⟩ |⟨g,g2⟩
   ·exact g
   ·rw [g2] at h;omega
  ·rcases e b with ⟨g,g2⟩ |⟨g,g2⟩<;>rw [g2]<;>omega
  ·rcases e b with ⟨g,g2⟩ |⟨g,g2⟩<;>rw [g2] at h<;>omega
  ·rcases e b with ⟨g,g2⟩ |⟨g,g2⟩<;>rw [g2] at h<;>omega
 have l1:eF (pts.length:Int) pts aq (([]:List Int),0)=some (lG pts.length (fun b=>if aL pts b=true then-1 else-2)):=by
  have hh:=aC (eF (pts.length:Int) pts) (fun k=>(lG k (fun b=>if aL pts b=true then-1 else-2),(k:Int))) pts.length (some (lG pts.length (fun b=>if aL pts b=true then-1 else-2))) (by omega) (fun k fuel hk=>?_) (fun fuel=>?_)
  ·exact hh
  ·rw [qH,gW]
   have a1: ∀x:Int,bw (lG k (fun b=>if aL pts b=true then-1 else-2)).length ([x]:List Int).length=true:=fun x=>by rw [oG];simp [bw];omega
   have e:lG (k+1) (fun b=>if aL pts b=true then (-1:Int) else-2)=lG k (fun b=>if aL pts b=true then-1 else-2)++ [if aL pts k=true then-1 else-2]:=by simp [lG,List.range_succ]
   simp only [az hk,ah hk,cond_true,aa,Int.toNat_natCast,a1,af (by omega:k<4611686018427387904)]
   rw [e,show av 0 (pts.getD k (0,0)).1=aL pts k from rfl]
   cases aL pts k<;>rfl
  ·rw [qH,gW];simp only [ak,cond_false]
 rw [l1,Option.bind_some]
 obtain ⟨s,⟨q,rfl,r1,r2⟩,hh⟩:=uI (iN (pts.length:Int) ls on (lG pts.length (fun b=>if aL pts b=true then-1 else-2))) (fun k s=> ∃q,s=(lG pts.length q,(k:Int))∧PI ls on pts q∧ ∀c,c<pts.length→decide (-2<q c)=aU (aA ls on) (aL pts) k c) pts.length (fun s=>some s.1) (by omega) (by
  rintro k fuel s hk ⟨q,rfl,r1,r2⟩
  rw [qI,gX]
  obtain ⟨q',a1,a2,a3⟩:=acn h1 (p0:=lG pts.length (fun b=>if aL pts b=true then-1 else-2)) (oG _ _) r1 r2
  simp only [az hk,cond_true,a1,Option.bind_some,af (by omega:k<4611686018427387904)]
  exact ⟨_,⟨q',rfl,a2,a3⟩,rfl⟩) (by
  rintro fuel s ⟨q,rfl,r1,r2⟩
  rw [qI,gX];simp only [ak,cond_false]) (lG pts.length (fun b=>if aL pts b=true then-1 else-2),0) ⟨_,rfl,q0,fun c hc=>by
   show decide (-2<if aL pts c=true then (-1:Int) else-2)=aL pts c
   cases aL pts c<;>rfl⟩
 refine ⟨q,by rw [hh];rfl,r1,fun c hc=>?_⟩
 have h3:=r2 c hc
 rw [←decide_eq_true_iff (p:= -2<q c),h3,NV (Xh h1),mq]
omit h2 in
theorem adJ {q:Nat→Int} (hq:PI ls on pts q) {b:Nat} {w:List Nat} (hw:Way ls on (fun b=>(lG pts.length q).getD b (-1)) b w):b<pts.length→ ∀(fuel:Nat) (out:List Int),w.length<fuel→out.length+w.length≤1000→mT (pts.length:Int) ls (lG pts.length q) fuel ((b:Int),out)=some (zl w++out):=by
 have hg: ∀b,b<pts.length→(lG pts.length q).getD b (-1)=q b:=fun b hb=>by simp [lG,List.getD,hb]
 have hll:=h1.net.ll
 induction hw with
 | @top b h=>
  intro hb fuel out hf ho
  obtain ⟨g,rfl⟩: ∃g,fuel=g+1:=⟨fuel-1,by omega⟩
  rw [vF,lZ]
  try dsimp only at h
  rw [hg b hb] at h
  have:bc 0 (q b)=false:=by simp only [bc,decide_eq_false_iff_not];omega
  simp only [oG,ah hb,aa,Int.toNat_natCast,jT hb,this,cond_false]
  rfl
 | @step b c w h hlk _ ih=>
  intro hb fuel out hf ho
  obtain ⟨g,rfl⟩: ∃g,fuel=g+1:=⟨fuel-1,by omega⟩
  rw [vF,lZ]
  try dsimp only at h hlk ih ⊢
  rw [hg b hb] at h hlk ⊢
  rw [List.length_append,List.length_singleton] at hf ho
  obtain ⟨rk,hrk⟩:=hq.rk
  obtain ⟨c',k1,k2,_⟩:=hrk b hb h
  obtain rfl:=zF hlk k1
  have hge:bc 0 (q b)=true:=by simpa [bc] using h
  obtain ⟨j,hj⟩: ∃j:Nat,q b=(j:Int):=⟨(q b).toNat,by omega⟩
  have hne:=(h1.net.ln j (by rw [hj] at hlk;simpa using hlk.1)).ne
  have hlj:Lk ls on j b c:=by rw [hj] at hlk;simpa using hlk
  have hln:=xi (h1.net.ln j hlj.1)
  simp only [Int.toNat_natCast] at hln
  have ha:bw ([(q b)]:List Int).length out.length=true:=by simp [bw];omega
  have w1:ax ((ls.length:Int)-1)=(ls.length:Int)-1:=aP (by omega) (by omega)
  have c1:(bc 0 (j:Int)&&bc (j:Int) ((ls.length:Int)-1))=true:=by have:=hlj.1;simp [bc];omega
  have hoe:mP (pts.length:Int) ls (q b) (b:Int)=some (c:Int):=by
   unfold mP aw
   rw [Wo,uK.2 h1.net,hj,w1,c1]
   simp only [Option.bind_some,Bool.not_true,Bool.not_false,cw,Bool.or_self,cond_false,ah hlj.1,aa,Int.toNat_natCast]
   rw [hln.1,hln.2.1] at hne ⊢
   rcases hlj.2.2 with e |e
   ·rw [e];simp
   ·rw [e] at hne ⊢
    have:(((c:Nat):Int)==((b:Nat):Int))=false:=by simpa using hne
    simp [this]
  simp only [oG,ah hb,aa,Int.toNat_natCast,jT hb,hge,cond_true,ha,hoe,Option.bind_some]
  rw [ih k2 g _ (by omega) (by simp;omega),hj,Int.toNat_natCast]
  simp [zl]
theorem TL (hr:kW ls on pts=true):lD (pts.length:Int) ls on pts=some (lG ls.length (fO ls on pts)):=by
 have hll:=h1.net.ll;have hB:=h1.net.b1;have hl:=h1.len
 obtain ⟨q,q1,q2,q3⟩:=TO h1
 obtain ⟨rk,P⟩:=q2.toPar q3
 have hg: ∀b,b<pts.length→(lG pts.length q).getD b (-1)=q b:=fun b hb=>by simp [lG,List.getD,hb]
 have hways: ∀b,∃w,Way ls on (fun b=>(lG pts.length q).getD b (-1)) b w:=fun b=>P.way (rk b) b (Nat.le_refl _)
 obtain ⟨wy,hwy⟩: ∃wy:Nat→List Nat,∀b,Way ls on (fun b=>(lG pts.length q).getD b (-1)) b (wy b):=⟨fun b=>Classical.choose (hways b),fun b=>Classical.choose_spec (hways b)⟩
 have hwlt: ∀b,∀k∈wy b,k<ls.length:=by
  intro b k hk
  obtain ⟨d,d1,d2,_⟩:=Way.mem P (hwy b) k hk
  obtain ⟨c,hc,_⟩:=P.line d d1
  rw [←d2];exact hc.1
 have hwnd: ∀b,(wy b).Nodup:=fun b=>Way.nodup P (hwy b)
 have hwl: ∀b,(wy b).length≤10:=fun b=>by have:=uL ls.length (wy b) (hwnd b) (hwlt b);omega
 have hf2: ∀c,c<pts.length→0≤(pts.getD c (0,0)).2∧(pts.getD c (0,0)).2≤999:=fun c hc=>(h2.bs c hc).2
 have hbd: ∀x k,k≤pts.length→0≤((List.range k).map fun b=>if x∈wy b then (pts.getD b (0,0)).2 else 0).sum∧((List.range k).map fun b=>if x∈wy b then (pts.getD b (0,0)).2 else 0).sum≤999*k:=by
  intro x k
  induction k with
  |zero=>intro _;simp
  |succ k ih=>
   intro hk
   have i1:=ih (by omega)
   have i2:=hf2 k (by omega)
   rw [List.range_succ,List.map_append,List.sum_append]
   simp only [List.map_cons,List.map_nil,List.sum_cons,List.sum_nil]
   split<;>omega
 unfold lD
 have m1:yk (on.length:Int)=true:=by simp [yk];omega
 rw [m1,aa,q1,Option.bind_some,hl]
 have hh:=aC (gZ (pts.length:Int) ls (lG pts.length q) on pts) (fun k=>(lG ls.length (fun x=>((List.range k).map fun b=>if x∈wy b then (pts.getD b (0,0)).2 else 0).sum),(k:Int))) pts.length (some (lG ls.length (fO ls on pts))) (by omega) (fun k fuel hk=>?_) (fun fuel=>?_)
 ·have e0:lG ls.length (fun x=>((List.range 0).map fun b=>if x∈wy b then (pts.getD b (0,0)).2 else 0).sum)=List.replicate ls.length 0:=by rw [←Uf];rfl
  rw [e0] at hh
  rw [show gZ (pts.length:Int) ls (lG pts.length q) on pts aq (List.replicate ls.length 0,0)=_ from hh];rfl
 ·rw [sR,jR]
  have hway:qW (pts.length:Int) ls (lG pts.length q) (k:Int)=some (zl (wy k)):=by
   unfold qW
   have:=hwl k
   rw [adJ h1 q2 (hwy k) hk aq [] (pn (by omega)) (by simp;omega)];simp
  have i2:=hf2 k hk
  have hin:=aC (hH on pts (lG ls.length (fun x=>((List.range k).map fun b=>if x∈wy b then (pts.getD b (0,0)).2 else 0).sum),(k:Int)) (zl (wy k))) (fun j=>(lG ls.length (fun x=>((List.range k).map fun b=>if x∈wy b then (pts.getD b (0,0)).2 else 0).sum+if x∈(wy k).take j then (pts.getD k (0,0)).2 else 0),(j:Int))) (wy k).length (some (lG ls.length (fun x=>((List.range k).map fun b=>if x∈wy b then (pts.getD b (0,0)).2 else 0).sum+if x∈wy k then (pts.getD k (0,0)).2 else 0))) (by have:=hwl k;omega) (fun j fuel hj=>?_) (fun fuel=>?_)
  ·have e0:lG ls.length (fun x=>((List.range k).map fun b=>if x∈wy b then (pts.getD b (0,0)).2 else 0).sum+if x∈(wy k).take 0 then (pts.getD k (0,0)).2 else 0)=lG ls.length (fun x=>((List.range k).map fun b=>if x∈wy b then (pts.getD b (0,0)).2 else 0).sum):=pe fun x _=>by simp
   rw [e0] at hin
   simp only [az hk,cond_true,hway,Option.bind_some,af (by omega:k<4611686018427387904)]
   rw [show hH on pts (lG ls.length (fun x=>((List.range k).map fun b=>if x∈wy b then (pts.getD b (0,0)).2 else 0).sum),(k:Int)) (zl (wy k)) aq (lG ls.length (fun x=>((List.range k).map fun b=>if x∈wy b then (pts.getD b (0,0)).2 else 0).sum),0)=_ from hin,Option.bind_some]
   congr 2
   refine pe fun x _=>?_
   rw [List.range_succ,List.map_append,List.sum_append];simp
  ·rw [sS,jS]
   have hwj:(wy k).getD j 0<ls.length:=hwlt k _ (by rw [ai hj];exact List.getElem_mem hj)
   have hwo:(wy k).getD j 0<on.length:=by omega
   have hnot:(wy k).getD j 0∉(wy k).take j:=by
    intro hm
    obtain ⟨i,hi,he⟩:=List.mem_iff_getElem.1 hm
    rw [List.length_take] at hi
    rw [List.getElem_take,ai hj] at he
    have hnd:=hwnd k
    rw [List.nodup_iff_pairwise_ne,List.pairwise_iff_getElem] at hnd
    exact hnd i j (by omega) hj (by omega) he
   have b1:=hbd ((wy k).getD j 0) k (by omega)
   have ws:ax (((List.range k).map fun b=>if (wy k).getD j 0∈wy b then (pts.getD b (0,0)).2 else 0).sum+(if (wy k).getD j 0∈(wy k).take j then (pts.getD k (0,0)).2 else 0)+(pts.getD k (0,0)).2)=((List.range k).map fun b=>if (wy k).getD j 0∈wy b then (pts.getD b (0,0)).2 else 0).sum+(pts.getD k (0,0)).2:=by
    rw [if_neg hnot,Int.add_zero];exact aP (by omega) (by omega)
   simp only [cf,az hj,ah hj,cond_true,aa,Int.toNat_natCast,rY,ah hwo,ah hk,jT hwj,ws,af (by have:=hwl k;omega:j<4611686018427387904)]
   congr 2
   refine vx hwj ?_ fun x hx hne=>?_
   ·have:(wy k).getD j 0∈(wy k).take (j+1):=by rw [List.take_succ_eq_append_getElem hj,ai hj];exact List.mem_append_right _ (List.mem_singleton_self _)
    exact congrArg (fun z=>((List.range k).map fun b=>if (wy k).getD j 0∈wy b then (pts.getD b (0,0)).2 else 0).sum+z) (if_pos this)
   ·have:x∈(wy k).take (j+1)↔x∈(wy k).take j:=by
     rw [List.take_succ_eq_append_getElem hj,List.mem_append,List.mem_singleton]
     constructor
     ·rintro (h |h)
      ·exact h
      ·exact absurd (h.trans (ai hj).symm) hne
     ·exact .inl
    simp only [this]
  ·rw [sS,jS];simp only [cf,ak,cond_false,List.take_length]
 ·rw [sR,jR]
  simp only [ak,cond_false]
  congr 1
  refine pe fun x hx=>pY fun b hb=>?_
  cases hf:ia (aA ls on) pts b
  ·have hn:x∉wy b:=by
    have hwb:=hwy b
    generalize wy b=w at hwb
    cases hwb with
    |top _=>simp
    |step u1 u2 _=>rw [Up.fed P ⟨u1,u2⟩] at hf;cases hf
   simp [hn]
  ·have:=Way.iff P hl hr (hwy b) hb hf (k:=x)
   cases hx2:ia (aA ls (on.set x false)) pts b
   ·rw [if_pos (this.2 hx2)];simp
   ·rw [if_neg fun hm=>by have:=this.1 hm;rw [hx2] at this;cases this];simp
theorem acg (hr:kW ls on pts=true):pw (pts.length:Int) ls on pts=some (dk ls on pts):=by
 have hll:=h1.net.ll;have hB:=h1.net.b1;have hl:=h1.len
 unfold pw dk
 rw [hr]
 have a1:=cc (jg (pts.length:Int) ls on pts) (fun k=>(k:Int)) pts.length (fun b=>aL pts b&&decide ((pts.getD b (0,0)).1<di (aA ls on) pts (·.2) b)) (some (.inr false)) (some (.inl ())) (by omega) (fun k fuel hk=>?_) (fun fuel=>?_)
 ·rw [show jg (pts.length:Int) ls on pts aq 0=_ from a1]
  have a2:px (pts.length:Int) ls on pts=some (zl ((List.range ls.length).filter fun k=>decide ((ls.getD k (0,0,0)).2.2<fO ls on pts k))):=by
   unfold px
   rw [TL h1 h2 hr,Option.bind_some]
   have hh:=nq (ma ls on (lG ls.length (fO ls on pts))) ls.length (fun k=>decide ((ls.getD k (0,0,0)).2.2<fO ls on pts k)) some (by omega) (fun k fuel l hk ha=>?_) (fun fuel l=>?_)
   ·rw [hh];rfl
   ·rw [ue,kS]
    have hlt:av (k:Int) (on.length:Int)=true:=by rw [hl];exact az hk
    simp only [hlt,cond_true,oG,ah hk,aa,Int.toNat_natCast,jT hk,ha,af (by omega:k<4611686018427387904)]
    show Option.bind (bif decide ((ls.getD k (0,0,0)).2.2<fO ls on pts k) then _ else _) _=_
    cases decide ((ls.getD k (0,0,0)).2.2<fO ls on pts k)<;>rfl
   ·rw [ue,kS]
    have hlt:av (ls.length:Int) (on.length:Int)=false:=by rw [hl];exact ak
    simp only [hlt,cond_false]
  rw [a2]
  have a3:(((zl ((List.range ls.length).filter fun k=>decide ((ls.getD k (0,0,0)).2.2<fO ls on pts k))).length:Int)==0)= !(List.range ls.length).any fun k=>decide ((ls.getD k (0,0,0)).2.2<fO ls on pts k):=by
   rw [Bool.eq_iff_iff,cf,beq_iff_eq,Bool.not_eq_true',List.any_eq_false]
   constructor
   ·intro h k hk hc
    have:=List.length_pos_of_mem (List.mem_filter (p:=fun k=>decide ((ls.getD k (0,0,0)).2.2<fO ls on pts k)).2 ⟨hk,hc⟩)
    omega
   ·intro h
    have:(List.range ls.length).filter (fun k=>decide ((ls.getD k (0,0,0)).2.2<fO ls on pts k))=[]:=List.filter_eq_nil_iff.2 h
    rw [this];rfl
  rw [Bool.true_and]
  cases (List.range pts.length).any fun b=>aL pts b&&decide ((pts.getD b (0,0)).1<di (aA ls on) pts (·.2) b)
  ·simp only [cond_false,Option.bind_some,Sum.elim_inl,a3,Bool.not_false,Bool.and_true]
  ·simp only [cond_true,Option.bind_some,Sum.elim_inr,Bool.not_true,Bool.and_false]
 ·rw [ud,kR]
  simp only [az hk,ah hk,cond_true,aa,Int.toNat_natCast,Mo h1 h2 hk,Bool.or_true,af (by omega:k<4611686018427387904)]
  rw [show av 0 (pts.getD k (0,0)).1=aL pts k from rfl]
  cases aL pts k<;>rfl
 ·rw [ud,kR];simp only [ak,cond_false]
end
theorem TM (b:Int) (ls:List Ln) (on:List Bool) (pts:List (Int×Int)) (hp:pts.length≤1048576):ov b ls on pts=some (LK b ls on pts&&dk ls on pts):=by
 unfold ov
 rw [FD b ls on pts hp,Option.bind_some]
 cases hv:uQ b ls on pts
 ·simp only [pS,Option.bind_some,Bool.false_and]
  congr 1
  cases ho:LK b ls on pts
  ·rfl
  ·cases hg:dk ls on pts
   ·rfl
   ·have:=Gu hg
    unfold uQ at hv
    rw [ho,this] at hv;cases hv
 ·have hv':=hv
  unfold uQ at hv'
  rw [Bool.and_eq_true] at hv'
  obtain ⟨h1,h2⟩:=fG.1 hv'.1
  have hlp:=h2.lp
  subst hlp
  rw [acg h1 h2 hv'.2,hv'.1]
  simp only [cw,Option.bind_some,Bool.true_and]
theorem Ms (E:Ed) (pts:List (Int×Int)) (f:Int×Int→Int) (p:Nat→Bool) (hl: ∀c,c<pts.length→aW E c<8): ∀k,k≤pts.length→((List.range 8).map fun j=>if p j=true then mm E pts f k j else 0).sum=((List.range k).map fun c=>if p (aW E c)=true then f (pts.getD c (0,0)) else 0).sum
 |0,_=>by
  rw [xF fun j _=>by rw [Ub];simp];rfl
 |k+1,hk=>by
  have ih:=Ms E pts f p hl k (by omega)
  have hlk:=hl k (by omega)
  rw [PM (g:=fun j=>if p j=true then mm E pts f k j else 0) (h:=fun j=>if j=aW E k then (if p j=true then f (pts.getD k (0,0)) else 0) else 0) (fun j _=>by
   rw [Km]
   by_cases h1:p j=true
   ·rw [if_pos h1,if_pos h1]
    by_cases h2:aW E k=j
    ·rw [if_pos h2,if_pos h2.symm,if_pos h1]
    ·rw [if_neg h2,if_neg (Ne.symm h2)]
   ·rw [if_neg h1,if_neg h1];simp [h1]),ih,PH (fun j=>if p j=true then f (pts.getD k (0,0)) else 0) hlk,List.range_succ,List.map_append,List.sum_append]
  simp
theorem TT {E:Ed} {pts:List (Int×Int)} (hl: ∀c,c<pts.length→aW E c<8):((List.range 8).map fun j=>if bc (mm E pts (·.2) pts.length j) (mm E pts (·.1) pts.length j)=true then mm E pts (·.2) pts.length j else 0).sum=aH E pts:=by
 rw [Ms E pts (·.2) (fun j=>bc (mm E pts (·.2) pts.length j) (mm E pts (·.1) pts.length j)) hl pts.length (Nat.le_refl _)]
 unfold aH
 refine pY fun b hb=>?_
 rw [NT,NT]
 by_cases h:mm E pts (·.2) pts.length (aW E b)≤mm E pts (·.1) pts.length (aW E b)
 ·rw [if_pos h,if_pos (show bc _ _=true from decide_eq_true h)]
 ·rw [if_neg h,if_neg (by simp only [bc,decide_eq_true_eq];exact h)]
theorem SM {b:Int} {ls:List Ln} {pts:List (Int×Int)} (h:BusOk b ls pts) (E:Ed): ∀c,c<pts.length→aW E c<8:=by
 intro c hc
 have h1:=(SL E).1 c
 have:=(Id h).1
 omega
theorem OK {b:Int} {ls:List Ln} {on:List Bool} {pts:List (Int×Int)} (h1:StOk b ls on) (h2:BusOk b ls pts):gi b ls on pts=some (aH (aA ls on) pts):=by
 have hl8:=SM h2 (aA ls on)
 obtain ⟨b1,b2⟩:=Id h2
 unfold gi
 rw [WO h1 h2,Option.bind_some,←TT hl8]
 have hb: ∀j,0≤mm (aA ls on) pts (·.2) pts.length j∧mm (aA ls on) pts (·.2) pts.length j≤7992:=fun j=>by
  have:=vu (aA ls on) pts (·.2) (fun c hc=>(h2.bs c hc).2) j pts.length (Nat.le_refl _);omega
 generalize hS:mm (aA ls on) pts (·.2) pts.length=S at*
 generalize mm (aA ls on) pts (·.1) pts.length=F at*
 have hbd: ∀k,0≤((List.range k).map fun j=>if bc (S j) (F j)=true then S j else 0).sum∧((List.range k).map fun j=>if bc (S j) (F j)=true then S j else 0).sum≤7992*k:=by
  intro k
  induction k with
  |zero=>simp
  |succ k ih=>
   have:=hb k
   rw [List.range_succ,List.map_append,List.sum_append]
   simp only [List.map_cons,List.map_nil,List.sum_cons,List.sum_nil]
   split<;>omega
 have hh:=aC (dt (Ue F S)) (fun k=>(((List.range k).map fun j=>if bc (S j) (F j)=true then S j else 0).sum,(k:Int))) 8 (some (((List.range 8).map fun j=>if bc (S j) (F j)=true then S j else 0).sum)) (by omega) (fun k fuel hk=>?_) (fun fuel=>?_)
 ·rw [show dt (Ue F S) aq (0,0)=_ from hh];rfl
 ·rw [pF,fp]
  have i1:=hbd k
  have i2:=hb k
  have w1:ax (((List.range k).map fun j=>if bc (S j) (F j)=true then S j else 0).sum+S k)=((List.range k).map fun j=>if bc (S j) (F j)=true then S j else 0).sum+S k:=aP (by omega) (by omega)
  have hlt:av (k:Int) 8=true:=decide_eq_true (by omega)
  dsimp only [Ue]
  simp only [hlt,ah hk,cond_true,aa,Int.toNat_natCast,XR _ hk,w1,af (by omega:k<4611686018427387904)]
  have e:((List.range (k+1)).map fun j=>if bc (S j) (F j)=true then S j else 0).sum=((List.range k).map fun j=>if bc (S j) (F j)=true then S j else 0).sum+(if bc (S k) (F k)=true then S k else 0):=by
   rw [List.range_succ,List.map_append,List.sum_append];simp
  rw [e]
  cases bc (S k) (F k)<;>simp only [cond_false,cond_true,Option.bind_some,Bool.false_eq_true,if_false,if_true,Int.add_zero,Int.natCast_add,Int.natCast_one,Int.ofNat_one]
 ·rw [pF,fp];rfl
theorem pW {b:Int} {ls:List Ln} {pts:List (Int×Int)} (h:BusOk b ls pts) (E:Ed):0≤aH E pts∧aH E pts≤7992:=by
 obtain ⟨b1,b2⟩:=Id h
 have: ∀k,k≤pts.length→0≤((List.range k).map fun b=>if di E pts (·.2) b≤di E pts (·.1) b then (pts.getD b (0,0)).2 else 0).sum∧((List.range k).map fun b=>if di E pts (·.2) b≤di E pts (·.1) b then (pts.getD b (0,0)).2 else 0).sum≤999*k:=by
  intro k
  induction k with
  |zero=>intro _;simp
  |succ k ih=>
   intro hk
   have i1:=ih (by omega)
   have i2:=(h.bs k (by omega)).2
   rw [List.range_succ,List.map_append,List.sum_append]
   simp only [List.map_cons,List.map_nil,List.sum_cons,List.sum_nil]
   split<;>omega
 have h2:=this pts.length (Nat.le_refl _)
 unfold aH
 omega
theorem PD {ls:List Ln} {on:List Bool} {pts:List (Int×Int)} (h1:StOk (pts.length:Int) ls on) (h2:BusOk (pts.length:Int) ls pts):cN (pts.length:Int) ls on pts=some (aH (aA ls on) pts):=by
 obtain ⟨b1,b2⟩:=Id h2
 unfold cN
 rw [QI _ ls pts (by omega),fG.2 ⟨h1,h2⟩,Option.bind_some,cond_true]
 have hbd: ∀k,k≤pts.length→0≤((List.range k).map fun b=>if di (aA ls on) pts (·.2) b≤di (aA ls on) pts (·.1) b then (pts.getD b (0,0)).2 else 0).sum∧((List.range k).map fun b=>if di (aA ls on) pts (·.2) b≤di (aA ls on) pts (·.1) b then (pts.getD b (0,0)).2 else 0).sum≤999*k:=by
  intro k
  induction k with
  |zero=>intro _;simp
  |succ k ih=>
   intro hk
   have i1:=ih (by omega)
   have i2:=(h2.bs k (by omega)).2
   rw [List.range_succ,List.map_append,List.sum_append]
   simp only [List.map_cons,List.map_nil,List.sum_cons,List.sum_nil]
   split<;>omega
 have hh:=aC (dC (pts.length:Int) ls on pts) (fun k=>(((List.range k).map fun b=>if di (aA ls on) pts (·.2) b≤di (aA ls on) pts (·.1) b then (pts.getD b (0,0)).2 else 0).sum,(k:Int))) pts.length (some (aH (aA ls on) pts)) (by omega) (fun k fuel hk=>?_) (fun fuel=>?_)
 ·rw [show dC (pts.length:Int) ls on pts aq (0,0)=_ from hh];rfl
 ·rw [pN,fC]
  have i1:=hbd k (by omega)
  have i2:=(h2.bs k hk).2
  have w1:ax (((List.range k).map fun b=>if di (aA ls on) pts (·.2) b≤di (aA ls on) pts (·.1) b then (pts.getD b (0,0)).2 else 0).sum+(pts.getD k (0,0)).2)=((List.range k).map fun b=>if di (aA ls on) pts (·.2) b≤di (aA ls on) pts (·.1) b then (pts.getD b (0,0)).2 else 0).sum+(pts.getD k (0,0)).2:=aP (by omega) (by omega)
  simp only [az hk,cond_true,Mn h1 h2 hk,Mo h1 h2 hk,Option.bind_some,ah hk,aa,Int.toNat_natCast,w1,af (by omega:k<4611686018427387904)]
  have e:((List.range (k+1)).map fun b=>if di (aA ls on) pts (·.2) b≤di (aA ls on) pts (·.1) b then (pts.getD b (0,0)).2 else 0).sum=((List.range k).map fun b=>if di (aA ls on) pts (·.2) b≤di (aA ls on) pts (·.1) b then (pts.getD b (0,0)).2 else 0).sum+(if di (aA ls on) pts (·.2) k≤di (aA ls on) pts (·.1) k then (pts.getD k (0,0)).2 else 0):=by
   rw [List.range_succ,List.map_append,List.sum_append];simp
  rw [e]
  by_cases h:di (aA ls on) pts (·.2) k≤di (aA ls on) pts (·.1) k
  ·rw [show bc (di (aA ls on) pts (·.2) k) (di (aA ls on) pts (·.1) k)=true from decide_eq_true h,if_pos h];simp only [cond_true,Option.bind_some,Int.natCast_add,Int.natCast_one]
  ·rw [show bc (di (aA ls on) pts (·.2) k) (di (aA ls on) pts (·.1) k)=false from decide_eq_false h,if_neg h];simp only [cond_false,Option.bind_some,Int.add_zero,Int.natCast_add,Int.natCast_one]
 ·rw [pN,fC];simp only [ak,cond_false];rfl
section
variable {a c:List Bool} (hl:a.length=c.length) (ha:a.length≤1048576)
include hl ha
theorem Sp:oh a c=some (zl (bF a c)):=by
 unfold oh
 have e:((a.length:Int) !=(c.length:Int))=false:=by rw [hl];simp
 rw [e]
 have hh:=nq (kx a c) a.length (fun k=>a.getD k false !=c.getD k false) some (by omega) (fun k fuel l hk hp=>?_) (fun fuel l=>?_)
 ·rw [hh];rfl
 ·rw [su,jr]
  simp only [az hk,ah hk,ah (show k<c.length by omega),cond_true,aa,Int.toNat_natCast,hp,af (by omega:k<4611686018427387904)]
  cases a.getD k false !=c.getD k false<;>rfl
 ·rw [su,jr];simp only [ak,cond_false]
theorem Mm:iX a c=some (zl (bF a c)):=by
 unfold iX
 have e:((a.length:Int)==(c.length:Int))=true:=by rw [hl];simp
 have hh:=nq (kL a c) a.length (fun k=>a.getD k false !=c.getD k false) some (by omega) (fun k fuel l hk hp=>?_) (fun fuel l=>?_)
 ·rw [hh];rfl
 ·rw [sE,jF]
  simp only [az hk,e,Bool.and_self,ah hk,ah (show k<c.length by omega),cond_true,aa,Int.toNat_natCast,hp,af (by omega:k<4611686018427387904)]
  cases a.getD k false !=c.getD k false<;>rfl
 ·rw [sE,jF];simp only [ak,Bool.false_and,cond_false]
end
theorem RB (a c:List Bool):(bF a c).length≤a.length:=by
 unfold bF
 have:=List.length_filter_le (fun k=>a.getD k false !=c.getD k false) (List.range a.length)
 rwa [List.length_range] at this
theorem zZ {n:Nat} (h:n≤10):sb .i64 1 (n:Int)=((2 ^ n:Nat):Int):=by
 have:n=0∨n=1∨n=2∨n=3∨n=4∨n=5∨n=6∨n=7∨n=8∨n=9∨n=10:=by omega
 rcases this with rfl |rfl |rfl |rfl |rfl |rfl |rfl |rfl |rfl |rfl |rfl<;>decide
theorem Wq {x k:Nat} (hk:k≤64):ko .i64 (x:Int) (k:Int)=((x>>>k:Nat):Int):=by
 unfold ko
 rw [show min (k:Int).toNat (IntKind.bits .i64)=k by rw [Int.toNat_natCast];exact Nat.min_eq_left hk,Nat.shiftRight_eq_div_pow]
 rw [Int.fdiv_eq_ediv_of_nonneg _ (by exact Int.le_of_lt (Int.pow_pos (by decide)))]
 norm_cast
theorem UL {x:Nat} (h:x<4611686018427387904):ph .i64 (x:Int) 1=((x % 2:Nat):Int):=by
 have e:ph .i64 (x:Int) 1=ax ((BitVec.ofInt 64 (x:Int)&&&BitVec.ofInt 64 1).toNat:Int):=rfl
 have h1:(BitVec.ofInt 64 (x:Int)).toNat=x:=by rw [BitVec.ofInt_natCast,BitVec.toNat_ofNat,Nat.mod_eq_of_lt (by omega)]
 have h2:(BitVec.ofInt 64 1).toNat=1:=by decide
 rw [e,BitVec.toNat_and,h1,h2,Nat.and_one_is_mod,aP (by omega) (by omega)]
theorem UQ {x k:Nat} (hx:x<4611686018427387904) (hk:k≤64):(ph .i64 (ko .i64 (x:Int) (k:Int)) 1==1)=x.testBit k:=by
 have h1:x>>>k≤x:=Nat.shiftRight_le x k
 rw [Wq hk,UL (by omega)]
 rw [Nat.testBit,Nat.one_and_eq_mod_two]
 rcases Nat.mod_two_eq_zero_or_one (x>>>k) with h |h<;>rw [h]<;>rfl
theorem Sw {x n:Nat} (hx:x<4611686018427387904) (hn:n≤10):om (x:Int) (n:Int)=some (bB n x):=by
 unfold om
 have hm:yk (n:Int)=true:=by simp [yk];omega
 rw [hm,aa,Int.toNat_natCast]
 have hh:=aC (gj (x:Int) (n:Int)) (fun k=>(mix n k (fun i=>x.testBit i) (fun _=>false),(k:Int))) n (some (bB n x)) (by omega) (fun k fuel hk=>?_) (fun fuel=>?_)
 ·have e:mix n 0 (fun i=>x.testBit i) (fun _=>false)=List.replicate n false:=by
   apply List.ext_getElem (by simp [mix])
   intro i h1 h2
   simp [mix]
  rw [e] at hh
  rw [show gj (x:Int) (n:Int) aq (List.replicate n false,0)=_ from hh];rfl
 ·rw [sy,jx]
  have hnn:Ku (k:Int)=true:=by simp [Ku]
  simp only [Int.toNat_natCast,az hk,hnn,ah hk,cond_true,aa,UQ hx (by omega:k≤64),af (by omega:k<4611686018427387904)]
  rw [JD (f:=fun i=>x.testBit i) (g:=fun _=>false) hk]
 ·rw [sy,jx]
  simp only [Int.toNat_natCast,ak,cond_false]
  congr 1
  unfold mix bB
  refine List.map_congr_left fun i hi=>?_
  rw [if_pos (by simpa using hi)]
theorem TQ {x n:Nat} (hx:x<2 ^ n) (hn:n≤10):oy (x:Int) (n:Int)=some (bB n x,true):=by
 have hp:2 ^ n≤1024:=by
  have:=Nat.pow_le_pow_right (show 0<2 by decide) hn
  omega
 unfold oy aw
 have c1:(bc 0 (n:Int)&&bc (n:Int) 10)=true:=by simp [bc];omega
 have hnn:Ku (n:Int)=true:=by simp [Ku]
 have w1:ax (((2 ^ n:Nat):Int)-1)=((2 ^ n:Nat):Int)-1:=aP (by omega) (by omega)
 have c2:(bc 0 (x:Int)&&bc (x:Int) (((2 ^ n:Nat):Int)-1))=true:=by simp only [bc,Bool.and_eq_true,decide_eq_true_eq];omega
 rw [c1,hnn,zZ hn,w1,c2]
 simp only [Option.bind_some,Bool.not_true,Bool.not_false,Bool.or_true,aa,cw,Bool.or_self,cond_false]
 have hh:=aC (gM (n:Int)) (fun k=>(((x>>>k:Nat):Int),(List.range k).map (fun i=>x.testBit i),(k:Int))) n (some (bB n x)) (by omega) (fun k fuel hk=>?_) (fun fuel=>?_)
 ·rw [show gM (n:Int) aq ((x:Int),([]:List Bool),0)=_ from hh];rfl
 ·rw [sK,jK]
  have hle:x>>>k≤x:=Nat.shiftRight_le x k
  have ha: ∀z:Bool,bw ((List.range k).map (fun i=>x.testBit i)).length ([z]:List Bool).length=true:=fun z=>by simp [bw];omega
  have t1:Int.tmod ((x>>>k:Nat):Int) 2=((x>>>k % 2:Nat):Int):=by rw [Int.tmod_eq_emod_of_nonneg (Int.natCast_nonneg _)];norm_cast
  have t2:ax (Int.tdiv ((x>>>k:Nat):Int) 2)=((x>>>(k+1):Nat):Int):=by
   rw [Int.tdiv_eq_ediv_of_nonneg (Int.natCast_nonneg _),Nat.shiftRight_succ]
   generalize x>>>k=y at hle ⊢
   rw [aP (by omega) (by omega)];norm_cast
  have t3:((((x>>>k % 2:Nat):Int))==1)=x.testBit k:=by
   rw [Nat.testBit,Nat.one_and_eq_mod_two]
   rcases Nat.mod_two_eq_zero_or_one (x>>>k) with h |h<;>rw [h]<;>rfl
  simp only [az hk,cond_true,ha,aa,t1,t2,t3,af (by omega:k<4611686018427387904)]
  rw [List.range_succ,List.map_append];rfl
 ·rw [sK,jK];simp only [ak,cond_false];rfl
def zG (E:List Bool→Int) (C:List Bool→Nat):Option (List Bool)→List Bool×Int×Int
 |none=>([],-1,0)
 |some y=>(y,E y,(C y:Int))
def Tf:Option (List Bool)→List Bool×Bool
 |none=>([],false)
 |some y=>(y,true)
theorem and_zero (x:Int):ph .i64 x 0=0:=by
 unfold ph
 rw [show BitVec.ofInt (IntKind.bits .i64) 0=0#(IntKind.bits .i64) from rfl,BitVec.and_zero];rfl
section
variable {ls:List Ln} {on:List Bool} {pts:List (Int×Int)} (h1:StOk (pts.length:Int) ls on) (h2:BusOk (pts.length:Int) ls pts) (h0:1≤ls.length)
include h1 h2 h0
theorem Ii (num:Nat):StOk (pts.length:Int) ls (bB ls.length num)∧(on.length=(bB ls.length num).length)∧LK (pts.length:Int) ls (bB ls.length num) pts=true:=by
 have e:(bB ls.length num).length=ls.length:=Ho _ _
 have hs:StOk (pts.length:Int) ls (bB ls.length num):=⟨h1.net,e⟩
 exact ⟨hs,h1.len.trans e.symm,fG.2 ⟨hs,h2⟩⟩
theorem Ie (num:Nat):jl (fun x=>dk ls x pts) (fun x=>aH (aA ls x) pts) (fun x=>(bF on x).length) ((List.range (num+1)).map (bB ls.length))=yp (fun x=>dk ls x pts) (fun x=>aH (aA ls x) pts) (fun x=>(bF on x).length) (jl (fun x=>dk ls x pts) (fun x=>aH (aA ls x) pts) (fun x=>(bF on x).length) ((List.range num).map (bB ls.length))) (bB ls.length num):=by
 rw [List.range_succ,List.map_append];exact Ew _ _ _ _ _
theorem abw:lN (pts.length:Int) ls on pts []=some (Tf (nj ls on pts)):=by
 have hll:=h1.net.ll;have hB:=h1.net.b1;have hl:=h1.len
 have hp:2 ^ ls.length≤1024:=by
  have:=Nat.pow_le_pow_right (show 0<2 by decide) hll
  omega
 unfold lN
 have l1:qP (pts.length:Int) ls [] aq (0,0)=some 0:=by rw [Dt];rfl
 have hnn:Ku (ls.length:Int)=true:=by simp [Ku]
 rw [Vu _ ls pts (by omega),fG.2 ⟨h1,h2⟩,Option.bind_some,cond_true,l1,Option.bind_some,hnn,aa]
 have hh:=aC (ea (pts.length:Int) ls on pts 0) (fun num=>((zG (fun x=>aH (aA ls x) pts) (fun x=>(bF on x).length) (jl (fun x=>dk ls x pts) (fun x=>aH (aA ls x) pts) (fun x=>(bF on x).length) ((List.range num).map (bB ls.length)))).1,(zG (fun x=>aH (aA ls x) pts) (fun x=>(bF on x).length) (jl (fun x=>dk ls x pts) (fun x=>aH (aA ls x) pts) (fun x=>(bF on x).length) ((List.range num).map (bB ls.length)))).2.1,(zG (fun x=>aH (aA ls x) pts) (fun x=>(bF on x).length) (jl (fun x=>dk ls x pts) (fun x=>aH (aA ls x) pts) (fun x=>(bF on x).length) ((List.range num).map (bB ls.length)))).2.2,(num:Int))) (2 ^ ls.length)
  (some (zG (fun x=>aH (aA ls x) pts) (fun x=>(bF on x).length) (nj ls on pts)).1) (by omega) (fun num fuel hk=>?_) (fun fuel=>?_)
 ·rw [show ea (pts.length:Int) ls on pts 0 aq (([]:List Bool),-1,0,0)=_ from hh,Option.bind_some]
  cases hb:nj ls on pts with
  |none=>rfl
  |some y=>
   have:=(uV hb).1
   cases y with
   |nil=>simp at this;omega
   |cons z y=>rfl
 ·rw [qj,fT,Ie h1 h2 h0]
  obtain ⟨f1,f2,f3⟩:=Ii h1 h2 h0 num
  have hsv:=pW h2 (aA ls (bB ls.length num))
  have hcl:(zl (bF on (bB ls.length num))).length=(bF on (bB ls.length num)).length:=cf _
  have hlt:av (num:Int) ((2 ^ ls.length:Nat):Int)=true:=az hk
  have hne:(!(List.isEmpty (bB ls.length num)))=true:=by
   have:(bB ls.length num).length=ls.length:=Ho _ _
   cases hst:bB ls.length num with
   |nil=>rw [hst] at this;simp at this;omega
   |cons=>rfl
  simp only [zZ hll,hlt,cond_true,and_zero,Sw (show num<4611686018427387904 by omega) hll,Option.bind_some,OK f1 h2,Sp f2 (by omega),Sr _ ls _ pts (by omega),f3,Bool.true_and,hcl,hne,aa,af (by omega:num<4611686018427387904)]
  generalize jl (fun x=>dk ls x pts) (fun x=>aH (aA ls x) pts) (fun x=>(bF on x).length) ((List.range num).map (bB ls.length))=a
  have e0:((0:Int) !=0)=false:=rfl
  simp only [e0,cond_false]
  cases a with
  |none=>
   dsimp only [zG]
   have c1:av (aH (aA ls (bB ls.length num)) pts) (-1)=false:=decide_eq_false (by omega)
   have c2:av (-1) (aH (aA ls (bB ls.length num)) pts)=true:=decide_eq_true (by omega)
   have hb:yp (fun x=>dk ls x pts) (fun x=>aH (aA ls x) pts) (fun x=>(bF on x).length) none (bB ls.length num)=if dk ls (bB ls.length num) pts=true then some (bB ls.length num) else none:=by
    unfold yp Dw;simp only [Bool.and_true]
   simp only [c1,c2,cond_false,Bool.true_or,cw,Option.bind_some,Bool.true_and,hb]
   generalize dk ls (bB ls.length num) pts=g
   cases g<;>rfl
  |some z=>
   have hb:yp (fun x=>dk ls x pts) (fun x=>aH (aA ls x) pts) (fun x=>(bF on x).length) (some z) (bB ls.length num)=if (dk ls (bB ls.length num) pts&&(decide (aH (aA ls z) pts<aH (aA ls (bB ls.length num)) pts) ||(decide (aH (aA ls z) pts=aH (aA ls (bB ls.length num)) pts)&&decide ((bF on (bB ls.length num)).length<(bF on z).length))))=true then some (bB ls.length num) else some z:=rfl
   rw [hb]
   dsimp only [zG]
   generalize dk ls (bB ls.length num) pts=g
   by_cases c1:aH (aA ls (bB ls.length num)) pts<aH (aA ls z) pts
   ·have d1:decide (aH (aA ls z) pts<aH (aA ls (bB ls.length num)) pts)=false:=decide_eq_false (by omega)
    have d2:decide (aH (aA ls z) pts=aH (aA ls (bB ls.length num)) pts)=false:=decide_eq_false (by omega)
    rw [show av (aH (aA ls (bB ls.length num)) pts) (aH (aA ls z) pts)=true from decide_eq_true c1]
    simp only [cond_true,Option.bind_some,d1,d2,Bool.false_and,Bool.or_self,Bool.and_false,Bool.false_eq_true,if_false]
   ·rw [show av (aH (aA ls (bB ls.length num)) pts) (aH (aA ls z) pts)=false from decide_eq_false c1]
    have d3:(av (aH (aA ls z) pts) (aH (aA ls (bB ls.length num)) pts) ||av ((bF on (bB ls.length num)).length:Int) ((bF on z).length:Int))=(decide (aH (aA ls z) pts<aH (aA ls (bB ls.length num)) pts) ||(decide (aH (aA ls z) pts=aH (aA ls (bB ls.length num)) pts)&&decide ((bF on (bB ls.length num)).length<(bF on z).length))):=by
     rw [Bool.eq_iff_iff];simp only [av,Bool.or_eq_true,Bool.and_eq_true,decide_eq_true_eq];omega
    simp only [cond_false,d3]
    generalize (decide (aH (aA ls z) pts<aH (aA ls (bB ls.length num)) pts) ||(decide (aH (aA ls z) pts=aH (aA ls (bB ls.length num)) pts)&&decide ((bF on (bB ls.length num)).length<(bF on z).length)))=d
    cases d<;>cases g<;>rfl
 ·rw [qj,fT]
  simp only [zZ hll,ak,cond_false]
  rfl
theorem acd:lS (pts.length:Int) ls on pts []=some (Tf (nj ls on pts)):=by
 have hll:=h1.net.ll;have hB:=h1.net.b1;have hl:=h1.len
 have hp:2 ^ ls.length≤1024:=by
  have:=Nat.pow_le_pow_right (show 0<2 by decide) hll
  omega
 unfold lS
 rw [QI _ ls pts (by omega),fG.2 ⟨h1,h2⟩,Option.bind_some,cond_true]
 have hh:=aC (eo (pts.length:Int) ls on pts []) (fun num=>((zG (fun x=>aH (aA ls x) pts) (fun x=>(bF on x).length) (jl (fun x=>dk ls x pts) (fun x=>aH (aA ls x) pts) (fun x=>(bF on x).length) ((List.range num).map (bB ls.length)))).1,(zG (fun x=>aH (aA ls x) pts) (fun x=>(bF on x).length) (jl (fun x=>dk ls x pts) (fun x=>aH (aA ls x) pts) (fun x=>(bF on x).length) ((List.range num).map (bB ls.length)))).2.1,(zG (fun x=>aH (aA ls x) pts) (fun x=>(bF on x).length) (jl (fun x=>dk ls x pts) (fun x=>aH (aA ls x) pts) (fun x=>(bF on x).length) ((List.range num).map (bB ls.length)))).2.2,(num:Int))) (2 ^ ls.length)
  (some ((zG (fun x=>aH (aA ls x) pts) (fun x=>(bF on x).length) (nj ls on pts)).1,(zG (fun x=>aH (aA ls x) pts) (fun x=>(bF on x).length) (nj ls on pts)).2.1)) (by omega) (fun num fuel hk=>?_) (fun fuel=>?_)
 ·rw [show eo (pts.length:Int) ls on pts [] aq (([]:List Bool),-1,0,0)=_ from hh,Option.bind_some]
  cases hb:nj ls on pts with
  |none=>rfl
  |some y=>
   have:=pW h2 (aA ls y)
   have e:bc 0 (aH (aA ls y) pts)=true:=decide_eq_true (by omega)
   dsimp only [zG,Tf]
   rw [e]
 ·rw [qx,gz,Ie h1 h2 h0]
  obtain ⟨f1,f2,f3⟩:=Ii h1 h2 h0 num
  have hsv:=pW h2 (aA ls (bB ls.length num))
  have hcl:(zl (bF on (bB ls.length num))).length=(bF on (bB ls.length num)).length:=cf _
  have hlt:av (num:Int) ((2 ^ ls.length:Nat):Int)=true:=az hk
  have hnn:Ku (ls.length:Int)=true:=by simp [Ku]
  have l2:qQ on [] (bB ls.length num,true) aq (true,0)=some true:=by rw [Dt];rfl
  simp only [hnn,aa,hl,zZ hll,hlt,cond_true,TQ hk hll,Option.bind_some,l2,cw,TM _ ls _ pts (by omega),f3,Bool.true_and,PD f1 h2,Mm f2 (by omega),hcl,oY,af (by omega:num<4611686018427387904)]
  generalize jl (fun x=>dk ls x pts) (fun x=>aH (aA ls x) pts) (fun x=>(bF on x).length) ((List.range num).map (bB ls.length))=a
  cases a with
  |none=>
   have hb:yp (fun x=>dk ls x pts) (fun x=>aH (aA ls x) pts) (fun x=>(bF on x).length) none (bB ls.length num)=if dk ls (bB ls.length num) pts=true then some (bB ls.length num) else none:=by
    unfold yp Dw;simp only [Bool.and_true]
   have c2:av (-1) (aH (aA ls (bB ls.length num)) pts)=true:=decide_eq_true (by omega)
   rw [hb]
   dsimp only [zG]
   generalize dk ls (bB ls.length num) pts=g
   cases g
   ·rfl
   ·simp only [cw,Option.bind_some,cond_true,c2,Bool.true_or,if_true]
  |some z=>
   have hb:yp (fun x=>dk ls x pts) (fun x=>aH (aA ls x) pts) (fun x=>(bF on x).length) (some z) (bB ls.length num)=if (dk ls (bB ls.length num) pts&&(decide (aH (aA ls z) pts<aH (aA ls (bB ls.length num)) pts) ||(decide (aH (aA ls z) pts=aH (aA ls (bB ls.length num)) pts)&&decide ((bF on (bB ls.length num)).length<(bF on z).length))))=true then some (bB ls.length num) else some z:=rfl
   have d3:(av (aH (aA ls z) pts) (aH (aA ls (bB ls.length num)) pts) ||((aH (aA ls (bB ls.length num)) pts==aH (aA ls z) pts)&&av ((bF on (bB ls.length num)).length:Int) ((bF on z).length:Int)))=(decide (aH (aA ls z) pts<aH (aA ls (bB ls.length num)) pts) ||(decide (aH (aA ls z) pts=aH (aA ls (bB ls.length num)) pts)&&decide ((bF on (bB ls.length num)).length<(bF on z).length))):=by
    rw [Bool.eq_iff_iff];simp only [av,Bool.or_eq_true,Bool.and_eq_true,decide_eq_true_eq,beq_iff_eq];omega
   rw [hb]
   dsimp only [zG]
   generalize dk ls (bB ls.length num) pts=g
   cases g
   ·rfl
   ·simp only [cw,Option.bind_some,cond_true,d3,Bool.true_and]
    generalize (decide (aH (aA ls z) pts<aH (aA ls (bB ls.length num)) pts) ||(decide (aH (aA ls z) pts=aH (aA ls (bB ls.length num)) pts)&&decide ((bF on (bB ls.length num)).length<(bF on z).length)))=d
    cases d<;>rfl
 ·rw [qx,gz]
  have hnn:Ku (on.length:Int)=true:=by simp [Ku]
  simp only [hnn,aa,hl,zZ hll,ak,cond_false]
  rfl
end
theorem dY {m n:Nat} (h:m+n≤1099511627776):bw m n=true:=by simp only [bw,decide_eq_true_eq];omega
def GU (a b:List Bool):List (Int×Bool):=(((List.range a.length).filter fun i=>a.getD i false&& !b.getD i false).map fun (i:Nat)=>((i:Int),false))++(((List.range a.length).filter fun i=>b.getD i false&& !a.getD i false).map fun (i:Nat)=>((i:Int),true))
def OG (n:Nat) (p:Nat→Bool) (t:Bool):List (Int×Bool):=((List.range n).filter p).map fun (i:Nat)=>((i:Int),t)
theorem abt (n:Nat) (p:Nat→Bool) (t:Bool):OG (n+1) p t=if p n then OG n p t++ [((n:Int),t)] else OG n p t:=by
 unfold OG
 rw [List.range_succ,List.filter_append,List.filter_cons,List.filter_nil]
 cases p n<;>simp
theorem Fp (n:Nat) (p:Nat→Bool) (t:Bool):(OG n p t).length≤n:=by
 unfold OG
 rw [List.length_map]
 have:=List.length_filter_le p (List.range n)
 rwa [List.length_range] at this
section
variable {a c:List Bool} (hl:a.length=c.length) (ha:a.length≤10)
include hl ha
theorem Yb:ol a c=some (GU a c):=by
 unfold ol
 have e:((a.length:Int) !=(c.length:Int))=false:=by rw [hl];simp
 have e2:av 10 (a.length:Int)=false:=decide_eq_false (by omega)
 rw [e,e2]
 have hh:=aC (fY a c) (fun k=>(OG k (fun i=>a.getD i false&& !c.getD i false) false,OG k (fun i=>c.getD i false&& !a.getD i false) true,(k:Int))) a.length (some (OG a.length (fun i=>a.getD i false&& !c.getD i false) false,OG a.length (fun i=>c.getD i false&& !a.getD i false) true)) (by omega) (fun k fuel hk=>?_) (fun fuel=>?_)
 ·have g1:=Fp a.length (fun i=>a.getD i false&& !c.getD i false) false
  have g2:=Fp a.length (fun i=>c.getD i false&& !a.getD i false) true
  have ap:bw (OG a.length (fun i=>a.getD i false&& !c.getD i false) false).length (OG a.length (fun i=>c.getD i false&& !a.getD i false) true).length=true:=dY (by omega)
  simp only [Bool.or_self,cond_false]
  rw [show fY a c aq (([]:List (Int×Bool)),([]:List (Int×Bool)),0)=_ from hh,Option.bind_some,ap];rfl
 ·rw [sw,js]
  have g1:=Fp k (fun i=>a.getD i false&& !c.getD i false) false
  have g2:=Fp k (fun i=>c.getD i false&& !a.getD i false) true
  have p1: ∀x:Int×Bool,bw (OG k (fun i=>a.getD i false&& !c.getD i false) false).length ([x]:List (Int×Bool)).length=true:=fun x=>dY (by simp only [List.length_singleton];omega)
  have p2: ∀x:Int×Bool,bw (OG k (fun i=>c.getD i false&& !a.getD i false) true).length ([x]:List (Int×Bool)).length=true:=fun x=>dY (by simp only [List.length_singleton];omega)
  simp only [az hk,ah hk,ah (show k<c.length by omega),cond_true,aa,Bool.or_true,Int.toNat_natCast,p1,p2,abt,af (by omega:k<4611686018427387904)]
  cases a.getD k false<;>cases c.getD k false<;>rfl
 ·rw [sw,js];simp only [ak,cond_false]
theorem Ze:ox a c=some (GU a c):=by
 unfold ox
 have e2:av 10 (a.length:Int)=false:=decide_eq_false (by omega)
 rw [Mm hl (by omega),Option.bind_some,e2]
 have hcl:=RB a c
 have hin: ∀k,k<(bF a c).length→(bF a c).getD k 0<a.length:=fun k hk=>by
  have:(bF a c).getD k 0∈bF a c:=by rw [ai hk];exact List.getElem_mem hk
  have:=(List.mem_filter.1 this).1
  simpa using this
 have l1:=aC (gI a (zl (bF a c))) (fun k=>((((bF a c).take k).filter fun i=>a.getD i false).map fun (i:Nat)=>((i:Int),false),(k:Int))) (bF a c).length (some (((bF a c).filter fun i=>a.getD i false).map fun (i:Nat)=>((i:Int),false))) (by omega) (fun k fuel hk=>?_) (fun fuel=>?_)
 ·have l2:=aC (gJ c (zl (bF a c))) (fun k=>(((bF a c).filter fun i=>a.getD i false).map (fun (i:Nat)=>((i:Int),false))++(((bF a c).take k).filter fun i=>c.getD i false).map (fun (i:Nat)=>((i:Int),true)),(k:Int))) (bF a c).length (some (((bF a c).filter fun i=>a.getD i false).map (fun (i:Nat)=>((i:Int),false))++((bF a c).filter fun i=>c.getD i false).map (fun (i:Nat)=>((i:Int),true)))) (by omega) (fun k fuel hk=>?_) (fun fuel=>?_)
  ·have x2:gJ c (zl (bF a c)) aq (((bF a c).filter fun i=>a.getD i false).map (fun (i:Nat)=>((i:Int),false)),0)=some (((bF a c).filter fun i=>a.getD i false).map (fun (i:Nat)=>((i:Int),false))++((bF a c).filter fun i=>c.getD i false).map (fun (i:Nat)=>((i:Int),true))):=by
    have:=l2;simpa using this
   simp only [cond_false]
   rw [show gI a (zl (bF a c)) aq (([]:List (Int×Bool)),0)=_ from l1,Option.bind_some,x2,Option.bind_some]
   congr 1
   unfold GU bF
   rw [List.filter_filter,List.filter_filter]
   congr 2
   ·exact List.filter_congr fun i _=>by cases a.getD i false<;>cases c.getD i false<;>rfl
   ·exact List.filter_congr fun i _=>by cases a.getD i false<;>cases c.getD i false<;>rfl
  ·rw [sH,jI]
   have hc:=hin k hk
   have g1:=List.length_filter_le (fun i=>a.getD i false) (bF a c)
   have g2:=List.length_filter_le (fun i=>c.getD i false) ((bF a c).take k)
   have g3:((bF a c).take k).length≤k:=by rw [List.length_take];omega
   have p1: ∀x:Int×Bool,bw (((bF a c).filter fun i=>a.getD i false).map (fun (i:Nat)=>((i:Int),false))++(((bF a c).take k).filter fun i=>c.getD i false).map (fun (i:Nat)=>((i:Int),true))).length ([x]:List (Int×Bool)).length=true:=fun x=>dY (by simp only [List.length_append,List.length_map,List.length_singleton];omega)
   simp only [cf,az hk,ah hk,cond_true,aa,Int.toNat_natCast,rY,ah (show (bF a c).getD k 0<c.length by omega),p1,af (by omega:k<4611686018427387904)]
   rw [List.take_succ_eq_append_getElem hk,←ai hk (d:=0),List.filter_append,List.filter_cons,List.filter_nil]
   cases c.getD ((bF a c).getD k 0) false<;>simp
  ·rw [sH,jI];simp only [cf,ak,cond_false,List.take_length]
 ·rw [sG,jH]
  have hc:=hin k hk
  have g2:=List.length_filter_le (fun i=>a.getD i false) ((bF a c).take k)
  have g3:((bF a c).take k).length≤k:=by rw [List.length_take];omega
  have p1: ∀x:Int×Bool,bw ((((bF a c).take k).filter fun i=>a.getD i false).map (fun (i:Nat)=>((i:Int),false))).length ([x]:List (Int×Bool)).length=true:=fun x=>dY (by simp only [List.length_map,List.length_singleton];omega)
  simp only [cf,az hk,ah hk,cond_true,aa,Int.toNat_natCast,rY,ah hc,p1,af (by omega:k<4611686018427387904)]
  rw [List.take_succ_eq_append_getElem hk,←ai hk (d:=0),List.filter_append,List.filter_cons,List.filter_nil]
  cases a.getD ((bF a c).getD k 0) false<;>simp
 ·rw [sG,jH];simp only [cf,ak,cond_false,List.take_length]
end
def CX (on:List Bool):Option (List Bool)→List (Int×Bool)×Bool
 |none=>([],false)
 |some y=>(GU on y,true)
section
variable {ls:List Ln} {on:List Bool} {pts:List (Int×Int)} (h1:StOk (pts.length:Int) ls on) (h2:BusOk (pts.length:Int) ls pts) (h0:1≤ls.length)
include h1 h2 h0
theorem Ss:il (pts.length:Int) ls on pts []=some (CX on (nj ls on pts)):=by
 have hll:=h1.net.ll;have hl:=h1.len
 unfold il
 rw [abw h1 h2 h0,Option.bind_some]
 cases hb:nj ls on pts with
 |none=>rfl
 |some y=>
  have hy:=(uV hb).1
  dsimp only [Tf,CX]
  rw [Yb (hl.trans hy.symm) (by omega)];rfl
theorem TP:iI (pts.length:Int) ls on pts []=some (CX on (nj ls on pts)):=by
 have hll:=h1.net.ll;have hl:=h1.len
 unfold iI
 rw [acd h1 h2 h0,Option.bind_some]
 cases hb:nj ls on pts with
 |none=>rfl
 |some y=>
  have hy:=(uV hb).1
  dsimp only [Tf,CX]
  rw [Ze (hl.trans hy.symm) (by omega)];rfl
end
section
variable (on earth:List Bool) (pm:Pm) (line:Int) (ho:on.length≤1048576) (hp:pm.length≤1048576)
include ho hp
theorem Xc:dV on earth pm line=some (if nv on earth pm then da pm line else []):=by
 unfold dV
 cases hv:nv on earth pm
 ·rw [Dt,mY,ey]
  simp only [Ke on earth pm ho hp,hv]
  cases av (0:Int) (pm.length:Int)<;>simp [gb]
 ·have h:=aC (jL on earth pm line) (fun k=>(da (pm.take k) line,(k:Int))) pm.length (some (da pm line)) (by omega) (fun k fuel hk=>?_) (fun fuel=>?_)
  ·rw [show (([]:List Int),(0:Int))=(da (pm.take 0) line,((0:Nat):Int)) from rfl,h];rfl
  ·rw [mY,ey]
   have hb:=Gx (pm.take k) line
   have ha: ∀x:Int,bw (da (pm.take k) line).length [x].length=true:=fun x=>by simp [bw];simp at hb;omega
   simp only [az hk,ah hk,aa,cond_true,Int.toNat_natCast,Ke on earth pm ho hp,hv,gb,Option.bind_some,Bool.and_self,ha,af (by omega:k<4611686018427387904)]
   rw [Ix hk]
   cases (pm.getD k (0,0)).2==line<;>rfl
  ·rw [mY,ey];simp [ak,gb]
theorem abD:mE on earth pm line=some (if nv on earth pm then da pm line else []):=by
 unfold mE
 rw [Nl on earth pm ho hp]
 cases hv:nv on earth pm
 ·rfl
 ·have h:=aC (jt pm line) (fun k=>(da (pm.take k) line,(k:Int))) pm.length (some (da pm line)) (by omega) (fun k fuel hk=>?_) (fun fuel=>?_)
  ·simp only [Option.bind_some,cond_true]
   rw [show (([]:List Int),(0:Int))=(da (pm.take 0) line,((0:Nat):Int)) from rfl,h];rfl
  ·rw [rm,io]
   have hb:=Gx (pm.take k) line
   have ha: ∀x:Int,bw (da (pm.take k) line).length [x].length=true:=fun x=>by simp [bw];simp at hb;omega
   simp only [az hk,ah hk,aa,cond_true,Int.toNat_natCast,ha,af (by omega:k<4611686018427387904)]
   rw [Ix hk]
   cases (pm.getD k (0,0)).2==line<;>rfl
  ·rw [rm,io];simp [ak]
end
section
variable (w:Wk) (kd a who:Int) (ho:w.1.length≤1048576) (he:w.2.1.length≤1048576) (hp:w.2.2.length≤1048576)
include ho hp he
omit he in
theorem abG (hv:nv w.1 w.2.1 w.2.2=true) (ha:0≤a∧a<(w.1.length:Int)):mF w.1 w.2.1 w.2.2 kd a who=some (fi w kd a who):=by
 have ok:=uS.1 hv
 have c1:aB a w.1.length=true:=decide_eq_true (by omega)
 have c2:aB a w.2.1.length=true:=decide_eq_true (by have:=ok.le;omega)
 unfold mF fi
 rw [c1,c2,XX _ _ _ (by omega),abD _ _ _ _ ho hp,hv]
 simp only [aa,Option.bind_some,if_true,Pb]
 by_cases k0:kd=0
 ·subst k0;simp
 by_cases k1:kd=1
 ·subst k1;simp
 by_cases k2:kd=2
 ·subst k2;simp
 by_cases k3:kd=3
 ·subst k3;cases w.2.1.getD a.toNat false<;>simp
 by_cases k4:kd=4
 ·subst k4
  simp only [show ((4:Int)==0)=false from rfl,show ((4:Int)==2)=false from rfl,show ((4:Int)==1)=false from rfl,show ((4:Int)==3)=false from rfl,show ((4:Int)==4)=true from rfl,cond_false,cond_true,Option.bind_some]
  rw [if_neg (by omega),if_neg (by omega),if_neg (by omega),if_pos trivial,oX]
  have c6:av (w.2.2.length:Int) 6=decide (w.2.2.length<6):=by simp only [av];exact decide_eq_decide.2 (by omega)
  rw [c6]
  cases w.2.1.getD a.toNat false<;>cases decide ((who,a)∈w.2.2)<;>simp
 by_cases k5:kd=5
 ·subst k5;simp
 ·have e0:(kd==0)=false:=by simpa using k0
  have e1:(kd==1)=false:=by simpa using k1
  have e2:(kd==2)=false:=by simpa using k2
  have e3:(kd==3)=false:=by simpa using k3
  have e4:(kd==4)=false:=by simpa using k4
  have e5:(kd==5)=false:=by simpa using k5
  simp [k0,k1,k2,k3,k4,k5,e0,e1,e2,e3,e4,e5]
omit he in
theorem ack (hv:nv w.1 w.2.1 w.2.2=true) (ha:0≤a∧a<(w.1.length:Int)):pq w.1 w.2.1 w.2.2 kd a who=some (fi w kd a who):=by
 have ok:=uS.1 hv
 have c1:aB a w.1.length=true:=decide_eq_true (by omega)
 have c2:aB a w.2.1.length=true:=decide_eq_true (by have:=ok.le;omega)
 have c3:av (Rg w.2.2 (who,a)) 0= !decide ((who,a)∈w.2.2):=by rw [←Jt];rw [Bool.eq_iff_iff];simp [av,bc]
 unfold pq fi aw
 rw [c1,c2,TK _ _ _ (by omega),Xc _ _ _ _ ho hp,hv]
 simp only [aa,Option.bind_some,if_true,Pb,Bool.or_true,c3,Jt]
 by_cases k0:kd=0
 ·subst k0;simp
 by_cases k1:kd=1
 ·subst k1;simp
 by_cases k2:kd=2
 ·subst k2;simp
 by_cases k3:kd=3
 ·subst k3;cases w.2.1.getD a.toNat false<;>simp
 by_cases k4:kd=4
 ·subst k4
  simp only [show ((4:Int)==0)=false from rfl,show ((4:Int)==2)=false from rfl,show ((4:Int)==1)=false from rfl,show ((4:Int)==3)=false from rfl,show ((4:Int)==4)=true from rfl,cond_false,cond_true,Option.bind_some]
  rw [if_neg (by omega),if_neg (by omega),if_neg (by omega),if_pos trivial,oX]
  have c6:av (w.2.2.length:Int) 6=decide (w.2.2.length<6):=by simp only [av];exact decide_eq_decide.2 (by omega)
  rw [c6]
  cases w.2.1.getD a.toNat false<;>simp [gb,Bool.and_assoc]
 by_cases k5:kd=5
 ·subst k5;simp
 ·have e0:(kd==0)=false:=by simpa using k0
  have e1:(kd==1)=false:=by simpa using k1
  have e2:(kd==2)=false:=by simpa using k2
  have e3:(kd==3)=false:=by simpa using k3
  have e4:(kd==4)=false:=by simpa using k4
  have e5:(kd==5)=false:=by simpa using k5
  simp [k0,k1,k2,k3,k4,k5,e0,e1,e2,e3,e4,e5]
theorem PP:gg w.1 w.2.1 w.2.2=some w:=by
 have a1:bw ([]:List Bool).length w.1.length=true:=by simp [bw];omega
 have a2:bw ([]:List Bool).length w.2.1.length=true:=by simp [bw];omega
 have a3:bw ([]:Pm).length w.2.2.length=true:=by simp [bw];omega
 simp only [gg,aY,aQ,a1,a2,a3,aa,Option.bind_some]
theorem Un:lu w.1 w.2.1 w.2.2=some w:=by
 have a1:bw ([]:List Bool).length w.1.length=true:=by simp [bw];omega
 have a2:bw ([]:List Bool).length w.2.1.length=true:=by simp [bw];omega
 have a3:bw ([]:Pm).length w.2.2.length=true:=by simp [bw];omega
 simp only [lu,kg,a1,a2,a3,aa,Option.bind_some,List.nil_append]
theorem iDo:pp w.1 w.2.1 w.2.2 kd a who=some (oE (dK w kd a who)):=by
 unfold pp dK
 rw [Nl _ _ _ ho hp]
 cases hv:nv w.1 w.2.1 w.2.2
 ·rfl
 have ok:=uS.1 hv
 simp only [Option.bind_some,cond_true,if_true,PP w ho he hp]
 by_cases ha:0≤a∧a<(w.1.length:Int)
 ·have c0:(av a 0 ||bc (w.1.length:Int) a)=false:=by simp [av,bc];omega
  have c1:aB a w.1.length=true:=decide_eq_true (by omega)
  have c2:aB a w.2.1.length=true:=decide_eq_true (by have:=ok.le;omega)
  simp only [c0,Bool.not_false,gb,cond_true,abG w kd a who ho hp hv ha,Option.bind_some,Bool.false_or]
  cases hm:fi w kd a who
  ·rw [if_neg (fun h=>by cases h.2.2)];rfl
  rw [if_pos ⟨ha.1,ha.2,rfl⟩]
  simp only [Bool.not_true,cond_false]
  by_cases k0:kd=0
  ·subst k0;simp [c1,cT,oE]
  by_cases k1:kd=1
  ·subst k1;simp [c1,cT,oE]
  by_cases k2:kd=2
  ·subst k2;simp [c2,cT,oE]
  by_cases k3:kd=3
  ·subst k3;simp [c2,cT,oE]
  by_cases k4:kd=4
  ·subst k4
   have a4:bw w.2.2.length 1=true:=by simp [bw];omega
   simp [cT,oE,a4]
  by_cases k5:kd=5
  ·subst k5
   have hmem:(who,a)∈w.2.2:=by simpa [fi] using hm
   rcases ug w.2.2 (who,a) with ⟨h1,h2⟩ |⟨k,hk,h1,h2,h3⟩
   ·exact absurd hmem h2
   have wk:ax ((k:Int)+1)=(k:Int)+1:=aP (by omega) (by omega)
   have b1:vq (k:Int) ((k:Int)+1) w.2.2.length=true:=decide_eq_true (by omega)
   have b2:vq 0 (k:Int) w.2.2.length=true:=decide_eq_true (by omega)
   have b3:vq ((k:Int)+1) (w.2.2.length:Int) w.2.2.length=true:=decide_eq_true (by omega)
   have b4:((k:Int)==(k:Int)+1)=false:=by simp;omega
   have s1:aj w.2.2 0 (k:Int)=w.2.2.take k:=by simp [aj]
   have s2:aj w.2.2 ((k:Int)+1) (w.2.2.length:Int)=w.2.2.drop (k+1):=by
    unfold aj;rw [show ((k:Int)+1).toNat=k+1 by omega,List.take_of_length_le (by simp<;>omega)]
   have b5:bw (w.2.2.take k).length (w.2.2.drop (k+1)).length=true:=by simp [bw];omega
   simp only [show ((5:Int)==0)=false from rfl,show ((5:Int)==1)=false from rfl,show ((5:Int)==2)=false from rfl,show ((5:Int)==3)=false from rfl,show ((5:Int)==4)=false from rfl,show ((5:Int)==5)=true from rfl,cond_false,cond_true,Option.bind_some,WL w.2.2 who a (by omega),h1,aM,wk,b1,b2,b3,b4,s1,s2,b5,aa]
   simp [cT,oE,h1]
  ·exfalso
   simp [fi,k0,k1,k2,k3,k4,k5] at hm
 ·have c0:(av a 0 ||bc (w.1.length:Int) a)=true:=by simp [av,bc];omega
  rw [if_neg (fun h=>ha ⟨h.1,h.2.1⟩)]
  simp [c0,gb,oE]
theorem sDo:mv w.1 w.2.1 w.2.2 kd a who=some (oE (dK w kd a who)):=by
 unfold mv dK aw
 rw [Ke _ _ _ ho hp]
 cases hv:nv w.1 w.2.1 w.2.2
 ·rfl
 have ok:=uS.1 hv
 have w1:ax ((w.1.length:Int)-1)=(w.1.length:Int)-1:=aP (by omega) (by omega)
 simp only [Option.bind_some,cond_true,if_true,Un w ho he hp,w1]
 by_cases ha:0≤a∧a<(w.1.length:Int)
 ·have c0:(bc 0 a&&bc a ((w.1.length:Int)-1))=true:=by simp [bc];omega
  have c1:aB a w.1.length=true:=decide_eq_true (by omega)
  have c2:aB a w.2.1.length=true:=decide_eq_true (by have:=ok.le;omega)
  simp only [c0,Bool.not_true,Bool.not_false,gb,cond_true,ack w kd a who ho hp hv ha,Option.bind_some,Bool.false_or]
  cases hm:fi w kd a who
  ·rw [if_neg (fun h=>by cases h.2.2)];rfl
  rw [if_pos ⟨ha.1,ha.2,rfl⟩]
  simp only [Bool.not_true,cond_false]
  by_cases k0:kd=0
  ·subst k0;simp [c1,cT,oE]
  by_cases k1:kd=1
  ·subst k1;simp [c1,cT,oE]
  by_cases k2:kd=2
  ·subst k2;simp [c2,cT,oE]
  by_cases k3:kd=3
  ·subst k3;simp [c2,cT,oE]
  by_cases k4:kd=4
  ·subst k4
   have a4:bw w.2.2.length 1=true:=by simp [bw];omega
   simp [cT,oE,a4]
  by_cases k5:kd=5
  ·subst k5
   have hmem:(who,a)∈w.2.2:=by simpa [fi] using hm
   rcases ug w.2.2 (who,a) with ⟨h1,h2⟩ |⟨k,hk,h1,h2,h3⟩
   ·exact absurd hmem h2
   have wk:ax ((k:Int)+1)=(k:Int)+1:=aP (by omega) (by omega)
   have b2:vq 0 (k:Int) w.2.2.length=true:=decide_eq_true (by omega)
   have b3:vq ((k:Int)+1) (w.2.2.length:Int) w.2.2.length=true:=decide_eq_true (by omega)
   have s1:aj w.2.2 0 (k:Int)=w.2.2.take k:=by simp [aj]
   have s2:aj w.2.2 ((k:Int)+1) (w.2.2.length:Int)=w.2.2.drop (k+1):=by
    unfold aj;rw [show ((k:Int)+1).toNat=k+1 by omega,List.take_of_length_le (by simp<;>omega)]
   have b5:bw (w.2.2.take k).length (w.2.2.drop (k+1)).length=true:=by simp [bw];omega
   simp only [show ((5:Int)==0)=false from rfl,show ((5:Int)==1)=false from rfl,show ((5:Int)==2)=false from rfl,show ((5:Int)==3)=false from rfl,show ((5:Int)==4)=false from rfl,cond_false,cond_true,Option.bind_some,TK w.2.2 who a (by omega),h1,wk,b2,b3,s1,s2,b5,aa]
   simp [cT,oE,h1]
  ·exfalso
   simp [fi,k0,k1,k2,k3,k4,k5] at hm
 ·have c0:(bc 0 a&&bc a ((w.1.length:Int)-1))=false:=by simp [bc];omega
  rw [if_neg (fun h=>ha ⟨h.1,h.2.1⟩)]
  simp [c0,gb,oE]
end
theorem RC (a b:Int):og a b=some (av a b):=by
 simp [og,mC,gb]
theorem VJ {a b:Nat} (h:a+b<4611686018427387904):ax (ko .u64 (wk .u64 (ax ((a:Int)+(b:Int)))) 1)=(((a+b) / 2:Nat):Int):=by
 have e1:ax ((a:Int)+(b:Int))=((a+b:Nat):Int):=by rw [aP (by omega) (by omega)];omega
 have e2:wk .u64 ((a+b:Nat):Int)=((a+b:Nat):Int):=by
  unfold wk IntKind.wrap
  have:(IntKind.u64).bits=64:=rfl
  simp only [this]
  first
   |(rw [Int.emod_eq_of_lt (by omega) (by omega)];simp [IntKind.signed])
   |omega
 have e3:ko .u64 ((a+b:Nat):Int) 1=(((a+b) / 2:Nat):Int):=by
  unfold ko
  rw [show min (1:Int).toNat (IntKind.bits .u64)=1 from rfl,Int.fdiv_eq_ediv_of_nonneg _ (by decide)]
  omega
 rw [e1,e2,e3,aP (by omega) (by omega)]
structure At (l:List Int) (x:Int) (p:Nat):Prop where
 le:p≤l.length
 lo: ∀k,k<p→l.getD k 0<x
 hi: ∀k,p≤k→k<l.length→x≤l.getD k 0
theorem UX (l:List Int) (x:Int) (hs: ∀i j,i<j→j<l.length→l.getD i 0<l.getD j 0) (hl:l.length≤1048576): ∀(d lo hi fuel:Nat),hi-lo=d→d<fuel→lo≤hi→hi≤l.length→(∀k,k<lo→l.getD k 0<x)→(∀k,hi≤k→k<l.length→x≤l.getD k 0)→
 ∃p:Nat,bi l x fuel ((lo:Int),(hi:Int))=some (p:Int)∧At l x p:=by
 intro d
 induction d using Nat.strongRecOn with
 |_ d ih=>
  intro lo hi fuel hd hf h1 h2 h3 h4
  obtain ⟨f,rfl⟩: ∃f,fuel=f+1:=⟨fuel-1,by omega⟩
  rw [nI,cB]
  dsimp only
  by_cases hlt:lo<hi
  ·have hm1:lo≤(lo+hi) / 2:=by omega
   have hm2:(lo+hi) / 2<hi:=by omega
   have hc:av (lo:Int) (hi:Int)=true:=decide_eq_true (by omega)
   rw [hc,VJ (by omega)]
   simp only [cond_true,ah (show (lo+hi) / 2<l.length by omega),aa,Int.toNat_natCast,RC,Option.bind_some,af (by omega:(lo+hi) / 2<4611686018427387904)]
   by_cases hx:l.getD ((lo+hi) / 2) 0<x
   ·rw [show av (l.getD ((lo+hi) / 2) 0) x=true from decide_eq_true hx]
    simp only [cond_true,Option.bind_some]
    refine ih (hi-((lo+hi) / 2+1)) (by omega) ((lo+hi) / 2+1) hi f rfl (by omega) (by omega) h2 (fun k hk=>?_) h4
    rcases Nat.lt_or_ge k ((lo+hi) / 2) with h |h
    ·have:=hs k _ h (by omega);omega
    ·have:k=(lo+hi) / 2:=by omega
     rw [this];exact hx
   ·rw [show av (l.getD ((lo+hi) / 2) 0) x=false from decide_eq_false hx]
    simp only [cond_false,Option.bind_some]
    refine ih ((lo+hi) / 2-lo) (by omega) lo ((lo+hi) / 2) f rfl (by omega) hm1 (by omega) h3 (fun k hk hk2=>?_)
    rcases Nat.lt_or_ge ((lo+hi) / 2) k with h |h
    ·have:=hs _ k h hk2;omega
    ·have:k=(lo+hi) / 2:=by omega
     rw [this];omega
  ·have hc:av (lo:Int) (hi:Int)=false:=decide_eq_false (by omega)
   have:lo=hi:=by omega
   subst this
   exact ⟨lo,by rw [hc];rfl,h2,h3,h4⟩
theorem PE {l:List Int} (h:l.Pairwise (· < ·)): ∀i j,i<j→j<l.length→l.getD i 0<l.getD j 0:=by
 intro i j hij hj
 rw [ai (by omega),ai hj]
 exact List.pairwise_iff_getElem.1 h i j (by omega) hj hij
theorem MO {l:List Int} {x:Int} {p:Nat} (hs:l.Pairwise (· < ·)) (h:At l x p):(p<l.length∧l.getD p 0=x)↔x∈l:=by
 constructor
 ·rintro ⟨h1,h2⟩;rw [←h2,ai h1];exact List.getElem_mem h1
 ·intro hm
  obtain ⟨k,hk,e⟩:=List.getElem_of_mem hm
  have e2:l.getD k 0=x:=by rw [ai hk];exact e
  have hk2:p≤k:=by
   rcases Nat.lt_or_ge k p with h3 |h3
   ·have:=h.lo k h3;omega
   ·exact h3
  have h5:=h.hi p (Nat.le_refl p) (by omega)
  by_cases hpk:p=k
  ·subst hpk;exact ⟨hk,e2⟩
  ·have:=PE hs p k (by omega) hk;omega
theorem iBs {l:List Int} {x:Int} (hs:l.Pairwise (· < ·)) (hl:l.length≤1048576): ∃p:Nat,ca l x=some ((p:Int),decide (x∈l))∧At l x p:=by
 obtain ⟨p,h1,h2⟩:=UX l x (PE hs) hl l.length 0 l.length aq (by omega) (pn (by omega)) (by omega) (Nat.le_refl _) (fun k hk=>by omega) (fun k h3 h4=>by omega)
 refine ⟨p,?_,h2⟩
 have hm:=MO hs h2
 have hle:=h2.le
 unfold ca
 rw [show bi l x aq (0,(l.length:Int))=_ from h1,Option.bind_some]
 by_cases hp:p<l.length
 ·have e1:av (p:Int) (l.length:Int)=true:=decide_eq_true (by omega)
  have e2:(l.getD p 0==x)=decide (x∈l):=by
   rw [Bool.eq_iff_iff,beq_iff_eq,decide_eq_true_eq,←hm]
   exact ⟨fun h=>⟨hp,h⟩,fun h=>h.2⟩
  simp only [e1,ah hp,Bool.or_true,aa,Int.toNat_natCast,e2,jE]
  cases decide (x∈l)<;>simp [gb]
 ·have e1:av (p:Int) (l.length:Int)=false:=decide_eq_false (by omega)
  have e2:decide (x∈l)=false:=decide_eq_false fun h=>hp (hm.2 h).1
  simp [e1,e2,gb,au]
theorem Xu {l:List Int} {x:Int} {p:Nat} (hs:l.Pairwise (· < ·)) (h:At l x p) (hx:x∉l):l.take p++ [x]++l.drop p=GE x l:=by
 have hlt: ∀z∈l.take p,z<x:=by
  intro z hz
  obtain ⟨k,hk,rfl⟩:=List.getElem_of_mem hz
  rw [List.length_take] at hk
  rw [List.getElem_take,←ai (d:=0)]
  exact h.lo k (by omega)
 have hgt: ∀z∈l.drop p,x<z:=by
  intro z hz
  obtain ⟨k,hk,rfl⟩:=List.getElem_of_mem hz
  rw [List.length_drop] at hk
  have hm:(l.drop p)[k]'(by rw [List.length_drop];exact hk)∈l:=List.mem_of_mem_drop (List.getElem_mem _)
  have h1:=h.hi (p+k) (by omega) (by omega)
  rw [ai (by omega)] at h1
  rw [List.getElem_drop] at hm ⊢
  have:l[p+k]≠x:=fun e=>hx (e▸hm)
  omega
 refine vt ?_ (wP hs) (fun z=>?_)
 ·rw [List.append_assoc,List.pairwise_append]
  refine ⟨hs.sublist (List.take_sublist _ _),?_,fun a ha b hb=>?_⟩
  ·rw [List.singleton_append,List.pairwise_cons]
   exact ⟨hgt,hs.sublist (List.drop_sublist _ _)⟩
  ·rcases List.mem_append.1 hb with hb |hb
   ·simp at hb;subst hb;exact hlt a ha
   ·have:=hlt a ha;have:=hgt b hb;omega
 ·rw [GF,List.mem_append,List.mem_append,List.mem_singleton]
  have:z∈l↔z∈l.take p∨z∈l.drop p:=by rw [←List.mem_append,List.take_append_drop]
  rw [this]
  constructor
  ·rintro ((h |h) |h)
   ·exact .inr (.inl h)
   ·exact .inl h
   ·exact .inr (.inr h)
  ·rintro (h |h |h)
   ·exact .inl (.inr h)
   ·exact .inl (.inl h)
   ·exact .inr h
theorem Xt {l:List Int} {x:Int} {p:Nat} (hs:l.Pairwise (· < ·)) (h:At l x p) (hx:x∈l):l.take p++l.drop (p+1)=l.filter fun z=>z !=x:=by
 obtain ⟨hp,he⟩:=(MO hs h).2 hx
 refine vt ?_ (hs.sublist List.filter_sublist) (fun z=>?_)
 ·rw [List.pairwise_append]
  refine ⟨hs.sublist (List.take_sublist _ _),hs.sublist (List.drop_sublist _ _),fun a ha b hb=>?_⟩
  have h2:(l.take p++l.drop p).Pairwise (· < ·):=by rw [List.take_append_drop];exact hs
  exact (List.pairwise_append.1 h2).2.2 a ha b (by rw [List.drop_eq_getElem_cons hp];exact List.mem_cons_of_mem _ hb)
 ·rw [List.mem_append,List.mem_filter]
  have e:l=l.take p++l[p]::l.drop (p+1):=by rw [←List.drop_eq_getElem_cons hp,List.take_append_drop]
  have hpx:l[p]=x:=by rw [←ai hp (d:=0)];exact he
  have h2:(l.take p++l[p]::l.drop (p+1)).Pairwise (· < ·):=by rw [←e];exact hs
  have h3:=(List.pairwise_append.1 h2)
  have h4:=List.pairwise_cons.1 h3.2.1
  have hm:z∈l↔z∈l.take p∨z=x∨z∈l.drop (p+1):=by
   conv=>lhs;rw [e]
   rw [List.mem_append,List.mem_cons,hpx]
  rw [hm]
  simp only [bne_iff_ne,ne_eq]
  constructor
  ·rintro (h |h)
   ·exact ⟨.inl h,by have:=h3.2.2 z h l[p] List.mem_cons_self;omega⟩
   ·exact ⟨.inr (.inr h),by have:=h4.1 z h;omega⟩
  ·rintro ⟨h |h |h,hne⟩
   ·exact .inl h
   ·exact absurd h hne
   ·exact .inr h
abbrev W7:=Int×List Ln×List (Int×Int)×List Bool×List Bool×Pm×List Int
def o7 (w:Wd):W7:=(w.b,w.ls,w.pts,w.on,w.earth,w.pm,w.br)
abbrev W8:=Int×List Ln×List (Int×Int)×List Bool×List Bool×Pm×List Int×Bool
def o8 (r:Wd×Bool):W8:=(r.1.b,r.1.ls,r.1.pts,r.1.on,r.1.earth,r.1.pm,r.1.br,r.2)
structure Sm (w:Wd):Prop where
 l:w.ls.length≤1048576
 p:w.pts.length≤1048576
 o:w.on.length≤1048576
 e:w.earth.length≤1048576
 m:w.pm.length≤1048576
 b:w.br.length≤1048576
theorem Rw {w:Wd} (h:WdOk w):w.br.length≤w.on.length:=by
 have h1: ∀k,k<w.br.length→(k:Int)≤w.br.getD k 0:=by
  intro k
  induction k with
  |zero=>
   intro hk
   have:=(h.inn (w.br.getD 0 0) (by rw [ai hk];exact List.getElem_mem hk)).1
   omega
  |succ k ih=>
   intro hk
   have h1:=ih (by omega)
   have h2:=tA h.sor hk
   omega
 rcases Nat.eq_zero_or_pos w.br.length with h0 |h0
 ·omega
 ·have h2:=h1 (w.br.length-1) (by omega)
  have h3:=(h.inn (w.br.getD (w.br.length-1) 0) (by rw [ai (by omega)];exact List.getElem_mem _)).1
  omega
theorem wd {w:Wd} (h:WdOk w):Sm w:=by
 have h1:=h.bus.net.ll;have h2:=h.bus.lp;have h3:=h.bus.net.b1;have h4:=h.work.l1;have h5:=h.work.le;have h6:=h.work.lp;have h7:=Rw h
 simp only [Wd.wk] at h4 h5 h6
 exact ⟨by omega,by omega,by omega,by omega,by omega,by omega⟩
theorem Pk {w:Wd} (h:WdOk w) {on':List Bool} (hl:on'.length=w.ls.length):uQ w.b w.ls on' w.pts=kW w.ls on' w.pts:=by
 unfold uQ
 rw [fG.2 ⟨⟨h.bus.net,hl⟩,h.bus⟩];rfl
theorem Yu {w:Wk} {kd a who:Int} (h:kd≠0∧kd≠1∧kd≠2∧kd≠3∧kd≠4∧kd≠5):fi w kd a who=false:=by
 simp [fi,h.1,h.2.1,h.2.2.1,h.2.2.2.1,h.2.2.2.2.1,h.2.2.2.2.2]
theorem RJ {w:Wk} (hw:WOk w) {kd a who:Int} (h:kd≠0∧kd≠1∧kd≠2∧kd≠3∧kd≠4∧kd≠5):(dK w kd a who).2=false:=by
 rcases rl hw kd a who with ⟨_,_,h1,_⟩ |⟨h1,_⟩
 ·rw [Yu h] at h1;cases h1
 ·rw [h1]
section
variable {w:Wd} (h:Sm w)
include h
theorem Fq:bT w.b w.ls w.pts w.on w.earth w.pm w.br=some (o7 w):=by
 have a1:bw ([]:List Ln).length w.ls.length=true:=by have:=h.l;simp [bw];omega
 have a2:bw ([]:List (Int×Int)).length w.pts.length=true:=by have:=h.p;simp [bw];omega
 have a3:bw ([]:List Int).length w.br.length=true:=by have:=h.b;simp [bw];omega
 have:=PP (w.on,w.earth,w.pm) h.o h.e h.m
 simp only [bT,bf,bj,cL,a1,a2,a3,aa,Option.bind_some,this]
 rfl
theorem xz:bu w.b w.ls w.pts w.on w.earth w.pm w.br=some (o7 w):=by
 have a1:bw ([]:List Ln).length w.ls.length=true:=by have:=h.l;simp [bw];omega
 have a2:bw ([]:List (Int×Int)).length w.pts.length=true:=by have:=h.p;simp [bw];omega
 have a3:bw ([]:List Int).length w.br.length=true:=by have:=h.b;simp [bw];omega
 have:=Un (w.on,w.earth,w.pm) h.o h.e h.m
 simp only [bu,a1,a2,a3,aa,Option.bind_some,List.nil_append,this]
 rfl
end
section
variable {w:Wd} (h:WdOk w) (kd a who:Int) (ha:0≤a∧a<(w.on.length:Int))
include h ha
theorem adA: ∃st:W7,mH w.b w.ls w.pts w.on w.earth w.pm w.br kd a who=some ((bO w kd a who).2,st)∧((bO w kd a who).2=true→st=o7 (bO w kd a who).1):=by
 have sm:=wd h
 obtain ⟨p,hp,hat⟩:=iBs (x:=a) h.sor sm.b
 have hle:=hat.le
 have hbl:=sm.b
 have hix:aB a w.on.length=true:=decide_eq_true ha
 have hv:=cC.2 h
 unfold mH
 rw [hp,Option.bind_some]
 dsimp only
 by_cases k6:kd=6
 ·subst k6
  by_cases hb:a∈w.br
  ·have hf:bO w 6 a who=(w,false):=by
    unfold bO
    rw [if_pos hv,if_pos ha,if_neg (fun e=>e.2 hb),if_neg (fun e=>absurd e.1 (by decide)),if_neg (fun e=>absurd e.1 (by decide)),if_neg (fun e=>by rw [RJ h.work (by decide)] at e;cases e.1)]
   rw [hf]
   exact ⟨_,by rw [decide_eq_true hb];rfl,fun e=>by cases e⟩
  ·have hf:bO w 6 a who=({w with on:=w.on.set a.toNat false,br:=GE a w.br},true):=by
    unfold bO
    rw [if_pos hv,if_pos ha,if_pos ⟨rfl,hb⟩]
   rw [hf]
   have c1:vq 0 (p:Int) w.br.length=true:=decide_eq_true (by omega)
   have c2:bw w.br.length 1=true:=by simp [bw];omega
   refine ⟨_,?_,fun _=>rfl⟩
   rw [decide_eq_false hb]
   simp only [cond_false,show ((6:Int)==6)=true from rfl,cond_true,cu,c1,c2,aa,List.length_singleton,show (((1:Nat):Int)==1)=true from rfl,Option.bind_some,hix,Int.toNat_natCast,Xu h.sor hat hb]
   rfl
 rw [show (kd==6)=false from by simpa using k6,cond_false]
 by_cases k7:kd=7
 ·subst k7
  have hh:=XX w.pm who a (by have:=sm.m;omega)
  by_cases hb:a∈w.br
  ·by_cases hm:(who,a)∈w.pm
   ·have hf:bO w 7 a who=({w with br:=w.br.filter fun x=>x !=a},true):=by
     unfold bO
     rw [if_pos hv,if_pos ha,if_neg (fun e=>absurd e.1 (by decide)),if_pos ⟨rfl,hb,hm⟩]
    rw [hf]
    obtain ⟨hpl,_⟩:=(MO h.sor hat).2 hb
    have wk:ax ((p:Int)+1)=(p:Int)+1:=aP (by omega) (by omega)
    have b1:vq (p:Int) ((p:Int)+1) w.br.length=true:=decide_eq_true (by omega)
    have b2:vq 0 (p:Int) w.br.length=true:=decide_eq_true (by omega)
    have b3:vq ((p:Int)+1) (w.br.length:Int) w.br.length=true:=decide_eq_true (by omega)
    have b4:((p:Int)==(p:Int)+1)=false:=by simp;omega
    have s1:aj w.br 0 (p:Int)=w.br.take p:=by simp [aj]
    have s2:aj w.br ((p:Int)+1) (w.br.length:Int)=w.br.drop (p+1):=by
     unfold aj;rw [show ((p:Int)+1).toNat=p+1 by omega,List.take_of_length_le (by simp<;>omega)]
    have b5:bw (w.br.take p).length (w.br.drop (p+1)).length=true:=by simp [bw];omega
    refine ⟨_,?_,fun _=>rfl⟩
    rw [decide_eq_true hb,hh,decide_eq_true hm]
    simp only [show ((7:Int)==7)=true from rfl,cond_true,Bool.not_true,Bool.not_false,cw,Option.bind_some,Bool.or_self,cond_false,cq,wk,b1,b2,b3,b4,s1,s2,b5,aa,Xt h.sor hat hb]
    rfl
   ·have hf:bO w 7 a who=(w,false):=by
     unfold bO
     rw [if_pos hv,if_pos ha,if_neg (fun e=>absurd e.1 (by decide)),if_neg (fun e=>hm e.2.2),if_neg (fun e=>absurd e.1 (by decide)),if_neg (fun e=>by rw [RJ h.work (by decide)] at e;cases e.1)]
    rw [hf]
    exact ⟨_,by rw [decide_eq_true hb,hh,decide_eq_false hm];rfl,fun e=>by cases e⟩
  ·have hf:bO w 7 a who=(w,false):=by
    unfold bO
    rw [if_pos hv,if_pos ha,if_neg (fun e=>absurd e.1 (by decide)),if_neg (fun e=>hb e.2.1),if_neg (fun e=>absurd e.1 (by decide)),if_neg (fun e=>by rw [RJ h.work (by decide)] at e;cases e.1)]
   rw [hf]
   exact ⟨_,by rw [decide_eq_false hb];rfl,fun e=>by cases e⟩
 rw [show (kd==7)=false from by simpa using k7,cond_false]
 have hdo:=iDo w.wk kd a who sm.o sm.e sm.m
 have hlen:=(FJ h.work (kd:=kd) (a:=a) (who:=who)).1
 have hrad:ie w.b w.ls (dK w.wk kd a who).1.1 w.pts=some (kW w.ls (dK w.wk kd a who).1.1 w.pts):=by
  rw [OJ _ _ _ _ sm.p,Pk h (hlen.trans h.len)]
 by_cases k0:kd=0
 ·subst k0
  by_cases hb:a∈w.br
  ·have hf:bO w 0 a who=(w,false):=by
    unfold bO
    rw [if_pos hv,if_pos ha,if_neg (fun e=>absurd e.1 (by decide)),if_neg (fun e=>absurd e.1 (by decide)),if_pos ⟨rfl,hb⟩]
   rw [hf]
   exact ⟨_,by rw [decide_eq_true hb];rfl,fun e=>by cases e⟩
  ·have hf:bO w 0 a who=if (dK w.wk 0 a who).2=true∧kW w.ls (dK w.wk 0 a who).1.1 w.pts=true then (w.put (dK w.wk 0 a who).1,true) else (w,false):=by
    unfold bO
    rw [if_pos hv,if_pos ha,if_neg (fun e=>absurd e.1 (by decide)),if_neg (fun e=>absurd e.1 (by decide)),if_neg (fun e=>hb e.2)]
   rw [hf]
   simp only [Wd.wk] at hdo
   rw [decide_eq_false hb]
   simp only [show ((0:Int)==0)=true from rfl,cond_true,cond_false,Option.bind_some,Sum.elim_inl,hdo,oE,show ((0:Int) !=0)=false from rfl,Bool.not_false,Bool.and_true,Bool.false_or]
   change ∃st:W7,Option.bind (gb (dK w.wk 0 a who).2 (ie w.b w.ls (dK w.wk 0 a who).1.1 w.pts)) (fun p127=>some ((dK w.wk 0 a who).2&&p127,w.b,w.ls,w.pts,(dK w.wk 0 a who).1.1,(dK w.wk 0 a who).1.2.1,(dK w.wk 0 a who).1.2.2,w.br))=_∧_
   rw [hrad]
   cases h1:(dK w.wk 0 a who).2
   ·exact ⟨_,rfl,fun e=>by cases e⟩
   ·cases h2:kW w.ls (dK w.wk 0 a who).1.1 w.pts
    ·exact ⟨_,rfl,fun e=>by cases e⟩
    ·exact ⟨_,rfl,fun _=>rfl⟩
 ·have hf:bO w kd a who=if (dK w.wk kd a who).2=true∧kW w.ls (dK w.wk kd a who).1.1 w.pts=true then (w.put (dK w.wk kd a who).1,true) else (w,false):=by
   unfold bO
   rw [if_pos hv,if_pos ha,if_neg (fun e=>k6 e.1),if_neg (fun e=>k7 e.1),if_neg (fun e=>k0 e.1)]
  rw [hf,MC h k0]
  have e0:(kd==0)=false:=by simpa using k0
  have e1:(kd !=0)=true:=by simpa using k0
  simp only [Wd.wk] at hdo
  simp only [e0,cond_false,Option.bind_some,Sum.elim_inl,hdo,oE,e1,Bool.not_true,Bool.and_false,pS,Bool.true_or,Bool.and_true]
  change ∃st:W7,some ((dK w.wk kd a who).2,w.b,w.ls,w.pts,(dK w.wk kd a who).1.1,(dK w.wk kd a who).1.2.1,(dK w.wk kd a who).1.2.2,w.br)=_∧_
  cases h1:(dK w.wk kd a who).2
  ·exact ⟨_,rfl,fun e=>by cases e⟩
  ·exact ⟨_,rfl,fun _=>rfl⟩
end
theorem Lo {w:Wd} (sm:Sm w) (kd a who:Int):lq w.b w.ls w.pts w.on w.earth w.pm w.br kd a who=some (o8 (bO w kd a who)):=by
 unfold lq
 rw [iWv w.b w.ls w.pts w.on w.earth w.pm w.br sm.p sm.o sm.m sm.b,Option.bind_some]
 cases hv:wv w
 ·unfold bO
  rw [if_neg (by rw [hv];decide)]
  rfl
 rw [cond_true,Fq sm,Option.bind_some]
 have h:=cC.1 hv
 simp only [aS,Option.bind_some]
 by_cases ha:0≤a∧a<(w.on.length:Int)
 ·have hc:(bc 0 a&&av a (w.ls.length:Int))=true:=by rw [←h.len];simp [bc,av];omega
  obtain ⟨st,h1,h2⟩:=adA h kd a who ha
  simp only [o7]
  rw [hc,cond_true,h1]
  cases hr:(bO w kd a who).2
  ·simp only [Option.bind_some,Bool.not_false,cond_true]
   have hs:=QZ h hr
   have:bO w kd a who=(w,false):=Prod.ext hs hr
   rw [this];rfl
  ·rw [h2 hr]
   simp only [Option.bind_some,Bool.not_true,cond_false,o7,o8,hr]
 ·have hc:(bc 0 a&&av a (w.ls.length:Int))=false:=by rw [←h.len];simp [bc,av];omega
  have hf:bO w kd a who=(w,false):=by unfold bO;rw [if_pos hv,if_neg ha]
  rw [hc,hf];rfl
def Uz (br:List Int) (a:Int) (k:Nat):List Int:=((List.range k).map fun (i:Nat)=>(i:Int)).filter fun i=>i==a ||decide (i∈br)
theorem US (br:List Int) (a:Int) (k:Nat):(Uz br a k).length≤k:=by
 unfold Uz
 refine Nat.le_trans (List.length_filter_le _ _) ?_
 simp
theorem Ru (br:List Int) (a:Int) (k:Nat):Uz br a (k+1)=bif (k:Int)==a ||decide ((k:Int)∈br) then Uz br a k++ [(k:Int)] else Uz br a k:=by
 unfold Uz
 rw [List.range_succ,List.map_append,List.filter_append]
 cases hc:((k:Int)==a ||decide ((k:Int)∈br))<;>simp [List.filter_cons,hc]
theorem Xw {w:Wd} (h:WdOk w) {a:Int} (ha:0≤a∧a<(w.on.length:Int)):Uz w.br a w.on.length=GE a w.br:=by
 refine vt ?_ (wP h.sor) (fun x=>?_)
 ·refine List.Pairwise.sublist List.filter_sublist ?_
  rw [List.pairwise_map]
  exact List.pairwise_lt_range.imp (fun h=>by omega)
 ·unfold Uz
  rw [GF,List.mem_filter,List.mem_map]
  simp only [List.mem_range,Bool.or_eq_true,beq_iff_eq,decide_eq_true_eq]
  constructor
  ·exact fun e=>e.2
  ·intro e
   refine ⟨?_,e⟩
   have:0≤x∧x<(w.on.length:Int):=by
    rcases e with rfl |e
    ·exact ha
    ·exact (h.inn x e).1
   exact ⟨x.toNat,by omega,by omega⟩
section
variable {w:Wd} (h:WdOk w) {a:Int} (ha:0≤a∧a<(w.on.length:Int))
include h ha
theorem YZ:mS w.b w.ls w.pts w.on w.earth w.pm w.br a=some (o7 {w with on:=w.on.set a.toNat false,br:=GE a w.br}):=by
 have sm:=wd h
 have ho:=sm.o;have hb:=sm.b
 have hix:aB a w.on.length=true:=decide_eq_true ha
 have hh:=aC (fh w.on w.br a) (fun k=>((k:Int),Uz w.br a k)) w.on.length (some (GE a w.br)) (by omega) (fun k fuel hk=>?_) (fun fuel=>?_)
 ·unfold mS
  rw [xz sm]
  simp only [Option.bind_some,o7,hix,aa]
  rw [show fh w.on w.br a aq (0,[])=_ from hh]
  rfl
 ·rw [rC,iM]
  have hl:=US w.br a k
  have ap:bw (Uz w.br a k).length ([(k:Int)]:List Int).length=true:=by simp [bw];omega
  simp only [az hk,cond_true,QJ w.br (k:Int) (by omega),af (by omega:k<4611686018427387904),ap,aa]
  rw [Ru]
  cases hc:((k:Int)==a)
  ·simp only [Bool.not_false,cw,Option.bind_some,Bool.false_or]
   cases decide ((k:Int)∈w.br)<;>rfl
  ·simp only [Bool.not_true,pS,Option.bind_some,Bool.true_or,cond_true]
 ·rw [rC,iM]
  simp only [ak,cond_false,Xw h ha]
omit ha in
theorem acl:oA w.b w.ls w.pts w.on w.earth w.pm w.br a=some (o7 {w with br:=w.br.filter fun x=>x !=a}):=by
 have sm:=wd h
 have hb:=sm.b
 have hh:=aC (gR w.br a) (fun k=>((k:Int),(w.br.take k).filter fun x=>x !=a)) w.br.length (some (w.br.filter fun x=>x !=a)) (by omega) (fun k fuel hk=>?_) (fun fuel=>?_)
 ·unfold oA
  rw [xz sm]
  simp only [Option.bind_some,o7]
  rw [show gR w.br a aq (0,[])=_ from hh]
  rfl
 ·rw [sM,jN]
  have hl:=List.length_filter_le (fun x=>x !=a) (w.br.take k)
  rw [List.length_take] at hl
  have ap: ∀x:Int,bw ((w.br.take k).filter fun x=>x !=a).length ([x]:List Int).length=true:=fun x=>by simp only [bw,decide_eq_true_eq,List.length_singleton];omega
  simp only [az hk,ah hk,cond_true,aa,Int.toNat_natCast,ap,af (by omega:k<4611686018427387904)]
  rw [List.take_succ_eq_append_getElem hk,List.filter_append,←ai hk (d:=(0:Int))]
  cases hc:(w.br.getD k 0 !=a)
  ·simp only [List.filter_cons,List.filter_nil,hc,Bool.false_eq_true,if_false,cond_false,Option.bind_some,List.append_nil]
  ·simp only [List.filter_cons,List.filter_nil,hc,if_true,cond_true,Option.bind_some]
 ·rw [sM,jN]
  simp only [ak,cond_false,List.take_length]
end
theorem Sl {pm:Pm} {a who:Int}:who∈da pm a↔(who,a)∈pm:=by
 unfold da
 rw [List.mem_map]
 constructor
 ·rintro ⟨p,hp,rfl⟩
  obtain ⟨h1,h2⟩:=List.mem_filter.1 hp
  have:p.2=a:=by simpa using h2
  rw [←this];exact h1
 ·intro hm
  exact ⟨(who,a),List.mem_filter.2 ⟨hm,by simp⟩,rfl⟩
theorem Dj {w:Wd} (sm:Sm w) (kd a who:Int):jd w.b w.ls w.pts w.on w.earth w.pm w.br kd a who=some (o8 (bO w kd a who)):=by
 unfold jd
 rw [sWv w.b w.ls w.pts w.on w.earth w.pm w.br sm.p sm.o sm.m sm.b,Option.bind_some]
 cases hv:wv w
 ·unfold bO
  rw [if_neg (by rw [hv];decide)]
  rfl
 rw [cond_true]
 have h:=cC.1 hv
 have hol:=h.work.l1
 simp only [Wd.wk] at hol
 have e1:ax ((w.on.length:Int)-1)=(w.on.length:Int)-1:=aP (by omega) (by omega)
 simp only [aw,e1,Option.bind_some]
 by_cases hna: ¬(0≤a∧a<(w.on.length:Int))
 ·have hc:(bc 0 a&&bc a ((w.on.length:Int)-1))=false:=by simp [bc];omega
  have hf:bO w kd a who=(w,false):=by unfold bO;rw [if_pos hv,if_neg hna]
  rw [hc,hf,cond_false,xz sm];rfl
 have ha:0≤a∧a<(w.on.length:Int):=Classical.byContradiction hna
 have hc:(bc 0 a&&bc a ((w.on.length:Int)-1))=true:=by simp [bc];omega
 rw [hc,cond_true,QJ w.br a (by have:=sm.b;omega),Option.bind_some]
 by_cases h6:kd=6∧a∉w.br
 ·have hf:bO w kd a who=({w with on:=w.on.set a.toNat false,br:=GE a w.br},true):=by unfold bO;rw [if_pos hv,if_pos ha,if_pos h6]
  rw [hf,decide_eq_false h6.2,h6.1,show (((6:Int)==6)&& !false)=true from rfl,cond_true,YZ h ha];rfl
 have c6:((kd==6)&& !decide (a∈w.br))=false:=by
  cases hk:(kd==6)
  ·rfl
  ·have:a∈w.br:=Classical.byContradiction fun hn=>h6 ⟨by simpa using hk,hn⟩
   rw [decide_eq_true this];rfl
 rw [c6,cond_false]
 have hheld:dV w.on w.earth w.pm a=some (da w.pm a):=by
  rw [Xc w.on w.earth w.pm a sm.o sm.m,if_pos (show nv w.on w.earth w.pm=true from FK.2 h.work)]
 have hhl:=Gx w.pm a
 have hml:=sm.m
 have c7:(bif (kd==7)&&decide (a∈w.br) then Option.bind (dV w.on w.earth w.pm a) (fun (p133:List Int)=>Option.bind (dh p133 who) (fun (p137:Bool)=>some p137)) else some false)=some (decide (kd=7∧a∈w.br∧(who,a)∈w.pm)):=by
  rw [hheld]
  simp only [Option.bind_some,QJ (da w.pm a) who (by omega)]
  by_cases hk:kd=7
  ·subst hk
   by_cases hb:a∈w.br
   ·simp [hb,Sl]
   ·simp [hb]
  ·have:(kd==7)=false:=by simpa using hk
   simp [this,hk]
 rw [c7,Option.bind_some]
 by_cases h7:kd=7∧a∈w.br∧(who,a)∈w.pm
 ·have hf:bO w kd a who=({w with br:=w.br.filter fun x=>x !=a},true):=by unfold bO;rw [if_pos hv,if_pos ha,if_neg h6,if_pos h7]
  rw [hf,decide_eq_true h7,cond_true,acl h];rfl
 rw [decide_eq_false h7,cond_false]
 by_cases h0:kd=0∧a∈w.br
 ·have hf:bO w kd a who=(w,false):=by unfold bO;rw [if_pos hv,if_pos ha,if_neg h6,if_neg h7,if_pos h0]
  rw [hf,h0.1,decide_eq_true h0.2,show (((0:Int)==0)&&true)=true from rfl,cond_true,xz sm];rfl
 have c0:((kd==0)&&decide (a∈w.br))=false:=by
  cases hk:(kd==0)
  ·rfl
  ·have:a∉w.br:=fun hn=>h0 ⟨by simpa using hk,hn⟩
   rw [decide_eq_false this];rfl
 rw [c0,cond_false,xz sm,Option.bind_some]
 have hdo:=sDo w.wk kd a who sm.o sm.e sm.m
 have hlen:=(FJ h.work (kd:=kd) (a:=a) (who:=who)).1
 have hrad:eR w.b w.ls (dK w.wk kd a who).1.1 w.pts=some (kW w.ls (dK w.wk kd a who).1.1 w.pts):=by
  rw [FD _ _ _ _ sm.p,Pk h (hlen.trans h.len)]
 have hf:bO w kd a who=if (dK w.wk kd a who).2=true∧kW w.ls (dK w.wk kd a who).1.1 w.pts=true then (w.put (dK w.wk kd a who).1,true) else (w,false):=by
  unfold bO
  rw [if_pos hv,if_pos ha,if_neg h6,if_neg h7,if_neg h0]
 rw [hf]
 change Option.bind (mv w.wk.1 w.wk.2.1 w.wk.2.2 kd a who) _=_
 rw [hdo,Option.bind_some]
 simp only [oE,o7,hrad]
 cases h1:(dK w.wk kd a who).2
 ·simp only [Bool.not_false,Bool.not_true,pS,Option.bind_some,Bool.true_or,cond_true,Bool.false_eq_true,false_and,if_false];rfl
 ·cases h2:kW w.ls (dK w.wk kd a who).1.1 w.pts
  ·rfl
  ·rfl
theorem Ld (l:List Dd) (w:Wd): ∀k,0≤((l.take k).foldl bC (0,w)).1∧((l.take k).foldl bC (0,w)).1≤k:=by
 intro k
 induction k with
 |zero=>simp
 |succ k ih=>
  rcases Nat.lt_or_ge k l.length with hk |hk
  ·rw [Es _ _ _ ((0,0,0):Dd) hk]
   generalize (l.take k).foldl bC (0,w)=s at ih
   unfold bC
   split
   ·dsimp only;omega
   ·omega
  ·rw [List.take_of_length_le (by omega)]
   rw [List.take_of_length_le hk] at ih
   omega
def Xg (k:Nat) (s:Int×Wd):Int×Int×W7:=(s.1,(k:Int),o7 s.2)
def o8n (s:Int×Wd):Int×List Ln×List (Int×Int)×List Bool×List Bool×Pm×List Int×Int:=(s.2.b,s.2.ls,s.2.pts,s.2.on,s.2.earth,s.2.pm,s.2.br,s.1)
theorem abL {w:Wd} (h:WdOk w) (l:List Dd) (hl:l.length≤1048576):db l aq (Xg 0 (0,w))=some ((l.foldl bC (0,w)).1,o7 (l.foldl bC (0,w)).2):=by
 have hh:=aC (db l) (fun k=>Xg k ((l.take k).foldl bC (0,w))) l.length (some ((l.foldl bC (0,w)).1,o7 (l.foldl bC (0,w)).2)) (by omega) (fun k fuel hk=>?_) (fun fuel=>?_)
 ·exact hh
 ·rw [rn,ir]
  have hc:=Ld l w k
  have hok:=jj (l.take k) (s:=((0:Int),w)) h
  simp only [Es bC _ _ ((0,0,0):Dd) hk]
  generalize (l.take k).foldl bC (0,w)=s at hc hok
  have hd:=Lo (wd hok) (l.getD k ((0,0,0):Dd)).1 (l.getD k ((0,0,0):Dd)).2.1 (l.getD k ((0,0,0):Dd)).2.2
  have e1:ax (s.1+1)=s.1+1:=aP (by omega) (by omega)
  simp only [Xg,o7,az hk,ah hk,cond_true,aa,Int.toNat_natCast,hd,Option.bind_some,o8,af (by omega:k<4611686018427387904)]
  unfold bC
  cases hr:(bO s.2 (l.getD k ((0,0,0):Dd)).1 (l.getD k ((0,0,0):Dd)).2.1 (l.getD k ((0,0,0):Dd)).2.2).2
  ·simp only [cond_false,Option.bind_some,Bool.false_eq_true,if_false]
  ·simp only [cond_true,Option.bind_some,if_true,e1]
 ·rw [rn,ir]
  simp only [Xg,o7,ak,cond_false,List.take_length]
theorem acr {w:Wd} (h:WdOk w) (l:List Dd) (hl:l.length≤1048576):dc l aq (Xg 0 (0,w))=some ((l.foldl bC (0,w)).1,o7 (l.foldl bC (0,w)).2):=by
 have hh:=aC (dc l) (fun k=>Xg k ((l.take k).foldl bC (0,w))) l.length (some ((l.foldl bC (0,w)).1,o7 (l.foldl bC (0,w)).2)) (by omega) (fun k fuel hk=>?_) (fun fuel=>?_)
 ·exact hh
 ·rw [rB,iK]
  have hc:=Ld l w k
  have hok:=jj (l.take k) (s:=((0:Int),w)) h
  simp only [Es bC _ _ ((0,0,0):Dd) hk]
  generalize (l.take k).foldl bC (0,w)=s at hc hok
  have hd:=Dj (wd hok) (l.getD k ((0,0,0):Dd)).1 (l.getD k ((0,0,0):Dd)).2.1 (l.getD k ((0,0,0):Dd)).2.2
  have e1:ax (s.1+1)=s.1+1:=aP (by omega) (by omega)
  simp only [Xg,o7,az hk,ah hk,cond_true,aa,Int.toNat_natCast,hd,Option.bind_some,o8,af (by omega:k<4611686018427387904)]
  unfold bC
  cases hr:(bO s.2 (l.getD k ((0,0,0):Dd)).1 (l.getD k ((0,0,0):Dd)).2.1 (l.getD k ((0,0,0):Dd)).2.2).2
  ·simp only [cond_false,Option.bind_some,Bool.false_eq_true,if_false]
  ·simp only [cond_true,Option.bind_some,if_true,e1]
 ·rw [rB,iK]
  simp only [Xg,o7,ak,cond_false,List.take_length]
theorem Qg {w:Wd} (sm:Sm w) (l:List Dd) (hl:l.length≤1048576):mG w.b w.ls w.pts w.on w.earth w.pm w.br l=some (o8n (xI w l)):=by
 unfold mG xI
 rw [iWv w.b w.ls w.pts w.on w.earth w.pm w.br sm.p sm.o sm.m sm.b,Option.bind_some]
 cases hv:wv w
 ·rfl
 rw [cond_true,Fq sm,Option.bind_some]
 simp only [o7]
 rw [show db l aq (0,0,w.b,w.ls,w.pts,w.on,w.earth,w.pm,w.br)=_ from abL (cC.1 hv) l hl]
 rfl
theorem QL {w:Wd} (sm:Sm w) (l:List Dd) (hl:l.length≤1048576):mQ w.b w.ls w.pts w.on w.earth w.pm w.br l=some (o8n (xI w l)):=by
 unfold mQ xI
 rw [sWv w.b w.ls w.pts w.on w.earth w.pm w.br sm.p sm.o sm.m sm.b,Option.bind_some]
 cases hv:wv w
 ·rfl
 rw [cond_true,xz sm,Option.bind_some]
 simp only [o7]
 rw [show dc l aq (0,0,w.b,w.ls,w.pts,w.on,w.earth,w.pm,w.br)=_ from acr (cC.1 hv) l hl]
 rfl
theorem sm0:Sm .zero:=⟨by decide,by decide,by decide,by decide,by decide,by decide⟩
theorem MB {w:Wd} (l:List Dd):Sm (xI w l).2:=by
 cases hv:wv w
 ·unfold xI;rw [hv,if_neg (by decide)];exact sm0
 ·exact wd (MA (cC.1 hv) l)
theorem Ob {w:Wd} (kd a who:Int):Sm (bO w kd a who).1:=by
 cases hv:wv w
 ·unfold bO;rw [hv,if_neg (by decide)];exact sm0
 ·exact wd (FI (cC.1 hv) kd a who)
end Go.Proofs.YtjdlgannencchaaGreatDoor
namespace Go.Proofs.YtjdlgannencchaaGreatDoor
open Go.Lib
set_option linter.unusedVariables false
set_option linter.unusedSimpArgs false
theorem XA {n:Nat} (h:n<1000000):(decDigits n).length≤6:=Jl 5 n (by simpa using h)
theorem Gk (n:Nat):decDigits n≠ []:=by
 intro e
 have:=congrArg List.length e
 rw [decDigits_length] at this
 have:=nDigits_pos n
 simp at*;omega
def wm (n:Int):List UInt8:=decDigits n.toNat
theorem SI {n:Int} (h:0≤n∧n<1000000):bU n=some (ba (wm n)):=by
 obtain ⟨k,rfl⟩: ∃k:Nat,n=k:=⟨n.toNat,by omega⟩
 rw [OQ (by omega)];simp [wm]
theorem JH {n:Int} (h:0≤n∧n<1000000):aT n=some (ba (wm n)):=by
 obtain ⟨k,rfl⟩: ∃k:Nat,n=k:=⟨n.toNat,by omega⟩
 rw [Yz (by omega)];simp [wm]
theorem wb {n:Int} (h:0≤n∧n<1000000):(wm n).length≤6:=XA (by omega)
def Xj:List UInt8:=[110,111,110,101]
def EF (l:List Int):List UInt8:=if l=[] then Xj else join (l.map wm) [44]
theorem Qk (xs:List (List UInt8)) (x sep:List UInt8) (h:xs≠ []):join (xs++ [x]) sep=join xs sep++(sep++x):=by
 cases xs with
 |nil=>exact absurd rfl h
 |cons y r=>rw [List.cons_append,join_cons,join_cons];simp [joinTail,List.append_assoc]
theorem IB: ∀(xs:List (List UInt8)),(∀x∈xs,x.length≤6)→(join xs [44]).length≤7*xs.length
 | [],_=>by simp [join_nil]
 |x::r,h=>by
  rw [join_cons]
  have h1:=h x (by simp)
  have h2: ∀r:List (List UInt8),(∀y∈r,y.length≤6)→(joinTail [44] r).length≤7*r.length:=by
   intro r
   induction r with
   |nil=>intro _;simp [joinTail]
   |cons y r ih=>
    intro hr
    have e:joinTail [44] (y::r)=[44]++y++joinTail [44] r:=by simp [joinTail]
    have:=hr y (by simp)
    have:=ih fun z hz=>hr z (by simp [hz])
    rw [e];simp;omega
  have:=h2 r fun y hy=>h y (by simp [hy])
  simp;omega
section
variable {l:List Int} (hl:l.length≤1000) (hr: ∀x∈l,0≤x∧x<1000000)
include hl hr
theorem WE {k:Nat} (h:k<l.length):0≤l.getD k 0∧l.getD k 0<1000000:=by have:=hl;rw [ai h];exact hr _ (List.getElem_mem h)
theorem WN:dS l=some (ba (EF l)):=by
 unfold dS EF
 cases l with
 |nil=>rfl
 |cons x r=>
  rw [if_neg (by simp)]
  generalize hL:x::r=l at*
  have hne:((l.length:Int)==0)=false:=by rw [beq_eq_false_iff_ne,←hL];simp;omega
  rw [hne,show yk (l.length:Int)=true from decide_eq_true (by omega)]
  have hh:=PO (jw l) (l.map fun n=>ba (wm n)) (List.replicate l.length ByteArray.empty) (by simp) (by simp;omega) (fun fuel y j hj hy=>by
   have hj':j<l.length:=by simpa using hj
   rw [rx,iz]
   have hi:=SI (WE hl hr hj')
   rw [ai hj'] at hi
   simp only [az hj',ah hj',aa,cond_true,Int.toNat_natCast,af (by omega:j<4611686018427387904),List.getElem_map,ai hj',hi,Option.bind_some]) (fun fuel y hy=>by rw [rx,iz];simp [ak])
  have hm:(l.map fun n=>ba (wm n)).map (·.data.toList)=l.map wm:=by
   rw [List.map_map];exact List.map_congr_left fun a _=>kY _
  simp only [cond_false,aa]
  rw [hh]
  simp only [Option.bind_some]
  unfold dH
  have hs:(({data:= #[44]}:ByteArray)).data.toList=[44]:=rfl
  have hz:=IB (l.map wm) (fun y hy=>by obtain ⟨z,hz,rfl⟩:=List.mem_map.1 hy;exact wb (hr z hz))
  rw [hm,hs,decide_eq_true (by rw [List.length_map] at*;omega)]
  rfl
theorem Xd:lC l=some (ba (EF l)):=by
 unfold lC
 have hz: ∀k,k≤l.length→(join ((l.take k).map wm) [44]).length≤7*k:=fun k hk=>by
  have:=IB ((l.take k).map wm) (fun y hy=>by obtain ⟨z,hz,rfl⟩:=List.mem_map.1 hy;exact wb (hr z (List.mem_of_mem_take hz)))
  simpa [List.length_take,Nat.min_eq_left hk] using this
 have hh:=aC (gU l) (fun k=>(ba (join ((l.take k).map wm) [44]),(k:Int))) l.length (some (ba (join (l.map wm) [44]))) (by omega) (fun k fuel hk=>by
  have h1:=hz k (by omega)
  have h2:=WE hl hr hk
  have h3:=wb h2
  have c1:Fk (ba (join ((l.take k).map wm) [44])).size ({data:= #[44]}:ByteArray).size=true:=decide_eq_true (by rw [cE];show _+1≤_;omega)
  rw [sQ,jQ]
  simp only [az hk,ah hk,aa,cond_true,Int.toNat_natCast,af (by omega:k<4611686018427387904),JH h2,Option.bind_some,c1]
  rw [List.take_succ_eq_append_getElem hk,List.map_append,List.map_cons,List.map_nil,←ai (d:=0) hk]
  cases k with
  |zero=>
   have c2: ∀s:ByteArray,s.size≤6→Fk (ba (join ([]:List (List UInt8)) [44])).size s.size=true:=fun s hs=>decide_eq_true (by rw [cE];simp [join_nil];omega)
   have e0:av 0 ((0:Nat):Int)=false:=rfl
   simp only [e0,cond_false,Option.bind_some,List.take_zero,List.map_nil,List.nil_append,c2 (ba (wm (l.getD 0 0))) (by rw [cE];exact h3),aa]
   rw [xJ];simp [join_nil,join_one]
  |succ k=>
   have e0:av 0 ((k+1:Nat):Int)=true:=decide_eq_true (by omega)
   have e1:ba (join ((l.take (k+1)).map wm) [44])++({data:= #[44]}:ByteArray)=ba (join ((l.take (k+1)).map wm) [44]++ [44]):=xJ _ [44]
   have c2:Fk (ba (join ((l.take (k+1)).map wm) [44]++ [44])).size (ba (wm (l.getD (k+1) 0))).size=true:=decide_eq_true (by rw [cE,cE,List.length_append];show _+1+_≤_;omega)
   simp only [e0,cond_true,Option.bind_some,e1,c2,aa]
   rw [xJ,Qk _ _ _ (by
    intro e
    have:=congrArg List.length e
    rw [List.length_map,List.length_take,List.length_nil] at this;omega),List.append_assoc]) (fun fuel=>by
  rw [sQ,jQ,List.take_length];simp only [ak,cond_false])
 rw [show gU l aq (({data:= #[]}:ByteArray),0)=_ from hh]
 simp only [Option.bind_some,mn]
 unfold EF
 cases l with
 |nil=>
  have:(join (([]:List Int).map wm) [44]==({data:= #[]}:ByteArray).toList)=true:=by rw [ByteArray.toList_eq];rfl
  rw [this];rfl
 |cons x r=>
  rw [if_neg (by simp)]
  have hne:(join ((x::r).map wm) [44]==({data:= #[]}:ByteArray).toList)=false:=by
   rw [beq_eq_false_iff_ne,ByteArray.toList_eq]
   intro e
   rw [List.map_cons,join_cons] at e
   exact Gk _ (List.append_eq_nil_iff.1 e).1
  rw [hne];rfl
end
theorem Ly (l:List Int):EF l≠ []:=by
 unfold EF
 cases l with
 |nil=>simp [Xj]
 |cons x r=>
  rw [if_neg (by simp),List.map_cons,join_cons]
  intro e;exact Gk _ (List.append_eq_nil_iff.1 e).1
theorem xo {n:Int} (h:0≤n):itoa n=wm n:=by
 obtain ⟨k,rfl⟩: ∃k:Nat,n=k:=⟨n.toNat,by omega⟩
 rw [itoa_nonneg];simp [wm]
def Ns (b:Int) (ls:List Ln):List UInt8:=if Ec b ls=true then Nt b ls else []
theorem abH (b:Int) (ls:List Ln):cd b ls=some (ba (Ns b ls)):=by
 unfold cd Ns
 rw [Ya,Option.bind_some]
 cases hv:Ec b ls with
 |false=>rfl
 |true=>
  have ok:=uK.1 hv
  have hb:ST b ls=true:=by
   unfold ST Zw
   have h0:=ok.b0;have h1:=ok.b1;have h2:=ok.ll
   rw [decide_eq_true (by omega),decide_eq_true (by omega)]
   simp only [Bool.true_and,List.all_eq_true,Bool.and_eq_true,decide_eq_true_eq]
   intro x hx
   obtain ⟨k,hk,rfl⟩:=List.mem_iff_getElem.1 hx
   have hL:=ok.ln k hk
   rw [ai hk] at hL
   have a1:=hL.a;have a2:=hL.b;have a3:=hL.m
   omega
  rw [hb,if_pos rfl];rfl
theorem acm (b:Int) (ls:List Ln):ow b ls=some (ba (Ns b ls)):=by
 unfold ow Ns
 rw [Wo,Option.bind_some]
 cases hv:Ec b ls with
 |false=>rfl
 |true=>
  have ok:=uK.1 hv
  have h0:=ok.b0;have h1:=ok.b1;have h2:=ok.ll
  let f:Ln→List UInt8:=fun x=>32::(itoa x.1++45::(itoa x.2.1++58::itoa x.2.2))
  have hf: ∀k,k<ls.length→f (ls.getD k (0,0,0))=32::(wm (ls.getD k (0,0,0)).1++45::(wm (ls.getD k (0,0,0)).2.1++58::wm (ls.getD k (0,0,0)).2.2)):=fun k hk=>by
   have hL:=ok.ln k hk
   show 32::(itoa _++45::(itoa _++58::itoa _))=_
   rw [xo hL.a.1,xo hL.b.1,xo (by have:=hL.m;omega)]
  have hlen: ∀k,k≤ls.length→(wm b++(ls.take k).flatMap f).length≤6+21*k:=by
   intro k
   induction k with
   |zero=>intro _;simp;exact wb (by omega)
   |succ k ih=>
    intro hk
    have hL:=ok.ln k (by omega)
    have:=ih (by omega)
    have e1:=wb (n:=(ls.getD k (0,0,0)).1) (by have:=hL.a;omega)
    have e2:=wb (n:=(ls.getD k (0,0,0)).2.1) (by have:=hL.b;omega)
    have e3:=wb (n:=(ls.getD k (0,0,0)).2.2) (by have:=hL.m;omega)
    rw [List.take_succ_eq_append_getElem (by omega),List.flatMap_append,←ai (d:=(0,0,0)) (by omega:k<ls.length)]
    simp only [List.flatMap_cons,List.flatMap_nil,List.append_nil,hf k (by omega)]
    rw [List.length_append] at this ⊢
    simp only [List.length_append,List.length_cons];omega
  rw [if_pos rfl,JH (by omega)]
  have hh:=aC (gH ls) (fun k=>(ba (wm b++(ls.take k).flatMap f),(k:Int))) ls.length (some (ba (wm b++ls.flatMap f))) (by omega) (fun k fuel hk=>by
   have hL:=ok.ln k hk
   have q1:0≤(ls.getD k (0,0,0)).1∧(ls.getD k (0,0,0)).1<1000000:=by have:=hL.a;omega
   have q2:0≤(ls.getD k (0,0,0)).2.1∧(ls.getD k (0,0,0)).2.1<1000000:=by have:=hL.b;omega
   have q3:0≤(ls.getD k (0,0,0)).2.2∧(ls.getD k (0,0,0)).2.2<1000000:=by have:=hL.m;omega
   have l1:=wb q1;have l2:=wb q2;have l3:=wb q3
   have hz:=hlen k (by omega)
   rw [sF,jG]
   have k32:({data:= #[32]}:ByteArray)=ba [32]:=rfl
   have k45:({data:= #[45]}:ByteArray)=ba [45]:=rfl
   have k58:({data:= #[58]}:ByteArray)=ba [58]:=rfl
   have st: ∀a c:List UInt8,a.length+c.length≤1000000→Fk (ba a).size (ba c).size=true:=fun a c h=>decide_eq_true (by rw [cE,cE];omega)
   have hz2:((wm b).length+((ls.take k).flatMap f).length)≤6+21*k:=by simpa using hz
   simp only [az hk,ah hk,aa,cond_true,Int.toNat_natCast,af (by omega:k<4611686018427387904),JH q1,JH q2,JH q3,Option.bind_some,k32,k45,k58]
   repeat rw [xJ]
   repeat rw [st _ _ (by simp only [List.length_append,List.length_cons,List.length_nil];omega),aa]
   rw [List.take_succ_eq_append_getElem hk,List.flatMap_append,←ai (d:=(0,0,0)) hk]
   simp only [List.flatMap_cons,List.flatMap_nil,List.append_nil,hf k hk]
   simp) (fun fuel=>by
   rw [sF,jG,List.take_length];simp only [ak,cond_false])
  rw [cond_true,Option.bind_some]
  rw [show gH ls aq (ba (wm b),0)=_ from by simpa using hh]
  unfold Nt
  rw [xo (by omega)];rfl
end Go.Proofs.YtjdlgannencchaaGreatDoor
namespace Go.Proofs.YtjdlgannencchaaGreatDoor
open Go.ChangeShapes Go.WideShapes Go.ChangeAt Go.RowKit
set_option linter.unusedVariables false
set_option linter.unusedSimpArgs false
set_option linter.unusedSectionVars false
section
variable (w:Wk) (ho:w.1.length≤1000) (he:w.2.1.length≤1000) (hp:w.2.2.length≤1000)
include ho he hp
omit ho he in
theorem abK:ip w.1 w.2.1 w.2.2=some (bY w.2.2):=by
 unfold ip
 have h:=aC (eK w.2.2) (fun k=>(bY (w.2.2.take k),(k:Int))) w.2.2.length (some (bY w.2.2)) (by omega) (fun k fuel hk=>?_) (fun fuel=>?_)
 ·rw [show (([]:List (Int×Int×Int)),(0:Int))=(bY (w.2.2.take 0),((0:Nat):Int)) from rfl,h];rfl
 ·rw [nG,dP]
  have ha:bw (bY (w.2.2.take k)).length 1=true:=by simp [bw,bY];omega
  simp only [az hk,ah hk,aa,cond_true,Int.toNat_natCast,List.length_singleton,ha,af (by omega:k<4611686018427387904)]
  rw [IN hk]
 ·rw [nG,dP];simp [ak]
omit he hp ho in
theorem adz (kd:Int) (l:List Bool) (b:Bool) (hl:l.length≤1000):mI kd l b=some (dO kd l b l.length):=by
 unfold mI
 have h:=aC (ju kd l b) (fun k=>(dO kd l b k,(k:Int))) l.length (some (dO kd l b l.length)) (by omega) (fun k fuel hk=>?_) (fun fuel=>?_)
 ·rw [show (([]:List (Int×Int×Int)),(0:Int))=(dO kd l b 0,((0:Nat):Int)) from rfl,h];rfl
 ·rw [rp,iv]
  have hb:=xN kd l b k
  have ha:bw (dO kd l b k).length 1=true:=by simp [bw];omega
  simp only [az hk,ah hk,aa,cond_true,Int.toNat_natCast,List.length_singleton,ha,af (by omega:k<4611686018427387904)]
  simp only [dO]
  cases (l.getD k false==b)<;>rfl
 ·rw [rp,iv];simp only [ak,cond_false]
end
def Fe (d:Int×Bool):Dd:=(bif d.2 then (0:Int) else 1,d.1,0)
theorem yX (on:List Bool) (x:Option (List Bool)):(CX on x).1.map Fe=FF on x:=by
 cases x with
 |none=>rfl
 |some y=>
  show (GU on y).map Fe=oD on y on.length++xu on y on.length
  unfold GU oD xu
  rw [List.map_append,List.map_map,List.map_map];rfl
theorem He (on:List Bool) (x:Option (List Bool)):(CX on x).1.length≤2*on.length:=by
 cases x with
 |none=>simp [CX]
 |some y=>
  have a:=List.length_filter_le (fun i=>on.getD i false&& !y.getD i false) (List.range on.length)
  have b:=List.length_filter_le (fun i=>y.getD i false&& !on.getD i false) (List.range on.length)
  rw [List.length_range] at a b
  simp only [CX,GU,List.length_append,List.length_map]
  omega
theorem Lc (earth:List Bool) (br:List Int) {k:Nat} (hk:k<br.length):dN earth (br.take (k+1))=dN earth (br.take k)++((if earth.getD (br.getD k 0).toNat false then [] else [(2,br.getD k 0,0)])++ [(4,br.getD k 0,0),(7,br.getD k 0,0),(5,br.getD k 0,0)]):=by
 rw [List.take_succ_eq_append_getElem hk,←ai hk (d:=0)]
 unfold dN
 rw [List.flatMap_append];simp
theorem KX (earth:List Bool) (br:List Int) {k:Nat} (hk:k<br.length):bP earth (br.take (k+1))=(bP earth (br.take k)).set (br.getD k 0).toNat true:=by
 rw [List.take_succ_eq_append_getElem hk,←ai hk (d:=0)]
 unfold bP
 rw [List.foldl_append];rfl
theorem DU (earth:List Bool): ∀br:List Int,(dN earth br).length≤4*br.length
 | []=>by simp [dN]
 |l::br=>by
  have:=DU earth br
  rw [OC]
  simp only [List.length_append,List.length_cons,List.length_nil]
  split<;>simp<;>omega
theorem EA: ∀(br:List Int) (earth:List Bool) (m:Nat),(∀x∈br,x.toNat≠m)→(bP earth br).getD m false=earth.getD m false
 | [],_,_,_=>rfl
 |l::br,earth,m,h=>by
  show (bP (earth.set l.toNat true) br).getD m false=_
  rw [EA br _ m fun x hx=>h x (List.mem_cons_of_mem _ hx)]
  have:=h l List.mem_cons_self
  simp [List.getD,List.getElem?_set_ne this]
theorem Gm: ∀(br:List Int) (earth:List Bool) (k:Nat),(∀x∈br,0≤x∧x<(earth.length:Int))→(bP earth br).getD k false=(earth.getD k false ||decide ((k:Int)∈br))
 | [],_,_,_=>by simp [bP]
 |l::br,earth,k,h=>by
  show (bP (earth.set l.toNat true) br).getD k false=_
  have hl:=h l List.mem_cons_self
  rw [Gm br _ k fun x hx=>by rw [List.length_set];exact h x (List.mem_cons_of_mem _ hx)]
  by_cases e:(k:Int)=l
  ·have e2:l.toNat=k:=by omega
   have:(earth.set l.toNat true).getD k false=true:=by rw [e2];simp [List.getD,show k<earth.length by omega]
   rw [this];simp [e]
  ·have e2:l.toNat≠k:=by omega
   have:(earth.set l.toNat true).getD k false=earth.getD k false:=by simp [List.getD,List.getElem?_set_ne e2]
   rw [this];simp [e]
theorem PF {br:List Int} (h:br.Pairwise (· < ·)) (h0: ∀x∈br,0≤x): ∀k,k<br.length→(k:Int)≤br.getD k 0
 |0,hk=>h0 _ (by rw [ai hk];exact List.getElem_mem hk)
 |k+1,hk=>by
  have:=PF h h0 k (by omega)
  have:=tA h hk
  omega
theorem MU {w:Wd} (h:WdOk w):w.br.length≤w.on.length:=by
 cases hb:w.br.length with
 |zero=>omega
 |succ n=>
  have h1:=PF h.sor (fun x hx=>(h.inn x hx).1.1) n (by omega)
  have h2:=(h.inn (w.br.getD n 0) (by rw [ai (show n<w.br.length by omega)];exact List.getElem_mem _)).1.2
  omega
theorem Zk {br:List Int} (h:br.Pairwise (· < ·)) (h0: ∀x∈br,0≤x) {k:Nat} (hk:k<br.length): ∀x∈br.take k,x.toNat≠(br.getD k 0).toNat:=by
 intro x hx e
 have hk0:=h0 (br.getD k 0) (by rw [ai hk];exact List.getElem_mem hk)
 have hx0:=h0 x (List.mem_of_mem_take hx)
 have h2:(br.take k++br.drop k).Pairwise (· < ·):=by rw [List.take_append_drop];exact h
 have:=(List.pairwise_append.1 h2).2.2 x hx (br.getD k 0) (by rw [List.drop_eq_getElem_cons hk,ai hk];exact List.mem_cons_self)
 omega
theorem Yd (p:List (Int×Bool)×Bool) (L:List Dd) (h:L.length+p.1.length≤1048576):ef p aq (L,0)=some (L++p.1.map Fe):=by
 have hh:=aC (ef p) (fun k=>(L++(p.1.take k).map Fe,(k:Int))) p.1.length (some (L++p.1.map Fe)) (by omega) (fun k fuel hk=>?_) (fun fuel=>?_)
 ·simpa using hh
 ·rw [qm,fX]
  have ap: ∀x:Dd,bw (L++(p.1.take k).map Fe).length ([x]:List Dd).length=true:=fun x=>dY (by simp only [List.length_append,List.length_map,List.length_take,List.length_singleton];omega)
  simp only [az hk,ah hk,cond_true,aa,Int.toNat_natCast,ap,af (by omega:k<4611686018427387904)]
  rw [List.take_succ_eq_append_getElem hk,←ai hk (d:=((0,false):Int×Bool)),List.map_append,List.map_cons,List.map_nil,←List.append_assoc]
  unfold Fe
  cases (p.1.getD k ((0,false):Int×Bool)).2<;>rfl
 ·rw [qm,fX];simp only [ak,cond_false,List.take_length]
theorem Zg (p:List (Int×Bool)×Bool) (L:List Dd) (h:L.length+p.1.length≤1048576):ew p aq (L,0)=some (L++p.1.map Fe):=by
 have hh:=aC (ew p) (fun k=>(L++(p.1.take k).map Fe,(k:Int))) p.1.length (some (L++p.1.map Fe)) (by omega) (fun k fuel hk=>?_) (fun fuel=>?_)
 ·simpa using hh
 ·rw [qD,gE]
  have ap: ∀x:Dd,bw (L++(p.1.take k).map Fe).length ([x]:List Dd).length=true:=fun x=>dY (by simp only [List.length_append,List.length_map,List.length_take,List.length_singleton];omega)
  simp only [az hk,ah hk,cond_true,aa,Int.toNat_natCast,ap,af (by omega:k<4611686018427387904)]
  rw [List.take_succ_eq_append_getElem hk,←ai hk (d:=((0,false):Int×Bool)),List.map_append,List.map_cons,List.map_nil,←List.append_assoc]
  unfold Fe
  cases (p.1.getD k ((0,false):Int×Bool)).2<;>rfl
 ·rw [qD,gE];simp only [ak,cond_false,List.take_length]
theorem SA (br:List Int) (p:List Dd×List Bool×Int) (L:List Dd) (h:L.length≤1048576):ee br p aq (L,0)=some (L++ [(4,br.getD p.2.2.toNat 0,0),(7,br.getD p.2.2.toNat 0,0),(5,br.getD p.2.2.toNat 0,0)]):=by
 have hh:=aC (ee br p) (fun k=>(L++(([4,7,5]:List Int).take k).map (fun kd=>(kd,br.getD p.2.2.toNat 0,0)),(k:Int))) 3 (some (L++ [(4,br.getD p.2.2.toNat 0,0),(7,br.getD p.2.2.toNat 0,0),(5,br.getD p.2.2.toNat 0,0)])) (by omega) (fun k fuel hk=>?_) (fun fuel=>?_)
 ·simpa using hh
 ·rw [ql,fW]
  have ap: ∀x:Dd,bw (L++(([4,7,5]:List Int).take k).map (fun kd=>(kd,br.getD p.2.2.toNat 0,(0:Int)))).length ([x]:List Dd).length=true:=fun x=>dY (by simp only [List.length_append,List.length_map,List.length_take,List.length_singleton];omega)
  have hlt:av (k:Int) 3=true:=decide_eq_true (by omega)
  have hix:aB (k:Int) 3=true:=ah hk
  simp only [hlt,hix,cond_true,aa,Int.toNat_natCast,ap,af (by omega:k<4611686018427387904)]
  have:k=0∨k=1∨k=2:=by omega
  rcases this with rfl |rfl |rfl<;>simp
 ·rw [ql,fW];rfl
section
variable {earth:List Bool} {br:List Int} (hs:br.Pairwise (· < ·)) (hi: ∀x∈br,0≤x∧x<(earth.length:Int)) (hb:br.length≤1000) (L:List Dd) (hL:L.length≤1000)
include hs hi hb hL
theorem ady:eb br earth aq (L,earth,0)=some (L++dN earth br,bP earth br):=by
 have hh:=aC (eb br earth) (fun k=>(L++dN earth (br.take k),bP earth (br.take k),(k:Int))) br.length (some (L++dN earth br,bP earth br)) (by omega) (fun k fuel hk=>?_) (fun fuel=>?_)
 ·simpa [dN,bP] using hh
 ·rw [qk,fV]
  have hg:=hi (br.getD k 0) (by rw [ai hk];exact List.getElem_mem hk)
  have hix:aB (br.getD k 0) earth.length=true:=by simp only [aB,Bool.and_eq_true,decide_eq_true_eq];omega
  have hfl:=DU earth (br.take k)
  have htl:(br.take k).length≤k:=by rw [List.length_take];omega
  have hkeep:=EA (br.take k) earth (br.getD k 0).toNat (Zk hs (fun x hx=>(hi x hx).1) hk)
  have ap: ∀x:Dd,bw (L++dN earth (br.take k)).length ([x]:List Dd).length=true:=fun x=>dY (by simp only [List.length_append,List.length_singleton];omega)
  simp only [az hk,ah hk,cond_true,aa,Int.toNat_natCast,hix,ap,af (by omega:k<4611686018427387904)]
  rw [hkeep,Lc earth br hk,KX earth br hk]
  cases he:earth.getD (br.getD k 0).toNat false
  ·simp only [cond_false,Option.bind_some,Bool.false_eq_true,if_false]
   rw [SA _ _ _ (by simp only [List.length_append,List.length_singleton];omega)]
   simp only [Option.bind_some,Int.toNat_natCast,List.append_assoc]
  ·simp only [cond_true,Option.bind_some,if_true]
   rw [SA _ _ _ (by simp only [List.length_append];omega),yF (hkeep.trans he)]
   simp only [Option.bind_some,Int.toNat_natCast,List.append_assoc,List.nil_append]
 ·rw [qk,fV];simp only [ak,cond_false,List.take_length]
theorem adI:er earth br aq (L,0)=some (L++dN earth br):=by
 have hh:=aC (er earth br) (fun k=>(L++dN earth (br.take k),(k:Int))) br.length (some (L++dN earth br)) (by omega) (fun k fuel hk=>?_) (fun fuel=>?_)
 ·simpa [dN] using hh
 ·rw [qz,gC]
  have hg:=hi (br.getD k 0) (by rw [ai hk];exact List.getElem_mem hk)
  have hix:aB (br.getD k 0) earth.length=true:=by simp only [aB,Bool.and_eq_true,decide_eq_true_eq];omega
  have hfl:=DU earth (br.take k)
  have htl:(br.take k).length≤k:=by rw [List.length_take];omega
  have ap: ∀x:Dd,bw (L++dN earth (br.take k)).length ([x]:List Dd).length=true:=fun x=>dY (by simp only [List.length_append,List.length_singleton];omega)
  have ap3: ∀x y z:Dd,bw (L++dN earth (br.take k)).length ([x,y,z]:List Dd).length=true:=fun x y z=>dY (by simp only [List.length_append,List.length_cons,List.length_nil];omega)
  have ap4: ∀t x y z:Dd,bw (L++dN earth (br.take k)++ [t]).length ([x,y,z]:List Dd).length=true:=fun t x y z=>dY (by simp only [List.length_append,List.length_cons,List.length_nil];omega)
  simp only [az hk,ah hk,cond_true,aa,Int.toNat_natCast,hix,ap,af (by omega:k<4611686018427387904)]
  rw [Lc earth br hk]
  cases he:earth.getD (br.getD k 0).toNat false
  ·simp only [cond_false,Option.bind_some,Bool.false_eq_true,if_false,ap4,aa]
   simp only [List.append_assoc]
  ·simp only [cond_true,Option.bind_some,if_true,ap3,aa,List.append_assoc,List.nil_append]
 ·rw [qz,gC];simp only [ak,cond_false,List.take_length]
theorem Za (on:List Bool) (hl:earth.length=on.length) (ho:on.length≤1000):eu on earth br aq (L,0)=some (L++dO 3 (bP earth br) true on.length):=by
 have hh:=aC (eu on earth br) (fun k=>(L++dO 3 (bP earth br) true k,(k:Int))) on.length (some (L++dO 3 (bP earth br) true on.length)) (by omega) (fun k fuel hk=>?_) (fun fuel=>?_)
 ·simpa [dO] using hh
 ·rw [qC,gD]
  have hfl:=xN 3 (bP earth br) true k
  have ap: ∀x:Dd,bw (L++dO 3 (bP earth br) true k).length ([x]:List Dd).length=true:=fun x=>dY (by simp only [List.length_append,List.length_singleton];omega)
  have hg:=Gm br earth k hi
  simp only [az hk,ah (show k<earth.length by omega),cond_true,aa,Int.toNat_natCast,QJ br _ (by omega),ap,af (by omega:k<4611686018427387904),dO,hg]
  cases earth.getD k false
  ·simp only [Bool.not_false,cw,Option.bind_some,Bool.false_or]
   cases decide ((k:Int)∈br)
   ·rfl
   ·simp only [cond_true,Option.bind_some,beq_self_eq_true,if_true,List.append_assoc]
  ·simp only [Bool.not_true,pS,Option.bind_some,Bool.true_or,cond_true,beq_self_eq_true,if_true,List.append_assoc]
 ·rw [qC,gD];simp only [ak,cond_false]
end
theorem acq (pm:Pm) (hp:pm.length≤1000):ep pm aq (([]:List Dd),0)=some (bY pm):=by
 have h:=aC (ep pm) (fun k=>(bY (pm.take k),(k:Int))) pm.length (some (bY pm)) (by omega) (fun k fuel hk=>?_) (fun fuel=>?_)
 ·rw [show (([]:List (Int×Int×Int)),(0:Int))=(bY (pm.take 0),((0:Nat):Int)) from rfl,h]
 ·rw [qy,gB]
  have ha: ∀x:Dd,bw (bY (pm.take k)).length ([x]:List Dd).length=true:=fun x=>dY (by simp only [bY,List.length_map,List.length_take,List.length_singleton];omega)
  simp only [az hk,ah hk,aa,cond_true,Int.toNat_natCast,ha,af (by omega:k<4611686018427387904)]
  rw [IN hk]
 ·rw [qy,gB];simp only [ak,cond_false,List.take_length]
theorem Sj {w:Wd} (h:WdOk w):(wN w).length≤1000:=by
 have h1:=MU h
 have h2:=DU w.earth w.br
 have h3:=xN 3 (bP w.earth w.br) true w.on.length
 have h4:=He w.on (nj w.ls w.on w.pts)
 have h5:=h.work.lp
 have h6:=h.work.l1
 have h7:(FF w.on (nj w.ls w.on w.pts)).length=(CX w.on (nj w.ls w.on w.pts)).1.length:=by rw [←yX,List.length_map]
 simp only [Wd.wk] at h5 h6
 simp only [wN,List.length_append,bY,List.length_map,h7]
 omega
section
variable (b:Int) (ls:List Ln) (pts:List (Int×Int)) (on earth:List Bool) (pm:Pm) (br:List Int) (hp:pts.length≤1048576) (ho:on.length≤1048576) (hm:pm.length≤1048576) (hb:br.length≤1048576)
include hp ho hm hb
theorem abC:iR b ls pts on earth pm br=some (if wv ⟨b,ls,pts,on,earth,pm,br⟩ then wN ⟨b,ls,pts,on,earth,pm,br⟩ else []):=by
 unfold iR
 rw [iWv b ls pts on earth pm br hp ho hm hb,Option.bind_some]
 cases hv:wv ⟨b,ls,pts,on,earth,pm,br⟩
 ·rfl
 have hw:=cC.1 hv
 have hbl:=MU hw
 have hlp:=hw.bus.lp
 have w0:=hw.work.l0;have w1:=hw.work.l1;have we:=hw.work.le;have wp:=hw.work.lp;have hlen:=hw.len
 have hin:=hw.inn;have hsor:=hw.sor
 simp only [Wd.wk] at w0 w1 we wp
 dsimp only at hlp hbl hlen hin hsor
 subst hlp
 have h01:1≤ls.length:=by omega
 have hel:=Nc br earth
 have hfl:=DU earth br
 have hol:=xN 3 (bP earth br) true earth.length
 have hrl:=He on (nj ls on pts)
 have hrt:(bY pm).length=pm.length:=by simp [bY]
 have a1:bw ([]:List Bool).length earth.length=true:=dY (by simp only [List.length_nil];omega)
 have a2:bw (bY pm++dN earth br).length (dO 3 (bP earth br) true earth.length).length=true:=dY (by simp only [List.length_append];omega)
 simp only [cond_true,abK (on,earth,pm) (show pm.length≤1000 by omega),aY,a1,aa,Option.bind_some,if_true]
 rw [ady hsor (fun x hx=>by have:=(hin x hx).1;omega) (by omega) _ (by omega),Option.bind_some]
 dsimp only
 rw [adz 3 (bP earth br) true (by omega),Option.bind_some,hel,a2,aa,Ss ⟨hw.bus.net,hlen⟩ hw.bus h01,Option.bind_some,Yd _ _ (by simp only [List.length_append];omega),Option.bind_some,yX]
 simp only [wN,we]
theorem ach:iY b ls pts on earth pm br=some (if wv ⟨b,ls,pts,on,earth,pm,br⟩ then wN ⟨b,ls,pts,on,earth,pm,br⟩ else []):=by
 unfold iY
 rw [sWv b ls pts on earth pm br hp ho hm hb,Option.bind_some]
 cases hv:wv ⟨b,ls,pts,on,earth,pm,br⟩
 ·rfl
 have hw:=cC.1 hv
 have hbl:=MU hw
 have hlp:=hw.bus.lp
 have w0:=hw.work.l0;have w1:=hw.work.l1;have we:=hw.work.le;have wp:=hw.work.lp;have hlen:=hw.len
 have hin:=hw.inn;have hsor:=hw.sor
 simp only [Wd.wk] at w0 w1 we wp
 dsimp only at hlp hbl hlen hin hsor
 subst hlp
 have h01:1≤ls.length:=by omega
 have hfl:=DU earth br
 have hol:=xN 3 (bP earth br) true on.length
 have hrl:=He on (nj ls on pts)
 have hrt:(bY pm).length=pm.length:=by simp [bY]
 have hi2: ∀x∈br,0≤x∧x<(earth.length:Int):=fun x hx=>by have:=(hin x hx).1;omega
 rw [cond_true,acq pm (by omega),Option.bind_some,adI hsor hi2 (by omega) _ (by omega),Option.bind_some,Za hsor hi2 (by omega) _ (by simp only [List.length_append];omega) on we (by omega),Option.bind_some,TP ⟨hw.bus.net,hlen⟩ hw.bus h01,Option.bind_some,Zg _ _ (by simp only [List.length_append];omega),Option.bind_some,yX]
 rfl
end
def UC (w:Wd):List Dd:=if wv w=true then wN w else []
def YX (w:Wd):Wd:=(xI w (UC w)).2
theorem Si (w:Wd):(UC w).length≤1000:=by
 unfold UC
 split
 ·rename_i h;exact Sj (cC.1 h)
 ·simp
theorem XY {w:Wd} (h:Sm w):iR w.b w.ls w.pts w.on w.earth w.pm w.br=some (UC w):=abC w.b w.ls w.pts w.on w.earth w.pm w.br h.p h.o h.m h.b
theorem Zb {w:Wd} (h:Sm w):iY w.b w.ls w.pts w.on w.earth w.pm w.br=some (UC w):=ach w.b w.ls w.pts w.on w.earth w.pm w.br h.p h.o h.m h.b
theorem Tw (w:Wd):Sm (YX w):=MB (w:=w) (UC w)
theorem abJ {w:Wd} (h:Sm w):lO w.b w.ls w.pts w.on w.earth w.pm w.br=some (o7 (YX w)):=by
 have hl:=Si w
 unfold lO
 rw [XY h,Option.bind_some,Qg h (UC w) (by omega)]
 rfl
theorem acp {w:Wd} (h:Sm w):lU w.b w.ls w.pts w.on w.earth w.pm w.br=some (o7 (YX w)):=by
 have hl:=Si w
 unfold lU
 rw [Zb h,Option.bind_some,QL h (UC w) (by omega)]
 rfl
theorem acb {w:Wd} (h:WdOk w):YX w=Pp w∧WdOk (Pp w):=by
 have e:UC w=wN w:=by unfold UC;rw [if_pos (cC.2 h)]
 have h1:=Sk h
 have h2:=MA h (wN w)
 rw [h1] at h2
 unfold YX
 rw [e,h1]
 exact ⟨rfl,h2⟩
theorem MQ {x y:Int} (hx:0≤x∧x<4611686018427387904) (hy:0≤y∧y<4611686018427387904):0≤uX .i64 x y∧uX .i64 x y<4611686018427387904:=by
 have hx':(BitVec.ofInt 64 x).toNat=x.toNat:=by rw [BitVec.toNat_ofInt];omega
 have hy':(BitVec.ofInt 64 y).toNat=y.toNat:=by rw [BitVec.toNat_ofInt];omega
 have h:(BitVec.ofInt 64 x ^^^ BitVec.ofInt 64 y).toNat<2 ^ 62:=by
  rw [BitVec.toNat_xor,hx',hy']
  exact Nat.xor_lt_two_pow (by omega) (by omega)
 have e:uX .i64 x y=ax ((BitVec.ofInt 64 x ^^^ BitVec.ofInt 64 y).toNat:Int):=rfl
 rw [e,aP (by omega) (by omega)]
 omega
structure Code (b:List Int):Prop where
 byte: ∀z∈b,0≤z∧z≤255
 len:b.length≤2000
theorem Code.at_ {b:List Int} (h:Code b) (k:Nat):0≤b.getD k 0∧b.getD k 0≤255:=by
 by_cases hk:k<b.length
 ·rw [ai hk];exact h.byte _ (List.getElem_mem hk)
 ·simp [List.getD,List.getElem?_eq_none (Nat.le_of_not_lt hk)]
theorem Vb {x:List Int} (h: ∀z∈x,SE z):Code (x.take 2000):=
 ⟨fun z hz=>h z (List.mem_of_mem_take hz),by simp;omega⟩
theorem Pi {b:List Int} (hb:Code b) {p n:Int} (hp:0≤p∧p≤1000000) (hn:n≤1000000): ∃v,ac b p n=some (v,p+1)∧0≤v∧(1≤n→v<n)∧(n<1→v=0):=by
 unfold ac
 have w1:ax (p+1)=p+1:=aP (by omega) (by omega)
 have w2:ax (p+1-1)=p:=by rw [aP (by omega) (by omega)];omega
 rw [w1,w2]
 have hlen:=hb.len
 by_cases h1:n<1
 ·rw [show av n 1=true from decide_eq_true h1];exact ⟨0,rfl,by omega,by omega,by omega⟩
 by_cases h2:(b.length:Int)=0
 ·rw [show ((b.length:Int)==0)=true by simpa using h2,Bool.or_true];exact ⟨0,rfl,by omega,by omega,by omega⟩
 rw [show av n 1=false from decide_eq_false h1,show ((b.length:Int)==0)=false by simpa using h2]
 have hz:Ta n=true:=decide_eq_true (by omega)
 have hz2:Ta (b.length:Int)=true:=decide_eq_true (by omega)
 simp only [Bool.or_self,cond_false,hz,hz2,aa]
 by_cases h3:p<(b.length:Int)
 ·have hi:aB p b.length=true:=by simp [aB];omega
  have hv:=hb.at_ p.toNat
  rw [show av p (b.length:Int)=true from decide_eq_true h3,cond_true,hi,aa,aP (by omega) (by omega)]
  exact ⟨_,rfl,Int.tmod_nonneg _ hv.1,fun h=>Int.tmod_lt_of_pos _ (by omega),by omega⟩
 ·rw [show av p (b.length:Int)=false from decide_eq_false h3,cond_false]
  have m1:ax (p*7)=p*7:=aP (by omega) (by omega)
  have m2:ax (p*7+3)=p*7+3:=aP (by omega) (by omega)
  rw [m1,m2]
  have t1:=Int.tmod_nonneg (b.length:Int) hp.1
  have t2:=Int.tmod_lt_of_pos p (show (0:Int)<(b.length:Int) by omega)
  have t3:=Int.tmod_nonneg (b.length:Int) (show 0≤p*7+3 by omega)
  have t4:=Int.tmod_lt_of_pos (p*7+3) (show (0:Int)<(b.length:Int) by omega)
  have i1:aB (p.tmod (b.length:Int)) b.length=true:=by simp [aB];omega
  have i2:aB ((p*7+3).tmod (b.length:Int)) b.length=true:=by simp [aB];omega
  rw [i1,i2]
  simp only [aa]
  have v1:=hb.at_ (p.tmod (b.length:Int)).toNat
  have v2:=hb.at_ ((p*7+3).tmod (b.length:Int)).toNat
  generalize b.getD (p.tmod (b.length:Int)).toNat 0=c1 at*
  generalize b.getD ((p*7+3).tmod (b.length:Int)).toNat 0=c2 at*
  have q0:0≤p.tdiv (b.length:Int):=Int.tdiv_nonneg hp.1 (by omega)
  have q1:p.tdiv (b.length:Int)≤p:=Int.tdiv_le_self _ hp.1
  generalize p.tdiv (b.length:Int)=q at*
  have a1:ax c1=c1:=aP (by omega) (by omega)
  have a2:ax c2=c2:=aP (by omega) (by omega)
  have a3:ax (c1*131)=c1*131:=aP (by omega) (by omega)
  have a4:ax (c2*1117)=c2*1117:=aP (by omega) (by omega)
  have a5:ax (c1*131+c2*1117)=c1*131+c2*1117:=aP (by omega) (by omega)
  have a6:ax (p*29)=p*29:=aP (by omega) (by omega)
  have a7:ax (c1*131+c2*1117+p*29)=c1*131+c2*1117+p*29:=aP (by omega) (by omega)
  have a8:ax q=q:=aP (by omega) (by omega)
  have a9:ax (q*53)=q*53:=aP (by omega) (by omega)
  have a10:ax (c1*131+c2*1117+p*29+q*53)=c1*131+c2*1117+p*29+q*53:=aP (by omega) (by omega)
  simp only [a1,a2,a3,a4,a5,a6,a7,a8,a9,a10]
  have b0:0≤c1*131+c2*1117+p*29+q*53:=by omega
  have b1:c1*131+c2*1117+p*29+q*53<1000000000:=by omega
  generalize c1*131+c2*1117+p*29+q*53=x at*
  have d0:0≤x.tdiv 64:=Int.tdiv_nonneg b0 (by decide)
  have d1:x.tdiv 64≤x:=Int.tdiv_le_self _ b0
  rw [aP (by omega: -9223372036854775808≤x.tdiv 64) (by omega)]
  have hx:=MQ (x:=x) (y:=x.tdiv 64) ⟨b0,by omega⟩ ⟨d0,by omega⟩
  exact ⟨_,rfl,Int.tmod_nonneg _ hx.1,fun h=>Int.tmod_lt_of_pos _ (by omega),by omega⟩
theorem YA {b:List Int} (hb:Code b) {p n:Int} (hp:0≤p∧p≤1000000) (hn:1≤n∧n≤1000000): ∃v,cv b p n=some (v,p+1):=by
 obtain ⟨v,h1,_⟩:=Pi hb hp hn.2
 unfold cv
 rw [show av 0 n=true from decide_eq_true (by omega),cond_true,h1]
 exact ⟨_,rfl⟩
theorem Ro:qU=some true:=by
 have h: ∀fuel,cj 2 [(0,1,1)] (fuel+2) 0=some (.inl ()):=by
  intro fuel
  rw [jq,cQ]
  have:cj 2 [(0,1,1)] (fuel+1) 1=some (.inl ()):=by rw [jq,cQ];rfl
  exact this
 have hF:aq=4611686018427387902+2:=qT
 have hv:aN 2 [(0,1,1)]=some true:=by unfold aN;rw [hF,h];rfl
 unfold qU qd
 rw [hv]
 have ht:cd 0 []=some (ba []):=rfl
 simp [gb,aS,cI,ht,ba,av,bc,aB]
def Ys {α:Type} (m:Option α) (P:α→Prop):Prop:= ∃r,m=some r∧P r
section
variable {α β γ:Type} {P Q:α→Prop} {m x y:Option α} {b g:Bool}
theorem aV {a:α} (h:P a):Ys (some a) P:=⟨a,rfl,h⟩
theorem cz {m:Option β} {f:β→Option α} {Q:β→Prop} (h:Ys m Q) (k: ∀b,Q b→Ys (f b) P):Ys (Option.bind m f) P:=by
 obtain ⟨b,rfl,h1⟩:=h
 exact k b h1
theorem bh {m:Option β} {f:β→Option α} (h:Ys m fun b=>Ys (f b) P):Ys (Option.bind m f) P:=cz h fun _ k=>k
theorem cD (h:b=true) (k:Ys m P):Ys (au b m) P:=by subst h;exact k
theorem fL (h1:b=true→Ys x P) (h2:b=false→Ys y P):Ys (bif b then x else y) P:=by
 cases b with
 |true=>exact h1 rfl
 |false=>exact h2 rfl
theorem PR {a:α} (h:m=some a) (k:P a):Ys m P:=⟨a,h,k⟩
theorem Dr {σ:Type} {R:α→Prop} (L:Nat→σ→Option α) (μ:σ→Nat) (I:σ→Prop) (hstep: ∀fuel s,I s→(∀s',I s'→μ s'<μ s→Ys (L fuel s') R)→Ys (L (fuel+1) s) R): ∀(fuel:Nat) (s:σ),I s→μ s<fuel→Ys (L fuel s) R:=by
 intro fuel
 induction fuel with
 |zero=>intro s _ h;omega
 |succ fuel ih=>intro s hs hm;exact hstep fuel s hs fun s' h1 h2=>ih s' h1 (by omega)
end
theorem bI {b:List Int} {P:Int×Int→Prop} (hb:Code b) {p n:Int} (hp:0≤p∧p≤1000000) (hn:n≤1000000) (h: ∀v,0≤v→(1≤n→v<n)→(n<1→v=0)→P (v,p+1)):Ys (ac b p n) P:=by
 obtain ⟨v,h1,h2,h3,h4⟩:=Pi hb hp hn
 exact ⟨_,h1,h v h2 h3 h4⟩
theorem Ut {b:List Int} {P:Bool×Int→Prop} (hb:Code b) {p n:Int} (hp:0≤p∧p≤1000000) (hn:1≤n∧n≤1000000) (h: ∀v,P (v,p+1)):Ys (cv b p n) P:=by
 obtain ⟨v,h1⟩:=YA hb hp hn
 exact ⟨_,h1,h v⟩
theorem wM {n:Int} (h: -1000000000≤n∧n≤1000000000):ax n=n:=aP (by omega) (by omega)
theorem Wu {x k n:Int} (h0:0≤x) (h1:x<n) (hk:1≤k):0≤x.tdiv k∧x.tdiv k<n:=by
 have:=Int.tdiv_le_self k h0
 have:=Int.tdiv_nonneg h0 (show 0≤k by omega)
 omega
theorem xT {α Out:Type} [BEq α] (L:Nat→Int→Option Out) (a b:List α) (d:α) (no yes:Option Out) (hn:a.length≤1099511627776) (hab:a.length=b.length)
 (hstep: ∀fuel (k:Nat),k<a.length→L (fuel+1) (k:Int)=bif (a.getD k d !=b.getD k d) then no else L fuel ((k+1:Nat):Int)) (hend: ∀fuel,L (fuel+1) (a.length:Int)=yes):
 L aq 0=bif (List.range a.length).any (fun k=>a.getD k d !=b.getD k d) then no else yes:=by
 have h:=cc L (fun k=>(k:Int)) a.length (fun k=>a.getD k d !=b.getD k d) no yes hn (fun k fuel hk=>hstep fuel k hk) hend
 simpa using h
theorem Jd {α:Type} [BEq α] [LawfulBEq α] [DecidableEq α] (a b:List α) (d:α) (hab:a.length=b.length):(List.range a.length).any (fun k=>a.getD k d !=b.getD k d)= !decide (a=b):=by
 rw [Bool.eq_iff_iff]
 simp only [List.any_eq_true,List.mem_range,bne_iff_ne,ne_eq,Bool.not_eq_true',decide_eq_false_iff_not]
 constructor
 ·rintro ⟨k,hk,h⟩ rfl;exact h rfl
 ·intro h
  refine Classical.byContradiction fun hc=>h (List.ext_getElem hab fun k h1 h2=>?_)
  have:=Classical.byContradiction fun hk=>hc ⟨k,h1,hk⟩
  rwa [ai h1,ai h2] at this
theorem Mp (a b:List Int) (hn:a.length≤1099511627776):mL a b=some (decide (a=b)):=by
 unfold mL
 by_cases h:a.length=b.length
 ·rw [show ((a.length:Int) !=(b.length:Int))=false by simp [h]]
  rw [xT (jB a b) a b 0 (some (.inr false)) (some (.inl ())) hn h (fun fuel k hk=>by
   rw [rz,iG]
   simp only [az hk,ah hk,ah (show k<b.length by omega),aa,cond_true,Int.toNat_natCast,af (by omega:k<4611686018427387904)]) (fun fuel=>by rw [rz,iG];simp [ak]),Jd a b 0 h]
  cases decide (a=b)<;>rfl
 ·rw [show ((a.length:Int) !=(b.length:Int))=true by simp;omega]
  have:a≠b:=fun e=>h (by rw [e])
  simp [this]
theorem Dk (a b:List Bool) (hn:a.length≤1099511627776):iW a b=some (decide (a=b)):=by
 unfold iW
 by_cases h:a.length=b.length
 ·rw [show ((a.length:Int) !=(b.length:Int))=false by simp [h]]
  rw [xT (iE a b) a b false (some (.inr false)) (some (.inl ())) hn h (fun fuel k hk=>by
   rw [qu,gu]
   simp only [az hk,ah hk,ah (show k<b.length by omega),aa,cond_true,Int.toNat_natCast,af (by omega:k<4611686018427387904)]) (fun fuel=>by rw [qu,gu];simp [ak]),Jd a b false h]
  cases decide (a=b)<;>rfl
 ·rw [show ((a.length:Int) !=(b.length:Int))=true by simp;omega]
  have:a≠b:=fun e=>h (by rw [e])
  simp [this]
structure Sz (m:Nat) (w:Wd):Prop where
 ls:w.ls.length≤m
 pts:w.pts.length≤m
 on:w.on.length≤m
 earth:w.earth.length≤m
 pm:w.pm.length≤m
 br:w.br.length≤m
theorem Sz.mono {m n:Nat} {w:Wd} (h:Sz m w) (hm:m≤n):Sz n w:=by
 obtain ⟨h1,h2,h3,h4,h5,h6⟩:=h
 exact ⟨by omega,by omega,by omega,by omega,by omega,by omega⟩
theorem Sz.sm {w:Wd} (h:Sz 40 w):Sm w:=by
 obtain ⟨h1,h2,h3,h4,h5,h6⟩:=h
 exact ⟨by omega,by omega,by omega,by omega,by omega,by omega⟩
theorem acx {w:Wd} (h:WdOk w):Sz 30 w:=by
 have h1:=h.bus.net.ll;have h2:=h.bus.lp;have h3:=h.bus.net.b1;have h4:=h.work.l1;have h5:=h.work.le;have h6:=h.work.lp;have h7:=Rw h
 simp only [Wd.wk] at h4 h5 h6
 exact ⟨by omega,by omega,by omega,by omega,by omega,by omega⟩
theorem Uq {w:Wd} {kd a who:Int} (ht:(bO w kd a who).2=true):wv w=true:=by
 unfold bO at ht
 split at ht
 ·assumption
 ·cases ht
theorem acw {w:Wd} {kd a who:Int} (ht:(bO w kd a who).2=true):Sz 30 (bO w kd a who).1∧(bO w kd a who).1.pts=w.pts:=
 ⟨acx (FI (cC.1 (Uq ht)) kd a who),(Uo w (Uq ht) kd a who).2.2⟩
def WY (t:Int×List Ln×List (Int×Int)×List Bool×List Bool×Pm×List Int):Wd:=⟨t.1,t.2.1,t.2.2.1,t.2.2.2.1,t.2.2.2.2.1,t.2.2.2.2.2.1,t.2.2.2.2.2.2⟩
theorem rl1 {b:List Int} (hb:Code b) {u w:Int×Int} (hu:0≤u.1∧u.1<6) {p:Int} (hp:0≤p∧p≤1000):
 Ys (eC b u w aq ([],[],0,p,[])) fun r=>r.1.length+1=(2+u.1).toNat∧r.2.1.length=(2+u.1).toNat∧(0≤r.2.2.1∧r.2.2.1≤p+50)∧r.2.2.2.length+1=(2+u.1).toNat:=by
 have wu:ax (2+u.1)=2+u.1:=wM (by omega)
 refine Dr (eC b u w) (fun s=>(2+u.1-s.2.2.1).toNat) (fun s=>(0≤s.2.2.1∧s.2.2.1≤2+u.1)∧s.1.length=s.2.2.1.toNat-1∧s.2.1.length=s.2.2.1.toNat∧(0≤s.2.2.2.1∧s.2.2.2.1≤p+5*s.2.2.1)∧s.2.2.2.2.length=s.2.2.1.toNat-1) (fun fuel s hs ih=>?_) aq _ ⟨by (try dsimp only);omega,rfl,rfl,by (try dsimp only);omega,rfl⟩ (by (try dsimp only);rw [qT];omega)
 obtain ⟨on,bs,k,q,ln⟩:=s
 dsimp only at hs ih ⊢
 obtain ⟨h1,h2,h3,h4,h5⟩:=hs
 rw [ye,lv]
 dsimp only
 rw [wu]
 refine fL (fun hc=>?_) (fun hc=>?_)
 ·have hc:=zS hc
  refine cz (Q:=fun r=>r.1.length=k.toNat∧(0≤r.2.1∧r.2.1≤q+4)∧r.2.2.length=k.toNat) ?_ fun r hr=>?_
  ·refine fL (fun hk=>?_) (fun hk=>?_)
   ·have hk:=zS hk
    refine bh (bI hb (by omega) (by omega) fun v v0 v1 _=>?_)
    refine bh (bI hb (by (try dsimp only);omega) (by omega) fun v' v0' v1' _=>?_)
    refine cD (by simp [bw];omega) ?_
    refine cz (Q:=fun r=>r.1.length=k.toNat∧(0≤r.2∧r.2≤q+4)) ?_ fun r hr=>aV ⟨hr.1,hr.2,by simp;omega⟩
    refine fL (fun _=>cD (by simp [bw];omega) (aV ⟨by simp;omega,by (try dsimp only);omega⟩)) (fun _=>?_)
    refine bh (bI hb (by (try dsimp only);omega) (by omega) fun v2 v20 v21 _=>?_)
    exact cD (by simp [bw];omega) (aV ⟨by simp;omega,by (try dsimp only);omega⟩)
   ·have hk:=LA hk
    exact aV ⟨by (try dsimp only);omega,by (try dsimp only);omega,by (try dsimp only);omega⟩
  ·obtain ⟨r1,r2,r3⟩:=hr
   refine bh (bI hb (by (try dsimp only);omega) (by omega) fun v v0 v1 _=>?_)
   refine cD (by simp [bw];omega) ?_
   dsimp only
   rw [wM (n:=k+1) (by omega)]
   exact ih _ ⟨by (try dsimp only);omega,by (try dsimp only);omega,by simp;omega,by (try dsimp only);omega,by (try dsimp only);omega⟩ (by (try dsimp only);omega)
 ·have hc:=LA hc
  exact aV ⟨by (try dsimp only);omega,by (try dsimp only);omega,by (try dsimp only);omega,by (try dsimp only);omega⟩
theorem rl2 {b:List Int} (hb:Code b) {u:Int×Int} (hu:0≤u.1∧u.1<6) {n p:Int} {on:List Bool} {ln:List Ln} (hn:0≤n∧n≤3) (hp:0≤p∧p≤1000) (ho:on.length≤10) (hl:ln.length≤10):
 Ys (eD b u aq (on,n,p,ln)) fun r=>(on.length≤r.1.length∧r.1.length≤13)∧(0≤r.2.1∧r.2.1≤p+9)∧r.2.2.length≤13:=by
 have wu:ax (2+u.1)=2+u.1:=wM (by omega)
 have wu1:ax (2+u.1-1)=2+u.1-1:=wM (by omega)
 refine Dr (eD b u) (fun s=>s.2.1.toNat) (fun s=>(0≤s.2.1∧s.2.1≤3)∧(on.length≤s.1.length∧s.1.length+s.2.1≤13)∧(0≤s.2.2.1∧s.2.2.1+3*s.2.1≤p+9)∧s.2.2.2.length+s.2.1≤13) (fun fuel s hs ih=>?_) aq _ ⟨hn,by (try dsimp only);omega,by (try dsimp only);omega,by (try dsimp only);omega⟩ (by (try dsimp only);rw [qT];omega)
 obtain ⟨on',k,q,ln'⟩:=s
 dsimp only at hs ih ⊢
 obtain ⟨h1,h2,h3,h4⟩:=hs
 rw [yf,lz]
 dsimp only
 rw [wu,wu1]
 refine fL (fun hc=>?_) (fun hc=>?_)
 ·have hc:=zS hc
  refine bh (bI hb (by omega) (by omega) fun v v0 v1 _=>?_)
  refine bh (bI hb (by (try dsimp only);omega) (by omega) fun v' v0' v1' _=>?_)
  refine cD (decide_eq_true (by omega)) ?_
  refine bh (bI hb (by (try dsimp only);omega) (by omega) fun v2 v20 v21 _=>?_)
  refine cD (by simp [bw];omega) (cD (by simp [bw];omega) ?_)
  dsimp only
  rw [wM (n:=k-1) (by omega)]
  exact ih _ ⟨by (try dsimp only);omega,by simp;omega,by (try dsimp only);omega,by simp;omega⟩ (by (try dsimp only);omega)
 ·have hc:=LA hc
  exact aV ⟨by (try dsimp only);omega,by (try dsimp only);omega,by (try dsimp only);omega⟩
theorem adD (b:List Int) (p:Int):cv b p 0=some (false,p):=rfl
theorem Nb {b:List Int} (hb:Code b) {p:Int} (hp:0≤p∧p≤100):Ys (lX b p 0) fun r=>r.2.1.length≤13∧r.2.2.1.length≤13∧(2≤r.2.2.2.1.length∧r.2.2.2.1.length≤7)∧(0≤r.2.2.2.2∧r.2.2.2.2≤p+100):=by
 unfold lX
 refine bh (bI hb (by omega) (by omega) fun v v0 v1 _=>?_)
 have v2:=v1 (by omega)
 refine bh (bI hb (by (try dsimp only);omega) (by omega) fun w w0 w1 _=>?_)
 refine cz (rl1 hb (by (try dsimp only);omega) (by (try dsimp only);omega)) fun r1 hr1=>?_
 obtain ⟨a1,a2,a3,a4⟩:=hr1
 dsimp only at a1 a2 a3 a4
 refine bh (bI hb (by (try dsimp only);omega) (by omega) fun w w0 w1 _=>?_)
 have w2:=w1 (by omega)
 refine cz (rl2 hb (u:=(v,p+1)) (by (try dsimp only);omega) (by (try dsimp only);omega) (by (try dsimp only);omega) (by omega) (by omega)) fun r2 hr2=>?_
 obtain ⟨b1,b2,b3⟩:=hr2
 refine bh (bI hb (by (try dsimp only);omega) (by omega) fun x x0 x1 _=>?_)
 refine cD (decide_eq_true (by omega)) ?_
 refine bh (bI hb (by (try dsimp only);omega) (by omega) fun x x0 x1 _=>?_)
 dsimp only
 rw [wM (n:=2+v) (by omega),wM (n:=2+v-1) (by omega)]
 refine cz (Q:=fun r=>r.1.length≤13∧(2≤r.2.1.length∧r.2.1.length≤7)∧(0≤r.2.2∧r.2.2≤p+90)) ?_ fun r hr=>?_
 ·refine fL (fun _=>?_) (fun _=>aV ⟨by (try dsimp only);omega,by simp;omega,by (try dsimp only);omega⟩)
  refine bh (bI hb (by (try dsimp only);omega) (by omega) fun y y0 y1 _=>?_)
  have y2:=y1 (by omega)
  refine bh (bI hb (by (try dsimp only);omega) (by omega) fun z z0 z1 _=>?_)
  dsimp only
  rw [wM (n:=1+y) (by omega),wM (n:=1+y-1) (by omega)]
  exact cD (decide_eq_true (by omega)) (cD (decide_eq_true (by omega)) (aV ⟨by simp;omega,by simp;omega,by (try dsimp only);omega⟩))
 ·obtain ⟨c1,c2,c3⟩:=hr
  refine bh (PR (adD _ _) ?_)
  refine cz (Q:=fun q=>q.1.length≤13∧(2≤q.2.1.length∧q.2.1.length≤7)∧(0≤q.2.2∧q.2.2≤p+90)) (fL (fun h=>by cases h) fun _=>aV ⟨c1,c2,c3⟩) fun q hq=>aV ⟨by (try dsimp only);omega,hq.1,hq.2.1,by have:=hq.2.2;(try dsimp only);omega⟩
theorem RL {b:List Int} (hb:Code b) {p:Int} (hp:0≤p∧p≤1000) {w:Wd} (hw:Sz 40 w):Ys (iL b p w.b w.ls w.pts w.on w.earth w.pm w.br) fun r=>0≤r.2.2.2∧r.2.2.2≤p+8:=by
 have h1:=hw.on;have h2:=hw.pm
 unfold iL
 refine bh (bI hb (by omega) (by omega) fun v v0 v1 _=>?_)
 have v2:=v1 (by omega)
 refine cD (decide_eq_true (by (try dsimp only);simp only [List.length_cons,List.length_nil];omega)) ?_
 refine bh (bI hb (by (try dsimp only);omega) (by omega) fun _ _ _ _=>?_)
 dsimp only
 rw [wM (n:=(w.on.length:Int)+1) (by omega)]
 refine bh (bI hb (by (try dsimp only);omega) (by omega) fun _ _ _ _=>?_)
 refine bh (bI hb (by (try dsimp only);omega) (by omega) fun _ _ _ _=>?_)
 refine bh (bI hb (by (try dsimp only);omega) (by omega) fun _ _ _ _=>?_)
 dsimp only
 refine cz (Q:=fun r=>(r.1=true→0<w.pm.length)∧(0≤r.2∧r.2≤p+6)) ?_ fun r hr=>?_
 ·refine fL (fun hc=>?_) (fun _=>aV ⟨nofun,by (try dsimp only);omega⟩)
  have hc:=zS hc
  exact bh (bI hb (by (try dsimp only);omega) (by omega) fun _ _ _ _=>aV ⟨fun _=>by omega,by (try dsimp only);omega⟩)
 ·obtain ⟨r1,r2⟩:=hr
  refine fL (fun hc=>?_) (fun _=>aV (by (try dsimp only);omega))
  have r1:=r1 hc
  refine bh (bI hb (by (try dsimp only);omega) (by omega) fun y y0 y1 _=>?_)
  have y2:=y1 (by omega)
  refine cD (decide_eq_true (by (try dsimp only);omega)) ?_
  refine bh (bI hb (by (try dsimp only);omega) (by omega) fun z z0 z1 _=>?_)
  have z2:=z1 (by omega)
  exact cD (decide_eq_true (by (try dsimp only);simp only [List.length_cons,List.length_nil];omega)) (aV (by (try dsimp only);omega))
theorem wl1 {b:List Int} (hb:Code b) {n p:Int} (hn:0≤n∧n≤10) (hp:0≤p∧p≤500) {w:Wd} (hw:Sz 30 w) (h2:2≤w.pts.length):
 Ys (ff b aq (n,p,o7 w)) fun r=>(0≤r.1∧r.1≤p+80)∧Sz 30 (WY r.2)∧2≤(WY r.2).pts.length:=by
 refine Dr (ff b) (fun s=>s.1.toNat) (fun s=>(0≤s.1∧s.1≤10)∧(0≤s.2.1∧s.2.1+8*s.1≤p+80)∧Sz 30 (WY s.2.2)∧2≤(WY s.2.2).pts.length) (fun fuel s hs ih=>?_) aq _ ⟨hn,by (try dsimp only);omega,hw,h2⟩ (by (try dsimp only);rw [qT];omega)
 obtain ⟨k,q,s⟩:=s
 obtain ⟨x,rfl⟩: ∃x,s=o7 x:=⟨WY s,rfl⟩
 dsimp only at hs ih ⊢
 obtain ⟨h1,h3,h4,h5⟩:=hs
 have h4:Sz 30 x:=h4
 have h5:2≤x.pts.length:=h5
 rw [yL,mi]
 dsimp only
 refine fL (fun hc=>?_) (fun hc=>?_)
 ·have hc:=zS hc
  refine cz (RL hb (by omega) (h4.mono (by decide))) fun d hd=>?_
  refine bh (PR (Dj (h4.mono (by decide)).sm d.1 d.2.1 d.2.2.1) ?_)
  refine cz (Q:=fun r=>Sz 30 (WY r)∧2≤(WY r).pts.length) ?_ fun r hr=>?_
  ·refine fL (fun ht=>aV ?_) (fun _=>aV ⟨h4,h5⟩)
   obtain ⟨z1,z2⟩:=acw (w:=x) (kd:=d.1) (a:=d.2.1) (who:=d.2.2.1) ht
   exact ⟨z1,by show 2≤(bO x d.1 d.2.1 d.2.2.1).1.pts.length;rw [z2];exact h5⟩
  ·(try dsimp only)
   rw [wM (n:=k-1) (by omega)]
   exact ih _ ⟨by (try dsimp only);omega,by (try dsimp only);omega,hr.1,hr.2⟩ (by (try dsimp only);omega)
 ·have hc:=LA hc
  exact aV ⟨by (try dsimp only);omega,h4,h5⟩
theorem wl2 (t:Int×Int×List (Int×Int×Int)×List (Int×Int)×List Bool×List Bool×List (Int×Int)×List Int) (ht:t.2.2.2.2.1.length≤30) {l:List Int} (hl:l.length≤30):Ys (fg t aq (0,l)) fun r=>r.length≤30:=by
 refine Dr (fg t) (fun s=>((t.2.2.2.2.1.length:Int)-s.1).toNat) (fun s=>(0≤s.1∧s.1≤t.2.2.2.2.1.length)∧s.2.length≤30) (fun fuel s hs ih=>?_) aq _ ⟨by (try dsimp only);omega,hl⟩ (by (try dsimp only);rw [qT];omega)
 obtain ⟨k,m⟩:=s
 dsimp only at hs ih ⊢
 rw [yM,mj]
 dsimp only
 refine fL (fun hc=>?_) (fun hc=>aV hs.2)
 have hc:=zS hc
 refine cD (decide_eq_true (by omega)) ?_
 refine cz (Q:=fun r=>r.length≤30) (fL (fun _=>aV (by simp)) fun _=>aV hs.2) fun r hr=>?_
 rw [wM (n:=k+1) (by omega)]
 exact ih _ ⟨by (try dsimp only);omega,hr⟩ (by (try dsimp only);omega)
theorem PX {b:List Int} (hb:Code b) {n:Int} (hn:1≤n∧n≤100):Ys (mR b 0 n) fun r=>Sz 40 ⟨r.1,r.2.1,r.2.2.1,r.2.2.2.1,r.2.2.2.2.1,r.2.2.2.2.2.1,r.2.2.2.2.2.2.1⟩∧(0≤r.2.2.2.2.2.2.2∧r.2.2.2.2.2.2.2≤400):=by
 unfold mR
 refine cz (Nb hb (by omega)) fun r hr=>?_
 obtain ⟨a1,a2,a3,a4⟩:=hr
 refine cD (by simp [yk];omega) ?_
 refine bh (bI hb (by omega) (by omega) fun v v0 v1 _=>?_)
 have v2:=v1 (by omega)
 refine cz (wl1 hb (w:=⟨r.1,r.2.1,r.2.2.2.1,r.2.2.1,List.replicate r.2.2.1.length false,[],[]⟩) (by (try dsimp only);omega) (by (try dsimp only);omega) ⟨by (try dsimp only);omega,by (try dsimp only);omega,by (try dsimp only);omega,by simp;omega,by simp,by simp⟩ (by (try dsimp only);omega)) fun s hs=>?_
 obtain ⟨b1,b2,b3⟩:=hs
 obtain ⟨c1,c2,c3,c4,c5,c6⟩:=b2
 simp only [WY] at c1 c2 c3 c4 c5 c6 b3
 refine bh (Ut hb (by omega) (by omega) fun o=>?_)
 refine cz (Q:=fun q=>(q.2.1.length≤40∧q.2.2.1.length≤40∧q.2.2.2.1.length≤40∧q.2.2.2.2.length≤40)∧(0≤q.1∧q.1≤400)) ?_ fun q hq=>aV ⟨⟨by (try dsimp only);omega,hq.1.1,hq.1.2.1,hq.1.2.2.1,by (try dsimp only);omega,hq.1.2.2.2⟩,hq.2⟩
 refine fL (fun _=>?_) (fun _=>aV ⟨⟨by (try dsimp only);omega,by (try dsimp only);omega,by (try dsimp only);omega,by (try dsimp only);omega⟩,by (try dsimp only);omega⟩)
 refine bh (bI hb (by (try dsimp only);omega) (by omega) fun x x0 x1 _=>?_)
 refine cz (Q:=fun q=>q.1.length≤40∧q.2.1.length≤40∧q.2.2.1.length≤40∧q.2.2.2.length≤40) ?_ fun q hq=>aV ⟨hq,by (try dsimp only);omega⟩
 refine fL (fun _=>cD (decide_eq_true (by omega)) (aV ⟨by simp [aj];omega,by (try dsimp only);omega,by (try dsimp only);omega,by (try dsimp only);omega⟩)) (fun _=>?_)
 refine cz (Q:=fun q=>q.1.length≤40∧q.2.1.length≤40∧q.2.2.1.length≤40∧q.2.2.2.length≤40) ?_ fun q hq=>aV hq
 refine fL (fun _=>cD (by simp [bw];omega) (aV ⟨by (try dsimp only);omega,by (try dsimp only);omega,by (try dsimp only);omega,by simp;omega⟩)) (fun _=>?_)
 refine cz (Q:=fun q=>q.1.length≤40∧q.2.1.length≤40∧q.2.2.1.length≤40∧q.2.2.2.length≤40) ?_ fun q hq=>aV hq
 refine fL (fun _=>cz (wl2 s c3 c6) fun z hz=>aV ⟨by (try dsimp only);omega,by (try dsimp only);omega,by (try dsimp only);omega,by (try dsimp only);omega⟩) (fun _=>?_)
 refine cz (Q:=fun q=>q.1.length≤40∧q.2.1.length≤40∧q.2.2.length≤40) ?_ fun q hq=>aV ⟨hq.1,hq.2.1,hq.2.2,by (try dsimp only);omega⟩
 refine fL (fun _=>cD (by simp [bw];omega) (cD (by simp [bw];omega) (aV ⟨by (try dsimp only);omega,by simp;omega,by simp;omega⟩))) (fun _=>?_)
 exact cD (decide_eq_true (by omega)) (cD (decide_eq_true (by omega)) (aV ⟨by simp;omega,by (try dsimp only);omega,by (try dsimp only);omega⟩))
theorem zi {x:List Int} (h: ∀z∈x,SE z):Code (aj x 0 (LN x.length)):=by rw [LO];exact Vb h
theorem LS (L:Nat→Int→Option (Unit ⊕ Bool)) (a b:List (Int×Int)) (hn:a.length≤1099511627776)
 (h1: ∀fuel (k:Nat),k<a.length→k<b.length→L (fuel+1) (k:Int)=bif (((a.getD k (0,0)).1==(b.getD k (0,0)).1)&&((a.getD k (0,0)).2==(b.getD k (0,0)).2)) then L fuel ((k+1:Nat):Int) else some (.inr false)) (h2: ∀fuel,L (fuel+1) (a.length:Int)=some (.inl ())):
 (bif (a.length:Int) !=(b.length:Int) then some false else Option.bind (L aq 0) (Sum.elim (fun _=>some true) (fun r=>some r)))=some (decide (a=b)):=by
 by_cases h:a.length=b.length
 ·rw [show ((a.length:Int) !=(b.length:Int))=false by simp [h]]
  rw [xT L a b (0,0) (some (.inr false)) (some (.inl ())) hn h (fun fuel k hk=>by
   rw [h1 fuel k hk (by omega)]
   have:(a.getD k (0,0) !=b.getD k (0,0))= !(((a.getD k (0,0)).1==(b.getD k (0,0)).1)&&((a.getD k (0,0)).2==(b.getD k (0,0)).2)):=rfl
   rw [this]
   cases (((a.getD k (0,0)).1==(b.getD k (0,0)).1)&&((a.getD k (0,0)).2==(b.getD k (0,0)).2))<;>rfl) h2,Jd a b _ h]
  cases decide (a=b)<;>rfl
 ·rw [show ((a.length:Int) !=(b.length:Int))=true by simp;omega]
  have:a≠b:=fun e=>h (by rw [e])
  simp [this]
theorem QM (a b:Pm) (hn:a.length≤1048576):jD a b=some (decide (a=b)):=by
 unfold jD
 exact LS (fw a b) a b (by omega) (fun fuel k hk hb=>by
  rw [oN,eO]
  simp only [az hk,ah hk,ah hb,aa,cond_true,Int.toNat_natCast,af (by omega:k<4611686018427387904)]) (fun fuel=>by rw [oN,eO];simp only [ak,cond_false])
theorem Kf (a b:List (Int×Int)) (hn:a.length≤1048576):lR a b=some (decide (a=b)):=by
 unfold lR
 exact LS (iF a b) a b (by omega) (fun fuel k hk hb=>by
  rw [qv,gw]
  simp only [az hk,ah hk,ah hb,aa,cond_true,Int.toNat_natCast,af (by omega:k<4611686018427387904)]) (fun fuel=>by rw [qv,gw];simp only [ak,cond_false])
theorem NN (x y:Int) (a b:List Ln) (hn:a.length≤1048576):oo x a y b=some (decide (x=y)&&decide (a=b)):=by
 unfold oo
 by_cases hx:x=y
 ·subst hx
  by_cases h:a.length=b.length
  ·rw [show ((a.length:Int) !=(b.length:Int))=false by simp [h],show (x !=x)=false by simp]
   rw [xT (kJ a b) a b (0,0,0) (some (.inr false)) (some (.inl ())) (by omega) h (fun fuel k hk=>by
    rw [sD,jC]
    simp only [az hk,ah hk,ah (show k<b.length by omega),aa,cond_true,Int.toNat_natCast,af (by omega:k<4611686018427387904)]
    have:(a.getD k (0,0,0) !=b.getD k (0,0,0))= !(((a.getD k (0,0,0)).1==(b.getD k (0,0,0)).1)&&((a.getD k (0,0,0)).2.1==(b.getD k (0,0,0)).2.1)&&((a.getD k (0,0,0)).2.2==(b.getD k (0,0,0)).2.2)):=by
     rw [Bool.and_assoc];rfl
    rw [this]
    cases (((a.getD k (0,0,0)).1==(b.getD k (0,0,0)).1)&&((a.getD k (0,0,0)).2.1==(b.getD k (0,0,0)).2.1)&&((a.getD k (0,0,0)).2.2==(b.getD k (0,0,0)).2.2))<;>rfl) (fun fuel=>by rw [sD,jC];simp only [ak,cond_false]),Jd a b _ h]
   cases decide (a=b)<;>simp
  ·rw [show ((a.length:Int) !=(b.length:Int))=true by simp;omega,Bool.or_true]
   have:a≠b:=fun e=>h (by rw [e])
   simp [this]
 ·rw [show (x !=y)=true by simp [hx]]
  simp [hx]
theorem Mq (a b:Wk) (h1:a.1.length≤1048576) (h2:a.2.1.length≤1048576) (h3:a.2.2.length≤1048576):mM a.1 a.2.1 a.2.2 b.1 b.2.1 b.2.2=some (decide (a=b)):=by
 obtain ⟨a1,a2,a3⟩:=a
 obtain ⟨b1,b2,b3⟩:=b
 dsimp only at h1 h2 h3 ⊢
 unfold mM
 rw [Dk a1 b1 (by omega),Dk a2 b2 (by omega),QM a3 b3 h3]
 by_cases e1:a1=b1
 ·by_cases e2:a2=b2
  ·simp [e1,e2,gb]
  ·simp [e1,e2,gb]
 ·simp [e1,gb]
def Wz (a b:Wd):Bool:=decide (a.b=b.b∧a.ls=b.ls∧a.pts=b.pts∧a.on=b.on∧a.earth=b.earth∧a.pm=b.pm∧a.br=b.br)
theorem Ur {a b:Wd}:Wz a b=true↔a=b:=by
 unfold Wz
 rw [decide_eq_true_eq]
 cases a;cases b
 simp only [Wd.mk.injEq]
theorem Ki (a b:Wd) (h:Sm a):eX a.b a.ls a.pts a.on a.earth a.pm a.br b.b b.ls b.pts b.on b.earth b.pm b.br=some (Wz a b):=by
 obtain ⟨h1,h2,h3,h4,h5,h6⟩:=h
 obtain ⟨ab,al,ap,ao,ae,am,ar⟩:=a
 obtain ⟨bb,bl,bp,bo,be,bm,br⟩:=b
 dsimp only at h1 h2 h3 h4 h5 h6 ⊢
 unfold eX Wz
 rw [NN _ _ _ _ h1,Kf _ _ h2,Mq (ao,ae,am) (bo,be,bm) h3 h4 h5,Mp _ _ (by omega)]
 dsimp only
 simp only [Prod.mk.injEq]
 by_cases e1:ab=bb
 ·by_cases e2:al=bl
  ·by_cases e3:ap=bp
   ·by_cases e4:(ao=bo∧ae=be∧am=bm)
    ·obtain ⟨f1,f2,f3⟩:=e4
     simp [e1,e2,e3,f1,f2,f3,gb]
    ·have e5: ¬(ao=bo∧ae=be∧am=bm∧ar=br):=fun hc=>e4 ⟨hc.1,hc.2.1,hc.2.2.1⟩
     rw [decide_eq_false e4,decide_eq_false (fun hc:ab=bb∧al=bl∧ap=bp∧ao=bo∧ae=be∧am=bm∧ar=br=>e5 hc.2.2.2)]
     simp [e1,e2,e3,gb]
   ·simp [e1,e2,e3,gb]
  ·simp [e1,e2,gb]
 ·simp [e1,gb]
theorem abO (w:Wd) (h:Sm w):bE w.b w.ls w.pts w.on w.earth w.pm w.br=some (wv w):=iWv w.b w.ls w.pts w.on w.earth w.pm w.br h.p h.o h.m h.b
theorem Zh (w:Wd) (h:Sm w):bq w.b w.ls w.pts w.on w.earth w.pm w.br=some (wv w):=sWv w.b w.ls w.pts w.on w.earth w.pm w.br h.p h.o h.m h.b
def ch (b:Bool):UInt8:=if b then 49 else 48
def qg (l:List Bool):ByteArray:=⟨(l.map ch).toArray⟩
def tN (l:List Bool):ByteArray:=if l.length≤10 then qg l else ⟨#[]⟩
theorem Xv {a b:ByteArray} (h:a.data.toList=b.data.toList):a=b:=by
 cases a;cases b
 simp at h
 rw [ByteArray.mk.injEq]
 exact h
theorem QN (s:ByteArray):s.data.toList.length=s.size:=by simp
theorem Et (l:List Bool):(qg l).data.toList=l.map ch:=by simp [qg]
theorem IV (l:List Bool):(qg l).size=l.length:=by rw [←QN,Et];simp
def num (b:Bool):Int:=if b then 49 else 48
theorem Qq (l:List Bool):strOfNums (l.map num)=qg l:=by
 unfold strOfNums qg
 rw [List.map_map]
 have:((fun n:Int=>UInt8.ofNat n.toNat)∘num)=ch:=funext fun b=>by cases b<;>rfl
 rw [this]
theorem iSt (l:List Bool) (hl:l.length≤1000):iS l=some (tN l):=by
 unfold iS tN
 by_cases h:l.length≤10
 ·rw [if_pos h,show av 10 (l.length:Int)=false from decide_eq_false (by omega),show yk (l.length:Int)=true from decide_eq_true (by omega)]
  have hh:=PO (im l) (l.map num) (List.replicate l.length 0) (by simp) (by simp;omega) (fun fuel x j hj hx=>by
   have hj':j<l.length:=by simpa using hj
   rw [qn,ga]
   simp only [az hj',ah hj',aa,cond_true,Int.toNat_natCast,af (by omega:j<4611686018427387904),ai hj',List.getElem_map]
   cases l[j]<;>rfl) (fun fuel x hx=>by rw [qn,ga];simp [ak])
  simp only [cond_false,aa]
  rw [hh,←Qq];rfl
 ·rw [if_neg h,show av 10 (l.length:Int)=true from decide_eq_true (by omega)];rfl
theorem QW (l:List Bool) (b:Bool):qg l++⟨#[ch b]⟩=qg (l++ [b]):=by
 apply Xv
 rw [Et,ByteArray.data_append,Array.toList_append,Et]
 simp
theorem sSt (l:List Bool) (hl:l.length≤1000):lT l=some (tN l):=by
 unfold lT tN
 by_cases h:l.length≤10
 ·rw [if_pos h]
  have hh:=aC (cR l) (fun k=>(qg (l.take k),(k:Int))) l.length (some (qg l)) (by omega) (fun k fuel hk=>by
   rw [mf,dD]
   have c1:bc (l.length:Int) 10=true:=decide_eq_true (by omega)
   have hs:(qg (l.take k)).size=k:=by rw [IV];simp;omega
   have c2: ∀c:UInt8,Fk (qg (l.take k)).size ({data:= #[c]}:ByteArray).size=true:=fun c=>decide_eq_true (by rw [hs];show k+1≤_;omega)
   simp only [az hk,ah hk,c1,c2,Bool.and_self,aa,cond_true,Int.toNat_natCast,af (by omega:k<4611686018427387904),ai hk]
   rw [List.take_succ_eq_append_getElem hk,←QW]
   cases l[k]<;>rfl) (fun fuel=>by rw [mf,dD];simp [ak])
  rw [show cR l aq (({data:= #[]}:ByteArray),0)=_ from hh];rfl
 ·rw [if_neg h]
  have hh:cR l aq (({data:= #[]}:ByteArray),0)=some ⟨#[]⟩:=by
   have:aq=(aq-1)+1:=by rw [qT]
   rw [this,mf,dD]
   have c1:bc (l.length:Int) 10=false:=decide_eq_false (by omega)
   simp only [c1,Bool.and_false,cond_false]
  rw [hh];rfl
section
variable {b:List Int} (hb: ∀z∈b,SE z)
include hb
end
end Go.Proofs.YtjdlgannencchaaGreatDoor
namespace Go.Proofs.YtjdlgannencchaaGreatDoor
open Go.Lib
set_option linter.unusedVariables false
set_option linter.unusedSimpArgs false
theorem Js {w:Wd} (ok:WdOk w) (k:Nat):0≤fO w.ls w.on w.pts k∧fO w.ls w.on w.pts k<1000000:=by
 have hB:=ok.bus.net.b1
 have hl:=ok.bus.lp
 have key: ∀n,n≤w.pts.length→ ∀p:Nat→Bool,0≤((List.range n).map fun b=>if p b=true then (w.pts.getD b (0,0)).2 else 0).sum∧((List.range n).map fun b=>if p b=true then (w.pts.getD b (0,0)).2 else 0).sum≤999*n:=by
  intro n
  induction n with
  |zero=>intro _ p;simp
  |succ n ih=>
   intro hn p
   have:=ih (by omega) p
   have h2:=(ok.bus.bs n (by omega)).2
   rw [List.range_succ,List.map_append,List.sum_append]
   simp only [List.map_cons,List.map_nil,List.sum_cons,List.sum_nil]
   split<;>omega
 have:=key w.pts.length (Nat.le_refl _) fun b=>ia (aA w.ls w.on) w.pts b&& !ia (aA w.ls (w.on.set k false)) w.pts b
 unfold fO
 omega
def vj (w:Wd) (n:Int):Int:=if 0≤n∧n<(w.ls.length:Int) then fO w.ls w.on w.pts n.toNat else-1
theorem NA {w:Wd} (ok:WdOk w):uQ w.b w.ls w.on w.pts=true:=by
 unfold uQ;rw [fG.2 ⟨⟨ok.bus.net,ok.len⟩,ok.bus⟩,ok.rad];rfl
theorem TV {w:Wd} (ok:WdOk w):StOk (w.pts.length:Int) w.ls w.on∧BusOk (w.pts.length:Int) w.ls w.pts:=by
 have hl:=ok.bus.lp
 exact ⟨⟨by rw [hl];exact ok.bus.net,ok.len⟩,by rw [hl];exact ok.bus⟩
theorem abz {w:Wd} (ok:WdOk w) (n:Int):mD w.b w.ls w.on w.pts n=some (vj w n):=by
 obtain ⟨r,r1,r2,r3⟩:=SB w.b w.ls w.on w.pts (wd ok).p
 rw [NA ok] at r2
 obtain ⟨g1,g2,ord,g3,T⟩:=r3 (NA ok)
 obtain ⟨h1,h2⟩:=TV ok
 unfold mD vj
 rw [r1,Option.bind_some,r2]
 simp only [aS,Bool.not_true,Bool.not_false,Bool.false_or,cw,Option.bind_some]
 by_cases hn:0≤n∧n<(w.ls.length:Int)
 ·obtain ⟨k,rfl⟩: ∃k:Nat,n=k:=⟨n.toNat,by omega⟩
  have hk:k<w.ls.length:=by omega
  rw [show (bc 0 (k:Int)&&av (k:Int) (w.ls.length:Int))=true by unfold bc av;simp;omega,if_pos hn,g1,g2,g3,show Yf true w.ls=w.ls from rfl,←ok.bus.lp,Sq h1 h2 ok.rad T]
  simp only [Bool.not_true,cond_false,Option.bind_some,oG,ah hk,aa,Int.toNat_natCast,jT hk]
 ·rw [show (bc 0 n&&av n (w.ls.length:Int))=false by unfold bc av;rw [Bool.eq_false_iff];simp;omega,if_neg hn];rfl
theorem acf {w:Wd} (ok:WdOk w) (n:Int):mO w.b w.ls w.on w.pts n=some (vj w n):=by
 obtain ⟨h1,h2⟩:=TV ok
 have hl:=ok.len;have h0:=ok.work.l0;have h10:=ok.work.l1
 have h0:1≤w.on.length:=h0
 have h10:w.on.length≤10:=h10
 unfold mO vj
 rw [FD w.b w.ls w.on w.pts (wd ok).p,Option.bind_some,NA ok]
 simp only [aw,Bool.not_true,Bool.not_false,Bool.false_or,cw,Option.bind_some]
 rw [Ev (by omega)]
 by_cases hn:0≤n∧n<(w.ls.length:Int)
 ·obtain ⟨k,rfl⟩: ∃k:Nat,n=k:=⟨n.toNat,by omega⟩
  have hk:k<w.ls.length:=by omega
  rw [show (bc 0 (k:Int)&&bc (k:Int) ((w.on.length:Int)-1))=true by unfold bc;simp;omega,if_pos hn,←ok.bus.lp,TL h1 h2 ok.rad]
  simp only [Bool.not_true,cond_false,Option.bind_some,oG,ah hk,aa,Int.toNat_natCast,jT hk]
 ·rw [show (bc 0 n&&bc n ((w.on.length:Int)-1))=false by unfold bc;rw [Bool.eq_false_iff];simp;omega,if_neg hn];rfl
theorem abN {w:Wd} (ok:WdOk w):fZ w.b w.ls w.on w.pts=some (aH (aA w.ls w.on) w.pts):=by
 unfold fZ
 rw [Vu _ w.ls w.pts (wd ok).p,fG.2 ⟨⟨ok.bus.net,ok.len⟩,ok.bus⟩,Option.bind_some,cond_true,OK ⟨ok.bus.net,ok.len⟩ ok.bus];rfl
theorem acs {w:Wd} (ok:WdOk w):cN w.b w.ls w.on w.pts=some (aH (aA w.ls w.on) w.pts):=by
 obtain ⟨h1,h2⟩:=TV ok
 rw [←ok.bus.lp];exact PD h1 h2
theorem iDk {w:Wd} (ok:WdOk w):eV w.b w.ls w.pts w.on w.earth w.pm w.br=some (zl (zD w)):=by
 have h:=wd ok
 rw [abx w.b w.ls w.pts w.on w.earth w.pm w.br h.p h.o h.m h.b,if_pos (cC.2 ok)]
theorem sDk {w:Wd} (ok:WdOk w):jc w.b w.ls w.pts w.on w.earth w.pm w.br=some (zl (zD w)):=by
 have h:=wd ok
 rw [ace w.b w.ls w.pts w.on w.earth w.pm w.br h.p h.o h.m h.b,if_pos (cC.2 ok)]
theorem WJ {w:Wd} (ok:WdOk w):(zl (zD w)).length≤1000∧ ∀x∈zl (zD w),0≤x∧x<1000000:=by
 have hB:=ok.bus.net.b1;have hl:=ok.bus.lp
 constructor
 ·have:(zD w).length≤(List.range w.pts.length).length:=List.length_filter_le _ _
  rw [cf];simp at this;omega
 ·intro x hx
  obtain ⟨k,hk,rfl⟩:=List.mem_map.1 hx
  have:k<w.pts.length:=by simpa [zD] using (List.mem_filter.1 hk).1
  omega
theorem WH {w:Wd} (ok:WdOk w):w.br.length≤1000∧ ∀x∈w.br,0≤x∧x<1000000:=by
 have h10:w.on.length≤10:=ok.work.l1
 exact ⟨by have:=Rw ok;omega,fun x hx=>by have:=(ok.inn x hx).1;omega⟩
def Hs:List UInt8:=[119,104,97,116]
def wOk:List UInt8:=[111,107]
def wNo:List UInt8:=[110,111]
def rW:List UInt8:=[104,101,97,108]
def qS:List UInt8:=[102,108,111,119]
def qh:List UInt8:=[115,116,97,116,101]
def mV:List UInt8:=[115,101,114,118,101,100]
def wg:List UInt8:=[100,97,114,107]
def mU:List UInt8:=[98,114,111,107,101,110]
def Fl:List UInt8:=[110,101,116]
theorem qi (l:List UInt8):({data:=l.toArray}:ByteArray).toList=l:=mn l
def FO (w:Wd) (l:List UInt8):List UInt8:=
 bif l==qh then tl (tN w.on) else bif l==mV then wm (aH (aA w.ls w.on) w.pts) else bif l==wg then EF (zl (zD w)) else bif l==mU then EF w.br else bif l==Fl then Ns w.b w.ls else Hs
def Gq (w:Wd) (n:Int):List UInt8:=if 0≤n then (if n<(w.ls.length:Int) then wm (fO w.ls w.on w.pts n.toNat) else wNo) else Hs
def lH (w:Wd) (l:List UInt8):List UInt8:=match dZ 32 l with
 | [a,n]=>bif a==qS then Gq w (bD n) else FO w l
 |_=>FO w l
theorem abU (l:List UInt8) (hl:l.length≤1048576):dH ((dZ 32 l).map ba) ({data:= #[32]}:ByteArray)=some (ba l):=by
 have hm:((dZ 32 l).map ba).map (·.data.toList)=dZ 32 l:=by
  rw [List.map_map];conv=>rhs;rw [←List.map_id (dZ 32 l)]
  exact List.map_congr_left fun a _=>kY a
 have hs:(({data:= #[32]}:ByteArray)).data.toList=[32]:=rfl
 have hlen:(dZ 32 l).length≤1048577:=by
  rw [wz];have:=List.count_le_length (a:=(32:UInt8)) (l:=l);omega
 unfold dH
 rw [hm,hs,IA,List.length_map,decide_eq_true (by omega)];rfl
theorem adw {w:Wd} (ok:WdOk w) (l:List UInt8):(bif l==({data:= #[115,116,97,116,101]}:ByteArray).toList then Option.bind (iS w.on) (fun p=>some p) else (bif l==({data:= #[115,101,114,118,101,100]}:ByteArray).toList then Option.bind (fZ w.b w.ls w.on w.pts) (fun p=>Option.bind (bU p) (fun q=>some q)) else (bif l==({data:= #[100,97,114,107]}:ByteArray).toList then Option.bind (eV w.b w.ls w.pts w.on w.earth w.pm w.br) (fun p=>Option.bind (dS p) (fun q=>some q)) else (bif l==({data:= #[98,114,111,107,101,110]}:ByteArray).toList then Option.bind (dS w.br) (fun p=>some p) else (bif l==({data:= #[110,101,116]}:ByteArray).toList then Option.bind (cd w.b w.ls) (fun p=>some p) else some ({data:= #[119,104,97,116]}:ByteArray))))))=some (ba (FO w l)):=by
 have h10:w.on.length≤10:=ok.work.l1
 have hs:=pW ok.bus (aA w.ls w.on)
 obtain ⟨d1,d2⟩:=WJ ok
 obtain ⟨b1,b2⟩:=WH ok
 have e1:({data:= #[115,116,97,116,101]}:ByteArray).toList=qh:=qi qh
 have e2:({data:= #[115,101,114,118,101,100]}:ByteArray).toList=mV:=qi mV
 have e3:({data:= #[100,97,114,107]}:ByteArray).toList=wg:=qi wg
 have e4:({data:= #[98,114,111,107,101,110]}:ByteArray).toList=mU:=qi mU
 have e5:({data:= #[110,101,116]}:ByteArray).toList=Fl:=qi Fl
 rw [e1,e2,e3,e4,e5,iSt w.on (by omega),abN ok,iDk ok,WN b1 b2,abH]
 simp only [Option.bind_some]
 rw [SI (by omega),WN d1 d2]
 simp only [Option.bind_some]
 unfold FO
 rw [←re (tN w.on)]
 cases l==qh<;>cases l==mV<;>cases l==wg<;>cases l==mU<;>cases l==Fl<;>rfl
theorem adF {w:Wd} (ok:WdOk w) (l:List UInt8):pu w.b w.ls w.pts w.on w.earth w.pm w.br (ba l)=some (ba (FO w l)):=by
 have h10:w.on.length≤10:=ok.work.l1
 have hs:=pW ok.bus (aA w.ls w.on)
 obtain ⟨d1,d2⟩:=WJ ok
 obtain ⟨b1,b2⟩:=WH ok
 have e1:({data:= #[115,116,97,116,101]}:ByteArray).toList=qh:=qi qh
 have e2:({data:= #[115,101,114,118,101,100]}:ByteArray).toList=mV:=qi mV
 have e3:({data:= #[100,97,114,107]}:ByteArray).toList=wg:=qi wg
 have e4:({data:= #[98,114,111,107,101,110]}:ByteArray).toList=mU:=qi mU
 have e5:({data:= #[110,101,116]}:ByteArray).toList=Fl:=qi Fl
 unfold pu
 rw [mn,e1,e2,e3,e4,e5,sSt w.on (by omega),acs ok,sDk ok,Xd b1 b2,acm]
 simp only [Option.bind_some]
 rw [JH (by omega),Xd d1 d2]
 simp only [Option.bind_some]
 unfold FO
 rw [←re (tN w.on)]
 cases l==qh<;>cases l==mV<;>cases l==wg<;>cases l==mU<;>cases l==Fl<;>rfl
theorem Vs {w:Wd} (ok:WdOk w) (l:List UInt8) (hl:l.length≤1048576):iu w.b w.ls w.pts w.on w.earth w.pm w.br ((dZ 32 l).map ba)=some (ba (lH w l)):=by
 unfold iu lH
 have hj:=abU l hl
 have hask:=adw ok l
 have e1:({data:= #[102,108,111,119]}:ByteArray).toList=qS:=qi qS
 rw [hj,e1]
 simp only [Option.bind_some,mn]
 rw [hask]
 cases hc:dZ 32 l with
 |nil=>exact absurd hc (zj 32 l)
 |cons a r=>
  cases r with
  |nil=>rfl
  |cons n r=>
   cases r with
   |cons y r=>
    have:(((a::n::y::r).map ba).length:Int)==2↔False:=by simp;omega
    have h2:((((a::n::y::r).map ba).length:Int)==2)=false:=by rw [beq_eq_false_iff_ne];simp;omega
    rw [h2];rfl
   |nil=>
    have h2:((([a,n].map ba).length:Int)==2)=true:=rfl
    have h3:([a,n].map ba).getD ((0:Int).toNat) ByteArray.empty=ba a:=rfl
    have h4:([a,n].map ba).getD ((1:Int).toNat) ByteArray.empty=ba n:=rfl
    have h5: ∀i:Int,i=0∨i=1→aB i ([a,n].map ba).length=true:=fun i hi=>decide_eq_true (by rcases hi with rfl |rfl<;>simp)
    rw [h2,h3,h4,h5 0 (.inl rfl),h5 1 (.inr rfl),zJ,xG]
    simp only [Bool.true_and,Bool.not_true,Bool.false_or,aa,mn,Option.bind_some]
    cases hf:a==qS with
    |false=>simp only [cond_false]
    |true=>
     simp only [cond_true]
     unfold Gq
     have hb:=Pe n
     by_cases h:0≤bD n
     ·rw [decide_eq_true h,cond_true,if_pos h,wH h]
      simp only [aS,Option.bind_some]
      by_cases hk:bD n<(w.ls.length:Int)
      ·have hfl:=Js ok (bD n).toNat
       rw [show (bc 0 (bD n)&&av (bD n) (w.ls.length:Int))=true by unfold bc av;simp;omega,cond_true,abz ok,if_pos hk]
       unfold vj
       rw [if_pos ⟨h,hk⟩,Option.bind_some,SI (by omega)];rfl
      ·rw [show (bc 0 (bD n)&&av (bD n) (w.ls.length:Int))=false by unfold bc av;rw [Bool.eq_false_iff];simp;omega,cond_false,if_neg hk];rfl
     ·rw [decide_eq_false h,cond_false,if_neg h];rfl
end Go.Proofs.YtjdlgannencchaaGreatDoor
