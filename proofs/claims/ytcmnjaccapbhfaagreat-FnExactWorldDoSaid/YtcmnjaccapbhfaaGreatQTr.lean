/- Trees: the search from the feeds; Radial is radB. -/
import Derived.Test.YtcmnjaccapbhfaaGreatQNet
namespace Go.Proofs.YtcmnjaccapbhfaaGreat
set_option linter.unusedVariables false
set_option linter.unusedSimpArgs false
theorem loop_both {σ Out:Type} (L:Nat → σ → Option Out) (R:Nat → σ → Prop) (n:Nat) (X:Prop) (fv:Option Out) (fin : σ → Option Out) (hn : n ≤ 1099511627776)
  (hstep : ∀ k fuel s,k < n → R k s → (X∧L (fuel+1) s=fv) ∨ (∃ s',R (k+1) s'∧L (fuel+1) s=L fuel s')) (hend : ∀ fuel s,R n s → L (fuel+1) s=fin s) (s : σ) (h0:R 0 s) :
  (X∧L FUEL s=fv) ∨ ∃ s',R n s'∧L FUEL s=fin s':=by
 have go : ∀ j k fuel s,k+j=n → j < fuel → R k s → (X∧L fuel s=fv) ∨ ∃ s',R n s'∧L fuel s=fin s':=by
  intro j
  induction j with
  | zero =>
   intro k fuel s hk hf hr
   obtain ⟨f,rfl⟩ : ∃ f,fuel=f+1:=⟨fuel - 1,by omega⟩
   obtain rfl : k=n:=by omega
   exact .inr ⟨s,hr,hend f s hr⟩
  | succ j ih =>
   intro k fuel s hk hf hr
   obtain ⟨f,rfl⟩ : ∃ f,fuel=f+1:=⟨fuel - 1,by omega⟩
   rcases hstep k f s (by omega) hr with h | ⟨s',h1,h2⟩
   ·exact .inl h
   ·rw [h2]; exact ih (k+1) f s' (by omega) (by omega) h1
 exact go n 0 FUEL s (by omega) (fuel_gt hn) h0
structure TI (B:Nat) (ls:List Ln) (on:List Bool) (pts:List (Int×Int)) (K:Nat) (feed parent:List Int) (ord:List Nat):Prop where
 lf : feed.length=B
 lp : parent.length=B
 nd : ord.Nodup
 lt : ∀ b ∈ ord,b < B
 mem : ∀ b,b < B → (b ∈ ord ↔ 0 ≤ feed.getD b 0)
 snd : ∀ b ∈ ord,∃ g,g < K∧feedA pts g=true∧feed.getD b 0=(g:Int)∧Cn (onE ls on) g b
 own : ∀ g,g < K → feedA pts g=true → g ∈ ord∧parent.getD g 0=-1
 out : ∀ b,b < B → b ∉ ord → parent.getD b 0=-1
 par : ∀ b ∈ ord,(feedA pts b=true∧b < K) ∨ ∃ j c,parent.getD b 0=((j:Nat):Int)∧Lk ls on j b c∧c ∈ ord∧ord.idxOf c < ord.idxOf b
theorem idx_app {l:List Nat} {a c:Nat} (h : a ∈ l):(l++[c]).idxOf a=l.idxOf a:=by rw [List.idxOf_append,if_pos h]
theorem idx_last {l:List Nat} {c:Nat} (h : c ∉ l):(l++[c]).idxOf c=l.length:=by
 rw [List.idxOf_append,if_neg h]; simp
theorem nodup_len : ∀ (B : Nat) (l : List Nat), l.Nodup → (∀ b ∈ l, b < B) → l.length ≤ B
  | 0, l, _, h => by
    cases l with
    | nil => simp
    | cons x l => have := h x (by simp); omega
  | B + 1, l, hn, h => by
    by_cases hm : B ∈ l
    · have h1 := nodup_len B (l.erase B) (hn.erase B) (fun b hb => by
        have h2 := (hn.mem_erase_iff).1 hb
        have := h b h2.2
        have := h2.1
        omega)
      rw [List.length_erase_of_mem hm] at h1
      omega
    · have h1 := nodup_len B l hn (fun b hb => by
        have := h b hb
        have : b ≠ B := fun e => hm (e ▸ hb)
        omega)
      omega
theorem nodup_snoc {l : List Nat} {c : Nat} (h : l.Nodup) (hc : c ∉ l) : (l ++ [c]).Nodup := by
  rw [List.nodup_append]
  exact ⟨h, by simp, fun a ha b hb => by obtain rfl : b = c := by simpa using hb
                                         exact fun e => hc (e ▸ ha)⟩
section
variable {B:Nat} {ls:List Ln} {on:List Bool} {pts:List (Int×Int)} {K:Nat} {feed parent:List Int} {ord:List Nat}
theorem TI.add (T:TI B ls on pts K feed parent ord) {f b c j:Nat} (hf : f < K) (hff : feedA pts f=true) (hb : b ∈ ord) (hfb:Cn (onE ls on) f b) (hl:Lk ls on j b c) (hc : c < B) (hn : c ∉ ord):TI B ls on pts K (feed.set c (f:Int)) (parent.set c (j:Int)) (ord++[c]):=by
 have hcf : c < feed.length:=by rw [T.lf]; exact hc
 have hcp : c < parent.length:=by rw [T.lp]; exact hc
 have hne : ∀ x ∈ ord,c ≠ x:=fun x hx e=>hn (e ▸ hx)
 refine ⟨by rw [List.length_set]; exact T.lf,by rw [List.length_set]; exact T.lp,nodup_snoc T.nd hn,fun x hx=>?_,fun x hx=>?_,fun x hx=>?_,fun g hg hgf=>?_,fun x hx hxn=>?_,fun x hx=>?_⟩
 ·rcases List.mem_append.1 hx with hx | hx
  ·exact T.lt x hx
  ·obtain rfl : x=c:=by simpa using hx
   exact hc
 ·by_cases e : c=x
  ·subst e; rw [gset hcf]; simp
  ·rw [gset_ne e,← T.mem x hx]; simp [Ne.symm e]
 ·rcases List.mem_append.1 hx with hx | hx
  ·rw [gset_ne (hne x hx)]; exact T.snd x hx
  ·obtain rfl : x=c:=by simpa using hx
   rw [gset hcf]; exact ⟨f,hf,hff,rfl,hfb.trans hl.cn⟩
 ·have:=T.own g hg hgf
  rw [gset_ne (hne g this.1)]; exact ⟨by simp [this.1],this.2⟩
 ·have h1 : x ∉ ord∧x ≠ c:=by simpa using hxn
  rw [gset_ne (Ne.symm h1.2)]; exact T.out x hx h1.1
 ·rcases List.mem_append.1 hx with hx | hx
  ·rw [gset_ne (hne x hx)]
   rcases T.par x hx with h | ⟨i,d,h1,h2,h3,h4⟩
   ·exact .inl h
   ·exact .inr ⟨i,d,h1,h2,by simp [h3],by rw [idx_app h3,idx_app hx]; exact h4⟩
  ·obtain rfl : x=c:=by simpa using hx
   refine .inr ⟨j,b,gset hcp,?_,by simp [hb],?_⟩
   ·obtain ⟨h1,h2,h3⟩:=hl
    exact ⟨h1,h2,h3.symm⟩
   ·rw [idx_app hb,idx_last hn]; exact List.idxOf_lt_length_iff.2 hb
theorem TI.start (T:TI B ls on pts K feed parent ord) (hK:K < B) (hff : feedA pts K=true) (hn:K ∉ ord):TI B ls on pts (K+1) (feed.set K (K:Int)) parent (ord++[K]):=by
 have hcf:K < feed.length:=by rw [T.lf]; exact hK
 have hne : ∀ x ∈ ord,K ≠ x:=fun x hx e=>hn (e ▸ hx)
 refine ⟨by rw [List.length_set]; exact T.lf,T.lp,nodup_snoc T.nd hn,fun x hx=>?_,fun x hx=>?_,fun x hx=>?_,fun g hg hgf=>?_,fun x hx hxn=>?_,fun x hx=>?_⟩
 ·rcases List.mem_append.1 hx with hx | hx
  ·exact T.lt x hx
  ·obtain rfl : x=K:=by simpa using hx
   exact hK
 ·by_cases e:K=x
  ·subst e; rw [gset hcf]; simp
  ·rw [gset_ne e,← T.mem x hx]; simp [Ne.symm e]
 ·rcases List.mem_append.1 hx with hx | hx
  ·rw [gset_ne (hne x hx)]
   obtain ⟨g,h1,h2⟩:=T.snd x hx
   exact ⟨g,by omega,h2⟩
  ·obtain rfl : x=K:=by simpa using hx
   rw [gset hcf]; exact ⟨x,by omega,hff,rfl,.refl _⟩
 ·by_cases e : g=K
  ·subst e; exact ⟨by simp,T.out g hK hn⟩
  ·have:=T.own g (by omega) hgf
   exact ⟨by simp [this.1],this.2⟩
 ·have h1 : x ∉ ord∧x ≠ K:=by simpa using hxn
  exact T.out x hx h1.1
 ·rcases List.mem_append.1 hx with hx | hx
  ·rcases T.par x hx with h | ⟨i,d,h1,h2,h3,h4⟩
   ·exact .inl ⟨h.1,by omega⟩
   ·exact .inr ⟨i,d,h1,h2,by simp [h3],by rw [idx_app h3,idx_app hx]; exact h4⟩
  ·obtain rfl : x=K:=by simpa using hx
   exact .inl ⟨hff,by omega⟩
theorem TI.skip (T:TI B ls on pts K feed parent ord) (hff : feedA pts K=false):TI B ls on pts (K+1) feed parent ord:=by
 refine ⟨T.lf,T.lp,T.nd,T.lt,T.mem,fun x hx=>?_,fun g hg hgf=>?_,T.out,fun x hx=>?_⟩
 ·obtain ⟨g,h1,h2⟩:=T.snd x hx
  exact ⟨g,by omega,h2⟩
 ·have : g ≠ K:=fun e=>by rw [e,hff] at hgf; cases hgf
  exact T.own g (by omega) hgf
 ·rcases T.par x hx with h | h
  ·exact .inl ⟨h.1,by omega⟩
  ·exact .inr h
theorem TI.len (T:TI B ls on pts K feed parent ord) : ord.length ≤ B:=by
 exact nodup_len B ord T.nd T.lt
def Cl (ls:List Ln) (on:List Bool) (ord:List Nat) (m:Nat):Prop:=∀ i,i < m → ∀ j c,Lk ls on j (ord.getD i 0) c → c ∈ ord
theorem Cl.mem {m:Nat} (h:Cl ls on ord m) (hm : m=ord.length) {b c:Nat} (hb : b ∈ ord) (hc:Cn (onE ls on) b c) : c ∈ ord:=by
 induction hc with
 | refl=>exact hb
 | @step c d _ e ih =>
  obtain ⟨i,hi,rfl⟩:=List.mem_iff_getElem.1 ih
  have hl : ∃ j,Lk ls on j ord[i] d:=by
   rcases e with e | e
   ·obtain ⟨j,h1,h2,h3⟩:=onE_mem.1 e
    exact ⟨j,h1,h2,.inl h3.symm⟩
   ·obtain ⟨j,h1,h2,h3⟩:=onE_mem.1 e
    exact ⟨j,h1,h2,.inr h3.symm⟩
  obtain ⟨j,hl⟩:=hl
  exact h i (by omega) j d (by rw [getD_ge hi]; exact hl)
end
section
variable {B:Nat} {ls:List Ln} {on:List Bool} {pts:List (Int×Int)} (h:StOk (B:Int) ls on)
include h
theorem other_lk {k b:Nat} (hk : k < ls.length) : ∃ z,m_impl_Line_other (ls.getD k (0,0,0)).1 (ls.getD k (0,0,0)).2.1 (ls.getD k (0,0,0)).2.2 (b:Int)=some z∧((z=-1∧∀ c,¬ Lk ls on k b c) ∨ ∃ c,z=((c:Nat):Int)∧c < B∧(on.getD k false=true → Lk ls on k b c)∧∀ d,Lk ls on k b d → d=c):=by
 have hl:=h.net.ln k hk
 have hln:=ln_nat hl
 simp only [Int.toNat_natCast] at hln
 have hne:=hl.ne
 unfold m_impl_Line_other
 rw [hln.1,hln.2.1] at hne ⊢
 have key : ∀ d,Lk ls on k b d → ((edgeE (ls.getD k (0,0,0))).1=b∧(edgeE (ls.getD k (0,0,0))).2=d) ∨ ((edgeE (ls.getD k (0,0,0))).1=d∧(edgeE (ls.getD k (0,0,0))).2=b):=by
  rintro d ⟨_,_,h3⟩
  rcases h3 with h3 | h3 <;> rw [h3] <;> simp
 by_cases e1 : b=(edgeE (ls.getD k (0,0,0))).1
 ·have:((b:Int) == (((edgeE (ls.getD k (0,0,0))).1:Nat):Int))=true:=by rw [beq_iff_eq,← e1]
  rw [this]
  refine ⟨_,rfl,.inr ⟨_,rfl,hln.2.2.2,fun ho=>⟨hk,ho,.inl (by rw [e1])⟩,fun d hd=>?_⟩⟩
  rcases key d hd with g | g
  ·exact g.2.symm
  ·omega
 ·have e1':((b:Int) == (((edgeE (ls.getD k (0,0,0))).1:Nat):Int))=false:=by rw [beq_eq_false_iff_ne]; omega
  rw [e1',cond_false]
  by_cases e2 : b=(edgeE (ls.getD k (0,0,0))).2
  ·have:((b:Int) == (((edgeE (ls.getD k (0,0,0))).2:Nat):Int))=true:=by rw [beq_iff_eq,← e2]
   rw [this]
   refine ⟨_,rfl,.inr ⟨_,rfl,hln.2.2.1,fun ho=>⟨hk,ho,.inr (by rw [e2])⟩,fun d hd=>?_⟩⟩
   rcases key d hd with g | g
   ·omega
   ·exact g.1.symm
  ·have e2':((b:Int) == (((edgeE (ls.getD k (0,0,0))).2:Nat):Int))=false:=by rw [beq_eq_false_iff_ne]; omega
   rw [e2',cond_false]
   refine ⟨_,rfl,.inl ⟨rfl,fun d hd=>?_⟩⟩
   rcases key d hd with g | g <;> omega
omit h in
theorem zl_app (l:List Nat) (c:Nat) : zl l++[(c:Int)]=zl (l++[c]):=by simp [zl]
theorem iSearch2 {F0 P0 : List Int} (hF : F0.length = B) (hP : P0.length = B) {K f b from_ : Nat} {feed parent : List Int} {ord : List Nat} (hf : f < K) (hff : feedA pts f = true) (hb : ord.getD from_ 0 = b) (hfr : from_ < ord.length) (hfb : Cn (onE ls on) f b) (T : TI B ls on pts K feed parent ord) :
    ∃ feed' parent' t, m_impl_tree_search_l2 ls F0 P0 on (f : Int) ((from_ : Int), feed, parent, zl ord) FUEL (0, feed, parent, zl ord) = some (feed', parent', zl (ord ++ t)) ∧ TI B ls on pts K feed' parent' (ord ++ t) ∧ (∀ j c, Lk ls on j b c → c ∈ ord ++ t) ∧ ∀ x ∈ t, Cn (onE ls on) f x := by
  have hll := h.net.ll; have hl := h.len; have hB := h.net.b1
  have hbo : b ∈ ord := by rw [← hb, getD_ge hfr]; exact List.getElem_mem hfr
  obtain ⟨s, ⟨feed', parent', t, rfl, r1, r2, r3⟩, h2⟩ := loop_rel (m_impl_tree_search_l2 ls F0 P0 on (f : Int) ((from_ : Int), feed, parent, zl ord))
    (fun k s => ∃ feed' parent' t, s = ((k : Int), feed', parent', zl (ord ++ t)) ∧ TI B ls on pts K feed' parent' (ord ++ t) ∧ (∀ j, j < k → ∀ c, Lk ls on j b c → c ∈ ord ++ t) ∧ ∀ x ∈ t, Cn (onE ls on) f x) ls.length (fun s => some (s.2.1, s.2.2.1, s.2.2.2)) (by omega) (by
      rintro k fuel s hk ⟨feed', parent', t, rfl, r1, r2, r3⟩
      rw [m_impl_tree_search_l2.eq_2]
      obtain ⟨z, z1, z2⟩ := other_lk h (b := b) hk
      have hget : (zl ord).getD (from_ : Int).toNat 0 = (b : Int) := by rw [Int.toNat_natCast, zl_get, hb]
      simp only [lt_dec hk, ix_dec hk, ix_dec (show k < on.length by omega), chk_true, cond_true, Int.toNat_natCast, w64_succ (by omega : k < 4611686018427387904), zl_get, hb, z1, Option.bind_some, hF, hP]
      have hlen := r1.len
      rcases z2 with ⟨rfl, z3⟩ | ⟨c, rfl, hcB, z3, z4⟩
      · have : leB 0 (-1) = false := rfl
        simp only [this, Bool.and_false, Bool.false_and, Bool.not_false, Bool.true_or, chk_true, cond_false, Option.bind_some]
        refine ⟨_, ⟨feed', parent', t, rfl, r1, fun j hj c hc => ?_, r3⟩, rfl⟩
        by_cases e : j = k
        · subst e; exact absurd hc (z3 c)
        · exact r2 j (by omega) c hc
      · have hge : leB 0 (c : Int) = true := by simp [leB]
        simp only [hge, ix_dec hcB, Bool.and_true, Bool.or_true, chk_true, Int.toNat_natCast]
        by_cases hc : on.getD k false = true ∧ c ∉ ord ++ t
        · have hcf : ltB (feed'.getD c 0) 0 = true := by
            have : ¬ 0 ≤ feed'.getD c 0 := fun g => hc.2 ((r1.mem c hcB).2 g)
            simp only [ltB, decide_eq_true_eq]; omega
          have ha : apB (zl (ord ++ t)).length ([(c : Int)] : List Int).length = true := by rw [zl_len]; simp [apB]; simp at hlen; omega
          simp only [hc.1, hcf, Bool.and_self, cond_true, ha, chk_true, Option.bind_some]
          rw [zl_app, List.append_assoc]
          have hlk := z3 hc.1
          refine ⟨_, ⟨_, _, t ++ [c], rfl, ?_, fun j hj d hd => ?_, fun x hx => ?_⟩, rfl⟩
          · rw [← List.append_assoc]
            exact r1.add hf hff (by simp [hbo]) hfb hlk hcB hc.2
          · by_cases e : j = k
            · subst e; rw [z4 d hd]; simp
            · have := r2 j (by omega) d hd
              rw [← List.append_assoc]; exact List.mem_append_left _ this
          · rcases List.mem_append.1 hx with hx | hx
            · exact r3 x hx
            · obtain rfl : x = c := by simpa using hx
              exact hfb.trans hlk.cn
        · have hcf : (on.getD k false && ltB (feed'.getD c 0) 0) = false := by
            cases ho : on.getD k false
            · rfl
            · have hm : c ∈ ord ++ t := Classical.byContradiction fun hn => hc ⟨ho, hn⟩
              have := (r1.mem c hcB).1 hm
              simp only [Bool.true_and, ltB, decide_eq_false_iff_not]; omega
          simp only [hcf, cond_false, Option.bind_some]
          refine ⟨_, ⟨feed', parent', t, rfl, r1, fun j hj d hd => ?_, r3⟩, rfl⟩
          by_cases e : j = k
          · subst e
            rw [z4 d hd]
            exact Classical.byContradiction fun hn => hc ⟨hd.2.1, hn⟩
          · exact r2 j (by omega) d hd) (by
      rintro fuel s ⟨feed', parent', t, rfl, r1, r2, r3⟩
      rw [m_impl_tree_search_l2.eq_2]; simp only [nlt_dec, cond_false]) (0, feed, parent, zl ord) ⟨feed, parent, [], by simp, by simpa using T, fun j hj => absurd hj (Nat.not_lt_zero _), fun x hx => by simp at hx⟩
  exact ⟨feed', parent', t, h2, r1, fun j c hc => r2 j hc.1 c hc, r3⟩
theorem iSearch1 {F0 P0:List Int} (hF:F0.length=B) (hP:P0.length=B) {K f n0:Nat} (hf : f < K) (hff : feedA pts f=true) : ∀ (m from_ fuel:Nat) (feed parent:List Int) (ord:List Nat),B ≤ m+from_ → m < fuel → n0 ≤ from_ → from_ ≤ ord.length → (∀ i,n0 ≤ i → i < ord.length → Cn (onE ls on) f (ord.getD i 0)) → Cl ls on ord from_ → TI B ls on pts K feed parent ord →
  ∃ feed' parent' ord',m_impl_tree_search_l1 ls F0 P0 on (f:Int) fuel ((from_:Int),feed,parent,zl ord)=some (feed',parent',zl ord')∧TI B ls on pts K feed' parent' ord'∧Cl ls on ord' ord'.length∧∀ x ∈ ord,x ∈ ord':=by
 have hB:=h.net.b1
 intro m
 induction m with
 | zero =>
  intro from_ fuel feed parent ord h1 h2 h3 h4 h5 h6 T
  obtain ⟨g,rfl⟩ : ∃ g,fuel=g+1:=⟨fuel - 1,by omega⟩
  have hlen:=T.len
  have e : from_=ord.length:=by omega
  rw [m_impl_tree_search_l1.eq_2]
  have : ltB (from_:Int) ((zl ord).length:Int)=false:=by rw [zl_len,e]; exact nlt_dec
  simp only [this,cond_false]
  exact ⟨feed,parent,ord,rfl,T,e ▸ h6,fun x hx=>hx⟩
 | succ m ih =>
  intro from_ fuel feed parent ord h1 h2 h3 h4 h5 h6 T
  obtain ⟨g,rfl⟩ : ∃ g,fuel=g+1:=⟨fuel - 1,by omega⟩
  have hlen:=T.len
  rw [m_impl_tree_search_l1.eq_2]
  by_cases e : from_=ord.length
  ·have : ltB (from_:Int) ((zl ord).length:Int)=false:=by rw [zl_len,e]; exact nlt_dec
   simp only [this,cond_false]
   exact ⟨feed,parent,ord,rfl,T,e ▸ h6,fun x hx=>hx⟩
  ·have hlt : from_ < ord.length:=by omega
   obtain ⟨feed',parent',t,r0,r1,r2,r3⟩:=iSearch2 h hF hP hf hff rfl hlt (h5 from_ h3 hlt) T
   have hlen2:=r1.len
   simp only [zl_len,lt_dec hlt,ix_dec hlt,cond_true,chk_true,r0,Option.bind_some,w64_succ (by omega : from_ < 4611686018427387904)]
   have hget : ∀ i,i < ord.length → (ord++t).getD i 0=ord.getD i 0:=fun i hi=>by simp [List.getD,List.getElem?_append_left hi]
   obtain ⟨feed2,parent2,ord2,s1,s2,s3,s4⟩:=ih (from_+1) g feed' parent' (ord++t) (by omega) (by omega) (by omega) (by simp; omega) (fun i hi1 hi2=>by
    by_cases hi : i < ord.length
    ·rw [hget i hi]; exact h5 i hi1 hi
    ·rw [getD_ge hi2,List.getElem_append_right (by omega)]
     exact r3 _ (List.getElem_mem _)) (fun i hi j c hc=>by
    rw [hget i (by omega)] at hc
    by_cases e2 : i=from_
    ·subst e2; exact r2 j c hc
    ·exact List.mem_append_left _ (h6 i (by omega) j c hc)) r1
   exact ⟨feed2,parent2,ord2,s1,s2,s3,fun x hx=>s4 x (by simp [hx])⟩
theorem iSearch {K:Nat} {feed parent:List Int} {ord:List Nat} (hK:K < B) (hff : feedA pts K=true) (hn:K ∉ ord) (hcl:Cl ls on ord ord.length) (T:TI B ls on pts K feed parent ord) (y:Int) :
  ∃ feed' parent' ord',m_impl_tree_search y ls (feed.set K (K:Int)) parent (zl ord) on (K:Int)=some (y,feed',parent',zl ord')∧TI B ls on pts (K+1) feed' parent' ord'∧Cl ls on ord' ord'.length∧∀ x ∈ ord++[K],x ∈ ord':=by
 have hB:=h.net.b1
 have hlen:=T.len
 have T2:=T.start hK hff hn
 obtain ⟨feed',parent',ord',h1,h2,h3,h4⟩:=iSearch1 h (F0:=feed.set K (K:Int)) (P0:=parent) T2.lf T2.lp (K:=K+1) (f:=K) (n0:=ord.length) (by omega) hff B ord.length FUEL (feed.set K (K:Int)) parent (ord++[K]) (by omega) (fuel_gt (by omega)) (by omega) (by simp) (fun i hi1 hi2=>by
  have : i=ord.length:=by simp at hi2; omega
  subst this
  rw [getD_ge hi2]; simp; exact .refl _) (fun i hi j c hc=>by
  have:(ord++[K]).getD i 0=ord.getD i 0:=by simp [List.getD,List.getElem?_append_left hi]
  rw [this] at hc
  exact List.mem_append_left _ (hcl i hi j c hc)) T2
 refine ⟨feed',parent',ord',?_,h2,h3,h4⟩
 unfold m_impl_tree_search
 have ha : apB (zl ord).length ([(K:Int)]:List Int).length=true:=by rw [zl_len]; simp [apB]; omega
 rw [ha,chk_true,zl_app,zl_len,h1]; rfl
end
structure TreeOk (ls:List Ln) (on:List Bool) (pts:List (Int×Int)) (feed parent:List Int) (ord:List Nat):Prop where
 lf : feed.length=pts.length
 lp : parent.length=pts.length
 nd : ord.Nodup
 mem : ∀ b,b ∈ ord ↔ b < pts.length∧fedB (onE ls on) pts b=true
 fd : ∀ b f,b < pts.length → (feed.getD b 0=((f:Nat):Int) ↔ feedA pts f=true∧Cn (onE ls on) f b)
 par:Par ls on pts (fun b=>parent.getD b (-1)) (fun b=>ord.idxOf b)
theorem TI.tree {ls : List Ln} {on : List Bool} {pts : List (Int × Int)} {feed parent : List Int} {ord : List Nat} (T : TI pts.length ls on pts pts.length feed parent ord) (hcl : Cl ls on ord ord.length) (hnj : ∀ f g, feedA pts f = true → feedA pts g = true → Cn (onE ls on) f g → f = g) : TreeOk ls on pts feed parent ord := by
  have hmem : ∀ b, b ∈ ord ↔ b < pts.length ∧ fedB (onE ls on) pts b = true := by
    intro b
    constructor
    · intro hb
      obtain ⟨g, h1, h2, _, h3⟩ := T.snd b hb
      exact ⟨T.lt b hb, fedB_iff.2 ⟨g, h2, h3⟩⟩
    · rintro ⟨hb, hf⟩
      obtain ⟨f, h1, h2⟩ := fedB_iff.1 hf
      exact hcl.mem rfl (T.own f (feedA_lt h1) h1).1 h2
  have hd : ∀ b, b < pts.length → parent.getD b (-1) = parent.getD b 0 := fun b hb => by rw [getD_ge (by rw [T.lp]; exact hb), getD_ge (by rw [T.lp]; exact hb)]
  refine ⟨T.lf, T.lp, T.nd, hmem, fun b f hb => ?_, ⟨fun b hb hf => ?_, fun b hb => ?_, fun b hb => ?_⟩⟩
  · constructor
    · intro e
      obtain ⟨g, h1, h2, h3, h4⟩ := T.snd b ((T.mem b hb).2 (by rw [e]; omega))
      have : f = g := by rw [e] at h3; omega
      subst this; exact ⟨h2, h4⟩
    · rintro ⟨h1, h2⟩
      obtain ⟨g, g1, g2, g3, g4⟩ := T.snd b ((hmem b).2 ⟨hb, fedB_iff.2 ⟨f, h1, h2⟩⟩)
      rw [g3, hnj f g h1 g2 (h2.trans g4.symm)]
  · rw [hd b hb]
    rcases T.par b ((hmem b).2 ⟨hb, hf⟩) with g | ⟨j, c, g, _⟩
    · exact .inl g.1
    · exact .inr (by rw [g]; omega)
  · have hlt := feedA_lt hb
    rw [hd b hlt, (T.own b hlt hb).2]; omega
  · have hlt : b < pts.length := by
      rcases Nat.lt_or_ge b pts.length with h1 | h1
      · exact h1
      · rw [List.getD_eq_getElem?_getD, List.getElem?_eq_none (by rw [T.lp]; exact h1)] at hb; simp at hb
    rw [hd b hlt] at hb ⊢
    have hbo : b ∈ ord := Classical.byContradiction fun hn => by rw [T.out b hlt hn] at hb; omega
    rcases T.par b hbo with g | ⟨j, c, g1, g2, g3, g4⟩
    · rw [(T.own b g.2 g.1).2] at hb; omega
    · rw [g1]
      exact ⟨c, by simpa using g2, T.lt c g3, ((hmem c).1 g3).2, g4⟩
theorem feed0 {pts:List (Int×Int)} {b:Int} {ls:List Ln} (h:BusOk b ls pts) {k:Nat} (hk : k < pts.length):((pts.getD k (0,0)).1 == 0)=!feedA pts k:=by
 have:=(h.bs k hk).1
 unfold feedA
 rw [Bool.eq_iff_iff]; simp only [beq_iff_eq,Bool.not_eq_true',decide_eq_false_iff_not]; omega
theorem iTree (b:Int) (ls:List Ln) (on:List Bool) (pts:List (Int×Int)) (hp : pts.length ≤ 1048576) :
  ∃ r,m_impl_treeOf b ls on pts=some r∧r.2.2.2.2.2=radB b ls on pts∧(radB b ls on pts=true → r.1=b∧r.2.1=true∧∃ ord,r.2.2.2.2.1=zl ord∧TreeOk ls on pts r.2.2.1 r.2.2.2.1 ord):=by
 unfold m_impl_treeOf radB
 rw [iFed b ls pts hp,Option.bind_some]
 cases hv : okV b ls on pts
 ·exact ⟨_,rfl,rfl,fun e=>by cases e⟩
 obtain ⟨h1,h2⟩:=okV_iff.1 hv
 have hlp:=h2.lp
 subst hlp
 rw [iCyc h1]
 simp only [Bool.not_true,Bool.not_false,gb_true,Option.bind_some,Bool.false_or,Bool.true_and]
 unfold radP
 rw [← cyc_eq h1.len]
 cases hc : cycB ls on
 case true=>exact ⟨_,rfl,rfl,fun e=>by cases e⟩
 have hB:=h1.net.b1
 have hm : mkB (pts.length:Int)=true:=by simp [mkB]; omega
 simp only [cond_false,hm,chk_true,Int.toNat_natCast,Bool.not_false,Bool.true_and]
 have hl1 : m_impl_treeOf_l1 (pts.length:Int) FUEL (0,List.replicate pts.length 0,List.replicate pts.length 0)=some (List.replicate pts.length (-1),List.replicate pts.length (-1)):=by
  have hh:=loop_all (m_impl_treeOf_l1 (pts.length:Int)) (fun k=>((k:Int),List.replicate k (-1)++List.replicate (pts.length - k) 0,List.replicate k (-1)++List.replicate (pts.length - k) 0)) pts.length (some (List.replicate pts.length (-1),List.replicate pts.length (-1))) (by omega) (fun k fuel hk=>?_) (fun fuel=>?_)
  ·simpa using hh
  ·rw [m_impl_treeOf_l1.eq_2]
   simp only [lt_dec hk,Int.toNat_natCast,ix_dec hk,cond_true,chk_true,w64_succ (by omega : k < 4611686018427387904)]
   have e:(List.replicate k (-1:Int)++List.replicate (pts.length - k) 0).set k (-1)=List.replicate (k+1) (-1)++List.replicate (pts.length - (k+1)) 0:=by
    rw [List.set_append_right _ _ (by simp),List.length_replicate,Nat.sub_self,show pts.length - k=(pts.length - (k+1))+1 by omega,List.replicate_succ,List.set_cons_zero,List.replicate_succ',List.append_assoc]; rfl
   rw [e]
  ·rw [m_impl_treeOf_l1.eq_2]
   simp only [nlt_dec,cond_false,Nat.sub_self,List.replicate_zero,List.append_nil]
 rw [hl1,Option.bind_some]
 have hget : ∀ k,k < pts.length → (List.replicate pts.length (-1:Int)).getD k 0=-1:=fun k hk=>by simp [List.getD,hk]
 have hT0:TI pts.length ls on pts 0 (List.replicate pts.length (-1)) (List.replicate pts.length (-1)) [] :=
  ⟨by simp,by simp,by simp,fun b hb=>by simp at hb,fun b hb=>by rw [hget b hb]; simp,fun b hb=>by simp at hb,fun g hg=>absurd hg (Nat.not_lt_zero _),fun b hb _=>hget b hb,fun b hb=>by simp at hb⟩
 have hh:=loop_both (m_impl_treeOf_l2 ls on pts) (fun k s=>∃ feed parent ord,s=((k:Int),(pts.length:Int),feed,parent,zl ord)∧TI pts.length ls on pts k feed parent ord∧Cl ls on ord ord.length∧∀ f g,f < k → g < k → feedA pts f=true → feedA pts g=true → Cn (onE ls on) f g → f=g) pts.length
  (twoF (onE ls on) pts=true) (some (Sum.inr (0,false,([]:List Int),([]:List Int),([]:List Int),false))) (fun s=>some (Sum.inl (s.2.1,s.2.2.1,s.2.2.2.1,s.2.2.2.2))) (by omega) ?_ ?_ (0,(pts.length:Int),List.replicate pts.length (-1),List.replicate pts.length (-1),([]:List Int)) ⟨_,_,[],rfl,hT0,fun i hi=>absurd hi (Nat.not_lt_zero _),fun f g hf=>absurd hf (Nat.not_lt_zero _)⟩
 ·rcases hh with ⟨x1,x2⟩ | ⟨s,⟨feed,parent,ord,rfl,t1,t2,t3⟩,x2⟩
  ·rw [x2,x1]
   exact ⟨_,rfl,rfl,fun e=>by cases e⟩
  ·rw [x2]
   have hnj : ∀ f g,feedA pts f=true → feedA pts g=true → Cn (onE ls on) f g → f=g:=fun f g hf hg=>t3 f g (feedA_lt hf) (feedA_lt hg) hf hg
   rw [twoF_iff.2 hnj]
   exact ⟨_,rfl,rfl,fun _=>⟨rfl,rfl,ord,rfl,t1.tree t2 hnj⟩⟩
 ·rintro k fuel s hk ⟨feed,parent,ord,rfl,t1,t2,t3⟩
  rw [m_impl_treeOf_l2.eq_2]
  simp only [lt_dec hk,ix_dec hk,cond_true,chk_true,Int.toNat_natCast,w64_succ (by omega : k < 4611686018427387904),feed0 h2 hk]
  cases hf : feedA pts k
  ·right
   simp only [Bool.not_false,cond_true,Option.bind_some,Sum.elim_inl]
   refine ⟨_,⟨feed,parent,ord,rfl,t1.skip hf,t2,fun f g hfk hgk hff hgf=>?_⟩,rfl⟩
   have e1 : f ≠ k:=fun e=>by rw [e,hf] at hff; cases hff
   have e2 : g ≠ k:=fun e=>by rw [e,hf] at hgf; cases hgf
   exact t3 f g (by omega) (by omega) hff hgf
  ·have hx : ixB (k:Int) feed.length=true:=by rw [t1.lf]; exact ix_dec hk
   simp only [Bool.not_true,cond_false,hx,chk_true]
   by_cases hko : k ∈ ord
   ·left
    have h0:=(t1.mem k hk).1 hko
    have : leB 0 (feed.getD k 0)=true:=by simpa [leB] using h0
    simp only [this,cond_true,Option.bind_some,Sum.elim_inr]
    refine ⟨?_,trivial⟩
    obtain ⟨g,g1,g2,_,g4⟩:=t1.snd k hko
    cases htw : twoF (onE ls on) pts
    ·have:=twoF_iff.1 htw g k g2 hf g4; omega
    ·rfl
   ·right
    have h0 : ¬ 0 ≤ feed.getD k 0:=fun g=>hko ((t1.mem k hk).2 g)
    have : leB 0 (feed.getD k 0)=false:=by simp only [leB,decide_eq_false_iff_not]; exact h0
    obtain ⟨feed',parent',ord',s1,s2,s3,s4⟩:=iSearch h1 hk hf hko t2 t1 (pts.length:Int)
    simp only [this,cond_false,s1,Option.bind_some,Sum.elim_inl]
    refine ⟨_,⟨feed',parent',ord',rfl,s2,s3,fun f g hfk hgk hff hgf hcn=>?_⟩,rfl⟩
    have key : ∀ a,a < k → feedA pts a=true → ¬ Cn (onE ls on) a k:=fun a ha hfa hcn=>hko (t2.mem rfl (t1.own a ha hfa).1 hcn)
    by_cases e1 : f=k
    ·by_cases e2 : g=k
     ·omega
     ·exact absurd (e1 ▸ hcn).symm (key g (by omega) hgf)
    ·by_cases e2 : g=k
     ·exact absurd (e2 ▸ hcn) (key f (by omega) hff)
     ·exact t3 f g (by omega) (by omega) hff hgf hcn
 ·rintro fuel s ⟨feed,parent,ord,rfl,t1,t2,t3⟩
  rw [m_impl_treeOf_l2.eq_2]; simp only [nlt_dec,cond_false]
theorem iRadial (b:Int) (ls:List Ln) (on:List Bool) (pts:List (Int×Int)) (hp : pts.length ≤ 1048576) : m_impl_Radial b ls on pts=some (radB b ls on pts):=by
 obtain ⟨r,h1,h2,_⟩:=iTree b ls on pts hp
 unfold m_impl_Radial
 rw [h1,Option.bind_some,h2]
theorem sRadial (b:Int) (ls:List Ln) (on:List Bool) (pts:List (Int×Int)) (hp : pts.length ≤ 1048576) : m_spec_Radial b ls on pts=some (radB b ls on pts):=by
 unfold m_spec_Radial radB
 rw [sFed b ls pts hp,Option.bind_some]
 cases hv : okV b ls on pts
 ·rfl
 obtain ⟨h1,h2⟩:=okV_iff.1 hv
 have hlp:=h2.lp
 subst hlp
 have hB:=h1.net.b1
 rw [sCyc h1]
 simp only [Bool.not_true,Bool.not_false,gb_true,Option.bind_some,Bool.false_or,Bool.true_and]
 unfold radP
 cases hc : cycP ls on
 case true=>rfl
 simp only [cond_false,Bool.not_false,Bool.true_and]
 have hh:=loop_find (m_spec_Radial_l1 (pts.length:Int) ls on pts) (fun k=>(k:Int)) pts.length (fun k=>(List.range k).any fun j=>feedA pts k && feedA pts j && labs (onE ls on) j == labs (onE ls on) k) (some (.inr false)) (some (.inl ())) (by omega) (fun k fuel hk=>?_) (fun fuel=>?_)
 ·rw [show m_spec_Radial_l1 (pts.length:Int) ls on pts FUEL 0=_ from hh]
  show _=some (!twoF (onE ls on) pts)
  unfold twoF
  cases (List.range pts.length).any _ <;> rfl
 ·rw [m_spec_Radial_l1.eq_2]
  have h3:=loop_find (m_spec_Radial_l2 (pts.length:Int) ls on pts (k:Int)) (fun j=>(j:Int)) k (fun j=>feedA pts k && feedA pts j && labs (onE ls on) j == labs (onE ls on) k) (some (.inr false)) (some (.inl ())) (by omega) (fun j fuel hj=>?_) (fun fuel=>?_)
  ·simp only [lt_dec hk,cond_true,w64_succ (by omega : k < 4611686018427387904)]
   rw [show m_spec_Radial_l2 (pts.length:Int) ls on pts (k:Int) FUEL 0=_ from h3]
   cases (List.range k).any _ <;> rfl
  ·rw [m_spec_Radial_l2.eq_2]
   have hj2 : j < pts.length:=by omega
   simp only [lt_dec hj,ix_dec hk,ix_dec hj2,cond_true,chk_true,Bool.or_true,Int.toNat_natCast,w64_succ (by omega : j < 4611686018427387904),sSame h1 hj2 hk]
   rw [show ltB 0 (pts.getD k (0,0)).1=feedA pts k from rfl,show ltB 0 (pts.getD j (0,0)).1=feedA pts j from rfl]
   cases feedA pts k <;> cases feedA pts j <;> cases labs (onE ls on) j == labs (onE ls on) k <;> rfl
  ·rw [m_spec_Radial_l2.eq_2]; simp only [nlt_dec,cond_false]
 ·rw [m_spec_Radial_l1.eq_2]; simp only [nlt_dec,cond_false]
end Go.Proofs.YtcmnjaccapbhfaaGreat
