/- Texts of the claim, one behind the other: Tr, Sum, Al, WkV, WvM, DkM, Hl, FlI, FlS, Bst, WkD, BsM, WrM, LnU, WkR, HlM, RsM, Draw, Yd, Sm, WdD, WdS, DaH, WdL, StTxD, LnV, LnW, LnX, LnD, DaO, Law, LnL. -/
import Derived.ChangeSame
import Derived.ChangeMaps5
import Derived.Carry
import Derived.Lib.SmallJoins
import Derived.JoinedOf
import Derived.HandedShaped
import Derived.LaidMore
import Derived.LaidSub
import Derived.Lib.LaidTab
import Derived.Lib.ItoaMem
import Derived.Shelf.Vars
import Derived.Test.YtjdlgannencchaaGreatDoorRLinesHeal5
namespace Go.Proofs.YtjdlgannencchaaGreatDoor
set_option linter.unusedVariables false
set_option linter.unusedSimpArgs false
theorem loop_both {σ Out:Type} (L:Nat → σ → Option Out) (R:Nat → σ → Prop) (n:Nat) (X:Prop) (fv:Option Out) (fin : σ → Option Out) (hn : n ≤ 1099511627776)
  (hstep : ∀ k fuel s,k < n → R k s → (X∧L (fuel+1) s=fv) ∨ (∃ s',R (k+1) s'∧L (fuel+1) s=L fuel s')) (hend : ∀ fuel s,R n s → L (fuel+1) s=fin s) (s : σ) (h0:R 0 s) :
  (X∧L FUEL s=fv) ∨ ∃ s',R n s'∧L FUEL s=fin s':=by
 have go : ∀ j k fuel s,k+j=n → j < fuel → R k s → (X∧L fuel s=fv) ∨ ∃ s',R n s'∧L fuel s=fin s':=by
  intro j
  induction j with
  | zero =>
   intro k fuel s hk hf hr
   obtain ⟨f,rfl⟩ : ∃ f,fuel=f+1:=⟨fuel - 1,by omega⟩
   obtain rfl : k=n:=by omega
   exact .inr ⟨s,hr,hend f s hr⟩
  | succ j ih =>
   intro k fuel s hk hf hr
   obtain ⟨f,rfl⟩ : ∃ f,fuel=f+1:=⟨fuel - 1,by omega⟩
   rcases hstep k f s (by omega) hr with h | ⟨s',h1,h2⟩
   ·exact .inl h
   ·rw [h2]; exact ih (k+1) f s' (by omega) (by omega) h1
 exact go n 0 FUEL s (by omega) (fuel_gt hn) h0
structure TI (B:Nat) (ls:List Ln) (on:List Bool) (pts:List (Int×Int)) (K:Nat) (feed parent:List Int) (ord:List Nat):Prop where
 lf : feed.length=B
 lp : parent.length=B
 nd : ord.Nodup
 lt : ∀ b ∈ ord,b < B
 mem : ∀ b,b < B → (b ∈ ord ↔ 0 ≤ feed.getD b 0)
 snd : ∀ b ∈ ord,∃ g,g < K∧feedA pts g=true∧feed.getD b 0=(g:Int)∧Cn (onE ls on) g b
 own : ∀ g,g < K → feedA pts g=true → g ∈ ord∧parent.getD g 0=-1
 out : ∀ b,b < B → b ∉ ord → parent.getD b 0=-1
 par : ∀ b ∈ ord,(feedA pts b=true∧b < K) ∨ ∃ j c,parent.getD b 0=((j:Nat):Int)∧Lk ls on j b c∧c ∈ ord∧ord.idxOf c < ord.idxOf b
theorem idx_app {l:List Nat} {a c:Nat} (h : a ∈ l):(l++[c]).idxOf a=l.idxOf a:=by rw [List.idxOf_append,if_pos h]
theorem idx_last {l:List Nat} {c:Nat} (h : c ∉ l):(l++[c]).idxOf c=l.length:=by
 rw [List.idxOf_append,if_neg h]; simp
theorem nodup_len : ∀ (B : Nat) (l : List Nat), l.Nodup → (∀ b ∈ l, b < B) → l.length ≤ B
  | 0, l, _, h => by
    cases l with
    | nil => simp
    | cons x l => have := h x (by simp); omega
  | B + 1, l, hn, h => by
    by_cases hm : B ∈ l
    · have h1 := nodup_len B (l.erase B) (hn.erase B) (fun b hb => by
        have h2 := (hn.mem_erase_iff).1 hb
        have := h b h2.2
        have := h2.1
        omega)
      rw [List.length_erase_of_mem hm] at h1
      omega
    · have h1 := nodup_len B l hn (fun b hb => by
        have := h b hb
        have : b ≠ B := fun e => hm (e ▸ hb)
        omega)
      omega
theorem nodup_snoc {l : List Nat} {c : Nat} (h : l.Nodup) (hc : c ∉ l) : (l ++ [c]).Nodup := by
  rw [List.nodup_append]
  exact ⟨h, by simp, fun a ha b hb => by obtain rfl : b = c := by simpa using hb
                                         exact fun e => hc (e ▸ ha)⟩
section
variable {B:Nat} {ls:List Ln} {on:List Bool} {pts:List (Int×Int)} {K:Nat} {feed parent:List Int} {ord:List Nat}
theorem TI.add (T:TI B ls on pts K feed parent ord) {f b c j:Nat} (hf : f < K) (hff : feedA pts f=true) (hb : b ∈ ord) (hfb:Cn (onE ls on) f b) (hl:Lk ls on j b c) (hc : c < B) (hn : c ∉ ord):TI B ls on pts K (feed.set c (f:Int)) (parent.set c (j:Int)) (ord++[c]):=by
 have hcf : c < feed.length:=by rw [T.lf]; exact hc
 have hcp : c < parent.length:=by rw [T.lp]; exact hc
 have hne : ∀ x ∈ ord,c ≠ x:=fun x hx e=>hn (e ▸ hx)
 refine ⟨by rw [List.length_set]; exact T.lf,by rw [List.length_set]; exact T.lp,nodup_snoc T.nd hn,fun x hx=>?_,fun x hx=>?_,fun x hx=>?_,fun g hg hgf=>?_,fun x hx hxn=>?_,fun x hx=>?_⟩
 ·rcases List.mem_append.1 hx with hx | hx
  ·exact T.lt x hx
  ·obtain rfl : x=c:=by simpa using hx
   exact hc
 ·by_cases e : c=x
  ·subst e; rw [gset hcf]; simp
  ·rw [gset_ne e,← T.mem x hx]; simp [Ne.symm e]
 ·rcases List.mem_append.1 hx with hx | hx
  ·rw [gset_ne (hne x hx)]; exact T.snd x hx
  ·obtain rfl : x=c:=by simpa using hx
   rw [gset hcf]; exact ⟨f,hf,hff,rfl,hfb.trans hl.cn⟩
 ·have:=T.own g hg hgf
  rw [gset_ne (hne g this.1)]; exact ⟨by simp [this.1],this.2⟩
 ·have h1 : x ∉ ord∧x ≠ c:=by simpa using hxn
  rw [gset_ne (Ne.symm h1.2)]; exact T.out x hx h1.1
 ·rcases List.mem_append.1 hx with hx | hx
  ·rw [gset_ne (hne x hx)]
   rcases T.par x hx with h | ⟨i,d,h1,h2,h3,h4⟩
   ·exact .inl h
   ·exact .inr ⟨i,d,h1,h2,by simp [h3],by rw [idx_app h3,idx_app hx]; exact h4⟩
  ·obtain rfl : x=c:=by simpa using hx
   refine .inr ⟨j,b,gset hcp,?_,by simp [hb],?_⟩
   ·obtain ⟨h1,h2,h3⟩:=hl
    exact ⟨h1,h2,h3.symm⟩
   ·rw [idx_app hb,idx_last hn]; exact List.idxOf_lt_length_iff.2 hb
theorem TI.start (T:TI B ls on pts K feed parent ord) (hK:K < B) (hff : feedA pts K=true) (hn:K ∉ ord):TI B ls on pts (K+1) (feed.set K (K:Int)) parent (ord++[K]):=by
 have hcf:K < feed.length:=by rw [T.lf]; exact hK
 have hne : ∀ x ∈ ord,K ≠ x:=fun x hx e=>hn (e ▸ hx)
 refine ⟨by rw [List.length_set]; exact T.lf,T.lp,nodup_snoc T.nd hn,fun x hx=>?_,fun x hx=>?_,fun x hx=>?_,fun g hg hgf=>?_,fun x hx hxn=>?_,fun x hx=>?_⟩
 ·rcases List.mem_append.1 hx with hx | hx
  ·exact T.lt x hx
  ·obtain rfl : x=K:=by simpa using hx
   exact hK
 ·by_cases e:K=x
  ·subst e; rw [gset hcf]; simp
  ·rw [gset_ne e,← T.mem x hx]; simp [Ne.symm e]
 ·rcases List.mem_append.1 hx with hx | hx
  ·rw [gset_ne (hne x hx)]
   obtain ⟨g,h1,h2⟩:=T.snd x hx
   exact ⟨g,by omega,h2⟩
  ·obtain rfl : x=K:=by simpa using hx
   rw [gset hcf]; exact ⟨x,by omega,hff,rfl,.refl _⟩
 ·by_cases e : g=K
  ·subst e; exact ⟨by simp,T.out g hK hn⟩
  ·have:=T.own g (by omega) hgf
   exact ⟨by simp [this.1],this.2⟩
 ·have h1 : x ∉ ord∧x ≠ K:=by simpa using hxn
  exact T.out x hx h1.1
 ·rcases List.mem_append.1 hx with hx | hx
  ·rcases T.par x hx with h | ⟨i,d,h1,h2,h3,h4⟩
   ·exact .inl ⟨h.1,by omega⟩
   ·exact .inr ⟨i,d,h1,h2,by simp [h3],by rw [idx_app h3,idx_app hx]; exact h4⟩
  ·obtain rfl : x=K:=by simpa using hx
   exact .inl ⟨hff,by omega⟩
theorem TI.skip (T:TI B ls on pts K feed parent ord) (hff : feedA pts K=false):TI B ls on pts (K+1) feed parent ord:=by
 refine ⟨T.lf,T.lp,T.nd,T.lt,T.mem,fun x hx=>?_,fun g hg hgf=>?_,T.out,fun x hx=>?_⟩
 ·obtain ⟨g,h1,h2⟩:=T.snd x hx
  exact ⟨g,by omega,h2⟩
 ·have : g ≠ K:=fun e=>by rw [e,hff] at hgf; cases hgf
  exact T.own g (by omega) hgf
 ·rcases T.par x hx with h | h
  ·exact .inl ⟨h.1,by omega⟩
  ·exact .inr h
theorem TI.len (T:TI B ls on pts K feed parent ord) : ord.length ≤ B:=by
 exact nodup_len B ord T.nd T.lt
def Cl (ls:List Ln) (on:List Bool) (ord:List Nat) (m:Nat):Prop:=∀ i,i < m → ∀ j c,Lk ls on j (ord.getD i 0) c → c ∈ ord
theorem Cl.mem {m:Nat} (h:Cl ls on ord m) (hm : m=ord.length) {b c:Nat} (hb : b ∈ ord) (hc:Cn (onE ls on) b c) : c ∈ ord:=by
 induction hc with
 | refl=>exact hb
 | @step c d _ e ih =>
  obtain ⟨i,hi,rfl⟩:=List.mem_iff_getElem.1 ih
  have hl : ∃ j,Lk ls on j ord[i] d:=by
   rcases e with e | e
   ·obtain ⟨j,h1,h2,h3⟩:=onE_mem.1 e
    exact ⟨j,h1,h2,.inl h3.symm⟩
   ·obtain ⟨j,h1,h2,h3⟩:=onE_mem.1 e
    exact ⟨j,h1,h2,.inr h3.symm⟩
  obtain ⟨j,hl⟩:=hl
  exact h i (by omega) j d (by rw [getD_ge hi]; exact hl)
end
section
variable {B:Nat} {ls:List Ln} {on:List Bool} {pts:List (Int×Int)} (h:StOk (B:Int) ls on)
include h
theorem other_lk {k b:Nat} (hk : k < ls.length) : ∃ z,m_impl_Line_other (ls.getD k (0,0,0)).1 (ls.getD k (0,0,0)).2.1 (ls.getD k (0,0,0)).2.2 (b:Int)=some z∧((z=-1∧∀ c,¬ Lk ls on k b c) ∨ ∃ c,z=((c:Nat):Int)∧c < B∧(on.getD k false=true → Lk ls on k b c)∧∀ d,Lk ls on k b d → d=c):=by
 have hl:=h.net.ln k hk
 have hln:=ln_nat hl
 simp only [Int.toNat_natCast] at hln
 have hne:=hl.ne
 unfold m_impl_Line_other
 rw [hln.1,hln.2.1] at hne ⊢
 have key : ∀ d,Lk ls on k b d → ((edgeE (ls.getD k (0,0,0))).1=b∧(edgeE (ls.getD k (0,0,0))).2=d) ∨ ((edgeE (ls.getD k (0,0,0))).1=d∧(edgeE (ls.getD k (0,0,0))).2=b):=by
  rintro d ⟨_,_,h3⟩
  rcases h3 with h3 | h3 <;> rw [h3] <;> simp
 by_cases e1 : b=(edgeE (ls.getD k (0,0,0))).1
 ·have:((b:Int) == (((edgeE (ls.getD k (0,0,0))).1:Nat):Int))=true:=by rw [beq_iff_eq,← e1]
  rw [this]
  refine ⟨_,rfl,.inr ⟨_,rfl,hln.2.2.2,fun ho=>⟨hk,ho,.inl (by rw [e1])⟩,fun d hd=>?_⟩⟩
  rcases key d hd with g | g
  ·exact g.2.symm
  ·omega
 ·have e1':((b:Int) == (((edgeE (ls.getD k (0,0,0))).1:Nat):Int))=false:=by rw [beq_eq_false_iff_ne]; omega
  rw [e1',cond_false]
  by_cases e2 : b=(edgeE (ls.getD k (0,0,0))).2
  ·have:((b:Int) == (((edgeE (ls.getD k (0,0,0))).2:Nat):Int))=true:=by rw [beq_iff_eq,← e2]
   rw [this]
   refine ⟨_,rfl,.inr ⟨_,rfl,hln.2.2.1,fun ho=>⟨hk,ho,.inr (by rw [e2])⟩,fun d hd=>?_⟩⟩
   rcases key d hd with g | g
   ·omega
   ·exact g.1.symm
  ·have e2':((b:Int) == (((edgeE (ls.getD k (0,0,0))).2:Nat):Int))=false:=by rw [beq_eq_false_iff_ne]; omega
   rw [e2',cond_false]
   refine ⟨_,rfl,.inl ⟨rfl,fun d hd=>?_⟩⟩
   rcases key d hd with g | g <;> omega
omit h in
theorem zl_app (l:List Nat) (c:Nat) : zl l++[(c:Int)]=zl (l++[c]):=by simp [zl]
theorem iSearch2 {F0 P0 : List Int} (hF : F0.length = B) (hP : P0.length = B) {K f b from_ : Nat} {feed parent : List Int} {ord : List Nat} (hf : f < K) (hff : feedA pts f = true) (hb : ord.getD from_ 0 = b) (hfr : from_ < ord.length) (hfb : Cn (onE ls on) f b) (T : TI B ls on pts K feed parent ord) :
    ∃ feed' parent' t, m_impl_tree_search_l2 ls F0 P0 on (f : Int) ((from_ : Int), feed, parent, zl ord) FUEL (0, feed, parent, zl ord) = some (feed', parent', zl (ord ++ t)) ∧ TI B ls on pts K feed' parent' (ord ++ t) ∧ (∀ j c, Lk ls on j b c → c ∈ ord ++ t) ∧ ∀ x ∈ t, Cn (onE ls on) f x := by
  have hll := h.net.ll; have hl := h.len; have hB := h.net.b1
  have hbo : b ∈ ord := by rw [← hb, getD_ge hfr]; exact List.getElem_mem hfr
  obtain ⟨s, ⟨feed', parent', t, rfl, r1, r2, r3⟩, h2⟩ := loop_rel (m_impl_tree_search_l2 ls F0 P0 on (f : Int) ((from_ : Int), feed, parent, zl ord))
    (fun k s => ∃ feed' parent' t, s = ((k : Int), feed', parent', zl (ord ++ t)) ∧ TI B ls on pts K feed' parent' (ord ++ t) ∧ (∀ j, j < k → ∀ c, Lk ls on j b c → c ∈ ord ++ t) ∧ ∀ x ∈ t, Cn (onE ls on) f x) ls.length (fun s => some (s.2.1, s.2.2.1, s.2.2.2)) (by omega) (by
      rintro k fuel s hk ⟨feed', parent', t, rfl, r1, r2, r3⟩
      rw [e_impl_tree_search_l2, m_impl_tree_search_l2s]
      obtain ⟨z, z1, z2⟩ := other_lk h (b := b) hk
      have hget : (zl ord).getD (from_ : Int).toNat 0 = (b : Int) := by rw [Int.toNat_natCast, zl_get, hb]
      simp only [lt_dec hk, ix_dec hk, ix_dec (show k < on.length by omega), chk_true, cond_true, Int.toNat_natCast, w64_succ (by omega : k < 4611686018427387904), zl_get, hb, z1, Option.bind_some, hF, hP]
      have hlen := r1.len
      rcases z2 with ⟨rfl, z3⟩ | ⟨c, rfl, hcB, z3, z4⟩
      · have : leB 0 (-1) = false := rfl
        simp only [this, Bool.and_false, Bool.false_and, Bool.not_false, Bool.true_or, chk_true, cond_false, Option.bind_some]
        refine ⟨_, ⟨feed', parent', t, rfl, r1, fun j hj c hc => ?_, r3⟩, rfl⟩
        by_cases e : j = k
        · subst e; exact absurd hc (z3 c)
        · exact r2 j (by omega) c hc
      · have hge : leB 0 (c : Int) = true := by simp [leB]
        simp only [hge, ix_dec hcB, Bool.and_true, Bool.or_true, chk_true, Int.toNat_natCast]
        by_cases hc : on.getD k false = true ∧ c ∉ ord ++ t
        · have hcf : ltB (feed'.getD c 0) 0 = true := by
            have : ¬ 0 ≤ feed'.getD c 0 := fun g => hc.2 ((r1.mem c hcB).2 g)
            simp only [ltB, decide_eq_true_eq]; omega
          have ha : apB (zl (ord ++ t)).length ([(c : Int)] : List Int).length = true := by rw [zl_len]; simp [apB]; simp at hlen; omega
          simp only [hc.1, hcf, Bool.and_self, cond_true, ha, chk_true, Option.bind_some]
          rw [zl_app, List.append_assoc]
          have hlk := z3 hc.1
          refine ⟨_, ⟨_, _, t ++ [c], rfl, ?_, fun j hj d hd => ?_, fun x hx => ?_⟩, rfl⟩
          · rw [← List.append_assoc]
            exact r1.add hf hff (by simp [hbo]) hfb hlk hcB hc.2
          · by_cases e : j = k
            · subst e; rw [z4 d hd]; simp
            · have := r2 j (by omega) d hd
              rw [← List.append_assoc]; exact List.mem_append_left _ this
          · rcases List.mem_append.1 hx with hx | hx
            · exact r3 x hx
            · obtain rfl : x = c := by simpa using hx
              exact hfb.trans hlk.cn
        · have hcf : (on.getD k false && ltB (feed'.getD c 0) 0) = false := by
            cases ho : on.getD k false
            · rfl
            · have hm : c ∈ ord ++ t := Classical.byContradiction fun hn => hc ⟨ho, hn⟩
              have := (r1.mem c hcB).1 hm
              simp only [Bool.true_and, ltB, decide_eq_false_iff_not]; omega
          simp only [hcf, cond_false, Option.bind_some]
          refine ⟨_, ⟨feed', parent', t, rfl, r1, fun j hj d hd => ?_, r3⟩, rfl⟩
          by_cases e : j = k
          · subst e
            rw [z4 d hd]
            exact Classical.byContradiction fun hn => hc ⟨hd.2.1, hn⟩
          · exact r2 j (by omega) d hd) (by
      rintro fuel s ⟨feed', parent', t, rfl, r1, r2, r3⟩
      rw [e_impl_tree_search_l2, m_impl_tree_search_l2s]; simp only [nlt_dec, cond_false]) (0, feed, parent, zl ord) ⟨feed, parent, [], by simp, by simpa using T, fun j hj => absurd hj (Nat.not_lt_zero _), fun x hx => by simp at hx⟩
  exact ⟨feed', parent', t, h2, r1, fun j c hc => r2 j hc.1 c hc, r3⟩
theorem iSearch1 {F0 P0:List Int} (hF:F0.length=B) (hP:P0.length=B) {K f n0:Nat} (hf : f < K) (hff : feedA pts f=true) : ∀ (m from_ fuel:Nat) (feed parent:List Int) (ord:List Nat),B ≤ m+from_ → m < fuel → n0 ≤ from_ → from_ ≤ ord.length → (∀ i,n0 ≤ i → i < ord.length → Cn (onE ls on) f (ord.getD i 0)) → Cl ls on ord from_ → TI B ls on pts K feed parent ord →
  ∃ feed' parent' ord',m_impl_tree_search_l1 ls F0 P0 on (f:Int) fuel ((from_:Int),feed,parent,zl ord)=some (feed',parent',zl ord')∧TI B ls on pts K feed' parent' ord'∧Cl ls on ord' ord'.length∧∀ x ∈ ord,x ∈ ord':=by
 have hB:=h.net.b1
 intro m
 induction m with
 | zero =>
  intro from_ fuel feed parent ord h1 h2 h3 h4 h5 h6 T
  obtain ⟨g,rfl⟩ : ∃ g,fuel=g+1:=⟨fuel - 1,by omega⟩
  have hlen:=T.len
  have e : from_=ord.length:=by omega
  rw [e_impl_tree_search_l1,m_impl_tree_search_l1s]
  have : ltB (from_:Int) ((zl ord).length:Int)=false:=by rw [zl_len,e]; exact nlt_dec
  simp only [this,cond_false]
  exact ⟨feed,parent,ord,rfl,T,e ▸ h6,fun x hx=>hx⟩
 | succ m ih =>
  intro from_ fuel feed parent ord h1 h2 h3 h4 h5 h6 T
  obtain ⟨g,rfl⟩ : ∃ g,fuel=g+1:=⟨fuel - 1,by omega⟩
  have hlen:=T.len
  rw [e_impl_tree_search_l1,m_impl_tree_search_l1s]
  by_cases e : from_=ord.length
  ·have : ltB (from_:Int) ((zl ord).length:Int)=false:=by rw [zl_len,e]; exact nlt_dec
   simp only [this,cond_false]
   exact ⟨feed,parent,ord,rfl,T,e ▸ h6,fun x hx=>hx⟩
  ·have hlt : from_ < ord.length:=by omega
   obtain ⟨feed',parent',t,r0,r1,r2,r3⟩:=iSearch2 h hF hP hf hff rfl hlt (h5 from_ h3 hlt) T
   have hlen2:=r1.len
   simp only [zl_len,lt_dec hlt,ix_dec hlt,cond_true,chk_true,r0,Option.bind_some,w64_succ (by omega : from_ < 4611686018427387904)]
   have hget : ∀ i,i < ord.length → (ord++t).getD i 0=ord.getD i 0:=fun i hi=>by simp [List.getD,List.getElem?_append_left hi]
   obtain ⟨feed2,parent2,ord2,s1,s2,s3,s4⟩:=ih (from_+1) g feed' parent' (ord++t) (by omega) (by omega) (by omega) (by simp; omega) (fun i hi1 hi2=>by
    by_cases hi : i < ord.length
    ·rw [hget i hi]; exact h5 i hi1 hi
    ·rw [getD_ge hi2,List.getElem_append_right (by omega)]
     exact r3 _ (List.getElem_mem _)) (fun i hi j c hc=>by
    rw [hget i (by omega)] at hc
    by_cases e2 : i=from_
    ·subst e2; exact r2 j c hc
    ·exact List.mem_append_left _ (h6 i (by omega) j c hc)) r1
   exact ⟨feed2,parent2,ord2,s1,s2,s3,fun x hx=>s4 x (by simp [hx])⟩
theorem iSearch {K:Nat} {feed parent:List Int} {ord:List Nat} (hK:K < B) (hff : feedA pts K=true) (hn:K ∉ ord) (hcl:Cl ls on ord ord.length) (T:TI B ls on pts K feed parent ord) (y:Int) :
  ∃ feed' parent' ord',m_impl_tree_search y ls (feed.set K (K:Int)) parent (zl ord) on (K:Int)=some (y,feed',parent',zl ord')∧TI B ls on pts (K+1) feed' parent' ord'∧Cl ls on ord' ord'.length∧∀ x ∈ ord++[K],x ∈ ord':=by
 have hB:=h.net.b1
 have hlen:=T.len
 have T2:=T.start hK hff hn
 obtain ⟨feed',parent',ord',h1,h2,h3,h4⟩:=iSearch1 h (F0:=feed.set K (K:Int)) (P0:=parent) T2.lf T2.lp (K:=K+1) (f:=K) (n0:=ord.length) (by omega) hff B ord.length FUEL (feed.set K (K:Int)) parent (ord++[K]) (by omega) (fuel_gt (by omega)) (by omega) (by simp) (fun i hi1 hi2=>by
  have : i=ord.length:=by simp at hi2; omega
  subst this
  rw [getD_ge hi2]; simp; exact .refl _) (fun i hi j c hc=>by
  have:(ord++[K]).getD i 0=ord.getD i 0:=by simp [List.getD,List.getElem?_append_left hi]
  rw [this] at hc
  exact List.mem_append_left _ (hcl i hi j c hc)) T2
 refine ⟨feed',parent',ord',?_,h2,h3,h4⟩
 unfold m_impl_tree_search
 have ha : apB (zl ord).length ([(K:Int)]:List Int).length=true:=by rw [zl_len]; simp [apB]; omega
 rw [ha,chk_true,zl_app,zl_len,h1]; rfl
end
structure TreeOk (ls:List Ln) (on:List Bool) (pts:List (Int×Int)) (feed parent:List Int) (ord:List Nat):Prop where
 lf : feed.length=pts.length
 lp : parent.length=pts.length
 nd : ord.Nodup
 mem : ∀ b,b ∈ ord ↔ b < pts.length∧fedB (onE ls on) pts b=true
 fd : ∀ b f,b < pts.length → (feed.getD b 0=((f:Nat):Int) ↔ feedA pts f=true∧Cn (onE ls on) f b)
 par:Par ls on pts (fun b=>parent.getD b (-1)) (fun b=>ord.idxOf b)
theorem TI.tree {ls : List Ln} {on : List Bool} {pts : List (Int × Int)} {feed parent : List Int} {ord : List Nat} (T : TI pts.length ls on pts pts.length feed parent ord) (hcl : Cl ls on ord ord.length) (hnj : ∀ f g, feedA pts f = true → feedA pts g = true → Cn (onE ls on) f g → f = g) : TreeOk ls on pts feed parent ord := by
  have hmem : ∀ b, b ∈ ord ↔ b < pts.length ∧ fedB (onE ls on) pts b = true := by
    intro b
    constructor
    · intro hb
      obtain ⟨g, h1, h2, _, h3⟩ := T.snd b hb
      exact ⟨T.lt b hb, fedB_iff.2 ⟨g, h2, h3⟩⟩
    · rintro ⟨hb, hf⟩
      obtain ⟨f, h1, h2⟩ := fedB_iff.1 hf
      exact hcl.mem rfl (T.own f (feedA_lt h1) h1).1 h2
  have hd : ∀ b, b < pts.length → parent.getD b (-1) = parent.getD b 0 := fun b hb => by rw [getD_ge (by rw [T.lp]; exact hb), getD_ge (by rw [T.lp]; exact hb)]
  refine ⟨T.lf, T.lp, T.nd, hmem, fun b f hb => ?_, ⟨fun b hb hf => ?_, fun b hb => ?_, fun b hb => ?_⟩⟩
  · constructor
    · intro e
      obtain ⟨g, h1, h2, h3, h4⟩ := T.snd b ((T.mem b hb).2 (by rw [e]; omega))
      have : f = g := by rw [e] at h3; omega
      subst this; exact ⟨h2, h4⟩
    · rintro ⟨h1, h2⟩
      obtain ⟨g, g1, g2, g3, g4⟩ := T.snd b ((hmem b).2 ⟨hb, fedB_iff.2 ⟨f, h1, h2⟩⟩)
      rw [g3, hnj f g h1 g2 (h2.trans g4.symm)]
  · rw [hd b hb]
    rcases T.par b ((hmem b).2 ⟨hb, hf⟩) with g | ⟨j, c, g, _⟩
    · exact .inl g.1
    · exact .inr (by rw [g]; omega)
  · have hlt := feedA_lt hb
    rw [hd b hlt, (T.own b hlt hb).2]; omega
  · have hlt : b < pts.length := by
      rcases Nat.lt_or_ge b pts.length with h1 | h1
      · exact h1
      · rw [List.getD_eq_getElem?_getD, List.getElem?_eq_none (by rw [T.lp]; exact h1)] at hb; simp at hb
    rw [hd b hlt] at hb ⊢
    have hbo : b ∈ ord := Classical.byContradiction fun hn => by rw [T.out b hlt hn] at hb; omega
    rcases T.par b hbo with g | ⟨j, c, g1, g2, g3, g4⟩
    · rw [(T.own b g.2 g.1).2] at hb; omega
    · rw [g1]
      exact ⟨c, by simpa using g2, T.lt c g3, ((hmem c).1 g3).2, g4⟩
theorem feed0 {pts:List (Int×Int)} {b:Int} {ls:List Ln} (h:BusOk b ls pts) {k:Nat} (hk : k < pts.length):((pts.getD k (0,0)).1 == 0)=!feedA pts k:=by
 have:=(h.bs k hk).1
 unfold feedA
 rw [Bool.eq_iff_iff]; simp only [beq_iff_eq,Bool.not_eq_true',decide_eq_false_iff_not]; omega
theorem iTree (b:Int) (ls:List Ln) (on:List Bool) (pts:List (Int×Int)) (hp : pts.length ≤ 1048576) :
  ∃ r,m_impl_treeOf b ls on pts=some r∧r.2.2.2.2.2=radB b ls on pts∧(radB b ls on pts=true → r.1=b∧r.2.1=true∧∃ ord,r.2.2.2.2.1=zl ord∧TreeOk ls on pts r.2.2.1 r.2.2.2.1 ord):=by
 unfold m_impl_treeOf radB
 rw [iFed b ls pts hp,Option.bind_some]
 cases hv : okV b ls on pts
 ·exact ⟨_,rfl,rfl,fun e=>by cases e⟩
 obtain ⟨h1,h2⟩:=okV_iff.1 hv
 have hlp:=h2.lp
 subst hlp
 rw [iCyc h1]
 simp only [Bool.not_true,Bool.not_false,gb_true,Option.bind_some,Bool.false_or,Bool.true_and]
 unfold radP
 rw [← cyc_eq h1.len]
 cases hc : cycB ls on
 case true=>exact ⟨_,rfl,rfl,fun e=>by cases e⟩
 have hB:=h1.net.b1
 have hm : mkB (pts.length:Int)=true:=by simp [mkB]; omega
 simp only [cond_false,hm,chk_true,Int.toNat_natCast,Bool.not_false,Bool.true_and]
 have hl1 : m_impl_treeOf_l1 (pts.length:Int) FUEL (0,List.replicate pts.length 0,List.replicate pts.length 0)=some (List.replicate pts.length (-1),List.replicate pts.length (-1)):=by
  have hh:=loop_all (m_impl_treeOf_l1 (pts.length:Int)) (fun k=>((k:Int),List.replicate k (-1)++List.replicate (pts.length - k) 0,List.replicate k (-1)++List.replicate (pts.length - k) 0)) pts.length (some (List.replicate pts.length (-1),List.replicate pts.length (-1))) (by omega) (fun k fuel hk=>?_) (fun fuel=>?_)
  ·simpa using hh
  ·rw [e_impl_treeOf_l1,m_impl_treeOf_l1s]
   simp only [lt_dec hk,Int.toNat_natCast,ix_dec hk,cond_true,chk_true,w64_succ (by omega : k < 4611686018427387904)]
   have e:(List.replicate k (-1:Int)++List.replicate (pts.length - k) 0).set k (-1)=List.replicate (k+1) (-1)++List.replicate (pts.length - (k+1)) 0:=by
    rw [List.set_append_right _ _ (by simp),List.length_replicate,Nat.sub_self,show pts.length - k=(pts.length - (k+1))+1 by omega,List.replicate_succ,List.set_cons_zero,List.replicate_succ',List.append_assoc]; rfl
   rw [e]
  ·rw [e_impl_treeOf_l1,m_impl_treeOf_l1s]
   simp only [nlt_dec,cond_false,Nat.sub_self,List.replicate_zero,List.append_nil]
 rw [hl1,Option.bind_some]
 have hget : ∀ k,k < pts.length → (List.replicate pts.length (-1:Int)).getD k 0=-1:=fun k hk=>by simp [List.getD,hk]
 have hT0:TI pts.length ls on pts 0 (List.replicate pts.length (-1)) (List.replicate pts.length (-1)) [] :=
  ⟨by simp,by simp,by simp,fun b hb=>by simp at hb,fun b hb=>by rw [hget b hb]; simp,fun b hb=>by simp at hb,fun g hg=>absurd hg (Nat.not_lt_zero _),fun b hb _=>hget b hb,fun b hb=>by simp at hb⟩
 have hh:=loop_both (m_impl_treeOf_l2 ls on pts) (fun k s=>∃ feed parent ord,s=((k:Int),(pts.length:Int),feed,parent,zl ord)∧TI pts.length ls on pts k feed parent ord∧Cl ls on ord ord.length∧∀ f g,f < k → g < k → feedA pts f=true → feedA pts g=true → Cn (onE ls on) f g → f=g) pts.length
  (twoF (onE ls on) pts=true) (some (Sum.inr (0,false,([]:List Int),([]:List Int),([]:List Int),false))) (fun s=>some (Sum.inl (s.2.1,s.2.2.1,s.2.2.2.1,s.2.2.2.2))) (by omega) ?_ ?_ (0,(pts.length:Int),List.replicate pts.length (-1),List.replicate pts.length (-1),([]:List Int)) ⟨_,_,[],rfl,hT0,fun i hi=>absurd hi (Nat.not_lt_zero _),fun f g hf=>absurd hf (Nat.not_lt_zero _)⟩
 ·rcases hh with ⟨x1,x2⟩ | ⟨s,⟨feed,parent,ord,rfl,t1,t2,t3⟩,x2⟩
  ·rw [x2,x1]
   exact ⟨_,rfl,rfl,fun e=>by cases e⟩
  ·rw [x2]
   have hnj : ∀ f g,feedA pts f=true → feedA pts g=true → Cn (onE ls on) f g → f=g:=fun f g hf hg=>t3 f g (feedA_lt hf) (feedA_lt hg) hf hg
   rw [twoF_iff.2 hnj]
   exact ⟨_,rfl,rfl,fun _=>⟨rfl,rfl,ord,rfl,t1.tree t2 hnj⟩⟩
 ·rintro k fuel s hk ⟨feed,parent,ord,rfl,t1,t2,t3⟩
  rw [e_impl_treeOf_l2,m_impl_treeOf_l2s]
  simp only [lt_dec hk,ix_dec hk,cond_true,chk_true,Int.toNat_natCast,w64_succ (by omega : k < 4611686018427387904),feed0 h2 hk]
  cases hf : feedA pts k
  ·right
   simp only [Bool.not_false,cond_true,Option.bind_some,Sum.elim_inl]
   refine ⟨_,⟨feed,parent,ord,rfl,t1.skip hf,t2,fun f g hfk hgk hff hgf=>?_⟩,rfl⟩
   have e1 : f ≠ k:=fun e=>by rw [e,hf] at hff; cases hff
   have e2 : g ≠ k:=fun e=>by rw [e,hf] at hgf; cases hgf
   exact t3 f g (by omega) (by omega) hff hgf
  ·have hx : ixB (k:Int) feed.length=true:=by rw [t1.lf]; exact ix_dec hk
   simp only [Bool.not_true,cond_false,hx,chk_true]
   by_cases hko : k ∈ ord
   ·left
    have h0:=(t1.mem k hk).1 hko
    have : leB 0 (feed.getD k 0)=true:=by simpa [leB] using h0
    simp only [this,cond_true,Option.bind_some,Sum.elim_inr]
    refine ⟨?_,trivial⟩
    obtain ⟨g,g1,g2,_,g4⟩:=t1.snd k hko
    cases htw : twoF (onE ls on) pts
    ·have:=twoF_iff.1 htw g k g2 hf g4; omega
    ·rfl
   ·right
    have h0 : ¬ 0 ≤ feed.getD k 0:=fun g=>hko ((t1.mem k hk).2 g)
    have : leB 0 (feed.getD k 0)=false:=by simp only [leB,decide_eq_false_iff_not]; exact h0
    obtain ⟨feed',parent',ord',s1,s2,s3,s4⟩:=iSearch h1 hk hf hko t2 t1 (pts.length:Int)
    simp only [this,cond_false,s1,Option.bind_some,Sum.elim_inl]
    refine ⟨_,⟨feed',parent',ord',rfl,s2,s3,fun f g hfk hgk hff hgf hcn=>?_⟩,rfl⟩
    have key : ∀ a,a < k → feedA pts a=true → ¬ Cn (onE ls on) a k:=fun a ha hfa hcn=>hko (t2.mem rfl (t1.own a ha hfa).1 hcn)
    by_cases e1 : f=k
    ·by_cases e2 : g=k
     ·omega
     ·exact absurd (e1 ▸ hcn).symm (key g (by omega) hgf)
    ·by_cases e2 : g=k
     ·exact absurd (e2 ▸ hcn) (key f (by omega) hff)
     ·exact t3 f g (by omega) (by omega) hff hgf hcn
 ·rintro fuel s ⟨feed,parent,ord,rfl,t1,t2,t3⟩
  rw [e_impl_treeOf_l2,m_impl_treeOf_l2s]; simp only [nlt_dec,cond_false]
theorem iRadial (b:Int) (ls:List Ln) (on:List Bool) (pts:List (Int×Int)) (hp : pts.length ≤ 1048576) : m_impl_Radial b ls on pts=some (radB b ls on pts):=by
 obtain ⟨r,h1,h2,_⟩:=iTree b ls on pts hp
 unfold m_impl_Radial
 rw [h1,Option.bind_some,h2]
theorem sRadial (b:Int) (ls:List Ln) (on:List Bool) (pts:List (Int×Int)) (hp : pts.length ≤ 1048576) : m_spec_Radial b ls on pts=some (radB b ls on pts):=by
 unfold m_spec_Radial radB
 rw [sFed b ls pts hp,Option.bind_some]
 cases hv : okV b ls on pts
 ·rfl
 obtain ⟨h1,h2⟩:=okV_iff.1 hv
 have hlp:=h2.lp
 subst hlp
 have hB:=h1.net.b1
 rw [sCyc h1]
 simp only [Bool.not_true,Bool.not_false,gb_true,Option.bind_some,Bool.false_or,Bool.true_and]
 unfold radP
 cases hc : cycP ls on
 case true=>rfl
 simp only [cond_false,Bool.not_false,Bool.true_and]
 have hh:=loop_find (m_spec_Radial_l1 (pts.length:Int) ls on pts) (fun k=>(k:Int)) pts.length (fun k=>(List.range k).any fun j=>feedA pts k && feedA pts j && labs (onE ls on) j == labs (onE ls on) k) (some (.inr false)) (some (.inl ())) (by omega) (fun k fuel hk=>?_) (fun fuel=>?_)
 ·rw [show m_spec_Radial_l1 (pts.length:Int) ls on pts FUEL 0=_ from hh]
  show _=some (!twoF (onE ls on) pts)
  unfold twoF
  cases (List.range pts.length).any _ <;> rfl
 ·rw [e_spec_Radial_l1,m_spec_Radial_l1s]
  have h3:=loop_find (m_spec_Radial_l2 (pts.length:Int) ls on pts (k:Int)) (fun j=>(j:Int)) k (fun j=>feedA pts k && feedA pts j && labs (onE ls on) j == labs (onE ls on) k) (some (.inr false)) (some (.inl ())) (by omega) (fun j fuel hj=>?_) (fun fuel=>?_)
  ·simp only [lt_dec hk,cond_true,w64_succ (by omega : k < 4611686018427387904)]
   rw [show m_spec_Radial_l2 (pts.length:Int) ls on pts (k:Int) FUEL 0=_ from h3]
   cases (List.range k).any _ <;> rfl
  ·rw [e_spec_Radial_l2,m_spec_Radial_l2s]
   have hj2 : j < pts.length:=by omega
   simp only [lt_dec hj,ix_dec hk,ix_dec hj2,cond_true,chk_true,Bool.or_true,Int.toNat_natCast,w64_succ (by omega : j < 4611686018427387904),sSame h1 hj2 hk]
   rw [show ltB 0 (pts.getD k (0,0)).1=feedA pts k from rfl,show ltB 0 (pts.getD j (0,0)).1=feedA pts j from rfl]
   cases feedA pts k <;> cases feedA pts j <;> cases labs (onE ls on) j == labs (onE ls on) k <;> rfl
  ·rw [e_spec_Radial_l2,m_spec_Radial_l2s]; simp only [nlt_dec,cond_false]
 ·rw [e_spec_Radial_l1,m_spec_Radial_l1s]; simp only [nlt_dec,cond_false]
end Go.Proofs.YtjdlgannencchaaGreatDoor
namespace Go.Proofs.YtjdlgannencchaaGreatDoor
set_option linter.unusedVariables false
set_option linter.unusedSimpArgs false
theorem loop_filter {Out:Type} (L:Nat → (List Int×Int) → Option Out) (n:Nat) (p:Nat → Bool) (fin:List Int → Option Out) (hn : n ≤ 1099511627775) (hstep : ∀ k fuel (l:List Int),k < n → apB l.length ([(k:Int)]:List Int).length=true → L (fuel+1) (l,(k:Int))=L fuel (bif p k then l++[(k:Int)] else l,((k+1:Nat):Int)))
  (hend : ∀ fuel (l:List Int),L (fuel+1) (l,(n:Int))=fin l):L FUEL (([]:List Int),0)=fin (zl ((List.range n).filter p)):=by
 have hh:=loop_all L (fun k=>(zl ((List.range k).filter p),(k:Int))) n (fin (zl ((List.range n).filter p))) (by omega) (fun k fuel hk=>?_) (fun fuel=>hend fuel _)
 ·exact hh
 ·have hl:=List.length_filter_le p (List.range k)
  rw [List.length_range] at hl
  rw [hstep k fuel _ hk (by rw [zl_len]; simp [apB]; omega),List.range_succ,List.filter_append,List.filter_cons,List.filter_nil]
  congr 2
  cases p k <;> simp [zl]
def sumK (E:Ed) (pts:List (Int×Int)) (f:Int×Int → Int) (k j:Nat):Int:=((List.range k).map fun c=>if labs E c=j then f (pts.getD c (0,0)) else 0).sum
theorem sumK_0 (E:Ed) (pts:List (Int×Int)) (f:Int×Int → Int) (j:Nat) : sumK E pts f 0 j=0:=rfl
theorem sumK_s (E:Ed) (pts:List (Int×Int)) (f:Int×Int → Int) (k j:Nat) : sumK E pts f (k+1) j=sumK E pts f k j+(if labs E k=j then f (pts.getD k (0,0)) else 0):=by
 unfold sumK
 rw [List.range_succ,List.map_append,List.sum_append]; simp
theorem sumE_K (E:Ed) (pts:List (Int×Int)) (f:Int×Int → Int) (b:Nat) : sumE E pts f b=sumK E pts f pts.length (labs E b):=rfl
theorem sumK_bound (E:Ed) (pts:List (Int×Int)) (f:Int×Int → Int) (hf : ∀ c,c < pts.length → 0 ≤ f (pts.getD c (0,0))∧f (pts.getD c (0,0)) ≤ 999) (j:Nat) : ∀ k,k ≤ pts.length → 0 ≤ sumK E pts f k j∧sumK E pts f k j ≤ 999 * k
 | 0,_=>by rw [sumK_0]; omega
 | k+1,hk=>by
  have ih:=sumK_bound E pts f hf j k (by omega)
  have:=hf k (by omega)
  rw [sumK_s]
  split <;> omega
theorem get8 (S:Nat → Int) {r:Nat} (hr : r < 8):([S 0,S 1,S 2,S 3,S 4,S 5,S 6,S 7]:List Int).getD r 0=S r:=by
 match r,hr with
 | 0,_=>rfl
 | 1,_=>rfl
 | 2,_=>rfl
 | 3,_=>rfl
 | 4,_=>rfl
 | 5,_=>rfl
 | 6,_=>rfl
 | 7,_=>rfl
theorem upd8 {S T:Nat → Int} {r j:Nat} {z x y:Int} (hT:T j=S j+(if r=j then x else 0)) (hz : z=(j:Int)) (hy : y=S r+x):(bif ((r:Nat):Int) == z then y else S j)=T j:=by
 subst hz
 rw [hT,hy]
 by_cases h : r=j
 ·subst h; simp
 ·have:(((r:Nat):Int) == ((j:Nat):Int))=false:=by rw [beq_eq_false_iff_ne]; omega
  rw [this,if_neg h]; simp
abbrev T16:=Int×Int×Int×Int×Int×Int×Int×Int×Int×Int×Int×Int×Int×Int×Int×Int
def t16 (S T:Nat → Int):T16:=(S 0,S 1,S 2,S 3,S 4,S 5,S 6,S 7,T 0,T 1,T 2,T 3,T 4,T 5,T 6,T 7)
section
variable {b:Int} {ls:List Ln} {on:List Bool} (h:StOk b ls on)
include h
theorem iUnion : ∃ u,m_impl_unionOf b ls on=some (zl u)∧UR u b.toNat (labs (onE ls on)):=by
 have hb:=h.net.b0; have hb1:=h.net.b1; have hll:=h.net.ll; have hl:=h.len
 obtain ⟨B,rfl⟩ : ∃ B:Nat,b=(B:Int):=⟨b.toNat,by omega⟩
 obtain ⟨n1,n2⟩:=iNew (B:=B) (by omega)
 obtain ⟨s,⟨u,rfl,hu⟩,h2⟩:=loop_rel (m_impl_unionOf_l1 ls on) (fun k s=>∃ u,s=(zl u,(k:Int))∧UR u B (labs (onL ((ls.zip on).take k)))) ls.length (fun s=>some s.1) (by omega) (by
  rintro k fuel s hk ⟨u,rfl,hu⟩
  rw [e_impl_unionOf_l1,m_impl_unionOf_l1s]
  have hln:=ln_nat (h.net.ln k hk)
  simp only [Int.toNat_natCast] at hln
  simp only [lt_dec hk,ix_dec hk,ix_dec (show k < on.length by omega),chk_true,cond_true,Int.toNat_natCast,w64_succ (by omega : k < 4611686018427387904)]
  rw [hln.1,hln.2.1]
  cases ho : on.getD k false
  ·refine ⟨_,⟨u,rfl,?_⟩,rfl⟩
   rw [zip_at h hk,ho]; exact hu
  ·obtain ⟨x,j1,j2⟩:=iJoin hu (by omega) hln.2.2.1 hln.2.2.2
   simp only [cond_true,j1,Option.bind_some]
   refine ⟨_,⟨x,rfl,?_⟩,rfl⟩
   rw [zip_at h hk,ho,if_pos rfl,labs_snoc]; exact j2) (by
  rintro fuel s ⟨u,rfl,hu⟩
  rw [e_impl_unionOf_l1,m_impl_unionOf_l1s]; simp only [nlt_dec,cond_false]) (zl (List.range B),0) ⟨_,rfl,n2⟩
 refine ⟨u,?_,?_⟩
 ·unfold m_impl_unionOf
  rw [n1,Option.bind_some,h2]; rfl
 ·rw [zip_all h] at hu
  simpa using hu
variable {pts:List (Int×Int)} (hB:BusOk b ls pts)
include hB
omit h in
theorem b_len : pts.length ≤ 8∧b.toNat=pts.length:=by have:=hB.net.b1; have:=hB.lp; omega
set_option maxHeartbeats 1000000 in
theorem iSums : m_impl_sumsOf b ls on pts=some (t16 (sumK (onE ls on) pts (·.1) pts.length) (sumK (onE ls on) pts (·.2) pts.length)):=by
 obtain ⟨u,u1,u2⟩:=iUnion h
 obtain ⟨b1,b2⟩:=b_len hB
 rw [b2] at u2
 unfold m_impl_sumsOf
 rw [u1,Option.bind_some]
 have hf1 : ∀ c,c < pts.length → 0 ≤ (pts.getD c (0,0)).1∧(pts.getD c (0,0)).1 ≤ 999:=fun c hc=>(hB.bs c hc).1
 have hf2 : ∀ c,c < pts.length → 0 ≤ (pts.getD c (0,0)).2∧(pts.getD c (0,0)).2 ≤ 999:=fun c hc=>(hB.bs c hc).2
 obtain ⟨s,⟨v,rfl,hv⟩,h2⟩:=loop_rel (m_impl_sumsOf_l1 pts) (fun k s=>∃ v,s=(zl v,(k:Int),t16 (sumK (onE ls on) pts (·.1) k) (sumK (onE ls on) pts (·.2) k))∧UR v pts.length (labs (onE ls on))) pts.length (fun s=>some s.2.2) (by omega) (by
  rintro k fuel s hk ⟨v,rfl,hv⟩
  rw [e_impl_sumsOf_l1,m_impl_sumsOf_l1s]
  obtain ⟨x,x1,x2⟩:=iFindU hv (by omega) hk
  have hr : labs (onE ls on) k < 8:=by have:=hv.le hk; omega
  have k1:=sumK_bound (onE ls on) pts (·.1) hf1 (labs (onE ls on) k) k (by omega)
  have k2:=sumK_bound (onE ls on) pts (·.2) hf2 (labs (onE ls on) k) k (by omega)
  have p1:=hf1 k hk
  have p2:=hf2 k hk
  have w1 : w64 (sumK (onE ls on) pts (·.1) k (labs (onE ls on) k)+(pts.getD k (0,0)).1)=sumK (onE ls on) pts (·.1) k (labs (onE ls on) k)+(pts.getD k (0,0)).1:=w64_in (by omega) (by omega)
  have w2 : w64 (sumK (onE ls on) pts (·.2) k (labs (onE ls on) k)+(pts.getD k (0,0)).2)=sumK (onE ls on) pts (·.2) k (labs (onE ls on) k)+(pts.getD k (0,0)).2:=w64_in (by omega) (by omega)
  dsimp only [t16]
  simp only [lt_dec hk,ix_dec hk,chk_true,cond_true,Int.toNat_natCast,w64_succ (by omega : k < 4611686018427387904),x1,Option.bind_some,ix_dec hr,get8 _ hr,w1,w2]
  have s1:=fun j=>sumK_s (onE ls on) pts (·.1) k j
  have s2:=fun j=>sumK_s (onE ls on) pts (·.2) k j
  refine ⟨(zl x,((k+1:Nat):Int),t16 (sumK (onE ls on) pts (·.1) (k+1)) (sumK (onE ls on) pts (·.2) (k+1))),⟨x,rfl,x2⟩,?_⟩
  dsimp only [t16]
  rw [upd8 (s1 0) (show (0:Int)=((0:Nat):Int) from rfl) rfl,upd8 (s1 1) (show (1:Int)=((1:Nat):Int) from rfl) rfl,upd8 (s1 2) (show (2:Int)=((2:Nat):Int) from rfl) rfl,upd8 (s1 3) (show (3:Int)=((3:Nat):Int) from rfl) rfl,
   upd8 (s1 4) (show (4:Int)=((4:Nat):Int) from rfl) rfl,upd8 (s1 5) (show (5:Int)=((5:Nat):Int) from rfl) rfl,upd8 (s1 6) (show (6:Int)=((6:Nat):Int) from rfl) rfl,upd8 (s1 7) (show (7:Int)=((7:Nat):Int) from rfl) rfl,
   upd8 (s2 0) (show (0:Int)=((0:Nat):Int) from rfl) rfl,upd8 (s2 1) (show (1:Int)=((1:Nat):Int) from rfl) rfl,upd8 (s2 2) (show (2:Int)=((2:Nat):Int) from rfl) rfl,upd8 (s2 3) (show (3:Int)=((3:Nat):Int) from rfl) rfl,
   upd8 (s2 4) (show (4:Int)=((4:Nat):Int) from rfl) rfl,upd8 (s2 5) (show (5:Int)=((5:Nat):Int) from rfl) rfl,upd8 (s2 6) (show (6:Int)=((6:Nat):Int) from rfl) rfl,upd8 (s2 7) (show (7:Int)=((7:Nat):Int) from rfl) rfl]) (by
  rintro fuel s ⟨v,rfl,hv⟩
  rw [e_impl_sumsOf_l1,m_impl_sumsOf_l1s]; simp only [nlt_dec,cond_false]) (zl u,0,t16 (fun _=>0) (fun _=>0)) ⟨u,rfl,u2⟩
 rw [show m_impl_sumsOf_l1 pts FUEL (zl u,0,0,0,0,0,0,0,0,0,0,0,0,0,0,0,0,0)=_ from h2]
 rfl
end
section
variable {ls:List Ln} {on:List Bool} {pts:List (Int×Int)} (h1:StOk (pts.length:Int) ls on) (h2:BusOk (pts.length:Int) ls pts)
include h1 h2
end
end Go.Proofs.YtjdlgannencchaaGreatDoor
namespace Go.Proofs.YtjdlgannencchaaGreatDoor
set_option linter.unusedVariables false
set_option linter.unusedSimpArgs false
def aliveL (E:Ed) (pts:List (Int×Int)):List Nat:=(List.range pts.length).filter fun b=>ltB 0 (sumE E pts (·.1) b)
theorem iAlive (b:Int) (ls:List Ln) (on:List Bool) (pts:List (Int×Int)) (hp : pts.length ≤ 1048576) : m_impl_AliveBuses b ls on pts=some (if okV b ls on pts then zl (aliveL (onE ls on) pts) else []):=by
 unfold m_impl_AliveBuses
 rw [iFed b ls pts hp,Option.bind_some]
 cases hv : okV b ls on pts
 ·rfl
 obtain ⟨h1,h2⟩:=okV_iff.1 hv
 obtain ⟨b1,b2⟩:=b_len h2
 obtain ⟨u,u1,u2⟩:=iUnion h1
 rw [b2] at u2
 simp only [cond_true,u1,Option.bind_some,iSums h1 h2,if_true]
 obtain ⟨s,⟨v,rfl,hv⟩,hh⟩:=loop_rel (m_impl_AliveBuses_l1 pts (t16 (sumK (onE ls on) pts (·.1) pts.length) (sumK (onE ls on) pts (·.2) pts.length))) (fun k s=>∃ v,s=(zl v,zl ((List.range k).filter fun b=>ltB 0 (sumE (onE ls on) pts (·.1) b)),(k:Int))∧UR v pts.length (labs (onE ls on))) pts.length (fun s=>some s.2.1) (by omega) (by
  rintro k fuel s hk ⟨v,rfl,hv⟩
  rw [e_impl_AliveBuses_l1,m_impl_AliveBuses_l1s]
  obtain ⟨x,x1,x2⟩:=iFindU hv (by omega) hk
  have hr : labs (onE ls on) k < 8:=by have:=hv.le hk; omega
  have hl:=List.length_filter_le (fun b=>ltB 0 (sumE (onE ls on) pts (·.1) b)) (List.range k)
  rw [List.length_range] at hl
  have ha : apB (zl ((List.range k).filter fun b=>ltB 0 (sumE (onE ls on) pts (·.1) b))).length ([(k:Int)]:List Int).length=true:=by rw [zl_len]; simp [apB]; omega
  dsimp only [t16]
  simp only [lt_dec hk,cond_true,Int.toNat_natCast,w64_succ (by omega : k < 4611686018427387904),x1,Option.bind_some,ix_dec hr,chk_true,get8 _ hr,ha]
  refine ⟨_,⟨x,rfl,x2⟩,?_⟩
  rw [List.range_succ,List.filter_append,List.filter_cons,List.filter_nil,sumE_K]
  cases hc : ltB 0 (sumK (onE ls on) pts (·.1) pts.length (labs (onE ls on) k))
  ·simp
  ·simp [zl]) (by
  rintro fuel s ⟨v,rfl,hv⟩
  rw [e_impl_AliveBuses_l1,m_impl_AliveBuses_l1s]; simp only [nlt_dec,cond_false]) (zl u,([]:List Int),0) ⟨u,rfl,u2⟩
 rw [hh]; rfl
section
variable {ls:List Ln} {on:List Bool} {pts:List (Int×Int)} (h1:StOk (pts.length:Int) ls on) (h2:BusOk (pts.length:Int) ls pts)
include h1 h2
end
end Go.Proofs.YtjdlgannencchaaGreatDoor
namespace Go.Proofs.YtjdlgannencchaaGreatDoor
set_option linter.unusedVariables false
set_option linter.unusedSimpArgs false
section
variable (l:Pm) (a b:Int) (hn : l.length ≤ 1099511627776)
include hn
theorem sFind : m_spec_l12Find l a b=some (fnd l (a,b)):=by
 unfold m_spec_l12Find fnd
 have h:=loop_first (m_spec_l12Find_l1 l a b) (fun k=>(k:Int)) l.length (fun k=>(l.getD k (0,0)).1 == a && (l.getD k (0,0)).2 == b) (fun k=>some (.inr (k:Int))) (some (.inl ())) hn (fun k fuel hk=>by
  rw [e_spec_l12Find_l1,m_spec_l12Find_l1s]
  simp only [lt_dec hk,ix_dec hk,chk_true,cond_true,Int.toNat_natCast,w64_succ (by omega : k < 4611686018427387904)]) (fun fuel=>by rw [e_spec_l12Find_l1,m_spec_l12Find_l1s]; simp only [nlt_dec,cond_false])
 rw [show m_spec_l12Find_l1 l a b FUEL 0=_ from h]
 cases (List.range l.length).find? (fun k=>(l.getD k (0,0)).1 == a && (l.getD k (0,0)).2 == b) <;> rfl
theorem iFind : m_slices_Index_impl_Permit_impl_Permit l a b=some (fnd l (a,b)):=by
 unfold m_slices_Index_impl_Permit_impl_Permit fnd
 have h:=loop_first (m_slices_Index_impl_Permit_impl_Permit_l1 l a b) (fun k=>(k:Int)) l.length (fun k=>(l.getD k (0,0)).1 == a && (l.getD k (0,0)).2 == b) (fun k=>some (.inr (k:Int))) (some (.inl ())) hn (fun k fuel hk=>by
  rw [e_slices_Index_impl_Permit_impl_Permit_l1,m_slices_Index_impl_Permit_impl_Permit_l1s]
  simp only [lt_dec hk,ix_dec hk,chk_true,cond_true,Int.toNat_natCast,w64_succ (by omega : k < 4611686018427387904)]
  rw [show (a == (l.getD k (0,0)).1)=((l.getD k (0,0)).1 == a) from Bool.beq_comm ..,show (b == (l.getD k (0,0)).2)=((l.getD k (0,0)).2 == b) from Bool.beq_comm ..]) (fun fuel=>by rw [e_slices_Index_impl_Permit_impl_Permit_l1,m_slices_Index_impl_Permit_impl_Permit_l1s]; simp only [nlt_dec,cond_false])
 rw [show m_slices_Index_impl_Permit_impl_Permit_l1 l a b FUEL 0=_ from h]
 cases (List.range l.length).find? (fun k=>(l.getD k (0,0)).1 == a && (l.getD k (0,0)).2 == b) <;> rfl
theorem iHas : m_slices_Contains_impl_Permit_impl_Permit l a b=some (decide ((a,b) ∈ l)):=by
 unfold m_slices_Contains_impl_Permit_impl_Permit
 rw [iFind l a b hn,Option.bind_some,fnd_mem]
end
section
variable (on earth:List Bool) (pm:Pm) (ho : on.length ≤ 1048576) (hp : pm.length ≤ 1048576) (hl : earth.length=on.length)
include ho hl
theorem sV1 : m_spec_WorkValid_l1 on earth FUEL 0=bif (List.range on.length).any (fun k=>on.getD k false && earth.getD k false) then some (.inr false) else some (.inl ()):=by
 have h:=loop_find (m_spec_WorkValid_l1 on earth) (fun k=>(k:Int)) on.length (fun k=>on.getD k false && earth.getD k false) (some (.inr false)) (some (.inl ())) (by omega) (fun k fuel hk=>?_) (fun fuel=>?_)
 ·exact h
 ·rw [e_spec_WorkValid_l1,m_spec_WorkValid_l1s]
  simp only [lt_dec hk,ix_dec hk,ix_dec (show k < earth.length by omega),chk_true,cond_true,Int.toNat_natCast,Bool.or_true,w64_succ (by omega : k < 4611686018427387904)]
 ·rw [e_spec_WorkValid_l1,m_spec_WorkValid_l1s]; simp only [nlt_dec,cond_false]
theorem iV1 : m_impl_WorkValid_l1 on earth FUEL 0=bif (List.range on.length).any (fun k=>on.getD k false && earth.getD k false) then some (.inr false) else some (.inl ()):=by
 have h:=loop_find (m_impl_WorkValid_l1 on earth) (fun k=>(k:Int)) on.length (fun k=>on.getD k false && earth.getD k false) (some (.inr false)) (some (.inl ())) (by omega) (fun k fuel hk=>?_) (fun fuel=>?_)
 ·exact h
 ·rw [e_impl_WorkValid_l1,m_impl_WorkValid_l1s]
  simp only [lt_dec hk,ix_dec hk,ix_dec (show k < earth.length by omega),chk_true,cond_true,Int.toNat_natCast,Bool.or_true,w64_succ (by omega : k < 4611686018427387904)]
 ·rw [e_impl_WorkValid_l1,m_impl_WorkValid_l1s]; simp only [nlt_dec,cond_false]
include hp
theorem sV2 : m_spec_WorkValid_l2 on earth pm FUEL 0=bif (List.range pm.length).any (fun k=>!pmOk on earth pm k) then some (.inr false) else some (.inl ()):=by
 have h:=loop_find (m_spec_WorkValid_l2 on earth pm) (fun k=>(k:Int)) pm.length (fun k=>!pmOk on earth pm k) (some (.inr false)) (some (.inl ())) (by omega) (fun k fuel hk=>?_) (fun fuel=>?_)
 ·exact h
 ·rw [e_spec_WorkValid_l2,m_spec_WorkValid_l2s]
  simp only [lt_dec hk,ix_dec hk,chk_true,cond_true,Int.toNat_natCast,w64_succ (by omega : k < 4611686018427387904),sFind pm _ _ (by omega),m_spec_l1In]
  have w1 : w64 ((on.length:Int) - 1)=(on.length:Int) - 1:=w64_in (by omega) (by omega)
  have hft:=fnd_take hk
  rw [w1]
  unfold pmOk
  rw [inB_le]
  generalize pm.getD k (0,0)=p at *
  cases h1:(leB 0 p.1 && leB p.1 9)
  ·simp [gb]
  have e2:(leB 0 p.2 && leB p.2 ((on.length:Int) - 1))=(decide (0 ≤ p.2) && decide (p.2 < (on.length:Int))):=by rw [Bool.eq_iff_iff]; simp [leB]; omega
  rw [e2]
  cases h2:(decide (0 ≤ p.2) && decide (p.2 < (on.length:Int)))
  ·simp [gb]
  have hx : ixB p.2 earth.length=true:=by simp at h2; simp [ixB]; omega
  simp only [gb,Option.bind_some,Bool.not_true,Bool.not_false,cond_true,Bool.or_self,hx,Bool.or_true,chk_true,Bool.false_or,Bool.true_and]
  cases earth.getD p.2.toNat false
  ·simp
  ·simp [hft]
 ·rw [e_spec_WorkValid_l2,m_spec_WorkValid_l2s]; simp only [nlt_dec,cond_false]
omit ho in
theorem iV2 : m_impl_WorkValid_l2 on earth pm FUEL 0=bif (List.range pm.length).any (fun k=>!pmOk on earth pm k) then some (.inr false) else some (.inl ()):=by
 have h:=loop_find (m_impl_WorkValid_l2 on earth pm) (fun k=>(k:Int)) pm.length (fun k=>!pmOk on earth pm k) (some (.inr false)) (some (.inl ())) (by omega) (fun k fuel hk=>?_) (fun fuel=>?_)
 ·exact h
 ·rw [e_impl_WorkValid_l2,m_impl_WorkValid_l2s]
  have hs : slB 0 (k:Int) pm.length=true:=decide_eq_true (by omega)
  have ht : subL pm 0 (k:Int)=pm.take k:=by simp [subL]
  simp only [lt_dec hk,ix_dec hk,chk_true,cond_true,Int.toNat_natCast,w64_succ (by omega : k < 4611686018427387904),hs,ht,Bool.or_true,iHas (pm.take k) _ _ (by simp; omega)]
  unfold pmOk
  rw [inB_le]
  generalize pm.getD k (0,0)=p
  rw [show ((p.1,p.2):Int×Int)=p from rfl]
  cases h1:(leB 0 p.1 && leB p.1 9)
  ·have:(ltB p.1 0 || ltB 9 p.1)=true:=by simp [leB] at h1; simp [ltB]; omega
   simp [gb,this]
  have e1:(ltB p.1 0 || ltB 9 p.1)=false:=by simp [leB] at h1; simp [ltB]; omega
  rw [e1]
  cases h2:(decide (0 ≤ p.2) && decide (p.2 < (on.length:Int)))
  ·have:(ltB p.2 0 || leB (on.length:Int) p.2)=true:=by simp at h2; simp [ltB,leB]; omega
   simp only [Bool.false_or,this,Bool.not_true,Bool.true_or,Bool.not_false,chk_true,gb,cond_false,Option.bind_some,cond_true,Bool.and_false,Bool.false_and]
  have e2:(ltB p.2 0 || leB (on.length:Int) p.2)=false:=by simp at h2; simp [ltB,leB]; omega
  have hx : ixB p.2 earth.length=true:=by simp at h2; simp [ixB]; omega
  simp only [Bool.false_or,e2,gb,Option.bind_some,Bool.not_true,Bool.not_false,cond_true,Bool.or_self,hx,Bool.or_true,chk_true,Bool.true_and]
  cases earth.getD p.2.toNat false <;> simp
 ·rw [e_impl_WorkValid_l2,m_impl_WorkValid_l2s]; simp only [nlt_dec,cond_false]
end
section
variable (on earth:List Bool) (pm:Pm) (ho : on.length ≤ 1048576) (hp : pm.length ≤ 1048576)
include ho hp
theorem sValid : m_spec_WorkValid on earth pm=some (workV on earth pm):=by
 unfold m_spec_WorkValid m_spec_l1In workV
 rw [inB_le,lt6,bne_len]
 cases h1:(leB 1 (on.length:Int) && leB (on.length:Int) 10)
 ·simp
 by_cases h2 : earth.length=on.length
 ·rw [show (earth.length == on.length)=true by simpa using h2,show (on.length == earth.length)=true by simpa using h2.symm]
  cases h3 : decide (pm.length ≤ 6)
  ·simp
  simp only [Option.bind_some,Bool.not_true,Bool.or_self,cond_false,sV1 on earth ho h2,sV2 on earth pm ho hp h2,Bool.true_and]
  cases (List.range on.length).any fun k=>on.getD k false && earth.getD k false
  ·cases (List.range pm.length).any fun k=>!pmOk on earth pm k <;> rfl
  ·rfl
 ·rw [show (earth.length == on.length)=false by simpa using h2,show (on.length == earth.length)=false by simpa using fun e=>h2 e.symm]
  simp
theorem iValid : m_impl_WorkValid on earth pm=some (workV on earth pm):=by
 unfold m_impl_WorkValid workV
 rw [inB10,lt6,bne_len]
 cases h1 : ltB (on.length:Int) 1
 ·cases h4 : ltB 10 (on.length:Int)
  ·by_cases h2 : earth.length=on.length
   ·rw [show (earth.length == on.length)=true by simpa using h2]
    cases h3 : decide (pm.length ≤ 6)
    ·simp
    simp only [Option.bind_some,Bool.not_true,Bool.not_false,Bool.or_self,cond_false,iV1 on earth ho h2,iV2 on earth pm hp h2,Bool.true_and]
    cases (List.range on.length).any fun k=>on.getD k false && earth.getD k false
    ·cases (List.range pm.length).any fun k=>!pmOk on earth pm k <;> rfl
    ·rfl
   ·rw [show (earth.length == on.length)=false by simpa using h2]
    simp
  ·simp
 ·simp
end
end Go.Proofs.YtjdlgannencchaaGreatDoor
namespace Go.Proofs.YtjdlgannencchaaGreatDoor
set_option linter.unusedVariables false
set_option linter.unusedSimpArgs false
theorem brAt_0 (on:List Bool) (br:List Int) : brAt on br 0=((decide (0 ≤ br.getD 0 0) && decide (br.getD 0 0 < (on.length:Int))) && !on.getD (br.getD 0 0).toNat false):=by
 unfold brAt; simp
theorem brAt_s (on:List Bool) (br:List Int) (j:Nat) : brAt on br (j+1)=((decide (0 ≤ br.getD (j+1) 0) && decide (br.getD (j+1) 0 < (on.length:Int))) && !on.getD (br.getD (j+1) 0).toNat false && !leB (br.getD (j+1) 0) (br.getD j 0)):=by
 unfold brAt
 have : decide (br.getD j 0 < br.getD (j+1) 0)=!leB (br.getD (j+1) 0) (br.getD j 0):=by rw [Bool.eq_iff_iff]; simp [leB]
 simp only [Nat.add_sub_cancel,this]
 have e : decide (j+1=0)=false:=by simp
 rw [e,Bool.false_or]
section
variable (b:Int) (ls:List Ln) (pts:List (Int×Int)) (on earth:List Bool) (pm:Pm) (br:List Int) (hp : pts.length ≤ 1048576) (ho : on.length ≤ 1048576) (hm : pm.length ≤ 1048576) (hb : br.length ≤ 1048576)
include hb
theorem iBr (hl : on.length=ls.length) : m_impl_WorldValid_l1 b ls on br FUEL 0=bif (List.range br.length).any (fun k=>!brAt on br k) then some (.inr false) else some (.inl ()):=by
 have hh:=loop_find (m_impl_WorldValid_l1 b ls on br) (fun k=>(k:Int)) br.length (fun k=>!brAt on br k) (some (.inr false)) (some (.inl ())) (by omega) (fun k fuel hk=>?_) (fun fuel=>?_)
 ·exact hh
 ·rw [e_impl_WorldValid_l1,m_impl_WorldValid_l1s]
  simp only [lt_dec hk,ix_dec hk,cond_true,chk_true,Int.toNat_natCast,m_impl_Net_hasLine,Option.bind_some,w64_succ (by omega : k < 4611686018427387904)]
  have e1:(leB 0 (br.getD k 0) && ltB (br.getD k 0) (ls.length:Int))=(decide (0 ≤ br.getD k 0) && decide (br.getD k 0 < (on.length:Int))):=by rw [hl]; rfl
  rw [e1]
  have hx:(decide (0 ≤ br.getD k 0) && decide (br.getD k 0 < (on.length:Int)))=true → ixB (br.getD k 0) on.length=true:=by intro h; simp at h; simp [ixB]; omega
  rcases k with _ | j
  ·rw [brAt_0]
   have : ltB 0 ((0:Nat):Int)=false:=rfl
   simp only [this,Bool.and_false,Bool.not_false,Bool.true_or,chk_true,Bool.or_false]
   cases h1 : decide (0 ≤ br.getD 0 0) && decide (br.getD 0 0 < (on.length:Int))
   ·rfl
   ·rw [hx h1]
    cases on.getD (br.getD 0 0).toNat false <;> rfl
  ·rw [brAt_s]
   have e2 : w64 (((j+1:Nat):Int) - 1)=(j:Int):=by rw [w64_in (by omega) (by omega)]; omega
   have e3 : ltB 0 ((j+1:Nat):Int)=true:=decide_eq_true (by omega)
   simp only [e2,e3,ix_dec (show j < br.length by omega),Bool.or_true,chk_true,Bool.true_and,Int.toNat_natCast]
   cases h1 : decide (0 ≤ br.getD (j+1) 0) && decide (br.getD (j+1) 0 < (on.length:Int))
   ·rfl
   ·rw [hx h1]
    cases on.getD (br.getD (j+1) 0).toNat false <;> cases leB (br.getD (j+1) 0) (br.getD j 0) <;> rfl
 ·rw [e_impl_WorldValid_l1,m_impl_WorldValid_l1s]; simp only [nlt_dec,cond_false]
include ho in
theorem sBr : m_spec_WorldValid_l1 on br FUEL 0=bif (List.range br.length).any (fun k=>!brAt on br k) then some (.inr false) else some (.inl ()):=by
 have hh:=loop_find (m_spec_WorldValid_l1 on br) (fun k=>(k:Int)) br.length (fun k=>!brAt on br k) (some (.inr false)) (some (.inl ())) (by omega) (fun k fuel hk=>?_) (fun fuel=>?_)
 ·exact hh
 ·rw [e_spec_WorldValid_l1,m_spec_WorldValid_l1s]
  have w1 : w64 ((on.length:Int) - 1)=(on.length:Int) - 1:=w64_in (by omega) (by omega)
  simp only [lt_dec hk,ix_dec hk,cond_true,chk_true,Int.toNat_natCast,m_spec_l1In,Option.bind_some,w64_succ (by omega : k < 4611686018427387904),w1]
  have e1:(leB 0 (br.getD k 0) && leB (br.getD k 0) ((on.length:Int) - 1))=(decide (0 ≤ br.getD k 0) && decide (br.getD k 0 < (on.length:Int))):=by rw [Bool.eq_iff_iff]; simp [leB]; omega
  rw [e1]
  have hx:(decide (0 ≤ br.getD k 0) && decide (br.getD k 0 < (on.length:Int)))=true → ixB (br.getD k 0) on.length=true:=by intro h; simp at h; simp [ixB]; omega
  rcases k with _ | j
  ·rw [brAt_0]
   have : ltB 0 ((0:Nat):Int)=false:=rfl
   simp only [this,Bool.and_false,Bool.not_false,Bool.true_or,chk_true,Bool.or_false,Bool.false_and]
   cases h1 : decide (0 ≤ br.getD 0 0) && decide (br.getD 0 0 < (on.length:Int))
   ·rfl
   ·rw [hx h1]
    cases on.getD (br.getD 0 0).toNat false <;> simp
  ·rw [brAt_s]
   have e2 : w64 (((j+1:Nat):Int) - 1)=(j:Int):=by rw [w64_in (by omega) (by omega)]; omega
   have e3 : ltB 0 ((j+1:Nat):Int)=true:=decide_eq_true (by omega)
   simp only [e2,e3,ix_dec hk,ix_dec (show j < br.length by omega),Bool.or_true,chk_true,Bool.true_and,Int.toNat_natCast]
   cases h1 : decide (0 ≤ br.getD (j+1) 0) && decide (br.getD (j+1) 0 < (on.length:Int))
   ·rfl
   ·rw [hx h1]
    cases on.getD (br.getD (j+1) 0).toNat false <;> cases leB (br.getD (j+1) 0) (br.getD j 0) <;> rfl
 ·rw [e_spec_WorldValid_l1,m_spec_WorldValid_l1s]; simp only [nlt_dec,cond_false]
include hp ho hm
theorem iWv : m_impl_WorldValid b ls pts on earth pm br=some (wv ⟨b,ls,pts,on,earth,pm,br⟩):=by
 unfold m_impl_WorldValid wv brV
 rw [iBuses b ls pts hp,iValid on earth pm ho hm]
 have e:((on.length:Int) != (ls.length:Int))=!decide (on.length=ls.length):=by rw [Bool.eq_iff_iff]; simp; omega
 rw [e]
 cases h1 : busesV b ls pts
 ·rfl
 cases h2 : workV on earth pm
 ·rfl
 by_cases h3 : on.length=ls.length
 ·rw [decide_eq_true h3]
  simp only [Option.bind_some,Bool.not_true,Bool.not_false,gb_true,Bool.or_self,cond_false,iBr b ls on br hb h3,iRadial b ls on pts hp]
  have hok : radB b ls on pts=radP ls on pts:=by
   have:=busesV_iff.1 h1
   unfold radB
   rw [okV_iff.2 ⟨⟨this.net,h3⟩,this⟩]; rfl
  rw [hok]
  cases (List.range br.length).any fun k=>!brAt on br k <;> cases radP ls on pts <;> rfl
 ·rw [decide_eq_false h3]; simp
theorem sWv : m_spec_WorldValid b ls pts on earth pm br=some (wv ⟨b,ls,pts,on,earth,pm,br⟩):=by
 unfold m_spec_WorldValid wv brV
 rw [sBuses b ls pts hp,sValid on earth pm ho hm]
 have e:((on.length:Int) != (ls.length:Int))=!decide (on.length=ls.length):=by rw [Bool.eq_iff_iff]; simp; omega
 rw [e]
 cases h1 : busesV b ls pts
 ·rfl
 cases h2 : workV on earth pm
 ·rfl
 by_cases h3 : on.length=ls.length
 ·rw [decide_eq_true h3]
  simp only [Option.bind_some,Bool.not_true,Bool.not_false,gb_true,Bool.or_self,cond_false,sBr on br ho hb,sRadial b ls on pts hp]
  have hok : radB b ls on pts=radP ls on pts:=by
   have:=busesV_iff.1 h1
   unfold radB
   rw [okV_iff.2 ⟨⟨this.net,h3⟩,this⟩]; rfl
  rw [hok]
  cases (List.range br.length).any fun k=>!brAt on br k <;> cases radP ls on pts <;> rfl
 ·rw [decide_eq_false h3]; simp
end
end Go.Proofs.YtjdlgannencchaaGreatDoor
namespace Go.Proofs.YtjdlgannencchaaGreatDoor
set_option linter.unusedVariables false
set_option linter.unusedSimpArgs false
def darkL (w:Wd):List Nat:=(List.range w.pts.length).filter fun k=>ltB 0 (w.pts.getD k (0,0)).2 && !ltB 0 (sumE (onE w.ls w.on) w.pts (·.1) k)
theorem iIdxI (l:List Int) (x:Int) (hl : l.length ≤ 1099511627776) : ∃ z,m_slices_Index_int_int l x=some z∧leB 0 z=decide (x ∈ l):=by
 unfold m_slices_Index_int_int
 have h:=loop_first (m_slices_Index_int_int_l1 l x) (fun k=>(k:Int)) l.length (fun k=>x == l.getD k 0) (fun k=>some (.inr (k:Int))) (some (.inl ())) hl (fun k fuel hk=>by
  rw [e_slices_Index_int_int_l1,m_slices_Index_int_int_l1s]
  simp only [lt_dec hk,ix_dec hk,chk_true,cond_true,Int.toNat_natCast,w64_succ (by omega : k < 4611686018427387904)]) (fun fuel=>by rw [e_slices_Index_int_int_l1,m_slices_Index_int_int_l1s]; simp only [nlt_dec,cond_false])
 rw [show m_slices_Index_int_int_l1 l x FUEL 0=_ from h]
 cases hf:(List.range l.length).find? (fun k=>x == l.getD k 0) with
 | none =>
  refine ⟨_,rfl,?_⟩
  have : x ∉ l:=fun hx=>by
   obtain ⟨k,hk,rfl⟩:=List.mem_iff_getElem.1 hx
   have:=List.find?_eq_none.1 hf k (by simpa using hk)
   rw [getD_ge hk] at this
   simp at this
  rw [decide_eq_false this]; rfl
 | some k =>
  obtain ⟨h1,h2,_⟩:=List.find?_range_eq_some.1 hf
  have hk : k < l.length:=by simpa using h2
  refine ⟨_,rfl,?_⟩
  have : x ∈ l:=by
   rw [beq_iff_eq] at h1
   rw [h1,getD_ge hk]; exact List.getElem_mem hk
  rw [decide_eq_true this]; simp [leB]
theorem iHasI (l:List Int) (x:Int) (hl : l.length ≤ 1099511627776) : m_slices_Contains_int_int l x=some (decide (x ∈ l)):=by
 obtain ⟨z,h1,h2⟩:=iIdxI l x hl
 unfold m_slices_Contains_int_int
 rw [h1,Option.bind_some,h2]
theorem alive_mem {E:Ed} {pts:List (Int×Int)} {k:Nat} (hk : k < pts.length) : decide ((k:Int) ∈ zl (aliveL E pts))=ltB 0 (sumE E pts (·.1) k):=by
 rw [Bool.eq_iff_iff,decide_eq_true_eq,zl_mem]
 simp [aliveL,hk]
section
variable (b:Int) (ls:List Ln) (pts:List (Int×Int)) (on earth:List Bool) (pm:Pm) (br:List Int) (hp : pts.length ≤ 1048576) (ho : on.length ≤ 1048576) (hm : pm.length ≤ 1048576) (hb : br.length ≤ 1048576)
include hp ho hm hb
theorem iDark : m_impl_WorldDark b ls pts on earth pm br=some (if wv ⟨b,ls,pts,on,earth,pm,br⟩ then zl (darkL ⟨b,ls,pts,on,earth,pm,br⟩) else []):=by
 unfold m_impl_WorldDark
 rw [iWv b ls pts on earth pm br hp ho hm hb,Option.bind_some]
 cases hv : wv ⟨b,ls,pts,on,earth,pm,br⟩
 ·rfl
 have hw:=wv_iff.1 hv
 have hok : okV b ls on pts=true:=okV_iff.2 ⟨⟨hw.bus.net,hw.len⟩,hw.bus⟩
 simp only [cond_true,iAlive b ls on pts hp,hok,if_true,Option.bind_some]
 have hal:(zl (aliveL (onE ls on) pts)).length ≤ 1099511627776:=by
  rw [zl_len]; unfold aliveL
  have:=List.length_filter_le (fun b=>ltB 0 (sumE (onE ls on) pts (·.1) b)) (List.range pts.length)
  rw [List.length_range] at this; omega
 have hh:=loop_filter (m_impl_WorldDark_l1 pts (zl (aliveL (onE ls on) pts))) pts.length (fun k=>ltB 0 (pts.getD k (0,0)).2 && !ltB 0 (sumE (onE ls on) pts (·.1) k)) some (by omega) (fun k fuel l hk ha=>?_) (fun fuel l=>?_)
 ·rw [hh]; rfl
 ·rw [e_impl_WorldDark_l1,m_impl_WorldDark_l1s]
  simp only [lt_dec hk,ix_dec hk,chk_true,cond_true,Int.toNat_natCast,iHasI _ _ hal,alive_mem hk,ha,w64_succ (by omega : k < 4611686018427387904)]
  cases ltB 0 (pts.getD k (0,0)).2
  ·rfl
  ·cases ltB 0 (sumE (onE ls on) pts (·.1) k) <;> rfl
 ·rw [e_impl_WorldDark_l1,m_impl_WorldDark_l1s]; simp only [nlt_dec,cond_false]
end
end Go.Proofs.YtjdlgannencchaaGreatDoor
namespace Go.Proofs.YtjdlgannencchaaGreatDoor
set_option linter.unusedVariables false
set_option linter.unusedSimpArgs false
section
variable {σ:Type} (good : σ → Bool) (sv : σ → Int) (ch : σ → Nat)
def better (s:Int) (c:Nat):Option σ → Bool
 | none=>true
 | some y=>decide (sv y < s) || (decide (sv y=s) && decide (c < ch y))
def bstep (a:Option σ) (x : σ):Option σ:=if good x && better sv ch (sv x) (ch x) a then some x else a
def bestOf (l:List σ):Option σ:=l.foldl (bstep good sv ch) none
theorem bestOf_snoc (l:List σ) (x : σ) : bestOf good sv ch (l++[x])=bstep good sv ch (bestOf good sv ch l) x:=by unfold bestOf; rw [List.foldl_append]; rfl
theorem bestOf_spec (l:List σ):(∀ x ∈ l,good x=true → ∃ y,bestOf good sv ch l=some y)∧∀ y,bestOf good sv ch l=some y → (y ∈ l∧good y=true)∧∀ x ∈ l,good x=true → sv x < sv y ∨ (sv x=sv y∧ch y ≤ ch x):=by
 refine rev_ind (P:=fun l=>(∀ x ∈ l,good x=true → ∃ y,bestOf good sv ch l=some y)∧∀ y,bestOf good sv ch l=some y → (y ∈ l∧good y=true)∧∀ x ∈ l,good x=true → sv x < sv y ∨ (sv x=sv y∧ch y ≤ ch x)) ?_ ?_ l
 ·exact ⟨fun x hx=>by simp at hx,fun y hy=>by cases hy⟩
 ·intro l a ih
  rw [bestOf_snoc]
  unfold bstep
  cases hg : good a
  ·rw [Bool.false_and,if_neg (by decide)]
   refine ⟨fun x hx hgx=>?_,fun y hy=>?_⟩
   ·rcases List.mem_append.1 hx with hx | hx
    ·exact ih.1 x hx hgx
    ·obtain rfl : x=a:=by simpa using hx
     rw [hg] at hgx; cases hgx
   ·obtain ⟨⟨h1,h2⟩,h3⟩:=ih.2 y hy
    refine ⟨⟨by simp [h1],h2⟩,fun x hx hgx=>?_⟩
    rcases List.mem_append.1 hx with hx | hx
    ·exact h3 x hx hgx
    ·obtain rfl : x=a:=by simpa using hx
     rw [hg] at hgx; cases hgx
  ·rw [Bool.true_and]
   cases hb : bestOf good sv ch l with
   | none =>
    rw [if_pos (show better sv ch (sv a) (ch a) none=true from rfl)]
    refine ⟨fun _ _ _=>⟨a,rfl⟩,fun y hy=>?_⟩
    obtain rfl : a=y:=Option.some.inj hy
    refine ⟨⟨by simp,hg⟩,fun x hx hgx=>?_⟩
    rcases List.mem_append.1 hx with hx | hx
    ·obtain ⟨y,hy⟩:=ih.1 x hx hgx
     rw [hb] at hy; cases hy
    ·obtain rfl : x=a:=by simpa using hx
     exact .inr ⟨rfl,Nat.le_refl _⟩
   | some z =>
    obtain ⟨⟨h1,h2⟩,h3⟩:=ih.2 z hb
    split
    ·rename_i hbet
     simp only [better,Bool.or_eq_true,Bool.and_eq_true,decide_eq_true_eq] at hbet
     refine ⟨fun _ _ _=>⟨a,rfl⟩,fun y hy=>?_⟩
     obtain rfl : a=y:=Option.some.inj hy
     refine ⟨⟨by simp,hg⟩,fun x hx hgx=>?_⟩
     rcases List.mem_append.1 hx with hx | hx
     ·have:=h3 x hx hgx; omega
     ·obtain rfl : x=a:=by simpa using hx
      exact .inr ⟨rfl,Nat.le_refl _⟩
    ·rename_i hbet
     simp only [better,Bool.or_eq_true,Bool.and_eq_true,decide_eq_true_eq] at hbet
     refine ⟨fun _ _ _=>⟨z,rfl⟩,fun y hy=>?_⟩
     obtain rfl : z=y:=Option.some.inj hy
     refine ⟨⟨by simp [h1],h2⟩,fun x hx hgx=>?_⟩
     rcases List.mem_append.1 hx with hx | hx
     ·exact h3 x hx hgx
     ·obtain rfl : x=a:=by simpa using hx
      omega
end
def stOf (n num:Nat):List Bool:=(List.range n).map fun k=>num.testBit k
theorem stOf_len (n num:Nat):(stOf n num).length=n:=by simp [stOf]
theorem stOf_get {n num k:Nat} (h : k < n):(stOf n num).getD k false=num.testBit k:=by simp [stOf,List.getD,h]
def numOf:List Bool → Nat
 | []=>0
 | b :: l=>2 * numOf l+b.toNat
theorem numOf_bit : ∀ (l:List Bool) (k:Nat),(numOf l).testBit k=l.getD k false
 | [],k=>by simp [numOf]
 | b :: l,0=>by cases b <;> simp [numOf,Nat.testBit_zero] <;> omega
 | b :: l,k+1=>by
  rw [Nat.testBit_succ,List.getD_cons_succ,← numOf_bit l k]
  congr 1
  cases b <;> simp [numOf] <;> omega
theorem numOf_lt : ∀ l:List Bool,numOf l < 2 ^ l.length
 | []=>by simp [numOf]
 | b :: l=>by
  have:=numOf_lt l
  have hb : b.toNat ≤ 1:=by cases b <;> simp
  rw [List.length_cons,Nat.pow_succ]; simp only [numOf]; omega
theorem stOf_numOf (l:List Bool) : stOf l.length (numOf l)=l:=by
 apply List.ext_getElem (by simp [stOf])
 intro i h1 h2
 have:=stOf_get (num:=numOf l) h2
 rw [getD_ge h1,numOf_bit,getD_ge h2] at this
 exact this
def states (n:Nat):List (List Bool):=(List.range (2 ^ n)).map (stOf n)
theorem states_mem {n:Nat} {l:List Bool} : l ∈ states n ↔ l.length=n:=by
 unfold states
 rw [List.mem_map]
 constructor
 ·rintro ⟨k,_,rfl⟩; exact stOf_len _ _
 ·rintro rfl; exact ⟨numOf l,by simpa using numOf_lt l,stOf_numOf l⟩
def servP (E:Ed) (pts:List (Int×Int)):Int:=((List.range pts.length).map fun b=>if sumE E pts (·.2) b ≤ sumE E pts (·.1) b then (pts.getD b (0,0)).2 else 0).sum
def goodP (ls:List Ln) (on:List Bool) (pts:List (Int×Int)):Bool :=
 radP ls on pts && (!(List.range ls.length).any fun k=>decide ((ls.getD k (0,0,0)).2.2 < flowP ls on pts k)) && !(List.range pts.length).any fun b=>feedA pts b && decide ((pts.getD b (0,0)).1 < sumE (onE ls on) pts (·.2) b)
theorem good_rad {ls:List Ln} {on:List Bool} {pts:List (Int×Int)} (h : goodP ls on pts=true) : radP ls on pts=true:=by
 unfold goodP at h
 rw [Bool.and_eq_true,Bool.and_eq_true] at h
 exact h.1.1
def chgs (a b:List Bool):List Nat:=(List.range a.length).filter fun k=>a.getD k false != b.getD k false
theorem chgs_nil {a b:List Bool} (hl : a.length=b.length) (h:(chgs a b).length=0) : a=b:=by
 have h0 : chgs a b=[]:=List.eq_nil_of_length_eq_zero h
 apply List.ext_getElem hl
 intro i h1 h2
 have:=List.filter_eq_nil_iff.1 h0 i (by simpa using h1)
 rw [getD_ge h1,getD_ge h2] at this
 simpa using this
theorem chgs_self (a:List Bool):(chgs a a).length=0:=by simp [chgs]
def bestP (ls:List Ln) (on:List Bool) (pts:List (Int×Int)):Option (List Bool):=bestOf (fun x=>goodP ls x pts) (fun x=>servP (onE ls x) pts) (fun x=>(chgs on x).length) (states ls.length)
theorem bestP_good {ls:List Ln} {on x:List Bool} {pts:List (Int×Int)} (h : bestP ls on pts=some x) : x.length=ls.length∧goodP ls x pts=true:=by
 have:=((bestOf_spec _ _ _ _).2 x h).1
 exact ⟨states_mem.1 this.1,this.2⟩
theorem bestP_self {ls:List Ln} {on x:List Bool} {pts:List (Int×Int)} (h : bestP ls on pts=some x) : bestP ls x pts=some x:=by
 obtain ⟨⟨h1,h2⟩,h3⟩:=(bestOf_spec _ _ _ _).2 x h
 obtain ⟨y,hy⟩:=(bestOf_spec (fun y=>goodP ls y pts) (fun x=>servP (onE ls x) pts) (fun z=>(chgs x z).length) (states ls.length)).1 x h1 h2
 obtain ⟨⟨g1,g2⟩,g3⟩:=(bestOf_spec _ _ _ _).2 y hy
 have e1:=h3 y g1 g2
 have e2:=g3 x h1 h2
 rw [chgs_self] at e2
 have : x=y:=chgs_nil ((states_mem.1 h1).trans (states_mem.1 g1).symm) (by omega)
 rw [this] at hy ⊢
 exact hy
def offsTo (on x:List Bool) (k:Nat):List Dd:=((List.range k).filter fun i=>on.getD i false && !x.getD i false).map fun (i:Nat)=>(1,(i:Int),0)
def onsTo (on x:List Bool) (k:Nat):List Dd:=((List.range k).filter fun i=>x.getD i false && !on.getD i false).map fun (i:Nat)=>(0,(i:Int),0)
def fixOf (earth:List Bool) (br:List Int):List Dd:=br.flatMap fun l=>(if earth.getD l.toNat false then [] else [(2,l,0)])++[(4,l,0),(7,l,0),(5,l,0)]
def earthd (earth:List Bool) (br:List Int):List Bool:=br.foldl (fun e l=>e.set l.toNat true) earth
def stepsTo (on:List Bool) (x:Option (List Bool)):List Dd :=
 match x with
 | none=>[]
 | some x=>offsTo on x on.length++onsTo on x on.length
def healP (w:Wd):List Dd:=retsOf w.pm++fixOf w.earth w.br++forOf 3 (earthd w.earth w.br) true w.on.length++stepsTo w.on (bestP w.ls w.on w.pts)
theorem earthd_len (br:List Int) : ∀ earth:List Bool,(earthd earth br).length=earth.length:=by
 induction br with
 | nil=>intro e; rfl
 | cons l br ih=>intro e; show (earthd (e.set l.toNat true) br).length=_; rw [ih]; simp
theorem rets_kind {pm:Pm} : ∀ d ∈ retsOf pm,d.1 ≠ 0∧d.1 ≠ 6∧d.1 ≠ 7:=by
 intro d hd
 obtain ⟨p,_,rfl⟩:=List.mem_map.1 hd
 exact ⟨by show (5:Int) ≠ 0; decide,by show (5:Int) ≠ 6; decide,by show (5:Int) ≠ 7; decide⟩
theorem for_kind {kd:Int} {l:List Bool} {b:Bool} : ∀ {k:Nat},∀ d ∈ forOf kd l b k,d.1=kd
 | 0,d,hd=>by simp [forOf] at hd
 | k+1,d,hd=>by
  simp only [forOf] at hd
  split at hd
  ·rcases List.mem_append.1 hd with hd | hd
   ·exact for_kind d hd
   ·obtain rfl : d=_:=by simpa using hd
    rfl
  ·exact for_kind d hd
theorem step_one {w : Wd} (h : WdOk w) (c : Int) {kd a who : Int} (hk : kd ≠ 0 ∧ kd ≠ 6 ∧ kd ≠ 7) (ha : 0 ≤ a ∧ a < (w.on.length : Int)) (hm : wkMay w.wk kd a who = true) : wdStep (c, w) (kd, a, who) = (c + 1, w.put (wkPut w.wk kd a who)) := by
  have := wd_lift [(kd, a, who)] (fun d hd => by obtain rfl : d = _ := by simpa using hd
                                                 exact hk) c w h
  rw [List.foldl_cons, List.foldl_nil, List.foldl_cons, List.foldl_nil, step_true (s := (c, w.wk)) h.work ha hm] at this
  exact this
theorem heal_rets {w:Wd} (h:WdOk w) (c:Int):(retsOf w.pm).foldl wdStep (c,w)=(c+((retsOf w.pm).length:Int),w.put (w.on,w.earth,[])):=by
 rw [wd_lift _ rets_kind _ _ h,show w.wk=(w.on,w.earth,w.pm) from rfl,rets_run w.pm c w.on w.earth h.work]
 simp [retsOf]
theorem fix_len (earth:List Bool) (l:Int) (br:List Int) : fixOf earth (l :: br)=((if earth.getD l.toNat false then [] else [(2,l,0)])++[(4,l,0),(7,l,0),(5,l,0)])++fixOf earth br:=rfl
theorem fix_set {earth:List Bool} {l:Int} {br:List Int} (h : ∀ x ∈ br,x.toNat ≠ l.toNat) : fixOf (earth.set l.toNat true) br=fixOf earth br:=by
 unfold fixOf
 induction br with
 | nil=>rfl
 | cons x br ih =>
  rw [List.flatMap_cons,List.flatMap_cons,ih fun y hy=>h y (by simp [hy]),gset_ne (Ne.symm (h x (by simp)))]
theorem set_true_self {l:List Bool} {k:Nat} (h : l.getD k false=true) : l.set k true=l:=by
 rcases Nat.lt_or_ge k l.length with hk | hk
 ·rw [getD_ge hk] at h
  have:=List.set_getElem_self hk
  rwa [h] at this
 ·rw [gout hk] at h; cases h
theorem do_mend {w:Wd} (h:WdOk w) {a who:Int} (ha : 0 ≤ a∧a < (w.on.length:Int)) (hb : a ∈ w.br) (hp:(who,a) ∈ w.pm) : wdDo w 7 a who=({ w with br:=w.br.filter fun x=>x != a },true):=by
 unfold wdDo
 rw [if_pos (wv_iff.2 h),if_pos ha,if_neg (fun g=>absurd g.1 (by decide)),if_pos ⟨rfl,hb,hp⟩]
theorem do_on {w:Wd} (h:WdOk w) {a who:Int} (ha : 0 ≤ a∧a < (w.on.length:Int)) (hb : a ∉ w.br) {k:Wk} (hd : wkDo w.wk 0 a who=(k,true)) (hr : radP w.ls k.1 w.pts=true) : wdDo w 0 a who=(w.put k,true):=by
 unfold wdDo
 rw [if_pos (wv_iff.2 h),if_pos ha,if_neg (fun g=>absurd g.1 (by decide)),if_neg (fun g=>absurd g.1 (by decide)),if_neg (fun g=>hb g.2),hd,if_pos ⟨rfl,hr⟩]
theorem heal_fix1 {w : Wd} (h : WdOk w) (hp : w.pm = []) {l : Int} {br : List Int} (hb : w.br = l :: br) (c : Int) :
    ((if w.earth.getD l.toNat false then [] else [((2 : Int), l, (0 : Int))]) ++ [(4, l, 0), (7, l, 0), (5, l, 0)]).foldl wdStep (c, w) = (c + ((((if w.earth.getD l.toNat false then [] else [((2 : Int), l, (0 : Int))]) ++ [(4, l, 0), (7, l, 0), (5, l, 0)] : List Dd)).length : Int), { w with earth := w.earth.set l.toNat true, br := br }) := by
  have hl := h.inn l (by rw [hb]; simp)
  have hlt : l.toNat < w.earth.length := by have := h.work.le; simp only [Wd.wk] at this; omega
  -- the state with the line earthed
  have step1 : ∀ c, (if w.earth.getD l.toNat false then [] else [((2 : Int), l, (0 : Int))]).foldl wdStep (c, w) = (c + (((if w.earth.getD l.toNat false then [] else [((2 : Int), l, (0 : Int))] : List Dd)).length : Int), { w with earth := w.earth.set l.toNat true }) := by
    intro c
    cases he : w.earth.getD l.toNat false
    · simp only [Bool.false_eq_true, if_false]
      have hm : wkMay w.wk 2 l 0 = true := by
        show (!w.on.getD l.toNat false && !w.earth.getD l.toNat false) = true
        rw [hl.2, he]; rfl
      rw [wd_lift [(2, l, 0)] (fun d hd => by obtain rfl : d = _ := by simpa using hd
                                              exact ⟨by show (2 : Int) ≠ 0; decide, by show (2 : Int) ≠ 6; decide, by show (2 : Int) ≠ 7; decide⟩) _ _ h]
      rw [List.foldl_cons, List.foldl_nil, step_true (s := (c, w.wk)) h.work hl.1 hm]
      rfl
    · simp only [if_true, List.foldl_nil, List.length_nil]
      rw [set_true_self he]; simp
  rw [List.foldl_append, step1]
  have h1 : WdOk { w with earth := w.earth.set l.toNat true } := by
    have := wdFold_ok (if w.earth.getD l.toNat false then [] else [((2 : Int), l, (0 : Int))]) (s := ((0 : Int), w)) h
    rw [step1] at this
    exact this
  generalize hc1 : c + (((if w.earth.getD l.toNat false then [] else [((2 : Int), l, (0 : Int))] : List Dd)).length : Int) = c1
  have hlen : (((if w.earth.getD l.toNat false then [] else [((2 : Int), l, (0 : Int))]) ++ [(4, l, 0), (7, l, 0), (5, l, 0)] : List Dd)).length = (((if w.earth.getD l.toNat false then [] else [((2 : Int), l, (0 : Int))] : List Dd)).length) + 3 := by rw [List.length_append]; rfl
  rw [hlen]
  clear step1
  generalize hw1 : ({ w with earth := w.earth.set l.toNat true } : Wd) = w1 at h1
  have e1 : w1.earth.getD l.toNat false = true := by subst hw1; exact gset hlt
  have e2 : w1.pm = [] := by subst hw1; exact hp
  have e3 : w1.br = l :: br := by subst hw1; exact hb
  have e4 : w1.on = w.on := by subst hw1; rfl
  have hl1 : (0 ≤ l ∧ l < (w1.on.length : Int)) := by rw [e4]; exact hl.1
  -- a permit
  have hm4 : wkMay w1.wk 4 l 0 = true := by
    show (w1.earth.getD l.toNat false && (inB 0 0 9 && !decide ((0, l) ∈ w1.pm) && decide (w1.pm.length < 6))) = true
    rw [e1, e2]; rfl
  have s4 : wdStep (c1, w1) (4, l, 0) = (c1 + 1, w1.put (w1.on, w1.earth, [(0, l)])) := by
    have := wd_lift [(4, l, 0)] (fun d hd => by obtain rfl : d = _ := by simpa using hd
                                                exact ⟨by show (4 : Int) ≠ 0; decide, by show (4 : Int) ≠ 6; decide, by show (4 : Int) ≠ 7; decide⟩) c1 w1 h1
    rw [List.foldl_cons, List.foldl_nil, List.foldl_cons, List.foldl_nil, step_true (s := (c1, w1.wk)) h1.work hl1 hm4] at this
    rw [this]
    show (c1 + 1, w1.put (w1.on, w1.earth, w1.pm ++ [(0, l)])) = _
    rw [e2]; rfl
  have h2 : WdOk (w1.put (w1.on, w1.earth, [(0, l)])) := by
    have := wdStep_ok (s := (c1, w1)) h1 (4, l, 0)
    rw [s4] at this; exact this
  -- mended
  have hs := h1.sor
  rw [e3, List.pairwise_cons] at hs
  have hf : w1.br.filter (fun x => x != l) = br := by
    rw [e3, List.filter_cons_of_neg (by simp), List.filter_eq_self]
    intro x hx
    have := hs.1 x hx
    simp; omega
  have s7 : wdStep (c1 + 1, w1.put (w1.on, w1.earth, [(0, l)])) (7, l, 0) = (c1 + 1 + 1, { w1 with pm := [(0, l)], br := br }) := by
    have e : wdDo (w1.put (w1.on, w1.earth, [(0, l)])) 7 l 0 = ({ w1 with pm := [(0, l)], br := br }, true) := by
      have := do_mend h2 (a := l) (who := 0) hl1 (show l ∈ w1.br by rw [e3]; simp) (show (0, l) ∈ [((0 : Int), l)] by simp)
      rw [show List.filter (fun x => x != l) (w1.put (w1.on, w1.earth, [(0, l)])).br = br from hf] at this
      exact this
    unfold wdStep
    dsimp only
    rw [e]; rfl
  have h3 : WdOk { w1 with pm := [(0, l)], br := br } := by
    have := wdStep_ok (s := (c1 + 1, w1.put (w1.on, w1.earth, [(0, l)]))) h2 (7, l, 0)
    rw [s7] at this; exact this
  -- returned
  have s5 := heal_rets h3 (c1 + 1 + 1)
  rw [List.foldl_cons, s4, List.foldl_cons, s7]
  have e5 : retsOf ({ w1 with pm := [(0, l)], br := br } : Wd).pm = [(5, l, 0)] := rfl
  rw [e5] at s5
  rw [s5]
  subst hw1
  have : c1 + 1 + 1 + (([((5 : Int), l, (0 : Int))] : List Dd).length : Int) = c + (((((if w.earth.getD l.toNat false then [] else [((2 : Int), l, (0 : Int))] : List Dd)).length) + 3 : Nat) : Int) := by
    rw [← hc1]; simp; omega
  rw [this]
  congr 1
  show Wd.put _ (w.on, w.earth.set l.toNat true, []) = _
  rw [← hp]; rfl
theorem heal_fix : ∀ (br:List Int) (c:Int) (w:Wd),WdOk w → w.pm=[] → w.br=br → (fixOf w.earth br).foldl wdStep (c,w)=(c+((fixOf w.earth br).length:Int),{ w with earth:=earthd w.earth br,br:=[] })
 | [],c,w,h,hp,hb=>by
  simp only [fixOf,List.flatMap_nil,List.foldl_nil,List.length_nil,earthd]
  rw [← hb]; simp
 | l :: br,c,w,h,hp,hb=>by
  have h1:=heal_fix1 h hp hb c
  have hok:WdOk { w with earth:=w.earth.set l.toNat true,br:=br }:=by
   have:=wdFold_ok ((if w.earth.getD l.toNat false then [] else [((2:Int),l,(0:Int))])++[(4,l,0),(7,l,0),(5,l,0)]) (s:=(c,w)) h
   rw [h1] at this; exact this
  have hs:=h.sor
  rw [hb,List.pairwise_cons] at hs
  have hl:=(h.inn l (by rw [hb]; simp)).1
  have hset : fixOf (w.earth.set l.toNat true) br=fixOf w.earth br:=fix_set fun x hx=>by have:=hs.1 x hx; omega
  rw [fix_len,List.foldl_append,h1]
  have h2:=heal_fix br (c+((((if w.earth.getD l.toNat false then [] else [((2:Int),l,(0:Int))])++[(4,l,0),(7,l,0),(5,l,0)]:List Dd)).length:Int)) { w with earth:=w.earth.set l.toNat true,br:=br } hok hp rfl
  dsimp only at h2
  rw [hset] at h2
  rw [h2]
  refine Prod.ext ?_ rfl
  simp only [List.length_append]
  omega
theorem heal_clear {w:Wd} (h:WdOk w) (hp : w.pm=[]) (c:Int):(forOf 3 w.earth true w.on.length).foldl wdStep (c,w)=(c+((forOf 3 w.earth true w.on.length).length:Int),{ w with earth:=List.replicate w.on.length false }):=by
 have hle : w.earth.length=w.on.length:=h.work.le
 have hw:WOk (w.on,w.earth,[]):=by have:=h.work; rw [show w.wk=(w.on,w.earth,w.pm) from rfl,hp] at this; exact this
 rw [wd_lift _ (fun d hd=>by have:=for_kind d hd; omega) _ _ h,show w.wk=(w.on,w.earth,w.pm) from rfl,hp,← hle,(clear_run hw c w.earth.length (Nat.le_refl _)).1,List.drop_length,List.append_nil,hle]
 show (_,Wd.put w (w.on,List.replicate w.on.length false,[]))=_
 rw [← hp]; rfl
def mix (n k:Nat) (f g:Nat → Bool):List Bool:=(List.range n).map fun i=>if i < k then f i else g i
theorem mix_len (n k:Nat) (f g:Nat → Bool):(mix n k f g).length=n:=by simp [mix]
theorem mix_get {n k i:Nat} {f g:Nat → Bool} (h : i < n):(mix n k f g).getD i false=if i < k then f i else g i:=by simp [mix,List.getD,h]
theorem mix_set {n k:Nat} {f g:Nat → Bool} (h : k < n):(mix n k f g).set k (f k)=mix n (k+1) f g:=by
 apply List.ext_getElem (by simp [mix])
 intro i h1 h2
 rw [List.getElem_set]
 simp only [mix,List.getElem_map,List.getElem_range]
 split
 ·rename_i e; subst e; rw [if_pos (by omega)]
 ·by_cases hi : i < k
  ·rw [if_pos hi,if_pos (by omega)]
  ·rw [if_neg hi,if_neg (by omega)]
theorem mix_same {n k:Nat} {f g:Nat → Bool} (h : f k=g k) : mix n k f g=mix n (k+1) f g:=by
 unfold mix
 refine List.map_congr_left fun i _=>?_
 by_cases hi : i < k
 ·rw [if_pos hi,if_pos (by omega)]
 ·rw [if_neg hi]
  by_cases e : i=k
  ·subst e; rw [if_pos (by omega),h]
  ·rw [if_neg (by omega)]
theorem mix_0 (l:List Bool) (f:Nat → Bool) : mix l.length 0 f (fun i=>l.getD i false)=l:=by
 apply List.ext_getElem (by simp [mix])
 intro i h1 h2
 simp [mix,List.getD,h2]
theorem offs_step (on x:List Bool) (k:Nat) : offsTo on x (k+1)=offsTo on x k++if on.getD k false && !x.getD k false then [(1,(k:Int),0)] else []:=by
 unfold offsTo
 rw [List.range_succ,List.filter_append,List.map_append]
 congr 1
 rw [List.filter_cons]
 cases on.getD k false && !x.getD k false <;> rfl
theorem ons_step (on x:List Bool) (k:Nat) : onsTo on x (k+1)=onsTo on x k++if x.getD k false && !on.getD k false then [(0,(k:Int),0)] else []:=by
 unfold onsTo
 rw [List.range_succ,List.filter_append,List.map_append]
 congr 1
 rw [List.filter_cons]
 cases x.getD k false && !on.getD k false <;> rfl
theorem heal_offs {w:Wd} (h:WdOk w) {x:List Bool} (c:Int) : ∀ k,k ≤ w.on.length →
  (offsTo w.on x k).foldl wdStep (c,w)=(c+((offsTo w.on x k).length:Int),{ w with on:=mix w.on.length k (fun i=>w.on.getD i false && x.getD i false) (fun i=>w.on.getD i false) })
 | 0,_=>by
  show (c,w)=(c+((offsTo w.on x 0).length:Int),_)
  rw [mix_0]; simp [offsTo]
 | k+1,hk=>by
  have ih:=heal_offs h (x:=x) c k (by omega)
  have hok:=wdFold_ok (offsTo w.on x k) (s:=(c,w)) h
  rw [ih] at hok
  try dsimp only at hok
  rw [offs_step]
  cases hc : w.on.getD k false && !x.getD k false
  ·simp only [Bool.false_eq_true,if_false,List.append_nil]
   rw [ih]
   refine Prod.ext rfl ?_
   dsimp only
   rw [← mix_same]
   revert hc; cases w.on.getD k false <;> cases x.getD k false <;> simp
  ·simp only [if_true]
   rw [List.foldl_append,ih,List.length_append]
   generalize hc1 : c+((offsTo w.on x k).length:Int)=c1 at *
   simp only [Bool.and_eq_true,Bool.not_eq_true'] at hc
   have hm : wkMay (Wd.wk { w with on:=mix w.on.length k (fun i=>w.on.getD i false && x.getD i false) (fun i=>w.on.getD i false) }) 1 (k:Int) 0=true:=by
    show (mix w.on.length k (fun i=>w.on.getD i false && x.getD i false) (fun i=>w.on.getD i false)).getD (k:Int).toNat false=true
    rw [Int.toNat_natCast,mix_get (by omega),if_neg (by omega)]; exact hc.1
   have hst:=step_one hok c1 (by decide) (by dsimp only; rw [mix_len]; omega) hm
   rw [List.foldl_cons,List.foldl_nil,hst]
   refine Prod.ext (by simp only [List.length_singleton]; omega) ?_
   show ({ w with on:=(mix w.on.length k (fun i=>w.on.getD i false && x.getD i false) (fun i=>w.on.getD i false)).set (k:Int).toNat false }:Wd)=_
   have:=mix_set (f:=fun i=>w.on.getD i false && x.getD i false) (g:=fun i=>w.on.getD i false) (show k < w.on.length by omega)
   try dsimp only at this
   rw [hc.2,Bool.and_false] at this
   rw [Int.toNat_natCast,this]
theorem heal_ons {w:Wd} {y x:List Bool} (hlx : x.length=w.ls.length) (hrx : radP w.ls x w.pts=true) (c:Int) (hly : y.length=w.ls.length) :
  WdOk { w with on:=mix y.length 0 (fun i=>x.getD i false) (fun i=>y.getD i false && x.getD i false),earth:=List.replicate y.length false,pm:=[],br:=[] } → ∀ k,k ≤ y.length →
  (onsTo y x k).foldl wdStep (c,{ w with on:=mix y.length 0 (fun i=>x.getD i false) (fun i=>y.getD i false && x.getD i false),earth:=List.replicate y.length false,pm:=[],br:=[] })=(c+((onsTo y x k).length:Int),{ w with on:=mix y.length k (fun i=>x.getD i false) (fun i=>y.getD i false && x.getD i false),earth:=List.replicate y.length false,pm:=[],br:=[] })
 | h,0,_=>by simp [onsTo]
 | h,k+1,hk=>by
  have ih:=heal_ons hlx hrx c hly h k (by omega)
  have hok:=wdFold_ok (onsTo y x k) (s:=(c,_)) h
  rw [ih] at hok
  try dsimp only at hok
  rw [ons_step]
  cases hc : x.getD k false && !y.getD k false
  ·simp only [Bool.false_eq_true,if_false,List.append_nil]
   rw [ih]
   refine Prod.ext rfl ?_
   dsimp only
   rw [← mix_same]
   revert hc; cases y.getD k false <;> cases x.getD k false <;> simp
  ·simp only [if_true]
   rw [List.foldl_append,ih,List.length_append]
   generalize hc1 : c+((onsTo y x k).length:Int)=c1 at *
   simp only [Bool.and_eq_true,Bool.not_eq_true'] at hc
   have hset:=mix_set (f:=fun i=>x.getD i false) (g:=fun i=>y.getD i false && x.getD i false) (show k < y.length by omega)
   try dsimp only at hset
   rw [hc.1] at hset
   have hm : wkMay (mix y.length k (fun i=>x.getD i false) (fun i=>y.getD i false && x.getD i false),List.replicate y.length false,[]) 0 (k:Int) 0=true:=by
    show (!(mix y.length k (fun i=>x.getD i false) (fun i=>y.getD i false && x.getD i false)).getD (k:Int).toNat false && !(List.replicate y.length false).getD (k:Int).toNat false)=true
    rw [Int.toNat_natCast,mix_get (by omega),if_neg (by omega),hc.2]
    have:(List.replicate y.length false).getD k false=false:=by
     simp only [List.getD,List.getElem?_replicate]; split <;> rfl
    rw [this]; rfl
   have ha : 0 ≤ (k:Int)∧(k:Int) < ((mix y.length k (fun i=>x.getD i false) (fun i=>y.getD i false && x.getD i false)).length:Int):=by rw [mix_len]; omega
   have hput : wkPut (mix y.length k (fun i=>x.getD i false) (fun i=>y.getD i false && x.getD i false),List.replicate y.length false,[]) 0 (k:Int) 0=(mix y.length (k+1) (fun i=>x.getD i false) (fun i=>y.getD i false && x.getD i false),List.replicate y.length false,[]):=by
    show ((mix y.length k (fun i=>x.getD i false) (fun i=>y.getD i false && x.getD i false)).set (k:Int).toNat true,List.replicate y.length false,([]:Pm))=_
    rw [Int.toNat_natCast,hset]
   have hdo : wkDo (mix y.length k (fun i=>x.getD i false) (fun i=>y.getD i false && x.getD i false),List.replicate y.length false,[]) 0 (k:Int) 0=((mix y.length (k+1) (fun i=>x.getD i false) (fun i=>y.getD i false && x.getD i false),List.replicate y.length false,[]),true):=by
    rcases do_cases (w:=(mix y.length k (fun i=>x.getD i false) (fun i=>y.getD i false && x.getD i false),List.replicate y.length false,[])) hok.work 0 (k:Int) 0 with ⟨g,_⟩ | ⟨_,g⟩
    ·rw [g,hput]
    ·exact absurd ⟨ha,hm⟩ g
   have hrad : radP w.ls (mix y.length (k+1) (fun i=>x.getD i false) (fun i=>y.getD i false && x.getD i false)) w.pts=true:=by
    refine radP_sub (by rw [mix_len,hly]) hlx (fun i hi=>?_) hrx
    rcases Nat.lt_or_ge i y.length with h1 | h1
    ·rw [mix_get h1] at hi
     split at hi
     ·exact hi
     ·rw [Bool.and_eq_true] at hi; exact hi.2
    ·rw [gout (by rw [mix_len]; exact h1)] at hi; cases hi
   have hstep : wdStep (c1,{ w with on:=mix y.length k (fun i=>x.getD i false) (fun i=>y.getD i false && x.getD i false),earth:=List.replicate y.length false,pm:=[],br:=[] }) (0,(k:Int),0)=(c1+1,{ w with on:=mix y.length (k+1) (fun i=>x.getD i false) (fun i=>y.getD i false && x.getD i false),earth:=List.replicate y.length false,pm:=[],br:=[] }):=by
    have e : wdDo { w with on:=mix y.length k (fun i=>x.getD i false) (fun i=>y.getD i false && x.getD i false),earth:=List.replicate y.length false,pm:=[],br:=[] } 0 (k:Int) 0=({ w with on:=mix y.length (k+1) (fun i=>x.getD i false) (fun i=>y.getD i false && x.getD i false),earth:=List.replicate y.length false,pm:=[],br:=[] },true):=by
     exact do_on hok (a:=(k:Int)) (who:=0) ha (by simp) hdo hrad
    unfold wdStep
    dsimp only
    rw [e]; rfl
   rw [List.foldl_cons,List.foldl_nil,hstep]
   exact Prod.ext (by simp only [List.length_singleton]; omega) rfl
def restP (w:Wd):Wd:={ w with on:=(bestP w.ls w.on w.pts).getD w.on,earth:=List.replicate w.on.length false,pm:=[],br:=[] }
theorem heal_run {w:Wd} (h:WdOk w) : wdRun w (healP w)=(((healP w).length:Int),restP w):=by
 unfold wdRun
 rw [if_pos (wv_iff.2 h)]
 unfold healP
 rw [List.foldl_append,List.foldl_append,List.foldl_append,heal_rets h 0]
 have k1:WdOk (w.put (w.on,w.earth,[])):=by
  have:=wdFold_ok (retsOf w.pm) (s:=(0,w)) h
  rw [heal_rets h 0] at this; exact this
 generalize hc1:(0:Int)+((retsOf w.pm).length:Int)=c1
 have e2:(fixOf w.earth w.br).foldl wdStep (c1,w.put (w.on,w.earth,[]))=(c1+((fixOf w.earth w.br).length:Int),⟨w.b,w.ls,w.pts,w.on,earthd w.earth w.br,[],[]⟩):=heal_fix w.br c1 (w.put (w.on,w.earth,[])) k1 rfl rfl
 rw [e2]
 have k2:WdOk ⟨w.b,w.ls,w.pts,w.on,earthd w.earth w.br,[],[]⟩:=by
  have:=wdFold_ok (fixOf w.earth w.br) (s:=(c1,w.put (w.on,w.earth,[]))) k1
  rw [e2] at this; exact this
 generalize hc2 : c1+((fixOf w.earth w.br).length:Int)=c2
 have e3:(forOf 3 (earthd w.earth w.br) true w.on.length).foldl wdStep (c2,⟨w.b,w.ls,w.pts,w.on,earthd w.earth w.br,[],[]⟩)=(c2+((forOf 3 (earthd w.earth w.br) true w.on.length).length:Int),⟨w.b,w.ls,w.pts,w.on,List.replicate w.on.length false,[],[]⟩):=heal_clear k2 rfl c2
 rw [e3]
 have k3:WdOk ⟨w.b,w.ls,w.pts,w.on,List.replicate w.on.length false,[],[]⟩:=by
  have:=wdFold_ok (forOf 3 (earthd w.earth w.br) true w.on.length) (s:=(c2,_)) k2
  rw [e3] at this; exact this
 generalize hc3 : c2+((forOf 3 (earthd w.earth w.br) true w.on.length).length:Int)=c3
 have hlen : ∀ m:Nat,c3+(m:Int)=(((retsOf w.pm).length+(fixOf w.earth w.br).length+(forOf 3 (earthd w.earth w.br) true w.on.length).length+m:Nat):Int):=by intro m; omega
 rw [List.length_append,List.length_append,List.length_append,← hlen]
 unfold restP stepsTo
 cases hb : bestP w.ls w.on w.pts with
 | none=>exact Prod.ext (Int.add_zero c3).symm rfl
 | some x =>
  obtain ⟨hx1,hx2⟩:=bestP_good hb
  dsimp only
  rw [List.foldl_append]
  have e4:=heal_offs k3 (x:=x) c3 w.on.length (Nat.le_refl _)
  dsimp only at e4
  have k4:=wdFold_ok (offsTo w.on x w.on.length) (s:=(c3,_)) k3
  rw [e4] at k4
  rw [e4]
  dsimp only at k4
  have hm : mix w.on.length w.on.length (fun i=>w.on.getD i false && x.getD i false) (fun i=>w.on.getD i false)=mix w.on.length 0 (fun i=>x.getD i false) (fun i=>w.on.getD i false && x.getD i false):=by
   unfold mix
   refine List.map_congr_left fun i hi=>?_
   have : i < w.on.length:=by simpa using hi
   rw [if_pos this,if_neg (by omega)]
  rw [hm] at k4 ⊢
  have e5:=heal_ons (w:=w) hx1 (good_rad hx2) (c3+((offsTo w.on x w.on.length).length:Int)) h.len k4 w.on.length (Nat.le_refl _)
  rw [e5]
  refine Prod.ext ?_ ?_
  ·dsimp only; rw [List.length_append]; omega
  ·dsimp only [Option.getD]
   have hxn : x.length=w.on.length:=hx1.trans h.len.symm
   have : mix w.on.length w.on.length (fun i=>x.getD i false) (fun i=>w.on.getD i false && x.getD i false)=x:=by
    apply List.ext_getElem (by rw [mix_len,hxn])
    intro i h1 h2
    rw [mix_len] at h1
    simp [mix,List.getD,h1,h2]
   rw [this]
end Go.Proofs.YtjdlgannencchaaGreatDoor
namespace Go.Proofs.YtjdlgannencchaaGreatDoor
set_option linter.unusedVariables false
set_option linter.unusedSimpArgs false
theorem sumP_bound {n:Nat} {f:Nat → Int} {p:Nat → Prop} (hf : ∀ b,b < n → 0 ≤ f b∧f b ≤ 999) : 0 ≤ sumP n f p∧sumP n f p ≤ 999 * n:=by
 unfold sumP
 induction n with
 | zero=>simp
 | succ n ih =>
  have h1:=ih fun b hb=>hf b (by omega)
  have h2:=hf n (by omega)
  rw [List.range_succ,List.map_append,List.sum_append]
  simp only [List.map_cons,List.map_nil,List.sum_cons,List.sum_nil]
  split <;> omega
def tab (n:Nat) (f:Nat → Int):List Int:=(List.range n).map f
theorem tab_len (n:Nat) (f:Nat → Int):(tab n f).length=n:=by simp [tab]
theorem tab_get {n k:Nat} {f:Nat → Int} (h : k < n):(tab n f).getD k 0=f k:=by simp [tab,List.getD,h]
theorem tab_set {n k:Nat} {f g:Nat → Int} {v:Int} (hk : k < n) (h1 : g k=v) (h2 : ∀ j,j < n → j ≠ k → g j=f j):(tab n f).set k v=tab n g:=by
 apply List.ext_getElem (by simp [tab])
 intro i a b
 have hi : i < n:=by simpa [tab] using b
 rw [List.getElem_set]
 simp only [tab,List.getElem_map,List.getElem_range]
 split
 ·rename_i e; subst e; exact h1.symm
 ·rename_i e; exact (h2 i hi (Ne.symm e)).symm
theorem tab_congr {n:Nat} {f g:Nat → Int} (h : ∀ j,j < n → f j=g j) : tab n f=tab n g:=List.map_congr_left fun j hj=>h j (by simpa using hj)
theorem tab_0 (n:Nat) : tab n (fun _=>0)=List.replicate n 0:=by
 apply List.ext_getElem (by simp [tab])
 intro i a b
 simp [tab]
open Classical in
noncomputable def flK (ls:List Ln) (on:List Bool) (pts:List (Int×Int)) (par:Nat → Int) (rk:Nat → Nat) (i k:Nat):Int:=if ∃ d,0 ≤ par d∧(par d).toNat=k∧i ≤ rk d then flowP ls on pts k else 0
theorem fed_lt {b:Int} {ls:List Ln} {on:List Bool} {pts:List (Int×Int)} (h2:BusOk b ls pts) {c:Nat} (h : fedB (onE ls on) pts c=true) : c < pts.length:=by
 obtain ⟨f,f1,f2⟩:=fedB_iff.1 h
 cases f2 with
 | refl=>exact feedA_lt f1
 | step _ e =>
  rcases e with e | e
  ·exact (onE_lt h2 on _ e).2
  ·exact (onE_lt h2 on _ e).1
theorem idx_at {l:List Nat} (h : l.Nodup) {i:Nat} (hi : i < l.length) : l.idxOf (l.getD i 0)=i:=by
 rw [getD_ge hi]
 have hm : l.idxOf l[i] < l.length:=List.idxOf_lt_length_iff.2 (List.getElem_mem hi)
 have h1:=List.getElem_idxOf hm
 rw [List.nodup_iff_pairwise_ne,List.pairwise_iff_getElem] at h
 rcases Nat.lt_trichotomy (l.idxOf l[i]) i with h2 | h2 | h2
 ·exact absurd h1 (h _ _ hm hi h2)
 ·exact h2
 ·exact absurd h1.symm (h _ _ hi hm h2)
section
variable {ls:List Ln} {on:List Bool} {pts:List (Int×Int)} {feed parent:List Int} {ord:List Nat} (h1:StOk (pts.length:Int) ls on) (h2:BusOk (pts.length:Int) ls pts) (hr : radP ls on pts=true) (T:TreeOk ls on pts feed parent ord)
include h2 T
theorem rk_inj : ∀ a b,fedB (onE ls on) pts a=true → fedB (onE ls on) pts b=true → ord.idxOf a=ord.idxOf b → a=b:=by
 intro a b ha hb e
 have ha':=(T.mem a).2 ⟨fed_lt h2 ha,ha⟩
 have hb':=(T.mem b).2 ⟨fed_lt h2 hb,hb⟩
 have h3:=List.getElem_idxOf (List.idxOf_lt_length_iff.2 ha')
 have h4:=List.getElem_idxOf (List.idxOf_lt_length_iff.2 hb')
 rw [← h3,← h4]
 congr 1
theorem rk_lt {d:Nat} (h : 0 ≤ parent.getD d (-1)) : ord.idxOf d < ord.length:=by
 obtain ⟨c,hc,_⟩:=T.par.line d h
 have hf : fedB (onE ls on) pts d=true:=Up.fed T.par ⟨h,hc⟩
 exact List.idxOf_lt_length_iff.2 ((T.mem d).2 ⟨fed_lt h2 hf,hf⟩)
include h1 hr
theorem iFlows : m_impl_tree_flows (pts.length : Int) ls feed parent (zl ord) pts = some (tab ls.length (flowP ls on pts)) := by
  have hll := h1.net.ll; have hB := h1.net.b1
  have hol : ord.length ≤ pts.length := nodup_len _ ord T.nd fun b hb => ((T.mem b).1 hb).1
  have hf2 : ∀ c, c < pts.length → 0 ≤ (pts.getD c (0, 0)).2 ∧ (pts.getD c (0, 0)).2 ≤ 999 := fun c hc => (h2.bs c hc).2
  unfold m_impl_tree_flows
  have m1 : mkB (ls.length : Int) = true := by simp [mkB]; omega
  have m2 : mkB (pts.length : Int) = true := by simp [mkB]; omega
  have w0 : w64 (((zl ord).length : Int) - 1) = (ord.length : Int) - 1 := by rw [zl_len, w64_in (by omega) (by omega)]
  rw [m1, m2, chk_true, chk_true, w0]
  have P := T.par
  have hh := loop_all (m_impl_tree_flows_l1 (pts.length : Int) ls feed parent (zl ord) pts) (fun k => (tab ls.length (flK ls on pts (fun b => parent.getD b (-1)) (fun b => ord.idxOf b) (ord.length - k)), tab pts.length (wantP ls on pts (fun b => parent.getD b (-1)) (fun b => ord.idxOf b) (ord.length - k)), (ord.length : Int) - (k : Int) - 1)) ord.length (some (tab ls.length (flowP ls on pts))) (by omega) (fun k fuel hk => ?_) (fun fuel => ?_)
  · have e1 : tab ls.length (flK ls on pts (fun b => parent.getD b (-1)) (fun b => ord.idxOf b) (ord.length - 0)) = List.replicate ls.length 0 := by
      rw [← tab_0]
      refine tab_congr fun j hj => ?_
      unfold flK
      rw [if_neg]
      rintro ⟨d, d1, _, d3⟩
      have := rk_lt h2 T d1
      dsimp only at d3; omega
    have e2 : tab pts.length (wantP ls on pts (fun b => parent.getD b (-1)) (fun b => ord.idxOf b) (ord.length - 0)) = List.replicate pts.length 0 := by
      rw [← tab_0]
      refine tab_congr fun j hj => sumP_none fun b hb => ?_
      rintro (⟨_, hF, hi⟩ | ⟨d, d1, d2, _⟩)
      · have := List.idxOf_lt_length_iff.2 ((T.mem j).2 ⟨hj, hF⟩)
        dsimp only at hi; omega
      · have := rk_lt h2 T d1.1
        dsimp only at d2; omega
    rw [e1, e2] at hh
    rw [show (ord.length : Int) - 1 = (ord.length : Int) - ((0 : Nat) : Int) - 1 by omega, hh]; rfl
  · -- the bus at i
    obtain ⟨i, hi⟩ : ∃ i, ord.length - k = i + 1 := ⟨ord.length - k - 1, by omega⟩
    have hio : i < ord.length := by omega
    have e0 : (ord.length : Int) - (k : Int) - 1 = (i : Int) := by omega
    have e3 : (ord.length : Int) - ((k + 1 : Nat) : Int) - 1 = (i : Int) - 1 := by omega
    have e4 : ord.length - (k + 1) = i := by omega
    rw [hi, e0, e3, e4, e_impl_tree_flows_l1, m_impl_tree_flows_l1s]
    obtain ⟨o, ho⟩ : ∃ o, ord.getD i 0 = o := ⟨_, rfl⟩
    have hom : o ∈ ord := by rw [← ho, getD_ge hio]; exact List.getElem_mem hio
    obtain ⟨hon, hof⟩ := (T.mem o).1 hom
    have hrk : ord.idxOf o = i := by rw [← ho]; exact idx_at T.nd hio
    have hpo : parent.getD o 0 = parent.getD o (-1) := by rw [getD_ge (by rw [T.lp]; exact hon), getD_ge (by rw [T.lp]; exact hon)]
    have hinj := rk_inj h2 T
    have hself := Par.want_self P (i := i) (o := o) hrk hon hof
    have hnow := Par.want_now P (i := i) (o := o) hrk hof
    have hb1 : 0 ≤ belowP ls on pts (fun b => parent.getD b (-1)) o ∧ belowP ls on pts (fun b => parent.getD b (-1)) o ≤ 999 * pts.length := sumP_bound hf2
    have ws : w64 (wantP ls on pts (fun b => parent.getD b (-1)) (fun b => ord.idxOf b) (i + 1) o + (pts.getD o (0, 0)).2) = belowP ls on pts (fun b => parent.getD b (-1)) o := by rw [hself]; exact w64_in (by omega) (by omega)
    have wi : w64 ((i : Int) - 1) = (i : Int) - 1 := w64_in (by omega) (by omega)
    have hge : leB 0 (i : Int) = true := by simp [leB]
    have hxo : ixB (o : Int) parent.length = true := by rw [T.lp]; exact ix_dec hon
    simp only [hge, cond_true, zl_len, ix_dec hio, chk_true, Int.toNat_natCast, zl_get, ho, ix_dec hon, hxo, tab_get hon, ws, wi]
    by_cases hp : 0 ≤ parent.getD o (-1)
    · obtain ⟨c, hlk, hc, hfc, hrc⟩ := P.line o hp
      obtain ⟨j, hj⟩ : ∃ j : Nat, parent.getD o (-1) = (j : Int) := ⟨(parent.getD o (-1)).toNat, by omega⟩
      have hlk' := hlk
      rw [hj, Int.toNat_natCast] at hlk
      have hne : c ≠ o := fun e => by subst e; omega
      have u : Up ls on (fun b => parent.getD b (-1)) o c := ⟨hp, hlk'⟩
      have hup := Par.want_up P hinj hrk u
      have habove : m_impl_tree_above (pts.length : Int) ls feed parent (zl ord) (o : Int) = some (c : Int) := by
        unfold m_impl_tree_above
        rw [hxo, chk_true, Int.toNat_natCast, hpo, hj, ix_dec hlk.1, chk_true, Int.toNat_natCast]
        obtain ⟨z, z1, z2⟩ := other_lk h1 (b := o) hlk.1
        rw [z1, Option.bind_some]
        rcases z2 with ⟨_, z3⟩ | ⟨c', rfl, _, _, z4⟩
        · exact absurd hlk (z3 c)
        · rw [z4 c hlk]
      have hgj : leB 0 (parent.getD o 0) = true := by rw [hpo]; simpa [leB] using hp
      have hxj : ixB (parent.getD o 0) ls.length = true := by rw [hpo, hj]; exact ix_dec hlk.1
      have hset1 : ((tab pts.length (wantP ls on pts (fun b => parent.getD b (-1)) (fun b => ord.idxOf b) (i + 1))).set o (belowP ls on pts (fun b => parent.getD b (-1)) o)).getD o 0 = belowP ls on pts (fun b => parent.getD b (-1)) o := gset (by rw [tab_len]; exact hon)
      have hset2 : ((tab pts.length (wantP ls on pts (fun b => parent.getD b (-1)) (fun b => ord.idxOf b) (i + 1))).set o (belowP ls on pts (fun b => parent.getD b (-1)) o)).getD c 0 = wantP ls on pts (fun b => parent.getD b (-1)) (fun b => ord.idxOf b) (i + 1) c := by rw [gset_ne (Ne.symm hne), tab_get hc]
      have hb2 : 0 ≤ wantP ls on pts (fun b => parent.getD b (-1)) (fun b => ord.idxOf b) i c ∧ wantP ls on pts (fun b => parent.getD b (-1)) (fun b => ord.idxOf b) i c ≤ 999 * pts.length := sumP_bound hf2
      have wc : w64 (wantP ls on pts (fun b => parent.getD b (-1)) (fun b => ord.idxOf b) (i + 1) c + belowP ls on pts (fun b => parent.getD b (-1)) o) = wantP ls on pts (fun b => parent.getD b (-1)) (fun b => ord.idxOf b) i c := by rw [← hup]; exact w64_in (by omega) (by omega)
      simp only [hgj, cond_true, hxj, chk_true, habove, Option.bind_some, ix_dec hc, ix_dec hon, Int.toNat_natCast, hset1, hset2, wc]
      congr 2
      · rw [hpo, hj, Int.toNat_natCast]
        have hfl : flowP ls on pts (parent.getD o (-1)).toNat = belowP ls on pts (fun b => parent.getD b (-1)) o := Par.flow P h1.len hr (d := o) hp
        have hbel : belowP ls on pts (fun b => parent.getD b (-1)) o = flowP ls on pts j := by
          rw [hj, Int.toNat_natCast] at hfl
          exact hfl.symm
        refine tab_set hlk.1 ?_ fun k' hk' hne' => ?_
        · unfold flK
          rw [if_pos ⟨o, hp, by dsimp only; rw [hj]; rfl, by dsimp only; omega⟩, hbel]
        · unfold flK
          by_cases hex : ∃ d, 0 ≤ (fun b => parent.getD b (-1)) d ∧ ((fun b => parent.getD b (-1)) d).toNat = k' ∧ i + 1 ≤ (fun b => ord.idxOf b) d
          · rw [if_pos hex]
            obtain ⟨d, d1, d2, d3⟩ := hex
            rw [if_pos ⟨d, d1, d2, by omega⟩]
          · rw [if_neg hex, if_neg]
            rintro ⟨d, d1, d2, d3⟩
            refine hex ⟨d, d1, d2, ?_⟩
            dsimp only at d1 d2 d3 ⊢
            rcases Nat.lt_or_ge i (ord.idxOf d) with h | h
            · exact h
            · exfalso
              obtain ⟨c', hc', _⟩ := P.line d d1
              have : d = o := hinj d o (Up.fed P ⟨d1, hc'⟩) hof (by omega)
              subst this
              rw [hj] at d2
              exact hne' (by simpa using d2.symm)
      · congr 1
        rw [tab_set (g := fun x => if x = o then belowP ls on pts (fun b => parent.getD b (-1)) o else wantP ls on pts (fun b => parent.getD b (-1)) (fun b => ord.idxOf b) (i + 1) x) hon (if_pos rfl) (fun j' _ hj' => if_neg hj')]
        refine tab_set hc rfl fun x hx hxc => ?_
        by_cases hxo2 : x = o
        · subst hxo2; rw [if_pos rfl]; exact hnow
        · rw [if_neg hxo2]
          exact Par.want_else P hinj hrk hof hxo2 fun u' => hxc (u'.inj u).symm.symm
    · have hgj : leB 0 (parent.getD o 0) = false := by rw [hpo]; simp only [leB, decide_eq_false_iff_not]; exact hp
      simp only [hgj, cond_false, Option.bind_some]
      congr 2
      · refine tab_congr fun k' hk' => ?_
        unfold flK
        by_cases hex : ∃ d, 0 ≤ (fun b => parent.getD b (-1)) d ∧ ((fun b => parent.getD b (-1)) d).toNat = k' ∧ i + 1 ≤ (fun b => ord.idxOf b) d
        · rw [if_pos hex]
          obtain ⟨d, d1, d2, d3⟩ := hex
          rw [if_pos ⟨d, d1, d2, by omega⟩]
        · rw [if_neg hex, if_neg]
          rintro ⟨d, d1, d2, d3⟩
          refine hex ⟨d, d1, d2, ?_⟩
          dsimp only at d1 d2 d3 ⊢
          rcases Nat.lt_or_ge i (ord.idxOf d) with h | h
          · exact h
          · exfalso
            obtain ⟨c', hc', _⟩ := P.line d d1
            have : d = o := hinj d o (Up.fed P ⟨d1, hc'⟩) hof (by omega)
            subst this
            exact hp d1
      · congr 1
        refine tab_set hon hnow fun x hx hxo2 => ?_
        exact Par.want_else P hinj hrk hof hxo2 fun u' => hp u'.1
  · rw [e_impl_tree_flows_l1, m_impl_tree_flows_l1s]
    have e0 : leB 0 ((ord.length : Int) - (ord.length : Int) - 1) = false := by simp only [leB, decide_eq_false_iff_not]; omega
    simp only [e0, cond_false, Nat.sub_self]
    congr 1
    refine tab_congr fun k hk => ?_
    unfold flK
    by_cases hex : ∃ d, 0 ≤ (fun b => parent.getD b (-1)) d ∧ ((fun b => parent.getD b (-1)) d).toNat = k ∧ 0 ≤ (fun b => ord.idxOf b) d
    · rw [if_pos hex]
    · rw [if_neg hex]
      exact (Par.flow0 P h1.len hr fun d d1 d2 => hex ⟨d, d1, d2, Nat.zero_le _⟩).symm
omit hr in
theorem iGiven {b:Nat} (hb : b < pts.length) : m_impl_tree_given (pts.length:Int) ls feed parent (zl ord) pts (b:Int)=some (if feedA pts b=true then sumE (onE ls on) pts (·.2) b else 0):=by
 have hB:=h1.net.b1
 unfold m_impl_tree_given
 have hf2 : ∀ c,c < pts.length → 0 ≤ (pts.getD c (0,0)).2∧(pts.getD c (0,0)).2 ≤ 999:=fun c hc=>(h2.bs c hc).2
 have hbd : ∀ k,k ≤ pts.length → 0 ≤ ((List.range k).map fun c=>if feed.getD c 0=(b:Int) then (pts.getD c (0,0)).2 else 0).sum∧((List.range k).map fun c=>if feed.getD c 0=(b:Int) then (pts.getD c (0,0)).2 else 0).sum ≤ 999 * k:=by
  intro k
  induction k with
  | zero=>intro _; simp
  | succ k ih =>
   intro hk
   have i1:=ih (by omega)
   have i2:=hf2 k (by omega)
   rw [List.range_succ,List.map_append,List.sum_append]
   simp only [List.map_cons,List.map_nil,List.sum_cons,List.sum_nil]
   split <;> omega
 have hh:=loop_all (m_impl_tree_given_l1 feed pts (b:Int)) (fun k=>(((List.range k).map fun c=>if feed.getD c 0=(b:Int) then (pts.getD c (0,0)).2 else 0).sum,(k:Int))) pts.length (some (((List.range pts.length).map fun c=>if feed.getD c 0=(b:Int) then (pts.getD c (0,0)).2 else 0).sum)) (by omega) (fun k fuel hk=>?_) (fun fuel=>?_)
 ·rw [show m_impl_tree_given_l1 feed pts (b:Int) FUEL (0,0)=_ from hh,Option.bind_some]
  congr 1
  by_cases hfb : feedA pts b=true
  ·rw [if_pos hfb]
   refine sum_same fun c hc=>?_
   have:=T.fd c b hc
   by_cases e : labs (onE ls on) c=labs (onE ls on) b
   ·rw [if_pos e,if_pos (this.2 ⟨hfb,((labs_cn _ _ _).1 e).symm⟩)]
   ·rw [if_neg e,if_neg fun e2=>e ((labs_cn _ _ _).2 (this.1 e2).2.symm)]
  ·rw [if_neg hfb]
   exact sum_zero fun c hc=>if_neg fun e2=>hfb ((T.fd c b hc).1 e2).1
 ·rw [e_impl_tree_given_l1,m_impl_tree_given_l1s]
  have hx : ixB (k:Int) feed.length=true:=by rw [T.lf]; exact ix_dec hk
  have i1:=hbd k (by omega)
  have i2:=hf2 k hk
  have wk : w64 (((List.range k).map fun c=>if feed.getD c 0=(b:Int) then (pts.getD c (0,0)).2 else 0).sum+(pts.getD k (0,0)).2)=((List.range k).map fun c=>if feed.getD c 0=(b:Int) then (pts.getD c (0,0)).2 else 0).sum+(pts.getD k (0,0)).2:=w64_in (by omega) (by omega)
  have hlt : ltB (k:Int) (feed.length:Int)=true:=by rw [T.lf]; exact lt_dec hk
  simp only [hlt,cond_true,hx,chk_true,Int.toNat_natCast,ix_dec hk,wk,w64_succ (by omega : k < 4611686018427387904)]
  rw [List.range_succ,List.map_append,List.sum_append]
  simp only [List.map_cons,List.map_nil,List.sum_cons,List.sum_nil]
  by_cases e : feed.getD k 0=(b:Int)
  ·rw [if_pos e,show (feed.getD k 0 == (b:Int))=true by rw [e]; simp]
   simp
  ·rw [if_neg e,show (feed.getD k 0 == (b:Int))=false by simpa using e]
   simp
 ·rw [e_impl_tree_given_l1,m_impl_tree_given_l1s]
  have hlt : ltB (pts.length:Int) (feed.length:Int)=false:=by rw [T.lf]; exact nlt_dec
  simp only [hlt,cond_false]
theorem iGood : m_impl_tree_good (pts.length : Int) ls feed parent (zl ord) pts = some (goodP ls on pts) := by
  have hll := h1.net.ll; have hB := h1.net.b1
  unfold m_impl_tree_good goodP
  rw [iFlows h1 h2 hr T, Option.bind_some, hr]
  have a1 := loop_find (m_impl_tree_good_l1 ls (tab ls.length (flowP ls on pts))) (fun k => (k : Int)) ls.length (fun k => decide ((ls.getD k (0, 0, 0)).2.2 < flowP ls on pts k)) (some (.inr false)) (some (.inl ())) (by omega) (fun k fuel hk => ?_) (fun fuel => ?_)
  · have a2 := loop_find (m_impl_tree_good_l2 (pts.length : Int) ls feed parent (zl ord) pts) (fun k => (k : Int)) pts.length (fun b => feedA pts b && decide ((pts.getD b (0, 0)).1 < sumE (onE ls on) pts (·.2) b)) (some (.inr false)) (some (.inl ())) (by omega) (fun k fuel hk => ?_) (fun fuel => ?_)
    · rw [show m_impl_tree_good_l1 ls (tab ls.length (flowP ls on pts)) FUEL 0 = _ from a1, show m_impl_tree_good_l2 (pts.length : Int) ls feed parent (zl ord) pts FUEL 0 = _ from a2]
      cases (List.range ls.length).any fun k => decide ((ls.getD k (0, 0, 0)).2.2 < flowP ls on pts k)
      · cases (List.range pts.length).any fun b => feedA pts b && decide ((pts.getD b (0, 0)).1 < sumE (onE ls on) pts (·.2) b) <;> rfl
      · rfl
    · rw [e_impl_tree_good_l2, m_impl_tree_good_l2s]
      simp only [lt_dec hk, ix_dec hk, cond_true, chk_true, Int.toNat_natCast, iGiven h1 h2 T hk, Option.bind_some, w64_succ (by omega : k < 4611686018427387904)]
      have := (h2.bs k hk).1
      cases hfa : feedA pts k
      · have : ltB (pts.getD k (0, 0)).1 (if false = true then sumE (onE ls on) pts (·.2) k else 0) = false := by
          simp only [Bool.false_eq_true, if_false, ltB, decide_eq_false_iff_not]; omega
        rw [this]; rfl
      · rfl
    · rw [e_impl_tree_good_l2, m_impl_tree_good_l2s]; simp only [nlt_dec, cond_false]
  · rw [e_impl_tree_good_l1, m_impl_tree_good_l1s]
    simp only [tab_len, lt_dec hk, ix_dec hk, cond_true, chk_true, Int.toNat_natCast, tab_get hk, w64_succ (by omega : k < 4611686018427387904)]
    rfl
  · rw [e_impl_tree_good_l1, m_impl_tree_good_l1s]; simp only [tab_len, nlt_dec, cond_false]
end
theorem iNetGood (b:Int) (ls:List Ln) (on:List Bool) (pts:List (Int×Int)) (hp : pts.length ≤ 1048576) : m_impl_NetGood b ls on pts=some (okV b ls on pts && goodP ls on pts):=by
 obtain ⟨r,r1,r2,r3⟩:=iTree b ls on pts hp
 unfold m_impl_NetGood
 rw [r1,Option.bind_some,r2]
 cases hv : radB b ls on pts
 ·simp only [gb_false,Option.bind_some,Bool.false_and]
  congr 1
  cases ho : okV b ls on pts
  ·rfl
  ·cases hg : goodP ls on pts
   ·rfl
   ·have:=good_rad hg
    unfold radB at hv
    rw [ho,this] at hv; cases hv
 ·obtain ⟨g1,g2,ord,g3,T⟩:=r3 hv
  have hv':=hv
  unfold radB at hv'
  rw [Bool.and_eq_true] at hv'
  obtain ⟨h1,h2⟩:=okV_iff.1 hv'.1
  have hlp:=h2.lp
  subst hlp
  rw [g1,g2,g3,show ifL true ls=ls from rfl,iGood h1 h2 hv'.2 T,hv'.1]
  simp only [gb_true,Option.bind_some,Bool.true_and]
end Go.Proofs.YtjdlgannencchaaGreatDoor
namespace Go.Proofs.YtjdlgannencchaaGreatDoor
set_option linter.unusedVariables false
set_option linter.unusedSimpArgs false
section
variable {ls:List Ln} {on:List Bool} {pts:List (Int×Int)} (h1:StOk (pts.length:Int) ls on) (h2:BusOk (pts.length:Int) ls pts)
include h1 h2
end
structure PI (ls:List Ln) (on:List Bool) (pts:List (Int×Int)) (q:Nat → Int):Prop where
 feed : ∀ b,b < pts.length → feedA pts b=true → q b=-1
 neg : ∀ b,b < pts.length → q b=-1 → feedA pts b=true
 low : ∀ b,b < pts.length → -2 ≤ q b
 hi : ∀ b,b < pts.length → 0 ≤ q b → (q b).toNat < ls.length
 rk : ∃ rk:Nat → Nat,∀ b,b < pts.length → 0 ≤ q b → ∃ c,Lk ls on (q b).toNat b c∧c < pts.length∧-2 < q c∧rk c < rk b
theorem PI.put {ls:List Ln} {on:List Bool} {pts:List (Int×Int)} {q:Nat → Int} (h:PI ls on pts q) {k b c:Nat} (hb : b < pts.length) (hq : q b=-2) (hl:Lk ls on k b c) (hc : c < pts.length) (hqc : -2 < q c):PI ls on pts (fun x=>if x=b then (k:Int) else q x):=by
 obtain ⟨rk,hrk⟩:=h.rk
 have hcb : c ≠ b:=fun e=>by subst e; omega
 refine ⟨fun x hx hf=>?_,fun x hx he=>?_,fun x hx=>?_,fun x hx h0=>?_,fun x=>if x=b then rk c+1 else rk x,fun x hx h0=>?_⟩
 ·try dsimp only
  split
  ·rename_i e; subst e; have:=h.feed x hx hf; omega
  ·exact h.feed x hx hf
 ·try dsimp only at he
  split at he
  ·omega
  ·exact h.neg x hx he
 ·try dsimp only
  split
  ·omega
  ·exact h.low x hx
 ·try dsimp only at h0 ⊢
  split at h0
  ·rename_i e; rw [if_pos e]; simpa using hl.1
  ·rename_i e; rw [if_neg e]; exact h.hi x hx h0
 ·try dsimp only at h0 ⊢
  by_cases e : x=b
  ·subst e
   rw [if_pos rfl,if_pos rfl]
   refine ⟨c,by simpa using hl,hc,?_,?_⟩
   ·rw [if_neg hcb]; exact hqc
   ·rw [if_neg hcb]; omega
  ·rw [if_neg e] at h0 ⊢
   obtain ⟨d,d1,d2,d3,d4⟩:=hrk x hx h0
   have hdb : d ≠ b:=fun e2=>by subst e2; omega
   refine ⟨d,d1,d2,?_,?_⟩
   ·rw [if_neg hdb]; exact d3
   ·rw [if_neg hdb,if_neg e]; exact d4
section
variable {ls:List Ln} {on:List Bool} {pts:List (Int×Int)} (h1:StOk (pts.length:Int) ls on) (h2:BusOk (pts.length:Int) ls pts)
include h1 h2
end
end Go.Proofs.YtjdlgannencchaaGreatDoor
namespace Go.Proofs.YtjdlgannencchaaGreatDoor
set_option linter.unusedVariables false
set_option linter.unusedSimpArgs false
set_option linter.unusedSectionVars false
theorem swap_sum (E:Ed) (pts:List (Int×Int)) (f:Int×Int → Int) (p:Nat → Bool) (hl : ∀ c,c < pts.length → labs E c < 8) : ∀ k,k ≤ pts.length → ((List.range 8).map fun j=>if p j=true then sumK E pts f k j else 0).sum=((List.range k).map fun c=>if p (labs E c)=true then f (pts.getD c (0,0)) else 0).sum
 | 0,_=>by
  rw [sum_zero fun j _=>by rw [sumK_0]; simp]; rfl
 | k+1,hk=>by
  have ih:=swap_sum E pts f p hl k (by omega)
  have hlk:=hl k (by omega)
  rw [sum_zip (g:=fun j=>if p j=true then sumK E pts f k j else 0) (h:=fun j=>if j=labs E k then (if p j=true then f (pts.getD k (0,0)) else 0) else 0) (fun j _=>by
   rw [sumK_s]
   by_cases h1 : p j=true
   ·rw [if_pos h1,if_pos h1]
    by_cases h2 : labs E k=j
    ·rw [if_pos h2,if_pos h2.symm,if_pos h1]
    ·rw [if_neg h2,if_neg (Ne.symm h2)]
   ·rw [if_neg h1,if_neg h1]; simp [h1]),ih,sum_one (fun j=>if p j=true then f (pts.getD k (0,0)) else 0) hlk,List.range_succ,List.map_append,List.sum_append]
  simp
theorem servP_eq {E:Ed} {pts:List (Int×Int)} (hl : ∀ c,c < pts.length → labs E c < 8):((List.range 8).map fun j=>if leB (sumK E pts (·.2) pts.length j) (sumK E pts (·.1) pts.length j)=true then sumK E pts (·.2) pts.length j else 0).sum=servP E pts:=by
 rw [swap_sum E pts (·.2) (fun j=>leB (sumK E pts (·.2) pts.length j) (sumK E pts (·.1) pts.length j)) hl pts.length (Nat.le_refl _)]
 unfold servP
 refine sum_same fun b hb=>?_
 rw [sumE_K,sumE_K]
 by_cases h : sumK E pts (·.2) pts.length (labs E b) ≤ sumK E pts (·.1) pts.length (labs E b)
 ·rw [if_pos h,if_pos (show leB _ _=true from decide_eq_true h)]
 ·rw [if_neg h,if_neg (by simp only [leB,decide_eq_true_eq]; exact h)]
theorem labs_lt8 {b:Int} {ls:List Ln} {pts:List (Int×Int)} (h:BusOk b ls pts) (E:Ed) : ∀ c,c < pts.length → labs E c < 8:=by
 intro c hc
 have h1:=(labs_fix E).1 c
 have:=(b_len h).1
 omega
theorem iServed {b:Int} {ls:List Ln} {on:List Bool} {pts:List (Int×Int)} (h1:StOk b ls on) (h2:BusOk b ls pts) : m_impl_servedLoad b ls on pts=some (servP (onE ls on) pts):=by
 have hl8:=labs_lt8 h2 (onE ls on)
 obtain ⟨b1,b2⟩:=b_len h2
 unfold m_impl_servedLoad
 rw [iSums h1 h2,Option.bind_some,← servP_eq hl8]
 have hb : ∀ j,0 ≤ sumK (onE ls on) pts (·.2) pts.length j∧sumK (onE ls on) pts (·.2) pts.length j ≤ 7992:=fun j=>by
  have:=sumK_bound (onE ls on) pts (·.2) (fun c hc=>(h2.bs c hc).2) j pts.length (Nat.le_refl _); omega
 generalize hS : sumK (onE ls on) pts (·.2) pts.length=S at *
 generalize sumK (onE ls on) pts (·.1) pts.length=F at *
 have hbd : ∀ k,0 ≤ ((List.range k).map fun j=>if leB (S j) (F j)=true then S j else 0).sum∧((List.range k).map fun j=>if leB (S j) (F j)=true then S j else 0).sum ≤ 7992 * k:=by
  intro k
  induction k with
  | zero=>simp
  | succ k ih =>
   have:=hb k
   rw [List.range_succ,List.map_append,List.sum_append]
   simp only [List.map_cons,List.map_nil,List.sum_cons,List.sum_nil]
   split <;> omega
 have hh:=loop_all (m_impl_servedLoad_l1 (t16 F S)) (fun k=>(((List.range k).map fun j=>if leB (S j) (F j)=true then S j else 0).sum,(k:Int))) 8 (some (((List.range 8).map fun j=>if leB (S j) (F j)=true then S j else 0).sum)) (by omega) (fun k fuel hk=>?_) (fun fuel=>?_)
 ·rw [show m_impl_servedLoad_l1 (t16 F S) FUEL (0,0)=_ from hh]; rfl
 ·rw [e_impl_servedLoad_l1,m_impl_servedLoad_l1s]
  have i1:=hbd k
  have i2:=hb k
  have w1 : w64 (((List.range k).map fun j=>if leB (S j) (F j)=true then S j else 0).sum+S k)=((List.range k).map fun j=>if leB (S j) (F j)=true then S j else 0).sum+S k:=w64_in (by omega) (by omega)
  have hlt : ltB (k:Int) 8=true:=decide_eq_true (by omega)
  dsimp only [t16]
  simp only [hlt,ix_dec hk,cond_true,chk_true,Int.toNat_natCast,get8 _ hk,w1,w64_succ (by omega : k < 4611686018427387904)]
  have e:((List.range (k+1)).map fun j=>if leB (S j) (F j)=true then S j else 0).sum=((List.range k).map fun j=>if leB (S j) (F j)=true then S j else 0).sum+(if leB (S k) (F k)=true then S k else 0):=by
   rw [List.range_succ,List.map_append,List.sum_append]; simp
  rw [e]
  cases leB (S k) (F k) <;> simp only [cond_false,cond_true,Option.bind_some,Bool.false_eq_true,if_false,if_true,Int.add_zero,Int.natCast_add,Int.natCast_one,Int.ofNat_one]
 ·rw [e_impl_servedLoad_l1,m_impl_servedLoad_l1s]; rfl
theorem servP_bound {b:Int} {ls:List Ln} {pts:List (Int×Int)} (h:BusOk b ls pts) (E:Ed) : 0 ≤ servP E pts∧servP E pts ≤ 7992:=by
 obtain ⟨b1,b2⟩:=b_len h
 have : ∀ k,k ≤ pts.length → 0 ≤ ((List.range k).map fun b=>if sumE E pts (·.2) b ≤ sumE E pts (·.1) b then (pts.getD b (0,0)).2 else 0).sum∧((List.range k).map fun b=>if sumE E pts (·.2) b ≤ sumE E pts (·.1) b then (pts.getD b (0,0)).2 else 0).sum ≤ 999 * k:=by
  intro k
  induction k with
  | zero=>intro _; simp
  | succ k ih =>
   intro hk
   have i1:=ih (by omega)
   have i2:=(h.bs k (by omega)).2
   rw [List.range_succ,List.map_append,List.sum_append]
   simp only [List.map_cons,List.map_nil,List.sum_cons,List.sum_nil]
   split <;> omega
 have h2:=this pts.length (Nat.le_refl _)
 unfold servP
 omega
section
variable {a c:List Bool} (hl : a.length=c.length) (ha : a.length ≤ 1048576)
include hl ha
theorem iChanges : m_impl_Changes a c=some (zl (chgs a c)):=by
 unfold m_impl_Changes
 have e:((a.length:Int) != (c.length:Int))=false:=by rw [hl]; simp
 rw [e]
 have hh:=loop_filter (m_impl_Changes_l1 a c) a.length (fun k=>a.getD k false != c.getD k false) some (by omega) (fun k fuel l hk hp=>?_) (fun fuel l=>?_)
 ·rw [hh]; rfl
 ·rw [e_impl_Changes_l1,m_impl_Changes_l1s]
  simp only [lt_dec hk,ix_dec hk,ix_dec (show k < c.length by omega),cond_true,chk_true,Int.toNat_natCast,hp,w64_succ (by omega : k < 4611686018427387904)]
  cases a.getD k false != c.getD k false <;> rfl
 ·rw [e_impl_Changes_l1,m_impl_Changes_l1s]; simp only [nlt_dec,cond_false]
end
theorem pow_shl {n:Nat} (h : n ≤ 10) : bitsShl .i64 1 (n:Int)=((2 ^ n:Nat):Int):=by
 have : n=0 ∨ n=1 ∨ n=2 ∨ n=3 ∨ n=4 ∨ n=5 ∨ n=6 ∨ n=7 ∨ n=8 ∨ n=9 ∨ n=10:=by omega
 rcases this with rfl | rfl | rfl | rfl | rfl | rfl | rfl | rfl | rfl | rfl | rfl <;> decide
theorem shr_nat {x k:Nat} (hk : k ≤ 64) : bitsShr .i64 (x:Int) (k:Int)=((x >>> k:Nat):Int):=by
 unfold bitsShr
 rw [show min (k:Int).toNat (IntKind.bits .i64)=k by rw [Int.toNat_natCast]; exact Nat.min_eq_left hk,Nat.shiftRight_eq_div_pow]
 rw [Int.fdiv_eq_ediv_of_nonneg _ (by exact Int.le_of_lt (Int.pow_pos (by decide)))]
 norm_cast
theorem and_one {x:Nat} (h : x < 4611686018427387904) : bitsAnd .i64 (x:Int) 1=((x % 2:Nat):Int):=by
 have e : bitsAnd .i64 (x:Int) 1=w64 ((BitVec.ofInt 64 (x:Int) &&& BitVec.ofInt 64 1).toNat:Int):=rfl
 have h1:(BitVec.ofInt 64 (x:Int)).toNat=x:=by rw [BitVec.ofInt_natCast,BitVec.toNat_ofNat,Nat.mod_eq_of_lt (by omega)]
 have h2:(BitVec.ofInt 64 1).toNat=1:=by decide
 rw [e,BitVec.toNat_and,h1,h2,Nat.and_one_is_mod,w64_in (by omega) (by omega)]
theorem bit_val {x k:Nat} (hx : x < 4611686018427387904) (hk : k ≤ 64):(bitsAnd .i64 (bitsShr .i64 (x:Int) (k:Int)) 1 == 1)=x.testBit k:=by
 have h1 : x >>> k ≤ x:=Nat.shiftRight_le x k
 rw [shr_nat hk,and_one (by omega)]
 rw [Nat.testBit,Nat.one_and_eq_mod_two]
 rcases Nat.mod_two_eq_zero_or_one (x >>> k) with h | h <;> rw [h] <;> rfl
theorem iStateOf {x n : Nat} (hx : x < 4611686018427387904) (hn : n ≤ 10) : m_impl_stateOf (x : Int) (n : Int) = some (stOf n x) := by
  unfold m_impl_stateOf
  have hm : mkB (n : Int) = true := by simp [mkB]; omega
  rw [hm, chk_true, Int.toNat_natCast]
  have hh := loop_all (m_impl_stateOf_l1 (x : Int) (n : Int)) (fun k => (mix n k (fun i => x.testBit i) (fun _ => false), (k : Int))) n (some (stOf n x)) (by omega) (fun k fuel hk => ?_) (fun fuel => ?_)
  · have e : mix n 0 (fun i => x.testBit i) (fun _ => false) = List.replicate n false := by
      apply List.ext_getElem (by simp [mix])
      intro i h1 h2
      simp [mix]
    rw [e] at hh
    rw [show m_impl_stateOf_l1 (x : Int) (n : Int) FUEL (List.replicate n false, 0) = _ from hh]; rfl
  · rw [e_impl_stateOf_l1, m_impl_stateOf_l1s]
    have hnn : nnB (k : Int) = true := by simp [nnB]
    simp only [Int.toNat_natCast, lt_dec hk, hnn, ix_dec hk, cond_true, chk_true, bit_val hx (by omega : k ≤ 64), w64_succ (by omega : k < 4611686018427387904)]
    rw [mix_set (f := fun i => x.testBit i) (g := fun _ => false) hk]
  · rw [e_impl_stateOf_l1, m_impl_stateOf_l1s]
    simp only [Int.toNat_natCast, nlt_dec, cond_false]
    congr 1
    unfold mix stOf
    refine List.map_congr_left fun i hi => ?_
    rw [if_pos (by simpa using hi)]
def encB (E:List Bool → Int) (C:List Bool → Nat):Option (List Bool) → List Bool×Int×Int
 | none=>([],-1,0)
 | some y=>(y,E y,(C y:Int))
def outB:Option (List Bool) → List Bool×Bool
 | none=>([],false)
 | some y=>(y,true)
theorem and_zero (x:Int) : bitsAnd .i64 x 0=0:=by
 unfold bitsAnd
 rw [show BitVec.ofInt (IntKind.bits .i64) 0=0#(IntKind.bits .i64) from rfl,BitVec.and_zero]; rfl
section
variable {ls:List Ln} {on:List Bool} {pts:List (Int×Int)} (h1:StOk (pts.length:Int) ls on) (h2:BusOk (pts.length:Int) ls pts) (h0 : 1 ≤ ls.length)
include h1 h2 h0
theorem bst_facts (num:Nat):StOk (pts.length:Int) ls (stOf ls.length num)∧(on.length=(stOf ls.length num).length)∧okV (pts.length:Int) ls (stOf ls.length num) pts=true:=by
 have e:(stOf ls.length num).length=ls.length:=stOf_len _ _
 have hs:StOk (pts.length:Int) ls (stOf ls.length num):=⟨h1.net,e⟩
 exact ⟨hs,h1.len.trans e.symm,okV_iff.2 ⟨hs,h2⟩⟩
theorem best_succ (num:Nat) : bestOf (fun x=>goodP ls x pts) (fun x=>servP (onE ls x) pts) (fun x=>(chgs on x).length) ((List.range (num+1)).map (stOf ls.length))=bstep (fun x=>goodP ls x pts) (fun x=>servP (onE ls x) pts) (fun x=>(chgs on x).length) (bestOf (fun x=>goodP ls x pts) (fun x=>servP (onE ls x) pts) (fun x=>(chgs on x).length) ((List.range num).map (stOf ls.length))) (stOf ls.length num):=by
 rw [List.range_succ,List.map_append]; exact bestOf_snoc _ _ _ _ _
theorem iBest : m_impl_BestState (pts.length:Int) ls on pts []=some (outB (bestP ls on pts)):=by
 have hll:=h1.net.ll; have hB:=h1.net.b1; have hl:=h1.len
 have hp : 2 ^ ls.length ≤ 1024:=by
  have:=Nat.pow_le_pow_right (show 0 < 2 by decide) hll
  omega
 unfold m_impl_BestState
 have l1 : m_impl_BestState_l1 (pts.length:Int) ls [] FUEL (0,0)=some 0:=by rw [FUEL_succ]; rfl
 have hnn : nnB (ls.length:Int)=true:=by simp [nnB]
 rw [iFed _ ls pts (by omega),okV_iff.2 ⟨h1,h2⟩,Option.bind_some,cond_true,l1,Option.bind_some,hnn,chk_true]
 have hh:=loop_all (m_impl_BestState_l2 (pts.length:Int) ls on pts 0) (fun num=>((encB (fun x=>servP (onE ls x) pts) (fun x=>(chgs on x).length) (bestOf (fun x=>goodP ls x pts) (fun x=>servP (onE ls x) pts) (fun x=>(chgs on x).length) ((List.range num).map (stOf ls.length)))).1,(encB (fun x=>servP (onE ls x) pts) (fun x=>(chgs on x).length) (bestOf (fun x=>goodP ls x pts) (fun x=>servP (onE ls x) pts) (fun x=>(chgs on x).length) ((List.range num).map (stOf ls.length)))).2.1,(encB (fun x=>servP (onE ls x) pts) (fun x=>(chgs on x).length) (bestOf (fun x=>goodP ls x pts) (fun x=>servP (onE ls x) pts) (fun x=>(chgs on x).length) ((List.range num).map (stOf ls.length)))).2.2,(num:Int))) (2 ^ ls.length)
  (some (encB (fun x=>servP (onE ls x) pts) (fun x=>(chgs on x).length) (bestP ls on pts)).1) (by omega) (fun num fuel hk=>?_) (fun fuel=>?_)
 ·rw [show m_impl_BestState_l2 (pts.length:Int) ls on pts 0 FUEL (([]:List Bool),-1,0,0)=_ from hh,Option.bind_some]
  cases hb : bestP ls on pts with
  | none=>rfl
  | some y =>
   have:=(bestP_good hb).1
   cases y with
   | nil=>simp at this; omega
   | cons z y=>rfl
 ·rw [e_impl_BestState_l2,m_impl_BestState_l2s,best_succ h1 h2 h0]
  obtain ⟨f1,f2,f3⟩:=bst_facts h1 h2 h0 num
  have hsv:=servP_bound h2 (onE ls (stOf ls.length num))
  have hcl:(zl (chgs on (stOf ls.length num))).length=(chgs on (stOf ls.length num)).length:=zl_len _
  have hlt : ltB (num:Int) ((2 ^ ls.length:Nat):Int)=true:=lt_dec hk
  have hne:(!(List.isEmpty (stOf ls.length num)))=true:=by
   have:(stOf ls.length num).length=ls.length:=stOf_len _ _
   cases hst : stOf ls.length num with
   | nil=>rw [hst] at this; simp at this; omega
   | cons=>rfl
  simp only [pow_shl hll,hlt,cond_true,and_zero,iStateOf (show num < 4611686018427387904 by omega) hll,Option.bind_some,iServed f1 h2,iChanges f2 (by omega),iNetGood _ ls _ pts (by omega),f3,Bool.true_and,hcl,hne,chk_true,w64_succ (by omega : num < 4611686018427387904)]
  generalize bestOf (fun x=>goodP ls x pts) (fun x=>servP (onE ls x) pts) (fun x=>(chgs on x).length) ((List.range num).map (stOf ls.length))=a
  have e0:((0:Int) != 0)=false:=rfl
  simp only [e0,cond_false]
  cases a with
  | none =>
   dsimp only [encB]
   have c1 : ltB (servP (onE ls (stOf ls.length num)) pts) (-1)=false:=decide_eq_false (by omega)
   have c2 : ltB (-1) (servP (onE ls (stOf ls.length num)) pts)=true:=decide_eq_true (by omega)
   have hb : bstep (fun x=>goodP ls x pts) (fun x=>servP (onE ls x) pts) (fun x=>(chgs on x).length) none (stOf ls.length num)=if goodP ls (stOf ls.length num) pts=true then some (stOf ls.length num) else none:=by
    unfold bstep better; simp only [Bool.and_true]
   simp only [c1,c2,cond_false,Bool.true_or,gb_true,Option.bind_some,Bool.true_and,hb]
   generalize goodP ls (stOf ls.length num) pts=g
   cases g <;> rfl
  | some z =>
   have hb : bstep (fun x=>goodP ls x pts) (fun x=>servP (onE ls x) pts) (fun x=>(chgs on x).length) (some z) (stOf ls.length num)=if (goodP ls (stOf ls.length num) pts && (decide (servP (onE ls z) pts < servP (onE ls (stOf ls.length num)) pts) || (decide (servP (onE ls z) pts=servP (onE ls (stOf ls.length num)) pts) && decide ((chgs on (stOf ls.length num)).length < (chgs on z).length))))=true then some (stOf ls.length num) else some z:=rfl
   rw [hb]
   dsimp only [encB]
   generalize goodP ls (stOf ls.length num) pts=g
   by_cases c1 : servP (onE ls (stOf ls.length num)) pts < servP (onE ls z) pts
   ·have d1 : decide (servP (onE ls z) pts < servP (onE ls (stOf ls.length num)) pts)=false:=decide_eq_false (by omega)
    have d2 : decide (servP (onE ls z) pts=servP (onE ls (stOf ls.length num)) pts)=false:=decide_eq_false (by omega)
    rw [show ltB (servP (onE ls (stOf ls.length num)) pts) (servP (onE ls z) pts)=true from decide_eq_true c1]
    simp only [cond_true,Option.bind_some,d1,d2,Bool.false_and,Bool.or_self,Bool.and_false,Bool.false_eq_true,if_false]
   ·rw [show ltB (servP (onE ls (stOf ls.length num)) pts) (servP (onE ls z) pts)=false from decide_eq_false c1]
    have d3:(ltB (servP (onE ls z) pts) (servP (onE ls (stOf ls.length num)) pts) || ltB ((chgs on (stOf ls.length num)).length:Int) ((chgs on z).length:Int))=(decide (servP (onE ls z) pts < servP (onE ls (stOf ls.length num)) pts) || (decide (servP (onE ls z) pts=servP (onE ls (stOf ls.length num)) pts) && decide ((chgs on (stOf ls.length num)).length < (chgs on z).length))):=by
     rw [Bool.eq_iff_iff]; simp only [ltB,Bool.or_eq_true,Bool.and_eq_true,decide_eq_true_eq]; omega
    simp only [cond_false,d3]
    generalize (decide (servP (onE ls z) pts < servP (onE ls (stOf ls.length num)) pts) || (decide (servP (onE ls z) pts=servP (onE ls (stOf ls.length num)) pts) && decide ((chgs on (stOf ls.length num)).length < (chgs on z).length)))=d
    cases d <;> cases g <;> rfl
 ·rw [e_impl_BestState_l2,m_impl_BestState_l2s]
  simp only [pow_shl hll,nlt_dec,cond_false]
  rfl
end
theorem ap_small {m n:Nat} (h : m+n ≤ 1099511627776) : apB m n=true:=by simp only [apB,decide_eq_true_eq]; omega
def ordTo (a b:List Bool):List (Int×Bool):=(((List.range a.length).filter fun i=>a.getD i false && !b.getD i false).map fun (i:Nat)=>((i:Int),false))++(((List.range a.length).filter fun i=>b.getD i false && !a.getD i false).map fun (i:Nat)=>((i:Int),true))
def gat (n:Nat) (p:Nat → Bool) (t:Bool):List (Int×Bool):=((List.range n).filter p).map fun (i:Nat)=>((i:Int),t)
theorem gat_s (n:Nat) (p:Nat → Bool) (t:Bool) : gat (n+1) p t=if p n then gat n p t++[((n:Int),t)] else gat n p t:=by
 unfold gat
 rw [List.range_succ,List.filter_append,List.filter_cons,List.filter_nil]
 cases p n <;> simp
theorem gat_len (n:Nat) (p:Nat → Bool) (t:Bool):(gat n p t).length ≤ n:=by
 unfold gat
 rw [List.length_map]
 have:=List.length_filter_le p (List.range n)
 rwa [List.length_range] at this
section
variable {a c:List Bool} (hl : a.length=c.length) (ha : a.length ≤ 10)
include hl ha
theorem iOrder : m_impl_OrderTo a c=some (ordTo a c):=by
 unfold m_impl_OrderTo
 have e:((a.length:Int) != (c.length:Int))=false:=by rw [hl]; simp
 have e2 : ltB 10 (a.length:Int)=false:=decide_eq_false (by omega)
 rw [e,e2]
 have hh:=loop_all (m_impl_OrderTo_l1 a c) (fun k=>(gat k (fun i=>a.getD i false && !c.getD i false) false,gat k (fun i=>c.getD i false && !a.getD i false) true,(k:Int))) a.length (some (gat a.length (fun i=>a.getD i false && !c.getD i false) false,gat a.length (fun i=>c.getD i false && !a.getD i false) true)) (by omega) (fun k fuel hk=>?_) (fun fuel=>?_)
 ·have g1:=gat_len a.length (fun i=>a.getD i false && !c.getD i false) false
  have g2:=gat_len a.length (fun i=>c.getD i false && !a.getD i false) true
  have ap : apB (gat a.length (fun i=>a.getD i false && !c.getD i false) false).length (gat a.length (fun i=>c.getD i false && !a.getD i false) true).length=true:=ap_small (by omega)
  simp only [Bool.or_self,cond_false]
  rw [show m_impl_OrderTo_l1 a c FUEL (([]:List (Int×Bool)),([]:List (Int×Bool)),0)=_ from hh,Option.bind_some,ap]; rfl
 ·rw [e_impl_OrderTo_l1,m_impl_OrderTo_l1s]
  have g1:=gat_len k (fun i=>a.getD i false && !c.getD i false) false
  have g2:=gat_len k (fun i=>c.getD i false && !a.getD i false) true
  have p1 : ∀ x:Int×Bool,apB (gat k (fun i=>a.getD i false && !c.getD i false) false).length ([x]:List (Int×Bool)).length=true:=fun x=>ap_small (by simp only [List.length_singleton]; omega)
  have p2 : ∀ x:Int×Bool,apB (gat k (fun i=>c.getD i false && !a.getD i false) true).length ([x]:List (Int×Bool)).length=true:=fun x=>ap_small (by simp only [List.length_singleton]; omega)
  simp only [lt_dec hk,ix_dec hk,ix_dec (show k < c.length by omega),cond_true,chk_true,Bool.or_true,Int.toNat_natCast,p1,p2,gat_s,w64_succ (by omega : k < 4611686018427387904)]
  cases a.getD k false <;> cases c.getD k false <;> rfl
 ·rw [e_impl_OrderTo_l1,m_impl_OrderTo_l1s]; simp only [nlt_dec,cond_false]
end
def restO (on:List Bool):Option (List Bool) → List (Int×Bool)×Bool
 | none=>([],false)
 | some y=>(ordTo on y,true)
section
variable {ls:List Ln} {on:List Bool} {pts:List (Int×Int)} (h1:StOk (pts.length:Int) ls on) (h2:BusOk (pts.length:Int) ls pts) (h0 : 1 ≤ ls.length)
include h1 h2 h0
theorem iRestore : m_impl_RestoreOrder (pts.length:Int) ls on pts []=some (restO on (bestP ls on pts)):=by
 have hll:=h1.net.ll; have hl:=h1.len
 unfold m_impl_RestoreOrder
 rw [iBest h1 h2 h0,Option.bind_some]
 cases hb : bestP ls on pts with
 | none=>rfl
 | some y =>
  have hy:=(bestP_good hb).1
  dsimp only [outB,restO]
  rw [iOrder (hl.trans hy.symm) (by omega)]; rfl
end
end Go.Proofs.YtjdlgannencchaaGreatDoor
namespace Go.Proofs.YtjdlgannencchaaGreatDoor
set_option linter.unusedVariables false
set_option linter.unusedSimpArgs false
section
variable (on earth:List Bool) (pm:Pm) (line:Int) (ho : on.length ≤ 1048576) (hp : pm.length ≤ 1048576)
include ho hp
theorem sHeld : m_spec_WorkHeld on earth pm line=some (if workV on earth pm then heldOf pm line else []):=by
 unfold m_spec_WorkHeld
 cases hv : workV on earth pm
 ·rw [FUEL_succ,e_spec_WorkHeld_l1,m_spec_WorkHeld_l1s]
  simp only [sValid on earth pm ho hp,hv]
  cases ltB (0:Int) (pm.length:Int) <;> simp [gb]
 ·have h:=loop_all (m_spec_WorkHeld_l1 on earth pm line) (fun k=>(heldOf (pm.take k) line,(k:Int))) pm.length (some (heldOf pm line)) (by omega) (fun k fuel hk=>?_) (fun fuel=>?_)
  ·rw [show (([]:List Int),(0:Int))=(heldOf (pm.take 0) line,((0:Nat):Int)) from rfl,h]; rfl
  ·rw [e_spec_WorkHeld_l1,m_spec_WorkHeld_l1s]
   have hb:=held_len (pm.take k) line
   have ha : ∀ x:Int,apB (heldOf (pm.take k) line).length [x].length=true:=fun x=>by simp [apB]; simp at hb; omega
   simp only [lt_dec hk,ix_dec hk,chk_true,cond_true,Int.toNat_natCast,sValid on earth pm ho hp,hv,gb,Option.bind_some,Bool.and_self,ha,w64_succ (by omega : k < 4611686018427387904)]
   rw [held_step hk]
   cases (pm.getD k (0,0)).2 == line <;> rfl
  ·rw [e_spec_WorkHeld_l1,m_spec_WorkHeld_l1s]; simp [nlt_dec,gb]
theorem iHeld : m_impl_WorkHeld on earth pm line=some (if workV on earth pm then heldOf pm line else []):=by
 unfold m_impl_WorkHeld
 rw [iValid on earth pm ho hp]
 cases hv : workV on earth pm
 ·rfl
 ·have h:=loop_all (m_impl_WorkHeld_l1 pm line) (fun k=>(heldOf (pm.take k) line,(k:Int))) pm.length (some (heldOf pm line)) (by omega) (fun k fuel hk=>?_) (fun fuel=>?_)
  ·simp only [Option.bind_some,cond_true]
   rw [show (([]:List Int),(0:Int))=(heldOf (pm.take 0) line,((0:Nat):Int)) from rfl,h]; rfl
  ·rw [e_impl_WorkHeld_l1,m_impl_WorkHeld_l1s]
   have hb:=held_len (pm.take k) line
   have ha : ∀ x:Int,apB (heldOf (pm.take k) line).length [x].length=true:=fun x=>by simp [apB]; simp at hb; omega
   simp only [lt_dec hk,ix_dec hk,chk_true,cond_true,Int.toNat_natCast,ha,w64_succ (by omega : k < 4611686018427387904)]
   rw [held_step hk]
   cases (pm.getD k (0,0)).2 == line <;> rfl
  ·rw [e_impl_WorkHeld_l1,m_impl_WorkHeld_l1s]; simp [nlt_dec]
end
section
variable (w:Wk) (kd a who:Int) (ho : w.1.length ≤ 1048576) (he : w.2.1.length ≤ 1048576) (hp : w.2.2.length ≤ 1048576)
include ho hp he
omit he in
theorem iMayP (hv : workV w.1 w.2.1 w.2.2=true) (ha : 0 ≤ a∧a < (w.1.length:Int)) : m_impl_Work_may w.1 w.2.1 w.2.2 kd a who=some (wkMay w kd a who):=by
 have ok:=workV_iff.1 hv
 have c1 : ixB a w.1.length=true:=decide_eq_true (by omega)
 have c2 : ixB a w.2.1.length=true:=decide_eq_true (by have:=ok.le; omega)
 unfold m_impl_Work_may wkMay
 rw [c1,c2,iHas _ _ _ (by omega),iHeld _ _ _ _ ho hp,hv]
 simp only [chk_true,Option.bind_some,if_true,nil_dec]
 by_cases k0 : kd=0
 ·subst k0; simp
 by_cases k1 : kd=1
 ·subst k1; simp
 by_cases k2 : kd=2
 ·subst k2; simp
 by_cases k3 : kd=3
 ·subst k3; cases w.2.1.getD a.toNat false <;> simp
 by_cases k4 : kd=4
 ·subst k4
  simp only [show ((4:Int) == 0)=false from rfl,show ((4:Int) == 2)=false from rfl,show ((4:Int) == 1)=false from rfl,show ((4:Int) == 3)=false from rfl,show ((4:Int) == 4)=true from rfl,cond_false,cond_true,Option.bind_some]
  rw [if_neg (by omega),if_neg (by omega),if_neg (by omega),if_pos trivial,inB_le]
  have c6 : ltB (w.2.2.length:Int) 6=decide (w.2.2.length < 6):=by simp only [ltB]; exact decide_eq_decide.2 (by omega)
  rw [c6]
  cases w.2.1.getD a.toNat false <;> cases decide ((who,a) ∈ w.2.2) <;> simp
 by_cases k5 : kd=5
 ·subst k5; simp
 ·have e0:(kd == 0)=false:=by simpa using k0
  have e1:(kd == 1)=false:=by simpa using k1
  have e2:(kd == 2)=false:=by simpa using k2
  have e3:(kd == 3)=false:=by simpa using k3
  have e4:(kd == 4)=false:=by simpa using k4
  have e5:(kd == 5)=false:=by simpa using k5
  simp [k0,k1,k2,k3,k4,k5,e0,e1,e2,e3,e4,e5]
omit he in
theorem sMayP (hv : workV w.1 w.2.1 w.2.2=true) (ha : 0 ≤ a∧a < (w.1.length:Int)) : m_spec_l12May w.1 w.2.1 w.2.2 kd a who=some (wkMay w kd a who):=by
 have ok:=workV_iff.1 hv
 have c1 : ixB a w.1.length=true:=decide_eq_true (by omega)
 have c2 : ixB a w.2.1.length=true:=decide_eq_true (by have:=ok.le; omega)
 have c3 : ltB (fnd w.2.2 (who,a)) 0=!decide ((who,a) ∈ w.2.2):=by rw [← fnd_mem]; rw [Bool.eq_iff_iff]; simp [ltB,leB]
 unfold m_spec_l12May wkMay m_spec_l1In
 rw [c1,c2,sFind _ _ _ (by omega),sHeld _ _ _ _ ho hp,hv]
 simp only [chk_true,Option.bind_some,if_true,nil_dec,Bool.or_true,c3,fnd_mem]
 by_cases k0 : kd=0
 ·subst k0; simp
 by_cases k1 : kd=1
 ·subst k1; simp
 by_cases k2 : kd=2
 ·subst k2; simp
 by_cases k3 : kd=3
 ·subst k3; cases w.2.1.getD a.toNat false <;> simp
 by_cases k4 : kd=4
 ·subst k4
  simp only [show ((4:Int) == 0)=false from rfl,show ((4:Int) == 2)=false from rfl,show ((4:Int) == 1)=false from rfl,show ((4:Int) == 3)=false from rfl,show ((4:Int) == 4)=true from rfl,cond_false,cond_true,Option.bind_some]
  rw [if_neg (by omega),if_neg (by omega),if_neg (by omega),if_pos trivial,inB_le]
  have c6 : ltB (w.2.2.length:Int) 6=decide (w.2.2.length < 6):=by simp only [ltB]; exact decide_eq_decide.2 (by omega)
  rw [c6]
  cases w.2.1.getD a.toNat false <;> simp [gb,Bool.and_assoc]
 by_cases k5 : kd=5
 ·subst k5; simp
 ·have e0:(kd == 0)=false:=by simpa using k0
  have e1:(kd == 1)=false:=by simpa using k1
  have e2:(kd == 2)=false:=by simpa using k2
  have e3:(kd == 3)=false:=by simpa using k3
  have e4:(kd == 4)=false:=by simpa using k4
  have e5:(kd == 5)=false:=by simpa using k5
  simp [k0,k1,k2,k3,k4,k5,e0,e1,e2,e3,e4,e5]
theorem wcloneP : m_impl_Work_clone w.1 w.2.1 w.2.2=some w:=by
 have a1 : apB ([]:List Bool).length w.1.length=true:=by simp [apB]; omega
 have a2 : apB ([]:List Bool).length w.2.1.length=true:=by simp [apB]; omega
 have a3 : apB ([]:Pm).length w.2.2.length=true:=by simp [apB]; omega
 simp only [m_impl_Work_clone,m_slices_Clone_bool_bool,m_slices_Clone_impl_Permit_impl_Permit,a1,a2,a3,chk_true,Option.bind_some]
theorem wcopyP : m_spec_l12Copy w.1 w.2.1 w.2.2=some w:=by
 have a1 : apB ([]:List Bool).length w.1.length=true:=by simp [apB]; omega
 have a2 : apB ([]:List Bool).length w.2.1.length=true:=by simp [apB]; omega
 have a3 : apB ([]:Pm).length w.2.2.length=true:=by simp [apB]; omega
 simp only [m_spec_l12Copy,m_spec_l2Copy,a1,a2,a3,chk_true,Option.bind_some,List.nil_append]
theorem iDo : m_impl_WorkDo w.1 w.2.1 w.2.2 kd a who=some (out4w (wkDo w kd a who)):=by
 unfold m_impl_WorkDo wkDo
 rw [iValid _ _ _ ho hp]
 cases hv : workV w.1 w.2.1 w.2.2
 ·rfl
 have ok:=workV_iff.1 hv
 simp only [Option.bind_some,cond_true,if_true,wcloneP w ho he hp]
 by_cases ha : 0 ≤ a∧a < (w.1.length:Int)
 ·have c0:(ltB a 0 || leB (w.1.length:Int) a)=false:=by simp [ltB,leB]; omega
  have c1 : ixB a w.1.length=true:=decide_eq_true (by omega)
  have c2 : ixB a w.2.1.length=true:=decide_eq_true (by have:=ok.le; omega)
  simp only [c0,Bool.not_false,gb,cond_true,iMayP w kd a who ho hp hv ha,Option.bind_some,Bool.false_or]
  cases hm : wkMay w kd a who
  ·rw [if_neg (fun h=>by cases h.2.2)]; rfl
  rw [if_pos ⟨ha.1,ha.2,rfl⟩]
  simp only [Bool.not_true,cond_false]
  by_cases k0 : kd=0
  ·subst k0; simp [c1,wkPut,out4w]
  by_cases k1 : kd=1
  ·subst k1; simp [c1,wkPut,out4w]
  by_cases k2 : kd=2
  ·subst k2; simp [c2,wkPut,out4w]
  by_cases k3 : kd=3
  ·subst k3; simp [c2,wkPut,out4w]
  by_cases k4 : kd=4
  ·subst k4
   have a4 : apB w.2.2.length 1=true:=by simp [apB]; omega
   simp [wkPut,out4w,a4]
  by_cases k5 : kd=5
  ·subst k5
   have hmem:(who,a) ∈ w.2.2:=by simpa [wkMay] using hm
   rcases fnd_spec w.2.2 (who,a) with ⟨h1,h2⟩ | ⟨k,hk,h1,h2,h3⟩
   ·exact absurd hmem h2
   have wk : w64 ((k:Int)+1)=(k:Int)+1:=w64_in (by omega) (by omega)
   have b1 : slB (k:Int) ((k:Int)+1) w.2.2.length=true:=decide_eq_true (by omega)
   have b2 : slB 0 (k:Int) w.2.2.length=true:=decide_eq_true (by omega)
   have b3 : slB ((k:Int)+1) (w.2.2.length:Int) w.2.2.length=true:=decide_eq_true (by omega)
   have b4:((k:Int) == (k:Int)+1)=false:=by simp; omega
   have s1 : subL w.2.2 0 (k:Int)=w.2.2.take k:=by simp [subL]
   have s2 : subL w.2.2 ((k:Int)+1) (w.2.2.length:Int)=w.2.2.drop (k+1):=by
    unfold subL; rw [show ((k:Int)+1).toNat=k+1 by omega,List.take_of_length_le (by simp <;> omega)]
   have b5 : apB (w.2.2.take k).length (w.2.2.drop (k+1)).length=true:=by simp [apB]; omega
   simp only [show ((5:Int) == 0)=false from rfl,show ((5:Int) == 1)=false from rfl,show ((5:Int) == 2)=false from rfl,show ((5:Int) == 3)=false from rfl,show ((5:Int) == 4)=false from rfl,show ((5:Int) == 5)=true from rfl,cond_false,cond_true,Option.bind_some,iFind w.2.2 who a (by omega),h1,m_slices_Delete_impl_Permit_impl_Permit,wk,b1,b2,b3,b4,s1,s2,b5,chk_true]
   simp [wkPut,out4w,h1]
  ·exfalso
   simp [wkMay,k0,k1,k2,k3,k4,k5] at hm
 ·have c0:(ltB a 0 || leB (w.1.length:Int) a)=true:=by simp [ltB,leB]; omega
  rw [if_neg (fun h=>ha ⟨h.1,h.2.1⟩)]
  simp [c0,gb,out4w]
theorem sDo : m_spec_WorkDo w.1 w.2.1 w.2.2 kd a who=some (out4w (wkDo w kd a who)):=by
 unfold m_spec_WorkDo wkDo m_spec_l1In
 rw [sValid _ _ _ ho hp]
 cases hv : workV w.1 w.2.1 w.2.2
 ·rfl
 have ok:=workV_iff.1 hv
 have w1 : w64 ((w.1.length:Int) - 1)=(w.1.length:Int) - 1:=w64_in (by omega) (by omega)
 simp only [Option.bind_some,cond_true,if_true,wcopyP w ho he hp,w1]
 by_cases ha : 0 ≤ a∧a < (w.1.length:Int)
 ·have c0:(leB 0 a && leB a ((w.1.length:Int) - 1))=true:=by simp [leB]; omega
  have c1 : ixB a w.1.length=true:=decide_eq_true (by omega)
  have c2 : ixB a w.2.1.length=true:=decide_eq_true (by have:=ok.le; omega)
  simp only [c0,Bool.not_true,Bool.not_false,gb,cond_true,sMayP w kd a who ho hp hv ha,Option.bind_some,Bool.false_or]
  cases hm : wkMay w kd a who
  ·rw [if_neg (fun h=>by cases h.2.2)]; rfl
  rw [if_pos ⟨ha.1,ha.2,rfl⟩]
  simp only [Bool.not_true,cond_false]
  by_cases k0 : kd=0
  ·subst k0; simp [c1,wkPut,out4w]
  by_cases k1 : kd=1
  ·subst k1; simp [c1,wkPut,out4w]
  by_cases k2 : kd=2
  ·subst k2; simp [c2,wkPut,out4w]
  by_cases k3 : kd=3
  ·subst k3; simp [c2,wkPut,out4w]
  by_cases k4 : kd=4
  ·subst k4
   have a4 : apB w.2.2.length 1=true:=by simp [apB]; omega
   simp [wkPut,out4w,a4]
  by_cases k5 : kd=5
  ·subst k5
   have hmem:(who,a) ∈ w.2.2:=by simpa [wkMay] using hm
   rcases fnd_spec w.2.2 (who,a) with ⟨h1,h2⟩ | ⟨k,hk,h1,h2,h3⟩
   ·exact absurd hmem h2
   have wk : w64 ((k:Int)+1)=(k:Int)+1:=w64_in (by omega) (by omega)
   have b2 : slB 0 (k:Int) w.2.2.length=true:=decide_eq_true (by omega)
   have b3 : slB ((k:Int)+1) (w.2.2.length:Int) w.2.2.length=true:=decide_eq_true (by omega)
   have s1 : subL w.2.2 0 (k:Int)=w.2.2.take k:=by simp [subL]
   have s2 : subL w.2.2 ((k:Int)+1) (w.2.2.length:Int)=w.2.2.drop (k+1):=by
    unfold subL; rw [show ((k:Int)+1).toNat=k+1 by omega,List.take_of_length_le (by simp <;> omega)]
   have b5 : apB (w.2.2.take k).length (w.2.2.drop (k+1)).length=true:=by simp [apB]; omega
   simp only [show ((5:Int) == 0)=false from rfl,show ((5:Int) == 1)=false from rfl,show ((5:Int) == 2)=false from rfl,show ((5:Int) == 3)=false from rfl,show ((5:Int) == 4)=false from rfl,cond_false,cond_true,Option.bind_some,sFind w.2.2 who a (by omega),h1,wk,b2,b3,s1,s2,b5,chk_true]
   simp [wkPut,out4w,h1]
  ·exfalso
   simp [wkMay,k0,k1,k2,k3,k4,k5] at hm
 ·have c0:(leB 0 a && leB a ((w.1.length:Int) - 1))=false:=by simp [leB]; omega
  rw [if_neg (fun h=>ha ⟨h.1,h.2.1⟩)]
  simp [c0,gb,out4w]
end
end Go.Proofs.YtjdlgannencchaaGreatDoor
namespace Go.Proofs.YtjdlgannencchaaGreatDoor
set_option linter.unusedVariables false
set_option linter.unusedSimpArgs false
theorem cmp_less (a b:Int) : m_cmp_Less_int a b=some (ltB a b):=by
 simp [m_cmp_Less_int,m_cmp_isNaN_int,gb]
theorem mid_val {a b:Nat} (h : a+b < 4611686018427387904) : w64 (bitsShr .u64 (wk .u64 (w64 ((a:Int)+(b:Int)))) 1)=(((a+b) / 2:Nat):Int):=by
 have e1 : w64 ((a:Int)+(b:Int))=((a+b:Nat):Int):=by rw [w64_in (by omega) (by omega)]; omega
 have e2 : wk .u64 ((a+b:Nat):Int)=((a+b:Nat):Int):=by
  unfold wk IntKind.wrap
  have:(IntKind.u64).bits=64:=rfl
  simp only [this]
  first
   | (rw [Int.emod_eq_of_lt (by omega) (by omega)]; simp [IntKind.signed])
   | omega
 have e3 : bitsShr .u64 ((a+b:Nat):Int) 1=(((a+b) / 2:Nat):Int):=by
  unfold bitsShr
  rw [show min (1:Int).toNat (IntKind.bits .u64)=1 from rfl,Int.fdiv_eq_ediv_of_nonneg _ (by decide)]
  omega
 rw [e1,e2,e3,w64_in (by omega) (by omega)]
structure At (l:List Int) (x:Int) (p:Nat):Prop where
 le : p ≤ l.length
 lo : ∀ k,k < p → l.getD k 0 < x
 hi : ∀ k,p ≤ k → k < l.length → x ≤ l.getD k 0
theorem bs_loop (l:List Int) (x:Int) (hs : ∀ i j,i < j → j < l.length → l.getD i 0 < l.getD j 0) (hl : l.length ≤ 1048576) : ∀ (d lo hi fuel:Nat),hi - lo=d → d < fuel → lo ≤ hi → hi ≤ l.length → (∀ k,k < lo → l.getD k 0 < x) → (∀ k,hi ≤ k → k < l.length → x ≤ l.getD k 0) →
  ∃ p:Nat,m_slices_BinarySearch_int_int_l1 l x fuel ((lo:Int),(hi:Int))=some (p:Int)∧At l x p:=by
 intro d
 induction d using Nat.strongRecOn with
 | _ d ih =>
  intro lo hi fuel hd hf h1 h2 h3 h4
  obtain ⟨f,rfl⟩ : ∃ f,fuel=f+1:=⟨fuel - 1,by omega⟩
  rw [e_slices_BinarySearch_int_int_l1,m_slices_BinarySearch_int_int_l1s]
  dsimp only
  by_cases hlt : lo < hi
  ·have hm1 : lo ≤ (lo+hi) / 2:=by omega
   have hm2:(lo+hi) / 2 < hi:=by omega
   have hc : ltB (lo:Int) (hi:Int)=true:=decide_eq_true (by omega)
   rw [hc,mid_val (by omega)]
   simp only [cond_true,ix_dec (show (lo+hi) / 2 < l.length by omega),chk_true,Int.toNat_natCast,cmp_less,Option.bind_some,w64_succ (by omega:(lo+hi) / 2 < 4611686018427387904)]
   by_cases hx : l.getD ((lo+hi) / 2) 0 < x
   ·rw [show ltB (l.getD ((lo+hi) / 2) 0) x=true from decide_eq_true hx]
    simp only [cond_true,Option.bind_some]
    refine ih (hi - ((lo+hi) / 2+1)) (by omega) ((lo+hi) / 2+1) hi f rfl (by omega) (by omega) h2 (fun k hk=>?_) h4
    rcases Nat.lt_or_ge k ((lo+hi) / 2) with h | h
    ·have:=hs k _ h (by omega); omega
    ·have : k=(lo+hi) / 2:=by omega
     rw [this]; exact hx
   ·rw [show ltB (l.getD ((lo+hi) / 2) 0) x=false from decide_eq_false hx]
    simp only [cond_false,Option.bind_some]
    refine ih ((lo+hi) / 2 - lo) (by omega) lo ((lo+hi) / 2) f rfl (by omega) hm1 (by omega) h3 (fun k hk hk2=>?_)
    rcases Nat.lt_or_ge ((lo+hi) / 2) k with h | h
    ·have:=hs _ k h hk2; omega
    ·have : k=(lo+hi) / 2:=by omega
     rw [this]; omega
  ·have hc : ltB (lo:Int) (hi:Int)=false:=decide_eq_false (by omega)
   have : lo=hi:=by omega
   subst this
   exact ⟨lo,by rw [hc]; rfl,h2,h3,h4⟩
theorem sor_get {l:List Int} (h : l.Pairwise (·< ·)) : ∀ i j,i < j → j < l.length → l.getD i 0 < l.getD j 0:=by
 intro i j hij hj
 rw [getD_ge (by omega),getD_ge hj]
 exact List.pairwise_iff_getElem.1 h i j (by omega) hj hij
theorem at_mem {l:List Int} {x:Int} {p:Nat} (hs : l.Pairwise (·< ·)) (h:At l x p):(p < l.length∧l.getD p 0=x) ↔ x ∈ l:=by
 constructor
 ·rintro ⟨h1,h2⟩; rw [← h2,getD_ge h1]; exact List.getElem_mem h1
 ·intro hm
  obtain ⟨k,hk,e⟩:=List.getElem_of_mem hm
  have e2 : l.getD k 0=x:=by rw [getD_ge hk]; exact e
  have hk2 : p ≤ k:=by
   rcases Nat.lt_or_ge k p with h3 | h3
   ·have:=h.lo k h3; omega
   ·exact h3
  have h5:=h.hi p (Nat.le_refl p) (by omega)
  by_cases hpk : p=k
  ·subst hpk; exact ⟨hk,e2⟩
  ·have:=sor_get hs p k (by omega) hk; omega
theorem iBs {l:List Int} {x:Int} (hs : l.Pairwise (·< ·)) (hl : l.length ≤ 1048576) : ∃ p:Nat,m_slices_BinarySearch_int_int l x=some ((p:Int),decide (x ∈ l))∧At l x p:=by
 obtain ⟨p,h1,h2⟩:=bs_loop l x (sor_get hs) hl l.length 0 l.length FUEL (by omega) (fuel_gt (by omega)) (by omega) (Nat.le_refl _) (fun k hk=>by omega) (fun k h3 h4=>by omega)
 refine ⟨p,?_,h2⟩
 have hm:=at_mem hs h2
 have hle:=h2.le
 unfold m_slices_BinarySearch_int_int
 rw [show m_slices_BinarySearch_int_int_l1 l x FUEL (0,(l.length:Int))=_ from h1,Option.bind_some]
 by_cases hp : p < l.length
 ·have e1 : ltB (p:Int) (l.length:Int)=true:=decide_eq_true (by omega)
  have e2:(l.getD p 0 == x)=decide (x ∈ l):=by
   rw [Bool.eq_iff_iff,beq_iff_eq,decide_eq_true_eq,← hm]
   exact ⟨fun h=>⟨hp,h⟩,fun h=>h.2⟩
  simp only [e1,ix_dec hp,Bool.or_true,chk_true,Int.toNat_natCast,e2,m_slices_isNaN_int]
  cases decide (x ∈ l) <;> simp [gb]
 ·have e1 : ltB (p:Int) (l.length:Int)=false:=decide_eq_false (by omega)
  have e2 : decide (x ∈ l)=false:=decide_eq_false fun h=>hp (hm.2 h).1
  simp [e1,e2,gb,chk]
theorem at_ins {l:List Int} {x:Int} {p:Nat} (hs : l.Pairwise (·< ·)) (h:At l x p) (hx : x ∉ l) : l.take p++[x]++l.drop p=insS x l:=by
 have hlt : ∀ z ∈ l.take p,z < x:=by
  intro z hz
  obtain ⟨k,hk,rfl⟩:=List.getElem_of_mem hz
  rw [List.length_take] at hk
  rw [List.getElem_take,← getD_ge (d:=0)]
  exact h.lo k (by omega)
 have hgt : ∀ z ∈ l.drop p,x < z:=by
  intro z hz
  obtain ⟨k,hk,rfl⟩:=List.getElem_of_mem hz
  rw [List.length_drop] at hk
  have hm:(l.drop p)[k]'(by rw [List.length_drop]; exact hk) ∈ l:=List.mem_of_mem_drop (List.getElem_mem _)
  have h1:=h.hi (p+k) (by omega) (by omega)
  rw [getD_ge (by omega)] at h1
  rw [List.getElem_drop] at hm ⊢
  have : l[p+k] ≠ x:=fun e=>hx (e ▸ hm)
  omega
 refine sorted_ext ?_ (insS_sorted hs) (fun z=>?_)
 ·rw [List.append_assoc,List.pairwise_append]
  refine ⟨hs.sublist (List.take_sublist _ _),?_,fun a ha b hb=>?_⟩
  ·rw [List.singleton_append,List.pairwise_cons]
   exact ⟨hgt,hs.sublist (List.drop_sublist _ _)⟩
  ·rcases List.mem_append.1 hb with hb | hb
   ·simp at hb; subst hb; exact hlt a ha
   ·have:=hlt a ha; have:=hgt b hb; omega
 ·rw [insS_mem,List.mem_append,List.mem_append,List.mem_singleton]
  have : z ∈ l ↔ z ∈ l.take p ∨ z ∈ l.drop p:=by rw [← List.mem_append,List.take_append_drop]
  rw [this]
  constructor
  ·rintro ((h | h) | h)
   ·exact .inr (.inl h)
   ·exact .inl h
   ·exact .inr (.inr h)
  ·rintro (h | h | h)
   ·exact .inl (.inr h)
   ·exact .inl (.inl h)
   ·exact .inr h
theorem at_del {l:List Int} {x:Int} {p:Nat} (hs : l.Pairwise (·< ·)) (h:At l x p) (hx : x ∈ l) : l.take p++l.drop (p+1)=l.filter fun z=>z != x:=by
 obtain ⟨hp,he⟩:=(at_mem hs h).2 hx
 refine sorted_ext ?_ (hs.sublist List.filter_sublist) (fun z=>?_)
 ·rw [List.pairwise_append]
  refine ⟨hs.sublist (List.take_sublist _ _),hs.sublist (List.drop_sublist _ _),fun a ha b hb=>?_⟩
  have h2:(l.take p++l.drop p).Pairwise (·< ·):=by rw [List.take_append_drop]; exact hs
  exact (List.pairwise_append.1 h2).2.2 a ha b (by rw [List.drop_eq_getElem_cons hp]; exact List.mem_cons_of_mem _ hb)
 ·rw [List.mem_append,List.mem_filter]
  have e : l=l.take p++l[p] :: l.drop (p+1):=by rw [← List.drop_eq_getElem_cons hp,List.take_append_drop]
  have hpx : l[p]=x:=by rw [← getD_ge hp (d:=0)]; exact he
  have h2:(l.take p++l[p] :: l.drop (p+1)).Pairwise (·< ·):=by rw [← e]; exact hs
  have h3:=(List.pairwise_append.1 h2)
  have h4:=List.pairwise_cons.1 h3.2.1
  have hm : z ∈ l ↔ z ∈ l.take p ∨ z=x ∨ z ∈ l.drop (p+1):=by
   conv=>lhs; rw [e]
   rw [List.mem_append,List.mem_cons,hpx]
  rw [hm]
  simp only [bne_iff_ne,ne_eq]
  constructor
  ·rintro (h | h)
   ·exact ⟨.inl h,by have:=h3.2.2 z h l[p] List.mem_cons_self; omega⟩
   ·exact ⟨.inr (.inr h),by have:=h4.1 z h; omega⟩
  ·rintro ⟨h | h | h,hne⟩
   ·exact .inl h
   ·exact absurd h hne
   ·exact .inr h
end Go.Proofs.YtjdlgannencchaaGreatDoor
namespace Go.Proofs.YtjdlgannencchaaGreatDoor
set_option linter.unusedVariables false
set_option linter.unusedSimpArgs false
abbrev W7:=Int×List Ln×List (Int×Int)×List Bool×List Bool×Pm×List Int
def o7 (w:Wd):W7:=(w.b,w.ls,w.pts,w.on,w.earth,w.pm,w.br)
abbrev W8:=Int×List Ln×List (Int×Int)×List Bool×List Bool×Pm×List Int×Bool
def o8 (r:Wd×Bool):W8:=(r.1.b,r.1.ls,r.1.pts,r.1.on,r.1.earth,r.1.pm,r.1.br,r.2)
structure Sm (w:Wd):Prop where
 l : w.ls.length ≤ 1048576
 p : w.pts.length ≤ 1048576
 o : w.on.length ≤ 1048576
 e : w.earth.length ≤ 1048576
 m : w.pm.length ≤ 1048576
 b : w.br.length ≤ 1048576
theorem bl_of {w:Wd} (h:WdOk w) : w.br.length ≤ w.on.length:=by
 have h1 : ∀ k,k < w.br.length → (k:Int) ≤ w.br.getD k 0:=by
  intro k
  induction k with
  | zero =>
   intro hk
   have:=(h.inn (w.br.getD 0 0) (by rw [getD_ge hk]; exact List.getElem_mem hk)).1
   omega
  | succ k ih =>
   intro hk
   have h1:=ih (by omega)
   have h2:=adj_of_sorted h.sor hk
   omega
 rcases Nat.eq_zero_or_pos w.br.length with h0 | h0
 ·omega
 ·have h2:=h1 (w.br.length - 1) (by omega)
  have h3:=(h.inn (w.br.getD (w.br.length - 1) 0) (by rw [getD_ge (by omega)]; exact List.getElem_mem _)).1
  omega
theorem sm_of {w:Wd} (h:WdOk w):Sm w:=by
 have h1:=h.bus.net.ll; have h2:=h.bus.lp; have h3:=h.bus.net.b1; have h4:=h.work.l1; have h5:=h.work.le; have h6:=h.work.lp; have h7:=bl_of h
 simp only [Wd.wk] at h4 h5 h6
 exact ⟨by omega,by omega,by omega,by omega,by omega,by omega⟩
theorem radB_ok {w:Wd} (h:WdOk w) {on':List Bool} (hl : on'.length=w.ls.length) : radB w.b w.ls on' w.pts=radP w.ls on' w.pts:=by
 unfold radB
 rw [okV_iff.2 ⟨⟨h.bus.net,hl⟩,h.bus⟩]; rfl
theorem may_no {w:Wk} {kd a who:Int} (h : kd ≠ 0∧kd ≠ 1∧kd ≠ 2∧kd ≠ 3∧kd ≠ 4∧kd ≠ 5) : wkMay w kd a who=false:=by
 simp [wkMay,h.1,h.2.1,h.2.2.1,h.2.2.2.1,h.2.2.2.2.1,h.2.2.2.2.2]
theorem do_no {w:Wk} (hw:WOk w) {kd a who:Int} (h : kd ≠ 0∧kd ≠ 1∧kd ≠ 2∧kd ≠ 3∧kd ≠ 4∧kd ≠ 5):(wkDo w kd a who).2=false:=by
 rcases do_cases hw kd a who with ⟨_,_,h1,_⟩ | ⟨h1,_⟩
 ·rw [may_no h] at h1; cases h1
 ·rw [h1]
section
variable {w:Wd} (h:Sm w)
include h
theorem iClone7 : m_impl_World_clone w.b w.ls w.pts w.on w.earth w.pm w.br=some (o7 w):=by
 have a1 : apB ([]:List Ln).length w.ls.length=true:=by have:=h.l; simp [apB]; omega
 have a2 : apB ([]:List (Int×Int)).length w.pts.length=true:=by have:=h.p; simp [apB]; omega
 have a3 : apB ([]:List Int).length w.br.length=true:=by have:=h.b; simp [apB]; omega
 have:=wcloneP (w.on,w.earth,w.pm) h.o h.e h.m
 simp only [m_impl_World_clone,m_slices_Clone_impl_Line_impl_Line,m_slices_Clone_impl_Bus_impl_Bus,m_slices_Clone_int_int,a1,a2,a3,chk_true,Option.bind_some,this]
 rfl
theorem sCopy7 : m_spec_l39Copy w.b w.ls w.pts w.on w.earth w.pm w.br=some (o7 w):=by
 have a1 : apB ([]:List Ln).length w.ls.length=true:=by have:=h.l; simp [apB]; omega
 have a2 : apB ([]:List (Int×Int)).length w.pts.length=true:=by have:=h.p; simp [apB]; omega
 have a3 : apB ([]:List Int).length w.br.length=true:=by have:=h.b; simp [apB]; omega
 have:=wcopyP (w.on,w.earth,w.pm) h.o h.e h.m
 simp only [m_spec_l39Copy,a1,a2,a3,chk_true,Option.bind_some,List.nil_append,this]
 rfl
end
section
variable {w:Wd} (h:WdOk w) (kd a who:Int) (ha : 0 ≤ a∧a < (w.on.length:Int))
include h ha
theorem iWdo : ∃ st : W7, m_impl_World_do w.b w.ls w.pts w.on w.earth w.pm w.br kd a who = some ((wdDo w kd a who).2, st) ∧ ((wdDo w kd a who).2 = true → st = o7 (wdDo w kd a who).1) := by
  have sm := sm_of h
  obtain ⟨p, hp, hat⟩ := iBs (x := a) h.sor sm.b
  have hle := hat.le
  have hbl := sm.b
  have hix : ixB a w.on.length = true := decide_eq_true ha
  have hv := wv_iff.2 h
  unfold m_impl_World_do
  rw [hp, Option.bind_some]
  dsimp only
  by_cases k6 : kd = 6
  · subst k6
    by_cases hb : a ∈ w.br
    · have hf : wdDo w 6 a who = (w, false) := by
        unfold wdDo
        rw [if_pos hv, if_pos ha, if_neg (fun e => e.2 hb), if_neg (fun e => absurd e.1 (by decide)), if_neg (fun e => absurd e.1 (by decide)), if_neg (fun e => by rw [do_no h.work (by decide)] at e; cases e.1)]
      rw [hf]
      exact ⟨_, by rw [decide_eq_true hb]; rfl, fun e => by cases e⟩
    · have hf : wdDo w 6 a who = ({ w with on := w.on.set a.toNat false, br := insS a w.br }, true) := by
        unfold wdDo
        rw [if_pos hv, if_pos ha, if_pos ⟨rfl, hb⟩]
      rw [hf]
      have c1 : slB 0 (p : Int) w.br.length = true := decide_eq_true (by omega)
      have c2 : apB w.br.length 1 = true := by simp [apB]; omega
      refine ⟨_, ?_, fun _ => rfl⟩
      rw [decide_eq_false hb]
      simp only [cond_false, show ((6 : Int) == 6) = true from rfl, cond_true, m_slices_Insert_int_int, c1, c2, chk_true, List.length_singleton, show (((1 : Nat) : Int) == 1) = true from rfl, Option.bind_some, hix, Int.toNat_natCast, at_ins h.sor hat hb]
      rfl
  rw [show (kd == 6) = false from by simpa using k6, cond_false]
  by_cases k7 : kd = 7
  · subst k7
    have hh := iHas w.pm who a (by have := sm.m; omega)
    by_cases hb : a ∈ w.br
    · by_cases hm : (who, a) ∈ w.pm
      · have hf : wdDo w 7 a who = ({ w with br := w.br.filter fun x => x != a }, true) := by
          unfold wdDo
          rw [if_pos hv, if_pos ha, if_neg (fun e => absurd e.1 (by decide)), if_pos ⟨rfl, hb, hm⟩]
        rw [hf]
        obtain ⟨hpl, _⟩ := (at_mem h.sor hat).2 hb
        have wk : w64 ((p : Int) + 1) = (p : Int) + 1 := w64_in (by omega) (by omega)
        have b1 : slB (p : Int) ((p : Int) + 1) w.br.length = true := decide_eq_true (by omega)
        have b2 : slB 0 (p : Int) w.br.length = true := decide_eq_true (by omega)
        have b3 : slB ((p : Int) + 1) (w.br.length : Int) w.br.length = true := decide_eq_true (by omega)
        have b4 : ((p : Int) == (p : Int) + 1) = false := by simp; omega
        have s1 : subL w.br 0 (p : Int) = w.br.take p := by simp [subL]
        have s2 : subL w.br ((p : Int) + 1) (w.br.length : Int) = w.br.drop (p + 1) := by
          unfold subL; rw [show ((p : Int) + 1).toNat = p + 1 by omega, List.take_of_length_le (by simp <;> omega)]
        have b5 : apB (w.br.take p).length (w.br.drop (p + 1)).length = true := by simp [apB]; omega
        refine ⟨_, ?_, fun _ => rfl⟩
        rw [decide_eq_true hb, hh, decide_eq_true hm]
        simp only [show ((7 : Int) == 7) = true from rfl, cond_true, Bool.not_true, Bool.not_false, gb_true, Option.bind_some, Bool.or_self, cond_false, m_slices_Delete_int_int, wk, b1, b2, b3, b4, s1, s2, b5, chk_true, at_del h.sor hat hb]
        rfl
      · have hf : wdDo w 7 a who = (w, false) := by
          unfold wdDo
          rw [if_pos hv, if_pos ha, if_neg (fun e => absurd e.1 (by decide)), if_neg (fun e => hm e.2.2), if_neg (fun e => absurd e.1 (by decide)), if_neg (fun e => by rw [do_no h.work (by decide)] at e; cases e.1)]
        rw [hf]
        exact ⟨_, by rw [decide_eq_true hb, hh, decide_eq_false hm]; rfl, fun e => by cases e⟩
    · have hf : wdDo w 7 a who = (w, false) := by
        unfold wdDo
        rw [if_pos hv, if_pos ha, if_neg (fun e => absurd e.1 (by decide)), if_neg (fun e => hb e.2.1), if_neg (fun e => absurd e.1 (by decide)), if_neg (fun e => by rw [do_no h.work (by decide)] at e; cases e.1)]
      rw [hf]
      exact ⟨_, by rw [decide_eq_false hb]; rfl, fun e => by cases e⟩
  rw [show (kd == 7) = false from by simpa using k7, cond_false]
  have hdo := iDo w.wk kd a who sm.o sm.e sm.m
  have hlen := (wkDo_on h.work (kd := kd) (a := a) (who := who)).1
  have hrad : m_impl_Radial w.b w.ls (wkDo w.wk kd a who).1.1 w.pts = some (radP w.ls (wkDo w.wk kd a who).1.1 w.pts) := by
    rw [iRadial _ _ _ _ sm.p, radB_ok h (hlen.trans h.len)]
  by_cases k0 : kd = 0
  · subst k0
    by_cases hb : a ∈ w.br
    · have hf : wdDo w 0 a who = (w, false) := by
        unfold wdDo
        rw [if_pos hv, if_pos ha, if_neg (fun e => absurd e.1 (by decide)), if_neg (fun e => absurd e.1 (by decide)), if_pos ⟨rfl, hb⟩]
      rw [hf]
      exact ⟨_, by rw [decide_eq_true hb]; rfl, fun e => by cases e⟩
    · have hf : wdDo w 0 a who = if (wkDo w.wk 0 a who).2 = true ∧ radP w.ls (wkDo w.wk 0 a who).1.1 w.pts = true then (w.put (wkDo w.wk 0 a who).1, true) else (w, false) := by
        unfold wdDo
        rw [if_pos hv, if_pos ha, if_neg (fun e => absurd e.1 (by decide)), if_neg (fun e => absurd e.1 (by decide)), if_neg (fun e => hb e.2)]
      rw [hf]
      simp only [Wd.wk] at hdo
      rw [decide_eq_false hb]
      simp only [show ((0 : Int) == 0) = true from rfl, cond_true, cond_false, Option.bind_some, Sum.elim_inl, hdo, out4w, show ((0 : Int) != 0) = false from rfl, Bool.not_false, Bool.and_true, Bool.false_or]
      change ∃ st : W7, Option.bind (gb (wkDo w.wk 0 a who).2 (m_impl_Radial w.b w.ls (wkDo w.wk 0 a who).1.1 w.pts)) (fun p127 => some ((wkDo w.wk 0 a who).2 && p127, w.b, w.ls, w.pts, (wkDo w.wk 0 a who).1.1, (wkDo w.wk 0 a who).1.2.1, (wkDo w.wk 0 a who).1.2.2, w.br)) = _ ∧ _
      rw [hrad]
      cases h1 : (wkDo w.wk 0 a who).2
      · exact ⟨_, rfl, fun e => by cases e⟩
      · cases h2 : radP w.ls (wkDo w.wk 0 a who).1.1 w.pts
        · exact ⟨_, rfl, fun e => by cases e⟩
        · exact ⟨_, rfl, fun _ => rfl⟩
  · have hf : wdDo w kd a who = if (wkDo w.wk kd a who).2 = true ∧ radP w.ls (wkDo w.wk kd a who).1.1 w.pts = true then (w.put (wkDo w.wk kd a who).1, true) else (w, false) := by
      unfold wdDo
      rw [if_pos hv, if_pos ha, if_neg (fun e => k6 e.1), if_neg (fun e => k7 e.1), if_neg (fun e => k0 e.1)]
    rw [hf, wkDo_rad h k0]
    have e0 : (kd == 0) = false := by simpa using k0
    have e1 : (kd != 0) = true := by simpa using k0
    simp only [Wd.wk] at hdo
    simp only [e0, cond_false, Option.bind_some, Sum.elim_inl, hdo, out4w, e1, Bool.not_true, Bool.and_false, gb_false, Bool.true_or, Bool.and_true]
    change ∃ st : W7, some ((wkDo w.wk kd a who).2, w.b, w.ls, w.pts, (wkDo w.wk kd a who).1.1, (wkDo w.wk kd a who).1.2.1, (wkDo w.wk kd a who).1.2.2, w.br) = _ ∧ _
    cases h1 : (wkDo w.wk kd a who).2
    · exact ⟨_, rfl, fun e => by cases e⟩
    · exact ⟨_, rfl, fun _ => rfl⟩
end
theorem iWorldDo {w:Wd} (sm:Sm w) (kd a who:Int) : m_impl_WorldDo w.b w.ls w.pts w.on w.earth w.pm w.br kd a who=some (o8 (wdDo w kd a who)):=by
 unfold m_impl_WorldDo
 rw [iWv w.b w.ls w.pts w.on w.earth w.pm w.br sm.p sm.o sm.m sm.b,Option.bind_some]
 cases hv : wv w
 ·unfold wdDo
  rw [if_neg (by rw [hv]; decide)]
  rfl
 rw [cond_true,iClone7 sm,Option.bind_some]
 have h:=wv_iff.1 hv
 simp only [m_impl_Net_hasLine,Option.bind_some]
 by_cases ha : 0 ≤ a∧a < (w.on.length:Int)
 ·have hc:(leB 0 a && ltB a (w.ls.length:Int))=true:=by rw [← h.len]; simp [leB,ltB]; omega
  obtain ⟨st,h1,h2⟩:=iWdo h kd a who ha
  simp only [o7]
  rw [hc,cond_true,h1]
  cases hr:(wdDo w kd a who).2
  ·simp only [Option.bind_some,Bool.not_false,cond_true]
   have hs:=wdDo_same h hr
   have : wdDo w kd a who=(w,false):=Prod.ext hs hr
   rw [this]; rfl
  ·rw [h2 hr]
   simp only [Option.bind_some,Bool.not_true,cond_false,o7,o8,hr]
 ·have hc:(leB 0 a && ltB a (w.ls.length:Int))=false:=by rw [← h.len]; simp [leB,ltB]; omega
  have hf : wdDo w kd a who=(w,false):=by unfold wdDo; rw [if_pos hv,if_neg ha]
  rw [hc,hf]; rfl
def bkL (br:List Int) (a:Int) (k:Nat):List Int:=((List.range k).map fun (i:Nat)=>(i:Int)).filter fun i=>i == a || decide (i ∈ br)
theorem bkL_len (br:List Int) (a:Int) (k:Nat):(bkL br a k).length ≤ k:=by
 unfold bkL
 refine Nat.le_trans (List.length_filter_le _ _) ?_
 simp
theorem bkL_succ (br:List Int) (a:Int) (k:Nat) : bkL br a (k+1)=bif (k:Int) == a || decide ((k:Int) ∈ br) then bkL br a k++[(k:Int)] else bkL br a k:=by
 unfold bkL
 rw [List.range_succ,List.map_append,List.filter_append]
 cases hc:((k:Int) == a || decide ((k:Int) ∈ br)) <;> simp [List.filter_cons,hc]
theorem bkL_eq {w:Wd} (h:WdOk w) {a:Int} (ha : 0 ≤ a∧a < (w.on.length:Int)) : bkL w.br a w.on.length=insS a w.br:=by
 refine sorted_ext ?_ (insS_sorted h.sor) (fun x=>?_)
 ·refine List.Pairwise.sublist List.filter_sublist ?_
  rw [List.pairwise_map]
  exact List.pairwise_lt_range.imp (fun h=>by omega)
 ·unfold bkL
  rw [insS_mem,List.mem_filter,List.mem_map]
  simp only [List.mem_range,Bool.or_eq_true,beq_iff_eq,decide_eq_true_eq]
  constructor
  ·exact fun e=>e.2
  ·intro e
   refine ⟨?_,e⟩
   have : 0 ≤ x∧x < (w.on.length:Int):=by
    rcases e with rfl | e
    ·exact ha
    ·exact (h.inn x e).1
   exact ⟨x.toNat,by omega,by omega⟩
section
variable {w:Wd} (h:WdOk w) {a:Int} (ha : 0 ≤ a∧a < (w.on.length:Int))
include h ha
theorem sBreak : m_spec_l39Break w.b w.ls w.pts w.on w.earth w.pm w.br a=some (o7 { w with on:=w.on.set a.toNat false,br:=insS a w.br }):=by
 have sm:=sm_of h
 have ho:=sm.o; have hb:=sm.b
 have hix : ixB a w.on.length=true:=decide_eq_true ha
 have hh:=loop_all (m_spec_l39Break_l1 w.on w.br a) (fun k=>((k:Int),bkL w.br a k)) w.on.length (some (insS a w.br)) (by omega) (fun k fuel hk=>?_) (fun fuel=>?_)
 ·unfold m_spec_l39Break
  rw [sCopy7 sm]
  simp only [Option.bind_some,o7,hix,chk_true]
  rw [show m_spec_l39Break_l1 w.on w.br a FUEL (0,[])=_ from hh]
  rfl
 ·rw [e_spec_l39Break_l1,m_spec_l39Break_l1s]
  have hl:=bkL_len w.br a k
  have ap : apB (bkL w.br a k).length ([(k:Int)]:List Int).length=true:=by simp [apB]; omega
  simp only [lt_dec hk,cond_true,sHas w.br (k:Int) (by omega),w64_succ (by omega : k < 4611686018427387904),ap,chk_true]
  rw [bkL_succ]
  cases hc:((k:Int) == a)
  ·simp only [Bool.not_false,gb_true,Option.bind_some,Bool.false_or]
   cases decide ((k:Int) ∈ w.br) <;> rfl
  ·simp only [Bool.not_true,gb_false,Option.bind_some,Bool.true_or,cond_true]
 ·rw [e_spec_l39Break_l1,m_spec_l39Break_l1s]
  simp only [nlt_dec,cond_false,bkL_eq h ha]
omit ha in
theorem sMend : m_spec_l39Mend w.b w.ls w.pts w.on w.earth w.pm w.br a=some (o7 { w with br:=w.br.filter fun x=>x != a }):=by
 have sm:=sm_of h
 have hb:=sm.b
 have hh:=loop_all (m_spec_l39Mend_l1 w.br a) (fun k=>((k:Int),(w.br.take k).filter fun x=>x != a)) w.br.length (some (w.br.filter fun x=>x != a)) (by omega) (fun k fuel hk=>?_) (fun fuel=>?_)
 ·unfold m_spec_l39Mend
  rw [sCopy7 sm]
  simp only [Option.bind_some,o7]
  rw [show m_spec_l39Mend_l1 w.br a FUEL (0,[])=_ from hh]
  rfl
 ·rw [e_spec_l39Mend_l1,m_spec_l39Mend_l1s]
  have hl:=List.length_filter_le (fun x=>x != a) (w.br.take k)
  rw [List.length_take] at hl
  have ap : ∀ x:Int,apB ((w.br.take k).filter fun x=>x != a).length ([x]:List Int).length=true:=fun x=>by simp only [apB,decide_eq_true_eq,List.length_singleton]; omega
  simp only [lt_dec hk,ix_dec hk,cond_true,chk_true,Int.toNat_natCast,ap,w64_succ (by omega : k < 4611686018427387904)]
  rw [List.take_succ_eq_append_getElem hk,List.filter_append,← getD_ge hk (d:=(0:Int))]
  cases hc:(w.br.getD k 0 != a)
  ·simp only [List.filter_cons,List.filter_nil,hc,Bool.false_eq_true,if_false,cond_false,Option.bind_some,List.append_nil]
  ·simp only [List.filter_cons,List.filter_nil,hc,if_true,cond_true,Option.bind_some]
 ·rw [e_spec_l39Mend_l1,m_spec_l39Mend_l1s]
  simp only [nlt_dec,cond_false,List.take_length]
end
theorem held_iff {pm:Pm} {a who:Int} : who ∈ heldOf pm a ↔ (who,a) ∈ pm:=by
 unfold heldOf
 rw [List.mem_map]
 constructor
 ·rintro ⟨p,hp,rfl⟩
  obtain ⟨h1,h2⟩:=List.mem_filter.1 hp
  have : p.2=a:=by simpa using h2
  rw [← this]; exact h1
 ·intro hm
  exact ⟨(who,a),List.mem_filter.2 ⟨hm,by simp⟩,rfl⟩
theorem sWorldDo {w:Wd} (sm:Sm w) (kd a who:Int) : m_spec_WorldDo w.b w.ls w.pts w.on w.earth w.pm w.br kd a who=some (o8 (wdDo w kd a who)):=by
 unfold m_spec_WorldDo
 rw [sWv w.b w.ls w.pts w.on w.earth w.pm w.br sm.p sm.o sm.m sm.b,Option.bind_some]
 cases hv : wv w
 ·unfold wdDo
  rw [if_neg (by rw [hv]; decide)]
  rfl
 rw [cond_true]
 have h:=wv_iff.1 hv
 have hol:=h.work.l1
 simp only [Wd.wk] at hol
 have e1 : w64 ((w.on.length:Int) - 1)=(w.on.length:Int) - 1:=w64_in (by omega) (by omega)
 simp only [m_spec_l1In,e1,Option.bind_some]
 by_cases hna : ¬ (0 ≤ a∧a < (w.on.length:Int))
 ·have hc:(leB 0 a && leB a ((w.on.length:Int) - 1))=false:=by simp [leB]; omega
  have hf : wdDo w kd a who=(w,false):=by unfold wdDo; rw [if_pos hv,if_neg hna]
  rw [hc,hf,cond_false,sCopy7 sm]; rfl
 have ha : 0 ≤ a∧a < (w.on.length:Int):=Classical.byContradiction hna
 have hc:(leB 0 a && leB a ((w.on.length:Int) - 1))=true:=by simp [leB]; omega
 rw [hc,cond_true,sHas w.br a (by have:=sm.b; omega),Option.bind_some]
 by_cases h6 : kd=6∧a ∉ w.br
 ·have hf : wdDo w kd a who=({ w with on:=w.on.set a.toNat false,br:=insS a w.br },true):=by unfold wdDo; rw [if_pos hv,if_pos ha,if_pos h6]
  rw [hf,decide_eq_false h6.2,h6.1,show (((6:Int) == 6) && !false)=true from rfl,cond_true,sBreak h ha]; rfl
 have c6:((kd == 6) && !decide (a ∈ w.br))=false:=by
  cases hk:(kd == 6)
  ·rfl
  ·have : a ∈ w.br:=Classical.byContradiction fun hn=>h6 ⟨by simpa using hk,hn⟩
   rw [decide_eq_true this]; rfl
 rw [c6,cond_false]
 have hheld : m_spec_WorkHeld w.on w.earth w.pm a=some (heldOf w.pm a):=by
  rw [sHeld w.on w.earth w.pm a sm.o sm.m,if_pos (show workV w.on w.earth w.pm=true from wok_iff.2 h.work)]
 have hhl:=held_len w.pm a
 have hml:=sm.m
 have c7:(bif (kd == 7) && decide (a ∈ w.br) then Option.bind (m_spec_WorkHeld w.on w.earth w.pm a) (fun (p133:List Int)=>Option.bind (m_spec_l1Has p133 who) (fun (p137:Bool)=>some p137)) else some false)=some (decide (kd=7∧a ∈ w.br∧(who,a) ∈ w.pm)):=by
  rw [hheld]
  simp only [Option.bind_some,sHas (heldOf w.pm a) who (by omega)]
  by_cases hk : kd=7
  ·subst hk
   by_cases hb : a ∈ w.br
   ·simp [hb,held_iff]
   ·simp [hb]
  ·have:(kd == 7)=false:=by simpa using hk
   simp [this,hk]
 rw [c7,Option.bind_some]
 by_cases h7 : kd=7∧a ∈ w.br∧(who,a) ∈ w.pm
 ·have hf : wdDo w kd a who=({ w with br:=w.br.filter fun x=>x != a },true):=by unfold wdDo; rw [if_pos hv,if_pos ha,if_neg h6,if_pos h7]
  rw [hf,decide_eq_true h7,cond_true,sMend h]; rfl
 rw [decide_eq_false h7,cond_false]
 by_cases h0 : kd=0∧a ∈ w.br
 ·have hf : wdDo w kd a who=(w,false):=by unfold wdDo; rw [if_pos hv,if_pos ha,if_neg h6,if_neg h7,if_pos h0]
  rw [hf,h0.1,decide_eq_true h0.2,show (((0:Int) == 0) && true)=true from rfl,cond_true,sCopy7 sm]; rfl
 have c0:((kd == 0) && decide (a ∈ w.br))=false:=by
  cases hk:(kd == 0)
  ·rfl
  ·have : a ∉ w.br:=fun hn=>h0 ⟨by simpa using hk,hn⟩
   rw [decide_eq_false this]; rfl
 rw [c0,cond_false,sCopy7 sm,Option.bind_some]
 have hdo:=sDo w.wk kd a who sm.o sm.e sm.m
 have hlen:=(wkDo_on h.work (kd:=kd) (a:=a) (who:=who)).1
 have hrad : m_spec_Radial w.b w.ls (wkDo w.wk kd a who).1.1 w.pts=some (radP w.ls (wkDo w.wk kd a who).1.1 w.pts):=by
  rw [sRadial _ _ _ _ sm.p,radB_ok h (hlen.trans h.len)]
 have hf : wdDo w kd a who=if (wkDo w.wk kd a who).2=true∧radP w.ls (wkDo w.wk kd a who).1.1 w.pts=true then (w.put (wkDo w.wk kd a who).1,true) else (w,false):=by
  unfold wdDo
  rw [if_pos hv,if_pos ha,if_neg h6,if_neg h7,if_neg h0]
 rw [hf]
 change Option.bind (m_spec_WorkDo w.wk.1 w.wk.2.1 w.wk.2.2 kd a who) _=_
 rw [hdo,Option.bind_some]
 simp only [out4w,o7,hrad]
 cases h1:(wkDo w.wk kd a who).2
 ·simp only [Bool.not_false,Bool.not_true,gb_false,Option.bind_some,Bool.true_or,cond_true,Bool.false_eq_true,false_and,if_false]; rfl
 ·cases h2 : radP w.ls (wkDo w.wk kd a who).1.1 w.pts
  ·rfl
  ·rfl
theorem fold_cnt (l:List Dd) (w:Wd) : ∀ k,0 ≤ ((l.take k).foldl wdStep (0,w)).1∧((l.take k).foldl wdStep (0,w)).1 ≤ k:=by
 intro k
 induction k with
 | zero=>simp
 | succ k ih =>
  rcases Nat.lt_or_ge k l.length with hk | hk
  ·rw [take_fold _ _ _ ((0,0,0):Dd) hk]
   generalize (l.take k).foldl wdStep (0,w)=s at ih
   unfold wdStep
   split
   ·dsimp only; omega
   ·omega
  ·rw [List.take_of_length_le (by omega)]
   rw [List.take_of_length_le hk] at ih
   omega
def st9 (k:Nat) (s:Int×Wd):Int×Int×W7:=(s.1,(k:Int),o7 s.2)
def o8n (s:Int×Wd):Int×List Ln×List (Int×Int)×List Bool×List Bool×Pm×List Int×Int:=(s.2.b,s.2.ls,s.2.pts,s.2.on,s.2.earth,s.2.pm,s.2.br,s.1)
theorem iRunL {w:Wd} (h:WdOk w) (l:List Dd) (hl : l.length ≤ 1048576) : m_impl_WorldRun_l1 l FUEL (st9 0 (0,w))=some ((l.foldl wdStep (0,w)).1,o7 (l.foldl wdStep (0,w)).2):=by
 have hh:=loop_all (m_impl_WorldRun_l1 l) (fun k=>st9 k ((l.take k).foldl wdStep (0,w))) l.length (some ((l.foldl wdStep (0,w)).1,o7 (l.foldl wdStep (0,w)).2)) (by omega) (fun k fuel hk=>?_) (fun fuel=>?_)
 ·exact hh
 ·rw [e_impl_WorldRun_l1,m_impl_WorldRun_l1s]
  have hc:=fold_cnt l w k
  have hok:=wdFold_ok (l.take k) (s:=((0:Int),w)) h
  simp only [take_fold wdStep _ _ ((0,0,0):Dd) hk]
  generalize (l.take k).foldl wdStep (0,w)=s at hc hok
  have hd:=iWorldDo (sm_of hok) (l.getD k ((0,0,0):Dd)).1 (l.getD k ((0,0,0):Dd)).2.1 (l.getD k ((0,0,0):Dd)).2.2
  have e1 : w64 (s.1+1)=s.1+1:=w64_in (by omega) (by omega)
  simp only [st9,o7,lt_dec hk,ix_dec hk,cond_true,chk_true,Int.toNat_natCast,hd,Option.bind_some,o8,w64_succ (by omega : k < 4611686018427387904)]
  unfold wdStep
  cases hr:(wdDo s.2 (l.getD k ((0,0,0):Dd)).1 (l.getD k ((0,0,0):Dd)).2.1 (l.getD k ((0,0,0):Dd)).2.2).2
  ·simp only [cond_false,Option.bind_some,Bool.false_eq_true,if_false]
  ·simp only [cond_true,Option.bind_some,if_true,e1]
 ·rw [e_impl_WorldRun_l1,m_impl_WorldRun_l1s]
  simp only [st9,o7,nlt_dec,cond_false,List.take_length]
theorem iWorldRun {w:Wd} (sm:Sm w) (l:List Dd) (hl : l.length ≤ 1048576) : m_impl_WorldRun w.b w.ls w.pts w.on w.earth w.pm w.br l=some (o8n (wdRun w l)):=by
 unfold m_impl_WorldRun wdRun
 rw [iWv w.b w.ls w.pts w.on w.earth w.pm w.br sm.p sm.o sm.m sm.b,Option.bind_some]
 cases hv : wv w
 ·rfl
 rw [cond_true,iClone7 sm,Option.bind_some]
 simp only [o7]
 rw [show m_impl_WorldRun_l1 l FUEL (0,0,w.b,w.ls,w.pts,w.on,w.earth,w.pm,w.br)=_ from iRunL (wv_iff.1 hv) l hl]
 rfl
theorem sm0:Sm .zero:=⟨by decide,by decide,by decide,by decide,by decide,by decide⟩
theorem wdRun_small {w:Wd} (l:List Dd):Sm (wdRun w l).2:=by
 cases hv : wv w
 ·unfold wdRun; rw [hv,if_neg (by decide)]; exact sm0
 ·exact sm_of (wdRun_ok (wv_iff.1 hv) l)
theorem wdDo_small {w:Wd} (kd a who:Int):Sm (wdDo w kd a who).1:=by
 cases hv : wv w
 ·unfold wdDo; rw [hv,if_neg (by decide)]; exact sm0
 ·exact sm_of (wdDo_ok (wv_iff.1 hv) kd a who)
end Go.Proofs.YtjdlgannencchaaGreatDoor
namespace Go.Proofs.YtjdlgannencchaaGreatDoor
open Go.Lib
set_option linter.unusedVariables false
set_option linter.unusedSimpArgs false
theorem dec_le {n:Nat} (h : n < 1000000):(decDigits n).length ≤ 6:=dec_len 5 n (by simpa using h)
def nmB (n:Int):List UInt8:=decDigits n.toNat
theorem itoaN {n:Int} (h : 0 ≤ n∧n < 1000000) : m_strconv_Itoa n=some (bs8 (nmB n)):=by
 obtain ⟨k,rfl⟩ : ∃ k:Nat,n=k:=⟨n.toNat,by omega⟩
 rw [itoa_ok (by omega)]; simp [nmB]
theorem numN {n:Int} (h : 0 ≤ n∧n < 1000000) : m_spec_l1Number n=some (bs8 (nmB n)):=by
 obtain ⟨k,rfl⟩ : ∃ k:Nat,n=k:=⟨n.toNat,by omega⟩
 rw [num_ok (by omega)]; simp [nmB]
theorem nm_le {n:Int} (h : 0 ≤ n∧n < 1000000):(nmB n).length ≤ 6:=dec_le (by omega)
def wNone:List UInt8:=[110,111,110,101]
def listT (l:List Int):List UInt8:=if l=[] then wNone else join (l.map nmB) [44]
theorem join_size : ∀ (xs:List (List UInt8)),(∀ x ∈ xs,x.length ≤ 6) → (join xs [44]).length ≤ 7 * xs.length
 | [],_=>by simp [join_nil]
 | x :: r,h=>by
  rw [join_cons]
  have h1:=h x (by simp)
  have h2 : ∀ r:List (List UInt8),(∀ y ∈ r,y.length ≤ 6) → (joinTail [44] r).length ≤ 7 * r.length:=by
   intro r
   induction r with
   | nil=>intro _; simp [joinTail]
   | cons y r ih =>
    intro hr
    have e : joinTail [44] (y :: r)=[44]++y++joinTail [44] r:=by simp [joinTail]
    have:=hr y (by simp)
    have:=ih fun z hz=>hr z (by simp [hz])
    rw [e]; simp; omega
  have:=h2 r fun y hy=>h y (by simp [hy])
  simp; omega
section
variable {l:List Int} (hl : l.length ≤ 1000) (hr : ∀ x ∈ l,0 ≤ x∧x < 1000000)
include hl hr
theorem at_ok {k:Nat} (h : k < l.length) : 0 ≤ l.getD k 0∧l.getD k 0 < 1000000:=by rw [getD_ge h]; exact hr _ (List.getElem_mem h)
theorem iList : m_impl_listText l=some (bs8 (listT l)):=by
 unfold m_impl_listText listT
 cases l with
 | nil=>rfl
 | cons x r =>
  rw [if_neg (by simp)]
  generalize hL : x :: r=l at *
  have hne:((l.length:Int) == 0)=false:=by rw [beq_eq_false_iff_ne,← hL]; simp; omega
  rw [hne,show mkB (l.length:Int)=true from decide_eq_true (by omega)]
  have hh:=to_loop (m_impl_listText_l1 l) (l.map fun n=>bs8 (nmB n)) (List.replicate l.length ByteArray.empty) (by simp) (by simp; omega) (fun fuel y j hj hy=>by
   have hj' : j < l.length:=by simpa using hj
   rw [e_impl_listText_l1,m_impl_listText_l1s]
   have hi:=itoaN (at_ok hl hr hj')
   rw [getD_ge hj'] at hi
   simp only [lt_dec hj',ix_dec hj',chk_true,cond_true,Int.toNat_natCast,w64_succ (by omega : j < 4611686018427387904),List.getElem_map,getD_ge hj',hi,Option.bind_some]) (fun fuel y hy=>by rw [e_impl_listText_l1,m_impl_listText_l1s]; simp [nlt_dec])
  have hm:(l.map fun n=>bs8 (nmB n)).map (·.data.toList)=l.map nmB:=by
   rw [List.map_map]; exact List.map_congr_left fun a _=>bs8_data _
  simp only [cond_false,chk_true]
  rw [hh]
  simp only [Option.bind_some]
  unfold m_strings_Join
  have hs:(({ data:=#[44] }:ByteArray)).data.toList=[44]:=rfl
  have hz:=join_size (l.map nmB) (fun y hy=>by obtain ⟨z,hz,rfl⟩:=List.mem_map.1 hy; exact nm_le (hr z hz))
  rw [hm,hs,decide_eq_true (by rw [List.length_map] at *; omega)]
  rfl
end
def netN (b:Int) (ls:List Ln):List UInt8:=if netV b ls=true then netT b ls else []
theorem iNetT (b:Int) (ls:List Ln) : m_impl_NetText b ls=some (bs8 (netN b ls)):=by
 unfold m_impl_NetText netN
 rw [iNet,Option.bind_some]
 cases hv : netV b ls with
 | false=>rfl
 | true =>
  have ok:=netV_iff.1 hv
  have hb : netB b ls=true:=by
   unfold netB n64
   have h0:=ok.b0; have h1:=ok.b1; have h2:=ok.ll
   rw [decide_eq_true (by omega),decide_eq_true (by omega)]
   simp only [Bool.true_and,List.all_eq_true,Bool.and_eq_true,decide_eq_true_eq]
   intro x hx
   obtain ⟨k,hk,rfl⟩:=List.mem_iff_getElem.1 hx
   have hL:=ok.ln k hk
   rw [getD_ge hk] at hL
   have a1:=hL.a; have a2:=hL.b; have a3:=hL.m
   omega
  rw [hb,if_pos rfl]; rfl
end Go.Proofs.YtjdlgannencchaaGreatDoor
namespace Go.Proofs.YtjdlgannencchaaGreatDoor
set_option linter.unusedVariables false
set_option linter.unusedSimpArgs false
section
variable (w:Wk) (ho : w.1.length ≤ 1000) (he : w.2.1.length ≤ 1000) (hp : w.2.2.length ≤ 1000)
include ho he hp
omit ho he in
theorem iRets : m_impl_Work_returns w.1 w.2.1 w.2.2=some (retsOf w.2.2):=by
 unfold m_impl_Work_returns
 have h:=loop_all (m_impl_Work_returns_l1 w.2.2) (fun k=>(retsOf (w.2.2.take k),(k:Int))) w.2.2.length (some (retsOf w.2.2)) (by omega) (fun k fuel hk=>?_) (fun fuel=>?_)
 ·rw [show (([]:List (Int×Int×Int)),(0:Int))=(retsOf (w.2.2.take 0),((0:Nat):Int)) from rfl,h]; rfl
 ·rw [e_impl_Work_returns_l1,m_impl_Work_returns_l1s]
  have ha : apB (retsOf (w.2.2.take k)).length 1=true:=by simp [apB,retsOf]; omega
  simp only [lt_dec hk,ix_dec hk,chk_true,cond_true,Int.toNat_natCast,List.length_singleton,ha,w64_succ (by omega : k < 4611686018427387904)]
  rw [rets_take hk]
 ·rw [e_impl_Work_returns_l1,m_impl_Work_returns_l1s]; simp [nlt_dec]
omit he hp ho in
theorem iFor (kd:Int) (l:List Bool) (b:Bool) (hl : l.length ≤ 1000) : m_impl_deedsFor kd l b=some (forOf kd l b l.length):=by
 unfold m_impl_deedsFor
 have h:=loop_all (m_impl_deedsFor_l1 kd l b) (fun k=>(forOf kd l b k,(k:Int))) l.length (some (forOf kd l b l.length)) (by omega) (fun k fuel hk=>?_) (fun fuel=>?_)
 ·rw [show (([]:List (Int×Int×Int)),(0:Int))=(forOf kd l b 0,((0:Nat):Int)) from rfl,h]; rfl
 ·rw [e_impl_deedsFor_l1,m_impl_deedsFor_l1s]
  have hb:=for_len kd l b k
  have ha : apB (forOf kd l b k).length 1=true:=by simp [apB]; omega
  simp only [lt_dec hk,ix_dec hk,chk_true,cond_true,Int.toNat_natCast,List.length_singleton,ha,w64_succ (by omega : k < 4611686018427387904)]
  simp only [forOf]
  cases (l.getD k false == b) <;> rfl
 ·rw [e_impl_deedsFor_l1,m_impl_deedsFor_l1s]; simp only [nlt_dec,cond_false]
end
end Go.Proofs.YtjdlgannencchaaGreatDoor
namespace Go.Proofs.YtjdlgannencchaaGreatDoor
set_option linter.unusedVariables false
set_option linter.unusedSimpArgs false
set_option linter.unusedSectionVars false
def ddOf (d:Int×Bool):Dd:=(bif d.2 then (0:Int) else 1,d.1,0)
theorem steps_rest (on:List Bool) (x:Option (List Bool)):(restO on x).1.map ddOf=stepsTo on x:=by
 cases x with
 | none=>rfl
 | some y =>
  show (ordTo on y).map ddOf=offsTo on y on.length++onsTo on y on.length
  unfold ordTo offsTo onsTo
  rw [List.map_append,List.map_map,List.map_map]; rfl
theorem rest_len (on:List Bool) (x:Option (List Bool)):(restO on x).1.length ≤ 2 * on.length:=by
 cases x with
 | none=>simp [restO]
 | some y =>
  have a:=List.length_filter_le (fun i=>on.getD i false && !y.getD i false) (List.range on.length)
  have b:=List.length_filter_le (fun i=>y.getD i false && !on.getD i false) (List.range on.length)
  rw [List.length_range] at a b
  simp only [restO,ordTo,List.length_append,List.length_map]
  omega
theorem fix_snoc (earth:List Bool) (br:List Int) {k:Nat} (hk : k < br.length) : fixOf earth (br.take (k+1))=fixOf earth (br.take k)++((if earth.getD (br.getD k 0).toNat false then [] else [(2,br.getD k 0,0)])++[(4,br.getD k 0,0),(7,br.getD k 0,0),(5,br.getD k 0,0)]):=by
 rw [List.take_succ_eq_append_getElem hk,← getD_ge hk (d:=0)]
 unfold fixOf
 rw [List.flatMap_append]; simp
theorem earthd_snoc (earth:List Bool) (br:List Int) {k:Nat} (hk : k < br.length) : earthd earth (br.take (k+1))=(earthd earth (br.take k)).set (br.getD k 0).toNat true:=by
 rw [List.take_succ_eq_append_getElem hk,← getD_ge hk (d:=0)]
 unfold earthd
 rw [List.foldl_append]; rfl
theorem fixlen (earth:List Bool) : ∀ br:List Int,(fixOf earth br).length ≤ 4 * br.length
 | []=>by simp [fixOf]
 | l :: br=>by
  have:=fixlen earth br
  rw [fix_len]
  simp only [List.length_append,List.length_cons,List.length_nil]
  split <;> simp <;> omega
theorem earthd_keep : ∀ (br:List Int) (earth:List Bool) (m:Nat),(∀ x ∈ br,x.toNat ≠ m) → (earthd earth br).getD m false=earth.getD m false
 | [],_,_,_=>rfl
 | l :: br,earth,m,h=>by
  show (earthd (earth.set l.toNat true) br).getD m false=_
  rw [earthd_keep br _ m fun x hx=>h x (List.mem_cons_of_mem _ hx)]
  have:=h l List.mem_cons_self
  simp [List.getD,List.getElem?_set_ne this]
theorem sor_low {br:List Int} (h : br.Pairwise (·< ·)) (h0 : ∀ x ∈ br,0 ≤ x) : ∀ k,k < br.length → (k:Int) ≤ br.getD k 0
 | 0,hk=>h0 _ (by rw [getD_ge hk]; exact List.getElem_mem hk)
 | k+1,hk=>by
  have:=sor_low h h0 k (by omega)
  have:=adj_of_sorted h hk
  omega
theorem br_len {w:Wd} (h:WdOk w) : w.br.length ≤ w.on.length:=by
 cases hb : w.br.length with
 | zero=>omega
 | succ n =>
  have h1:=sor_low h.sor (fun x hx=>(h.inn x hx).1.1) n (by omega)
  have h2:=(h.inn (w.br.getD n 0) (by rw [getD_ge (show n < w.br.length by omega)]; exact List.getElem_mem _)).1.2
  omega
theorem sor_ne {br:List Int} (h : br.Pairwise (·< ·)) (h0 : ∀ x ∈ br,0 ≤ x) {k:Nat} (hk : k < br.length) : ∀ x ∈ br.take k,x.toNat ≠ (br.getD k 0).toNat:=by
 intro x hx e
 have hk0:=h0 (br.getD k 0) (by rw [getD_ge hk]; exact List.getElem_mem hk)
 have hx0:=h0 x (List.mem_of_mem_take hx)
 have h2:(br.take k++br.drop k).Pairwise (·< ·):=by rw [List.take_append_drop]; exact h
 have:=(List.pairwise_append.1 h2).2.2 x hx (br.getD k 0) (by rw [List.drop_eq_getElem_cons hk,getD_ge hk]; exact List.mem_cons_self)
 omega
theorem iSteps (p:List (Int×Bool)×Bool) (L:List Dd) (h:L.length+p.1.length ≤ 1048576) : m_impl_HealDeeds_l3 p FUEL (L,0)=some (L++p.1.map ddOf):=by
 have hh:=loop_all (m_impl_HealDeeds_l3 p) (fun k=>(L++(p.1.take k).map ddOf,(k:Int))) p.1.length (some (L++p.1.map ddOf)) (by omega) (fun k fuel hk=>?_) (fun fuel=>?_)
 ·simpa using hh
 ·rw [e_impl_HealDeeds_l3,m_impl_HealDeeds_l3s]
  have ap : ∀ x:Dd,apB (L++(p.1.take k).map ddOf).length ([x]:List Dd).length=true:=fun x=>ap_small (by simp only [List.length_append,List.length_map,List.length_take,List.length_singleton]; omega)
  simp only [lt_dec hk,ix_dec hk,cond_true,chk_true,Int.toNat_natCast,ap,w64_succ (by omega : k < 4611686018427387904)]
  rw [List.take_succ_eq_append_getElem hk,← getD_ge hk (d:=((0,false):Int×Bool)),List.map_append,List.map_cons,List.map_nil,← List.append_assoc]
  unfold ddOf
  cases (p.1.getD k ((0,false):Int×Bool)).2 <;> rfl
 ·rw [e_impl_HealDeeds_l3,m_impl_HealDeeds_l3s]; simp only [nlt_dec,cond_false,List.take_length]
theorem iThree (br:List Int) (p:List Dd×List Bool×Int) (L:List Dd) (h:L.length ≤ 1048576) : m_impl_HealDeeds_l2 br p FUEL (L,0)=some (L++[(4,br.getD p.2.2.toNat 0,0),(7,br.getD p.2.2.toNat 0,0),(5,br.getD p.2.2.toNat 0,0)]):=by
 have hh:=loop_all (m_impl_HealDeeds_l2 br p) (fun k=>(L++(([4,7,5]:List Int).take k).map (fun kd=>(kd,br.getD p.2.2.toNat 0,0)),(k:Int))) 3 (some (L++[(4,br.getD p.2.2.toNat 0,0),(7,br.getD p.2.2.toNat 0,0),(5,br.getD p.2.2.toNat 0,0)])) (by omega) (fun k fuel hk=>?_) (fun fuel=>?_)
 ·simpa using hh
 ·rw [e_impl_HealDeeds_l2,m_impl_HealDeeds_l2s]
  have ap : ∀ x:Dd,apB (L++(([4,7,5]:List Int).take k).map (fun kd=>(kd,br.getD p.2.2.toNat 0,(0:Int)))).length ([x]:List Dd).length=true:=fun x=>ap_small (by simp only [List.length_append,List.length_map,List.length_take,List.length_singleton]; omega)
  have hlt : ltB (k:Int) 3=true:=decide_eq_true (by omega)
  have hix : ixB (k:Int) 3=true:=ix_dec hk
  simp only [hlt,hix,cond_true,chk_true,Int.toNat_natCast,ap,w64_succ (by omega : k < 4611686018427387904)]
  have : k=0 ∨ k=1 ∨ k=2:=by omega
  rcases this with rfl | rfl | rfl <;> simp
 ·rw [e_impl_HealDeeds_l2,m_impl_HealDeeds_l2s]; rfl
section
variable {earth:List Bool} {br:List Int} (hs : br.Pairwise (·< ·)) (hi : ∀ x ∈ br,0 ≤ x∧x < (earth.length:Int)) (hb : br.length ≤ 1000) (L:List Dd) (hL:L.length ≤ 1000)
include hs hi hb hL
theorem iFix : m_impl_HealDeeds_l1 br earth FUEL (L,earth,0)=some (L++fixOf earth br,earthd earth br):=by
 have hh:=loop_all (m_impl_HealDeeds_l1 br earth) (fun k=>(L++fixOf earth (br.take k),earthd earth (br.take k),(k:Int))) br.length (some (L++fixOf earth br,earthd earth br)) (by omega) (fun k fuel hk=>?_) (fun fuel=>?_)
 ·simpa [fixOf,earthd] using hh
 ·rw [e_impl_HealDeeds_l1,m_impl_HealDeeds_l1s]
  have hg:=hi (br.getD k 0) (by rw [getD_ge hk]; exact List.getElem_mem hk)
  have hix : ixB (br.getD k 0) earth.length=true:=by simp only [ixB,Bool.and_eq_true,decide_eq_true_eq]; omega
  have hfl:=fixlen earth (br.take k)
  have htl:(br.take k).length ≤ k:=by rw [List.length_take]; omega
  have hkeep:=earthd_keep (br.take k) earth (br.getD k 0).toNat (sor_ne hs (fun x hx=>(hi x hx).1) hk)
  have ap : ∀ x:Dd,apB (L++fixOf earth (br.take k)).length ([x]:List Dd).length=true:=fun x=>ap_small (by simp only [List.length_append,List.length_singleton]; omega)
  simp only [lt_dec hk,ix_dec hk,cond_true,chk_true,Int.toNat_natCast,hix,ap,w64_succ (by omega : k < 4611686018427387904)]
  rw [hkeep,fix_snoc earth br hk,earthd_snoc earth br hk]
  cases he : earth.getD (br.getD k 0).toNat false
  ·simp only [cond_false,Option.bind_some,Bool.false_eq_true,if_false]
   rw [iThree _ _ _ (by simp only [List.length_append,List.length_singleton]; omega)]
   simp only [Option.bind_some,Int.toNat_natCast,List.append_assoc]
  ·simp only [cond_true,Option.bind_some,if_true]
   rw [iThree _ _ _ (by simp only [List.length_append]; omega),set_true_self (hkeep.trans he)]
   simp only [Option.bind_some,Int.toNat_natCast,List.append_assoc,List.nil_append]
 ·rw [e_impl_HealDeeds_l1,m_impl_HealDeeds_l1s]; simp only [nlt_dec,cond_false,List.take_length]
end
theorem heal_len {w:Wd} (h:WdOk w):(healP w).length ≤ 1000:=by
 have h1:=br_len h
 have h2:=fixlen w.earth w.br
 have h3:=for_len 3 (earthd w.earth w.br) true w.on.length
 have h4:=rest_len w.on (bestP w.ls w.on w.pts)
 have h5:=h.work.lp
 have h6:=h.work.l1
 have h7:(stepsTo w.on (bestP w.ls w.on w.pts)).length=(restO w.on (bestP w.ls w.on w.pts)).1.length:=by rw [← steps_rest,List.length_map]
 simp only [Wd.wk] at h5 h6
 simp only [healP,List.length_append,retsOf,List.length_map,h7]
 omega
section
variable (b:Int) (ls:List Ln) (pts:List (Int×Int)) (on earth:List Bool) (pm:Pm) (br:List Int) (hp : pts.length ≤ 1048576) (ho : on.length ≤ 1048576) (hm : pm.length ≤ 1048576) (hb : br.length ≤ 1048576)
include hp ho hm hb
theorem iHeal : m_impl_HealDeeds b ls pts on earth pm br=some (if wv ⟨b,ls,pts,on,earth,pm,br⟩ then healP ⟨b,ls,pts,on,earth,pm,br⟩ else []):=by
 unfold m_impl_HealDeeds
 rw [iWv b ls pts on earth pm br hp ho hm hb,Option.bind_some]
 cases hv : wv ⟨b,ls,pts,on,earth,pm,br⟩
 ·rfl
 have hw:=wv_iff.1 hv
 have hbl:=br_len hw
 have hlp:=hw.bus.lp
 have w0:=hw.work.l0; have w1:=hw.work.l1; have we:=hw.work.le; have wp:=hw.work.lp; have hlen:=hw.len
 have hin:=hw.inn; have hsor:=hw.sor
 simp only [Wd.wk] at w0 w1 we wp
 dsimp only at hlp hbl hlen hin hsor
 subst hlp
 have h01 : 1 ≤ ls.length:=by omega
 have hel:=earthd_len br earth
 have hfl:=fixlen earth br
 have hol:=for_len 3 (earthd earth br) true earth.length
 have hrl:=rest_len on (bestP ls on pts)
 have hrt:(retsOf pm).length=pm.length:=by simp [retsOf]
 have a1 : apB ([]:List Bool).length earth.length=true:=ap_small (by simp only [List.length_nil]; omega)
 have a2 : apB (retsOf pm++fixOf earth br).length (forOf 3 (earthd earth br) true earth.length).length=true:=ap_small (by simp only [List.length_append]; omega)
 simp only [cond_true,iRets (on,earth,pm) (show pm.length ≤ 1000 by omega),m_slices_Clone_bool_bool,a1,chk_true,Option.bind_some,if_true]
 rw [iFix hsor (fun x hx=>by have:=(hin x hx).1; omega) (by omega) _ (by omega),Option.bind_some]
 dsimp only
 rw [iFor 3 (earthd earth br) true (by omega),Option.bind_some,hel,a2,chk_true,iRestore ⟨hw.bus.net,hlen⟩ hw.bus h01,Option.bind_some,iSteps _ _ (by simp only [List.length_append]; omega),Option.bind_some,steps_rest]
 simp only [healP,we]
theorem iCalm : m_impl_WorldCalm b ls pts on earth pm br=some (wv ⟨b,ls,pts,on,earth,pm,br⟩ && ((healP ⟨b,ls,pts,on,earth,pm,br⟩).length:Int) == 0):=by
 unfold m_impl_WorldCalm
 rw [iWv b ls pts on earth pm br hp ho hm hb,iHeal b ls pts on earth pm br hp ho hm hb,Option.bind_some]
 cases wv ⟨b,ls,pts,on,earth,pm,br⟩ <;> rfl
end
end Go.Proofs.YtjdlgannencchaaGreatDoor
namespace Go.Proofs.YtjdlgannencchaaGreatDoor
set_option linter.unusedVariables false
set_option linter.unusedSimpArgs false
def hdP (w:Wd):List Dd:=if wv w=true then healP w else []
def rsP (w:Wd):Wd:=(wdRun w (hdP w)).2
theorem hd_len (w:Wd):(hdP w).length ≤ 1000:=by
 unfold hdP
 split
 ·rename_i h; exact heal_len (wv_iff.1 h)
 ·simp
theorem iHeal' {w:Wd} (h:Sm w) : m_impl_HealDeeds w.b w.ls w.pts w.on w.earth w.pm w.br=some (hdP w):=iHeal w.b w.ls w.pts w.on w.earth w.pm w.br h.p h.o h.m h.b
theorem iCalm' {w:Wd} (h:Sm w) : m_impl_WorldCalm w.b w.ls w.pts w.on w.earth w.pm w.br=some (wv w && ((healP w).length:Int) == 0):=iCalm w.b w.ls w.pts w.on w.earth w.pm w.br h.p h.o h.m h.b
theorem rs_small (w:Wd):Sm (rsP w):=wdRun_small (w:=w) (hdP w)
theorem iRest {w:Wd} (h:Sm w) : m_impl_WorldRest w.b w.ls w.pts w.on w.earth w.pm w.br=some (o7 (rsP w)):=by
 have hl:=hd_len w
 unfold m_impl_WorldRest
 rw [iHeal' h,Option.bind_some,iWorldRun h (hdP w) (by omega)]
 rfl
theorem rs_of {w:Wd} (h:WdOk w) : rsP w=restP w∧WdOk (restP w):=by
 have e : hdP w=healP w:=by unfold hdP; rw [if_pos (wv_iff.2 h)]
 have h1:=heal_run h
 have h2:=wdRun_ok h (healP w)
 rw [h1] at h2
 unfold rsP
 rw [e,h1]
 exact ⟨rfl,h2⟩
theorem rest_len0 (n:Nat) : ∀ k,forOf 3 (List.replicate n false) true k=[]
 | 0=>rfl
 | k+1=>by
  have:(List.replicate n false).getD k false=false:=by
   simp only [List.getD,List.getElem?_replicate]; split <;> rfl
  simp only [forOf,rest_len0 n k,this]; rfl
theorem steps_self (x:List Bool) : stepsTo x (some x)=[]:=by
 have h : ∀ k,(x.getD k false && !x.getD k false)=false:=fun k=>by cases x.getD k false <;> rfl
 simp [stepsTo,offsTo,onsTo,h]
theorem rest_calm (w:Wd) : healP (restP w)=[]:=by
 have h1 : fixOf (restP w).earth (restP w).br=[]:=rfl
 have h2 : retsOf (restP w).pm=[]:=rfl
 have h3 : earthd (restP w).earth (restP w).br=List.replicate w.on.length false:=rfl
 have h4 : stepsTo (restP w).on (bestP (restP w).ls (restP w).on (restP w).pts)=[]:=by
  show stepsTo ((bestP w.ls w.on w.pts).getD w.on) (bestP w.ls ((bestP w.ls w.on w.pts).getD w.on) w.pts)=[]
  cases hb : bestP w.ls w.on w.pts with
  | none=>simp only [Option.getD_none]; rw [hb]; rfl
  | some x=>simp only [Option.getD_some]; rw [bestP_self hb]; exact steps_self x
 unfold healP
 rw [h1,h2,h3,h4,rest_len0]; rfl
end Go.Proofs.YtjdlgannencchaaGreatDoor
namespace Go.Proofs.YtjdlgannencchaaGreatDoor
set_option linter.unusedVariables false
set_option linter.unusedSimpArgs false
theorem bitsXor_nn {x y:Int} (hx : 0 ≤ x∧x < 4611686018427387904) (hy : 0 ≤ y∧y < 4611686018427387904) : 0 ≤ bitsXor .i64 x y∧bitsXor .i64 x y < 4611686018427387904:=by
 have hx':(BitVec.ofInt 64 x).toNat=x.toNat:=by rw [BitVec.toNat_ofInt]; omega
 have hy':(BitVec.ofInt 64 y).toNat=y.toNat:=by rw [BitVec.toNat_ofInt]; omega
 have h:(BitVec.ofInt 64 x ^^^ BitVec.ofInt 64 y).toNat < 2 ^ 62:=by
  rw [BitVec.toNat_xor,hx',hy']
  exact Nat.xor_lt_two_pow (by omega) (by omega)
 have e : bitsXor .i64 x y=w64 ((BitVec.ofInt 64 x ^^^ BitVec.ofInt 64 y).toNat:Int):=rfl
 rw [e,w64_in (by omega) (by omega)]
 omega
structure Code (b:List Int):Prop where
 byte : ∀ z ∈ b,0 ≤ z∧z ≤ 255
 len : b.length ≤ 2000
theorem Code.at_ {b:List Int} (h:Code b) (k:Nat) : 0 ≤ b.getD k 0∧b.getD k 0 ≤ 255:=by
 by_cases hk : k < b.length
 ·rw [getD_ge hk]; exact h.byte _ (List.getElem_mem hk)
 ·simp [List.getD,List.getElem?_eq_none (Nat.le_of_not_lt hk)]
theorem code_of {x:List Int} (h : ∀ z ∈ x,inU z):Code (x.take 2000) :=
 ⟨fun z hz=>h z (List.mem_of_mem_take hz),by simp; omega⟩
theorem pick_ok {b:List Int} (hb:Code b) {p n:Int} (hp : 0 ≤ p∧p ≤ 1000000) (hn : n ≤ 1000000) : ∃ v,m_spec_l20Rd_pick b p n=some (v,p+1)∧0 ≤ v∧(1 ≤ n → v < n)∧(n < 1 → v=0):=by
 unfold m_spec_l20Rd_pick
 have w1 : w64 (p+1)=p+1:=w64_in (by omega) (by omega)
 have w2 : w64 (p+1 - 1)=p:=by rw [w64_in (by omega) (by omega)]; omega
 rw [w1,w2]
 have hlen:=hb.len
 by_cases h1 : n < 1
 ·rw [show ltB n 1=true from decide_eq_true h1]; exact ⟨0,rfl,by omega,by omega,by omega⟩
 by_cases h2:(b.length:Int)=0
 ·rw [show ((b.length:Int) == 0)=true by simpa using h2,Bool.or_true]; exact ⟨0,rfl,by omega,by omega,by omega⟩
 rw [show ltB n 1=false from decide_eq_false h1,show ((b.length:Int) == 0)=false by simpa using h2]
 have hz : nzB n=true:=decide_eq_true (by omega)
 have hz2 : nzB (b.length:Int)=true:=decide_eq_true (by omega)
 simp only [Bool.or_self,cond_false,hz,hz2,chk_true]
 by_cases h3 : p < (b.length:Int)
 ·have hi : ixB p b.length=true:=by simp [ixB]; omega
  have hv:=hb.at_ p.toNat
  rw [show ltB p (b.length:Int)=true from decide_eq_true h3,cond_true,hi,chk_true,w64_in (by omega) (by omega)]
  exact ⟨_,rfl,Int.tmod_nonneg _ hv.1,fun h=>Int.tmod_lt_of_pos _ (by omega),by omega⟩
 ·rw [show ltB p (b.length:Int)=false from decide_eq_false h3,cond_false]
  have m1 : w64 (p * 7)=p * 7:=w64_in (by omega) (by omega)
  have m2 : w64 (p * 7+3)=p * 7+3:=w64_in (by omega) (by omega)
  rw [m1,m2]
  have t1:=Int.tmod_nonneg (b.length:Int) hp.1
  have t2:=Int.tmod_lt_of_pos p (show (0:Int) < (b.length:Int) by omega)
  have t3:=Int.tmod_nonneg (b.length:Int) (show 0 ≤ p * 7+3 by omega)
  have t4:=Int.tmod_lt_of_pos (p * 7+3) (show (0:Int) < (b.length:Int) by omega)
  have i1 : ixB (p.tmod (b.length:Int)) b.length=true:=by simp [ixB]; omega
  have i2 : ixB ((p * 7+3).tmod (b.length:Int)) b.length=true:=by simp [ixB]; omega
  rw [i1,i2]
  simp only [chk_true]
  have v1:=hb.at_ (p.tmod (b.length:Int)).toNat
  have v2:=hb.at_ ((p * 7+3).tmod (b.length:Int)).toNat
  generalize b.getD (p.tmod (b.length:Int)).toNat 0=c1 at *
  generalize b.getD ((p * 7+3).tmod (b.length:Int)).toNat 0=c2 at *
  have q0 : 0 ≤ p.tdiv (b.length:Int):=Int.tdiv_nonneg hp.1 (by omega)
  have q1 : p.tdiv (b.length:Int) ≤ p:=Int.tdiv_le_self _ hp.1
  generalize p.tdiv (b.length:Int)=q at *
  have a1 : w64 c1=c1:=w64_in (by omega) (by omega)
  have a2 : w64 c2=c2:=w64_in (by omega) (by omega)
  have a3 : w64 (c1 * 131)=c1 * 131:=w64_in (by omega) (by omega)
  have a4 : w64 (c2 * 1117)=c2 * 1117:=w64_in (by omega) (by omega)
  have a5 : w64 (c1 * 131+c2 * 1117)=c1 * 131+c2 * 1117:=w64_in (by omega) (by omega)
  have a6 : w64 (p * 29)=p * 29:=w64_in (by omega) (by omega)
  have a7 : w64 (c1 * 131+c2 * 1117+p * 29)=c1 * 131+c2 * 1117+p * 29:=w64_in (by omega) (by omega)
  have a8 : w64 q=q:=w64_in (by omega) (by omega)
  have a9 : w64 (q * 53)=q * 53:=w64_in (by omega) (by omega)
  have a10 : w64 (c1 * 131+c2 * 1117+p * 29+q * 53)=c1 * 131+c2 * 1117+p * 29+q * 53:=w64_in (by omega) (by omega)
  simp only [a1,a2,a3,a4,a5,a6,a7,a8,a9,a10]
  have b0 : 0 ≤ c1 * 131+c2 * 1117+p * 29+q * 53:=by omega
  have b1 : c1 * 131+c2 * 1117+p * 29+q * 53 < 1000000000:=by omega
  generalize c1 * 131+c2 * 1117+p * 29+q * 53=x at *
  have d0 : 0 ≤ x.tdiv 64:=Int.tdiv_nonneg b0 (by decide)
  have d1 : x.tdiv 64 ≤ x:=Int.tdiv_le_self _ b0
  rw [w64_in (by omega : -9223372036854775808 ≤ x.tdiv 64) (by omega)]
  have hx:=bitsXor_nn (x:=x) (y:=x.tdiv 64) ⟨b0,by omega⟩ ⟨d0,by omega⟩
  exact ⟨_,rfl,Int.tmod_nonneg _ hx.1,fun h=>Int.tmod_lt_of_pos _ (by omega),by omega⟩
theorem odd_ok {b:List Int} (hb:Code b) {p n:Int} (hp : 0 ≤ p∧p ≤ 1000000) (hn : 1 ≤ n∧n ≤ 1000000) : ∃ v,m_spec_l20Rd_odd b p n=some (v,p+1):=by
 obtain ⟨v,h1,_⟩:=pick_ok hb hp hn.2
 unfold m_spec_l20Rd_odd
 rw [show ltB 0 n=true from decide_eq_true (by omega),cond_true,h1]
 exact ⟨_,rfl⟩
theorem alive_ok : m_laws_alive=some true:=by
 have h : ∀ fuel,m_impl_NetValid_l1 2 [(0,1,1)] (fuel+2) 0=some (.inl ()):=by
  intro fuel
  rw [e_impl_NetValid_l1,m_impl_NetValid_l1s]
  have : m_impl_NetValid_l1 2 [(0,1,1)] (fuel+1) 1=some (.inl ()):=by rw [e_impl_NetValid_l1,m_impl_NetValid_l1s]; rfl
  exact this
 have hF:FUEL=4611686018427387902+2:=FUEL_eq
 have hv : m_impl_NetValid 2 [(0,1,1)]=some true:=by unfold m_impl_NetValid; rw [hF,h]; rfl
 unfold m_laws_alive m_impl_OtherEnd
 rw [hv]
 have ht : m_impl_NetText 0 []=some (bs8 []):=rfl
 simp [gb,m_impl_Net_hasLine,m_impl_Line_other,ht,bs8,ltB,leB,ixB]
end Go.Proofs.YtjdlgannencchaaGreatDoor
namespace Go.Proofs.YtjdlgannencchaaGreatDoor
set_option linter.unusedVariables false
set_option linter.unusedSimpArgs false
def Ys {α:Type} (m:Option α) (P : α → Prop):Prop:=∃ r,m=some r∧P r
section
variable {α β γ:Type} {P Q : α → Prop} {m x y:Option α} {b g:Bool}
theorem ys_some {a : α} (h:P a):Ys (some a) P:=⟨a,rfl,h⟩
theorem ys_bind {m:Option β} {f : β → Option α} {Q : β → Prop} (h:Ys m Q) (k : ∀ b,Q b → Ys (f b) P):Ys (Option.bind m f) P:=by
 obtain ⟨b,rfl,h1⟩:=h
 exact k b h1
theorem ys_then {m:Option β} {f : β → Option α} (h:Ys m fun b=>Ys (f b) P):Ys (Option.bind m f) P:=ys_bind h fun _ k=>k
theorem ys_chk (h : b=true) (k:Ys m P):Ys (chk b m) P:=by subst h; exact k
theorem ys_bif (h1 : b=true → Ys x P) (h2 : b=false → Ys y P):Ys (bif b then x else y) P:=by
 cases b with
 | true=>exact h1 rfl
 | false=>exact h2 rfl
theorem ys_eq {a : α} (h : m=some a) (k:P a):Ys m P:=⟨a,h,k⟩
theorem ys_loop {σ:Type} {R : α → Prop} (L:Nat → σ → Option α) (μ : σ → Nat) (I : σ → Prop) (hstep : ∀ fuel s,I s → (∀ s',I s' → μ s' < μ s → Ys (L fuel s') R) → Ys (L (fuel+1) s) R) : ∀ (fuel:Nat) (s : σ),I s → μ s < fuel → Ys (L fuel s) R:=by
 intro fuel
 induction fuel with
 | zero=>intro s _ h; omega
 | succ fuel ih=>intro s hs hm; exact hstep fuel s hs fun s' h1 h2=>ih s' h1 (by omega)
end
theorem ys_pick {b:List Int} {P:Int×Int → Prop} (hb:Code b) {p n:Int} (hp : 0 ≤ p∧p ≤ 1000000) (hn : n ≤ 1000000) (h : ∀ v,0 ≤ v → (1 ≤ n → v < n) → (n < 1 → v=0) → P (v,p+1)):Ys (m_spec_l20Rd_pick b p n) P:=by
 obtain ⟨v,h1,h2,h3,h4⟩:=pick_ok hb hp hn
 exact ⟨_,h1,h v h2 h3 h4⟩
theorem ys_odd {b:List Int} {P:Bool×Int → Prop} (hb:Code b) {p n:Int} (hp : 0 ≤ p∧p ≤ 1000000) (hn : 1 ≤ n∧n ≤ 1000000) (h : ∀ v,P (v,p+1)):Ys (m_spec_l20Rd_odd b p n) P:=by
 obtain ⟨v,h1⟩:=odd_ok hb hp hn
 exact ⟨_,h1,h v⟩
theorem wM {n:Int} (h : -1000000000 ≤ n∧n ≤ 1000000000) : w64 n=n:=w64_in (by omega) (by omega)
end Go.Proofs.YtjdlgannencchaaGreatDoor
namespace Go.Proofs.YtjdlgannencchaaGreatDoor
set_option linter.unusedVariables false
set_option linter.unusedSimpArgs false
structure Sz (m:Nat) (w:Wd):Prop where
 ls : w.ls.length ≤ m
 pts : w.pts.length ≤ m
 on : w.on.length ≤ m
 earth : w.earth.length ≤ m
 pm : w.pm.length ≤ m
 br : w.br.length ≤ m
theorem Sz.mono {m n:Nat} {w:Wd} (h:Sz m w) (hm : m ≤ n):Sz n w:=by
 obtain ⟨h1,h2,h3,h4,h5,h6⟩:=h
 exact ⟨by omega,by omega,by omega,by omega,by omega,by omega⟩
theorem Sz.sm {w:Wd} (h:Sz 40 w):Sm w:=by
 obtain ⟨h1,h2,h3,h4,h5,h6⟩:=h
 exact ⟨by omega,by omega,by omega,by omega,by omega,by omega⟩
theorem sz_ok {w:Wd} (h:WdOk w):Sz 30 w:=by
 have h1:=h.bus.net.ll; have h2:=h.bus.lp; have h3:=h.bus.net.b1; have h4:=h.work.l1; have h5:=h.work.le; have h6:=h.work.lp; have h7:=bl_of h
 simp only [Wd.wk] at h4 h5 h6
 exact ⟨by omega,by omega,by omega,by omega,by omega,by omega⟩
theorem wdDo_v {w:Wd} {kd a who:Int} (ht:(wdDo w kd a who).2=true) : wv w=true:=by
 unfold wdDo at ht
 split at ht
 ·assumption
 ·cases ht
theorem sz_do {w:Wd} {kd a who:Int} (ht:(wdDo w kd a who).2=true):Sz 30 (wdDo w kd a who).1∧(wdDo w kd a who).1.pts=w.pts :=
 ⟨sz_ok (wdDo_ok (wv_iff.1 (wdDo_v ht)) kd a who),(wdDo_net w (wdDo_v ht) kd a who).2.2⟩
def of7 (t:Int×List Ln×List (Int×Int)×List Bool×List Bool×Pm×List Int):Wd:=⟨t.1,t.2.1,t.2.2.1,t.2.2.2.1,t.2.2.2.2.1,t.2.2.2.2.2.1,t.2.2.2.2.2.2⟩
theorem rl1 {b:List Int} (hb:Code b) {u w:Int×Int} (hu : 0 ≤ u.1∧u.1 < 6) {p:Int} (hp : 0 ≤ p∧p ≤ 1000) :
  Ys (m_spec_l20Radial_l1 b u w FUEL ([],[],0,p,[])) fun r=>r.1.length+1=(2+u.1).toNat∧r.2.1.length=(2+u.1).toNat∧(0 ≤ r.2.2.1∧r.2.2.1 ≤ p+50)∧r.2.2.2.length+1=(2+u.1).toNat:=by
 have wu : w64 (2+u.1)=2+u.1:=wM (by omega)
 refine ys_loop (m_spec_l20Radial_l1 b u w) (fun s=>(2+u.1 - s.2.2.1).toNat) (fun s=>(0 ≤ s.2.2.1∧s.2.2.1 ≤ 2+u.1)∧s.1.length=s.2.2.1.toNat - 1∧s.2.1.length=s.2.2.1.toNat∧(0 ≤ s.2.2.2.1∧s.2.2.2.1 ≤ p+5 * s.2.2.1)∧s.2.2.2.2.length=s.2.2.1.toNat - 1) (fun fuel s hs ih=>?_) FUEL _ ⟨by (try dsimp only); omega,rfl,rfl,by (try dsimp only); omega,rfl⟩ (by (try dsimp only); rw [FUEL_eq]; omega)
 obtain ⟨on,bs,k,q,ln⟩:=s
 dsimp only at hs ih ⊢
 obtain ⟨h1,h2,h3,h4,h5⟩:=hs
 rw [e_spec_l20Radial_l1,m_spec_l20Radial_l1s]
 dsimp only
 rw [wu]
 refine ys_bif (fun hc=>?_) (fun hc=>?_)
 ·have hc:=ltB_t hc
  refine ys_bind (Q:=fun r=>r.1.length=k.toNat∧(0 ≤ r.2.1∧r.2.1 ≤ q+4)∧r.2.2.length=k.toNat) ?_ fun r hr=>?_
  ·refine ys_bif (fun hk=>?_) (fun hk=>?_)
   ·have hk:=ltB_t hk
    refine ys_then (ys_pick hb (by omega) (by omega) fun v v0 v1 _=>?_)
    refine ys_then (ys_pick hb (by (try dsimp only); omega) (by omega) fun v' v0' v1' _=>?_)
    refine ys_chk (by simp [apB]; omega) ?_
    refine ys_bind (Q:=fun r=>r.1.length=k.toNat∧(0 ≤ r.2∧r.2 ≤ q+4)) ?_ fun r hr=>ys_some ⟨hr.1,hr.2,by simp; omega⟩
    refine ys_bif (fun _=>ys_chk (by simp [apB]; omega) (ys_some ⟨by simp; omega,by (try dsimp only); omega⟩)) (fun _=>?_)
    refine ys_then (ys_pick hb (by (try dsimp only); omega) (by omega) fun v2 v20 v21 _=>?_)
    exact ys_chk (by simp [apB]; omega) (ys_some ⟨by simp; omega,by (try dsimp only); omega⟩)
   ·have hk:=ltB_f hk
    exact ys_some ⟨by (try dsimp only); omega,by (try dsimp only); omega,by (try dsimp only); omega⟩
  ·obtain ⟨r1,r2,r3⟩:=hr
   refine ys_then (ys_pick hb (by (try dsimp only); omega) (by omega) fun v v0 v1 _=>?_)
   refine ys_chk (by simp [apB]; omega) ?_
   dsimp only
   rw [wM (n:=k+1) (by omega)]
   exact ih _ ⟨by (try dsimp only); omega,by (try dsimp only); omega,by simp; omega,by (try dsimp only); omega,by (try dsimp only); omega⟩ (by (try dsimp only); omega)
 ·have hc:=ltB_f hc
  exact ys_some ⟨by (try dsimp only); omega,by (try dsimp only); omega,by (try dsimp only); omega,by (try dsimp only); omega⟩
theorem rl2 {b:List Int} (hb:Code b) {u:Int×Int} (hu : 0 ≤ u.1∧u.1 < 6) {n p:Int} {on:List Bool} {ln:List Ln} (hn : 0 ≤ n∧n ≤ 3) (hp : 0 ≤ p∧p ≤ 1000) (ho : on.length ≤ 10) (hl : ln.length ≤ 10) :
  Ys (m_spec_l20Radial_l2 b u FUEL (on,n,p,ln)) fun r=>(on.length ≤ r.1.length∧r.1.length ≤ 13)∧(0 ≤ r.2.1∧r.2.1 ≤ p+9)∧r.2.2.length ≤ 13:=by
 have wu : w64 (2+u.1)=2+u.1:=wM (by omega)
 have wu1 : w64 (2+u.1 - 1)=2+u.1 - 1:=wM (by omega)
 refine ys_loop (m_spec_l20Radial_l2 b u) (fun s=>s.2.1.toNat) (fun s=>(0 ≤ s.2.1∧s.2.1 ≤ 3)∧(on.length ≤ s.1.length∧s.1.length+s.2.1 ≤ 13)∧(0 ≤ s.2.2.1∧s.2.2.1+3 * s.2.1 ≤ p+9)∧s.2.2.2.length+s.2.1 ≤ 13) (fun fuel s hs ih=>?_) FUEL _ ⟨hn,by (try dsimp only); omega,by (try dsimp only); omega,by (try dsimp only); omega⟩ (by (try dsimp only); rw [FUEL_eq]; omega)
 obtain ⟨on',k,q,ln'⟩:=s
 dsimp only at hs ih ⊢
 obtain ⟨h1,h2,h3,h4⟩:=hs
 rw [e_spec_l20Radial_l2,m_spec_l20Radial_l2s]
 dsimp only
 rw [wu,wu1]
 refine ys_bif (fun hc=>?_) (fun hc=>?_)
 ·have hc:=ltB_t hc
  refine ys_then (ys_pick hb (by omega) (by omega) fun v v0 v1 _=>?_)
  refine ys_then (ys_pick hb (by (try dsimp only); omega) (by omega) fun v' v0' v1' _=>?_)
  refine ys_chk (decide_eq_true (by omega)) ?_
  refine ys_then (ys_pick hb (by (try dsimp only); omega) (by omega) fun v2 v20 v21 _=>?_)
  refine ys_chk (by simp [apB]; omega) (ys_chk (by simp [apB]; omega) ?_)
  dsimp only
  rw [wM (n:=k - 1) (by omega)]
  exact ih _ ⟨by (try dsimp only); omega,by simp; omega,by (try dsimp only); omega,by simp; omega⟩ (by (try dsimp only); omega)
 ·have hc:=ltB_f hc
  exact ys_some ⟨by (try dsimp only); omega,by (try dsimp only); omega,by (try dsimp only); omega⟩
theorem odd0 (b:List Int) (p:Int) : m_spec_l20Rd_odd b p 0=some (false,p):=rfl
theorem drawRadial {b:List Int} (hb:Code b) {p:Int} (hp : 0 ≤ p∧p ≤ 100):Ys (m_spec_l20Radial b p 0) fun r=>r.2.1.length ≤ 13∧r.2.2.1.length ≤ 13∧(2 ≤ r.2.2.2.1.length∧r.2.2.2.1.length ≤ 7)∧(0 ≤ r.2.2.2.2∧r.2.2.2.2 ≤ p+100):=by
 unfold m_spec_l20Radial
 refine ys_then (ys_pick hb (by omega) (by omega) fun v v0 v1 _=>?_)
 have v2:=v1 (by omega)
 refine ys_then (ys_pick hb (by (try dsimp only); omega) (by omega) fun w w0 w1 _=>?_)
 refine ys_bind (rl1 hb (by (try dsimp only); omega) (by (try dsimp only); omega)) fun r1 hr1=>?_
 obtain ⟨a1,a2,a3,a4⟩:=hr1
 dsimp only at a1 a2 a3 a4
 refine ys_then (ys_pick hb (by (try dsimp only); omega) (by omega) fun w w0 w1 _=>?_)
 have w2:=w1 (by omega)
 refine ys_bind (rl2 hb (u:=(v,p+1)) (by (try dsimp only); omega) (by (try dsimp only); omega) (by (try dsimp only); omega) (by omega) (by omega)) fun r2 hr2=>?_
 obtain ⟨b1,b2,b3⟩:=hr2
 refine ys_then (ys_pick hb (by (try dsimp only); omega) (by omega) fun x x0 x1 _=>?_)
 refine ys_chk (decide_eq_true (by omega)) ?_
 refine ys_then (ys_pick hb (by (try dsimp only); omega) (by omega) fun x x0 x1 _=>?_)
 dsimp only
 rw [wM (n:=2+v) (by omega),wM (n:=2+v - 1) (by omega)]
 refine ys_bind (Q:=fun r=>r.1.length ≤ 13∧(2 ≤ r.2.1.length∧r.2.1.length ≤ 7)∧(0 ≤ r.2.2∧r.2.2 ≤ p+90)) ?_ fun r hr=>?_
 ·refine ys_bif (fun _=>?_) (fun _=>ys_some ⟨by (try dsimp only); omega,by simp; omega,by (try dsimp only); omega⟩)
  refine ys_then (ys_pick hb (by (try dsimp only); omega) (by omega) fun y y0 y1 _=>?_)
  have y2:=y1 (by omega)
  refine ys_then (ys_pick hb (by (try dsimp only); omega) (by omega) fun z z0 z1 _=>?_)
  dsimp only
  rw [wM (n:=1+y) (by omega),wM (n:=1+y - 1) (by omega)]
  exact ys_chk (decide_eq_true (by omega)) (ys_chk (decide_eq_true (by omega)) (ys_some ⟨by simp; omega,by simp; omega,by (try dsimp only); omega⟩))
 ·obtain ⟨c1,c2,c3⟩:=hr
  refine ys_then (ys_eq (odd0 _ _) ?_)
  refine ys_bind (Q:=fun q=>q.1.length ≤ 13∧(2 ≤ q.2.1.length∧q.2.1.length ≤ 7)∧(0 ≤ q.2.2∧q.2.2 ≤ p+90)) (ys_bif (fun h=>by cases h) fun _=>ys_some ⟨c1,c2,c3⟩) fun q hq=>ys_some ⟨by (try dsimp only); omega,hq.1,hq.2.1,by have:=hq.2.2; (try dsimp only); omega⟩
theorem drawDeed {b:List Int} (hb:Code b) {p:Int} (hp : 0 ≤ p∧p ≤ 1000) {w:Wd} (hw:Sz 40 w):Ys (m_spec_l20WorldDeed b p w.b w.ls w.pts w.on w.earth w.pm w.br) fun r=>0 ≤ r.2.2.2∧r.2.2.2 ≤ p+8:=by
 have h1:=hw.on; have h2:=hw.pm
 unfold m_spec_l20WorldDeed
 refine ys_then (ys_pick hb (by omega) (by omega) fun v v0 v1 _=>?_)
 have v2:=v1 (by omega)
 refine ys_chk (decide_eq_true (by (try dsimp only); simp only [List.length_cons,List.length_nil]; omega)) ?_
 refine ys_then (ys_pick hb (by (try dsimp only); omega) (by omega) fun _ _ _ _=>?_)
 dsimp only
 rw [wM (n:=(w.on.length:Int)+1) (by omega)]
 refine ys_then (ys_pick hb (by (try dsimp only); omega) (by omega) fun _ _ _ _=>?_)
 refine ys_then (ys_pick hb (by (try dsimp only); omega) (by omega) fun _ _ _ _=>?_)
 refine ys_then (ys_pick hb (by (try dsimp only); omega) (by omega) fun _ _ _ _=>?_)
 dsimp only
 refine ys_bind (Q:=fun r=>(r.1=true → 0 < w.pm.length)∧(0 ≤ r.2∧r.2 ≤ p+6)) ?_ fun r hr=>?_
 ·refine ys_bif (fun hc=>?_) (fun _=>ys_some ⟨nofun,by (try dsimp only); omega⟩)
  have hc:=ltB_t hc
  exact ys_then (ys_pick hb (by (try dsimp only); omega) (by omega) fun _ _ _ _=>ys_some ⟨fun _=>by omega,by (try dsimp only); omega⟩)
 ·obtain ⟨r1,r2⟩:=hr
  refine ys_bif (fun hc=>?_) (fun _=>ys_some (by (try dsimp only); omega))
  have r1:=r1 hc
  refine ys_then (ys_pick hb (by (try dsimp only); omega) (by omega) fun y y0 y1 _=>?_)
  have y2:=y1 (by omega)
  refine ys_chk (decide_eq_true (by (try dsimp only); omega)) ?_
  refine ys_then (ys_pick hb (by (try dsimp only); omega) (by omega) fun z z0 z1 _=>?_)
  have z2:=z1 (by omega)
  exact ys_chk (decide_eq_true (by (try dsimp only); simp only [List.length_cons,List.length_nil]; omega)) (ys_some (by (try dsimp only); omega))
theorem wl1 {b:List Int} (hb:Code b) {n p:Int} (hn : 0 ≤ n∧n ≤ 10) (hp : 0 ≤ p∧p ≤ 500) {w:Wd} (hw:Sz 30 w) (h2 : 2 ≤ w.pts.length) :
  Ys (m_spec_l20World_l1 b FUEL (n,p,o7 w)) fun r=>(0 ≤ r.1∧r.1 ≤ p+80)∧Sz 30 (of7 r.2)∧2 ≤ (of7 r.2).pts.length:=by
 refine ys_loop (m_spec_l20World_l1 b) (fun s=>s.1.toNat) (fun s=>(0 ≤ s.1∧s.1 ≤ 10)∧(0 ≤ s.2.1∧s.2.1+8 * s.1 ≤ p+80)∧Sz 30 (of7 s.2.2)∧2 ≤ (of7 s.2.2).pts.length) (fun fuel s hs ih=>?_) FUEL _ ⟨hn,by (try dsimp only); omega,hw,h2⟩ (by (try dsimp only); rw [FUEL_eq]; omega)
 obtain ⟨k,q,s⟩:=s
 obtain ⟨x,rfl⟩ : ∃ x,s=o7 x:=⟨of7 s,rfl⟩
 dsimp only at hs ih ⊢
 obtain ⟨h1,h3,h4,h5⟩:=hs
 have h4:Sz 30 x:=h4
 have h5 : 2 ≤ x.pts.length:=h5
 rw [e_spec_l20World_l1,m_spec_l20World_l1s]
 dsimp only
 refine ys_bif (fun hc=>?_) (fun hc=>?_)
 ·have hc:=ltB_t hc
  refine ys_bind (drawDeed hb (by omega) (h4.mono (by decide))) fun d hd=>?_
  refine ys_then (ys_eq (sWorldDo (h4.mono (by decide)).sm d.1 d.2.1 d.2.2.1) ?_)
  refine ys_bind (Q:=fun r=>Sz 30 (of7 r)∧2 ≤ (of7 r).pts.length) ?_ fun r hr=>?_
  ·refine ys_bif (fun ht=>ys_some ?_) (fun _=>ys_some ⟨h4,h5⟩)
   obtain ⟨z1,z2⟩:=sz_do (w:=x) (kd:=d.1) (a:=d.2.1) (who:=d.2.2.1) ht
   exact ⟨z1,by show 2 ≤ (wdDo x d.1 d.2.1 d.2.2.1).1.pts.length; rw [z2]; exact h5⟩
  ·(try dsimp only)
   rw [wM (n:=k - 1) (by omega)]
   exact ih _ ⟨by (try dsimp only); omega,by (try dsimp only); omega,hr.1,hr.2⟩ (by (try dsimp only); omega)
 ·have hc:=ltB_f hc
  exact ys_some ⟨by (try dsimp only); omega,h4,h5⟩
theorem wl2 (t:Int×Int×List (Int×Int×Int)×List (Int×Int)×List Bool×List Bool×List (Int×Int)×List Int) (ht : t.2.2.2.2.1.length ≤ 30) {l:List Int} (hl : l.length ≤ 30):Ys (m_spec_l20World_l2 t FUEL (0,l)) fun r=>r.length ≤ 30:=by
 refine ys_loop (m_spec_l20World_l2 t) (fun s=>((t.2.2.2.2.1.length:Int) - s.1).toNat) (fun s=>(0 ≤ s.1∧s.1 ≤ t.2.2.2.2.1.length)∧s.2.length ≤ 30) (fun fuel s hs ih=>?_) FUEL _ ⟨by (try dsimp only); omega,hl⟩ (by (try dsimp only); rw [FUEL_eq]; omega)
 obtain ⟨k,m⟩:=s
 dsimp only at hs ih ⊢
 rw [e_spec_l20World_l2,m_spec_l20World_l2s]
 dsimp only
 refine ys_bif (fun hc=>?_) (fun hc=>ys_some hs.2)
 have hc:=ltB_t hc
 refine ys_chk (decide_eq_true (by omega)) ?_
 refine ys_bind (Q:=fun r=>r.length ≤ 30) (ys_bif (fun _=>ys_some (by simp)) fun _=>ys_some hs.2) fun r hr=>?_
 rw [wM (n:=k+1) (by omega)]
 exact ih _ ⟨by (try dsimp only); omega,hr⟩ (by (try dsimp only); omega)
theorem drawWorld {b:List Int} (hb:Code b) {n:Int} (hn : 1 ≤ n∧n ≤ 100):Ys (m_spec_l20World b 0 n) fun r=>Sz 40 ⟨r.1,r.2.1,r.2.2.1,r.2.2.2.1,r.2.2.2.2.1,r.2.2.2.2.2.1,r.2.2.2.2.2.2.1⟩∧(0 ≤ r.2.2.2.2.2.2.2∧r.2.2.2.2.2.2.2 ≤ 400):=by
 unfold m_spec_l20World
 refine ys_bind (drawRadial hb (by omega)) fun r hr=>?_
 obtain ⟨a1,a2,a3,a4⟩:=hr
 refine ys_chk (by simp [mkB]; omega) ?_
 refine ys_then (ys_pick hb (by omega) (by omega) fun v v0 v1 _=>?_)
 have v2:=v1 (by omega)
 refine ys_bind (wl1 hb (w:=⟨r.1,r.2.1,r.2.2.2.1,r.2.2.1,List.replicate r.2.2.1.length false,[],[]⟩) (by (try dsimp only); omega) (by (try dsimp only); omega) ⟨by (try dsimp only); omega,by (try dsimp only); omega,by (try dsimp only); omega,by simp; omega,by simp,by simp⟩ (by (try dsimp only); omega)) fun s hs=>?_
 obtain ⟨b1,b2,b3⟩:=hs
 obtain ⟨c1,c2,c3,c4,c5,c6⟩:=b2
 simp only [of7] at c1 c2 c3 c4 c5 c6 b3
 refine ys_then (ys_odd hb (by omega) (by omega) fun o=>?_)
 refine ys_bind (Q:=fun q=>(q.2.1.length ≤ 40∧q.2.2.1.length ≤ 40∧q.2.2.2.1.length ≤ 40∧q.2.2.2.2.length ≤ 40)∧(0 ≤ q.1∧q.1 ≤ 400)) ?_ fun q hq=>ys_some ⟨⟨by (try dsimp only); omega,hq.1.1,hq.1.2.1,hq.1.2.2.1,by (try dsimp only); omega,hq.1.2.2.2⟩,hq.2⟩
 refine ys_bif (fun _=>?_) (fun _=>ys_some ⟨⟨by (try dsimp only); omega,by (try dsimp only); omega,by (try dsimp only); omega,by (try dsimp only); omega⟩,by (try dsimp only); omega⟩)
 refine ys_then (ys_pick hb (by (try dsimp only); omega) (by omega) fun x x0 x1 _=>?_)
 refine ys_bind (Q:=fun q=>q.1.length ≤ 40∧q.2.1.length ≤ 40∧q.2.2.1.length ≤ 40∧q.2.2.2.length ≤ 40) ?_ fun q hq=>ys_some ⟨hq,by (try dsimp only); omega⟩
 refine ys_bif (fun _=>ys_chk (decide_eq_true (by omega)) (ys_some ⟨by simp [subL]; omega,by (try dsimp only); omega,by (try dsimp only); omega,by (try dsimp only); omega⟩)) (fun _=>?_)
 refine ys_bind (Q:=fun q=>q.1.length ≤ 40∧q.2.1.length ≤ 40∧q.2.2.1.length ≤ 40∧q.2.2.2.length ≤ 40) ?_ fun q hq=>ys_some hq
 refine ys_bif (fun _=>ys_chk (by simp [apB]; omega) (ys_some ⟨by (try dsimp only); omega,by (try dsimp only); omega,by (try dsimp only); omega,by simp; omega⟩)) (fun _=>?_)
 refine ys_bind (Q:=fun q=>q.1.length ≤ 40∧q.2.1.length ≤ 40∧q.2.2.1.length ≤ 40∧q.2.2.2.length ≤ 40) ?_ fun q hq=>ys_some hq
 refine ys_bif (fun _=>ys_bind (wl2 s c3 c6) fun z hz=>ys_some ⟨by (try dsimp only); omega,by (try dsimp only); omega,by (try dsimp only); omega,by (try dsimp only); omega⟩) (fun _=>?_)
 refine ys_bind (Q:=fun q=>q.1.length ≤ 40∧q.2.1.length ≤ 40∧q.2.2.length ≤ 40) ?_ fun q hq=>ys_some ⟨hq.1,hq.2.1,hq.2.2,by (try dsimp only); omega⟩
 refine ys_bif (fun _=>ys_chk (by simp [apB]; omega) (ys_chk (by simp [apB]; omega) (ys_some ⟨by (try dsimp only); omega,by simp; omega,by simp; omega⟩))) (fun _=>?_)
 exact ys_chk (decide_eq_true (by omega)) (ys_chk (decide_eq_true (by omega)) (ys_some ⟨by simp; omega,by (try dsimp only); omega,by (try dsimp only); omega⟩))
theorem code_sub {x:List Int} (h : ∀ z ∈ x,inU z):Code (subL x 0 (opH x.length)):=by rw [opH_take]; exact code_of h
end Go.Proofs.YtjdlgannencchaaGreatDoor
namespace Go.Proofs.YtjdlgannencchaaGreatDoor
set_option linter.unusedVariables false
set_option linter.unusedSimpArgs false
theorem iWv' (w:Wd) (h:Sm w) : m_impl_WorldValid w.b w.ls w.pts w.on w.earth w.pm w.br=some (wv w):=iWv w.b w.ls w.pts w.on w.earth w.pm w.br h.p h.o h.m h.b
theorem sWv' (w:Wd) (h:Sm w) : m_spec_WorldValid w.b w.ls w.pts w.on w.earth w.pm w.br=some (wv w):=sWv w.b w.ls w.pts w.on w.earth w.pm w.br h.p h.o h.m h.b
end Go.Proofs.YtjdlgannencchaaGreatDoor
namespace Go.Proofs.YtjdlgannencchaaGreatDoor
set_option linter.unusedVariables false
set_option linter.unusedSimpArgs false
def ch (b:Bool):UInt8:=if b then 49 else 48
def textOf (l:List Bool):ByteArray:=⟨(l.map ch).toArray⟩
def stText (l:List Bool):ByteArray:=if l.length ≤ 10 then textOf l else ⟨#[]⟩
def num (b:Bool):Int:=if b then 49 else 48
theorem nums_text (l:List Bool) : strOfNums (l.map num)=textOf l:=by
 unfold strOfNums textOf
 rw [List.map_map]
 have:((fun n:Int=>UInt8.ofNat n.toNat) ∘ num)=ch:=funext fun b=>by cases b <;> rfl
 rw [this]
theorem iSt (l:List Bool) (hl : l.length ≤ 1000) : m_impl_StateText l=some (stText l):=by
 unfold m_impl_StateText stText
 by_cases h : l.length ≤ 10
 ·rw [if_pos h,show ltB 10 (l.length:Int)=false from decide_eq_false (by omega),show mkB (l.length:Int)=true from decide_eq_true (by omega)]
  have hh:=to_loop (m_impl_StateText_l1 l) (l.map num) (List.replicate l.length 0) (by simp) (by simp; omega) (fun fuel x j hj hx=>by
   have hj' : j < l.length:=by simpa using hj
   rw [e_impl_StateText_l1,m_impl_StateText_l1s]
   simp only [lt_dec hj',ix_dec hj',chk_true,cond_true,Int.toNat_natCast,w64_succ (by omega : j < 4611686018427387904),getD_ge hj',List.getElem_map]
   cases l[j] <;> rfl) (fun fuel x hx=>by rw [e_impl_StateText_l1,m_impl_StateText_l1s]; simp [nlt_dec])
  simp only [cond_false,chk_true]
  rw [hh,← nums_text]; rfl
 ·rw [if_neg h,show ltB 10 (l.length:Int)=true from decide_eq_true (by omega)]; rfl
section
variable {b:List Int} (hb : ∀ z ∈ b,inU z)
include hb
end
end Go.Proofs.YtjdlgannencchaaGreatDoor
namespace Go.Proofs.YtjdlgannencchaaGreatDoor
open Go.Lib
set_option linter.unusedVariables false
set_option linter.unusedSimpArgs false
theorem flow_bd {w:Wd} (ok:WdOk w) (k:Nat) : 0 ≤ flowP w.ls w.on w.pts k∧flowP w.ls w.on w.pts k < 1000000:=by
 have hB:=ok.bus.net.b1
 have hl:=ok.bus.lp
 have key : ∀ n,n ≤ w.pts.length → ∀ p:Nat → Bool,0 ≤ ((List.range n).map fun b=>if p b=true then (w.pts.getD b (0,0)).2 else 0).sum∧((List.range n).map fun b=>if p b=true then (w.pts.getD b (0,0)).2 else 0).sum ≤ 999 * n:=by
  intro n
  induction n with
  | zero=>intro _ p; simp
  | succ n ih =>
   intro hn p
   have:=ih (by omega) p
   have h2:=(ok.bus.bs n (by omega)).2
   rw [List.range_succ,List.map_append,List.sum_append]
   simp only [List.map_cons,List.map_nil,List.sum_cons,List.sum_nil]
   split <;> omega
 have:=key w.pts.length (Nat.le_refl _) fun b=>fedB (onE w.ls w.on) w.pts b && !fedB (onE w.ls (w.on.set k false)) w.pts b
 unfold flowP
 omega
def lnFlow (w:Wd) (n:Int):Int:=if 0 ≤ n∧n < (w.ls.length:Int) then flowP w.ls w.on w.pts n.toNat else -1
theorem rad_ok {w:Wd} (ok:WdOk w) : radB w.b w.ls w.on w.pts=true:=by
 unfold radB; rw [okV_iff.2 ⟨⟨ok.bus.net,ok.len⟩,ok.bus⟩,ok.rad]; rfl
theorem st_ok {w:Wd} (ok:WdOk w):StOk (w.pts.length:Int) w.ls w.on∧BusOk (w.pts.length:Int) w.ls w.pts:=by
 have hl:=ok.bus.lp
 exact ⟨⟨by rw [hl]; exact ok.bus.net,ok.len⟩,by rw [hl]; exact ok.bus⟩
theorem iFlow {w:Wd} (ok:WdOk w) (n:Int) : m_impl_LineFlow w.b w.ls w.on w.pts n=some (lnFlow w n):=by
 obtain ⟨r,r1,r2,r3⟩:=iTree w.b w.ls w.on w.pts (sm_of ok).p
 rw [rad_ok ok] at r2
 obtain ⟨g1,g2,ord,g3,T⟩:=r3 (rad_ok ok)
 obtain ⟨h1,h2⟩:=st_ok ok
 unfold m_impl_LineFlow lnFlow
 rw [r1,Option.bind_some,r2]
 simp only [m_impl_Net_hasLine,Bool.not_true,Bool.not_false,Bool.false_or,gb_true,Option.bind_some]
 by_cases hn : 0 ≤ n∧n < (w.ls.length:Int)
 ·obtain ⟨k,rfl⟩ : ∃ k:Nat,n=k:=⟨n.toNat,by omega⟩
  have hk : k < w.ls.length:=by omega
  rw [show (leB 0 (k:Int) && ltB (k:Int) (w.ls.length:Int))=true by unfold leB ltB; simp; omega,if_pos hn,g1,g2,g3,show ifL true w.ls=w.ls from rfl,← ok.bus.lp,iFlows h1 h2 ok.rad T]
  simp only [Bool.not_true,cond_false,Option.bind_some,tab_len,ix_dec hk,chk_true,Int.toNat_natCast,tab_get hk]
 ·rw [show (leB 0 n && ltB n (w.ls.length:Int))=false by unfold leB ltB; rw [Bool.eq_false_iff]; simp; omega,if_neg hn]; rfl
theorem iServ {w:Wd} (ok:WdOk w) : m_impl_ServedLoad w.b w.ls w.on w.pts=some (servP (onE w.ls w.on) w.pts):=by
 unfold m_impl_ServedLoad
 rw [iFed _ w.ls w.pts (sm_of ok).p,okV_iff.2 ⟨⟨ok.bus.net,ok.len⟩,ok.bus⟩,Option.bind_some,cond_true,iServed ⟨ok.bus.net,ok.len⟩ ok.bus]; rfl
theorem iDk {w:Wd} (ok:WdOk w) : m_impl_WorldDark w.b w.ls w.pts w.on w.earth w.pm w.br=some (zl (darkL w)):=by
 have h:=sm_of ok
 rw [iDark w.b w.ls w.pts w.on w.earth w.pm w.br h.p h.o h.m h.b,if_pos (wv_iff.2 ok)]
theorem dk_ok {w:Wd} (ok:WdOk w):(zl (darkL w)).length ≤ 1000∧∀ x ∈ zl (darkL w),0 ≤ x∧x < 1000000:=by
 have hB:=ok.bus.net.b1; have hl:=ok.bus.lp
 constructor
 ·have:(darkL w).length ≤ (List.range w.pts.length).length:=List.length_filter_le _ _
  rw [zl_len]; simp at this; omega
 ·intro x hx
  obtain ⟨k,hk,rfl⟩:=List.mem_map.1 hx
  have : k < w.pts.length:=by simpa [darkL] using (List.mem_filter.1 hk).1
  omega
theorem br_ok {w:Wd} (ok:WdOk w) : w.br.length ≤ 1000∧∀ x ∈ w.br,0 ≤ x∧x < 1000000:=by
 have h10 : w.on.length ≤ 10:=ok.work.l1
 exact ⟨by have:=bl_of ok; omega,fun x hx=>by have:=(ok.inn x hx).1; omega⟩
def wWhat:List UInt8:=[119,104,97,116]
def wOk:List UInt8:=[111,107]
def wNo:List UInt8:=[110,111]
def wHeal:List UInt8:=[104,101,97,108]
def wFlow:List UInt8:=[102,108,111,119]
def wState:List UInt8:=[115,116,97,116,101]
def wServed:List UInt8:=[115,101,114,118,101,100]
def wDark:List UInt8:=[100,97,114,107]
def wBroken:List UInt8:=[98,114,111,107,101,110]
def wNet:List UInt8:=[110,101,116]
theorem c_lit (l:List UInt8):({ data:=l.toArray }:ByteArray).toList=l:=bs8_list l
def askP (w:Wd) (l:List UInt8):List UInt8 :=
 bif l == wState then tl (stText w.on) else bif l == wServed then nmB (servP (onE w.ls w.on) w.pts) else bif l == wDark then listT (zl (darkL w)) else bif l == wBroken then listT w.br else bif l == wNet then netN w.b w.ls else wWhat
def flowT (w:Wd) (n:Int):List UInt8:=if 0 ≤ n then (if n < (w.ls.length:Int) then nmB (flowP w.ls w.on w.pts n.toNat) else wNo) else wWhat
def answerP (w:Wd) (l:List UInt8):List UInt8:=match cutB 32 l with
 | [a,n]=>bif a == wFlow then flowT w (num3 n) else askP w l
 | _=>askP w l
theorem joinC (l:List UInt8) (hl : l.length ≤ 1048576) : m_strings_Join ((cutB 32 l).map bs8) ({ data:=#[32] }:ByteArray)=some (bs8 l):=by
 have hm:((cutB 32 l).map bs8).map (·.data.toList)=cutB 32 l:=by
  rw [List.map_map]; conv=>rhs; rw [← List.map_id (cutB 32 l)]
  exact List.map_congr_left fun a _=>bs8_data a
 have hs:(({ data:=#[32] }:ByteArray)).data.toList=[32]:=rfl
 have hlen:(cutB 32 l).length ≤ 1048577:=by
  rw [cutB_len]; have:=List.count_le_length (a:=(32:UInt8)) (l:=l); omega
 unfold m_strings_Join
 rw [hm,hs,join_cutB,List.length_map,decide_eq_true (by omega)]; rfl
theorem iAsk {w:Wd} (ok:WdOk w) (l:List UInt8):(bif l == ({ data:=#[115,116,97,116,101] }:ByteArray).toList then Option.bind (m_impl_StateText w.on) (fun p=>some p) else (bif l == ({ data:=#[115,101,114,118,101,100] }:ByteArray).toList then Option.bind (m_impl_ServedLoad w.b w.ls w.on w.pts) (fun p=>Option.bind (m_strconv_Itoa p) (fun q=>some q)) else (bif l == ({ data:=#[100,97,114,107] }:ByteArray).toList then Option.bind (m_impl_WorldDark w.b w.ls w.pts w.on w.earth w.pm w.br) (fun p=>Option.bind (m_impl_listText p) (fun q=>some q)) else (bif l == ({ data:=#[98,114,111,107,101,110] }:ByteArray).toList then Option.bind (m_impl_listText w.br) (fun p=>some p) else (bif l == ({ data:=#[110,101,116] }:ByteArray).toList then Option.bind (m_impl_NetText w.b w.ls) (fun p=>some p) else some ({ data:=#[119,104,97,116] }:ByteArray))))))=some (bs8 (askP w l)):=by
 have h10 : w.on.length ≤ 10:=ok.work.l1
 have hs:=servP_bound ok.bus (onE w.ls w.on)
 obtain ⟨d1,d2⟩:=dk_ok ok
 obtain ⟨b1,b2⟩:=br_ok ok
 have e1:({ data:=#[115,116,97,116,101] }:ByteArray).toList=wState:=c_lit wState
 have e2:({ data:=#[115,101,114,118,101,100] }:ByteArray).toList=wServed:=c_lit wServed
 have e3:({ data:=#[100,97,114,107] }:ByteArray).toList=wDark:=c_lit wDark
 have e4:({ data:=#[98,114,111,107,101,110] }:ByteArray).toList=wBroken:=c_lit wBroken
 have e5:({ data:=#[110,101,116] }:ByteArray).toList=wNet:=c_lit wNet
 rw [e1,e2,e3,e4,e5,iSt w.on (by omega),iServ ok,iDk ok,iList b1 b2,iNetT]
 simp only [Option.bind_some]
 rw [itoaN (by omega),iList d1 d2]
 simp only [Option.bind_some]
 unfold askP
 rw [← bs8_back (stText w.on)]
 cases l == wState <;> cases l == wServed <;> cases l == wDark <;> cases l == wBroken <;> cases l == wNet <;> rfl
theorem iAnswer {w:Wd} (ok:WdOk w) (l:List UInt8) (hl : l.length ≤ 1048576) : m_impl_World_answer w.b w.ls w.pts w.on w.earth w.pm w.br ((cutB 32 l).map bs8)=some (bs8 (answerP w l)):=by
 unfold m_impl_World_answer answerP
 have hj:=joinC l hl
 have hask:=iAsk ok l
 have e1:({ data:=#[102,108,111,119] }:ByteArray).toList=wFlow:=c_lit wFlow
 rw [hj,e1]
 simp only [Option.bind_some,bs8_list]
 rw [hask]
 cases hc : cutB 32 l with
 | nil=>exact absurd hc (cutB_ne 32 l)
 | cons a r =>
  cases r with
  | nil=>rfl
  | cons n r =>
   cases r with
   | cons y r =>
    have:(((a :: n :: y :: r).map bs8).length:Int) == 2 ↔ False:=by simp; omega
    have h2:((((a :: n :: y :: r).map bs8).length:Int) == 2)=false:=by rw [beq_eq_false_iff_ne]; simp; omega
    rw [h2]; rfl
   | nil =>
    have h2:((([a,n].map bs8).length:Int) == 2)=true:=rfl
    have h3:([a,n].map bs8).getD ((0:Int).toNat) ByteArray.empty=bs8 a:=rfl
    have h4:([a,n].map bs8).getD ((1:Int).toNat) ByteArray.empty=bs8 n:=rfl
    have h5 : ∀ i:Int,i=0 ∨ i=1 → ixB i ([a,n].map bs8).length=true:=fun i hi=>decide_eq_true (by rcases hi with rfl | rfl <;> simp)
    rw [h2,h3,h4,h5 0 (.inl rfl),h5 1 (.inr rfl),iReadNum,tl_bs8]
    simp only [Bool.true_and,Bool.not_true,Bool.false_or,chk_true,bs8_list,Option.bind_some]
    cases hf : a == wFlow with
    | false=>simp only [cond_false]
    | true =>
     simp only [cond_true]
     unfold flowT
     have hb:=num3_lt n
     by_cases h : 0 ≤ num3 n
     ·rw [decide_eq_true h,cond_true,if_pos h,dgs_num3 h]
      simp only [m_impl_Net_hasLine,Option.bind_some]
      by_cases hk : num3 n < (w.ls.length:Int)
      ·have hfl:=flow_bd ok (num3 n).toNat
       rw [show (leB 0 (num3 n) && ltB (num3 n) (w.ls.length:Int))=true by unfold leB ltB; simp; omega,cond_true,iFlow ok,if_pos hk]
       unfold lnFlow
       rw [if_pos ⟨h,hk⟩,Option.bind_some,itoaN (by omega)]; rfl
      ·rw [show (leB 0 (num3 n) && ltB (num3 n) (w.ls.length:Int))=false by unfold leB ltB; rw [Bool.eq_false_iff]; simp; omega,cond_false,if_neg hk]; rfl
     ·rw [decide_eq_false h,cond_false,if_neg h]; rfl
end Go.Proofs.YtjdlgannencchaaGreatDoor
namespace Go.Proofs.YtjdlgannencchaaGreatDoor
open Go.Lib
set_option linter.unusedVariables false
set_option linter.unusedSimpArgs false
def deedP:List (List UInt8) → Option (Int×Int×Int)
 | [a,n]=>if (lkS kd1 (bs8 a)).2=true∧0 ≤ num3 n then some ((lkS kd1 (bs8 a)).1,num3 n,0) else none
 | [a,n,m]=>if (lkS kd2 (bs8 a)).2=true∧0 ≤ num3 n∧0 ≤ num3 m then some ((lkS kd2 (bs8 a)).1,num3 n,num3 m) else none
 | _=>none
theorem deed2 (a n:List UInt8) : deedP [a,n]=if (lkS kd1 (bs8 a)).2=true∧0 ≤ num3 n then some ((lkS kd1 (bs8 a)).1,num3 n,0) else none:=rfl
theorem deed3 (a n m:List UInt8) : deedP [a,n,m]=if (lkS kd2 (bs8 a)).2=true∧0 ≤ num3 n∧0 ≤ num3 m then some ((lkS kd2 (bs8 a)).1,num3 n,num3 m) else none:=rfl
theorem iDeed (ws:List (List UInt8)) : ∃ r,m_impl_readDeed (ws.map bs8)=some r∧(match deedP ws with | some d=>r=(d.1,d.2.1,d.2.2,true) | none=>r.2.2.2=false):=by
 unfold m_impl_readDeed
 match ws with
 | []=>exact ⟨_,rfl,rfl⟩
 | [a]=>exact ⟨_,rfl,rfl⟩
 | a :: b :: c :: d :: r =>
  have h2 : decide (((a :: b :: c :: d :: r).map bs8).length=2)=false:=decide_eq_false (by simp)
  have h3 : decide (((a :: b :: c :: d :: r).map bs8).length=3)=false:=decide_eq_false (by simp)
  rw [h2,h3]
  exact ⟨_,rfl,rfl⟩
 | [a,n] =>
  have h2 : decide (([a,n].map bs8).length=2)=true:=rfl
  have g0:([a,n].map bs8).getD 0 ByteArray.empty=bs8 a:=rfl
  have g1:([a,n].map bs8).getD 1 ByteArray.empty=bs8 n:=rfl
  rw [h2,g0,g1,iReadNum,tl_bs8]
  refine ⟨_,rfl,?_⟩
  rw [deed2]
  by_cases h:(lkS kd1 (bs8 a)).2=true∧0 ≤ num3 n
  ·rw [if_pos h,h.1,decide_eq_true h.2,dgs_num3 h.2]; rfl
  ·rw [if_neg h]
   show ((lkS kd1 (bs8 a)).2 && decide (0 ≤ num3 n))=false
   rw [Bool.eq_false_iff]; intro k; rw [Bool.and_eq_true,decide_eq_true_eq] at k; exact h k
 | [a,n,m] =>
  have h2 : decide (([a,n,m].map bs8).length=2)=false:=rfl
  have h3 : decide (([a,n,m].map bs8).length=3)=true:=rfl
  have g0:([a,n,m].map bs8).getD 0 ByteArray.empty=bs8 a:=rfl
  have g1:([a,n,m].map bs8).getD 1 ByteArray.empty=bs8 n:=rfl
  have g2:([a,n,m].map bs8).getD 2 ByteArray.empty=bs8 m:=rfl
  rw [h2,h3,g0,g1,g2,iReadNum,iReadNum,tl_bs8,tl_bs8]
  refine ⟨_,rfl,?_⟩
  rw [deed3]
  by_cases h:(lkS kd2 (bs8 a)).2=true∧0 ≤ num3 n∧0 ≤ num3 m
  ·rw [if_pos h,h.1,decide_eq_true h.2.1,decide_eq_true h.2.2,dgs_num3 h.2.1,dgs_num3 h.2.2]; rfl
  ·rw [if_neg h]
   show ((lkS kd2 (bs8 a)).2 && decide (0 ≤ num3 n) && decide (0 ≤ num3 m))=false
   rw [Bool.eq_false_iff]; intro k; rw [Bool.and_eq_true,Bool.and_eq_true,decide_eq_true_eq,decide_eq_true_eq] at k; exact h ⟨k.1.1,k.1.2,k.2⟩
def lineP (w:Wd) (l:List UInt8):Wd×List UInt8 :=
 if wv w=true then
  (match deedP (cutB 32 l) with
  | some (kd,at_,who)=>((wdDo w kd at_ who).1,bif (wdDo w kd at_ who).2 then wOk else wNo)
  | none=>bif l == wHeal then (rsP w,wOk) else (w,answerP w l))
 else (.zero,[])
def o8b (r:Wd×List UInt8):Int×List Ln×List (Int×Int)×List Bool×List Bool×Pm×List Int×ByteArray:=(r.1.b,r.1.ls,r.1.pts,r.1.on,r.1.earth,r.1.pm,r.1.br,bs8 r.2)
theorem iLine {w:Wd} (sm:Sm w) (l:List UInt8) (hl : l.length ≤ 1048576) : m_impl_WorldLine w.b w.ls w.pts w.on w.earth w.pm w.br (bs8 l)=some (o8b (lineP w l)):=by
 unfold m_impl_WorldLine lineP
 rw [iWv' w sm,Option.bind_some]
 cases hv : wv w with
 | false=>rfl
 | true =>
  have ok:=wv_iff.1 hv
  have hsp : m_strings_Split (bs8 l) ({ data:=#[32] }:ByteArray)=some ((cutB 32 l).map bs8):=by
   unfold m_strings_Split
   rw [bs8_size,decide_eq_true (by omega),show decide (({ data:=#[32] }:ByteArray)=bs8 [32])=true from decide_eq_true rfl,bs8_data]; rfl
  obtain ⟨r,hr,hd⟩:=iDeed (cutB 32 l)
  have e1:({ data:=#[104,101,97,108] }:ByteArray).toList=wHeal:=c_lit wHeal
  rw [hsp,e1,bs8_list]
  simp only [Option.bind_some,cond_true,if_true]
  rw [hr]
  simp only [Option.bind_some]
  cases hdp : deedP (cutB 32 l) with
  | some d =>
   obtain ⟨kd,a,who⟩:=d
   rw [hdp] at hd
   subst hd
   rw [iWorldDo sm kd a who]
   simp only [cond_true,Option.bind_some,o8]
   cases (wdDo w kd a who).2 <;> rfl
  | none =>
   rw [hdp] at hd
   simp only at hd
   rw [hd,iRest sm,iAnswer ok l hl]
   have hc:=iClone7 (w:=w) sm
   simp only [cond_false,Option.bind_some]
   rw [hc]
   cases l == wHeal <;> rfl
end Go.Proofs.YtjdlgannencchaaGreatDoor
namespace Go.Proofs.YtjdlgannencchaaGreatDoor
open Go.Lib
set_option linter.unusedVariables false
set_option linter.unusedSimpArgs false
theorem line_ok {w:Wd} (ok:WdOk w) (l:List UInt8):WdOk (lineP w l).1:=by
 unfold lineP
 rw [if_pos (wv_iff.2 ok)]
 cases deedP (cutB 32 l) with
 | some d=>obtain ⟨kd,a,who⟩:=d; exact wdDo_ok ok kd a who
 | none =>
  cases l == wHeal with
  | true=>have:=rs_of ok; show WdOk (rsP w); rw [this.1]; exact this.2
  | false=>exact ok
theorem line_sm {w:Wd} (sm:Sm w) (l:List UInt8):Sm (lineP w l).1:=by
 unfold lineP
 split
 ·cases deedP (cutB 32 l) with
  | some d=>obtain ⟨kd,a,who⟩:=d; exact wdDo_small kd a who
  | none =>
   cases l == wHeal with
   | true=>exact rs_small w
   | false=>exact sm
 ·exact sm0
theorem iLineS {w:Wd} (sm:Sm w) (s:ByteArray) (hs : s.size ≤ 1048576) : m_impl_WorldLine w.b w.ls w.pts w.on w.earth w.pm w.br s=some (o8b (lineP w (tl s))):=by
 have:=iLine sm (tl s) (by rw [tl_size]; exact hs)
 rwa [show bs8 (tl s)=s from bs8_back s] at this
def linesF:Wd → List ByteArray → Wd×List ByteArray
 | w,[]=>(w,[])
 | w,s :: r=>((linesF (lineP w (tl s)).1 r).1,bs8 (lineP w (tl s)).2 :: (linesF (lineP w (tl s)).1 r).2)
theorem linesF_app : ∀ (a b:List ByteArray) (w:Wd),linesF w (a++b)=((linesF (linesF w a).1 b).1,(linesF w a).2++(linesF (linesF w a).1 b).2)
 | [],b,w=>rfl
 | s :: r,b,w=>by rw [List.cons_append,linesF,linesF_app r b]; rfl
theorem linesF_len : ∀ (a:List ByteArray) (w:Wd),(linesF w a).2.length=a.length
 | [],w=>rfl
 | s :: r,w=>by rw [linesF]; simp [linesF_len r]
theorem linesF_ok : ∀ (a:List ByteArray) {w:Wd},WdOk w → WdOk (linesF w a).1
 | [],w,h=>h
 | s :: r,w,h=>linesF_ok r (line_ok h (tl s))
theorem linesF_sm : ∀ (a:List ByteArray) {w:Wd},Sm w → Sm (linesF w a).1
 | [],w,h=>h
 | s :: r,w,h=>linesF_sm r (line_sm h (tl s))
theorem linesF_snoc (a:List ByteArray) (s:ByteArray) (w:Wd) : linesF w (a++[s])=((lineP (linesF w a).1 (tl s)).1,(linesF w a).2++[bs8 (lineP (linesF w a).1 (tl s)).2]):=by
 rw [linesF_app]; rfl
def linesP (w:Wd) (ls:List ByteArray):Wd×List ByteArray:=if wv w=true∧ls.length ≤ 40 then linesF w ls else (.zero,[])
def o8l (r:Wd×List ByteArray):Int×List Ln×List (Int×Int)×List Bool×List Bool×Pm×List Int×List ByteArray:=(r.1.b,r.1.ls,r.1.pts,r.1.on,r.1.earth,r.1.pm,r.1.br,r.2)
theorem iLines {w : Wd} (sm : Sm w) (ls : List ByteArray) (hs : ∀ s ∈ ls, s.size ≤ 1048576) : m_impl_WorldLines w.b w.ls w.pts w.on w.earth w.pm w.br ls = some (o8l (linesP w ls)) := by
  unfold m_impl_WorldLines linesP
  rw [iWv' w sm, Option.bind_some]
  by_cases hv : wv w = true ∧ ls.length ≤ 40
  · rw [if_pos hv, hv.1, show ltB 40 (ls.length : Int) = false from decide_eq_false (by omega), iClone7 (w := w) sm]
    have hmk : mkB (ls.length : Int) = true := decide_eq_true (by omega)
    have hh := loop_all (m_impl_WorldLines_l1 ls) (fun k => ((linesF w (ls.take k)).2 ++ List.replicate (ls.length - k) ByteArray.empty, (k : Int), o7 (linesF w (ls.take k)).1)) ls.length (some ((linesF w ls).2, o7 (linesF w ls).1)) (by omega) (fun k fuel hk => by
      have hl := linesF_len (ls.take k) w
      have hlk : (ls.take k).length = k := by simp; omega
      have hline := iLineS (linesF_sm (ls.take k) sm) ls[k] (hs _ (List.getElem_mem hk))
      have hset : ∀ x : ByteArray, ((linesF w (ls.take k)).2 ++ List.replicate (ls.length - k) ByteArray.empty).set k x = ((linesF w (ls.take k)).2 ++ [x]) ++ List.replicate (ls.length - (k + 1)) ByteArray.empty := fun x => by
        rw [List.set_append_right _ _ (by omega), hl, hlk, Nat.sub_self, show ls.length - k = (ls.length - (k + 1)) + 1 by omega, List.replicate_succ, List.set_cons_zero]; simp
      rw [e_impl_WorldLines_l1, m_impl_WorldLines_l1s]
      simp only [lt_dec hk, ix_dec hk, chk_true, cond_true, Int.toNat_natCast, w64_succ (by omega : k < 4611686018427387904), getD_ge hk]
      dsimp only [o7]
      rw [hline]
      simp only [Option.bind_some, chk_true]
      rw [List.take_succ_eq_append_getElem hk, linesF_snoc, ← hset]
      rfl) (fun fuel => by
      rw [e_impl_WorldLines_l1, m_impl_WorldLines_l1s, List.take_length]; simp only [nlt_dec, cond_false, Nat.sub_self, List.replicate_zero, List.append_nil])
    simp only [Bool.not_true, Bool.false_or, cond_false, Option.bind_some, hmk, chk_true]
    rw [show m_impl_WorldLines_l1 ls FUEL (List.replicate ls.length ByteArray.empty, 0, (o7 w).1, (o7 w).2.1, (o7 w).2.2.1, (o7 w).2.2.2.1, (o7 w).2.2.2.2.1, (o7 w).2.2.2.2.2.1, (o7 w).2.2.2.2.2.2) = _ from hh]
    rfl
  · rw [if_neg hv]
    have : (!wv w || ltB 40 (ls.length : Int)) = true := by
      cases h : wv w
      · rfl
      · rw [Bool.not_true, Bool.false_or]; exact decide_eq_true (by have : ¬ ls.length ≤ 40 := fun k => hv ⟨h, k⟩
                                                                    omega)
    rw [this]; rfl
end Go.Proofs.YtjdlgannencchaaGreatDoor
namespace Go.Proofs.YtjdlgannencchaaGreatDoor
open Go.Lib
set_option linter.unusedVariables false
set_option linter.unusedSimpArgs false
theorem sz_get (L:List ByteArray) (n:Nat) (h:(L.all fun x=>decide (x.size ≤ n))=true) (k:Nat):(L.getD k ByteArray.empty).size ≤ n:=by
 by_cases hk : k < L.length
 ·rw [getD_ge hk]; simpa using List.all_eq_true.1 h _ (List.getElem_mem hk)
 ·have:L.getD k ByteArray.empty=ByteArray.empty:=by simp [List.getD,List.getElem?_eq_none (Nat.le_of_not_lt hk)]
  rw [this]; exact Nat.zero_le _
theorem st_le {a c:Nat} (h : a+c ≤ 1000) : stB a c=true:=decide_eq_true (by omega)
theorem drawLine {b:List Int} (hb:Code b) {p:Int} (hp : 0 ≤ p∧p ≤ 700) {w:Wd} (hw:Sz 40 w):Ys (m_spec_l20Line b p w.b w.ls w.pts w.on w.earth w.pm w.br) fun r=>r.1.size ≤ 60∧(0 ≤ r.2∧r.2 ≤ p+6):=by
 have h1:=hw.on
 unfold m_spec_l20Line
 refine ys_then (ys_pick hb (by omega) (by omega) fun v v0 v1 _=>?_)
 have v2:=v1 (by omega)
 refine ys_chk (decide_eq_true (by (try dsimp only); simp only [List.length_cons,List.length_nil]; omega)) ?_
 dsimp only
 generalize hs:List.getD (α:=ByteArray) _ v.toNat _=s
 have hz : s.size ≤ 20:=hs ▸ sz_get _ 20 rfl _
 refine ys_chk (st_le (show s.size+1 ≤ 1000 by omega)) ?_
 rw [wM (n:=(w.on.length:Int)+1) (by omega)]
 refine ys_then (ys_pick hb (by (try dsimp only); omega) (by omega) fun v' v0' v1' _=>?_)
 have v2':=v1' (by omega)
 refine ys_then (ys_eq (numN (n:=v') (by omega)) ?_)
 have hn:=nm_le (n:=v') (by omega)
 have z1:(s++({ data:=#[32] }:ByteArray)).size=s.size+1:=by rw [ByteArray.size_append]; rfl
 have z2:((s++({ data:=#[32] }:ByteArray))++bs8 (nmB v')).size ≤ 30:=by rw [ByteArray.size_append,z1,bs8_size]; omega
 refine ys_chk (st_le (by rw [z1,bs8_size]; omega)) ?_
 refine ys_bind (Q:=fun r=>r.1.size ≤ 60∧(0 ≤ r.2∧r.2 ≤ p+4)) ?_ fun r hr=>?_
 ·refine ys_bif (fun _=>?_) (fun _=>ys_some ⟨by (try dsimp only); omega,by (try dsimp only); omega⟩)
  generalize (s++({ data:=#[32] }:ByteArray))++bs8 (nmB v')=t at z2
  refine ys_chk (st_le (show t.size+1 ≤ 1000 by omega)) ?_
  refine ys_then (ys_pick hb (by (try dsimp only); omega) (by omega) fun u u0 u1 _=>?_)
  have u2:=u1 (by omega)
  have hu:=nm_le (n:=u) (by omega)
  have z3:(t++({ data:=#[32] }:ByteArray)).size=t.size+1:=by rw [ByteArray.size_append]; rfl
  refine ys_then (ys_eq (numN (n:=u) (by omega)) ?_)
  refine ys_chk (st_le (by rw [z3,bs8_size]; omega)) (ys_some ⟨?_,by (try dsimp only); omega⟩)
  show ((t++({ data:=#[32] }:ByteArray))++bs8 (nmB u)).size ≤ 60
  rw [ByteArray.size_append,z3,bs8_size]; omega
 ·obtain ⟨r1,r2⟩:=hr
  refine ys_then (ys_pick hb (by (try dsimp only); omega) (by omega) fun u u0 u1 _=>?_)
  refine ys_bif (fun _=>?_) (fun _=>ys_bif (fun _=>?_) (fun _=>ys_some ⟨r1,by (try dsimp only); omega⟩))
  ·refine ys_then (ys_pick hb (by (try dsimp only); omega) (by omega) fun q q0 q1 _=>?_)
   have q2:=q1 (by omega)
   exact ys_chk (decide_eq_true (by (try dsimp only); simp only [List.length_cons,List.length_nil]; omega)) (ys_some ⟨Nat.le_trans (sz_get _ 20 rfl _) (by decide),by (try dsimp only); omega⟩)
  ·refine ys_then (ys_pick hb (by (try dsimp only); omega) (by omega) fun q q0 q1 _=>?_)
   have q2:=q1 (by omega)
   exact ys_chk (decide_eq_true (by (try dsimp only); simp only [List.length_cons,List.length_nil]; omega)) (ys_some ⟨Nat.le_trans (sz_get _ 20 rfl _) (by decide),by (try dsimp only); omega⟩)
theorem lines1 {x0:List Int} (h1 : ∀ z ∈ x0,inU z) {n p q:Int} (hn : 0 ≤ n∧n ≤ 9) (hp : 0 ≤ p∧p ≤ 500) {w:Wd} (hw:Sz 40 w) :
  Ys (m_spec_DrawWorldLines_l1 x0 (w.b,w.ls,w.pts,w.on,w.earth,w.pm,w.br,q) FUEL ([],n,p)) fun r=>(r.1.length ≤ 9∧∀ s ∈ r.1,s.size ≤ 60)∧(0 ≤ r.2∧r.2 ≤ p+60):=by
 refine ys_loop (m_spec_DrawWorldLines_l1 x0 (w.b,w.ls,w.pts,w.on,w.earth,w.pm,w.br,q)) (fun s=>s.2.1.toNat) (fun s=>(0 ≤ s.2.1∧s.2.1 ≤ 9)∧(s.1.length+s.2.1 ≤ 9∧∀ t ∈ s.1,t.size ≤ 60)∧(0 ≤ s.2.2∧s.2.2+6 * s.2.1 ≤ p+60)) (fun fuel s hs ih=>?_) FUEL _ ⟨hn,⟨by simp; omega,by simp⟩,by (try dsimp only); omega⟩ (by (try dsimp only); rw [FUEL_eq]; omega)
 obtain ⟨l,k,r⟩:=s
 dsimp only at hs ih ⊢
 obtain ⟨g1,⟨g2,g4⟩,g3⟩:=hs
 rw [e_spec_DrawWorldLines_l1,m_spec_DrawWorldLines_l1s]
 dsimp only
 refine ys_bif (fun hc=>?_) (fun hc=>?_)
 ·have hc:=ltB_t hc
  refine ys_bind (drawLine (w:=w) (code_sub h1) (by omega) hw) fun d hd=>?_
  refine ys_chk (by simp [apB]; omega) ?_
  rw [wM (n:=k - 1) (by omega)]
  refine ih _ ⟨by (try dsimp only); omega,⟨by simp; omega,fun t ht=>?_⟩,by (try dsimp only); omega⟩ (by (try dsimp only); omega)
  rcases List.mem_append.1 ht with ht | ht
  ·exact g4 t ht
  ·rw [List.mem_singleton.1 ht]; exact hd.1
 ·exact ys_some ⟨⟨by (try dsimp only); omega,g4⟩,by (try dsimp only); omega⟩
theorem drawLs {x0:List Int} (h1 : ∀ z ∈ x0,inU z) : ∃ (w:Wd) (l:List ByteArray),m_spec_DrawWorldLines x0=some (w.b,w.ls,w.pts,w.on,w.earth,w.pm,w.br,l)∧Sz 40 w∧l.length ≤ 41∧∀ s ∈ l,s.size ≤ 60:=by
 have:Ys (m_spec_DrawWorldLines x0) fun r=>Sz 40 ⟨r.1,r.2.1,r.2.2.1,r.2.2.2.1,r.2.2.2.2.1,r.2.2.2.2.2.1,r.2.2.2.2.2.2.1⟩∧r.2.2.2.2.2.2.2.length ≤ 41∧∀ s ∈ r.2.2.2.2.2.2.2,s.size ≤ 60:=by
  unfold m_spec_DrawWorldLines
  refine ys_bind (drawWorld (code_sub h1) (by omega)) fun r hr=>?_
  refine ys_then (ys_pick (code_sub h1) (by omega) (by omega) fun v v0 v1 _=>?_)
  have v2:=v1 (by omega)
  refine ys_bind (lines1 (w:=⟨r.1,r.2.1,r.2.2.1,r.2.2.2.1,r.2.2.2.2.1,r.2.2.2.2.2.1,r.2.2.2.2.2.2.1⟩) (q:=r.2.2.2.2.2.2.2) h1 (by (try dsimp only); omega) (by (try dsimp only); omega) hr.1) fun s hs=>?_
  refine ys_then (ys_odd (code_sub h1) (by omega) (by omega) fun o=>?_)
  refine ys_bind (Q:=fun q=>q.length ≤ 41∧∀ s ∈ q,s.size ≤ 60) ?_ fun q hq=>ys_some ⟨hr.1,hq⟩
  refine ys_bif (fun _=>ys_chk rfl (ys_some ⟨by simp,fun s hs=>?_⟩)) (fun _=>ys_some ⟨by have:=hs.1.1; omega,hs.1.2⟩)
  rw [(List.mem_replicate.1 hs).2]; decide
 obtain ⟨r,e,h,hl⟩:=this
 exact ⟨_,r.2.2.2.2.2.2.2,e,h,hl⟩
theorem door_FnLinesHeal (x0 : List Int) (h0 : x0.length ≤ maxLen) (h1 : ∀ z ∈ x0, inU z) : m_laws_FnLinesHeal x0 = some true := by
  unfold m_laws_FnLinesHeal
  rcases Bool.eq_false_or_eq_true (ltB 1048576 (x0.length : Int)) with h | h <;> rw [h]
  · rfl
  obtain ⟨w, l, e, hz, hl, hsz⟩ := drawLs h1
  have hs := hz.sm
  rw [e]
  simp only [cond_false, Option.bind_some, sWv' w hs]
  by_cases hv : wv w = true ∧ l.length < 40
  · have hc : leB 40 (l.length : Int) = false := decide_eq_false (by omega)
    have ok := wv_iff.1 hv.1
    have i1 := iLines hs (l ++ [({ data := #[104, 101, 97, 108] } : ByteArray)]) (fun s hm => by
      rcases List.mem_append.1 hm with hm | hm
      · exact Nat.le_trans (hsz s hm) (by decide)
      · rw [List.mem_singleton.1 hm]; decide)
    have oky := linesF_ok l ok
    have ly := linesF_len l w
    have p1 : linesP w (l ++ [({ data := #[104, 101, 97, 108] } : ByteArray)]) = (rsP (linesF w l).1, (linesF w l).2 ++ [bs8 wOk]) := by
      unfold linesP
      rw [if_pos ⟨hv.1, by simp; omega⟩, linesF_snoc]
      have ht : tl ({ data := #[104, 101, 97, 108] } : ByteArray) = wHeal := rfl
      have hcut : cutB 32 wHeal = [wHeal] := rfl
      rw [ht]
      unfold lineP
      rw [if_pos (wv_iff.2 oky), hcut]
      rfl
    obtain ⟨q1, q2⟩ := rs_of oky
    rw [p1, q1] at i1
    generalize (linesF w l).1 = y at *
    generalize (linesF w l).2 = an at *
    have hsr : Sm (restP y) := sm_of q2
    have hcalm := iCalm' hsr
    rw [wv_iff.2 q2, rest_calm] at hcalm
    have hb := q2.bus.lp
    have hl1 : 1 ≤ (restP y).ls.length := by have := q2.work.l0; have := q2.len; simp only [Wd.wk] at *; omega
    have hbest : m_impl_BestState (restP y).b (restP y).ls (restP y).on (restP y).pts [] = some (outB (bestP (restP y).ls (restP y).on (restP y).pts)) := by
      rw [← hb]
      exact iBest ⟨by rw [hb]; exact q2.bus.net, q2.len⟩ (by rw [hb]; exact q2.bus) hl1
    have hserv := iServ q2
    have a1 : apB ([] : List ByteArray).length l.length = true := decide_eq_true (by simp; omega)
    have a3 : apB l.length 1 = true := decide_eq_true (by omega)
    have a2 : ∀ x : ByteArray, apB ([] ++ l).length ([x] : List ByteArray).length = true := fun x => decide_eq_true (by simp; omega)
    have hg : (an ++ [bs8 wOk]).getD ((l.length : Int).toNat) ByteArray.empty = bs8 wOk := by
      rw [Int.toNat_natCast, ← ly]; simp
    have hix : ixB (l.length : Int) (an ++ [bs8 wOk]).length = true := decide_eq_true (by simp; omega)
    have hw : w64 ((l.length : Int) + 1) = (l.length : Int) + 1 := wM (by omega)
    have hn : (((an ++ [bs8 wOk]).length : Int) != (l.length : Int) + 1) = false := by
      rw [bne_eq_false_iff_eq]; simp; omega
    have e1 : ({ data := #[111, 107] } : ByteArray).toList = wOk := c_lit wOk
    rw [hv.1, hc]
    simp only [Bool.not_true, Bool.or_self, cond_false, a1, a2, chk_true, List.nil_append, i1, Option.bind_some]
    dsimp only [o8l]
    rw [hw, hn, hix, hg, hbest, hcalm]
    have hbr : (restP y).br = [] := rfl
    simp only [Bool.not_false, Bool.not_true, Bool.or_true, Bool.true_or, chk_true, bs8_list, e1, beq_self_eq_true, Bool.or_self, cond_false, Option.bind_some, hserv]
    cases hbst : bestP (restP y).ls (restP y).on (restP y).pts with
    | none => simp [outB, gb, hbr, a3]
    | some x =>
      have hx : x = (restP y).on := by
        have h4 : bestP y.ls ((bestP y.ls y.on y.pts).getD y.on) y.pts = some x := hbst
        show x = (bestP y.ls y.on y.pts).getD y.on
        cases hq : bestP y.ls y.on y.pts with
        | none => rw [hq] at h4; simp only [Option.getD_none] at h4; rw [hq] at h4; cases h4
        | some z => rw [hq] at h4; simp only [Option.getD_some] at h4 ⊢; rw [bestP_self hq] at h4; injection h4 with h4; exact h4.symm
      subst hx
      simp [outB, gb, hbr, hserv, a3]
  · have hc : (!wv w || leB 40 (l.length : Int)) = true := by
      cases hw : wv w
      · rfl
      · rw [Bool.not_true, Bool.false_or]
        exact decide_eq_true (by have : ¬ l.length < 40 := fun k => hv ⟨hw, k⟩
                                 omega)
    rw [hc]
    simp [alive_ok]
end Go.Proofs.YtjdlgannencchaaGreatDoor
namespace Go.Proofs.YtjdlgannencchaaGreatDoor
open Go.ChangeShapes Go.WideShapes Go.ChangeAt Go.RowKit Go.Deep
set_option linter.unusedVariables false
set_option linter.unusedSimpArgs false
set_option maxRecDepth 100000
section
variable {H:Type} {enc:TypeId×Value → H} {w:World} {base:Nat} {spare:Nat → Bool} {held:Bool}
theorem tr5 {fuel:Nat} {cs:List Value} {x:DataW H×List MemPlace} (h:DataW.trod enc Tryz.prog w base spare held fuel 5 cs=some x) :
  ∃ (y0:Int),cs=[.int .u8 y0]∧inU y0:=by
 obtain ⟨n,rfl,_,hw⟩:=DataW.trod_int Tryz.underlying5 h
 exact ⟨n,rfl,u8_bounds hw⟩
theorem tr22 {fuel:Nat} {cs:List Value} {x:DataW H×List MemPlace} (h:DataW.trod enc Tryz.prog w base spare held fuel 22 cs=some x) :
  ∃ (A0:Option Addr) (y0:List Int) (k0:Nat),cs=[.slice A0 y0.length k0]∧Rc w 1 A0 y0.length k0 (y0.flatMap eU)∧y0.length ≤ maxLen∧(∀ z ∈ y0,inU z):=by
 obtain ⟨A,l,cap,e1,e2,e3,e4⟩:=open_list (fun b : {y:Int // inU y}=>eU b.1) (size:=1) (fun b=>eU_len b.1) (by decide) Tryz.underlying22 (by kernel_rfl) (fun fuel cs x hx=>by
  obtain ⟨z0,rfl,g0⟩:=tr5 hx
  exact ⟨⟨z0,g0⟩,rfl⟩) h
 refine ⟨A,l.map (·.1),cap,by simpa using e1,⟨by simpa [List.flatMap_map] using e2,by simpa using e3⟩,by simpa using Nat.le_trans e3 e4,fun z hz=>?_⟩
 obtain ⟨q,_,rfl⟩:=List.mem_map.1 hz
 exact q.2
theorem op22 {r:Reach} {b0:Nat} {v:Value} {d:DataW H} {p:List MemPlace} (hval:Value.okWide Tryz.prog w r b0 22 v) (h:DataW.Trod enc Tryz.prog w base spare held 22 v d p) :
  ∃ (A0:Option Addr) (y0:List Int) (k0:Nat),v=.slice A0 y0.length k0∧Rc w 1 A0 y0.length k0 (y0.flatMap eU)∧y0.length ≤ maxLen∧(∀ z ∈ y0,inU z):=by
 obtain ⟨A',n',k',rfl⟩:=okWide_slice Tryz.underlying22 hval
 obtain ⟨fuel,hf⟩:=h
 obtain ⟨A0,y0,k0,e,w0,w1,w2⟩:=tr22 hf
 simp [Value.cells] at e
 exact ⟨A0,y0,k0,by simp [e],w0,w1,w2⟩
end
end Go.Proofs.YtjdlgannencchaaGreatDoor
namespace Go.Proofs.YtjdlgannencchaaGreatDoor
open Go.ChangeShapes Go.WideShapes Go.ChangeAt Go.RowKit
theorem own : ownKnob Tryz.prog.godebug=none:=by kernel_rfl
theorem laidOut : laidOutB Tryz.prog=true:=by kernel_rfl
section
variable {H:Type} {enc:TypeId×Value → H} {P:Program}
theorem trodAll_below (hl : laidOutB P=true) {W W':World} (hb:Below W.heap.size W W') : ∀ {ts:List TypeId} {vs:List Value} {ds:List (DataW H)} {ps:List MemPlace},
  (ts.all fun t=>P.readableRec t && decide (t < P.types.size))=true → DataW.TrodAll enc P W 0 (fun _=>true) true ts vs ds ps → (∀ x ∈ ps,x.block < W.heap.size) →
  DataW.TrodAll enc P W' 0 (fun b=>decide (b < W.heap.size)) true ts vs ds ps
 | [],[],[],_,_,h,_=>h
 | t :: ts,v :: vs,d :: ds,ps,ht,h,hlt=>by
  obtain ⟨p,q,h1,h2,rfl⟩:=h
  simp only [List.all_cons,Bool.and_eq_true,decide_eq_true_eq] at ht
  exact ⟨p,q,Below.trod hl ht.1.1 ht.1.2 h1 hb (fun x hx=>hlt x (by simp [hx])),trodAll_below hl hb (by simpa using ht.2) h2 (fun x hx=>hlt x (by simp [hx])),rfl⟩
theorem law_post {f:Func} {s:ChangeSpec} {W W':World} {args:Array Value} {ds gs:List (DataW H)} {before:List MemPlace} {tb:TypeId} (hl : laidOutB P=true)
  (hW:DataW.Whole enc P f.params.toList s.vars false W args.toList ds gs before)
  (hts:(f.params.toList.all fun t=>P.readableRec t && decide (t < P.types.size))=true) (hvs : s.vars=[]) (hrt : f.resultTypes=#[tb]) (hub:P.underlying tb=some .bool)
  (hfn : s.fn H (ds++[])={ results:=[.lit (.bool true)],args:=ds }) (hb:Below W.heap.size W W') :
  s.post enc P f false true false false W args (.bool true) W':=by
 have hW':=hW
 obtain ⟨p,q,hA,hV,rfl,hfz,hnd⟩:=hW
 rw [hvs] at hV
 obtain ⟨rfl,rfl⟩:=trodVars_none hV
 refine ⟨ds,[],p++[],[],p,[],hW',?_,?_,?_,hb.frame _,fun h=>by cases h⟩
 ·rw [hfn,hrt]
  exact trodAll_cons_mk (shut_bool hub _) trodAll_mk0
 ·rw [hfn]
  exact trodAll_below hl hb hts hA (fun x hx=>hW'.lt x (by simp [hx]))
 ·rw [hfn,hvs]
  rfl
end
end Go.Proofs.YtjdlgannencchaaGreatDoor
namespace Go.Proofs.YtjdlgannencchaaGreatDoor
open Go.ChangeShapes Go.WideShapes Go.ChangeAt Go.RowKit
set_option linter.unusedVariables false
theorem returnsIn_lines {H:Type} {enc:TypeId×Value → H} {a:Assume} {C:Checked} {os:Os} {f:FuncId} {fn:Func} {s:ChangeSpec} {conds:List PathCond} {apart fresh handsOn again:Bool} {X:World → Array Value → Prop}
  (hX : ∀ (w w':World) (args:Array Value),w.heap=w'.heap → X w args → X w' args)
  (ho : ownKnob C.prog.godebug=none) (started : os.Started) (noInit:C.prog.inits.idxOf? f=none) (hfn:C.prog.funcs[f]?=some fn)
  (witness : ∃ (w:World) (tape:Tape) (i:Input),w.os=os∧(w.forCall tape i).Shaped C.prog∧i.vars=[]∧Input.okWide C.prog (w.forCall tape i) .any w.heap.size f i ∧
   ((s.pre enc C.prog fn conds apart (w.forCall tape i).memory i.args∧X (w.forCall tape i).memory i.args)∧sizedMet enc C.prog fn (OpenSpec.ofChange s) apart (w.forCall tape i).memory i.args)∧a.holds C.prog (lone (Frame.enter C.prog f i.args .normal) [] (w.forCall tape i)))
  (contract : ∀ (W:World) (base:Nat) (args:Array Value) (ds gs:List (DataW H)) (before:List MemPlace),
   (∀ (j:Nat) t v,fn.params[j]?=some t → args[j]?=some v → Value.okWide C.prog W .any base t v) →
   DataW.Whole enc C.prog fn.params.toList s.vars apart W args.toList ds gs before → X W args → W.ShapedOpen C.prog →
   Calls C.prog f args W fun e W'=>∃ v,e=.returned v∧s.post enc C.prog fn apart fresh handsOn again W args v W') :
  ReturnsInHanded a C os f .any (fun w args=>(s.pre enc C.prog fn conds apart w args∧X w args)∧sizedMet enc C.prog fn (OpenSpec.ofChange s) apart w args) (s.post enc C.prog fn apart fresh handsOn again):=by
 refine returnsInHanded_of_calls ho started noInit witness ?_
 intro w tape i _ hsh _ hok hpre _
 obtain ⟨_,_,_,fn',hfn',_,_,_,_,hval⟩:=hok
 obtain rfl : fn'=fn:=Option.some.inj (hfn'.symm.trans hfn)
 obtain ⟨⟨⟨ds,gs,before,hw,hc⟩,hx⟩,hz⟩:=hpre
 have hw':=DataW.Whole.of_heap (w':=w.forCall tape i) (by rfl) hw
 refine (contract (w.forCall tape i) w.heap.size i.args ds gs before hval hw' (hX _ _ _ (by rfl) hx) hsh).mono fun e W' ⟨v,he,hp⟩=>?_
 subst he
 exact ChangeSpec.post_blind hp
theorem tab_below {P:Program} {w w':World} {name:String} {k:IntKind} {zs:List Int} (h:Lib.TabIs P w name k zs) (hb:Below w.heap.size w w'):Lib.TabIs P w' name k zs:=by
 unfold Lib.TabIs World.var? at *
 cases hg:P.globalNamed name with
 | none=>simp [hg] at h
 | some g =>
  simp only [hg,Option.bind_some] at h ⊢
  have hlt : g < w.heap.size:=by
   rcases Nat.lt_or_ge g w.heap.size with h' | h'
   ·exact h'
   ·rw [Array.getElem?_eq_none h'] at h; simp at h
  rw [hb.block g hlt]
  exact h
theorem bs_of {W:World} (hL : laidMetH Tryz.prog Rows.fnWorldLineRow.laid W) (hsh:W.ShapedOpen Tryz.prog):Bs W:=by
 have h1:=hL.filter (fun x=>x.1 == p10)
 have e:(Rows.fnWorldLineRow.laid.filter fun x=>x.1 == p10)=[(p10,Lib.tabData .u64 Lib.pow10Tab)]:=by kernel_rfl
 rw [e] at h1
 have h2:=(laidMetH_iff.1 h1).1
 have e2:([(p10,(Lib.tabData .u64 Lib.pow10Tab:DataW Unit))].filter fun x=>x.2.handleName?.isNone)=[(p10,Lib.tabData .u64 Lib.pow10Tab)]:=by kernel_rfl
 rw [e2] at h2
 have h3:Lib.TabIs Tryz.prog W p10 .u64 Lib.pow10Tab:=Lib.tabIs_of_head (g:=1) (t:=240) (e:=231) (n:=20) (by kernel_rfl) (by kernel_rfl) Tryz.underlying240 Tryz.underlying231 (by kernel_rfl) (by kernel_rfl) h2
 obtain ⟨m,hm⟩:=cell_of_shapedOpen_int (g:=0) (t:=3) (zero:=#[.int .i64 0]) (k:=.i64) hsh (of_decide_eq_true (by kernel_rfl)) (by kernel_rfl) rfl (by kernel_rfl) (by kernel_rfl) Tryz.underlying3
 have hlt : 0 < W.heap.size:=World.block_lt_of_cell? _ _ hm
 exact ⟨fun w' hb=>tab_below h3 hb,m,fun w' hb=>(hb.cell (p:=⟨0,0,none⟩) hlt).trans hm⟩
end Go.Proofs.YtjdlgannencchaaGreatDoor
