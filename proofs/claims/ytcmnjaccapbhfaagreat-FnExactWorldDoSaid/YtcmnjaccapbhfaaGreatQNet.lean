/- Networks and islands: the models are the plain functions. -/
import Derived.Test.YtcmnjaccapbhfaaGreatQDaM
import Derived.Test.YtcmnjaccapbhfaaGreatQWl
namespace Go.Proofs.YtcmnjaccapbhfaaGreat
set_option linter.unusedVariables false
set_option linter.unusedSimpArgs false
theorem loop_rel {σ Out:Type} (L:Nat → σ → Option Out) (R:Nat → σ → Prop) (n:Nat) (fin : σ → Option Out) (hn : n ≤ 1099511627776)
  (hstep : ∀ k fuel s,k < n → R k s → ∃ s',R (k+1) s'∧L (fuel+1) s=L fuel s') (hend : ∀ fuel s,R n s → L (fuel+1) s=fin s) (s : σ) (h0:R 0 s) : ∃ s',R n s'∧L FUEL s=fin s':=by
 have go : ∀ j k fuel s,k+j=n → j < fuel → R k s → ∃ s',R n s'∧L fuel s=fin s':=by
  intro j
  induction j with
  | zero =>
   intro k fuel s hk hf hr
   obtain ⟨f,rfl⟩ : ∃ f,fuel=f+1:=⟨fuel - 1,by omega⟩
   obtain rfl : k=n:=by omega
   exact ⟨s,hr,hend f s hr⟩
  | succ j ih =>
   intro k fuel s hk hf hr
   obtain ⟨f,rfl⟩ : ∃ f,fuel=f+1:=⟨fuel - 1,by omega⟩
   obtain ⟨s',h1,h2⟩:=hstep k f s (by omega) hr
   rw [h2]
   exact ih (k+1) f s' (by omega) (by omega) h1
 exact go n 0 FUEL s (by omega) (fuel_gt hn) h0
theorem loop_hunt {σ Out:Type} (L:Nat → σ → Option Out) (R:Nat → σ → Prop) (n:Nat) (P:Nat → Bool) (fv out:Option Out) (hn : n ≤ 1099511627776)
  (hstep : ∀ k fuel s,k < n → R k s → (P k=true∧L (fuel+1) s=fv) ∨ (P k=false∧∃ s',R (k+1) s'∧L (fuel+1) s=L fuel s')) (hend : ∀ fuel s,R n s → L (fuel+1) s=out) (s : σ) (h0:R 0 s) :
  L FUEL s=bif (List.range n).any P then fv else out:=by
 have go : ∀ j k fuel s,k+j=n → j < fuel → R k s → L fuel s=bif (List.range' k j).any P then fv else out:=by
  intro j
  induction j with
  | zero =>
   intro k fuel s hk hf hr
   obtain ⟨f,rfl⟩ : ∃ f,fuel=f+1:=⟨fuel - 1,by omega⟩
   obtain rfl : k=n:=by omega
   simpa using hend f s hr
  | succ j ih =>
   intro k fuel s hk hf hr
   obtain ⟨f,rfl⟩ : ∃ f,fuel=f+1:=⟨fuel - 1,by omega⟩
   rw [List.range'_succ,List.any_cons]
   rcases hstep k f s (by omega) hr with ⟨h1,h2⟩ | ⟨h1,s',h2,h3⟩
   ·rw [h1,h2]; rfl
   ·rw [h1,h3,ih (k+1) f s' (by omega) (by omega) h2]; rfl
 rw [go n 0 FUEL s (by omega) (fuel_gt hn) h0,List.range_eq_range']
theorem ltN (b:Int):(ltB b 1 || ltB 8 b)=!inB b 1 8:=by rw [Bool.eq_iff_iff]; simp [ltB,inB] <;> omega
theorem lt10 (n:Nat) : ltB 10 (n:Int)=!decide (n ≤ 10):=by rw [Bool.eq_iff_iff]; simp [ltB]; omega
theorem len_beq (a b:Nat):((a:Int) == (b:Int))=decide (a=b):=by rw [Bool.eq_iff_iff]; simp <;> omega
theorem lineV_i (b:Int) (l:Ln) : lineV b l=((leB 0 l.1 && ltB l.1 b) && (leB 0 l.2.1 && ltB l.2.1 b) && !(l.1 == l.2.1) && (!ltB l.2.2 1 && !ltB 999 l.2.2)):=by
 rw [Bool.eq_iff_iff]; simp [lineV,inB,leB,ltB] <;> omega
theorem iNet (b:Int) (ls:List Ln) : m_impl_NetValid b ls=some (netV b ls):=by
 unfold m_impl_NetValid netV
 rw [ltN,lt10]
 cases h1 : inB b 1 8
 ·rfl
 by_cases hl : ls.length ≤ 10
 ·have h:=loop_find (m_impl_NetValid_l1 b ls) (fun k=>(k:Int)) ls.length (fun k=>!lineV b (ls.getD k (0,0,0))) (some (.inr false)) (some (.inl ())) (by omega) (fun k fuel hk=>?_) (fun fuel=>?_)
  ·rw [show m_impl_NetValid_l1 b ls FUEL 0=_ from h,decide_eq_true hl]
   cases (List.range ls.length).any fun k=>!lineV b (ls.getD k (0,0,0)) <;> rfl
  ·rw [m_impl_NetValid_l1.eq_2]
   simp only [lt_dec hk,ix_dec hk,chk_true,cond_true,Int.toNat_natCast,w64_succ (by omega : k < 4611686018427387904),m_impl_Net_hasBus,Option.bind_some]
   generalize ls.getD k (0,0,0)=l
   rw [lineV_i]
   cases leB 0 l.1 && ltB l.1 b <;> cases leB 0 l.2.1 && ltB l.2.1 b <;> cases l.1 == l.2.1 <;> cases ltB l.2.2 1 <;> cases ltB 999 l.2.2 <;> rfl
  ·rw [m_impl_NetValid_l1.eq_2]; simp only [nlt_dec,cond_false]
 ·rw [decide_eq_false hl]; rfl
theorem sNet (b:Int) (ls:List Ln) : m_spec_NetValid b ls=some (netV b ls):=by
 unfold m_spec_NetValid netV m_spec_l1In
 rw [lt10,inB_le]
 cases h1 : leB 1 b && leB b 8
 ·rfl
 by_cases hl : ls.length ≤ 10
 ·have hb : 1 ≤ b∧b ≤ 8:=by simpa [leB] using h1
  have w1 : w64 (b - 1)=b - 1:=w64_in (by omega) (by omega)
  have h:=loop_find (m_spec_NetValid_l1 b ls) (fun k=>(k:Int)) ls.length (fun k=>!lineV b (ls.getD k (0,0,0))) (some (.inr false)) (some (.inl ())) (by omega) (fun k fuel hk=>?_) (fun fuel=>?_)
  ·rw [show m_spec_NetValid_l1 b ls FUEL 0=_ from h,decide_eq_true hl]
   cases (List.range ls.length).any fun k=>!lineV b (ls.getD k (0,0,0)) <;> rfl
  ·rw [m_spec_NetValid_l1.eq_2]
   simp only [lt_dec hk,ix_dec hk,chk_true,cond_true,Int.toNat_natCast,w64_succ (by omega : k < 4611686018427387904),m_spec_l1In,Option.bind_some,w1]
   generalize ls.getD k (0,0,0)=l
   unfold lineV
   rw [inB_le,inB_le,inB_le]
   cases leB 0 l.1 && leB l.1 (b - 1) <;> cases leB 0 l.2.1 && leB l.2.1 (b - 1) <;> cases l.1 == l.2.1 <;> cases leB 1 l.2.2 && leB l.2.2 999 <;> rfl
  ·rw [m_spec_NetValid_l1.eq_2]; simp only [nlt_dec,cond_false]
 ·rw [decide_eq_false hl]; rfl
section
variable (b:Int) (ls:List Ln) (pts:List (Int×Int)) (hp : pts.length ≤ 1048576)
include hp
theorem iBuses : m_impl_BusesValid b ls pts=some (busesV b ls pts):=by
 unfold m_impl_BusesValid busesV
 rw [iNet,Option.bind_some]
 have e:((pts.length:Int) != b)=!decide ((pts.length:Int)=b):=by rw [Bool.eq_iff_iff]; simp
 rw [e]
 have h:=loop_find (m_impl_BusesValid_l1 pts) (fun k=>(k:Int)) pts.length (fun k=>!busV (pts.getD k (0,0))) (some (.inr false)) (some (.inl ())) (by omega) (fun k fuel hk=>?_) (fun fuel=>?_)
 ·rw [show m_impl_BusesValid_l1 pts FUEL 0=_ from h]
  cases netV b ls <;> cases decide ((pts.length:Int)=b) <;> cases (List.range pts.length).any fun k=>!busV (pts.getD k (0,0)) <;> rfl
 ·rw [m_impl_BusesValid_l1.eq_2]
  simp only [lt_dec hk,ix_dec hk,chk_true,cond_true,Int.toNat_natCast,w64_succ (by omega : k < 4611686018427387904),m_impl_powerValid,Option.bind_some]
  generalize pts.getD k (0,0)=p
  unfold busV
  rw [inB_le,inB_le]
  cases leB 0 p.1 && leB p.1 999 <;> cases leB 0 p.2 && leB p.2 999 <;> rfl
 ·rw [m_impl_BusesValid_l1.eq_2]; simp only [nlt_dec,cond_false]
theorem sBuses : m_spec_BusesValid b ls pts=some (busesV b ls pts):=by
 unfold m_spec_BusesValid busesV
 rw [sNet]
 have e:((pts.length:Int) == b)=decide ((pts.length:Int)=b):=by rw [Bool.eq_iff_iff]; simp
 rw [e]
 have h:=loop_find (m_spec_BusesValid_l1 pts) (fun k=>(k:Int)) pts.length (fun k=>!busV (pts.getD k (0,0))) (some (.inr false)) (some (.inl ())) (by omega) (fun k fuel hk=>?_) (fun fuel=>?_)
 ·rw [show m_spec_BusesValid_l1 pts FUEL 0=_ from h]
  cases netV b ls <;> cases decide ((pts.length:Int)=b) <;> cases (List.range pts.length).any fun k=>!busV (pts.getD k (0,0)) <;> rfl
 ·rw [m_spec_BusesValid_l1.eq_2]
  simp only [lt_dec hk,ix_dec hk,chk_true,cond_true,Int.toNat_natCast,w64_succ (by omega : k < 4611686018427387904),m_spec_l1In,Option.bind_some,Bool.or_true]
  generalize pts.getD k (0,0)=p
  unfold busV
  rw [inB_le,inB_le]
  cases leB 0 p.1 && leB p.1 999 <;> cases leB 0 p.2 && leB p.2 999 <;> rfl
 ·rw [m_spec_BusesValid_l1.eq_2]; simp only [nlt_dec,cond_false]
omit hp in
theorem iState (on:List Bool) : m_impl_StateValid b ls on=some (stV b ls on):=by
 unfold m_impl_StateValid stV; rw [iNet,len_beq]; rfl
omit hp in
theorem sState (on:List Bool) : m_spec_StateValid b ls on=some (stV b ls on):=by
 unfold m_spec_StateValid stV; rw [sNet,len_beq]; rfl
theorem iFed (on:List Bool) : m_impl_fedValid b ls on pts=some (okV b ls on pts):=by
 unfold m_impl_fedValid okV
 rw [iState,iBuses b ls pts hp]
 cases stV b ls on <;> cases busesV b ls pts <;> rfl
theorem sFed (on:List Bool) : m_spec_l5Ok b ls on pts=some (okV b ls on pts):=by
 unfold m_spec_l5Ok okV
 rw [sState,sBuses b ls pts hp]
 cases stV b ls on <;> cases busesV b ls pts <;> rfl
end
structure StOk (b:Int) (ls:List Ln) (on:List Bool):Prop where
 net:NetOk b ls
 len : on.length=ls.length
theorem stV_iff {b:Int} {ls:List Ln} {on:List Bool} : stV b ls on=true ↔ StOk b ls on:=by
 unfold stV
 rw [Bool.and_eq_true,netV_iff,decide_eq_true_eq]
 exact ⟨fun h=>⟨h.1,h.2⟩,fun h=>⟨h.1,h.2⟩⟩
theorem okV_iff {b:Int} {ls:List Ln} {on:List Bool} {pts:List (Int×Int)} : okV b ls on pts=true ↔ StOk b ls on∧BusOk b ls pts:=by
 unfold okV; rw [Bool.and_eq_true,stV_iff,busesV_iff]
def zl (u:List Nat):List Int:=u.map fun (n:Nat)=>(n:Int)
theorem zl_len (u:List Nat):(zl u).length=u.length:=by simp [zl]
theorem zl_get (u:List Nat) (k:Nat):(zl u).getD k 0=((u.getD k 0:Nat):Int):=by
 unfold zl
 rcases Nat.lt_or_ge k u.length with h | h
 ·simp [List.getD,h]
 ·simp [List.getD,List.getElem?_eq_none h]
theorem zl_set (u:List Nat) (k v:Nat):(zl u).set k (v:Int)=zl (u.set k v):=by simp [zl,List.map_set]
structure UR (u:List Nat) (B:Nat) (f:Nat → Nat):Prop where
 len : u.length=B
 dn:Dn u
 rot : ∀ c,c < B → Rot u c (f c)
theorem UR.le {u:List Nat} {B:Nat} {f:Nat → Nat} (h:UR u B f) {c:Nat} (hc : c < B) : f c ≤ c:=by
 obtain ⟨r,h1,h2⟩:=Rot.ex h.dn c (by rw [h.len]; exact hc)
 rw [(h.rot c hc).uniq h1]; exact h2
theorem find_l {u0:List Nat} {B:Nat} {f:Nat → Nat} (h0 : u0.length=B) : ∀ (c fuel:Nat) (u:List Nat),c < fuel → UR u B f → c < B → ∃ v,m_impl_union_find_l1 (zl u0) fuel (zl u,(c:Int))=some (((f c:Nat):Int),zl v)∧UR v B f:=by
 intro c
 induction c using Nat.strongRecOn with
 | ind c ih =>
  intro fuel u hf hu hc
  obtain ⟨g,rfl⟩ : ∃ g,fuel=g+1:=⟨fuel - 1,by omega⟩
  rw [m_impl_union_find_l1.eq_2]
  have hx : ∀ d,d < B → ixB (d:Int) (zl u0).length=true:=fun d hd=>by rw [zl_len,h0]; exact ix_dec hd
  simp only [hx c hc,chk_true,Int.toNat_natCast,zl_get]
  by_cases hr : u.getD c 0=c
  ·have e:(((u.getD c 0:Nat):Int) != (c:Int))=false:=by rw [hr]; simp
   rw [e,(hu.rot c hc).fix hr]
   exact ⟨u,rfl,hu⟩
  ·have e:(((u.getD c 0:Nat):Int) != (c:Int))=true:=by simp only [bne_iff_ne,ne_eq]; omega
   have h1:=hu.dn c (by rw [hu.len]; exact hc)
   have h2:=hu.dn (u.getD c 0) (by rw [hu.len]; omega)
   simp only [e,cond_true,hx _ (show u.getD c 0 < B by omega),chk_true,Int.toNat_natCast,zl_get]
   have h3:(zl u).set c ((u.getD (u.getD c 0) 0:Nat):Int)=zl (u.set c (u.getD (u.getD c 0) 0)):=zl_set _ _ _
   rw [h3,zl_get,uset_get (by rw [hu.len]; exact hc),if_pos rfl]
   have hcl : c < u.length:=by rw [hu.len]; exact hc
   have hv:UR (u.set c (u.getD (u.getD c 0) 0)) B f:=⟨by rw [List.length_set]; exact hu.len,hu.dn.halve hcl,fun d hd=>Rot.halve hu.dn hcl d _ (by rw [hu.len]; exact hd) (hu.rot d hd)⟩
   obtain ⟨v,i1,i2⟩:=ih (u.getD (u.getD c 0) 0) (by omega) g _ (by omega) hv (by omega)
   have hf2 : f (u.getD (u.getD c 0) 0)=f c:=(hu.rot _ (by omega)).uniq ((hu.rot c hc).next.next)
   rw [hf2] at i1
   exact ⟨v,i1,i2⟩
theorem iFindU {u:List Nat} {B:Nat} {f:Nat → Nat} (h:UR u B f) (hB:B ≤ 1099511627776) {c:Nat} (hc : c < B) : ∃ v,m_impl_union_find (zl u) (c:Int)=some (((f c:Nat):Int),zl v)∧UR v B f:=by
 obtain ⟨v,h1,h2⟩:=find_l h.len c FUEL u (fuel_gt (by omega)) h hc
 refine ⟨v,?_,h2⟩
 unfold m_impl_union_find
 rw [h1]; rfl
theorem iSame {u:List Nat} {B:Nat} {f:Nat → Nat} (h:UR u B f) (hB:B ≤ 1099511627776) {a c:Nat} (ha : a < B) (hc : c < B) : ∃ v,m_impl_union_same (zl u) (a:Int) (c:Int)=some (decide (f a=f c),zl v)∧UR v B f:=by
 obtain ⟨v,h1,h2⟩:=iFindU h hB ha
 obtain ⟨x,h3,h4⟩:=iFindU h2 hB hc
 refine ⟨x,?_,h4⟩
 unfold m_impl_union_same
 rw [h1,Option.bind_some,h3,Option.bind_some]
 have:(((f a:Nat):Int) == ((f c:Nat):Int))=decide (f a=f c):=by rw [Bool.eq_iff_iff]; simp; omega
 rw [this]
theorem iJoin {u:List Nat} {B:Nat} {f:Nat → Nat} (h:UR u B f) (hB:B ≤ 1099511627776) {a c:Nat} (ha : a < B) (hc : c < B) : ∃ v,m_impl_union_join (zl u) (a:Int) (c:Int)=some (zl v)∧UR v B (relab f a c):=by
 obtain ⟨v,h1,h2⟩:=iFindU h hB ha
 obtain ⟨x,h3,h4⟩:=iFindU h2 hB hc
 have la:=h.le ha
 have lc:=h.le hc
 refine ⟨x.set (max (f a) (f c)) (min (f a) (f c)),?_,?_⟩
 ·unfold m_impl_union_join
  rw [h1,Option.bind_some,h3,Option.bind_some]
  have e1 : max ((f a:Nat):Int) ((f c:Nat):Int)=((max (f a) (f c):Nat):Int):=by omega
  have e2 : min ((f a:Nat):Int) ((f c:Nat):Int)=((min (f a) (f c):Nat):Int):=by omega
  have hx : ixB ((max (f a) (f c):Nat):Int) (zl u).length=true:=by rw [zl_len,h.len]; exact ix_dec (by omega)
  rw [e1,e2,hx,chk_true,Int.toNat_natCast]
  exact congrArg some (zl_set _ _ _)
 ·have hlen:=h4.len
  refine ⟨by rw [List.length_set]; exact hlen,fun d hd=>?_,fun d hd=>Rot.join h4.dn (fun c hc=>h4.rot c (by omega)) (by omega) (by omega) (fun c hc=>h4.le (by omega)) d (by omega)⟩
  rw [List.length_set] at hd
  rw [uset_get (by omega)]
  split
  ·omega
  ·exact h4.dn d hd
theorem iNew {B : Nat} (hB : B ≤ 1099511627776) : m_impl_newUnion (B : Int) = some (zl (List.range B)) ∧ UR (List.range B) B id := by
  refine ⟨?_, by simp, fun b hb => ?_, fun c hc => ?_⟩
  · unfold m_impl_newUnion
    have hm : mkB (B : Int) = true := by simp [mkB]; omega
    rw [hm, chk_true, Int.toNat_natCast]
    have h := loop_all (m_impl_newUnion_l1 (B : Int)) (fun k => ((List.range B).map (fun (i : Nat) => if i < k then (i : Int) else 0), (k : Int))) B (some (zl (List.range B))) (by omega) (fun k fuel hk => ?_) (fun fuel => ?_)
    · have e : (List.range B).map (fun (i : Nat) => if i < 0 then (i : Int) else 0) = List.replicate B (0 : Int) := by
        apply List.ext_getElem (by simp)
        intro i h1 h2
        simp
      rw [e] at h
      rw [show m_impl_newUnion_l1 (B : Int) FUEL (List.replicate B (0 : Int), 0) = _ from h]; rfl
    · rw [m_impl_newUnion_l1.eq_2]
      simp only [Int.toNat_natCast, lt_dec hk, ix_dec hk, cond_true, chk_true, w64_succ (by omega : k < 4611686018427387904)]
      congr 2
      apply List.ext_getElem (by simp)
      intro i h1 h2
      rw [List.getElem_set]
      simp only [List.getElem_map, List.getElem_range]
      split
      · rename_i e; subst e; rw [if_pos (by omega)]
      · by_cases hi : i < k
        · rw [if_pos hi, if_pos (by omega)]
        · rw [if_neg hi, if_neg (by omega)]
    · rw [m_impl_newUnion_l1.eq_2]
      simp only [Int.toNat_natCast, nlt_dec, cond_false]
      congr 1
      unfold zl
      refine List.map_congr_left fun i hi => ?_
      rw [if_pos (by simpa using hi)]
  · have hb : b < B := by simpa using hb
    simp [List.getD, hb]
  · exact .stop (by simp [List.getD, hc])
theorem ln_nat {b:Int} {l:Ln} (h:LnOk b l) : l.1=(((edgeE l).1:Nat):Int)∧l.2.1=(((edgeE l).2:Nat):Int)∧(edgeE l).1 < b.toNat∧(edgeE l).2 < b.toNat:=by
 have:=h.a; have:=h.b
 unfold edgeE
 dsimp only
 omega
section
variable {b:Int} {ls:List Ln} {on:List Bool} (h:StOk b ls on)
include h
theorem zip_at {k:Nat} (hk : k < ls.length) : onL ((ls.zip on).take (k+1))=if on.getD k false then onL ((ls.zip on).take k)++[edgeE (ls.getD k (0,0,0))] else onL ((ls.zip on).take k):=by
 have hl:=h.len
 have hz : k < (ls.zip on).length:=by simp; omega
 rw [onL_step hz,getD_ge (by omega : k < on.length),getD_ge hk]
 simp
theorem zip_all : onL ((ls.zip on).take ls.length)=onE ls on:=by
 have hl:=h.len
 unfold onE
 rw [List.take_of_length_le (by simp; omega)]
theorem iCyc : m_impl_hasCycle b ls on=some (cycB ls on):=by
 have hb:=h.net.b0; have hb1:=h.net.b1; have hll:=h.net.ll; have hl:=h.len
 obtain ⟨B,rfl⟩ : ∃ B:Nat,b=(B:Int):=⟨b.toNat,by omega⟩
 obtain ⟨n1,n2⟩:=iNew (B:=B) (by omega)
 unfold m_impl_hasCycle cycB
 rw [n1,Option.bind_some]
 have hh:=loop_hunt (m_impl_hasCycle_l1 ls on) (fun k s=>∃ u,s=(zl u,(k:Int))∧UR u B (labs (onL ((ls.zip on).take k)))) ls.length
  (fun k=>on.getD k false && labs (onL ((ls.zip on).take k)) (edgeE (ls.getD k (0,0,0))).1 == labs (onL ((ls.zip on).take k)) (edgeE (ls.getD k (0,0,0))).2) (some (.inr true)) (some (.inl ())) (by omega) ?_ ?_ (zl (List.range B),0) ⟨_,rfl,n2⟩
 ·rw [hh]
  cases (List.range ls.length).any _ <;> rfl
 ·rintro k fuel s hk ⟨u,rfl,hu⟩
  rw [m_impl_hasCycle_l1.eq_2]
  have hln:=ln_nat (h.net.ln k hk)
  simp only [Int.toNat_natCast] at hln
  simp only [lt_dec hk,ix_dec hk,ix_dec (show k < on.length by omega),chk_true,cond_true,Int.toNat_natCast,w64_succ (by omega : k < 4611686018427387904)]
  rw [hln.1,hln.2.1]
  cases ho : on.getD k false
  ·right
   refine ⟨rfl,(zl u,((k+1:Nat):Int)),⟨u,rfl,?_⟩,rfl⟩
   rw [zip_at h hk,ho]; exact hu
  ·obtain ⟨v,s1,s2⟩:=iSame hu (by omega) hln.2.2.1 hln.2.2.2
   simp only [cond_true,s1,Option.bind_some]
   by_cases he : labs (onL ((ls.zip on).take k)) (edgeE (ls.getD k (0,0,0))).1=labs (onL ((ls.zip on).take k)) (edgeE (ls.getD k (0,0,0))).2
   ·left
    rw [decide_eq_true he]
    exact ⟨by rw [he]; simp,rfl⟩
   ·right
    obtain ⟨x,j1,j2⟩:=iJoin s2 (by omega) hln.2.2.1 hln.2.2.2
    rw [decide_eq_false he]
    simp only [cond_false,j1,Option.bind_some]
    refine ⟨by simpa using he,(zl x,((k+1:Nat):Int)),⟨x,rfl,?_⟩,rfl⟩
    rw [zip_at h hk,ho,if_pos rfl,labs_snoc]; exact j2
 ·rintro fuel s ⟨u,rfl,hu⟩
  rw [m_impl_hasCycle_l1.eq_2]; simp only [nlt_dec,cond_false]
end
def bl (B:Nat) (s:Nat → Bool):List Bool:=(List.range B).map s
theorem bl_len (B:Nat) (s:Nat → Bool):(bl B s).length=B:=by simp [bl]
theorem bl_get {B c:Nat} {s:Nat → Bool} (h : c < B):(bl B s).getD c false=s c:=by simp [bl,List.getD,h]
theorem bl_set {B a:Nat} {s:Nat → Bool} (h : a < B):(bl B s).set a true=bl B (fun c=>c == a || s c):=by
 apply List.ext_getElem (by simp [bl])
 intro i h1 h2
 rw [List.getElem_set]
 simp only [bl,List.getElem_map,List.getElem_range]
 split
 ·rename_i e; subst e; simp
 ·rename_i e
  have:(i == a)=false:=by simpa using fun e2=>e e2.symm
  rw [this]; rfl
theorem bl_congr {B:Nat} {s t:Nat → Bool} (h : ∀ c,c < B → s c=t c) : bl B s=bl B t:=List.map_congr_left fun c hc=>h c (by simpa using hc)
theorem sweep_snoc (E:Ed) (e:Nat×Nat) (s:Nat → Bool) : sweep (E++[e]) s=hit (sweep E s) e:=by unfold sweep; rw [List.foldl_append]; rfl
section
variable {B:Nat} {ls:List Ln} {on:List Bool} (h:StOk (B:Int) ls on)
include h
theorem sReach_l2 (s:Nat → Bool) : m_spec_l3Reach_l2 (B:Int) ls on FUEL (bl B s,0)=some (bl B (sweep (onE ls on) s)):=by
 have hll:=h.net.ll; have hl:=h.len
 have hh:=loop_all (m_spec_l3Reach_l2 (B:Int) ls on) (fun k=>(bl B (sweep (onL ((ls.zip on).take k)) s),(k:Int))) ls.length (some (bl B (sweep (onE ls on) s))) (by omega) (fun k fuel hk=>?_) (fun fuel=>?_)
 ·exact hh
 ·rw [m_spec_l3Reach_l2.eq_2]
  have hln:=ln_nat (h.net.ln k hk)
  simp only [Int.toNat_natCast] at hln
  simp only [lt_dec hk,ix_dec hk,ix_dec (show k < on.length by omega),chk_true,cond_true,Int.toNat_natCast,w64_succ (by omega : k < 4611686018427387904)]
  rw [hln.1,hln.2.1]
  rw [zip_at h hk]
  generalize edgeE (ls.getD k (0,0,0))=e at *
  simp only [ix_dec hln.2.2.1,ix_dec hln.2.2.2,Int.toNat_natCast,Bool.or_true,chk_true,bl_len,bl_get hln.2.2.1,bl_get hln.2.2.2]
  cases ho : on.getD k false
  ·rfl
  ·rw [if_pos rfl,sweep_snoc]
   generalize sweep (onL ((ls.zip on).take k)) s=t
   unfold hit
   rw [Bool.true_and]
   cases t e.1 || t e.2
   ·rfl
   ·simp only [cond_true,Option.bind_some,if_true]
    rw [bl_set hln.2.2.1,bl_set hln.2.2.2]
    congr 2
    refine bl_congr fun c hc=>?_
    cases c == e.1 <;> cases c == e.2 <;> rfl
 ·rw [m_spec_l3Reach_l2.eq_2]
  simp only [nlt_dec,cond_false]
  rw [zip_all h]
theorem sReach {b:Nat} (hb : b < B) : m_spec_l3Reach (B:Int) ls on (b:Int)=some (bl B (sweeps (onE ls on) (fun c=>c == b) B)):=by
 have h1:=h.net.b1
 unfold m_spec_l3Reach
 have hm : mkB (B:Int)=true:=by simp [mkB]; omega
 rw [hm,chk_true,Int.toNat_natCast,ix_dec hb,chk_true,Int.toNat_natCast]
 have e:(List.replicate B false).set b true=bl B (fun c=>c == b):=by
  apply List.ext_getElem (by simp [bl])
  intro i h1 h2
  rw [List.getElem_set]
  simp only [bl,List.getElem_map,List.getElem_range,List.getElem_replicate]
  split
  ·rename_i e; subst e; simp
  ·rename_i e; symm; simpa using fun e2=>e e2.symm
 have hh:=loop_all (m_spec_l3Reach_l1 (B:Int) ls on) (fun k=>(bl B (sweeps (onE ls on) (fun c=>c == b) k),(k:Int))) B (some (bl B (sweeps (onE ls on) (fun c=>c == b) B))) (by omega) (fun k fuel hk=>?_) (fun fuel=>?_)
 ·rw [e,show m_spec_l3Reach_l1 (B:Int) ls on FUEL (bl B (fun c=>c == b),0)=_ from hh]; rfl
 ·rw [m_spec_l3Reach_l1.eq_2]
  simp only [lt_dec hk,cond_true,sReach_l2 h,Option.bind_some,w64_succ (by omega : k < 4611686018427387904)]
  rfl
 ·rw [m_spec_l3Reach_l1.eq_2]; simp only [nlt_dec,cond_false]
theorem st_lt : ∀ e ∈ onE ls on,e.1 < B∧e.2 < B:=by
 intro e he
 obtain ⟨k,hk,_,rfl⟩:=onE_mem.1 he
 have:=ln_nat (h.net.ln k hk)
 simp only [Int.toNat_natCast] at this
 exact ⟨this.2.2.1,this.2.2.2⟩
theorem sweeps_labs {b:Nat} (hb : b < B) (c:Nat) : sweeps (onE ls on) (fun c=>c == b) B c=(labs (onE ls on) b == labs (onE ls on) c):=by
 rw [Bool.eq_iff_iff,sweeps_cn (st_lt h) hb,beq_iff_eq,labs_cn]
def reachL (E:Ed) (B b:Nat):List Nat:=(List.range B).filter fun c=>labs E b == labs E c
theorem sReached {b:Nat} (hb : b < B) : m_spec_Reached (B:Int) ls on (b:Int)=some (zl (reachL (onE ls on) B b)):=by
 have h1:=h.net.b1
 unfold m_spec_Reached m_spec_l1In
 have w1 : w64 ((B:Int) - 1)=(B:Int) - 1:=w64_in (by omega) (by omega)
 have c1:(leB 0 (b:Int) && leB (b:Int) ((B:Int) - 1))=true:=by simp [leB]; omega
 rw [sState,stV_iff.2 h,Option.bind_some,w1,c1]
 simp only [Bool.not_true,Bool.not_false,gb_true,Option.bind_some,Bool.or_self,cond_false,sReach h hb]
 have e : bl B (sweeps (onE ls on) (fun c=>c == b) B)=bl B (fun c=>labs (onE ls on) b == labs (onE ls on) c):=bl_congr fun c _=>sweeps_labs h hb c
 rw [e]
 have hh:=loop_all (m_spec_Reached_l1 (B:Int) (bl B (fun c=>labs (onE ls on) b == labs (onE ls on) c))) (fun k=>(zl ((List.range k).filter fun c=>labs (onE ls on) b == labs (onE ls on) c),(k:Int))) B (some (zl (reachL (onE ls on) B b))) (by omega) (fun k fuel hk=>?_) (fun fuel=>?_)
 ·rw [show m_spec_Reached_l1 (B:Int) _ FUEL (([]:List Int),0)=_ from hh]; rfl
 ·rw [m_spec_Reached_l1.eq_2]
  have hl:(zl ((List.range k).filter fun c=>labs (onE ls on) b == labs (onE ls on) c)).length ≤ k:=by
   rw [zl_len]; have:=List.length_filter_le (fun c=>labs (onE ls on) b == labs (onE ls on) c) (List.range k); simpa using this
  have ha : ∀ x:Int,apB (zl ((List.range k).filter fun c=>labs (onE ls on) b == labs (onE ls on) c)).length [x].length=true:=fun x=>by simp [apB]; omega
  simp only [lt_dec hk,cond_true,bl_len,ix_dec hk,chk_true,Int.toNat_natCast,bl_get hk,ha,w64_succ (by omega : k < 4611686018427387904)]
  rw [List.range_succ,List.filter_append]
  cases hc : labs (onE ls on) b == labs (onE ls on) k
  ·simp [hc,List.filter_cons]
  ·simp [hc,List.filter_cons,zl]
 ·rw [m_spec_Reached_l1.eq_2]; simp only [nlt_dec,cond_false]; rfl
omit h in
theorem sHas (l:List Int) (x:Int) (hl : l.length ≤ 1099511627776) : m_spec_l1Has l x=some (decide (x ∈ l)):=by
 unfold m_spec_l1Has
 have hh:=loop_find (m_spec_l1Has_l1 l x) (fun k=>(k:Int)) l.length (fun k=>l.getD k 0 == x) (some (.inr true)) (some (.inl ())) hl (fun k fuel hk=>?_) (fun fuel=>?_)
 ·rw [show m_spec_l1Has_l1 l x FUEL 0=_ from hh,any_list l 0 (fun y=>y == x)]
  have : l.any (fun y=>y == x)=decide (x ∈ l):=by
   rw [Bool.eq_iff_iff,List.any_eq_true,decide_eq_true_eq]
   exact ⟨fun ⟨y,h1,h2⟩=>by rw [← (beq_iff_eq.1 h2)]; exact h1,fun h=>⟨x,h,by simp⟩⟩
  rw [this]
  cases decide (x ∈ l) <;> rfl
 ·rw [m_spec_l1Has_l1.eq_2]
  simp only [lt_dec hk,ix_dec hk,chk_true,cond_true,Int.toNat_natCast,w64_succ (by omega : k < 4611686018427387904)]
 ·rw [m_spec_l1Has_l1.eq_2]; simp only [nlt_dec,cond_false]
omit h in
theorem zl_mem {l:List Nat} {c:Nat}:(c:Int) ∈ zl l ↔ c ∈ l:=by
 simp only [zl,List.mem_map]
 constructor
 ·rintro ⟨a,h1,h2⟩; have : a=c:=by omega
  subst this; exact h1
 ·intro h; exact ⟨c,h,rfl⟩
omit h in
theorem reachL_len (E:Ed) (B b:Nat):(reachL E B b).length ≤ B:=by
 unfold reachL; have:=List.length_filter_le (fun c=>labs E b == labs E c) (List.range B); simpa using this
theorem sSame {a c:Nat} (ha : a < B) (hc : c < B) : m_spec_SameIsland (B:Int) ls on (a:Int) (c:Int)=some (labs (onE ls on) a == labs (onE ls on) c):=by
 have h1:=h.net.b1
 unfold m_spec_SameIsland
 have hl:=reachL_len (onE ls on) B a
 rw [sReached h ha,Option.bind_some,sHas _ _ (by rw [zl_len]; omega),Option.bind_some]
 have : decide ((c:Int) ∈ zl (reachL (onE ls on) B a))=(labs (onE ls on) a == labs (onE ls on) c):=by
  rw [Bool.eq_iff_iff,decide_eq_true_eq,zl_mem]
  simp [reachL,hc]
 rw [this]
def cyAt (ls:List Ln) (on:List Bool) (k:Nat):Bool:=on.getD k false && labs (onE ls (on.set k false)) (edgeE (ls.getD k (0,0,0))).1 == labs (onE ls (on.set k false)) (edgeE (ls.getD k (0,0,0))).2
theorem off_ok (k:Nat):StOk (B:Int) ls (on.set k false):=⟨h.net,by rw [List.length_set]; exact h.len⟩
theorem sCyc : m_spec_HasCycle (B:Int) ls on=some (cycP ls on):=by
 have hll:=h.net.ll; have hl:=h.len
 unfold m_spec_HasCycle m_spec_CycleLines
 have hh:=loop_all (m_spec_CycleLines_l1 (B:Int) ls on) (fun k=>(zl ((List.range k).filter (cyAt ls on)),(k:Int))) ls.length
  (some (zl ((List.range ls.length).filter (cyAt ls on)))) (by omega) (fun k fuel hk=>?_) (fun fuel=>?_)
 ·rw [show m_spec_CycleLines_l1 (B:Int) ls on FUEL (([]:List Int),0)=_ from hh]
  simp only [Option.bind_some,zl_len]
  congr 1
  show ltB 0 (((List.range ls.length).filter (cyAt ls on)).length:Int)=(List.range ls.length).any (cyAt ls on)
  rw [Bool.eq_iff_iff,ltB,decide_eq_true_eq,List.any_eq_true]
  constructor
  ·intro h1
   obtain ⟨k,hk⟩:=List.exists_mem_of_length_pos (show 0 < ((List.range ls.length).filter (cyAt ls on)).length by omega)
   obtain ⟨h2,h3⟩:=List.mem_filter.1 hk
   exact ⟨k,h2,h3⟩
  ·rintro ⟨k,h2,h3⟩
   have:=List.length_pos_of_mem (List.mem_filter.2 ⟨h2,h3⟩)
   omega
 ·rw [m_spec_CycleLines_l1.eq_2]
  have hln:=ln_nat (h.net.ln k hk)
  simp only [Int.toNat_natCast] at hln
  have hkn : k < on.length:=by omega
  have w1 : w64 ((on.length:Int) - 1)=(on.length:Int) - 1:=w64_in (by omega) (by omega)
  have c1:(leB 0 (k:Int) && leB (k:Int) ((on.length:Int) - 1))=true:=by simp [leB]; omega
  have a1 : apB ([]:List Bool).length on.length=true:=by simp [apB]; omega
  have hl2:=List.length_filter_le (cyAt ls on) (List.range k)
  rw [List.length_range] at hl2
  have ha : ∀ x:Int,apB (zl ((List.range k).filter (cyAt ls on))).length [x].length=true:=fun x=>by rw [zl_len]; simp [apB]; omega
  have hsw : m_spec_SwitchLine (B:Int) ls on (k:Int) false=some (on.set k false,true):=by
   unfold m_spec_SwitchLine m_spec_l2Copy m_spec_l1In
   rw [sState,stV_iff.2 h]
   simp only [Option.bind_some,cond_true,a1,chk_true,List.nil_append,w1,c1,ix_dec hkn,Int.toNat_natCast]
  have hsame:=sSame (off_ok h k) hln.2.2.1 hln.2.2.2
  rw [sState,stV_iff.2 h]
  simp only [lt_dec hkn,gb_true,Option.bind_some,Bool.and_self,cond_true,hsw,ix_dec hkn,ix_dec hk,Bool.or_true,chk_true,Int.toNat_natCast,ha,w64_succ (by omega : k < 4611686018427387904)]
  rw [hln.1,hln.2.1,hsame,List.range_succ,List.filter_append]
  have hcy : cyAt ls on k=(on.getD k false && labs (onE ls (on.set k false)) (edgeE (ls.getD k (0,0,0))).1 == labs (onE ls (on.set k false)) (edgeE (ls.getD k (0,0,0))).2):=rfl
  rw [List.filter_cons,List.filter_nil,hcy]
  cases ho : on.getD k false
  ·simp [gb]
  ·cases hc : labs (onE ls (on.set k false)) (edgeE (ls.getD k (0,0,0))).1 == labs (onE ls (on.set k false)) (edgeE (ls.getD k (0,0,0))).2
   ·simp [gb]
   ·simp [gb,zl]
 ·rw [m_spec_CycleLines_l1.eq_2]
  have : ltB (ls.length:Int) (on.length:Int)=false:=by rw [hl]; exact nlt_dec
  simp only [this,gb_false,Option.bind_some,Bool.false_and,cond_false]
end
end Go.Proofs.YtcmnjaccapbhfaaGreat
