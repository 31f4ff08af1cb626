/- Sums of the islands: feeds and loads by least buses; the buses that are alive. -/
import Derived.Test.YtcmnjaccapbhfaaGreatQTr
import Derived.Test.YtcmnjaccapbhfaaGreatQFlw
namespace Go.Proofs.YtcmnjaccapbhfaaGreat
set_option linter.unusedVariables false
set_option linter.unusedSimpArgs false
theorem loop_filter {Out:Type} (L:Nat → (List Int×Int) → Option Out) (n:Nat) (p:Nat → Bool) (fin:List Int → Option Out) (hn : n ≤ 1099511627775) (hstep : ∀ k fuel (l:List Int),k < n → apB l.length ([(k:Int)]:List Int).length=true → L (fuel+1) (l,(k:Int))=L fuel (bif p k then l++[(k:Int)] else l,((k+1:Nat):Int)))
  (hend : ∀ fuel (l:List Int),L (fuel+1) (l,(n:Int))=fin l):L FUEL (([]:List Int),0)=fin (zl ((List.range n).filter p)):=by
 have hh:=loop_all L (fun k=>(zl ((List.range k).filter p),(k:Int))) n (fin (zl ((List.range n).filter p))) (by omega) (fun k fuel hk=>?_) (fun fuel=>hend fuel _)
 ·exact hh
 ·have hl:=List.length_filter_le p (List.range k)
  rw [List.length_range] at hl
  rw [hstep k fuel _ hk (by rw [zl_len]; simp [apB]; omega),List.range_succ,List.filter_append,List.filter_cons,List.filter_nil]
  congr 2
  cases p k <;> simp [zl]
theorem sum_filter (l:List Nat) (p:Nat → Bool) (f:Nat → Int):((l.filter p).map f).sum=(l.map fun c=>if p c=true then f c else 0).sum:=by
 induction l with
 | nil=>rfl
 | cons x l ih =>
  rw [List.filter_cons,List.map_cons,List.sum_cons,← ih]
  split
  ·rename_i h; rw [List.map_cons,List.sum_cons]
  ·rename_i h; omega
def sumK (E:Ed) (pts:List (Int×Int)) (f:Int×Int → Int) (k j:Nat):Int:=((List.range k).map fun c=>if labs E c=j then f (pts.getD c (0,0)) else 0).sum
theorem sumK_0 (E:Ed) (pts:List (Int×Int)) (f:Int×Int → Int) (j:Nat) : sumK E pts f 0 j=0:=rfl
theorem sumK_s (E:Ed) (pts:List (Int×Int)) (f:Int×Int → Int) (k j:Nat) : sumK E pts f (k+1) j=sumK E pts f k j+(if labs E k=j then f (pts.getD k (0,0)) else 0):=by
 unfold sumK
 rw [List.range_succ,List.map_append,List.sum_append]; simp
theorem sumE_K (E:Ed) (pts:List (Int×Int)) (f:Int×Int → Int) (b:Nat) : sumE E pts f b=sumK E pts f pts.length (labs E b):=rfl
theorem sumK_bound (E:Ed) (pts:List (Int×Int)) (f:Int×Int → Int) (hf : ∀ c,c < pts.length → 0 ≤ f (pts.getD c (0,0))∧f (pts.getD c (0,0)) ≤ 999) (j:Nat) : ∀ k,k ≤ pts.length → 0 ≤ sumK E pts f k j∧sumK E pts f k j ≤ 999 * k
 | 0,_=>by rw [sumK_0]; omega
 | k+1,hk=>by
  have ih:=sumK_bound E pts f hf j k (by omega)
  have:=hf k (by omega)
  rw [sumK_s]
  split <;> omega
theorem get8 (S:Nat → Int) {r:Nat} (hr : r < 8):([S 0,S 1,S 2,S 3,S 4,S 5,S 6,S 7]:List Int).getD r 0=S r:=by
 match r,hr with
 | 0,_=>rfl
 | 1,_=>rfl
 | 2,_=>rfl
 | 3,_=>rfl
 | 4,_=>rfl
 | 5,_=>rfl
 | 6,_=>rfl
 | 7,_=>rfl
theorem upd8 {S T:Nat → Int} {r j:Nat} {z x y:Int} (hT:T j=S j+(if r=j then x else 0)) (hz : z=(j:Int)) (hy : y=S r+x):(bif ((r:Nat):Int) == z then y else S j)=T j:=by
 subst hz
 rw [hT,hy]
 by_cases h : r=j
 ·subst h; simp
 ·have:(((r:Nat):Int) == ((j:Nat):Int))=false:=by rw [beq_eq_false_iff_ne]; omega
  rw [this,if_neg h]; simp
abbrev T16:=Int×Int×Int×Int×Int×Int×Int×Int×Int×Int×Int×Int×Int×Int×Int×Int
def t16 (S T:Nat → Int):T16:=(S 0,S 1,S 2,S 3,S 4,S 5,S 6,S 7,T 0,T 1,T 2,T 3,T 4,T 5,T 6,T 7)
section
variable {b:Int} {ls:List Ln} {on:List Bool} (h:StOk b ls on)
include h
theorem iUnion : ∃ u,m_impl_unionOf b ls on=some (zl u)∧UR u b.toNat (labs (onE ls on)):=by
 have hb:=h.net.b0; have hb1:=h.net.b1; have hll:=h.net.ll; have hl:=h.len
 obtain ⟨B,rfl⟩ : ∃ B:Nat,b=(B:Int):=⟨b.toNat,by omega⟩
 obtain ⟨n1,n2⟩:=iNew (B:=B) (by omega)
 obtain ⟨s,⟨u,rfl,hu⟩,h2⟩:=loop_rel (m_impl_unionOf_l1 ls on) (fun k s=>∃ u,s=(zl u,(k:Int))∧UR u B (labs (onL ((ls.zip on).take k)))) ls.length (fun s=>some s.1) (by omega) (by
  rintro k fuel s hk ⟨u,rfl,hu⟩
  rw [m_impl_unionOf_l1.eq_2]
  have hln:=ln_nat (h.net.ln k hk)
  simp only [Int.toNat_natCast] at hln
  simp only [lt_dec hk,ix_dec hk,ix_dec (show k < on.length by omega),chk_true,cond_true,Int.toNat_natCast,w64_succ (by omega : k < 4611686018427387904)]
  rw [hln.1,hln.2.1]
  cases ho : on.getD k false
  ·refine ⟨_,⟨u,rfl,?_⟩,rfl⟩
   rw [zip_at h hk,ho]; exact hu
  ·obtain ⟨x,j1,j2⟩:=iJoin hu (by omega) hln.2.2.1 hln.2.2.2
   simp only [cond_true,j1,Option.bind_some]
   refine ⟨_,⟨x,rfl,?_⟩,rfl⟩
   rw [zip_at h hk,ho,if_pos rfl,labs_snoc]; exact j2) (by
  rintro fuel s ⟨u,rfl,hu⟩
  rw [m_impl_unionOf_l1.eq_2]; simp only [nlt_dec,cond_false]) (zl (List.range B),0) ⟨_,rfl,n2⟩
 refine ⟨u,?_,?_⟩
 ·unfold m_impl_unionOf
  rw [n1,Option.bind_some,h2]; rfl
 ·rw [zip_all h] at hu
  simpa using hu
variable {pts:List (Int×Int)} (hB:BusOk b ls pts)
include hB
omit h in
theorem b_len : pts.length ≤ 8∧b.toNat=pts.length:=by have:=hB.net.b1; have:=hB.lp; omega
set_option maxHeartbeats 1000000 in
theorem iSums : m_impl_sumsOf b ls on pts=some (t16 (sumK (onE ls on) pts (·.1) pts.length) (sumK (onE ls on) pts (·.2) pts.length)):=by
 obtain ⟨u,u1,u2⟩:=iUnion h
 obtain ⟨b1,b2⟩:=b_len hB
 rw [b2] at u2
 unfold m_impl_sumsOf
 rw [u1,Option.bind_some]
 have hf1 : ∀ c,c < pts.length → 0 ≤ (pts.getD c (0,0)).1∧(pts.getD c (0,0)).1 ≤ 999:=fun c hc=>(hB.bs c hc).1
 have hf2 : ∀ c,c < pts.length → 0 ≤ (pts.getD c (0,0)).2∧(pts.getD c (0,0)).2 ≤ 999:=fun c hc=>(hB.bs c hc).2
 obtain ⟨s,⟨v,rfl,hv⟩,h2⟩:=loop_rel (m_impl_sumsOf_l1 pts) (fun k s=>∃ v,s=(zl v,(k:Int),t16 (sumK (onE ls on) pts (·.1) k) (sumK (onE ls on) pts (·.2) k))∧UR v pts.length (labs (onE ls on))) pts.length (fun s=>some s.2.2) (by omega) (by
  rintro k fuel s hk ⟨v,rfl,hv⟩
  rw [m_impl_sumsOf_l1.eq_2]
  obtain ⟨x,x1,x2⟩:=iFindU hv (by omega) hk
  have hr : labs (onE ls on) k < 8:=by have:=hv.le hk; omega
  have k1:=sumK_bound (onE ls on) pts (·.1) hf1 (labs (onE ls on) k) k (by omega)
  have k2:=sumK_bound (onE ls on) pts (·.2) hf2 (labs (onE ls on) k) k (by omega)
  have p1:=hf1 k hk
  have p2:=hf2 k hk
  have w1 : w64 (sumK (onE ls on) pts (·.1) k (labs (onE ls on) k)+(pts.getD k (0,0)).1)=sumK (onE ls on) pts (·.1) k (labs (onE ls on) k)+(pts.getD k (0,0)).1:=w64_in (by omega) (by omega)
  have w2 : w64 (sumK (onE ls on) pts (·.2) k (labs (onE ls on) k)+(pts.getD k (0,0)).2)=sumK (onE ls on) pts (·.2) k (labs (onE ls on) k)+(pts.getD k (0,0)).2:=w64_in (by omega) (by omega)
  dsimp only [t16]
  simp only [lt_dec hk,ix_dec hk,chk_true,cond_true,Int.toNat_natCast,w64_succ (by omega : k < 4611686018427387904),x1,Option.bind_some,ix_dec hr,get8 _ hr,w1,w2]
  have s1:=fun j=>sumK_s (onE ls on) pts (·.1) k j
  have s2:=fun j=>sumK_s (onE ls on) pts (·.2) k j
  refine ⟨(zl x,((k+1:Nat):Int),t16 (sumK (onE ls on) pts (·.1) (k+1)) (sumK (onE ls on) pts (·.2) (k+1))),⟨x,rfl,x2⟩,?_⟩
  dsimp only [t16]
  rw [upd8 (s1 0) (show (0:Int)=((0:Nat):Int) from rfl) rfl,upd8 (s1 1) (show (1:Int)=((1:Nat):Int) from rfl) rfl,upd8 (s1 2) (show (2:Int)=((2:Nat):Int) from rfl) rfl,upd8 (s1 3) (show (3:Int)=((3:Nat):Int) from rfl) rfl,
   upd8 (s1 4) (show (4:Int)=((4:Nat):Int) from rfl) rfl,upd8 (s1 5) (show (5:Int)=((5:Nat):Int) from rfl) rfl,upd8 (s1 6) (show (6:Int)=((6:Nat):Int) from rfl) rfl,upd8 (s1 7) (show (7:Int)=((7:Nat):Int) from rfl) rfl,
   upd8 (s2 0) (show (0:Int)=((0:Nat):Int) from rfl) rfl,upd8 (s2 1) (show (1:Int)=((1:Nat):Int) from rfl) rfl,upd8 (s2 2) (show (2:Int)=((2:Nat):Int) from rfl) rfl,upd8 (s2 3) (show (3:Int)=((3:Nat):Int) from rfl) rfl,
   upd8 (s2 4) (show (4:Int)=((4:Nat):Int) from rfl) rfl,upd8 (s2 5) (show (5:Int)=((5:Nat):Int) from rfl) rfl,upd8 (s2 6) (show (6:Int)=((6:Nat):Int) from rfl) rfl,upd8 (s2 7) (show (7:Int)=((7:Nat):Int) from rfl) rfl]) (by
  rintro fuel s ⟨v,rfl,hv⟩
  rw [m_impl_sumsOf_l1.eq_2]; simp only [nlt_dec,cond_false]) (zl u,0,t16 (fun _=>0) (fun _=>0)) ⟨u,rfl,u2⟩
 rw [show m_impl_sumsOf_l1 pts FUEL (zl u,0,0,0,0,0,0,0,0,0,0,0,0,0,0,0,0,0)=_ from h2]
 rfl
end
theorem reach_sum {E:Ed} {pts:List (Int×Int)} {b:Nat} (f:Int×Int → Int):((reachL E pts.length b).map fun c=>f (pts.getD c (0,0))).sum=sumE E pts f b:=by
 unfold reachL sumE
 rw [sum_filter]
 refine sum_same fun c hc=>?_
 by_cases h : labs E c=labs E b
 ·rw [if_pos (by rw [h]; simp),if_pos h]
 ·rw [if_neg (by simpa using Ne.symm h),if_neg h]
theorem sum_take_succ {l:List Nat} {f:Nat → Int} {k:Nat} (hk : k < l.length):((l.take (k+1)).map f).sum=((l.take k).map f).sum+f (l.getD k 0):=by
 rw [List.take_succ_eq_append_getElem hk,List.map_append,List.sum_append,getD_ge hk]; simp
theorem sum_sub (l:List Nat) (f:Nat → Int) (hf : ∀ c ∈ l,0 ≤ f c∧f c ≤ 999) : 0 ≤ (l.map f).sum∧(l.map f).sum ≤ 999 * l.length:=by
 induction l with
 | nil=>simp
 | cons x l ih =>
  have h1:=ih fun c hc=>hf c (by simp [hc])
  have h2:=hf x (by simp)
  simp only [List.map_cons,List.sum_cons,List.length_cons]
  omega
section
variable {ls:List Ln} {on:List Bool} {pts:List (Int×Int)} (h1:StOk (pts.length:Int) ls on) (h2:BusOk (pts.length:Int) ls pts)
include h1 h2
theorem sIslFeed {k:Nat} (hk : k < pts.length) : m_spec_IslandFeed (pts.length:Int) ls on pts (k:Int)=some (sumE (onE ls on) pts (·.1) k):=by
 have hB:=h1.net.b1
 unfold m_spec_IslandFeed m_spec_l1In
 have w1 : w64 ((pts.length:Int) - 1)=(pts.length:Int) - 1:=w64_in (by omega) (by omega)
 have c1:(leB 0 (k:Int) && leB (k:Int) ((pts.length:Int) - 1))=true:=by simp [leB]; omega
 rw [sFed _ ls pts (by omega),okV_iff.2 ⟨h1,h2⟩,Option.bind_some,w1,c1]
 simp only [Bool.not_true,Bool.not_false,gb_true,Option.bind_some,Bool.or_self,cond_false,sReached h1 hk]
 rw [← reach_sum]
 have hl:=reachL_len (onE ls on) pts.length k
 have hm : ∀ c ∈ reachL (onE ls on) pts.length k,c < pts.length:=fun c hc=>by have:=(List.mem_filter.1 hc).1; simpa using this
 generalize reachL (onE ls on) pts.length k=l at *
 have hh:=loop_all (m_spec_IslandFeed_l1 pts (zl l)) (fun j=>(((l.take j).map fun c=>(pts.getD c (0,0)).1).sum,(j:Int))) l.length (some ((l.map fun c=>(pts.getD c (0,0)).1).sum)) (by omega) (fun j fuel hj=>?_) (fun fuel=>?_)
 ·rw [show m_spec_IslandFeed_l1 pts (zl l) FUEL (0,0)=_ from hh]; rfl
 ·rw [m_spec_IslandFeed_l1.eq_2]
  have hc : l.getD j 0 < pts.length:=hm _ (by rw [getD_ge hj]; exact List.getElem_mem hj)
  have hb:=sum_sub (l.take j) (fun c=>(pts.getD c (0,0)).1) (fun c hc=>(h2.bs c (hm c (List.mem_of_mem_take hc))).1)
  have hlen:(l.take j).length=j:=by rw [List.length_take]; omega
  have hx:=(h2.bs _ hc).1
  rw [hlen] at hb
  have w2 : w64 (((l.take j).map fun c=>(pts.getD c (0,0)).1).sum+(pts.getD (l.getD j 0) (0,0)).1)=((l.take j).map fun c=>(pts.getD c (0,0)).1).sum+(pts.getD (l.getD j 0) (0,0)).1:=w64_in (by omega) (by omega)
  simp only [zl_len,lt_dec hj,ix_dec hj,cond_true,chk_true,Int.toNat_natCast,zl_get,ix_dec hc,w2,w64_succ (by omega : j < 4611686018427387904)]
  rw [sum_take_succ hj]
 ·rw [m_spec_IslandFeed_l1.eq_2]; simp only [zl_len,nlt_dec,cond_false,List.take_length]
end
end Go.Proofs.YtcmnjaccapbhfaaGreat
