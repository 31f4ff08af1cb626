/- The best state: served loads, changes, states by number; BestState without broken lines is bestP; RestoreOrder. -/
import Derived.Test.YtcmnjaccapbhfaaGreatQFlS
namespace Go.Proofs.YtcmnjaccapbhfaaGreat
set_option linter.unusedVariables false
set_option linter.unusedSimpArgs false
set_option linter.unusedSectionVars false
theorem swap_sum (E:Ed) (pts:List (Int×Int)) (f:Int×Int → Int) (p:Nat → Bool) (hl : ∀ c,c < pts.length → labs E c < 8) : ∀ k,k ≤ pts.length → ((List.range 8).map fun j=>if p j=true then sumK E pts f k j else 0).sum=((List.range k).map fun c=>if p (labs E c)=true then f (pts.getD c (0,0)) else 0).sum
 | 0,_=>by
  rw [sum_zero fun j _=>by rw [sumK_0]; simp]; rfl
 | k+1,hk=>by
  have ih:=swap_sum E pts f p hl k (by omega)
  have hlk:=hl k (by omega)
  rw [sum_zip (g:=fun j=>if p j=true then sumK E pts f k j else 0) (h:=fun j=>if j=labs E k then (if p j=true then f (pts.getD k (0,0)) else 0) else 0) (fun j _=>by
   rw [sumK_s]
   by_cases h1 : p j=true
   ·rw [if_pos h1,if_pos h1]
    by_cases h2 : labs E k=j
    ·rw [if_pos h2,if_pos h2.symm,if_pos h1]
    ·rw [if_neg h2,if_neg (Ne.symm h2)]
   ·rw [if_neg h1,if_neg h1]; simp [h1]),ih,sum_one (fun j=>if p j=true then f (pts.getD k (0,0)) else 0) hlk,List.range_succ,List.map_append,List.sum_append]
  simp
theorem servP_eq {E:Ed} {pts:List (Int×Int)} (hl : ∀ c,c < pts.length → labs E c < 8):((List.range 8).map fun j=>if leB (sumK E pts (·.2) pts.length j) (sumK E pts (·.1) pts.length j)=true then sumK E pts (·.2) pts.length j else 0).sum=servP E pts:=by
 rw [swap_sum E pts (·.2) (fun j=>leB (sumK E pts (·.2) pts.length j) (sumK E pts (·.1) pts.length j)) hl pts.length (Nat.le_refl _)]
 unfold servP
 refine sum_same fun b hb=>?_
 rw [sumE_K,sumE_K]
 by_cases h : sumK E pts (·.2) pts.length (labs E b) ≤ sumK E pts (·.1) pts.length (labs E b)
 ·rw [if_pos h,if_pos (show leB _ _=true from decide_eq_true h)]
 ·rw [if_neg h,if_neg (by simp only [leB,decide_eq_true_eq]; exact h)]
theorem labs_lt8 {b:Int} {ls:List Ln} {pts:List (Int×Int)} (h:BusOk b ls pts) (E:Ed) : ∀ c,c < pts.length → labs E c < 8:=by
 intro c hc
 have h1:=(labs_fix E).1 c
 have:=(b_len h).1
 omega
theorem iServed {b:Int} {ls:List Ln} {on:List Bool} {pts:List (Int×Int)} (h1:StOk b ls on) (h2:BusOk b ls pts) : m_impl_servedLoad b ls on pts=some (servP (onE ls on) pts):=by
 have hl8:=labs_lt8 h2 (onE ls on)
 obtain ⟨b1,b2⟩:=b_len h2
 unfold m_impl_servedLoad
 rw [iSums h1 h2,Option.bind_some,← servP_eq hl8]
 have hb : ∀ j,0 ≤ sumK (onE ls on) pts (·.2) pts.length j∧sumK (onE ls on) pts (·.2) pts.length j ≤ 7992:=fun j=>by
  have:=sumK_bound (onE ls on) pts (·.2) (fun c hc=>(h2.bs c hc).2) j pts.length (Nat.le_refl _); omega
 generalize hS : sumK (onE ls on) pts (·.2) pts.length=S at *
 generalize sumK (onE ls on) pts (·.1) pts.length=F at *
 have hbd : ∀ k,0 ≤ ((List.range k).map fun j=>if leB (S j) (F j)=true then S j else 0).sum∧((List.range k).map fun j=>if leB (S j) (F j)=true then S j else 0).sum ≤ 7992 * k:=by
  intro k
  induction k with
  | zero=>simp
  | succ k ih =>
   have:=hb k
   rw [List.range_succ,List.map_append,List.sum_append]
   simp only [List.map_cons,List.map_nil,List.sum_cons,List.sum_nil]
   split <;> omega
 have hh:=loop_all (m_impl_servedLoad_l1 (t16 F S)) (fun k=>(((List.range k).map fun j=>if leB (S j) (F j)=true then S j else 0).sum,(k:Int))) 8 (some (((List.range 8).map fun j=>if leB (S j) (F j)=true then S j else 0).sum)) (by omega) (fun k fuel hk=>?_) (fun fuel=>?_)
 ·rw [show m_impl_servedLoad_l1 (t16 F S) FUEL (0,0)=_ from hh]; rfl
 ·rw [m_impl_servedLoad_l1.eq_2]
  have i1:=hbd k
  have i2:=hb k
  have w1 : w64 (((List.range k).map fun j=>if leB (S j) (F j)=true then S j else 0).sum+S k)=((List.range k).map fun j=>if leB (S j) (F j)=true then S j else 0).sum+S k:=w64_in (by omega) (by omega)
  have hlt : ltB (k:Int) 8=true:=decide_eq_true (by omega)
  dsimp only [t16]
  simp only [hlt,ix_dec hk,cond_true,chk_true,Int.toNat_natCast,get8 _ hk,w1,w64_succ (by omega : k < 4611686018427387904)]
  have e:((List.range (k+1)).map fun j=>if leB (S j) (F j)=true then S j else 0).sum=((List.range k).map fun j=>if leB (S j) (F j)=true then S j else 0).sum+(if leB (S k) (F k)=true then S k else 0):=by
   rw [List.range_succ,List.map_append,List.sum_append]; simp
  rw [e]
  cases leB (S k) (F k) <;> simp only [cond_false,cond_true,Option.bind_some,Bool.false_eq_true,if_false,if_true,Int.add_zero,Int.natCast_add,Int.natCast_one,Int.ofNat_one]
 ·rw [m_impl_servedLoad_l1.eq_2]; rfl
theorem servP_bound {b:Int} {ls:List Ln} {pts:List (Int×Int)} (h:BusOk b ls pts) (E:Ed) : 0 ≤ servP E pts∧servP E pts ≤ 7992:=by
 obtain ⟨b1,b2⟩:=b_len h
 have : ∀ k,k ≤ pts.length → 0 ≤ ((List.range k).map fun b=>if sumE E pts (·.2) b ≤ sumE E pts (·.1) b then (pts.getD b (0,0)).2 else 0).sum∧((List.range k).map fun b=>if sumE E pts (·.2) b ≤ sumE E pts (·.1) b then (pts.getD b (0,0)).2 else 0).sum ≤ 999 * k:=by
  intro k
  induction k with
  | zero=>intro _; simp
  | succ k ih =>
   intro hk
   have i1:=ih (by omega)
   have i2:=(h.bs k (by omega)).2
   rw [List.range_succ,List.map_append,List.sum_append]
   simp only [List.map_cons,List.map_nil,List.sum_cons,List.sum_nil]
   split <;> omega
 have h2:=this pts.length (Nat.le_refl _)
 unfold servP
 omega
theorem sServed {ls:List Ln} {on:List Bool} {pts:List (Int×Int)} (h1:StOk (pts.length:Int) ls on) (h2:BusOk (pts.length:Int) ls pts) : m_spec_ServedLoad (pts.length:Int) ls on pts=some (servP (onE ls on) pts):=by
 obtain ⟨b1,b2⟩:=b_len h2
 unfold m_spec_ServedLoad
 rw [sFed _ ls pts (by omega),okV_iff.2 ⟨h1,h2⟩,Option.bind_some,cond_true]
 have hbd : ∀ k,k ≤ pts.length → 0 ≤ ((List.range k).map fun b=>if sumE (onE ls on) pts (·.2) b ≤ sumE (onE ls on) pts (·.1) b then (pts.getD b (0,0)).2 else 0).sum∧((List.range k).map fun b=>if sumE (onE ls on) pts (·.2) b ≤ sumE (onE ls on) pts (·.1) b then (pts.getD b (0,0)).2 else 0).sum ≤ 999 * k:=by
  intro k
  induction k with
  | zero=>intro _; simp
  | succ k ih =>
   intro hk
   have i1:=ih (by omega)
   have i2:=(h2.bs k (by omega)).2
   rw [List.range_succ,List.map_append,List.sum_append]
   simp only [List.map_cons,List.map_nil,List.sum_cons,List.sum_nil]
   split <;> omega
 have hh:=loop_all (m_spec_ServedLoad_l1 (pts.length:Int) ls on pts) (fun k=>(((List.range k).map fun b=>if sumE (onE ls on) pts (·.2) b ≤ sumE (onE ls on) pts (·.1) b then (pts.getD b (0,0)).2 else 0).sum,(k:Int))) pts.length (some (servP (onE ls on) pts)) (by omega) (fun k fuel hk=>?_) (fun fuel=>?_)
 ·rw [show m_spec_ServedLoad_l1 (pts.length:Int) ls on pts FUEL (0,0)=_ from hh]; rfl
 ·rw [m_spec_ServedLoad_l1.eq_2]
  have i1:=hbd k (by omega)
  have i2:=(h2.bs k hk).2
  have w1 : w64 (((List.range k).map fun b=>if sumE (onE ls on) pts (·.2) b ≤ sumE (onE ls on) pts (·.1) b then (pts.getD b (0,0)).2 else 0).sum+(pts.getD k (0,0)).2)=((List.range k).map fun b=>if sumE (onE ls on) pts (·.2) b ≤ sumE (onE ls on) pts (·.1) b then (pts.getD b (0,0)).2 else 0).sum+(pts.getD k (0,0)).2:=w64_in (by omega) (by omega)
  simp only [lt_dec hk,cond_true,sIslFeed h1 h2 hk,sIslLoad h1 h2 hk,Option.bind_some,ix_dec hk,chk_true,Int.toNat_natCast,w1,w64_succ (by omega : k < 4611686018427387904)]
  have e:((List.range (k+1)).map fun b=>if sumE (onE ls on) pts (·.2) b ≤ sumE (onE ls on) pts (·.1) b then (pts.getD b (0,0)).2 else 0).sum=((List.range k).map fun b=>if sumE (onE ls on) pts (·.2) b ≤ sumE (onE ls on) pts (·.1) b then (pts.getD b (0,0)).2 else 0).sum+(if sumE (onE ls on) pts (·.2) k ≤ sumE (onE ls on) pts (·.1) k then (pts.getD k (0,0)).2 else 0):=by
   rw [List.range_succ,List.map_append,List.sum_append]; simp
  rw [e]
  by_cases h : sumE (onE ls on) pts (·.2) k ≤ sumE (onE ls on) pts (·.1) k
  ·rw [show leB (sumE (onE ls on) pts (·.2) k) (sumE (onE ls on) pts (·.1) k)=true from decide_eq_true h,if_pos h]; simp only [cond_true,Option.bind_some,Int.natCast_add,Int.natCast_one]
  ·rw [show leB (sumE (onE ls on) pts (·.2) k) (sumE (onE ls on) pts (·.1) k)=false from decide_eq_false h,if_neg h]; simp only [cond_false,Option.bind_some,Int.add_zero,Int.natCast_add,Int.natCast_one]
 ·rw [m_spec_ServedLoad_l1.eq_2]; simp only [nlt_dec,cond_false]; rfl
section
variable {a c:List Bool} (hl : a.length=c.length) (ha : a.length ≤ 1048576)
include hl ha
theorem iChanges : m_impl_Changes a c=some (zl (chgs a c)):=by
 unfold m_impl_Changes
 have e:((a.length:Int) != (c.length:Int))=false:=by rw [hl]; simp
 rw [e]
 have hh:=loop_filter (m_impl_Changes_l1 a c) a.length (fun k=>a.getD k false != c.getD k false) some (by omega) (fun k fuel l hk hp=>?_) (fun fuel l=>?_)
 ·rw [hh]; rfl
 ·rw [m_impl_Changes_l1.eq_2]
  simp only [lt_dec hk,ix_dec hk,ix_dec (show k < c.length by omega),cond_true,chk_true,Int.toNat_natCast,hp,w64_succ (by omega : k < 4611686018427387904)]
  cases a.getD k false != c.getD k false <;> rfl
 ·rw [m_impl_Changes_l1.eq_2]; simp only [nlt_dec,cond_false]
theorem sChanges : m_spec_Changes a c=some (zl (chgs a c)):=by
 unfold m_spec_Changes
 have e:((a.length:Int) == (c.length:Int))=true:=by rw [hl]; simp
 have hh:=loop_filter (m_spec_Changes_l1 a c) a.length (fun k=>a.getD k false != c.getD k false) some (by omega) (fun k fuel l hk hp=>?_) (fun fuel l=>?_)
 ·rw [hh]; rfl
 ·rw [m_spec_Changes_l1.eq_2]
  simp only [lt_dec hk,e,Bool.and_self,ix_dec hk,ix_dec (show k < c.length by omega),cond_true,chk_true,Int.toNat_natCast,hp,w64_succ (by omega : k < 4611686018427387904)]
  cases a.getD k false != c.getD k false <;> rfl
 ·rw [m_spec_Changes_l1.eq_2]; simp only [nlt_dec,Bool.false_and,cond_false]
end
theorem chgs_len (a c:List Bool):(chgs a c).length ≤ a.length:=by
 unfold chgs
 have:=List.length_filter_le (fun k=>a.getD k false != c.getD k false) (List.range a.length)
 rwa [List.length_range] at this
theorem pow_shl {n:Nat} (h : n ≤ 10) : bitsShl .i64 1 (n:Int)=((2 ^ n:Nat):Int):=by
 have : n=0 ∨ n=1 ∨ n=2 ∨ n=3 ∨ n=4 ∨ n=5 ∨ n=6 ∨ n=7 ∨ n=8 ∨ n=9 ∨ n=10:=by omega
 rcases this with rfl | rfl | rfl | rfl | rfl | rfl | rfl | rfl | rfl | rfl | rfl <;> decide
theorem shr_nat {x k:Nat} (hk : k ≤ 64) : bitsShr .i64 (x:Int) (k:Int)=((x >>> k:Nat):Int):=by
 unfold bitsShr
 rw [show min (k:Int).toNat (IntKind.bits .i64)=k by rw [Int.toNat_natCast]; exact Nat.min_eq_left hk,Nat.shiftRight_eq_div_pow]
 rw [Int.fdiv_eq_ediv_of_nonneg _ (by exact Int.le_of_lt (Int.pow_pos (by decide)))]
 norm_cast
theorem and_one {x:Nat} (h : x < 4611686018427387904) : bitsAnd .i64 (x:Int) 1=((x % 2:Nat):Int):=by
 have e : bitsAnd .i64 (x:Int) 1=w64 ((BitVec.ofInt 64 (x:Int) &&& BitVec.ofInt 64 1).toNat:Int):=rfl
 have h1:(BitVec.ofInt 64 (x:Int)).toNat=x:=by rw [BitVec.ofInt_natCast,BitVec.toNat_ofNat,Nat.mod_eq_of_lt (by omega)]
 have h2:(BitVec.ofInt 64 1).toNat=1:=by decide
 rw [e,BitVec.toNat_and,h1,h2,Nat.and_one_is_mod,w64_in (by omega) (by omega)]
theorem bit_val {x k:Nat} (hx : x < 4611686018427387904) (hk : k ≤ 64):(bitsAnd .i64 (bitsShr .i64 (x:Int) (k:Int)) 1 == 1)=x.testBit k:=by
 have h1 : x >>> k ≤ x:=Nat.shiftRight_le x k
 rw [shr_nat hk,and_one (by omega)]
 rw [Nat.testBit,Nat.one_and_eq_mod_two]
 rcases Nat.mod_two_eq_zero_or_one (x >>> k) with h | h <;> rw [h] <;> rfl
theorem iStateOf {x n : Nat} (hx : x < 4611686018427387904) (hn : n ≤ 10) : m_impl_stateOf (x : Int) (n : Int) = some (stOf n x) := by
  unfold m_impl_stateOf
  have hm : mkB (n : Int) = true := by simp [mkB]; omega
  rw [hm, chk_true, Int.toNat_natCast]
  have hh := loop_all (m_impl_stateOf_l1 (x : Int) (n : Int)) (fun k => (mix n k (fun i => x.testBit i) (fun _ => false), (k : Int))) n (some (stOf n x)) (by omega) (fun k fuel hk => ?_) (fun fuel => ?_)
  · have e : mix n 0 (fun i => x.testBit i) (fun _ => false) = List.replicate n false := by
      apply List.ext_getElem (by simp [mix])
      intro i h1 h2
      simp [mix]
    rw [e] at hh
    rw [show m_impl_stateOf_l1 (x : Int) (n : Int) FUEL (List.replicate n false, 0) = _ from hh]; rfl
  · rw [m_impl_stateOf_l1.eq_2]
    have hnn : nnB (k : Int) = true := by simp [nnB]
    simp only [Int.toNat_natCast, lt_dec hk, hnn, ix_dec hk, cond_true, chk_true, bit_val hx (by omega : k ≤ 64), w64_succ (by omega : k < 4611686018427387904)]
    rw [mix_set (f := fun i => x.testBit i) (g := fun _ => false) hk]
  · rw [m_impl_stateOf_l1.eq_2]
    simp only [Int.toNat_natCast, nlt_dec, cond_false]
    congr 1
    unfold mix stOf
    refine List.map_congr_left fun i hi => ?_
    rw [if_pos (by simpa using hi)]
theorem sStateOf {x n:Nat} (hx : x < 2 ^ n) (hn : n ≤ 10) : m_spec_StateOf (x:Int) (n:Int)=some (stOf n x,true):=by
 have hp : 2 ^ n ≤ 1024:=by
  have:=Nat.pow_le_pow_right (show 0 < 2 by decide) hn
  omega
 unfold m_spec_StateOf m_spec_l1In
 have c1:(leB 0 (n:Int) && leB (n:Int) 10)=true:=by simp [leB]; omega
 have hnn : nnB (n:Int)=true:=by simp [nnB]
 have w1 : w64 (((2 ^ n:Nat):Int) - 1)=((2 ^ n:Nat):Int) - 1:=w64_in (by omega) (by omega)
 have c2:(leB 0 (x:Int) && leB (x:Int) (((2 ^ n:Nat):Int) - 1))=true:=by simp only [leB,Bool.and_eq_true,decide_eq_true_eq]; omega
 rw [c1,hnn,pow_shl hn,w1,c2]
 simp only [Option.bind_some,Bool.not_true,Bool.not_false,Bool.or_true,chk_true,gb_true,Bool.or_self,cond_false]
 have hh:=loop_all (m_spec_StateOf_l1 (n:Int)) (fun k=>(((x >>> k:Nat):Int),(List.range k).map (fun i=>x.testBit i),(k:Int))) n (some (stOf n x)) (by omega) (fun k fuel hk=>?_) (fun fuel=>?_)
 ·rw [show m_spec_StateOf_l1 (n:Int) FUEL ((x:Int),([]:List Bool),0)=_ from hh]; rfl
 ·rw [m_spec_StateOf_l1.eq_2]
  have hle : x >>> k ≤ x:=Nat.shiftRight_le x k
  have ha : ∀ z:Bool,apB ((List.range k).map (fun i=>x.testBit i)).length ([z]:List Bool).length=true:=fun z=>by simp [apB]; omega
  have t1:Int.tmod ((x >>> k:Nat):Int) 2=((x >>> k % 2:Nat):Int):=by rw [Int.tmod_eq_emod_of_nonneg (Int.natCast_nonneg _)]; norm_cast
  have t2 : w64 (Int.tdiv ((x >>> k:Nat):Int) 2)=((x >>> (k+1):Nat):Int):=by
   rw [Int.tdiv_eq_ediv_of_nonneg (Int.natCast_nonneg _),Nat.shiftRight_succ]
   generalize x >>> k=y at hle ⊢
   rw [w64_in (by omega) (by omega)]; norm_cast
  have t3:((((x >>> k % 2:Nat):Int)) == 1)=x.testBit k:=by
   rw [Nat.testBit,Nat.one_and_eq_mod_two]
   rcases Nat.mod_two_eq_zero_or_one (x >>> k) with h | h <;> rw [h] <;> rfl
  simp only [lt_dec hk,cond_true,ha,chk_true,t1,t2,t3,w64_succ (by omega : k < 4611686018427387904)]
  rw [List.range_succ,List.map_append]; rfl
 ·rw [m_spec_StateOf_l1.eq_2]; simp only [nlt_dec,cond_false]; rfl
def encB (E:List Bool → Int) (C:List Bool → Nat):Option (List Bool) → List Bool×Int×Int
 | none=>([],-1,0)
 | some y=>(y,E y,(C y:Int))
def outB:Option (List Bool) → List Bool×Bool
 | none=>([],false)
 | some y=>(y,true)
theorem and_zero (x:Int) : bitsAnd .i64 x 0=0:=by
 unfold bitsAnd
 rw [show BitVec.ofInt (IntKind.bits .i64) 0=0#(IntKind.bits .i64) from rfl,BitVec.and_zero]; rfl
section
variable {ls:List Ln} {on:List Bool} {pts:List (Int×Int)} (h1:StOk (pts.length:Int) ls on) (h2:BusOk (pts.length:Int) ls pts) (h0 : 1 ≤ ls.length)
include h1 h2 h0
theorem bst_facts (num:Nat):StOk (pts.length:Int) ls (stOf ls.length num)∧(on.length=(stOf ls.length num).length)∧okV (pts.length:Int) ls (stOf ls.length num) pts=true:=by
 have e:(stOf ls.length num).length=ls.length:=stOf_len _ _
 have hs:StOk (pts.length:Int) ls (stOf ls.length num):=⟨h1.net,e⟩
 exact ⟨hs,h1.len.trans e.symm,okV_iff.2 ⟨hs,h2⟩⟩
theorem best_succ (num:Nat) : bestOf (fun x=>goodP ls x pts) (fun x=>servP (onE ls x) pts) (fun x=>(chgs on x).length) ((List.range (num+1)).map (stOf ls.length))=bstep (fun x=>goodP ls x pts) (fun x=>servP (onE ls x) pts) (fun x=>(chgs on x).length) (bestOf (fun x=>goodP ls x pts) (fun x=>servP (onE ls x) pts) (fun x=>(chgs on x).length) ((List.range num).map (stOf ls.length))) (stOf ls.length num):=by
 rw [List.range_succ,List.map_append]; exact bestOf_snoc _ _ _ _ _
theorem iBest : m_impl_BestState (pts.length:Int) ls on pts []=some (outB (bestP ls on pts)):=by
 have hll:=h1.net.ll; have hB:=h1.net.b1; have hl:=h1.len
 have hp : 2 ^ ls.length ≤ 1024:=by
  have:=Nat.pow_le_pow_right (show 0 < 2 by decide) hll
  omega
 unfold m_impl_BestState
 have l1 : m_impl_BestState_l1 (pts.length:Int) ls [] FUEL (0,0)=some 0:=rfl
 have hnn : nnB (ls.length:Int)=true:=by simp [nnB]
 rw [iFed _ ls pts (by omega),okV_iff.2 ⟨h1,h2⟩,Option.bind_some,cond_true,l1,Option.bind_some,hnn,chk_true]
 have hh:=loop_all (m_impl_BestState_l2 (pts.length:Int) ls on pts 0) (fun num=>((encB (fun x=>servP (onE ls x) pts) (fun x=>(chgs on x).length) (bestOf (fun x=>goodP ls x pts) (fun x=>servP (onE ls x) pts) (fun x=>(chgs on x).length) ((List.range num).map (stOf ls.length)))).1,(encB (fun x=>servP (onE ls x) pts) (fun x=>(chgs on x).length) (bestOf (fun x=>goodP ls x pts) (fun x=>servP (onE ls x) pts) (fun x=>(chgs on x).length) ((List.range num).map (stOf ls.length)))).2.1,(encB (fun x=>servP (onE ls x) pts) (fun x=>(chgs on x).length) (bestOf (fun x=>goodP ls x pts) (fun x=>servP (onE ls x) pts) (fun x=>(chgs on x).length) ((List.range num).map (stOf ls.length)))).2.2,(num:Int))) (2 ^ ls.length)
  (some (encB (fun x=>servP (onE ls x) pts) (fun x=>(chgs on x).length) (bestP ls on pts)).1) (by omega) (fun num fuel hk=>?_) (fun fuel=>?_)
 ·rw [show m_impl_BestState_l2 (pts.length:Int) ls on pts 0 FUEL (([]:List Bool),-1,0,0)=_ from hh,Option.bind_some]
  cases hb : bestP ls on pts with
  | none=>rfl
  | some y =>
   have:=(bestP_good hb).1
   cases y with
   | nil=>simp at this; omega
   | cons z y=>rfl
 ·rw [m_impl_BestState_l2.eq_2,best_succ h1 h2 h0]
  obtain ⟨f1,f2,f3⟩:=bst_facts h1 h2 h0 num
  have hsv:=servP_bound h2 (onE ls (stOf ls.length num))
  have hcl:(zl (chgs on (stOf ls.length num))).length=(chgs on (stOf ls.length num)).length:=zl_len _
  have hlt : ltB (num:Int) ((2 ^ ls.length:Nat):Int)=true:=lt_dec hk
  have hne:(!(List.isEmpty (stOf ls.length num)))=true:=by
   have:(stOf ls.length num).length=ls.length:=stOf_len _ _
   cases hst : stOf ls.length num with
   | nil=>rw [hst] at this; simp at this; omega
   | cons=>rfl
  simp only [pow_shl hll,hlt,cond_true,and_zero,iStateOf (show num < 4611686018427387904 by omega) hll,Option.bind_some,iServed f1 h2,iChanges f2 (by omega),iNetGood _ ls _ pts (by omega),f3,Bool.true_and,hcl,hne,chk_true,w64_succ (by omega : num < 4611686018427387904)]
  generalize bestOf (fun x=>goodP ls x pts) (fun x=>servP (onE ls x) pts) (fun x=>(chgs on x).length) ((List.range num).map (stOf ls.length))=a
  have e0:((0:Int) != 0)=false:=rfl
  simp only [e0,cond_false]
  cases a with
  | none =>
   dsimp only [encB]
   have c1 : ltB (servP (onE ls (stOf ls.length num)) pts) (-1)=false:=decide_eq_false (by omega)
   have c2 : ltB (-1) (servP (onE ls (stOf ls.length num)) pts)=true:=decide_eq_true (by omega)
   have hb : bstep (fun x=>goodP ls x pts) (fun x=>servP (onE ls x) pts) (fun x=>(chgs on x).length) none (stOf ls.length num)=if goodP ls (stOf ls.length num) pts=true then some (stOf ls.length num) else none:=by
    unfold bstep better; simp only [Bool.and_true]
   simp only [c1,c2,cond_false,Bool.true_or,gb_true,Option.bind_some,Bool.true_and,hb]
   generalize goodP ls (stOf ls.length num) pts=g
   cases g <;> rfl
  | some z =>
   have hb : bstep (fun x=>goodP ls x pts) (fun x=>servP (onE ls x) pts) (fun x=>(chgs on x).length) (some z) (stOf ls.length num)=if (goodP ls (stOf ls.length num) pts && (decide (servP (onE ls z) pts < servP (onE ls (stOf ls.length num)) pts) || (decide (servP (onE ls z) pts=servP (onE ls (stOf ls.length num)) pts) && decide ((chgs on (stOf ls.length num)).length < (chgs on z).length))))=true then some (stOf ls.length num) else some z:=rfl
   rw [hb]
   dsimp only [encB]
   generalize goodP ls (stOf ls.length num) pts=g
   by_cases c1 : servP (onE ls (stOf ls.length num)) pts < servP (onE ls z) pts
   ·have d1 : decide (servP (onE ls z) pts < servP (onE ls (stOf ls.length num)) pts)=false:=decide_eq_false (by omega)
    have d2 : decide (servP (onE ls z) pts=servP (onE ls (stOf ls.length num)) pts)=false:=decide_eq_false (by omega)
    rw [show ltB (servP (onE ls (stOf ls.length num)) pts) (servP (onE ls z) pts)=true from decide_eq_true c1]
    simp only [cond_true,Option.bind_some,d1,d2,Bool.false_and,Bool.or_self,Bool.and_false,Bool.false_eq_true,if_false]
   ·rw [show ltB (servP (onE ls (stOf ls.length num)) pts) (servP (onE ls z) pts)=false from decide_eq_false c1]
    have d3:(ltB (servP (onE ls z) pts) (servP (onE ls (stOf ls.length num)) pts) || ltB ((chgs on (stOf ls.length num)).length:Int) ((chgs on z).length:Int))=(decide (servP (onE ls z) pts < servP (onE ls (stOf ls.length num)) pts) || (decide (servP (onE ls z) pts=servP (onE ls (stOf ls.length num)) pts) && decide ((chgs on (stOf ls.length num)).length < (chgs on z).length))):=by
     rw [Bool.eq_iff_iff]; simp only [ltB,Bool.or_eq_true,Bool.and_eq_true,decide_eq_true_eq]; omega
    simp only [cond_false,d3]
    generalize (decide (servP (onE ls z) pts < servP (onE ls (stOf ls.length num)) pts) || (decide (servP (onE ls z) pts=servP (onE ls (stOf ls.length num)) pts) && decide ((chgs on (stOf ls.length num)).length < (chgs on z).length)))=d
    cases d <;> cases g <;> rfl
 ·rw [m_impl_BestState_l2.eq_2]
  simp only [pow_shl hll,nlt_dec,cond_false]
  rfl
theorem sBest : m_spec_BestState (pts.length:Int) ls on pts []=some (outB (bestP ls on pts)):=by
 have hll:=h1.net.ll; have hB:=h1.net.b1; have hl:=h1.len
 have hp : 2 ^ ls.length ≤ 1024:=by
  have:=Nat.pow_le_pow_right (show 0 < 2 by decide) hll
  omega
 unfold m_spec_BestState
 rw [sFed _ ls pts (by omega),okV_iff.2 ⟨h1,h2⟩,Option.bind_some,cond_true]
 have hh:=loop_all (m_spec_BestState_l1 (pts.length:Int) ls on pts []) (fun num=>((encB (fun x=>servP (onE ls x) pts) (fun x=>(chgs on x).length) (bestOf (fun x=>goodP ls x pts) (fun x=>servP (onE ls x) pts) (fun x=>(chgs on x).length) ((List.range num).map (stOf ls.length)))).1,(encB (fun x=>servP (onE ls x) pts) (fun x=>(chgs on x).length) (bestOf (fun x=>goodP ls x pts) (fun x=>servP (onE ls x) pts) (fun x=>(chgs on x).length) ((List.range num).map (stOf ls.length)))).2.1,(encB (fun x=>servP (onE ls x) pts) (fun x=>(chgs on x).length) (bestOf (fun x=>goodP ls x pts) (fun x=>servP (onE ls x) pts) (fun x=>(chgs on x).length) ((List.range num).map (stOf ls.length)))).2.2,(num:Int))) (2 ^ ls.length)
  (some ((encB (fun x=>servP (onE ls x) pts) (fun x=>(chgs on x).length) (bestP ls on pts)).1,(encB (fun x=>servP (onE ls x) pts) (fun x=>(chgs on x).length) (bestP ls on pts)).2.1)) (by omega) (fun num fuel hk=>?_) (fun fuel=>?_)
 ·rw [show m_spec_BestState_l1 (pts.length:Int) ls on pts [] FUEL (([]:List Bool),-1,0,0)=_ from hh,Option.bind_some]
  cases hb : bestP ls on pts with
  | none=>rfl
  | some y =>
   have:=servP_bound h2 (onE ls y)
   have e : leB 0 (servP (onE ls y) pts)=true:=decide_eq_true (by omega)
   dsimp only [encB,outB]
   rw [e]
 ·rw [m_spec_BestState_l1.eq_2,best_succ h1 h2 h0]
  obtain ⟨f1,f2,f3⟩:=bst_facts h1 h2 h0 num
  have hsv:=servP_bound h2 (onE ls (stOf ls.length num))
  have hcl:(zl (chgs on (stOf ls.length num))).length=(chgs on (stOf ls.length num)).length:=zl_len _
  have hlt : ltB (num:Int) ((2 ^ ls.length:Nat):Int)=true:=lt_dec hk
  have hnn : nnB (ls.length:Int)=true:=by simp [nnB]
  have l2 : m_spec_BestState_l2 on [] (stOf ls.length num,true) FUEL (true,0)=some true:=rfl
  simp only [hnn,chk_true,hl,pow_shl hll,hlt,cond_true,sStateOf hk hll,Option.bind_some,l2,gb_true,sNetGood _ ls _ pts (by omega),f3,Bool.true_and,sServed f1 h2,sChanges f2 (by omega),hcl,m_spec_l14Better,w64_succ (by omega : num < 4611686018427387904)]
  generalize bestOf (fun x=>goodP ls x pts) (fun x=>servP (onE ls x) pts) (fun x=>(chgs on x).length) ((List.range num).map (stOf ls.length))=a
  cases a with
  | none =>
   have hb : bstep (fun x=>goodP ls x pts) (fun x=>servP (onE ls x) pts) (fun x=>(chgs on x).length) none (stOf ls.length num)=if goodP ls (stOf ls.length num) pts=true then some (stOf ls.length num) else none:=by
    unfold bstep better; simp only [Bool.and_true]
   have c2 : ltB (-1) (servP (onE ls (stOf ls.length num)) pts)=true:=decide_eq_true (by omega)
   rw [hb]
   dsimp only [encB]
   generalize goodP ls (stOf ls.length num) pts=g
   cases g
   ·rfl
   ·simp only [gb_true,Option.bind_some,cond_true,c2,Bool.true_or,if_true]
  | some z =>
   have hb : bstep (fun x=>goodP ls x pts) (fun x=>servP (onE ls x) pts) (fun x=>(chgs on x).length) (some z) (stOf ls.length num)=if (goodP ls (stOf ls.length num) pts && (decide (servP (onE ls z) pts < servP (onE ls (stOf ls.length num)) pts) || (decide (servP (onE ls z) pts=servP (onE ls (stOf ls.length num)) pts) && decide ((chgs on (stOf ls.length num)).length < (chgs on z).length))))=true then some (stOf ls.length num) else some z:=rfl
   have d3:(ltB (servP (onE ls z) pts) (servP (onE ls (stOf ls.length num)) pts) || ((servP (onE ls (stOf ls.length num)) pts == servP (onE ls z) pts) && ltB ((chgs on (stOf ls.length num)).length:Int) ((chgs on z).length:Int)))=(decide (servP (onE ls z) pts < servP (onE ls (stOf ls.length num)) pts) || (decide (servP (onE ls z) pts=servP (onE ls (stOf ls.length num)) pts) && decide ((chgs on (stOf ls.length num)).length < (chgs on z).length))):=by
    rw [Bool.eq_iff_iff]; simp only [ltB,Bool.or_eq_true,Bool.and_eq_true,decide_eq_true_eq,beq_iff_eq]; omega
   rw [hb]
   dsimp only [encB]
   generalize goodP ls (stOf ls.length num) pts=g
   cases g
   ·rfl
   ·simp only [gb_true,Option.bind_some,cond_true,d3,Bool.true_and]
    generalize (decide (servP (onE ls z) pts < servP (onE ls (stOf ls.length num)) pts) || (decide (servP (onE ls z) pts=servP (onE ls (stOf ls.length num)) pts) && decide ((chgs on (stOf ls.length num)).length < (chgs on z).length)))=d
    cases d <;> rfl
 ·rw [m_spec_BestState_l1.eq_2]
  have hnn : nnB (on.length:Int)=true:=by simp [nnB]
  simp only [hnn,chk_true,hl,pow_shl hll,nlt_dec,cond_false]
  rfl
end
theorem ap_small {m n:Nat} (h : m+n ≤ 1099511627776) : apB m n=true:=by simp only [apB,decide_eq_true_eq]; omega
def ordTo (a b:List Bool):List (Int×Bool):=(((List.range a.length).filter fun i=>a.getD i false && !b.getD i false).map fun (i:Nat)=>((i:Int),false))++(((List.range a.length).filter fun i=>b.getD i false && !a.getD i false).map fun (i:Nat)=>((i:Int),true))
def gat (n:Nat) (p:Nat → Bool) (t:Bool):List (Int×Bool):=((List.range n).filter p).map fun (i:Nat)=>((i:Int),t)
theorem gat_s (n:Nat) (p:Nat → Bool) (t:Bool) : gat (n+1) p t=if p n then gat n p t++[((n:Int),t)] else gat n p t:=by
 unfold gat
 rw [List.range_succ,List.filter_append,List.filter_cons,List.filter_nil]
 cases p n <;> simp
theorem gat_len (n:Nat) (p:Nat → Bool) (t:Bool):(gat n p t).length ≤ n:=by
 unfold gat
 rw [List.length_map]
 have:=List.length_filter_le p (List.range n)
 rwa [List.length_range] at this
section
variable {a c:List Bool} (hl : a.length=c.length) (ha : a.length ≤ 10)
include hl ha
theorem iOrder : m_impl_OrderTo a c=some (ordTo a c):=by
 unfold m_impl_OrderTo
 have e:((a.length:Int) != (c.length:Int))=false:=by rw [hl]; simp
 have e2 : ltB 10 (a.length:Int)=false:=decide_eq_false (by omega)
 rw [e,e2]
 have hh:=loop_all (m_impl_OrderTo_l1 a c) (fun k=>(gat k (fun i=>a.getD i false && !c.getD i false) false,gat k (fun i=>c.getD i false && !a.getD i false) true,(k:Int))) a.length (some (gat a.length (fun i=>a.getD i false && !c.getD i false) false,gat a.length (fun i=>c.getD i false && !a.getD i false) true)) (by omega) (fun k fuel hk=>?_) (fun fuel=>?_)
 ·have g1:=gat_len a.length (fun i=>a.getD i false && !c.getD i false) false
  have g2:=gat_len a.length (fun i=>c.getD i false && !a.getD i false) true
  have ap : apB (gat a.length (fun i=>a.getD i false && !c.getD i false) false).length (gat a.length (fun i=>c.getD i false && !a.getD i false) true).length=true:=ap_small (by omega)
  simp only [Bool.or_self,cond_false]
  rw [show m_impl_OrderTo_l1 a c FUEL (([]:List (Int×Bool)),([]:List (Int×Bool)),0)=_ from hh,Option.bind_some,ap]; rfl
 ·rw [m_impl_OrderTo_l1.eq_2]
  have g1:=gat_len k (fun i=>a.getD i false && !c.getD i false) false
  have g2:=gat_len k (fun i=>c.getD i false && !a.getD i false) true
  have p1 : ∀ x:Int×Bool,apB (gat k (fun i=>a.getD i false && !c.getD i false) false).length ([x]:List (Int×Bool)).length=true:=fun x=>ap_small (by simp only [List.length_singleton]; omega)
  have p2 : ∀ x:Int×Bool,apB (gat k (fun i=>c.getD i false && !a.getD i false) true).length ([x]:List (Int×Bool)).length=true:=fun x=>ap_small (by simp only [List.length_singleton]; omega)
  simp only [lt_dec hk,ix_dec hk,ix_dec (show k < c.length by omega),cond_true,chk_true,Bool.or_true,Int.toNat_natCast,p1,p2,gat_s,w64_succ (by omega : k < 4611686018427387904)]
  cases a.getD k false <;> cases c.getD k false <;> rfl
 ·rw [m_impl_OrderTo_l1.eq_2]; simp only [nlt_dec,cond_false]
theorem sOrder : m_spec_OrderTo a c = some (ordTo a c) := by
  unfold m_spec_OrderTo
  have e2 : ltB 10 (a.length : Int) = false := decide_eq_false (by omega)
  rw [sChanges hl (by omega), Option.bind_some, e2]
  have hcl := chgs_len a c
  have hin : ∀ k, k < (chgs a c).length → (chgs a c).getD k 0 < a.length := fun k hk => by
    have : (chgs a c).getD k 0 ∈ chgs a c := by rw [getD_ge hk]; exact List.getElem_mem hk
    have := (List.mem_filter.1 this).1
    simpa using this
  have l1 := loop_all (m_spec_OrderTo_l1 a (zl (chgs a c))) (fun k => ((((chgs a c).take k).filter fun i => a.getD i false).map fun (i : Nat) => ((i : Int), false), (k : Int))) (chgs a c).length (some (((chgs a c).filter fun i => a.getD i false).map fun (i : Nat) => ((i : Int), false))) (by omega) (fun k fuel hk => ?_) (fun fuel => ?_)
  · have l2 := loop_all (m_spec_OrderTo_l2 c (zl (chgs a c))) (fun k => (((chgs a c).filter fun i => a.getD i false).map (fun (i : Nat) => ((i : Int), false)) ++ (((chgs a c).take k).filter fun i => c.getD i false).map (fun (i : Nat) => ((i : Int), true)), (k : Int))) (chgs a c).length (some (((chgs a c).filter fun i => a.getD i false).map (fun (i : Nat) => ((i : Int), false)) ++ ((chgs a c).filter fun i => c.getD i false).map (fun (i : Nat) => ((i : Int), true)))) (by omega) (fun k fuel hk => ?_) (fun fuel => ?_)
    · have x2 : m_spec_OrderTo_l2 c (zl (chgs a c)) FUEL (((chgs a c).filter fun i => a.getD i false).map (fun (i : Nat) => ((i : Int), false)), 0) = some (((chgs a c).filter fun i => a.getD i false).map (fun (i : Nat) => ((i : Int), false)) ++ ((chgs a c).filter fun i => c.getD i false).map (fun (i : Nat) => ((i : Int), true))) := by
        have := l2; simpa using this
      simp only [cond_false]
      rw [show m_spec_OrderTo_l1 a (zl (chgs a c)) FUEL (([] : List (Int × Bool)), 0) = _ from l1, Option.bind_some, x2, Option.bind_some]
      congr 1
      unfold ordTo chgs
      rw [List.filter_filter, List.filter_filter]
      congr 2
      · exact List.filter_congr fun i _ => by cases a.getD i false <;> cases c.getD i false <;> rfl
      · exact List.filter_congr fun i _ => by cases a.getD i false <;> cases c.getD i false <;> rfl
    · rw [m_spec_OrderTo_l2.eq_2]
      have hc := hin k hk
      have g1 := List.length_filter_le (fun i => a.getD i false) (chgs a c)
      have g2 := List.length_filter_le (fun i => c.getD i false) ((chgs a c).take k)
      have g3 : ((chgs a c).take k).length ≤ k := by rw [List.length_take]; omega
      have p1 : ∀ x : Int × Bool, apB (((chgs a c).filter fun i => a.getD i false).map (fun (i : Nat) => ((i : Int), false)) ++ (((chgs a c).take k).filter fun i => c.getD i false).map (fun (i : Nat) => ((i : Int), true))).length ([x] : List (Int × Bool)).length = true := fun x => ap_small (by simp only [List.length_append, List.length_map, List.length_singleton]; omega)
      simp only [zl_len, lt_dec hk, ix_dec hk, cond_true, chk_true, Int.toNat_natCast, zl_get, ix_dec (show (chgs a c).getD k 0 < c.length by omega), p1, w64_succ (by omega : k < 4611686018427387904)]
      rw [List.take_succ_eq_append_getElem hk, ← getD_ge hk (d := 0), List.filter_append, List.filter_cons, List.filter_nil]
      cases c.getD ((chgs a c).getD k 0) false <;> simp
    · rw [m_spec_OrderTo_l2.eq_2]; simp only [zl_len, nlt_dec, cond_false, List.take_length]
  · rw [m_spec_OrderTo_l1.eq_2]
    have hc := hin k hk
    have g2 := List.length_filter_le (fun i => a.getD i false) ((chgs a c).take k)
    have g3 : ((chgs a c).take k).length ≤ k := by rw [List.length_take]; omega
    have p1 : ∀ x : Int × Bool, apB ((((chgs a c).take k).filter fun i => a.getD i false).map (fun (i : Nat) => ((i : Int), false))).length ([x] : List (Int × Bool)).length = true := fun x => ap_small (by simp only [List.length_map, List.length_singleton]; omega)
    simp only [zl_len, lt_dec hk, ix_dec hk, cond_true, chk_true, Int.toNat_natCast, zl_get, ix_dec hc, p1, w64_succ (by omega : k < 4611686018427387904)]
    rw [List.take_succ_eq_append_getElem hk, ← getD_ge hk (d := 0), List.filter_append, List.filter_cons, List.filter_nil]
    cases a.getD ((chgs a c).getD k 0) false <;> simp
  · rw [m_spec_OrderTo_l1.eq_2]; simp only [zl_len, nlt_dec, cond_false, List.take_length]
end
def restO (on:List Bool):Option (List Bool) → List (Int×Bool)×Bool
 | none=>([],false)
 | some y=>(ordTo on y,true)
section
variable {ls:List Ln} {on:List Bool} {pts:List (Int×Int)} (h1:StOk (pts.length:Int) ls on) (h2:BusOk (pts.length:Int) ls pts) (h0 : 1 ≤ ls.length)
include h1 h2 h0
theorem iRestore : m_impl_RestoreOrder (pts.length:Int) ls on pts []=some (restO on (bestP ls on pts)):=by
 have hll:=h1.net.ll; have hl:=h1.len
 unfold m_impl_RestoreOrder
 rw [iBest h1 h2 h0,Option.bind_some]
 cases hb : bestP ls on pts with
 | none=>rfl
 | some y =>
  have hy:=(bestP_good hb).1
  dsimp only [outB,restO]
  rw [iOrder (hl.trans hy.symm) (by omega)]; rfl
theorem sRestore : m_spec_RestoreOrder (pts.length:Int) ls on pts []=some (restO on (bestP ls on pts)):=by
 have hll:=h1.net.ll; have hl:=h1.len
 unfold m_spec_RestoreOrder
 rw [sBest h1 h2 h0,Option.bind_some]
 cases hb : bestP ls on pts with
 | none=>rfl
 | some y =>
  have hy:=(bestP_good hb).1
  dsimp only [outB,restO]
  rw [sOrder (hl.trans hy.symm) (by omega)]; rfl
end
end Go.Proofs.YtcmnjaccapbhfaaGreat
