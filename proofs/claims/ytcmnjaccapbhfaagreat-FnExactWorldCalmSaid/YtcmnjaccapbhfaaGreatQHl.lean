/- Healing in plain Lean: the best state, the deeds that heal, all of them are done. No program in sight. -/
import Derived.Test.YtcmnjaccapbhfaaGreatQWl
namespace Go.Proofs.YtcmnjaccapbhfaaGreat
set_option linter.unusedVariables false
set_option linter.unusedSimpArgs false
section
variable {σ:Type} (good : σ → Bool) (sv : σ → Int) (ch : σ → Nat)
def better (s:Int) (c:Nat):Option σ → Bool
 | none=>true
 | some y=>decide (sv y < s) || (decide (sv y=s) && decide (c < ch y))
def bstep (a:Option σ) (x : σ):Option σ:=if good x && better sv ch (sv x) (ch x) a then some x else a
def bestOf (l:List σ):Option σ:=l.foldl (bstep good sv ch) none
theorem bestOf_snoc (l:List σ) (x : σ) : bestOf good sv ch (l++[x])=bstep good sv ch (bestOf good sv ch l) x:=by unfold bestOf; rw [List.foldl_append]; rfl
theorem bestOf_spec (l:List σ):(∀ x ∈ l,good x=true → ∃ y,bestOf good sv ch l=some y)∧∀ y,bestOf good sv ch l=some y → (y ∈ l∧good y=true)∧∀ x ∈ l,good x=true → sv x < sv y ∨ (sv x=sv y∧ch y ≤ ch x):=by
 refine rev_ind (P:=fun l=>(∀ x ∈ l,good x=true → ∃ y,bestOf good sv ch l=some y)∧∀ y,bestOf good sv ch l=some y → (y ∈ l∧good y=true)∧∀ x ∈ l,good x=true → sv x < sv y ∨ (sv x=sv y∧ch y ≤ ch x)) ?_ ?_ l
 ·exact ⟨fun x hx=>by simp at hx,fun y hy=>by cases hy⟩
 ·intro l a ih
  rw [bestOf_snoc]
  unfold bstep
  cases hg : good a
  ·rw [Bool.false_and,if_neg (by decide)]
   refine ⟨fun x hx hgx=>?_,fun y hy=>?_⟩
   ·rcases List.mem_append.1 hx with hx | hx
    ·exact ih.1 x hx hgx
    ·obtain rfl : x=a:=by simpa using hx
     rw [hg] at hgx; cases hgx
   ·obtain ⟨⟨h1,h2⟩,h3⟩:=ih.2 y hy
    refine ⟨⟨by simp [h1],h2⟩,fun x hx hgx=>?_⟩
    rcases List.mem_append.1 hx with hx | hx
    ·exact h3 x hx hgx
    ·obtain rfl : x=a:=by simpa using hx
     rw [hg] at hgx; cases hgx
  ·rw [Bool.true_and]
   cases hb : bestOf good sv ch l with
   | none =>
    rw [if_pos (show better sv ch (sv a) (ch a) none=true from rfl)]
    refine ⟨fun _ _ _=>⟨a,rfl⟩,fun y hy=>?_⟩
    obtain rfl : a=y:=Option.some.inj hy
    refine ⟨⟨by simp,hg⟩,fun x hx hgx=>?_⟩
    rcases List.mem_append.1 hx with hx | hx
    ·obtain ⟨y,hy⟩:=ih.1 x hx hgx
     rw [hb] at hy; cases hy
    ·obtain rfl : x=a:=by simpa using hx
     exact .inr ⟨rfl,Nat.le_refl _⟩
   | some z =>
    obtain ⟨⟨h1,h2⟩,h3⟩:=ih.2 z hb
    split
    ·rename_i hbet
     simp only [better,Bool.or_eq_true,Bool.and_eq_true,decide_eq_true_eq] at hbet
     refine ⟨fun _ _ _=>⟨a,rfl⟩,fun y hy=>?_⟩
     obtain rfl : a=y:=Option.some.inj hy
     refine ⟨⟨by simp,hg⟩,fun x hx hgx=>?_⟩
     rcases List.mem_append.1 hx with hx | hx
     ·have:=h3 x hx hgx; omega
     ·obtain rfl : x=a:=by simpa using hx
      exact .inr ⟨rfl,Nat.le_refl _⟩
    ·rename_i hbet
     simp only [better,Bool.or_eq_true,Bool.and_eq_true,decide_eq_true_eq] at hbet
     refine ⟨fun _ _ _=>⟨z,rfl⟩,fun y hy=>?_⟩
     obtain rfl : z=y:=Option.some.inj hy
     refine ⟨⟨by simp [h1],h2⟩,fun x hx hgx=>?_⟩
     rcases List.mem_append.1 hx with hx | hx
     ·exact h3 x hx hgx
     ·obtain rfl : x=a:=by simpa using hx
      omega
end
def stOf (n num:Nat):List Bool:=(List.range n).map fun k=>num.testBit k
theorem stOf_len (n num:Nat):(stOf n num).length=n:=by simp [stOf]
theorem stOf_get {n num k:Nat} (h : k < n):(stOf n num).getD k false=num.testBit k:=by simp [stOf,List.getD,h]
def numOf:List Bool → Nat
 | []=>0
 | b :: l=>2 * numOf l+b.toNat
theorem numOf_bit : ∀ (l:List Bool) (k:Nat),(numOf l).testBit k=l.getD k false
 | [],k=>by simp [numOf]
 | b :: l,0=>by cases b <;> simp [numOf,Nat.testBit_zero] <;> omega
 | b :: l,k+1=>by
  rw [Nat.testBit_succ,List.getD_cons_succ,← numOf_bit l k]
  congr 1
  cases b <;> simp [numOf] <;> omega
theorem numOf_lt : ∀ l:List Bool,numOf l < 2 ^ l.length
 | []=>by simp [numOf]
 | b :: l=>by
  have:=numOf_lt l
  have hb : b.toNat ≤ 1:=by cases b <;> simp
  rw [List.length_cons,Nat.pow_succ]; simp only [numOf]; omega
theorem stOf_numOf (l:List Bool) : stOf l.length (numOf l)=l:=by
 apply List.ext_getElem (by simp [stOf])
 intro i h1 h2
 have:=stOf_get (num:=numOf l) h2
 rw [getD_ge h1,numOf_bit,getD_ge h2] at this
 exact this
def states (n:Nat):List (List Bool):=(List.range (2 ^ n)).map (stOf n)
theorem states_mem {n:Nat} {l:List Bool} : l ∈ states n ↔ l.length=n:=by
 unfold states
 rw [List.mem_map]
 constructor
 ·rintro ⟨k,_,rfl⟩; exact stOf_len _ _
 ·rintro rfl; exact ⟨numOf l,by simpa using numOf_lt l,stOf_numOf l⟩
def servP (E:Ed) (pts:List (Int×Int)):Int:=((List.range pts.length).map fun b=>if sumE E pts (·.2) b ≤ sumE E pts (·.1) b then (pts.getD b (0,0)).2 else 0).sum
def goodP (ls:List Ln) (on:List Bool) (pts:List (Int×Int)):Bool :=
 radP ls on pts && (!(List.range ls.length).any fun k=>decide ((ls.getD k (0,0,0)).2.2 < flowP ls on pts k)) && !(List.range pts.length).any fun b=>feedA pts b && decide ((pts.getD b (0,0)).1 < sumE (onE ls on) pts (·.2) b)
theorem good_rad {ls:List Ln} {on:List Bool} {pts:List (Int×Int)} (h : goodP ls on pts=true) : radP ls on pts=true:=by
 unfold goodP at h
 rw [Bool.and_eq_true,Bool.and_eq_true] at h
 exact h.1.1
def chgs (a b:List Bool):List Nat:=(List.range a.length).filter fun k=>a.getD k false != b.getD k false
def bestP (ls:List Ln) (on:List Bool) (pts:List (Int×Int)):Option (List Bool):=bestOf (fun x=>goodP ls x pts) (fun x=>servP (onE ls x) pts) (fun x=>(chgs on x).length) (states ls.length)
theorem bestP_good {ls:List Ln} {on x:List Bool} {pts:List (Int×Int)} (h : bestP ls on pts=some x) : x.length=ls.length∧goodP ls x pts=true:=by
 have:=((bestOf_spec _ _ _ _).2 x h).1
 exact ⟨states_mem.1 this.1,this.2⟩
def offsTo (on x:List Bool) (k:Nat):List Dd:=((List.range k).filter fun i=>on.getD i false && !x.getD i false).map fun (i:Nat)=>(1,(i:Int),0)
def onsTo (on x:List Bool) (k:Nat):List Dd:=((List.range k).filter fun i=>x.getD i false && !on.getD i false).map fun (i:Nat)=>(0,(i:Int),0)
def fixOf (earth:List Bool) (br:List Int):List Dd:=br.flatMap fun l=>(if earth.getD l.toNat false then [] else [(2,l,0)])++[(4,l,0),(7,l,0),(5,l,0)]
def earthd (earth:List Bool) (br:List Int):List Bool:=br.foldl (fun e l=>e.set l.toNat true) earth
def stepsTo (on:List Bool) (x:Option (List Bool)):List Dd :=
 match x with
 | none=>[]
 | some x=>offsTo on x on.length++onsTo on x on.length
def healP (w:Wd):List Dd:=retsOf w.pm++fixOf w.earth w.br++forOf 3 (earthd w.earth w.br) true w.on.length++stepsTo w.on (bestP w.ls w.on w.pts)
theorem earthd_len (br:List Int) : ∀ earth:List Bool,(earthd earth br).length=earth.length:=by
 induction br with
 | nil=>intro e; rfl
 | cons l br ih=>intro e; show (earthd (e.set l.toNat true) br).length=_; rw [ih]; simp
theorem fix_len (earth:List Bool) (l:Int) (br:List Int) : fixOf earth (l :: br)=((if earth.getD l.toNat false then [] else [(2,l,0)])++[(4,l,0),(7,l,0),(5,l,0)])++fixOf earth br:=rfl
theorem set_true_self {l:List Bool} {k:Nat} (h : l.getD k false=true) : l.set k true=l:=by
 rcases Nat.lt_or_ge k l.length with hk | hk
 ·rw [getD_ge hk] at h
  have:=List.set_getElem_self hk
  rwa [h] at this
 ·rw [gout hk] at h; cases h
def mix (n k:Nat) (f g:Nat → Bool):List Bool:=(List.range n).map fun i=>if i < k then f i else g i
theorem mix_set {n k:Nat} {f g:Nat → Bool} (h : k < n):(mix n k f g).set k (f k)=mix n (k+1) f g:=by
 apply List.ext_getElem (by simp [mix])
 intro i h1 h2
 rw [List.getElem_set]
 simp only [mix,List.getElem_map,List.getElem_range]
 split
 ·rename_i e; subst e; rw [if_pos (by omega)]
 ·by_cases hi : i < k
  ·rw [if_pos hi,if_pos (by omega)]
  ·rw [if_neg hi,if_neg (by omega)]
end Go.Proofs.YtcmnjaccapbhfaaGreat
